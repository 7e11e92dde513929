/- What the law PlaceApart needs of the seat's contracts and plain laws, several texts one behind the other; no conditions. -/
import Derived.Test.YtkbcjagkacijnaaRows
import Derived.KernelRfl
import Derived.JoinedOf
import Derived.Test.YtkbcjagkacijnaaProg
import Derived.Below
import Derived.Deep.Draws
import Derived.Deep.AppendLies
import Derived.Maps.AppendAt
import Derived.OwnWalk
import Derived.Laws.BytesArg
import Derived.Laws.MakeOwn
import Derived.Laws.OwnMore
import Derived.Deep.OwnRows
import Derived.Tactics
import Derived.Lib.ConvBytes
import Derived.Laws.Slices
import Derived.WalkKit
import Derived.RowKit3
import Derived.Deep.LoopGhost
import Derived.Deep.QuietTactic
import Derived.BigQuiet
import Derived.WideLaws
import Derived.Deep.DeepCutAuto
import Derived.Deep.CutBlock
import Derived.Deep.RegionHeld3
import Derived.Laws.Rows
import Derived.Lib.AppendStr
import Derived.ArgAppend
import Derived.Laws.IdiomCopy
import Derived.OrdersHeld
import Derived.Laws.BitsLemmas
import Derived.RowKit
import Derived.Test.YtkbcjagkacijnaaWWords
import Derived.Test.YtkbcjagkacijnaaWLast
import Derived.Test.YtkbcjagkacijnaaWTab
import Derived.Test.YtkbcjagkacijnaaWFour
import Derived.Test.YtkbcjagkacijnaaWQPut
import Derived.Test.YtkbcjagkacijnaaWApart
import Derived.Test.YtkbcjagkacijnaaWArr
import Derived.Test.YtkbcjagkacijnaaWZeros
import Derived.Test.YtkbcjagkacijnaaWFoot
import Derived.Test.YtkbcjagkacijnaaWKept
import Derived.Test.YtkbcjagkacijnaaWShare
import Derived.Test.YtkbcjagkacijnaaWN
import Derived.Test.YtkbcjagkacijnaaWFootNe
import Derived.Test.YtkbcjagkacijnaaWAt
import Derived.Test.YtkbcjagkacijnaaWEqStruct
import Derived.Test.YtkbcjagkacijnaaWRepsOne
import Derived.Test.YtkbcjagkacijnaaWInv
import Derived.Test.YtkbcjagkacijnaaWInvWords
import Derived.Test.YtkbcjagkacijnaaWGuard
import Derived.Test.YtkbcjagkacijnaaWNEv
import Derived.Test.YtkbcjagkacijnaaWMore
import Derived.RangeFuncNested
import Derived.RangeFuncBound
import Derived.RangeFuncCalls
import Derived.RangeFuncLeaves
import Derived.Shelf.Abstract
import Derived.Shelf.RegionOpen
import Derived.OwnWalkIn
import Derived.TacticsInMore
import Derived.LoopNIn
import Derived.LoopIn
import Derived.Lib.Hide
import Derived.Maps.OwnOps
import Derived.Maps.OwnSet
import Derived.Maps.Views
import Derived.LoopTactic
import Derived.IntWalk
import Derived.RangeFuncBox
import Derived.RangeFuncWrites
import Derived.Scope
import Derived.WalkMore
section
namespace Go.Proofs.Ytkbcjagkacijnaa.Facts
set_option maxRecDepth 100000
set_option linter.unusedSimpArgs false
def signs : List Char := [Char.ofNat 104, Char.ofNat 97, Char.ofNat 114, Char.ofNat 110, Char.ofNat 101, Char.ofNat 115, Char.ofNat 115, Char.ofNat 32, Char.ofNat 102, Char.ofNat 100, Char.ofNat 100, Char.ofNat 100, Char.ofNat 49, Char.ofNat 97, Char.ofNat 50, Char.ofNat 52, Char.ofNat 50, Char.ofNat 97, Char.ofNat 98, Char.ofNat 54, Char.ofNat 48, Char.ofNat 99, Char.ofNat 97, Char.ofNat 51, Char.ofNat 101, Char.ofNat 49, Char.ofNat 102, Char.ofNat 55, Char.ofNat 50, Char.ofNat 57, Char.ofNat 48, Char.ofNat 52, Char.ofNat 97, Char.ofNat 56, Char.ofNat 57, Char.ofNat 101, Char.ofNat 53, Char.ofNat 100, Char.ofNat 101, Char.ofNat 52, Char.ofNat 57, Char.ofNat 56, Char.ofNat 102, Char.ofNat 57, Char.ofNat 98, Char.ofNat 56, Char.ofNat 52, Char.ofNat 56, Char.ofNat 97, Char.ofNat 98, Char.ofNat 100, Char.ofNat 100, Char.ofNat 97, Char.ofNat 54, Char.ofNat 50, Char.ofNat 98, Char.ofNat 101, Char.ofNat 99, Char.ofNat 57, Char.ofNat 51, Char.ofNat 53, Char.ofNat 54, Char.ofNat 53, Char.ofNat 50, Char.ofNat 97, Char.ofNat 54, Char.ofNat 101, Char.ofNat 100, Char.ofNat 49, Char.ofNat 48, Char.ofNat 57, Char.ofNat 99, Char.ofNat 32, Char.ofNat 99, Char.ofNat 117, Char.ofNat 116, Char.ofNat 32, Char.ofNat 97, Char.ofNat 116, Char.ofNat 32, Char.ofNat 102, Char.ofNat 117, Char.ofNat 114, Char.ofNat 108, Char.ofNat 111, Char.ofNat 110, Char.ofNat 103, Char.ofNat 47, Char.ofNat 102, Char.ofNat 117, Char.ofNat 114, Char.ofNat 108, Char.ofNat 111, Char.ofNat 110, Char.ofNat 103, Char.ofNat 108, Char.ofNat 97, Char.ofNat 119, Char.ofNat 48, Char.ofNat 55, Char.ofNat 46, Char.ofNat 80, Char.ofNat 108, Char.ofNat 97, Char.ofNat 99, Char.ofNat 101, Char.ofNat 70, Char.ofNat 105, Char.ofNat 110, Char.ofNat 100, Char.ofNat 115, Char.ofNat 32, Char.ofNat 102, Char.ofNat 117, Char.ofNat 114, Char.ofNat 108, Char.ofNat 111, Char.ofNat 110, Char.ofNat 103, Char.ofNat 47, Char.ofNat 102, Char.ofNat 117, Char.ofNat 114, Char.ofNat 108, Char.ofNat 111, Char.ofNat 110, Char.ofNat 103, Char.ofNat 108, Char.ofNat 97, Char.ofNat 119, Char.ofNat 48, Char.ofNat 50, Char.ofNat 46, Char.ofNat 86, Char.ofNat 101, Char.ofNat 99, Char.ofNat 83, Char.ofNat 104, Char.ofNat 97, Char.ofNat 114, Char.ofNat 101, Char.ofNat 115, Char.ofNat 32, Char.ofNat 102, Char.ofNat 117, Char.ofNat 114, Char.ofNat 108, Char.ofNat 111, Char.ofNat 110, Char.ofNat 103, Char.ofNat 47, Char.ofNat 102, Char.ofNat 117, Char.ofNat 114, Char.ofNat 108, Char.ofNat 111, Char.ofNat 110, Char.ofNat 103, Char.ofNat 108, Char.ofNat 97, Char.ofNat 119, Char.ofNat 48, Char.ofNat 50, Char.ofNat 46, Char.ofNat 86, Char.ofNat 101, Char.ofNat 99, Char.ofNat 65, Char.ofNat 100, Char.ofNat 100, Char.ofNat 115, Char.ofNat 32, Char.ofNat 102, Char.ofNat 117, Char.ofNat 114, Char.ofNat 108, Char.ofNat 111, Char.ofNat 110, Char.ofNat 103, Char.ofNat 47, Char.ofNat 102, Char.ofNat 117, Char.ofNat 114, Char.ofNat 108, Char.ofNat 111, Char.ofNat 110, Char.ofNat 103, Char.ofNat 108, Char.ofNat 97, Char.ofNat 119, Char.ofNat 48, Char.ofNat 50, Char.ofNat 46, Char.ofNat 86, Char.ofNat 101, Char.ofNat 99, Char.ofNat 66, Char.ofNat 97, Char.ofNat 99, Char.ofNat 107, Char.ofNat 32, Char.ofNat 102, Char.ofNat 117, Char.ofNat 114, Char.ofNat 108, Char.ofNat 111, Char.ofNat 110, Char.ofNat 103, Char.ofNat 47, Char.ofNat 102, Char.ofNat 117, Char.ofNat 114, Char.ofNat 108, Char.ofNat 111, Char.ofNat 110, Char.ofNat 103, Char.ofNat 108, Char.ofNat 97, Char.ofNat 119, Char.ofNat 48, Char.ofNat 50, Char.ofNat 46, Char.ofNat 86, Char.ofNat 101, Char.ofNat 99, Char.ofNat 77, Char.ofNat 111, Char.ofNat 115, Char.ofNat 116, Char.ofNat 32, Char.ofNat 102, Char.ofNat 117, Char.ofNat 114, Char.ofNat 108, Char.ofNat 111, Char.ofNat 110, Char.ofNat 103, Char.ofNat 47, Char.ofNat 102, Char.ofNat 117, Char.ofNat 114, Char.ofNat 108, Char.ofNat 111, Char.ofNat 110, Char.ofNat 103, Char.ofNat 108, Char.ofNat 97, Char.ofNat 119, Char.ofNat 48, Char.ofNat 55, Char.ofNat 46, Char.ofNat 80, Char.ofNat 108, Char.ofNat 97, Char.ofNat 99, Char.ofNat 101, Char.ofNat 70, Char.ofNat 105, Char.ofNat 116, Char.ofNat 115, Char.ofNat 32, Char.ofNat 102, Char.ofNat 117, Char.ofNat 114, Char.ofNat 108, Char.ofNat 111, Char.ofNat 110, Char.ofNat 103, Char.ofNat 47, Char.ofNat 102, Char.ofNat 117, Char.ofNat 114, Char.ofNat 108, Char.ofNat 111, Char.ofNat 110, Char.ofNat 103, Char.ofNat 108, Char.ofNat 97, Char.ofNat 119, Char.ofNat 48, Char.ofNat 55, Char.ofNat 46, Char.ofNat 80, Char.ofNat 108, Char.ofNat 97, Char.ofNat 99, Char.ofNat 101, Char.ofNat 84, Char.ofNat 97, Char.ofNat 107, Char.ofNat 101, Char.ofNat 115, Char.ofNat 32, Char.ofNat 102, Char.ofNat 117, Char.ofNat 114, Char.ofNat 108, Char.ofNat 111, Char.ofNat 110, Char.ofNat 103, Char.ofNat 47, Char.ofNat 102, Char.ofNat 117, Char.ofNat 114, Char.ofNat 108, Char.ofNat 111, Char.ofNat 110, Char.ofNat 103, Char.ofNat 108, Char.ofNat 97, Char.ofNat 119, Char.ofNat 48, Char.ofNat 55, Char.ofNat 46, Char.ofNat 80, Char.ofNat 108, Char.ofNat 97, Char.ofNat 99, Char.ofNat 101, Char.ofNat 65, Char.ofNat 112, Char.ofNat 97, Char.ofNat 114, Char.ofNat 116, Char.ofNat 32, Char.ofNat 102, Char.ofNat 117, Char.ofNat 114, Char.ofNat 108, Char.ofNat 111, Char.ofNat 110, Char.ofNat 103, Char.ofNat 47, Char.ofNat 102, Char.ofNat 117, Char.ofNat 114, Char.ofNat 108, Char.ofNat 111, Char.ofNat 110, Char.ofNat 103, Char.ofNat 108, Char.ofNat 97, Char.ofNat 119, Char.ofNat 48, Char.ofNat 50, Char.ofNat 46, Char.ofNat 86, Char.ofNat 101, Char.ofNat 99, Char.ofNat 79, Char.ofNat 114, Char.ofNat 100, Char.ofNat 101, Char.ofNat 114, Char.ofNat 115, Char.ofNat 32, Char.ofNat 102, Char.ofNat 117, Char.ofNat 114, Char.ofNat 108, Char.ofNat 111, Char.ofNat 110, Char.ofNat 103, Char.ofNat 47, Char.ofNat 102, Char.ofNat 117, Char.ofNat 114, Char.ofNat 108, Char.ofNat 111, Char.ofNat 110, Char.ofNat 103, Char.ofNat 108, Char.ofNat 97, Char.ofNat 119, Char.ofNat 48, Char.ofNat 50, Char.ofNat 46, Char.ofNat 86, Char.ofNat 101, Char.ofNat 99, Char.ofNat 84, Char.ofNat 117, Char.ofNat 114, Char.ofNat 110, Char.ofNat 115, Char.ofNat 32, Char.ofNat 102, Char.ofNat 117, Char.ofNat 114, Char.ofNat 108, Char.ofNat 111, Char.ofNat 110, Char.ofNat 103, Char.ofNat 47, Char.ofNat 102, Char.ofNat 117, Char.ofNat 114, Char.ofNat 108, Char.ofNat 111, Char.ofNat 110, Char.ofNat 103, Char.ofNat 108, Char.ofNat 97, Char.ofNat 119, Char.ofNat 48, Char.ofNat 50, Char.ofNat 46, Char.ofNat 86, Char.ofNat 101, Char.ofNat 99, Char.ofNat 65, Char.ofNat 108, Char.ofNat 105, Char.ofNat 107, Char.ofNat 101, Char.ofNat 32, Char.ofNat 102, Char.ofNat 117, Char.ofNat 114, Char.ofNat 108, Char.ofNat 111, Char.ofNat 110, Char.ofNat 103, Char.ofNat 47, Char.ofNat 102, Char.ofNat 117, Char.ofNat 114, Char.ofNat 108, Char.ofNat 111, Char.ofNat 110, Char.ofNat 103, Char.ofNat 108, Char.ofNat 97, Char.ofNat 119, Char.ofNat 48, Char.ofNat 55, Char.ofNat 46, Char.ofNat 80, Char.ofNat 108, Char.ofNat 97, Char.ofNat 99, Char.ofNat 101, Char.ofNat 70, Char.ofNat 114, Char.ofNat 101, Char.ofNat 101, Char.ofNat 115, Char.ofNat 32, Char.ofNat 102, Char.ofNat 117, Char.ofNat 114, Char.ofNat 108, Char.ofNat 111, Char.ofNat 110, Char.ofNat 103, Char.ofNat 47, Char.ofNat 102, Char.ofNat 117, Char.ofNat 114, Char.ofNat 108, Char.ofNat 111, Char.ofNat 110, Char.ofNat 103, Char.ofNat 108, Char.ofNat 97, Char.ofNat 119, Char.ofNat 48, Char.ofNat 55, Char.ofNat 46, Char.ofNat 80, Char.ofNat 108, Char.ofNat 97, Char.ofNat 99, Char.ofNat 101, Char.ofNat 65, Char.ofNat 108, Char.ofNat 108, Char.ofNat 32, Char.ofNat 102, Char.ofNat 117, Char.ofNat 114, Char.ofNat 108, Char.ofNat 111, Char.ofNat 110, Char.ofNat 103, Char.ofNat 47, Char.ofNat 102, Char.ofNat 117, Char.ofNat 114, Char.ofNat 108, Char.ofNat 111, Char.ofNat 110, Char.ofNat 103, Char.ofNat 108, Char.ofNat 97, Char.ofNat 119, Char.ofNat 48, Char.ofNat 49, Char.ofNat 46, Char.ofNat 78, Char.ofNat 117, Char.ofNat 109, Char.ofNat 68, Char.ofNat 105, Char.ofNat 118, Char.ofNat 105, Char.ofNat 100, Char.ofNat 101, Char.ofNat 115, Char.ofNat 32, Char.ofNat 102, Char.ofNat 117, Char.ofNat 114, Char.ofNat 108, Char.ofNat 111, Char.ofNat 110, Char.ofNat 103, Char.ofNat 47, Char.ofNat 102, Char.ofNat 117, Char.ofNat 114, Char.ofNat 108, Char.ofNat 111, Char.ofNat 110, Char.ofNat 103, Char.ofNat 108, Char.ofNat 97, Char.ofNat 119, Char.ofNat 48, Char.ofNat 49, Char.ofNat 46, Char.ofNat 78, Char.ofNat 117, Char.ofNat 109, Char.ofNat 71, Char.ofNat 99, Char.ofNat 100, Char.ofNat 115, Char.ofNat 32, Char.ofNat 102, Char.ofNat 117, Char.ofNat 114, Char.ofNat 108, Char.ofNat 111, Char.ofNat 110, Char.ofNat 103, Char.ofNat 47, Char.ofNat 102, Char.ofNat 117, Char.ofNat 114, Char.ofNat 108, Char.ofNat 111, Char.ofNat 110, Char.ofNat 103, Char.ofNat 108, Char.ofNat 97, Char.ofNat 119, Char.ofNat 48, Char.ofNat 49, Char.ofNat 46, Char.ofNat 78, Char.ofNat 117, Char.ofNat 109, Char.ofNat 70, Char.ofNat 108, Char.ofNat 111, Char.ofNat 111, Char.ofNat 114, Char.ofNat 32, Char.ofNat 102, Char.ofNat 117, Char.ofNat 114, Char.ofNat 108, Char.ofNat 111, Char.ofNat 110, Char.ofNat 103, Char.ofNat 47, Char.ofNat 102, Char.ofNat 117, Char.ofNat 114, Char.ofNat 108, Char.ofNat 111, Char.ofNat 110, Char.ofNat 103, Char.ofNat 108, Char.ofNat 97, Char.ofNat 119, Char.ofNat 48, Char.ofNat 49, Char.ofNat 46, Char.ofNat 78, Char.ofNat 117, Char.ofNat 109, Char.ofNat 79, Char.ofNat 114, Char.ofNat 100, Char.ofNat 101, Char.ofNat 114, Char.ofNat 32, Char.ofNat 102, Char.ofNat 117, Char.ofNat 114, Char.ofNat 108, Char.ofNat 111, Char.ofNat 110, Char.ofNat 103, Char.ofNat 47, Char.ofNat 102, Char.ofNat 117, Char.ofNat 114, Char.ofNat 108, Char.ofNat 111, Char.ofNat 110, Char.ofNat 103, Char.ofNat 108, Char.ofNat 97, Char.ofNat 119, Char.ofNat 48, Char.ofNat 49, Char.ofNat 46, Char.ofNat 78, Char.ofNat 117, Char.ofNat 109, Char.ofNat 80, Char.ofNat 97, Char.ofNat 114, Char.ofNat 116, Char.ofNat 115, Char.ofNat 32, Char.ofNat 102, Char.ofNat 117, Char.ofNat 114, Char.ofNat 108, Char.ofNat 111, Char.ofNat 110, Char.ofNat 103, Char.ofNat 47, Char.ofNat 102, Char.ofNat 117, Char.ofNat 114, Char.ofNat 108, Char.ofNat 111, Char.ofNat 110, Char.ofNat 103, Char.ofNat 108, Char.ofNat 97, Char.ofNat 119, Char.ofNat 48, Char.ofNat 49, Char.ofNat 46, Char.ofNat 78, Char.ofNat 117, Char.ofNat 109, Char.ofNat 65, Char.ofNat 100, Char.ofNat 100, Char.ofNat 115, Char.ofNat 32, Char.ofNat 102, Char.ofNat 117, Char.ofNat 114, Char.ofNat 108, Char.ofNat 111, Char.ofNat 110, Char.ofNat 103, Char.ofNat 47, Char.ofNat 102, Char.ofNat 117, Char.ofNat 114, Char.ofNat 108, Char.ofNat 111, Char.ofNat 110, Char.ofNat 103, Char.ofNat 108, Char.ofNat 97, Char.ofNat 119, Char.ofNat 48, Char.ofNat 49, Char.ofNat 46, Char.ofNat 78, Char.ofNat 117, Char.ofNat 109, Char.ofNat 82, Char.ofNat 105, Char.ofNat 110, Char.ofNat 103, Char.ofNat 115, Char.ofNat 32, Char.ofNat 102, Char.ofNat 117, Char.ofNat 114, Char.ofNat 108, Char.ofNat 111, Char.ofNat 110, Char.ofNat 103, Char.ofNat 47, Char.ofNat 102, Char.ofNat 117, Char.ofNat 114, Char.ofNat 108, Char.ofNat 111, Char.ofNat 110, Char.ofNat 103, Char.ofNat 108, Char.ofNat 97, Char.ofNat 119, Char.ofNat 48, Char.ofNat 52, Char.ofNat 46, Char.ofNat 67, Char.ofNat 108, Char.ofNat 111, Char.ofNat 99, Char.ofNat 107, Char.ofNat 76, Char.ofNat 101, Char.ofNat 110, Char.ofNat 115, Char.ofNat 32, Char.ofNat 102, Char.ofNat 117, Char.ofNat 114, Char.ofNat 108, Char.ofNat 111, Char.ofNat 110, Char.ofNat 103, Char.ofNat 47, Char.ofNat 102, Char.ofNat 117, Char.ofNat 114, Char.ofNat 108, Char.ofNat 111, Char.ofNat 110, Char.ofNat 103, Char.ofNat 108, Char.ofNat 97, Char.ofNat 119, Char.ofNat 48, Char.ofNat 52, Char.ofNat 46, Char.ofNat 67, Char.ofNat 108, Char.ofNat 111, Char.ofNat 99, Char.ofNat 107, Char.ofNat 87, Char.ofNat 105, Char.ofNat 116, Char.ofNat 104, Char.ofNat 105, Char.ofNat 110, Char.ofNat 32, Char.ofNat 102, Char.ofNat 117, Char.ofNat 114, Char.ofNat 108, Char.ofNat 111, Char.ofNat 110, Char.ofNat 103, Char.ofNat 47, Char.ofNat 102, Char.ofNat 117, Char.ofNat 114, Char.ofNat 108, Char.ofNat 111, Char.ofNat 110, Char.ofNat 103, Char.ofNat 108, Char.ofNat 97, Char.ofNat 119, Char.ofNat 48, Char.ofNat 52, Char.ofNat 46, Char.ofNat 67, Char.ofNat 108, Char.ofNat 111, Char.ofNat 99, Char.ofNat 107, Char.ofNat 71, Char.ofNat 114, Char.ofNat 101, Char.ofNat 97, Char.ofNat 116, Char.ofNat 101, Char.ofNat 115, Char.ofNat 116, Char.ofNat 32, Char.ofNat 102, Char.ofNat 117, Char.ofNat 114, Char.ofNat 108, Char.ofNat 111, Char.ofNat 110, Char.ofNat 103, Char.ofNat 47, Char.ofNat 102, Char.ofNat 117, Char.ofNat 114, Char.ofNat 108, Char.ofNat 111, Char.ofNat 110, Char.ofNat 103, Char.ofNat 108, Char.ofNat 97, Char.ofNat 119, Char.ofNat 48, Char.ofNat 52, Char.ofNat 46, Char.ofNat 67, Char.ofNat 108, Char.ofNat 111, Char.ofNat 99, Char.ofNat 107, Char.ofNat 79, Char.ofNat 110, Char.ofNat 101, Char.ofNat 32, Char.ofNat 102, Char.ofNat 117, Char.ofNat 114, Char.ofNat 108, Char.ofNat 111, Char.ofNat 110, Char.ofNat 103, Char.ofNat 47, Char.ofNat 102, Char.ofNat 117, Char.ofNat 114, Char.ofNat 108, Char.ofNat 111, Char.ofNat 110, Char.ofNat 103, Char.ofNat 108, Char.ofNat 97, Char.ofNat 119, Char.ofNat 48, Char.ofNat 52, Char.ofNat 46, Char.ofNat 67, Char.ofNat 108, Char.ofNat 111, Char.ofNat 99, Char.ofNat 107, Char.ofNat 83, Char.ofNat 116, Char.ofNat 101, Char.ofNat 97, Char.ofNat 100, Char.ofNat 121, Char.ofNat 32, Char.ofNat 102, Char.ofNat 117, Char.ofNat 114, Char.ofNat 108, Char.ofNat 111, Char.ofNat 110, Char.ofNat 103, Char.ofNat 47, Char.ofNat 102, Char.ofNat 117, Char.ofNat 114, Char.ofNat 108, Char.ofNat 111, Char.ofNat 110, Char.ofNat 103, Char.ofNat 108, Char.ofNat 97, Char.ofNat 119, Char.ofNat 48, Char.ofNat 52, Char.ofNat 46, Char.ofNat 67, Char.ofNat 108, Char.ofNat 111, Char.ofNat 99, Char.ofNat 107, Char.ofNat 72, Char.ofNat 111, Char.ofNat 108, Char.ofNat 100, Char.ofNat 115, Char.ofNat 32, Char.ofNat 102, Char.ofNat 117, Char.ofNat 114, Char.ofNat 108, Char.ofNat 111, Char.ofNat 110, Char.ofNat 103, Char.ofNat 47, Char.ofNat 102, Char.ofNat 117, Char.ofNat 114, Char.ofNat 108, Char.ofNat 111, Char.ofNat 110, Char.ofNat 103, Char.ofNat 108, Char.ofNat 97, Char.ofNat 119, Char.ofNat 48, Char.ofNat 49, Char.ofNat 46, Char.ofNat 78, Char.ofNat 117, Char.ofNat 109, Char.ofNat 83, Char.ofNat 117, Char.ofNat 109, Char.ofNat 115, Char.ofNat 32, Char.ofNat 102, Char.ofNat 117, Char.ofNat 114, Char.ofNat 108, Char.ofNat 111, Char.ofNat 110, Char.ofNat 103, Char.ofNat 47, Char.ofNat 102, Char.ofNat 117, Char.ofNat 114, Char.ofNat 108, Char.ofNat 111, Char.ofNat 110, Char.ofNat 103, Char.ofNat 108, Char.ofNat 97, Char.ofNat 119, Char.ofNat 48, Char.ofNat 49, Char.ofNat 46, Char.ofNat 78, Char.ofNat 117, Char.ofNat 109, Char.ofNat 84, Char.ofNat 111, Char.ofNat 103, Char.ofNat 101, Char.ofNat 116, Char.ofNat 104, Char.ofNat 101, Char.ofNat 114]
def rest : List (List Char) := [[Char.ofNat 97, Char.ofNat 116], [Char.ofNat 102, Char.ofNat 117, Char.ofNat 114, Char.ofNat 108, Char.ofNat 111, Char.ofNat 110, Char.ofNat 103, Char.ofNat 47, Char.ofNat 102, Char.ofNat 117, Char.ofNat 114, Char.ofNat 108, Char.ofNat 111, Char.ofNat 110, Char.ofNat 103, Char.ofNat 108, Char.ofNat 97, Char.ofNat 119, Char.ofNat 48, Char.ofNat 55, Char.ofNat 46, Char.ofNat 80, Char.ofNat 108, Char.ofNat 97, Char.ofNat 99, Char.ofNat 101, Char.ofNat 70, Char.ofNat 105, Char.ofNat 110, Char.ofNat 100, Char.ofNat 115], [Char.ofNat 102, Char.ofNat 117, Char.ofNat 114, Char.ofNat 108, Char.ofNat 111, Char.ofNat 110, Char.ofNat 103, Char.ofNat 47, Char.ofNat 102, Char.ofNat 117, Char.ofNat 114, Char.ofNat 108, Char.ofNat 111, Char.ofNat 110, Char.ofNat 103, Char.ofNat 108, Char.ofNat 97, Char.ofNat 119, Char.ofNat 48, Char.ofNat 50, Char.ofNat 46, Char.ofNat 86, Char.ofNat 101, Char.ofNat 99, Char.ofNat 83, Char.ofNat 104, Char.ofNat 97, Char.ofNat 114, Char.ofNat 101, Char.ofNat 115], [Char.ofNat 102, Char.ofNat 117, Char.ofNat 114, Char.ofNat 108, Char.ofNat 111, Char.ofNat 110, Char.ofNat 103, Char.ofNat 47, Char.ofNat 102, Char.ofNat 117, Char.ofNat 114, Char.ofNat 108, Char.ofNat 111, Char.ofNat 110, Char.ofNat 103, Char.ofNat 108, Char.ofNat 97, Char.ofNat 119, Char.ofNat 48, Char.ofNat 50, Char.ofNat 46, Char.ofNat 86, Char.ofNat 101, Char.ofNat 99, Char.ofNat 65, Char.ofNat 100, Char.ofNat 100, Char.ofNat 115], [Char.ofNat 102, Char.ofNat 117, Char.ofNat 114, Char.ofNat 108, Char.ofNat 111, Char.ofNat 110, Char.ofNat 103, Char.ofNat 47, Char.ofNat 102, Char.ofNat 117, Char.ofNat 114, Char.ofNat 108, Char.ofNat 111, Char.ofNat 110, Char.ofNat 103, Char.ofNat 108, Char.ofNat 97, Char.ofNat 119, Char.ofNat 48, Char.ofNat 50, Char.ofNat 46, Char.ofNat 86, Char.ofNat 101, Char.ofNat 99, Char.ofNat 66, Char.ofNat 97, Char.ofNat 99, Char.ofNat 107], [Char.ofNat 102, Char.ofNat 117, Char.ofNat 114, Char.ofNat 108, Char.ofNat 111, Char.ofNat 110, Char.ofNat 103, Char.ofNat 47, Char.ofNat 102, Char.ofNat 117, Char.ofNat 114, Char.ofNat 108, Char.ofNat 111, Char.ofNat 110, Char.ofNat 103, Char.ofNat 108, Char.ofNat 97, Char.ofNat 119, Char.ofNat 48, Char.ofNat 50, Char.ofNat 46, Char.ofNat 86, Char.ofNat 101, Char.ofNat 99, Char.ofNat 77, Char.ofNat 111, Char.ofNat 115, Char.ofNat 116], [Char.ofNat 102, Char.ofNat 117, Char.ofNat 114, Char.ofNat 108, Char.ofNat 111, Char.ofNat 110, Char.ofNat 103, Char.ofNat 47, Char.ofNat 102, Char.ofNat 117, Char.ofNat 114, Char.ofNat 108, Char.ofNat 111, Char.ofNat 110, Char.ofNat 103, Char.ofNat 108, Char.ofNat 97, Char.ofNat 119, Char.ofNat 48, Char.ofNat 55, Char.ofNat 46, Char.ofNat 80, Char.ofNat 108, Char.ofNat 97, Char.ofNat 99, Char.ofNat 101, Char.ofNat 70, Char.ofNat 105, Char.ofNat 116, Char.ofNat 115], [Char.ofNat 102, Char.ofNat 117, Char.ofNat 114, Char.ofNat 108, Char.ofNat 111, Char.ofNat 110, Char.ofNat 103, Char.ofNat 47, Char.ofNat 102, Char.ofNat 117, Char.ofNat 114, Char.ofNat 108, Char.ofNat 111, Char.ofNat 110, Char.ofNat 103, Char.ofNat 108, Char.ofNat 97, Char.ofNat 119, Char.ofNat 48, Char.ofNat 55, Char.ofNat 46, Char.ofNat 80, Char.ofNat 108, Char.ofNat 97, Char.ofNat 99, Char.ofNat 101, Char.ofNat 84, Char.ofNat 97, Char.ofNat 107, Char.ofNat 101, Char.ofNat 115], [Char.ofNat 102, Char.ofNat 117, Char.ofNat 114, Char.ofNat 108, Char.ofNat 111, Char.ofNat 110, Char.ofNat 103, Char.ofNat 47, Char.ofNat 102, Char.ofNat 117, Char.ofNat 114, Char.ofNat 108, Char.ofNat 111, Char.ofNat 110, Char.ofNat 103, Char.ofNat 108, Char.ofNat 97, Char.ofNat 119, Char.ofNat 48, Char.ofNat 55, Char.ofNat 46, Char.ofNat 80, Char.ofNat 108, Char.ofNat 97, Char.ofNat 99, Char.ofNat 101, Char.ofNat 65, Char.ofNat 112, Char.ofNat 97, Char.ofNat 114, Char.ofNat 116], [Char.ofNat 102, Char.ofNat 117, Char.ofNat 114, Char.ofNat 108, Char.ofNat 111, Char.ofNat 110, Char.ofNat 103, Char.ofNat 47, Char.ofNat 102, Char.ofNat 117, Char.ofNat 114, Char.ofNat 108, Char.ofNat 111, Char.ofNat 110, Char.ofNat 103, Char.ofNat 108, Char.ofNat 97, Char.ofNat 119, Char.ofNat 48, Char.ofNat 50, Char.ofNat 46, Char.ofNat 86, Char.ofNat 101, Char.ofNat 99, Char.ofNat 79, Char.ofNat 114, Char.ofNat 100, Char.ofNat 101, Char.ofNat 114, Char.ofNat 115], [Char.ofNat 102, Char.ofNat 117, Char.ofNat 114, Char.ofNat 108, Char.ofNat 111, Char.ofNat 110, Char.ofNat 103, Char.ofNat 47, Char.ofNat 102, Char.ofNat 117, Char.ofNat 114, Char.ofNat 108, Char.ofNat 111, Char.ofNat 110, Char.ofNat 103, Char.ofNat 108, Char.ofNat 97, Char.ofNat 119, Char.ofNat 48, Char.ofNat 50, Char.ofNat 46, Char.ofNat 86, Char.ofNat 101, Char.ofNat 99, Char.ofNat 84, Char.ofNat 117, Char.ofNat 114, Char.ofNat 110, Char.ofNat 115], [Char.ofNat 102, Char.ofNat 117, Char.ofNat 114, Char.ofNat 108, Char.ofNat 111, Char.ofNat 110, Char.ofNat 103, Char.ofNat 47, Char.ofNat 102, Char.ofNat 117, Char.ofNat 114, Char.ofNat 108, Char.ofNat 111, Char.ofNat 110, Char.ofNat 103, Char.ofNat 108, Char.ofNat 97, Char.ofNat 119, Char.ofNat 48, Char.ofNat 50, Char.ofNat 46, Char.ofNat 86, Char.ofNat 101, Char.ofNat 99, Char.ofNat 65, Char.ofNat 108, Char.ofNat 105, Char.ofNat 107, Char.ofNat 101], [Char.ofNat 102, Char.ofNat 117, Char.ofNat 114, Char.ofNat 108, Char.ofNat 111, Char.ofNat 110, Char.ofNat 103, Char.ofNat 47, Char.ofNat 102, Char.ofNat 117, Char.ofNat 114, Char.ofNat 108, Char.ofNat 111, Char.ofNat 110, Char.ofNat 103, Char.ofNat 108, Char.ofNat 97, Char.ofNat 119, Char.ofNat 48, Char.ofNat 55, Char.ofNat 46, Char.ofNat 80, Char.ofNat 108, Char.ofNat 97, Char.ofNat 99, Char.ofNat 101, Char.ofNat 70, Char.ofNat 114, Char.ofNat 101, Char.ofNat 101, Char.ofNat 115], [Char.ofNat 102, Char.ofNat 117, Char.ofNat 114, Char.ofNat 108, Char.ofNat 111, Char.ofNat 110, Char.ofNat 103, Char.ofNat 47, Char.ofNat 102, Char.ofNat 117, Char.ofNat 114, Char.ofNat 108, Char.ofNat 111, Char.ofNat 110, Char.ofNat 103, Char.ofNat 108, Char.ofNat 97, Char.ofNat 119, Char.ofNat 48, Char.ofNat 55, Char.ofNat 46, Char.ofNat 80, Char.ofNat 108, Char.ofNat 97, Char.ofNat 99, Char.ofNat 101, Char.ofNat 65, Char.ofNat 108, Char.ofNat 108], [Char.ofNat 102, Char.ofNat 117, Char.ofNat 114, Char.ofNat 108, Char.ofNat 111, Char.ofNat 110, Char.ofNat 103, Char.ofNat 47, Char.ofNat 102, Char.ofNat 117, Char.ofNat 114, Char.ofNat 108, Char.ofNat 111, Char.ofNat 110, Char.ofNat 103, Char.ofNat 108, Char.ofNat 97, Char.ofNat 119, Char.ofNat 48, Char.ofNat 49, Char.ofNat 46, Char.ofNat 78, Char.ofNat 117, Char.ofNat 109, Char.ofNat 68, Char.ofNat 105, Char.ofNat 118, Char.ofNat 105, Char.ofNat 100, Char.ofNat 101, Char.ofNat 115], [Char.ofNat 102, Char.ofNat 117, Char.ofNat 114, Char.ofNat 108, Char.ofNat 111, Char.ofNat 110, Char.ofNat 103, Char.ofNat 47, Char.ofNat 102, Char.ofNat 117, Char.ofNat 114, Char.ofNat 108, Char.ofNat 111, Char.ofNat 110, Char.ofNat 103, Char.ofNat 108, Char.ofNat 97, Char.ofNat 119, Char.ofNat 48, Char.ofNat 49, Char.ofNat 46, Char.ofNat 78, Char.ofNat 117, Char.ofNat 109, Char.ofNat 71, Char.ofNat 99, Char.ofNat 100, Char.ofNat 115], [Char.ofNat 102, Char.ofNat 117, Char.ofNat 114, Char.ofNat 108, Char.ofNat 111, Char.ofNat 110, Char.ofNat 103, Char.ofNat 47, Char.ofNat 102, Char.ofNat 117, Char.ofNat 114, Char.ofNat 108, Char.ofNat 111, Char.ofNat 110, Char.ofNat 103, Char.ofNat 108, Char.ofNat 97, Char.ofNat 119, Char.ofNat 48, Char.ofNat 49, Char.ofNat 46, Char.ofNat 78, Char.ofNat 117, Char.ofNat 109, Char.ofNat 70, Char.ofNat 108, Char.ofNat 111, Char.ofNat 111, Char.ofNat 114], [Char.ofNat 102, Char.ofNat 117, Char.ofNat 114, Char.ofNat 108, Char.ofNat 111, Char.ofNat 110, Char.ofNat 103, Char.ofNat 47, Char.ofNat 102, Char.ofNat 117, Char.ofNat 114, Char.ofNat 108, Char.ofNat 111, Char.ofNat 110, Char.ofNat 103, Char.ofNat 108, Char.ofNat 97, Char.ofNat 119, Char.ofNat 48, Char.ofNat 49, Char.ofNat 46, Char.ofNat 78, Char.ofNat 117, Char.ofNat 109, Char.ofNat 79, Char.ofNat 114, Char.ofNat 100, Char.ofNat 101, Char.ofNat 114], [Char.ofNat 102, Char.ofNat 117, Char.ofNat 114, Char.ofNat 108, Char.ofNat 111, Char.ofNat 110, Char.ofNat 103, Char.ofNat 47, Char.ofNat 102, Char.ofNat 117, Char.ofNat 114, Char.ofNat 108, Char.ofNat 111, Char.ofNat 110, Char.ofNat 103, Char.ofNat 108, Char.ofNat 97, Char.ofNat 119, Char.ofNat 48, Char.ofNat 49, Char.ofNat 46, Char.ofNat 78, Char.ofNat 117, Char.ofNat 109, Char.ofNat 80, Char.ofNat 97, Char.ofNat 114, Char.ofNat 116, Char.ofNat 115], [Char.ofNat 102, Char.ofNat 117, Char.ofNat 114, Char.ofNat 108, Char.ofNat 111, Char.ofNat 110, Char.ofNat 103, Char.ofNat 47, Char.ofNat 102, Char.ofNat 117, Char.ofNat 114, Char.ofNat 108, Char.ofNat 111, Char.ofNat 110, Char.ofNat 103, Char.ofNat 108, Char.ofNat 97, Char.ofNat 119, Char.ofNat 48, Char.ofNat 49, Char.ofNat 46, Char.ofNat 78, Char.ofNat 117, Char.ofNat 109, Char.ofNat 65, Char.ofNat 100, Char.ofNat 100, Char.ofNat 115], [Char.ofNat 102, Char.ofNat 117, Char.ofNat 114, Char.ofNat 108, Char.ofNat 111, Char.ofNat 110, Char.ofNat 103, Char.ofNat 47, Char.ofNat 102, Char.ofNat 117, Char.ofNat 114, Char.ofNat 108, Char.ofNat 111, Char.ofNat 110, Char.ofNat 103, Char.ofNat 108, Char.ofNat 97, Char.ofNat 119, Char.ofNat 48, Char.ofNat 49, Char.ofNat 46, Char.ofNat 78, Char.ofNat 117, Char.ofNat 109, Char.ofNat 82, Char.ofNat 105, Char.ofNat 110, Char.ofNat 103, Char.ofNat 115], [Char.ofNat 102, Char.ofNat 117, Char.ofNat 114, Char.ofNat 108, Char.ofNat 111, Char.ofNat 110, Char.ofNat 103, Char.ofNat 47, Char.ofNat 102, Char.ofNat 117, Char.ofNat 114, Char.ofNat 108, Char.ofNat 111, Char.ofNat 110, Char.ofNat 103, Char.ofNat 108, Char.ofNat 97, Char.ofNat 119, Char.ofNat 48, Char.ofNat 52, Char.ofNat 46, Char.ofNat 67, Char.ofNat 108, Char.ofNat 111, Char.ofNat 99, Char.ofNat 107, Char.ofNat 76, Char.ofNat 101, Char.ofNat 110, Char.ofNat 115], [Char.ofNat 102, Char.ofNat 117, Char.ofNat 114, Char.ofNat 108, Char.ofNat 111, Char.ofNat 110, Char.ofNat 103, Char.ofNat 47, Char.ofNat 102, Char.ofNat 117, Char.ofNat 114, Char.ofNat 108, Char.ofNat 111, Char.ofNat 110, Char.ofNat 103, Char.ofNat 108, Char.ofNat 97, Char.ofNat 119, Char.ofNat 48, Char.ofNat 52, Char.ofNat 46, Char.ofNat 67, Char.ofNat 108, Char.ofNat 111, Char.ofNat 99, Char.ofNat 107, Char.ofNat 87, Char.ofNat 105, Char.ofNat 116, Char.ofNat 104, Char.ofNat 105, Char.ofNat 110], [Char.ofNat 102, Char.ofNat 117, Char.ofNat 114, Char.ofNat 108, Char.ofNat 111, Char.ofNat 110, Char.ofNat 103, Char.ofNat 47, Char.ofNat 102, Char.ofNat 117, Char.ofNat 114, Char.ofNat 108, Char.ofNat 111, Char.ofNat 110, Char.ofNat 103, Char.ofNat 108, Char.ofNat 97, Char.ofNat 119, Char.ofNat 48, Char.ofNat 52, Char.ofNat 46, Char.ofNat 67, Char.ofNat 108, Char.ofNat 111, Char.ofNat 99, Char.ofNat 107, Char.ofNat 71, Char.ofNat 114, Char.ofNat 101, Char.ofNat 97, Char.ofNat 116, Char.ofNat 101, Char.ofNat 115, Char.ofNat 116], [Char.ofNat 102, Char.ofNat 117, Char.ofNat 114, Char.ofNat 108, Char.ofNat 111, Char.ofNat 110, Char.ofNat 103, Char.ofNat 47, Char.ofNat 102, Char.ofNat 117, Char.ofNat 114, Char.ofNat 108, Char.ofNat 111, Char.ofNat 110, Char.ofNat 103, Char.ofNat 108, Char.ofNat 97, Char.ofNat 119, Char.ofNat 48, Char.ofNat 52, Char.ofNat 46, Char.ofNat 67, Char.ofNat 108, Char.ofNat 111, Char.ofNat 99, Char.ofNat 107, Char.ofNat 79, Char.ofNat 110, Char.ofNat 101], [Char.ofNat 102, Char.ofNat 117, Char.ofNat 114, Char.ofNat 108, Char.ofNat 111, Char.ofNat 110, Char.ofNat 103, Char.ofNat 47, Char.ofNat 102, Char.ofNat 117, Char.ofNat 114, Char.ofNat 108, Char.ofNat 111, Char.ofNat 110, Char.ofNat 103, Char.ofNat 108, Char.ofNat 97, Char.ofNat 119, Char.ofNat 48, Char.ofNat 52, Char.ofNat 46, Char.ofNat 67, Char.ofNat 108, Char.ofNat 111, Char.ofNat 99, Char.ofNat 107, Char.ofNat 83, Char.ofNat 116, Char.ofNat 101, Char.ofNat 97, Char.ofNat 100, Char.ofNat 121], [Char.ofNat 102, Char.ofNat 117, Char.ofNat 114, Char.ofNat 108, Char.ofNat 111, Char.ofNat 110, Char.ofNat 103, Char.ofNat 47, Char.ofNat 102, Char.ofNat 117, Char.ofNat 114, Char.ofNat 108, Char.ofNat 111, Char.ofNat 110, Char.ofNat 103, Char.ofNat 108, Char.ofNat 97, Char.ofNat 119, Char.ofNat 48, Char.ofNat 52, Char.ofNat 46, Char.ofNat 67, Char.ofNat 108, Char.ofNat 111, Char.ofNat 99, Char.ofNat 107, Char.ofNat 72, Char.ofNat 111, Char.ofNat 108, Char.ofNat 100, Char.ofNat 115], [Char.ofNat 102, Char.ofNat 117, Char.ofNat 114, Char.ofNat 108, Char.ofNat 111, Char.ofNat 110, Char.ofNat 103, Char.ofNat 47, Char.ofNat 102, Char.ofNat 117, Char.ofNat 114, Char.ofNat 108, Char.ofNat 111, Char.ofNat 110, Char.ofNat 103, Char.ofNat 108, Char.ofNat 97, Char.ofNat 119, Char.ofNat 48, Char.ofNat 49, Char.ofNat 46, Char.ofNat 78, Char.ofNat 117, Char.ofNat 109, Char.ofNat 83, Char.ofNat 117, Char.ofNat 109, Char.ofNat 115], [Char.ofNat 102, Char.ofNat 117, Char.ofNat 114, Char.ofNat 108, Char.ofNat 111, Char.ofNat 110, Char.ofNat 103, Char.ofNat 47, Char.ofNat 102, Char.ofNat 117, Char.ofNat 114, Char.ofNat 108, Char.ofNat 111, Char.ofNat 110, Char.ofNat 103, Char.ofNat 108, Char.ofNat 97, Char.ofNat 119, Char.ofNat 48, Char.ofNat 49, Char.ofNat 46, Char.ofNat 78, Char.ofNat 117, Char.ofNat 109, Char.ofNat 84, Char.ofNat 111, Char.ofNat 103, Char.ofNat 101, Char.ofNat 116, Char.ofNat 104, Char.ofNat 101, Char.ofNat 114]]
theorem io : Try.pinned.checked.prog.initOrder = String.ofList signs := by kernel_rfl
theorem tl : Try.pinned.checked.prog.initOrder.toList = signs := by rw [io, String.toList_ofList]
theorem bw : behindMainWord (wordsSigns Try.pinned.checked.prog.initOrder.toList) = [Char.ofNat 99, Char.ofNat 117, Char.ofNat 116] :: rest := by rw [tl]; kernel_rfl
theorem make_of (P : Program) (c : List Char) (r : List (List Char)) (h : behindMainWord (wordsSigns P.initOrder.toList) = c :: r) (h1 : (c == "gc".toList || c == "spec".toList) = false) (h2 : (c == "cut".toList) = true) : P.make = some .cut := by
  unfold Program.make
  rw [h]
  simp only [h1, h2, Bool.true_or, if_true, Bool.false_eq_true, if_false]
theorem none_of (b : Prop) [Decidable b] : (if b then ([] : List String) else []).contains "finals" = false := by split <;> rfl
theorem lift_of (P : Program) (c : List Char) (r : List (List Char)) (h : behindMainWord (wordsSigns P.initOrder.toList) = c :: r) (h1 : (c == "carried".toList) = false) (h2 : stripLifts liftWords (c :: r) = ([], c :: r)) : P.liftsFinal = false := by
  unfold Program.liftsFinal Program.headLifts
  rw [h, h2]
  have e : (some c == some "carried".toList) = false := h1
  simp only [List.head?_cons, e, Bool.false_and, Bool.false_or]
  exact none_of _
theorem enter_of (P : Program) (c : List Char) (r : List (List Char)) (h : behindMainWord (wordsSigns P.initOrder.toList) = c :: r) (h1 : (c == "cut".toList) = true) (h2 : stripLifts liftWords (c :: r) = ([], c :: r))
    (hl : P.laysLater = false) (hb : P.bearsReflect = false) (hd : P.doorFits [] = true) : P.mayEnter = true := by
  unfold Program.mayEnter
  rw [h]
  have e : (some c == some "cut".toList) = true := h1
  simp only [h2, List.head?_cons, e, hl, hb, hd, List.contains_nil, Bool.not_false, Bool.or_true, Bool.and_true, Bool.true_and, Bool.or_false, Bool.false_or]
theorem strip : stripLifts liftWords ([Char.ofNat 99, Char.ofNat 117, Char.ofNat 116] :: rest) = ([], [Char.ofNat 99, Char.ofNat 117, Char.ofNat 116] :: rest) := by kernel_rfl
theorem make : Try.pinned.checked.prog.make = some .cut := make_of _ _ _ bw (by decide) (by decide)
theorem lift : Try.pinned.checked.prog.liftsFinal = false := lift_of _ _ _ bw (by decide) strip
theorem lays : Try.pinned.checked.prog.laysLater = false := by kernel_rfl
theorem bears : Try.pinned.checked.prog.bearsReflect = false := by kernel_rfl
theorem door : Try.pinned.checked.prog.doorFits [] = true := by kernel_rfl
theorem enter : Try.pinned.checked.prog.mayEnter = true := enter_of _ _ _ bw (by decide) strip lays bears door
theorem heard : Try.pinned.checked.prog.stopsHeard = true := by kernel_rfl
theorem laid : laidOutB Try.pinned.checked.prog = true := by kernel_rfl
theorem rowed : mapsRowed Try.pinned.checked.prog = true := by kernel_rfl
end Go.Proofs.Ytkbcjagkacijnaa.Facts
end
section
-- Written for this claim by this project's own driver over the kit's print: functions and their contracts.
namespace Go.Proofs.Ytkbcjagkacijnaa.PPl
open Go.RowKit Go.Proofs.YtkbcjagkacijnaaW.PrintWords Go.Proofs.YtkbcjagkacijnaaW.PrintLast Go.Proofs.YtkbcjagkacijnaaW.PrintMore
attribute [local go_sem] max2_int min2_int max_two min_two max_three min_three max_four min_four   -- for this text's walks alone
set_option linter.unusedVariables false
set_option linter.unusedSimpArgs false



def errW : Option Int → Value
  | none => .nilIface
  | some c => .iface 0 (.int .i64 c)
theorem errW_none : errW none = .nilIface := rfl
theorem errW_some (c : Int) : errW (some c) = .iface 0 (.int .i64 c) := rfl

theorem info3 : (Try.prog.info? 3).map (fun i => (i.zero, i.size, i.bytes)) = some (some (.int .i64 0), 1, 8) := by kernel_rfl
-- the values' own types
structure S46 where
  f0 : Int
  f1 : Int
  f2 : Int
  f3 : Int
  f4 : Int
def z46 : S46 := ⟨(0 : Int), (0 : Int), (0 : Int), (0 : Int), (0 : Int)⟩
def k46 : Kd S46 := Kd.iso (Kd.pair (Kd.int .i64) (Kd.pair (Kd.int .i64) (Kd.pair (Kd.int .i64) (Kd.pair (Kd.int .i64) (Kd.int .i64))))) (fun x : S46 => (x.f0, x.f1, x.f2, x.f3, x.f4))
theorem k46_open {w : World} {x : S46} {cs : List Value} (h : k46.K w x cs) : cs = [.int .i64 x.f0, .int .i64 x.f1, .int .i64 x.f2, .int .i64 x.f3, .int .i64 x.f4] := by
  obtain ⟨_, _, rfl, rfl, ⟨_, _, rfl, rfl, ⟨_, _, rfl, rfl, ⟨_, _, rfl, rfl, rfl⟩⟩⟩⟩ := h
  exact rfl
theorem k46_mkM (w : World) (base : Nat) (ok : Nat → Prop) (x : S46)  : k46.M w base ok x [.int .i64 x.f0, .int .i64 x.f1, .int .i64 x.f2, .int .i64 x.f3, .int .i64 x.f4] := ⟨[.int .i64 x.f0], [.int .i64 x.f1, .int .i64 x.f2, .int .i64 x.f3, .int .i64 x.f4], rfl, rfl, ⟨[.int .i64 x.f1], [.int .i64 x.f2, .int .i64 x.f3, .int .i64 x.f4], rfl, rfl, ⟨[.int .i64 x.f2], [.int .i64 x.f3, .int .i64 x.f4], rfl, rfl, ⟨[.int .i64 x.f3], [.int .i64 x.f4], rfl, rfl, rfl⟩⟩⟩⟩
def rd_T46 (xs : List S46) (i : Int) : S46 := xs.getD i.toNat z46
theorem at_T46 {w : World} {A : Option Addr} {n : Nat} {xs : List S46} (h : Kd.C k46 w A n xs) (i : Int) (h0 : 0 ≤ i) (h1 : i < n) : ∃ ad , A = some ad ∧ w.cell? (ad.add (i.toNat * 5)) = some (.int .i64 (rd_T46 xs i).f0) ∧ w.cell? ⟨(ad.add (i.toNat * 5)).block, (ad.add (i.toNat * 5)).off + 1, none⟩ = some (.int .i64 (rd_T46 xs i).f1) ∧ w.cell? ⟨(ad.add (i.toNat * 5)).block, (ad.add (i.toNat * 5)).off + 2, none⟩ = some (.int .i64 (rd_T46 xs i).f2) ∧ w.cell? ⟨(ad.add (i.toNat * 5)).block, (ad.add (i.toNat * 5)).off + 3, none⟩ = some (.int .i64 (rd_T46 xs i).f3) ∧ w.cell? ⟨(ad.add (i.toNat * 5)).block, (ad.add (i.toNat * 5)).off + 4, none⟩ = some (.int .i64 (rd_T46 xs i).f4) := by
  obtain ⟨ad, c, e, _, hK, hc0⟩ := Kd.C_get h z46 i h0 h1
  have hc : ∀ j u, c[j]? = some u → w.cell? (ad.add (i.toNat * 5 + j)) = some u := hc0
  obtain rfl := k46_open hK
  exact ⟨ad, e, hc 0 _ rfl, by rw [← add_field _ _ 1 (by omega)]; exact hc 1 _ rfl, by rw [← add_field _ _ 2 (by omega)]; exact hc 2 _ rfl, by rw [← add_field _ _ 3 (by omega)]; exact hc 3 _ rfl, by rw [← add_field _ _ 4 (by omega)]; exact hc 4 _ rfl⟩

structure S50 where
  f0 : Int
  f1 : Int
  f2 : Int
  f3 : (List Int)
  f4 : Int
  f5 : Int
  f6 : Int
  f7 : Bool
def z50 : S50 := ⟨(0 : Int), (0 : Int), (0 : Int), ([] : List Int), (0 : Int), (0 : Int), (0 : Int), false⟩
def k50 : Kd S50 := Kd.iso (Kd.pair (Kd.int .i64) (Kd.pair (Kd.int .i64) (Kd.pair (Kd.int .i64) (Kd.pair (Kd.slice 3 (Kd.int .i64)) (Kd.pair (Kd.int .i64) (Kd.pair (Kd.int .i64) (Kd.pair (Kd.int .i64) Kd.bool))))))) (fun x : S50 => (x.f0, x.f1, x.f2, x.f3, x.f4, x.f5, x.f6, x.f7))
theorem k50_open {w : World} {x : S50} {cs : List Value} (h : k50.K w x cs) : ∃ A3 c3, cs = [.int .i64 x.f0, .int .i64 x.f1, .int .i64 x.f2, .slice A3 x.f3.length c3, .int .i64 x.f4, .int .i64 x.f5, .int .i64 x.f6, .bool x.f7] ∧ x.f3.length ≤ c3 ∧ (Kd.int .i64).C w A3 x.f3.length x.f3 := by
  obtain ⟨_, _, rfl, rfl, ⟨_, _, rfl, rfl, ⟨_, _, rfl, rfl, ⟨_, _, rfl, ⟨A3, c3, rfl, l3, g3⟩, ⟨_, _, rfl, rfl, ⟨_, _, rfl, rfl, ⟨_, _, rfl, rfl, rfl⟩⟩⟩⟩⟩⟩⟩ := h
  exact ⟨A3, c3, rfl, l3, g3⟩
theorem k50_mk (w : World) (x : S50) {A3 : Option Addr} {c3 : Nat} (l3 : x.f3.length ≤ c3) (g3 : (Kd.int .i64).C w A3 x.f3.length x.f3) : k50.K w x [.int .i64 x.f0, .int .i64 x.f1, .int .i64 x.f2, .slice A3 x.f3.length c3, .int .i64 x.f4, .int .i64 x.f5, .int .i64 x.f6, .bool x.f7] := ⟨[.int .i64 x.f0], [.int .i64 x.f1, .int .i64 x.f2, .slice A3 x.f3.length c3, .int .i64 x.f4, .int .i64 x.f5, .int .i64 x.f6, .bool x.f7], rfl, rfl, ⟨[.int .i64 x.f1], [.int .i64 x.f2, .slice A3 x.f3.length c3, .int .i64 x.f4, .int .i64 x.f5, .int .i64 x.f6, .bool x.f7], rfl, rfl, ⟨[.int .i64 x.f2], [.slice A3 x.f3.length c3, .int .i64 x.f4, .int .i64 x.f5, .int .i64 x.f6, .bool x.f7], rfl, rfl, ⟨[.slice A3 x.f3.length c3], [.int .i64 x.f4, .int .i64 x.f5, .int .i64 x.f6, .bool x.f7], rfl, ⟨A3, c3, rfl, l3, g3⟩, ⟨[.int .i64 x.f4], [.int .i64 x.f5, .int .i64 x.f6, .bool x.f7], rfl, rfl, ⟨[.int .i64 x.f5], [.int .i64 x.f6, .bool x.f7], rfl, rfl, ⟨[.int .i64 x.f6], [.bool x.f7], rfl, rfl, rfl⟩⟩⟩⟩⟩⟩⟩
theorem k50_mkF (W : World) (ok : Nat → Prop) (x : S50) {A3 : Option Addr} {c3 : Nat} (l3 : x.f3.length ≤ c3) (g3 : Kd.F (Kd.int .i64) W ok A3 x.f3.length x.f3) : Kd.FK k50 W ok x [.int .i64 x.f0, .int .i64 x.f1, .int .i64 x.f2, .slice A3 x.f3.length c3, .int .i64 x.f4, .int .i64 x.f5, .int .i64 x.f6, .bool x.f7] := fun W2 hW => k50_mk W2 x l3 (g3 W2 hW)
def rd_T50 (xs : List S50) (i : Int) : S50 := xs.getD i.toNat z50
theorem at_T50 {w : World} {A : Option Addr} {n : Nat} {xs : List S50} (h : Kd.C k50 w A n xs) (i : Int) (h0 : 0 ≤ i) (h1 : i < n) : ∃ ad A3 c3, A = some ad ∧ w.cell? (ad.add (i.toNat * 8)) = some (.int .i64 (rd_T50 xs i).f0) ∧ w.cell? ⟨(ad.add (i.toNat * 8)).block, (ad.add (i.toNat * 8)).off + 1, none⟩ = some (.int .i64 (rd_T50 xs i).f1) ∧ w.cell? ⟨(ad.add (i.toNat * 8)).block, (ad.add (i.toNat * 8)).off + 2, none⟩ = some (.int .i64 (rd_T50 xs i).f2) ∧ w.cell? ⟨(ad.add (i.toNat * 8)).block, (ad.add (i.toNat * 8)).off + 3, none⟩ = some (.slice A3 (rd_T50 xs i).f3.length c3) ∧ w.cell? ⟨(ad.add (i.toNat * 8)).block, (ad.add (i.toNat * 8)).off + 4, none⟩ = some (.int .i64 (rd_T50 xs i).f4) ∧ w.cell? ⟨(ad.add (i.toNat * 8)).block, (ad.add (i.toNat * 8)).off + 5, none⟩ = some (.int .i64 (rd_T50 xs i).f5) ∧ w.cell? ⟨(ad.add (i.toNat * 8)).block, (ad.add (i.toNat * 8)).off + 6, none⟩ = some (.int .i64 (rd_T50 xs i).f6) ∧ w.cell? ⟨(ad.add (i.toNat * 8)).block, (ad.add (i.toNat * 8)).off + 7, none⟩ = some (.bool (rd_T50 xs i).f7) ∧ (rd_T50 xs i).f3.length ≤ c3 ∧ (Kd.int .i64).C w A3 (rd_T50 xs i).f3.length (rd_T50 xs i).f3 := by
  obtain ⟨ad, c, e, _, hK, hc0⟩ := Kd.C_get h z50 i h0 h1
  have hc : ∀ j u, c[j]? = some u → w.cell? (ad.add (i.toNat * 8 + j)) = some u := hc0
  obtain ⟨A3, c3, rfl, l3, g3⟩ := k50_open hK
  exact ⟨ad, A3, c3, e, hc 0 _ rfl, by rw [← add_field _ _ 1 (by omega)]; exact hc 1 _ rfl, by rw [← add_field _ _ 2 (by omega)]; exact hc 2 _ rfl, by rw [← add_field _ _ 3 (by omega)]; exact hc 3 _ rfl, by rw [← add_field _ _ 4 (by omega)]; exact hc 4 _ rfl, by rw [← add_field _ _ 5 (by omega)]; exact hc 5 _ rfl, by rw [← add_field _ _ 6 (by omega)]; exact hc 6 _ rfl, by rw [← add_field _ _ 7 (by omega)]; exact hc 7 _ rfl, l3, g3⟩

end Go.Proofs.Ytkbcjagkacijnaa.PPl
end
section
namespace Go.Proofs.Ytkbcjagkacijnaa.Iter
open Go.RowKit Go.Shelf
set_option linter.unusedVariables false
set_option linter.unusedSimpArgs false
attribute [local go_sem] Oper.semAt_some

/-- A block of cells. -/
def Blk (W : World) (B : Nat) (t : TypeId) (cs : Array Value) : Prop := W.heap[B]? = some (.cells cs t (0, 0))
section
variable {W W' : World} {B : Nat} {t : TypeId} {cs : Array Value}
theorem Blk.lt (h : Blk W B t cs) : B < W.heap.size := (Array.getElem?_eq_some_iff.1 h).1
theorem Blk.cell (h : Blk W B t cs) (i : Nat) : W.cell? ⟨B, i, none⟩ = cs[i]? := by simp [World.cell?, show W.heap[B]? = _ from h]
theorem Blk.frozen (h : Blk W B t cs) (i : Nat) : W.frozen? ⟨B, i, none⟩ = false := by simp [World.frozen?, show W.heap[B]? = _ from h]
theorem Blk.new (W : World) (t : TypeId) (cs : Array Value) : Blk (W.alloc (.cells cs t)) W.heap.size t cs := World.alloc_heap_new W _
theorem Blk.kept {row : Option Nat} (h : Blk W B t cs) (hg : W.grownBy W' row) (hne : some B ≠ row) : Blk W' B t cs := (hg.block B h.lt hne).trans h
theorem Blk.alloc (h : Blk W B t cs) (o : Obj) : Blk (W.alloc o) B t cs := h.kept (World.grownBy_alloc W o none) (by simp)
theorem Blk.drew (h : Blk W B t cs) : Blk W.drew B t cs := h
theorem Blk.below {n : Nat} (h : Blk W B t cs) (hb : Below n W W') (hlt : B < n) : Blk W' B t cs := (hb.block B hlt).trans h
theorem Blk.set (h : Blk W B t cs) (i : Nat) (v : Value) (hi : i < cs.size) : Blk (W.setCell ⟨B, i, none⟩ v) B t (cs.setIfInBounds i v) := by
  obtain ⟨hlt, hk⟩ := Array.getElem?_eq_some_iff.1 h
  show (W.heap.modify B _)[B]? = _
  rw [Array.getElem?_eq_getElem (by rw [Array.size_modify]; exact hlt), Array.getElem_modify_self, hk]
  rfl
theorem Blk.other (h : Blk W B t cs) {a : Addr} (hne : B ≠ a.block) (u : Value) : Blk (W.setCell a u) B t cs := (Below.heap_setCell W a u B hne).trans h
theorem blk_own {β : Type} (B : Nat) (t : TypeId) (f : β → Array Value) : Own (fun s W => Blk W B t (f s)) := fun s X Y row hs hg hrow =>
  hs.kept hg (fun e' => by obtain ⟨o, ho, hc⟩ := hrow B e'.symm; rw [show X.heap[B]? = _ from hs] at ho; cases ho; cases hc)
end

/-- What a round keeps: two blocks. -/
def Two (A B : Nat) (W W' : World) : Prop := W'.heap[A]? = W.heap[A]? ∧ W'.heap[B]? = W.heap[B]?
theorem Two.t {A B : Nat} {X Y Z : World} (h : Two A B X Y) (k : Two A B Y Z) : Two A B X Z := ⟨k.1.trans h.1, k.2.trans h.2⟩
theorem Two.b {A B : Nat} {w : World} (hA : A < w.heap.size) (hB : B < w.heap.size) (W : World) (l : Nat) (o o' : Obj) (hl : w.heap.size ≤ l) (h : W.heap[l]? = some o) (_ : o.isCells = false) (_ : o.isWalk = false) : Two A B W (W.putObj l o') :=
  ⟨World.putObj_heap_other (by omega), World.putObj_heap_other (by omega)⟩

theorem Two.refl (A B : Nat) (W : World) : Two A B W W := ⟨rfl, rfl⟩
theorem Two.alloc {A B : Nat} {X W : World} (h : Two A B X W) (hA : A < W.heap.size) (hB : B < W.heap.size) (o : Obj) : Two A B X (W.alloc o) := ⟨(Below.heap_alloc W _ _ hA).trans h.1, (Below.heap_alloc W _ _ hB).trans h.2⟩
theorem Two.set {A B : Nat} {X W : World} (h : Two A B X W) {a : Addr} (hA : A ≠ a.block) (hB : B ≠ a.block) (u : Value) : Two A B X (W.setCell a u) := ⟨(Below.heap_setCell W _ _ _ hA).trans h.1, (Below.heap_setCell W _ _ _ hB).trans h.2⟩
theorem Two.below {A B n : Nat} {X Y W : World} (h : Two A B X Y) (hb : Below n Y W) (hA : A < n) (hB : B < n) : Two A B X W := ⟨(hb.block A hA).trans h.1, (hb.block B hB).trans h.2⟩
theorem Two.drew {A B : Nat} {X W : World} (h : Two A B X W) : Two A B X W.drew := h

/-- What a step of ours may turn: the cells of blocks from n on alone. -/
structure Since (n : Nat) (W W' : World) : Prop where
  others : KeepsOthers W W'
  below : Below n W W'
theorem Since.refl (n : Nat) (W : World) : Since n W W := ⟨KeepsOthers.refl W, Below.refl n W⟩
theorem Since.drew {n : Nat} {X W : World} (h : Since n X W) : Since n X W.drew := ⟨h.others.trans (KeepsOthers.drew W), h.below.drew⟩
theorem Since.call {n : Nat} {X W Y : World} (h : Since n X W) (hn : n ≤ X.heap.size) (hb : Below W.heap.size W Y) : Since n X Y :=
  ⟨h.others.trans ⟨hb.size, fun k o hk _ => (hb.block k (Array.getElem?_eq_some_iff.1 hk).1).trans hk⟩, h.below.trans (hb.mono (Nat.le_trans hn h.below.size))⟩
theorem Since.set {n : Nat} {X W : World} (h : Since n X W) (a : Addr) (ha : n ≤ a.block) (u : Value) : Since n X (W.setCell a u) := ⟨h.others.trans (KeepsOthers.setCell W a u), h.below.setCell ha u⟩

/-- Of what has come, all has it; one hasn't. -/
def AllB (f : Int × Int → Bool) (l : List (Int × Int)) : Prop := ∀ x ∈ l, f x = true
def AnyB (f : Int × Int → Bool) (l : List (Int × Int)) : Prop := ∃ x ∈ l, f x = false
theorem AllB.nil (f : Int × Int → Bool) : AllB f [] := fun x h => by cases h
theorem AllB.snoc {f : Int × Int → Bool} {l : List (Int × Int)} {x : Int × Int} (h : AllB f l) (hx : f x = true) : AllB f (l ++ [x]) := fun y hy => by
  rcases List.mem_append.1 hy with h1 | h1
  · exact h y h1
  · rw [List.mem_singleton.1 h1]; exact hx
theorem AnyB.snoc {f : Int × Int → Bool} {l : List (Int × Int)} {x : Int × Int} (hx : f x = false) : AnyB f (l ++ [x]) := ⟨x, by simp, hx⟩
theorem AllB.two {f : Int × Int → Bool} {x y : Int × Int} (h : AllB f [x, y]) : (f x && f y) = true := by rw [h x (by simp), h y (by simp)]; rfl
theorem AnyB.two {f : Int × Int → Bool} {x y : Int × Int} {pre : List (Int × Int)} (h : AnyB f pre) (hp : pre = [x] ∨ pre = [x, y]) : (f x && f y) = false := by
  obtain ⟨z, hz, hf⟩ := h
  rcases hp with rfl | rfl
  · rw [List.mem_singleton.1 hz] at hf; rw [hf]; rfl
  · simp at hz; rcases hz with rfl | rfl
    · rw [hf]; rfl
    · rw [hf, Bool.and_false]

abbrev enc2 (p : Int × Int) : Value := .agg #[.int .i64 p.1, .int .i64 p.2]
abbrev cs2 (p : Int × Int) : Array Value := #[.int .i64 p.1, .int .i64 p.2]

set_option maxHeartbeats 1000000 in
/-- Both amounts are boxed; the function value captures the boxes. -/
theorem parts_in (F : Fence) (n : Nat) (hf : F.fn 90) (hro : F.round = none) (a b : Int × Int) (w : World) :
    CallsIn F n Try.prog 90 #[enc2 a, enc2 b] w fun e w' => e = .returned (.func (.func 120) #[] #[.pointer (some ⟨w.heap.size, 0, none⟩), .pointer (some ⟨w.heap.size + 1, 0, none⟩)]) ∧
      w' = (w.alloc (.cells (cs2 a) 25)).alloc (.cells (cs2 b) 25) := by
  refine callsIn_of_wp Try.func90 rfl hf ?_ hro
  simp only [Try.ntmps90, List.size_toArray, List.length_cons, List.length_nil, Nat.reduceAdd, Nat.reduceSub, Array.replicate_succ, Array.replicate_zero, List.push_toArray, List.append_toArray, List.nil_append, List.cons_append]
  gi_wp2
  go_ret
  exact ⟨rfl, rfl⟩

set_option maxHeartbeats 1000000 in
/-- The iterator: the cores' part, then the memory's; it stops where a round says 'no more'. -/
theorem parts_stops {α : Type} (val : α → Int × Int) (p1 p2 : α) (F : Fence) (n : Nat) (hf : F.fn 120) (hro : F.round = none) (hn : 1 ≤ n) (A B : Nat) (a b : Int × Int) (w : World) (hp1 : val p1 = (a.1, b.1)) (hp2 : val p2 = (a.2, b.2)) (hA : Blk w A 25 (cs2 a)) (hB : Blk w B 25 (cs2 b)) :
    SeqStopsK F n Try.prog 120 #[.pointer (some ⟨A, 0, none⟩), .pointer (some ⟨B, 0, none⟩)] (fun p : α => #[enc2 (val p)]) (Two A B) (fun xs => xs = [p1, p2]) (fun pre => pre = [p1] ∨ pre = [p1, p2]) 2 w := fun l J Jx W hW _ _ hY h0 => by
  have hA1 : Blk W A 25 (cs2 a) := hA.below hW hA.lt
  have hB1 : Blk W B 25 (cs2 b) := hB.below hW hB.lt
  have cA0 := hA1.cell 0
  have cA1 := hA1.cell 1
  have cB0 := hB1.cell 0
  have cB1 := hB1.cell 1
  refine callsIn_of_wp Try.func120 rfl hf ?_ hro
  simp only [Try.ntmps120, List.size_toArray, List.length_cons, List.length_nil, Nat.reduceAdd, Nat.reduceSub, Array.replicate_succ, Array.replicate_zero, List.push_toArray, List.append_toArray, List.nil_append, List.cons_append]
  simp only [List.getElem?_toArray, List.getElem?_cons_zero, List.getElem?_cons_succ] at cA0 cA1 cB0 cB1
  obtain ⟨f1, t1, a1, b1, hy1, hR1⟩ := hY [] p1 W h0 (by simp)
  simp only [hp1] at hy1
  dsimp only [enc2] at hy1
  gi_wp2
  refine hR1.mono ?_
  rintro e W1 (⟨rfl, hJ1, hk1⟩ | ⟨rfl, hx1⟩)
  · obtain ⟨f2, t2, a2, b2, hy2, hR2⟩ := hY [p1] p2 W1 hJ1 (by simp)
    simp only [hp2] at hy2
    dsimp only [enc2] at hy2
    have dA1 := (show Blk W1 A _ _ from hk1.1.trans hA1).cell 1
    have dB1 := (show Blk W1 B _ _ from hk1.2.trans hB1).cell 1
    simp only [List.getElem?_toArray, List.getElem?_cons_zero, List.getElem?_cons_succ] at dA1 dB1
    gi_wp2
    refine hR2.mono ?_
    rintro e W2 (⟨rfl, hJ2, _⟩ | ⟨rfl, hx2⟩)
    · gi_wp2
      go_end0
      exact ⟨⟨_, rfl⟩, .inl ⟨_, rfl, hJ2⟩⟩
    · gi_wp2
      go_end0
      exact ⟨⟨_, rfl⟩, .inr ⟨_, .inr rfl, hx2⟩⟩
  · gi_wp2
    refine ⟨fun _ h => (by cases h), ?_⟩
    gi_wp2
    go_end0
    exact ⟨⟨_, rfl⟩, .inr ⟨_, .inl rfl, hx1⟩⟩
end Go.Proofs.Ytkbcjagkacijnaa.Iter
end
section
namespace Go.Proofs.Ytkbcjagkacijnaa.PPl
open Go.RowKit Go.Shelf Go.Proofs.Ytkbcjagkacijnaa.Iter Go.Proofs.YtkbcjagkacijnaaW.PrintWords Go.Proofs.YtkbcjagkacijnaaW.PrintLast
set_option linter.unusedVariables false
set_option linter.unusedSimpArgs false

/-- A node's room: a mark for each core that is leased, and memory. -/
structure Rm where
  taken : List Bool
  mem : Int
def leaseCores : List Bool → Int → List Int → Option (List Bool)
  | t, _, [] => some t
  | t, last, c :: cs => if c ≤ last ∨ (t.length : Int) ≤ c ∨ t.getD c.toNat false = true then none else leaseCores (t.set c.toNat true) c cs
def leaseR (r : Rm) (x : S50) : Option Rm := if x.f4 < 0 ∨ r.mem < x.f4 then none else (leaseCores r.taken (-1) x.f3).map fun t => ⟨t, r.mem - x.f4⟩
theorem leaseCores_length : ∀ (cs : List Int) (t : List Bool) (last : Int) (u : List Bool), leaseCores t last cs = some u → u.length = t.length
  | [], t, last, u, h => by simp [leaseCores] at h; rw [h]
  | c :: cs, t, last, u, h => by
    simp only [leaseCores] at h
    split at h
    · cases h
    · have := leaseCores_length cs _ _ _ h
      simpa using this

theorem add_block (a : Addr) (j : Nat) : (a.add j).block = a.block := by unfold Addr.add; split <;> rfl
/-- What a round keeps but for two blocks. -/
structure But (B b : Nat) (w w' : World) : Prop where
  os : w'.os = w.os
  tape : w'.tape = w.tape
  output : w'.output = w.output
  size : w.heap.size ≤ w'.heap.size
  block : ∀ k, k < w.heap.size → k ≠ B → k ≠ b → w'.heap[k]? = w.heap[k]?
theorem But.refl (B b : Nat) (w : World) : But B b w w := ⟨rfl, rfl, rfl, Nat.le_refl _, fun _ _ _ _ => rfl⟩
theorem But.drew {B b : Nat} {w w' : World} (h : But B b w w') : But B b w w'.drew := ⟨h.os, h.tape, h.output, h.size, h.block⟩
theorem But.alloc {B b : Nat} {w w' : World} (h : But B b w w') (o : Obj) : But B b w (w'.alloc o) :=
  ⟨h.os, h.tape, h.output, Nat.le_trans h.size (by simp), fun k hk h1 h2 => (Below.heap_alloc w' o k (by have := h.size; omega)).trans (h.block k hk h1 h2)⟩
theorem But.drewN {B b : Nat} {w w' : World} (h : But B b w w') (n : Nat) : But B b w (w'.drewN n) := ⟨h.os, h.tape, h.output, h.size, h.block⟩
theorem setCell_same_block {w w' : World} {B : Nat} (h : w'.heap[B]? = w.heap[B]?) (o : Nat) (v : Value) : (w'.setCell ⟨B, o, none⟩ v).heap[B]? = (w.setCell ⟨B, o, none⟩ v).heap[B]? := by
  show (w'.heap.modify B _)[B]? = (w.heap.modify B _)[B]?
  simp [Array.getElem?_modify, h]
theorem But.setB {B b : Nat} {w w' : World} (h : But B b w w') (o : Nat) (v : Value) : But B b w (w'.setCell ⟨B, o, none⟩ v) :=
  ⟨h.os, h.tape, h.output, by simpa using h.size, fun k hk h1 h2 => (Below.heap_setCell w' ⟨B, o, none⟩ v k h1).trans (h.block k hk h1 h2)⟩
theorem But.setb {B b : Nat} {w w' : World} (h : But B b w w') (o : Nat) (v : Value) : But B b w (w'.setCell ⟨b, o, none⟩ v) :=
  ⟨h.os, h.tape, h.output, by simpa using h.size, fun k hk h1 h2 => (Below.heap_setCell w' ⟨b, o, none⟩ v k h2).trans (h.block k hk h1 h2)⟩
theorem But.blk {B b : Nat} {w w' : World} (h : But B b w w') {k : Nat} {t : TypeId} {cs : Array Value} (hk : Blk w k t cs) (h1 : k ≠ B) (h2 : k ≠ b) : Blk w' k t cs := (h.block k hk.lt h1 h2).trans hk
theorem But.cell {B b : Nat} {w w' : World} (h : But B b w w') {p : Addr} {v : Value} (hp : w.cell? p = some v) (h1 : p.block ≠ B) (h2 : p.block ≠ b) : w'.cell? p = some v :=
  (World.cell?_of_block (h.block p.block (World.block_lt_of_cell? w _ hp) h1 h2)).trans hp
theorem But.below {B b n : Nat} {w w' : World} (h : But B b w w') (h1 : n ≤ B) (h2 : n ≤ b) (hn : n ≤ w.heap.size) : Below n w w' := ⟨h.os, h.tape, h.output, h.size, fun k hk => h.block k (by omega) (by omega) (by omega)⟩

theorem bools_cell {w : World} {b : Nat} {t : List Bool} (h : Blk w b 4 (t.map Value.bool).toArray) (i : Nat) (hi : i < t.length) : w.cell? ⟨b, i, none⟩ = some (.bool (t.getD i false)) := by
  rw [h.cell i]
  simp [hi]
theorem bools_set {w : World} {b : Nat} {t : List Bool} (h : Blk w b 4 (t.map Value.bool).toArray) (i : Nat) (hi : i < t.length) (v : Bool) : Blk (w.setCell ⟨b, i, none⟩ (.bool v)) b 4 ((t.set i v).map Value.bool).toArray := by
  have := h.set i (.bool v) (by simpa using hi)
  simpa [List.map_set] using this

set_option maxRecDepth 100000 in
set_option maxHeartbeats 4000000 in
theorem lease_calls (B o b n0 : Nat) (r : Rm) (x : S50) (A : Option Addr) (c : Nat) (w : World) (hc : x.f3.length ≤ c) (hx : Kd.C (Kd.int .i64) w A x.f3.length x.f3) (hA : ∀ ad, A = some ad → 0 < x.f3.length → ad.block < n0) (hB0 : n0 ≤ B) (hb0 : n0 ≤ b) (hne : B ≠ b)
    (hl : r.taken.length ≤ 64) (hm : r.mem ≤ 1099511627776) (hBl : B < w.heap.size) (h0 : w.cell? ⟨B, o, none⟩ = some (.slice (some ⟨b, 0, none⟩) r.taken.length r.taken.length)) (h1 : w.cell? ⟨B, o + 1, none⟩ = some (.int .i64 r.mem)) (hf1 : w.frozen? ⟨B, o + 1, none⟩ = false) (hb : Blk w b 4 (r.taken.map Value.bool).toArray) :
    Calls Try.prog 113 #[.pointer (some ⟨B, o, none⟩), .agg #[.int .i64 x.f0, .int .i64 x.f1, .int .i64 x.f2, .slice A x.f3.length c, .int .i64 x.f4, .int .i64 x.f5, .int .i64 x.f6, .bool x.f7]] w fun e w' =>
      (leaseR r x = none ∧ e = .returned (.bool false) ∧ But B b w w') ∨ ∃ r', leaseR r x = some r' ∧ e = .returned (.bool true) ∧ Blk w' b 4 (r'.taken.map Value.bool).toArray ∧ w'.heap[B]? = (w.setCell ⟨B, o + 1, none⟩ (.int .i64 r'.mem)).heap[B]? ∧ But B b w w' := by
  by_cases c1 : x.f4 < 0
  · have e1 : decide (x.f4 < 0) = true := decide_eq_true c1
    have hL : leaseR r x = none := by unfold leaseR; rw [if_pos (.inl c1)]
    have hL' := Lib.hid hL
    clear hL c1 hx hA
    go_enter Try.func113, Try.ntmps113
    go_wp2
    go_quiet (fail)
    go_wp2
    go_ret
    exact .inl ⟨hL'.out, rfl, by first | exact ((But.refl B b w).alloc _).drewN _ | exact (But.refl B b w).alloc _ | exact ((But.refl B b w).alloc _).drew⟩
  · have e1 : decide (x.f4 < 0) = false := decide_eq_false c1
    have g0 := (((Below.refl w.heap.size w).alloc (Nat.le_refl _) (.cells #[.int .i64 x.f0, .int .i64 x.f1, .int .i64 x.f2, .slice A x.f3.length c, .int .i64 x.f4, .int .i64 x.f5, .int .i64 x.f6, .bool x.f7] 50)).cell (p := ⟨B, o, none⟩) hBl).trans h0
    have g1 := (((Below.refl w.heap.size w).alloc (Nat.le_refl _) (.cells #[.int .i64 x.f0, .int .i64 x.f1, .int .i64 x.f2, .slice A x.f3.length c, .int .i64 x.f4, .int .i64 x.f5, .int .i64 x.f6, .bool x.f7] 50)).cell (p := ⟨B, o + 1, none⟩) hBl).trans h1
    have gf := (((Below.refl w.heap.size w).alloc (Nat.le_refl _) (.cells #[.int .i64 x.f0, .int .i64 x.f1, .int .i64 x.f2, .slice A x.f3.length c, .int .i64 x.f4, .int .i64 x.f5, .int .i64 x.f6, .bool x.f7] 50)).frozen (p := ⟨B, o + 1, none⟩) hBl).trans hf1
    by_cases c2 : r.mem < x.f4
    · have e2 : decide (r.mem < x.f4) = true := decide_eq_true c2
      have hL : leaseR r x = none := by unfold leaseR; rw [if_pos (.inr c2)]
      have hL' := Lib.hid hL
      clear hL c1 c2 hx hA
      go_enter Try.func113, Try.ntmps113
      go_wp2
      go_quiet (fail)
      go_wp2
      go_ret
      exact .inl ⟨hL'.out, rfl, by first | exact ((But.refl B b w).alloc _).drewN _ | exact (But.refl B b w).alloc _ | exact ((But.refl B b w).alloc _).drew⟩
    · have e2 : decide (r.mem < x.f4) = false := decide_eq_false c2
      have c1' : 0 ≤ x.f4 := by omega
      have c2' : x.f4 ≤ r.mem := by omega
      go_enter Try.func113, Try.ntmps113
      go_wp2
      go_quiet (fail)
      go_wp2
      go_region
      go_wp2
      rename_i K_ hK_
      have bW := (Below.refl w.heap.size w).alloc (Nat.le_refl _) (.cells #[.int .i64 x.f0, .int .i64 x.f1, .int .i64 x.f2, .slice A x.f3.length c, .int .i64 x.f4, .int .i64 x.f5, .int .i64 x.f6, .bool x.f7] 50)
      have uW : But B b w ((((w.alloc (.cells #[.int .i64 x.f0, .int .i64 x.f1, .int .i64 x.f2, .slice A x.f3.length c, .int .i64 x.f4, .int .i64 x.f5, .int .i64 x.f6, .bool x.f7] 50)).drewN (nq + 1)).setCell ⟨B, o + 1, none⟩ (.int .i64 (r.mem - x.f4)))) :=
        (((But.refl B b w).alloc _).drewN _).setB _ _
      have vW : ((((w.alloc (.cells #[.int .i64 x.f0, .int .i64 x.f1, .int .i64 x.f2, .slice A x.f3.length c, .int .i64 x.f4, .int .i64 x.f5, .int .i64 x.f6, .bool x.f7] 50)).drewN (nq + 1)).setCell ⟨B, o + 1, none⟩ (.int .i64 (r.mem - x.f4)))).heap[B]? = (w.setCell ⟨B, o + 1, none⟩ (.int .i64 (r.mem - x.f4))).heap[B]? :=
        setCell_same_block (bW.block B hBl) _ _
      have kW : ((((w.alloc (.cells #[.int .i64 x.f0, .int .i64 x.f1, .int .i64 x.f2, .slice A x.f3.length c, .int .i64 x.f4, .int .i64 x.f5, .int .i64 x.f6, .bool x.f7] 50)).drewN (nq + 1)).setCell ⟨B, o + 1, none⟩ (.int .i64 (r.mem - x.f4)))).cell? ⟨B, o, none⟩ = some (.slice (some ⟨b, 0, none⟩) r.taken.length r.taken.length) := by
        exact (World.cell?_setCell_other _ ⟨B, o + 1, none⟩ ⟨B, o, none⟩ _ (by simp)).trans g0
      have tW : Blk ((((w.alloc (.cells #[.int .i64 x.f0, .int .i64 x.f1, .int .i64 x.f2, .slice A x.f3.length c, .int .i64 x.f4, .int .i64 x.f5, .int .i64 x.f6, .bool x.f7] 50)).drewN (nq + 1)).setCell ⟨B, o + 1, none⟩ (.int .i64 (r.mem - x.f4)))) b 4 (r.taken.map Value.bool).toArray := by
        refine Blk.other ?_ (Ne.symm hne) _
        exact (bW.block b hb.lt).trans hb
      clear g0 g1 gf bW
      generalize (World.setCell _ ⟨B, o + 1, none⟩ (.int .i64 (r.mem - x.f4))) = WL at uW vW kW tW ⊢
      have hLR : ∀ z, leaseCores r.taken (-1) x.f3 = z → leaseR r x = z.map fun t => ⟨t, r.mem - x.f4⟩ := fun z hz => by unfold leaseR; rw [if_neg (by omega), hz]
      have hLR' := Lib.hid hLR
      have hbig : x.f3.length ≤ 9223372036854775807 := hx.2.1
      have hvW := Lib.hid vW
      have huW := Lib.hid uW
      clear hLR vW uW h0 h1 hf1 hb
      have hb1 : b < w.heap.size ∨ True := .inr trivial
      go_loopw [5, 32] (fun lv iv wr => ∃ (k : Nat) (t : List Bool) (last : Int), lv = .int .i64 last ∧ iv = .int .i64 k ∧ k ≤ x.f3.length ∧ -1 ≤ last ∧ t.length = r.taken.length ∧ leaseCores r.taken (-1) x.f3 = leaseCores t last (x.f3.drop k) ∧ Blk wr b 4 (t.map Value.bool).toArray ∧ wr.heap[B]? = WL.heap[B]? ∧ But B b w wr)
        (fun _ iv _ => x.f3.length - (intOf iv).toNat)
      case atStart => exact ⟨0, r.taken, -1, rfl, rfl, Nat.zero_le _, by omega, rfl, rfl, tW, rfl, huW.out⟩
      case round =>
        obtain ⟨k, t, last, rfl, rfl, hk, hla, htl, hlc, hbt, hB, hbut⟩ := hrel
        have kr : wr.cell? ⟨B, o, none⟩ = some (.slice (some ⟨b, 0, none⟩) r.taken.length r.taken.length) := (World.cell?_of_block (a := ⟨B, o, none⟩) hB).trans kW
        have hlc' := Lib.hid hlc
        have hB' := Lib.hid hB
        have htl' := Lib.hid htl
        clear hlc hB htl
        by_cases hlt : k < x.f3.length
        · have hd : x.f3.drop k = rd x.f3 (k : Int) :: x.f3.drop (k + 1) := by rw [List.drop_eq_getElem_cons hlt]; simp [rd, hlt]
          obtain ⟨ad, hAd, hcell⟩ := Kd.at_int hx (k : Int) (by omega) (by omega)
          subst hAd
          have hcw : wr.cell? (ad.add k) = some (.int .i64 (rd x.f3 (k : Int))) := by
            rw [Int.toNat_natCast] at hcell
            refine hbut.cell hcell ?_ ?_
            · rw [add_block]; have := hA ad rfl (by omega); omega
            · rw [add_block]; have := hA ad rfl (by omega); omega
          have hd' := Lib.hid hd
          clear hd hcell
          generalize hcq : rd x.f3 (k : Int) = q at hcw hd'
          clear hcq hx hA
          by_cases d1 : q ≤ last
          · have f1 : decide (q ≤ last) = true := decide_eq_true d1
            have hno : leaseR r x = none := by rw [hLR'.out _ hlc'.out, hd'.out, leaseCores, if_pos (.inl d1)]; rfl
            have hno' := Lib.hid hno
            have hbut' := Lib.hid hbut
            clear hno d1 hbut
            go_wp2
            go_ret
            exact .inl ⟨hno'.out, rfl, by first | exact hbut'.out | exact hbut'.out.drewN _ | exact hbut'.out.drew⟩
          · have f1 : decide (q ≤ last) = false := decide_eq_false d1
            by_cases d2 : (r.taken.length : Int) ≤ q
            · have f2 : decide ((r.taken.length : Int) ≤ q) = true := decide_eq_true d2
              have hno : leaseR r x = none := by rw [hLR'.out _ hlc'.out, hd'.out, leaseCores, if_pos (.inr (.inl (by rw [htl'.out]; exact d2)))]; rfl
              have hno' := Lib.hid hno
              have hbut' := Lib.hid hbut
              clear hno d1 d2 hbut
              go_wp2
              go_ret
              exact .inl ⟨hno'.out, rfl, by first | exact hbut'.out | exact hbut'.out.drewN _ | exact hbut'.out.drew⟩
            · have f2 : decide ((r.taken.length : Int) ≤ q) = false := decide_eq_false d2
              obtain ⟨n, rfl⟩ : ∃ n : Nat, q = n := ⟨q.toNat, by omega⟩
              have hn : n < r.taken.length := by omega
              have hcb := bools_cell hbt n (by rw [htl'.out]; exact hn)
              have hfb := hbt.frozen n
              have hd'' := hd'.out
              have hset := bools_set hbt n (by rw [htl'.out]; exact hn) true
              cases hq : t.getD n false
              · rw [hq] at hcb
                have hst : leaseCores r.taken (-1) x.f3 = leaseCores (t.set n true) (n : Int) (x.f3.drop (k + 1)) := by
                  rw [hlc'.out, hd'.out, leaseCores, if_neg]
                  · rw [Int.toNat_natCast]
                  · rw [htl'.out, Int.toNat_natCast, hq]
                    intro h
                    rcases h with h | h | h
                    · omega
                    · omega
                    · cases h
                have hst' := Lib.hid hst
                have hq' := Lib.hid hq
                have hset' := Lib.hid hset
                clear hst hq hset hd'' d2
                go_wp2
                go_roundw
                case rel => exact ⟨k + 1, t.set n true, n, rfl, by go_num, by omega, by omega, by rw [List.length_set, htl'.out], hst'.out, hset'.out, (Below.heap_setCell wr ⟨b, n, none⟩ _ B hne).trans hB'.out, hbut.setb _ _⟩
                case measure => simp [intOf]; omega
              · rw [hq] at hcb
                have hno : leaseR r x = none := by rw [hLR'.out _ hlc'.out, hd'.out, leaseCores, if_pos (.inr (.inr (by rw [Int.toNat_natCast]; exact hq)))]; rfl
                have hno' := Lib.hid hno
                have hbut' := Lib.hid hbut
                clear hno hq hset hd'' d2 hbut
                go_wp2
                go_ret
                exact .inl ⟨hno'.out, rfl, by first | exact hbut'.out | exact hbut'.out.drewN _ | exact hbut'.out.drew⟩
        · have hk' : k = x.f3.length := by omega
          subst hk'
          have hyes : leaseR r x = some ⟨t, r.mem - x.f4⟩ := by rw [hLR'.out _ hlc'.out, List.drop_of_length_le (Nat.le_refl _), leaseCores]; rfl
          have hyes' := Lib.hid hyes
          clear hyes hlt
          go_wp2
          go_ret
          exact .inr ⟨⟨t, r.mem - x.f4⟩, hyes'.out, rfl, hbt, hB'.out.trans hvW.out, hbut⟩
end Go.Proofs.Ytkbcjagkacijnaa.PPl
end
section
namespace Go.Proofs.Ytkbcjagkacijnaa.PPl
open Go.RowKit Go.Proofs.YtkbcjagkacijnaaW.PrintWords Go.Proofs.YtkbcjagkacijnaaW.PrintLast
set_option linter.unusedVariables false
set_option linter.unusedSimpArgs false
/-- Leases, taken off rooms one behind the other. -/
def roomsL (nodes : List S46) : List Rm → List S50 → Option (List Rm)
  | rs, [] => some rs
  | rs, x :: l => match nodes.findIdx? (fun n => n.f0 == x.f2) with
    | none => none
    | some i => match leaseR (rs.getD i ⟨[], 0⟩) x with
      | none => none
      | some r => roomsL nodes (rs.set i r) l
theorem w64_id {x : Int} (h : -9223372036854775808 ≤ x ∧ x ≤ 9223372036854775807) : wrap64 x = x := by
  unfold wrap64
  omega
/-- What leases of a node take. -/
def takenOf (id : Int) (l : List S50) : List Int := (l.filter fun x => x.f2 == id).flatMap (·.f3)
def memOf (id : Int) (l : List S50) : Int := ((l.filter fun x => x.f2 == id).map (·.f4)).sum
def marks (n : Nat) (tk : List Int) : List Bool := (List.range n).map fun (c : Nat) => tk.contains (c : Int)
def room (pre : List S50) (n : S46) : Rm := ⟨marks n.f1.toNat (takenOf n.f0 pre), n.f2 - memOf n.f0 pre⟩
def risesFrom : Int → List Int → Bool
  | _, [] => true
  | last, c :: cs => decide (last < c) && risesFrom c cs
def okLease (n : S46) (pre : List S50) (x : S50) : Bool := decide (0 ≤ x.f4) && decide (x.f4 ≤ n.f2 - memOf n.f0 pre) && risesFrom (-1) x.f3 && x.f3.all (fun c => decide (c < n.f1) && !(takenOf n.f0 pre).contains c)
def validFrom (nodes : List S46) : List S50 → List S50 → Bool
  | _, [] => true
  | pre, x :: l => (match nodes.find? (fun n => n.f0 == x.f2) with
    | none => false
    | some n => okLease n pre x) && validFrom nodes (pre ++ [x]) l

theorem marks_length (n : Nat) (tk : List Int) : (marks n tk).length = n := by simp [marks]
theorem marks_get {n : Nat} {tk : List Int} {i : Nat} (h : i < n) : (marks n tk).getD i false = tk.contains (i : Int) := by simp [marks, h]
theorem marks_set {n : Nat} {tk : List Int} {i : Nat} (_h : i < n) : (marks n tk).set i true = marks n (tk ++ [(i : Int)]) := by
  apply List.ext_getElem
  · simp [marks]
  · intro j h1 h2
    simp only [marks_length, List.length_set] at h1
    rw [List.getElem_set]
    simp only [marks, List.getElem_map, List.getElem_range]
    by_cases e : i = j
    · subst e; simp
    · rw [if_neg e]
      simp
      omega
theorem rises_gt : ∀ {last : Int} {cs : List Int}, risesFrom last cs = true → ∀ c ∈ cs, last < c
  | _, [], _, c, h => by cases h
  | last, d :: cs, h, c, hc => by
    simp only [risesFrom, Bool.and_eq_true, decide_eq_true_eq] at h
    rcases List.mem_cons.1 hc with rfl | hc
    · exact h.1
    · have := rises_gt h.2 c hc
      omega
theorem leaseCores_spec (N : Nat) : ∀ (cs : List Int) (tk : List Int) (last : Int), -1 ≤ last → leaseCores (marks N tk) last cs = if (risesFrom last cs && cs.all (fun c => decide (c < N) && !tk.contains c)) = true then some (marks N (tk ++ cs)) else none
  | [], tk, last, _ => by simp [leaseCores, risesFrom]
  | c :: cs, tk, last, hl => by
    have no : ∀ {b : Bool} {z : Option (List Bool)}, b = false → none = if b = true then z else none := fun h => by rw [h]; rfl
    rw [leaseCores, marks_length]
    by_cases h1 : c ≤ last
    · rw [if_pos (.inl h1)]
      refine no (Bool.eq_false_iff.mpr fun h => ?_)
      simp only [risesFrom, List.all_cons, Bool.and_eq_true, decide_eq_true_eq] at h
      omega
    · by_cases h2 : (N : Int) ≤ c
      · rw [if_pos (.inr (.inl h2))]
        refine no (Bool.eq_false_iff.mpr fun h => ?_)
        simp only [risesFrom, List.all_cons, Bool.and_eq_true, decide_eq_true_eq] at h
        omega
      · obtain ⟨k, rfl⟩ : ∃ k : Nat, c = k := ⟨c.toNat, by omega⟩
        have hk : k < N := by omega
        rw [Int.toNat_natCast, marks_get hk]
        by_cases h3 : tk.contains (k : Int) = true
        · rw [if_pos (.inr (.inr h3))]
          refine no (Bool.eq_false_iff.mpr fun h => ?_)
          simp only [risesFrom, List.all_cons, Bool.and_eq_true, decide_eq_true_eq, h3] at h
          simp at h
        · rw [if_neg (by intro h; rcases h with h | h | h; exact h1 h; exact h2 h; exact h3 h), marks_set hk, leaseCores_spec N cs (tk ++ [(k : Int)]) k (by omega)]
          have e : (risesFrom (k : Int) cs && cs.all (fun c => decide (c < (N : Int)) && !(tk ++ [(k : Int)]).contains c)) = (risesFrom last ((k : Int) :: cs) && ((k : Int) :: cs).all (fun c => decide (c < (N : Int)) && !tk.contains c)) := by
            have b1 : decide (last < (k : Int)) = true := by simp; omega
            have b2 : decide ((k : Int) < N) = true := by simp; omega
            have b3 : tk.contains (k : Int) = false := by simpa using h3
            rw [risesFrom, List.all_cons, b1, b2, b3]
            simp only [Bool.true_and, Bool.not_false]
            cases hr : risesFrom (k : Int) cs
            · rfl
            · simp only [Bool.true_and]
              rw [Bool.eq_iff_iff, List.all_eq_true, List.all_eq_true]
              constructor
              · intro h x hx
                have := h x hx
                simp at this ⊢
                exact ⟨this.1, this.2.1⟩
              · intro h x hx
                have := h x hx
                have g := rises_gt hr x hx
                simp at this ⊢
                exact ⟨this.1, this.2, by omega⟩
          rw [e, List.append_assoc]
          rfl
theorem takenOf_snoc_same {id : Int} {pre : List S50} {x : S50} (h : x.f2 = id) : takenOf id (pre ++ [x]) = takenOf id pre ++ x.f3 := by simp [takenOf, List.filter_append, h]
theorem takenOf_snoc_other {id : Int} {pre : List S50} {x : S50} (h : x.f2 ≠ id) : takenOf id (pre ++ [x]) = takenOf id pre := by simp [takenOf, List.filter_append, h]
theorem memOf_snoc_same {id : Int} {pre : List S50} {x : S50} (h : x.f2 = id) : memOf id (pre ++ [x]) = memOf id pre + x.f4 := by simp [memOf, List.filter_append, h]
theorem memOf_snoc_other {id : Int} {pre : List S50} {x : S50} (h : x.f2 ≠ id) : memOf id (pre ++ [x]) = memOf id pre := by simp [memOf, List.filter_append, h]
theorem room_other {n : S46} {pre : List S50} {x : S50} (h : x.f2 ≠ n.f0) : room (pre ++ [x]) n = room pre n := by simp [room, takenOf_snoc_other h, memOf_snoc_other h]
theorem leaseR_spec {n : S46} {pre : List S50} {x : S50} (hn : 0 ≤ n.f1) (h : x.f2 = n.f0) : leaseR (room pre n) x = if okLease n pre x = true then some (room (pre ++ [x]) n) else none := by
  show (if x.f4 < 0 ∨ n.f2 - memOf n.f0 pre < x.f4 then none else (leaseCores (marks n.f1.toNat (takenOf n.f0 pre)) (-1) x.f3).map fun t => (⟨t, n.f2 - memOf n.f0 pre - x.f4⟩ : Rm)) = if okLease n pre x = true then some ⟨marks n.f1.toNat (takenOf n.f0 (pre ++ [x])), n.f2 - memOf n.f0 (pre ++ [x])⟩ else none
  by_cases h1 : x.f4 < 0 ∨ n.f2 - memOf n.f0 pre < x.f4
  · rw [if_pos h1, if_neg]
    unfold okLease
    simp only [Bool.and_eq_true, decide_eq_true_eq]
    omega
  · rw [if_neg h1, leaseCores_spec _ _ _ _ (by omega), takenOf_snoc_same h, memOf_snoc_same h]
    have e : okLease n pre x = (risesFrom (-1) x.f3 && x.f3.all (fun c => decide (c < ((n.f1.toNat : Nat) : Int)) && !(takenOf n.f0 pre).contains c)) := by
      unfold okLease
      have b1 : decide (0 ≤ x.f4) = true := by simp; omega
      have b2 : decide (x.f4 ≤ n.f2 - memOf n.f0 pre) = true := by simp; omega
      rw [b1, b2, show ((n.f1.toNat : Nat) : Int) = n.f1 by omega]
      simp
    rw [e]
    split
    · simp only [Option.map_some]
      congr 2
      omega
    · rfl
/-- Ids rise. -/
def idsRise : Int → List S46 → Bool
  | _, [] => true
  | p, n :: l => decide (p < n.f0) && idsRise n.f0 l
theorem ids_gt : ∀ {p : Int} {l : List S46}, idsRise p l = true → ∀ n ∈ l, p < n.f0
  | _, [], _, n, h => by cases h
  | p, m :: l, h, n, hn => by
    simp only [idsRise, Bool.and_eq_true, decide_eq_true_eq] at h
    rcases List.mem_cons.1 hn with rfl | hn
    · exact h.1
    · have := ids_gt h.2 n hn
      omega
theorem ids_inj : ∀ {p : Int} {l : List S46}, idsRise p l = true → ∀ (i j : Nat) (a b : S46), l[i]? = some a → l[j]? = some b → a.f0 = b.f0 → i = j
  | _, [], _, i, j, a, b, ha, _, _ => by simp at ha
  | p, m :: l, h, i, j, a, b, ha, hb, e => by
    simp only [idsRise, Bool.and_eq_true, decide_eq_true_eq] at h
    cases i with
    | zero =>
      cases j with
      | zero => rfl
      | succ j =>
        simp at ha hb
        subst ha
        have := ids_gt h.2 b (List.mem_of_getElem? hb)
        omega
    | succ i =>
      cases j with
      | zero =>
        simp at ha hb
        subst hb
        have := ids_gt h.2 a (List.mem_of_getElem? ha)
        omega
      | succ j =>
        simp at ha hb
        rw [ids_inj h.2 i j a b ha hb e]
theorem roomsL_spec (nodes : List S46) (hid : idsRise (-1) nodes = true) (hc : ∀ n ∈ nodes, 0 ≤ n.f1) : ∀ (l pre : List S50), roomsL nodes (nodes.map (room pre)) l = if validFrom nodes pre l = true then some (nodes.map (room (pre ++ l))) else none
  | [], pre => by simp [roomsL, validFrom]
  | x :: l, pre => by
    rw [roomsL, validFrom]
    cases hf : nodes.findIdx? (fun n => n.f0 == x.f2) with
    | none =>
      have : nodes.find? (fun n => n.f0 == x.f2) = none := by
        rw [List.findIdx?_eq_none_iff] at hf
        rw [List.find?_eq_none]
        intro n hn
        have := hf n hn
        simp_all
      rw [this]
      simp
    | some i =>
      obtain ⟨hi, hp, hmin⟩ := List.findIdx?_eq_some_iff_getElem.1 hf
      have hn : nodes.find? (fun n => n.f0 == x.f2) = some nodes[i] := by
        rw [List.find?_eq_some_iff_getElem]
        exact ⟨hp, i, hi, rfl, fun j hj => by simpa using hmin j hj⟩
      have hx : x.f2 = nodes[i].f0 := by simpa using (by simpa using hp : nodes[i].f0 = x.f2).symm
      rw [hn]
      simp only
      rw [show (nodes.map (room pre)).getD i ⟨[], 0⟩ = room pre nodes[i] by simp [hi], leaseR_spec (hc _ (List.getElem_mem hi)) hx]
      by_cases ho : okLease nodes[i] pre x = true
      · have e : (okLease nodes[i] pre x && validFrom nodes (pre ++ [x]) l) = validFrom nodes (pre ++ [x]) l := by rw [ho, Bool.true_and]
        have hs : (nodes.map (room pre)).set i (room (pre ++ [x]) nodes[i]) = nodes.map (room (pre ++ [x])) := by
          apply List.ext_getElem
          · simp
          · intro j h1 h2
            simp only [List.length_map, List.length_set] at h1
            rw [List.getElem_set]
            by_cases e : i = j
            · subst e; simp
            · rw [if_neg e]
              simp only [List.getElem_map]
              refine (room_other ?_).symm
              rw [hx]
              intro e'
              exact e (ids_inj hid i j _ _ (List.getElem?_eq_getElem hi) (List.getElem?_eq_getElem (by simpa using h1)) e')
        rw [if_pos ho, e]
        show roomsL nodes _ l = _
        rw [hs, roomsL_spec nodes hid hc l (pre ++ [x]), List.append_assoc]
        rfl
      · have e : (okLease nodes[i] pre x && validFrom nodes (pre ++ [x]) l) = false := by rw [Bool.not_eq_true] at ho; rw [ho, Bool.false_and]
        rw [if_neg ho, e]
        rfl
/-- A node may be behind one of the Id p. -/
def ndOK (p : Int) (n : S46) : Bool := decide (0 ≤ n.f0) && decide (p < n.f0) && decide (1 ≤ n.f1) && decide (n.f1 ≤ 64) && decide (0 ≤ n.f2) && decide (n.f2 ≤ 1099511627776)
def ndsOK : Int → List S46 → Bool
  | _, [] => true
  | p, n :: l => ndOK p n && ndsOK n.f0 l
theorem nds_all : ∀ {p : Int} {l : List S46}, ndsOK p l = true → idsRise p l = true ∧ ∀ n ∈ l, 0 ≤ n.f0 ∧ 1 ≤ n.f1 ∧ n.f1 ≤ 64 ∧ 0 ≤ n.f2 ∧ n.f2 ≤ 1099511627776
  | _, [], _ => ⟨rfl, fun n h => by cases h⟩
  | p, m :: l, h => by
    simp only [ndsOK, ndOK, Bool.and_eq_true, decide_eq_true_eq] at h
    obtain ⟨h1, h2⟩ := nds_all h.2
    refine ⟨by simp only [idsRise, Bool.and_eq_true, decide_eq_true_eq]; exact ⟨h.1.1.1.1.1.2, h1⟩, fun n hn => ?_⟩
    rcases List.mem_cons.1 hn with rfl | hn
    · omega
    · exact h2 n hn
def rm0 (n : S46) : Rm := ⟨List.replicate n.f1.toNat false, n.f2⟩
/-- What rooms answers. -/
def roomsF (nodes : List S46) (leases : List S50) : Int × List Rm :=
  if 64 < nodes.length then (3, []) else if ndsOK (-1) nodes = true then (match roomsL nodes (nodes.map rm0) leases with
    | some rs => (0, rs)
    | none => (4, [])) else (4, [])
/-- A room's free cores. -/
def freeL (t : List Bool) : List Int := ((List.range t.length).filter fun c => !t.getD c false).map fun (c : Nat) => (c : Int)
/-- The search of Find, over rooms. -/
def searchR (a0 a1 : Int) : Int → Int → Nat → List Rm → Int × Int
  | best, least, _, [] => (best, least)
  | best, least, i, r :: l => if ((freeL r.taken).length : Int) < a0 ∨ r.mem < a1 ∨ least ≤ ((freeL r.taken).length : Int) then searchR a0 a1 best least (i + 1) l else searchR a0 a1 (i : Int) ((freeL r.taken).length : Int) (i + 1) l
def goodV (a0 a1 : Int) : Bool := decide (0 ≤ a0) && decide (a0 ≤ 1099511627776) && (decide (0 ≤ a1) && decide (a1 ≤ 1099511627776))
/-- What Find answers. -/
def findV (nodes : List S46) (leases : List S50) (a0 a1 : Int) : Int × List Int × Int :=
  if (roomsF nodes leases).1 ≠ 0 then (0, [], (roomsF nodes leases).1) else if a0 < 1 ∨ 64 < a0 ∨ goodV a0 a1 = false then (0, [], 1) else
  if (searchR a0 a1 (-1) 65 0 (roomsF nodes leases).2).1 < 0 then (0, [], 10) else
  ((nodes.getD (searchR a0 a1 (-1) 65 0 (roomsF nodes leases).2).1.toNat z46).f0, (freeL ((roomsF nodes leases).2.getD (searchR a0 a1 (-1) 65 0 (roomsF nodes leases).2).1.toNat ⟨[], 0⟩).taken).take a0.toNat, 0)

end Go.Proofs.Ytkbcjagkacijnaa.PPl
end
section
namespace Go.Proofs.Ytkbcjagkacijnaa.PPl
open Go.RowKit Go.Shelf Go.Maps Go.Proofs.Ytkbcjagkacijnaa.Iter Go.Proofs.YtkbcjagkacijnaaW.PrintWords Go.Proofs.YtkbcjagkacijnaaW.PrintLast
set_option linter.unusedVariables false
set_option linter.unusedSimpArgs false

theorem wf64k {k : Nat} (h : k ≤ 64) : (Lit.int .i64 (k : Int)).wf = true := by simp [Lit.wf, IntKind.min, IntKind.max, IntKind.signed, IntKind.bits]; omega
theorem infoRoom : (Try.prog.info? 84).map (fun i => (i.zero, i.size, i.bytes)) = some (some (.agg #[.slice none 0 0, .int .i64 0]), 2, 32) := by kernel_rfl
theorem infoBool : (Try.prog.info? 4).map (fun i => (i.zero, i.size, i.bytes)) = some (some (.bool false), 1, 1) := by kernel_rfl
theorem info_parts' {o : Option TypeInfo} {z : Option Value} {s b : Nat} (h : o.map (fun i => (i.zero, i.size, i.bytes)) = some (z, s, b)) : ∃ i, o = some i ∧ i.zero = z ∧ i.size = s ∧ i.bytes = b := by
  obtain ⟨i, hi, he⟩ := Option.map_eq_some_iff.1 h
  simp only [Prod.mk.injEq] at he
  exact ⟨i, hi, he.1, he.2.1, he.2.2⟩
theorem mkRooms (n : Nat) (hn : n ≤ 64) (w : World) : ∃ cs : Array Value, cs.size = 2 * n ∧ (Instr.makeSlice 78 (.int .i64 (n : Int)) (.int .i64 (n : Int))).run Try.prog w = .ok (.slice (some ⟨w.heap.size, 0, none⟩) n n) (w.alloc (.cells cs 84)) := by
  obtain ⟨i, hi, hz, hs, hb⟩ := info_parts' infoRoom
  have := run_make (P := Try.prog) w 78 84 i _ Try.underlying78 hi hz .i64 .i64 (n : Int) (n : Int) (by omega) (by omega) (by rw [hb]; omega) (by omega)
  refine ⟨_, ?_, this⟩
  rw [size_madeCells, hs]
  simp
  omega
set_option maxRecDepth 100000 in
theorem mkBools (n : Nat) (hn : n ≤ 64) (w : World) : (Instr.makeSlice 82 (.int .i64 (n : Int)) (.int .i64 (n : Int))).run Try.prog w = .ok (.slice (some ⟨w.heap.size, 0, none⟩) n n) (w.alloc (.cells ((List.replicate n false).map Value.bool).toArray 4)) := by
  obtain ⟨i, hi, hz, hs, hb⟩ := info_parts' infoBool
  have := run_make (P := Try.prog) w 82 4 i _ Try.underlying82 hi hz .i64 .i64 (n : Int) (n : Int) (by omega) (by omega) (by rw [hb]; omega) (by omega)
  rw [this, Int.toNat_natCast, hs]
  congr 3
  apply Array.ext
  · rw [size_madeCells]; simp
  · intro j h1 h2
    rw [size_madeCells] at h1
    simp [madeCells, Value.cells, Nat.mod_one]

/-- Rooms, in memory. -/
def RoomsAt (W : World) (BR : Nat) (bs : Nat → Nat) (rs : List Rm) : Prop := ∀ i r, rs[i]? = some r → W.cell? ⟨BR, i * 2, none⟩ = some (.slice (some ⟨bs i, 0, none⟩) r.taken.length r.taken.length) ∧ W.cell? ⟨BR, i * 2 + 1, none⟩ = some (.int .i64 r.mem) ∧ Blk W (bs i) 4 (r.taken.map Value.bool).toArray ∧ BR + 1 < bs i
theorem RoomsAt.alloc {W : World} {BR : Nat} {bs : Nat → Nat} {rs : List Rm} (h : RoomsAt W BR bs rs) (o : Obj) : RoomsAt (W.alloc o) BR bs rs := fun i r hr => by
  obtain ⟨h1, h2, h3, h4⟩ := h i r hr
  exact ⟨(World.cell?_alloc_lt _ _ _ (World.block_lt_of_cell? W _ h1)).trans h1, (World.cell?_alloc_lt _ _ _ (World.block_lt_of_cell? W _ h2)).trans h2, h3.alloc o, h4⟩
theorem RoomsAt.step {W : World} {BR NB : Nat} {bs : Nat → Nat} {rs : List Rm} {cs : Array Value} {r : Rm} (h : RoomsAt W BR bs rs) (hc : Blk W BR 84 cs) (hs : rs.length * 2 + 1 < cs.size) (hn : Blk W NB 4 (r.taken.map Value.bool).toArray) (hNB : BR + 1 < NB) :
    RoomsAt ((W.setCell ⟨BR, rs.length * 2, none⟩ (.slice (some ⟨NB, 0, none⟩) r.taken.length r.taken.length)).setCell ⟨BR, rs.length * 2 + 1, none⟩ (.int .i64 r.mem)) BR (fun i => if i = rs.length then NB else bs i) (rs ++ [r]) ∧
      ∃ cs', Blk ((W.setCell ⟨BR, rs.length * 2, none⟩ (.slice (some ⟨NB, 0, none⟩) r.taken.length r.taken.length)).setCell ⟨BR, rs.length * 2 + 1, none⟩ (.int .i64 r.mem)) BR 84 cs' ∧ cs'.size = cs.size := by
  have b1 := (hc.set (rs.length * 2) (.slice (some ⟨NB, 0, none⟩) r.taken.length r.taken.length) (by omega)).set (rs.length * 2 + 1) (.int .i64 r.mem) (by simp; omega)
  refine ⟨fun i u hu => ?_, _, b1, by simp⟩
  by_cases e : i = rs.length
  · subst e
    simp at hu
    subst hu
    refine ⟨?_, ?_, ?_, ?_⟩
    · rw [b1.cell (rs.length * 2)]
      simp [show rs.length * 2 < cs.size by omega]
    · rw [b1.cell (rs.length * 2 + 1)]
      simp [hs]
    · simp only [if_true]
      exact (hn.other (by simp; omega) _).other (by simp; omega) _
    · simp only [if_true]
      exact hNB
  · have hi : rs[i]? = some u := by
      rw [List.getElem?_append] at hu
      split at hu
      · exact hu
      · rename_i hge
        rw [List.getElem?_eq_none (by simp; omega)] at hu
        cases hu
    obtain ⟨h1, h2, h3, h4⟩ := h i u hi
    refine ⟨?_, ?_, ?_, ?_⟩
    · simp only [if_neg e]
      rw [World.cell?_setCell_other _ _ _ _ (by simp <;> omega), World.cell?_setCell_other _ _ _ _ (by simp <;> omega)]
      exact h1
    · rw [World.cell?_setCell_other _ _ _ _ (by simp <;> omega), World.cell?_setCell_other _ _ _ _ (by simp <;> omega)]
      exact h2
    · simp only [if_neg e]
      exact (h3.other (by simp; omega) _).other (by simp; omega) _
    · simp only [if_neg e]
      exact h4
theorem RoomsAt.grown {W W1 : World} {BR M : Nat} {bs : Nat → Nat} {rs : List Rm} (h : RoomsAt W BR bs rs) (hg : W.grownBy W1 (some M)) (hM : M = BR + 1) : RoomsAt W1 BR bs rs := fun i r hr => by
  subst hM
  obtain ⟨h1, h2, h3, h4⟩ := h i r hr
  exact ⟨hg.cell h1 (by simp), hg.cell h2 (by simp), h3.kept hg (by simp; omega), h4⟩
theorem But.own {H : Type} {B b m n : Nat} {w w' : World} {P : Program} {k : TypeId} {R : Value → Option (DataW H × List MemPlace)} {D : DataW H} (h : But B b w w') (ho : w.ownsMap P k R m n D) (h1 : m ≠ B) (h2 : m ≠ b) : w'.ownsMap P k R m n D := by
  have hl := ho.lt
  obtain ⟨es, c, e, r⟩ := ho
  exact ⟨es, c, (h.block m hl h1 h2).trans e, r⟩
theorem leaseR_keeps {r r' : Rm} {x : S50} (h : leaseR r x = some r') : r'.taken.length = r.taken.length ∧ r'.mem ≤ r.mem := by
  unfold leaseR at h
  split at h
  · cases h
  · obtain ⟨t, ht, rfl⟩ := Option.map_eq_some_iff.1 h
    exact ⟨leaseCores_length _ _ _ _ ht, by show r.mem - x.f4 ≤ r.mem; omega⟩
theorem RoomsAt.set {W W1 : World} {BR i : Nat} {bs : Nat → Nat} {rs : List Rm} {r r' : Rm} {cs : Array Value} (h : RoomsAt W BR bs rs) (hi : rs[i]? = some r) (hl : r'.taken.length = r.taken.length) (hap : ∀ j, j < rs.length → bs j = bs i → j = i)
    (hBlk : Blk W1 (bs i) 4 (r'.taken.map Value.bool).toArray) (hB : W1.heap[BR]? = (W.setCell ⟨BR, i * 2 + 1, none⟩ (.int .i64 r'.mem)).heap[BR]?) (hbut : But BR (bs i) W W1) (hc : Blk W BR 84 cs) (hs : i * 2 + 1 < cs.size) :
    RoomsAt W1 BR bs (rs.set i r') ∧ ∃ cs', Blk W1 BR 84 cs' ∧ cs'.size = cs.size := by
  have b1 := hc.set (i * 2 + 1) (.int .i64 r'.mem) hs
  have b2 : Blk W1 BR 84 (cs.setIfInBounds (i * 2 + 1) (.int .i64 r'.mem)) := hB.trans b1
  have hlen : i < rs.length := (List.getElem?_eq_some_iff.1 hi).1
  refine ⟨fun j u hu => ?_, _, b2, by simp⟩
  by_cases e : j = i
  · subst e
    rw [List.getElem?_set_self hlen] at hu
    cases hu
    obtain ⟨h1, h2, h3, h4⟩ := h j r hi
    refine ⟨?_, ?_, hBlk, h4⟩
    · rw [b2.cell, Array.getElem?_setIfInBounds_ne (by omega), ← hc.cell, h1, hl]
    · rw [b2.cell, Array.getElem?_setIfInBounds_self_of_lt hs]
  · rw [List.getElem?_set_ne (fun e' => e e'.symm)] at hu
    obtain ⟨h1, h2, h3, h4⟩ := h j u hu
    refine ⟨?_, ?_, hbut.blk h3 (by omega) (fun e' => e (hap j (List.getElem?_eq_some_iff.1 hu).1 e')), h4⟩
    · rw [b2.cell, Array.getElem?_setIfInBounds_ne (by omega), ← hc.cell, h1]
    · rw [b2.cell, Array.getElem?_setIfInBounds_ne (by omega), ← hc.cell, h2]
def Apart (bs : Nat → Nat) (n : Nat) : Prop := ∀ i j, i < n → j < n → bs i = bs j → i = j
theorem Apart.step {bs : Nat → Nat} {n NB : Nat} (h : Apart bs n) (hb : ∀ i, i < n → bs i < NB) : Apart (fun i => if i = n then NB else bs i) (n + 1) := by
  intro i j hi hj e
  have e : (if i = n then NB else bs i) = (if j = n then NB else bs j) := e
  by_cases e1 : i = n
  · by_cases e2 : j = n
    · omega
    · rw [if_pos e1, if_neg e2] at e
      have := hb j (by omega)
      omega
  · by_cases e2 : j = n
    · rw [if_neg e1, if_pos e2] at e
      have := hb i (by omega)
      omega
    · rw [if_neg e1, if_neg e2] at e
      exact h i j (by omega) (by omega) e
theorem RoomsAt.lt {W : World} {BR : Nat} {bs : Nat → Nat} {rs : List Rm} (h : RoomsAt W BR bs rs) {i : Nat} (hi : i < rs.length) : bs i < W.heap.size := (h i rs[i] (List.getElem?_eq_getElem hi)).2.2.1.lt
def pvId (nodes : List S46) : Nat → Int
  | 0 => -1
  | i + 1 => (rd_T46 nodes (i : Int)).f0
theorem nds_snoc : ∀ (l : List S46) (p : Int) (n : S46), ndsOK p (l ++ [n]) = (ndsOK p l && ndOK (match l.getLast? with | none => p | some m => m.f0) n)
  | [], p, n => by simp [ndsOK]
  | m :: l, p, n => by
    rw [List.cons_append, ndsOK, ndsOK, nds_snoc l m.f0 n, Bool.and_assoc]
    cases l with
    | nil => rfl
    | cons q l => simp [List.getLast?_cons]
theorem nds_step {nodes : List S46} {k : Nat} (hk : k < nodes.length) : ndsOK (-1) (nodes.take (k + 1)) = (ndsOK (-1) (nodes.take k) && ndOK (pvId nodes k) (rd_T46 nodes (k : Int))) := by
  rw [List.take_succ_eq_append_getElem hk, nds_snoc]
  congr 2
  · cases k with
    | zero => rfl
    | succ k =>
      have h1 : k < nodes.length := by omega
      have e : (nodes.take (k + 1)).getLast? = some nodes[k] := by rw [List.take_succ_eq_append_getElem h1]; exact List.getLast?_concat
      rw [e]
      simp [pvId, rd_T46, h1]
  · simp [rd_T46, hk]
theorem nds_take : ∀ (l : List S46) (p : Int) (j : Nat), ndsOK p l = true → ndsOK p (l.take j) = true
  | [], p, j, h => by simp [ndsOK]
  | n :: l, p, 0, h => rfl
  | n :: l, p, j + 1, h => by
    rw [List.take_succ_cons, ndsOK]
    rw [ndsOK, Bool.and_eq_true] at h
    rw [h.1, nds_take l n.f0 j h.2]
    rfl
/-- Where each Id is. -/
def idD {H : Type} (nodes : List S46) : Nat → DataW H
  | 0 => .map []
  | k + 1 => (idD nodes k).put (.int .i64 (rd_T46 nodes (k : Int)).f0) (.lit (.int .i64 (k : Int)))

theorem idD_map {H : Type} (nodes : List S46) : ∀ k, IsMap (idD (H := H) nodes k)
  | 0 => isMap_empty
  | k + 1 => (idD_map nodes k).put _ _
theorem rd_get {nodes : List S46} {i : Nat} (h : i < nodes.length) : nodes[i]? = some (rd_T46 nodes (i : Int)) := by simp [rd_T46, h]
theorem idD_spec {H : Type} (nodes : List S46) (hr : idsRise (-1) nodes = true) (z : Int) (d : DataW H) : ∀ k, k ≤ nodes.length →
    ((∀ i : Nat, i < k → (rd_T46 nodes (i : Int)).f0 ≠ z) → Maps.has (idD (H := H) nodes k) (.int .i64 z) = false) ∧
    (∀ i : Nat, i < k → (rd_T46 nodes (i : Int)).f0 = z → Maps.has (idD (H := H) nodes k) (.int .i64 z) = true ∧ (idD nodes k).atKey (.int .i64 z) d = .lit (.int .i64 (i : Int)))
  | 0, _ => ⟨fun _ => rfl, fun i h => absurd h (Nat.not_lt_zero _)⟩
  | k + 1, hk => by
    obtain ⟨h1, h2⟩ := idD_spec nodes hr z d k (by omega)
    have other : (rd_T46 nodes (k : Int)).f0 ≠ z → (Lit.int .i64 z : Lit) ≠ Lit.int .i64 (rd_T46 nodes (k : Int)).f0 := fun h e => by
      simp only [Lit.int.injEq] at e
      exact h e.2.symm
    refine ⟨fun h => ?_, fun i hi he => ?_⟩
    · rw [idD, has_put_other (other (h k (by omega)))]
      exact h1 (fun i hi => h i (by omega))
    · by_cases e : i = k
      · subst e
        subst he
        exact ⟨has_put_same (idD_map nodes i) (show WideAt.IsKeyLit (.int .i64 _) from trivial) _, atKey_put_same (idD_map nodes i) (show WideAt.IsKeyLit (.int .i64 _) from trivial) _ _⟩
      · have hne : (rd_T46 nodes (k : Int)).f0 ≠ z := fun h => e (ids_inj hr i k _ _ (rd_get (by omega)) (rd_get (by omega)) (he.trans h.symm))
        obtain ⟨g1, g2⟩ := h2 i (by omega) he
        rw [idD, has_put_other (other hne), atKey_put_other (other hne)]
        exact ⟨g1, g2⟩
theorem roomsL_none {nodes : List S46} {rs : List Rm} {x : S50} {l : List S50} (h : nodes.findIdx? (fun n => n.f0 == x.f2) = none) : roomsL nodes rs (x :: l) = none := by rw [roomsL, h]
theorem roomsL_some {nodes : List S46} {rs : List Rm} {x : S50} {l : List S50} {i : Nat} (h : nodes.findIdx? (fun n => n.f0 == x.f2) = some i) : roomsL nodes rs (x :: l) = match leaseR (rs.getD i ⟨[], 0⟩) x with
      | none => none
      | some r => roomsL nodes (rs.set i r) l := by rw [roomsL, h] <;> try rfl
def rfOf : Option (List Rm) → Int × List Rm
  | some rs => (0, rs)
  | none => (4, [])
theorem zeroInt (w : World) : (zeroValue 3).run Try.prog w = .ok (.int .i64 0) w := by kernel_rfl

set_option maxRecDepth 100000 in
set_option maxHeartbeats 8000000 in
theorem rooms_calls {H : Type} (nodes : List S46) (leases : List S50) (A0 : Option Addr) (c0 : Nat) (A1 : Option Addr) (c1 : Nat) (w : World) (hc0 : nodes.length ≤ c0) (hc1 : leases.length ≤ c1)
    (hr0 : Kd.C k46 w A0 nodes.length nodes) (hr1 : Kd.C k50 w A1 leases.length leases) (hw : ∀ n ∈ nodes, (Lit.int .i64 n.f0).wf = true) (hw2 : ∀ x ∈ leases, (Lit.int .i64 x.f2).wf = true) :
    Calls Try.prog 78 #[.slice A0 nodes.length c0, .slice A1 leases.length c1] w fun e w' => Below w.heap.size w w' ∧
      (((roomsF nodes leases).1 ≠ 0 ∧ e = .returned (.tuple #[.slice none 0 0, .int .i64 (roomsF nodes leases).1])) ∨
       ((roomsF nodes leases).1 = 0 ∧ ∃ bs, e = .returned (.tuple #[.slice (some ⟨w.heap.size, 0, none⟩) nodes.length nodes.length, .int .i64 0]) ∧ RoomsAt w' w.heap.size bs (roomsF nodes leases).2)) := by
  by_cases h64 : 64 < nodes.length
  · have e1 : decide ((64 : Int) < (nodes.length : Int)) = true := by simp; omega
    have hF : roomsF nodes leases = (3, []) := by unfold roomsF; rw [if_pos h64]
    rw [hF]
    go_enter Try.func78, Try.ntmps78
    go_wp2
    go_ret2
    exact ⟨Below.refl _ _, .inl ⟨by decide, rfl⟩⟩
  · have e1 : decide ((64 : Int) < (nodes.length : Int)) = false := by simp; omega
    have hF : roomsF nodes leases = (if ndsOK (-1) nodes = true then (match roomsL nodes (nodes.map rm0) leases with
      | some rs => ((0 : Int), rs)
      | none => ((4 : Int), [])) else ((4 : Int), [])) := by unfold roomsF; exact if_neg h64
    have hF' := Lib.hid hF
    generalize roomsF nodes leases = RF at hF' ⊢
    clear hF
    have hmm := @run_makeMap Try.prog
    obtain ⟨cs, hcs, hmk⟩ := mkRooms nodes.length (by omega) w
    have hcs' := Lib.hid hcs
    clear hcs
    have h64' : nodes.length ≤ 64 := by omega
    go_enter Try.func78, Try.ntmps78
    go_wp2
    clear hmk hmm
    have bM : Blk ((w.alloc (.cells cs 84)).alloc (.map #[] 0)) w.heap.size 84 cs := (Blk.new w _ cs).alloc _
    have oM : ((w.alloc (.cells cs 84)).alloc (.map #[] 0)).ownsMap Try.prog 3 (plainElem (H := H) Try.prog 3) (w.heap.size + 1) 0 (.map []) := by
      have := World.ownsMap_made (w := w.alloc (.cells cs 84)) (P := Try.prog) 3 (plainElem (H := H) Try.prog 3)
      simpa using this
    have lM : Below w.heap.size w ((w.alloc (.cells cs 84)).alloc (.map #[] 0)) := ((Below.refl _ w).alloc (Nat.le_refl _) _).alloc (by simp) _
    generalize ((w.alloc (.cells cs 84)).alloc (.map #[] 0)) = WL at bM oM lM ⊢
    go_loopw [23] (fun iv wr => ∃ (k : Nat) (bs : Nat → Nat), iv = .int .i64 k ∧ k ≤ nodes.length ∧ ndsOK (-1) (nodes.take k) = true ∧ (∃ cs, Blk wr w.heap.size 84 cs ∧ cs.size = 2 * nodes.length) ∧ RoomsAt wr w.heap.size bs ((nodes.take k).map rm0) ∧ Apart bs k ∧
        wr.ownsMap Try.prog 3 (plainElem (H := H) Try.prog 3) (w.heap.size + 1) k (idD nodes k) ∧ Below w.heap.size w wr)
      (fun iv _ => nodes.length - (intOf iv).toNat)
    case atStart => exact ⟨0, fun _ => 0, rfl, Nat.zero_le _, rfl, ⟨cs, bM, hcs'.out⟩, fun i r h => by simp at h, fun i j h => absurd h (Nat.not_lt_zero _), oM, lM⟩
    case round =>
      obtain ⟨k, bs, rfl, hk, hnd, ⟨cs1, hb1, hs1⟩, hRA, hAp, hown, hbel⟩ := hrel
      by_cases hlt : k < nodes.length
      · obtain ⟨nd, hndv⟩ : ∃ nd, rd_T46 nodes (k : Int) = nd := ⟨_, rfl⟩
        obtain ⟨ad, hA, q0, q1, q2, q3, q4⟩ := at_T46 hr0 (k : Int) (by omega) (by omega)
        subst hA
        rw [hndv, Int.toNat_natCast] at q0 q1 q2 q3 q4
        have hst := nds_step hlt
        rw [hnd, Bool.true_and, hndv] at hst
        have adl : (ad.add (k * 5)).block < w.heap.size := World.block_lt_of_cell? w _ q0
        replace q0 := (hbel.cell adl).trans q0
        replace q1 := (hbel.cell (p := ⟨(ad.add (k * 5)).block, (ad.add (k * 5)).off + 1, none⟩) adl).trans q1
        replace q2 := (hbel.cell (p := ⟨(ad.add (k * 5)).block, (ad.add (k * 5)).off + 2, none⟩) adl).trans q2
        replace q3 := (hbel.cell (p := ⟨(ad.add (k * 5)).block, (ad.add (k * 5)).off + 3, none⟩) adl).trans q3
        replace q4 := (hbel.cell (p := ⟨(ad.add (k * 5)).block, (ad.add (k * 5)).off + 4, none⟩) adl).trans q4
        cases hok : ndOK (pvId nodes k) nd
        · have hbad : RF = (4, []) := by
            rw [hF'.out, if_neg]
            intro h
            have := nds_take nodes (-1) (k + 1) h
            rw [hst, hok] at this
            cases this
          subst hbad
          simp only [ndOK, Bool.and_eq_false_iff, decide_eq_false_iff_not] at hok
          have hok' := Lib.hid hok
          clear hok hst hF' hRA hAp hs1 hown hb1 hnd hndv hw hr1
          by_cases c1 : nd.f0 < 0
          · have d1 : decide (nd.f0 < 0) = true := decide_eq_true c1
            go_wp2
            go_quiet (fail)
            go_wp2
            go_ret2
            exact ⟨pw_below_drewN (hbel.alloc hbel.size _) _, rfl⟩
          · have d1 : decide (nd.f0 < 0) = false := decide_eq_false c1
            rcases Nat.eq_zero_or_pos k with hk0 | hk0
            · have d2 : decide (0 < k) = false := decide_eq_false (by omega)
              have hk0' := Lib.hid hk0
              clear hk0
              by_cases c3 : nd.f1 < 1
              · have d3 : decide (nd.f1 < 1) = true := decide_eq_true c3
                go_wp2
                go_quiet (fail)
                go_wp2
                go_ret2
                exact ⟨pw_below_drewN (hbel.alloc hbel.size _) _, rfl⟩
              · have d3 : decide (nd.f1 < 1) = false := decide_eq_false c3
                by_cases c4 : 64 < nd.f1
                · have d4 : decide (64 < nd.f1) = true := decide_eq_true c4
                  go_wp2
                  go_quiet (fail)
                  go_wp2
                  go_ret2
                  exact ⟨pw_below_drewN (hbel.alloc hbel.size _) _, rfl⟩
                · have d4 : decide (64 < nd.f1) = false := decide_eq_false c4
                  by_cases c5 : nd.f2 < 0
                  · have d5 : decide (nd.f2 < 0) = true := decide_eq_true c5
                    go_wp2
                    go_quiet (fail)
                    go_wp2
                    go_ret2
                    exact ⟨pw_below_drewN (hbel.alloc hbel.size _) _, rfl⟩
                  · have d5 : decide (nd.f2 < 0) = false := decide_eq_false c5
                    by_cases c6 : 1099511627776 < nd.f2
                    · have d6 : decide (1099511627776 < nd.f2) = true := decide_eq_true c6
                      go_wp2
                      go_quiet (fail)
                      go_wp2
                      go_ret2
                      exact ⟨pw_below_drewN (hbel.alloc hbel.size _) _, rfl⟩
                    · have d6 : decide (1099511627776 < nd.f2) = false := decide_eq_false c6
                      exfalso
                      have hp : pvId nodes k = -1 := by rw [hk0'.out]; rfl
                      have := hok'.out
                      omega
            · have d2 : decide (0 < k) = true := decide_eq_true (by omega)
              obtain ⟨ad2, hA2, z0, z1, z2, z3, z4⟩ := at_T46 hr0 ((k : Int) - 1) (by omega) (by omega)
              obtain rfl := Option.some.inj hA2
              have adl2 := World.block_lt_of_cell? w _ z0
              replace z0 := (hbel.cell adl2).trans z0
              have hpv : (rd_T46 nodes ((k : Int) - 1)).f0 = pvId nodes k := by
                obtain ⟨m, rfl⟩ : ∃ m, k = m + 1 := ⟨k - 1, by omega⟩
                show (rd_T46 nodes (((m + 1 : Nat) : Int) - 1)).f0 = (rd_T46 nodes (m : Int)).f0
                rw [show ((m + 1 : Nat) : Int) - 1 = (m : Int) by omega]
              rw [hpv, show ((k : Int) - 1).toNat = k - 1 by omega] at z0
              have hsz2 := hbel.size
              have z5 : (wr.alloc (.cells #[.int .i64 nd.f0, .int .i64 nd.f1, .int .i64 nd.f2, .int .i64 nd.f3, .int .i64 nd.f4] 46)).cell? (ad.add ((k - 1) * 5)) = some (.int .i64 (pvId nodes k)) := by
                rw [World.cell?_alloc_lt _ _ _ (by rw [add_block] at adl2 ⊢; omega)]
                exact z0
              clear z0 z1 z2 z3 z4 hpv hA2 hsz2
              have hwr : IntKind.i64.wrap ((k : Int) - 1) = ((k - 1 : Nat) : Int) := by rw [IntWalk.i64_in _ (by omega)]; omega
              have hk1 : k - 1 < nodes.length := by omega
              by_cases c7 : nd.f0 ≤ pvId nodes k
              · have d7 : decide (nd.f0 ≤ pvId nodes k) = true := decide_eq_true c7
                go_wp2
                go_quiet (fail)
                go_wp2
                go_ret2
                exact ⟨pw_below_drewN (hbel.alloc hbel.size _) _, rfl⟩
              · have d7 : decide (nd.f0 ≤ pvId nodes k) = false := decide_eq_false c7
                by_cases c3 : nd.f1 < 1
                · have d3 : decide (nd.f1 < 1) = true := decide_eq_true c3
                  go_wp2
                  go_quiet (fail)
                  go_wp2
                  go_ret2
                  exact ⟨pw_below_drewN (hbel.alloc hbel.size _) _, rfl⟩
                · have d3 : decide (nd.f1 < 1) = false := decide_eq_false c3
                  by_cases c4 : 64 < nd.f1
                  · have d4 : decide (64 < nd.f1) = true := decide_eq_true c4
                    go_wp2
                    go_quiet (fail)
                    go_wp2
                    go_ret2
                    exact ⟨pw_below_drewN (hbel.alloc hbel.size _) _, rfl⟩
                  · have d4 : decide (64 < nd.f1) = false := decide_eq_false c4
                    by_cases c5 : nd.f2 < 0
                    · have d5 : decide (nd.f2 < 0) = true := decide_eq_true c5
                      go_wp2
                      go_quiet (fail)
                      go_wp2
                      go_ret2
                      exact ⟨pw_below_drewN (hbel.alloc hbel.size _) _, rfl⟩
                    · have d5 : decide (nd.f2 < 0) = false := decide_eq_false c5
                      by_cases c6 : 1099511627776 < nd.f2
                      · have d6 : decide (1099511627776 < nd.f2) = true := decide_eq_true c6
                        go_wp2
                        go_quiet (fail)
                        go_wp2
                        go_ret2
                        exact ⟨pw_below_drewN (hbel.alloc hbel.size _) _, rfl⟩
                      · have d6 : decide (1099511627776 < nd.f2) = false := decide_eq_false c6
                        exfalso
                        have := hok'.out
                        omega
        · rw [hok] at hst
          simp only [ndOK, Bool.and_eq_true, decide_eq_true_eq] at hok
          obtain ⟨⟨⟨⟨⟨o1, o2⟩, o3⟩, o4⟩, o5⟩, o6⟩ := hok
          have d1 : decide (nd.f0 < 0) = false := decide_eq_false (by omega)
          have d3 : decide (nd.f1 < 1) = false := decide_eq_false (by omega)
          have d4 : decide (64 < nd.f1) = false := decide_eq_false (by omega)
          have d5 : decide (nd.f2 < 0) = false := decide_eq_false (by omega)
          have d6 : decide (1099511627776 < nd.f2) = false := decide_eq_false (by omega)
          have hbs' := Lib.hid (show ∀ i, i < k → bs i < wr.heap.size + 1 from fun i hi => Nat.lt_succ_of_lt (hRA.lt (by simp; omega)))
          have hst' := Lib.hid hst
          have hnd' := Lib.hid hnd
          have hndv' := Lib.hid hndv
          have hRA' := Lib.hid hRA
          have hAp' := Lib.hid hAp
          have hs1' := Lib.hid hs1
          clear hst hnd hndv hRA hAp hs1
          obtain ⟨q, hq⟩ : ∃ q : Nat, nd.f1 = q := ⟨nd.f1.toNat, by omega⟩
          have hq64 : q ≤ 64 := by omega
          have hq1 : nd.f1.toNat = q := by omega
          have hmk2 : ∀ w, (Instr.makeSlice 82 (.int .i64 nd.f1) (.int .i64 nd.f1)).run Try.prog w = .ok (.slice (some ⟨w.heap.size, 0, none⟩) q q) (w.alloc (.cells ((List.replicate q false).map Value.bool).toArray 4)) := fun w => by rw [hq]; exact mkBools q hq64 w
          have hmk2' := Lib.hid hmk2
          have hq' := Lib.hid hq
          have hq1' := Lib.hid hq1
          clear hmk2 hq hq1
          have nb : Blk (wr.alloc (.cells #[.int .i64 nd.f0, .int .i64 nd.f1, .int .i64 nd.f2, .int .i64 nd.f3, .int .i64 nd.f4] 46)) wr.heap.size 46 #[.int .i64 nd.f0, .int .i64 nd.f1, .int .i64 nd.f2, .int .i64 nd.f3, .int .i64 nd.f4] := Blk.new wr _ _
          have mb := hb1.alloc (.cells #[.int .i64 nd.f0, .int .i64 nd.f1, .int .i64 nd.f2, .int .i64 nd.f3, .int .i64 nd.f4] 46)
          have nb' := Lib.hid nb
          have mb' := Lib.hid mb
          clear nb mb
          rcases Nat.eq_zero_or_pos k with hk0 | hk0
          · have d2 : decide (0 < k) = false := decide_eq_false (by omega)
            have hk0' := Lib.hid hk0
            clear hk0
            go_wp2
            go_quiet (fail)
            go_wp2
            obtain ⟨v0, hv0⟩ : ∃ v, cs1[k * 2]? = some v := ⟨cs1[k * 2]'(by rw [hs1'.out]; omega), by rw [Array.getElem?_eq_getElem]⟩
            obtain ⟨v1, hv1⟩ : ∃ v, cs1[k * 2 + 1]? = some v := ⟨cs1[k * 2 + 1]'(by rw [hs1'.out]; omega), by rw [Array.getElem?_eq_getElem]⟩
            have hv0' := Lib.hid hv0
            have hv1' := Lib.hid hv1
            clear hv0 hv1
            refine start_ (n := 10) (S := fun w' => Blk w' w.heap.size 84 cs1 ∧ Blk w' wr.heap.size 46 #[.int .i64 nd.f0, .int .i64 nd.f1, .int .i64 nd.f2, .int .i64 nd.f3, .int .i64 nd.f4]) (ds := [9]) #[false, false, false, false, false, false, false, false, false, false] (by kernel_rfl) rfl rfl ⟨mb'.out, nb'.out⟩ (fun hHeld => ?_)
            refine pure_ (i := 0) (N := some 66) (v := ?_) (a' := ?_) #[true, false, false, false, false, false, false, false, false, false] rfl rfl (by kernel_rfl) (fun _ _ _ h => h) (Or.inl ⟨by rfl, ?_⟩) ?_ ?_
            rotate_left
            · intro w'
              go_simp
              with_reducible rfl
            rotate_left
            · simp only [Act.put, List.setIfInBounds_toArray, List.set_cons_zero, List.set_cons_succ, i64_w, i32_w]
              rfl
            refine pure_ (i := 1) (N := some 67) (v := ?_) (a' := ?_) #[true, true, false, false, false, false, false, false, false, false] rfl rfl (by kernel_rfl) (fun _ _ _ h => h) (Or.inl ⟨by rfl, ?_⟩) ?_ ?_
            rotate_left
            · intro w'
              go_simp
              with_reducible rfl
            rotate_left
            · simp only [Act.put, List.setIfInBounds_toArray, List.set_cons_zero, List.set_cons_succ, i64_w, i32_w]
              rfl
            refine pure_ (i := 2) (N := some 68) (v := ?_) (a' := ?_) #[true, true, true, false, false, false, false, false, false, false] rfl rfl (by kernel_rfl) (fun _ _ _ h => h) (Or.inl ⟨by rfl, ?_⟩) ?_ ?_
            rotate_left
            · intro w'
              go_simp
              with_reducible rfl
            rotate_left
            · simp only [Act.put, List.setIfInBounds_toArray, List.set_cons_zero, List.set_cons_succ, i64_w, i32_w]
              rfl
            refine pure_ (i := 5) (N := some 71) (v := ?_) (a' := ?_) #[true, true, true, false, false, true, false, false, false, false] rfl rfl (by kernel_rfl) (fun _ _ _ h => h) (Or.inl ⟨by rfl, ?_⟩) ?_ ?_
            rotate_left
            · intro w'
              go_simp
              with_reducible rfl
            rotate_left
            · simp only [Act.put, List.setIfInBounds_toArray, List.set_cons_zero, List.set_cons_succ, i64_w, i32_w]
              rfl
            refine take_ (i := 3) (N := some 69) (v := ?_) (a' := ?_) #[true, true, true, true, false, true, false, false, false, false] rfl rfl (by kernel_rfl) (fun _ _ _ h => h) (Or.inl ⟨by rfl, ?_⟩) hHeld ?_ ?_
            rotate_left
            · rintro w' ⟨s0, s1⟩
              have t0 := s1.cell 1
              simp only [List.getElem?_toArray, List.getElem?_cons_zero, List.getElem?_cons_succ] at t0
              clear s0 s1
              go_simp
              with_reducible rfl
            rotate_left
            · simp only [Act.put, List.setIfInBounds_toArray, List.set_cons_zero, List.set_cons_succ, i64_w, i32_w]
              rfl
            refine take_ (i := 6) (N := some 72) (v := ?_) (a' := ?_) #[true, true, true, true, false, true, true, false, false, false] rfl rfl (by kernel_rfl) (fun _ _ _ h => h) (Or.inl ⟨by rfl, ?_⟩) hHeld ?_ ?_
            rotate_left
            · rintro w' ⟨s0, s1⟩
              have t0 := s1.cell 2
              simp only [List.getElem?_toArray, List.getElem?_cons_zero, List.getElem?_cons_succ] at t0
              clear s0 s1
              go_simp
              with_reducible rfl
            rotate_left
            · simp only [Act.put, List.setIfInBounds_toArray, List.set_cons_zero, List.set_cons_succ, i64_w, i32_w]
              rfl
            refine one_ (i := 4) (N := some 70) #[true, true, true, true, true, true, true, false, false, false] rfl rfl (by kernel_rfl) (by decide) (fun K hK => ?_)
            have hmk2 := hmk2'.out
            refine value_ (v := .slice (some ⟨wr.heap.size + 1, 0, none⟩) q q) (w1 := ((wr.alloc (.cells #[.int .i64 nd.f0, .int .i64 nd.f1, .int .i64 nd.f2, .int .i64 nd.f3, .int .i64 nd.f4] 46)).drewN (nq + 1)).alloc (.cells (Array.replicate q (.bool false)) 4)) (by rfl) rfl (by go_simp) ?_
            clear hmk2
            refine hK.out _ _ ⟨hHeld.1.alloc _, hHeld.2.alloc _⟩ (fun hHeld => ?_)
            clear hK K
            refine norm_ (a' := ?_) ?_ ?_
            rotate_left
            · show Act.put _ (some 70) _ = _
              simp only [Act.put, List.setIfInBounds_toArray, List.set_cons_zero, List.set_cons_succ, i64_w, i32_w]
              rfl
            refine pure_ (i := 7) (N := some 73) (v := ?_) (a' := ?_) #[true, true, true, true, true, true, true, true, false, false] rfl rfl (by kernel_rfl) (fun _ _ _ h => h) (Or.inl ⟨by rfl, ?_⟩) ?_ ?_
            rotate_left
            · intro w'
              go_simp
              with_reducible rfl
            rotate_left
            · simp only [Act.put, List.setIfInBounds_toArray, List.set_cons_zero, List.set_cons_succ, i64_w, i32_w]
              rfl
            refine pure_ (i := 8) (N := some 74) (v := ?_) (a' := ?_) #[true, true, true, true, true, true, true, true, true, false] rfl rfl (by kernel_rfl) (fun _ _ _ h => h) (Or.inl ⟨by rfl, ?_⟩) ?_ ?_
            rotate_left
            · intro w'
              go_simp
              with_reducible rfl
            rotate_left
            · simp only [Act.put, List.setIfInBounds_toArray, List.set_cons_zero, List.set_cons_succ, i64_w, i32_w]
              rfl
            refine last_ (i := 9) (N := none) #[true, true, true, true, true, true, true, true, true, true] rfl rfl (by kernel_rfl) (by decide) (fun K hK => ?_)
            have t0 := (hHeld.1.cell (k * 2)).trans hv0'.out
            have t1 := (hHeld.1.cell (k * 2 + 1)).trans hv1'.out
            have t2 := hHeld.1.frozen (k * 2)
            have t3 := hHeld.1.frozen (k * 2 + 1)
            refine skip_ (w1 := ?_) (by rfl) rfl ?_ ?_
            rotate_left
            · go_simp
              rfl
            refine hK.out _ _ ?_
            clear hK K
            refine done_ (by kernel_rfl) ?_
            have lenk : ((nodes.take k).map rm0).length = k := by simp; omega
            have eb : (((rm0 nd).taken).map Value.bool).toArray = Array.replicate q (.bool false) := by simp [rm0, hq1'.out]
            have el : (rm0 nd).taken.length = q := by simp [rm0, hq1'.out]
            have n4 : Blk (((wr.alloc (.cells #[.int .i64 nd.f0, .int .i64 nd.f1, .int .i64 nd.f2, .int .i64 nd.f3, .int .i64 nd.f4] 46)).drewN (nq + 1)).alloc (.cells (Array.replicate q (.bool false)) 4)) (wr.heap.size + 1) 4 (((rm0 nd).taken).map Value.bool).toArray := by
              have := Blk.new ((wr.alloc (.cells #[.int .i64 nd.f0, .int .i64 nd.f1, .int .i64 nd.f2, .int .i64 nd.f3, .int .i64 nd.f4] 46)).drewN (nq + 1)) 4 (Array.replicate q (.bool false))
              rw [eb]
              simpa using this
            have st := RoomsAt.step (W := (((wr.alloc (.cells #[.int .i64 nd.f0, .int .i64 nd.f1, .int .i64 nd.f2, .int .i64 nd.f3, .int .i64 nd.f4] 46)).drewN (nq + 1)).alloc (.cells (Array.replicate q (.bool false)) 4))) (r := rm0 nd) (((show RoomsAt ((wr.alloc (.cells #[.int .i64 nd.f0, .int .i64 nd.f1, .int .i64 nd.f2, .int .i64 nd.f3, .int .i64 nd.f4] 46)).drewN (nq + 1)) w.heap.size bs _ from hRA'.out.alloc _)).alloc _) ((show Blk ((wr.alloc (.cells #[.int .i64 nd.f0, .int .i64 nd.f1, .int .i64 nd.f2, .int .i64 nd.f3, .int .i64 nd.f4] 46)).drewN (nq + 1)) w.heap.size 84 cs1 from mb'.out).alloc _) (by rw [lenk, hs1'.out]; omega) n4 (by have := hown.lt; omega)
            rw [lenk, el, show (rm0 nd).mem = nd.f2 from rfl] at st
            obtain ⟨RA, cs2, hcs2, hsz2⟩ := st
            rw [hs1'.out] at hsz2
            have own2 : (((((wr.alloc (.cells #[.int .i64 nd.f0, .int .i64 nd.f1, .int .i64 nd.f2, .int .i64 nd.f3, .int .i64 nd.f4] 46)).drewN (nq + 1)).alloc (.cells (Array.replicate q (.bool false)) 4)).setCell ⟨w.heap.size, k * 2, none⟩ (.slice (some ⟨wr.heap.size + 1, 0, none⟩) q q)).setCell ⟨w.heap.size, k * 2 + 1, none⟩ (.int .i64 nd.f2)).ownsMap Try.prog 3 (plainElem (H := H) Try.prog 3) (w.heap.size + 1) k (idD nodes k) := ((((show ((wr.alloc (.cells #[.int .i64 nd.f0, .int .i64 nd.f1, .int .i64 nd.f2, .int .i64 nd.f3, .int .i64 nd.f4] 46)).drewN (nq + 1)).ownsMap Try.prog 3 (plainElem (H := H) Try.prog 3) (w.heap.size + 1) k (idD nodes k) from hown.alloc _)).alloc _).setCell (by simp) _).setCell (by simp) _
            have bel2 : Below w.heap.size w (((((wr.alloc (.cells #[.int .i64 nd.f0, .int .i64 nd.f1, .int .i64 nd.f2, .int .i64 nd.f3, .int .i64 nd.f4] 46)).drewN (nq + 1)).alloc (.cells (Array.replicate q (.bool false)) 4)).setCell ⟨w.heap.size, k * 2, none⟩ (.slice (some ⟨wr.heap.size + 1, 0, none⟩) q q)).setCell ⟨w.heap.size, k * 2 + 1, none⟩ (.int .i64 nd.f2)) := (((((show Below w.heap.size w ((wr.alloc (.cells #[.int .i64 nd.f0, .int .i64 nd.f1, .int .i64 nd.f2, .int .i64 nd.f3, .int .i64 nd.f4] 46)).drewN (nq + 1)) from pw_below_drewN (hbel.alloc hbel.size _) _)).alloc (by have := hbel.size; simp; omega) _).setCell (by simp) _).setCell (by simp) _)
            have nbd : Blk (((((wr.alloc (.cells #[.int .i64 nd.f0, .int .i64 nd.f1, .int .i64 nd.f2, .int .i64 nd.f3, .int .i64 nd.f4] 46)).drewN (nq + 1)).alloc (.cells (Array.replicate q (.bool false)) 4)).setCell ⟨w.heap.size, k * 2, none⟩ (.slice (some ⟨wr.heap.size + 1, 0, none⟩) q q)).setCell ⟨w.heap.size, k * 2 + 1, none⟩ (.int .i64 nd.f2)) wr.heap.size 46 #[.int .i64 nd.f0, .int .i64 nd.f1, .int .i64 nd.f2, .int .i64 nd.f3, .int .i64 nd.f4] := ((((show Blk ((wr.alloc (.cells #[.int .i64 nd.f0, .int .i64 nd.f1, .int .i64 nd.f2, .int .i64 nd.f3, .int .i64 nd.f4] 46)).drewN (nq + 1)) wr.heap.size 46 _ from nb'.out)).alloc _).other (by have := hown.lt; simp; omega) _).other (by have := hown.lt; simp; omega) _
            have hwrs : w.heap.size + 1 < wr.heap.size := hown.lt
            clear n4 eb el lenk hHeld hb1 hown hbel q0 q1 q2 q3 q4 mb' nb'
            generalize (World.setCell (World.setCell _ ⟨w.heap.size, k * 2, none⟩ _) ⟨w.heap.size, k * 2 + 1, none⟩ _) = WD at RA hcs2 own2 bel2 nbd ⊢
            have t0 := nbd.cell 0
            simp only [List.getElem?_toArray, List.getElem?_cons_zero] at t0
            have hkey : keyOf Try.prog 3 (.int .i64 nd.f0) = some (.int .i64 nd.f0) := keyOf_int_mk Try.underlying3 (by rw [← hndv'.out]; exact hw _ (by simp only [rd_T46, Int.toNat_natCast]; rw [List.getD_eq_getElem?_getD, List.getElem?_eq_getElem hlt]; exact List.getElem_mem hlt))
            have hwfk : (Lit.int .i64 (k : Int)).wf = true := wf64k (by omega)
            have hkm : k < maxLen := by unfold maxLen; omega
            go_wp2_with (at_mapUpdate; refine wpList_mapUpdate_own _ rfl _ _ _ 129 rfl 3 3 (int_keyed Try.underlying3) Try.underlying129 _ (w.heap.size + 1) k _ rfl own2 hkm _ _ _ rfl rfl hkey _ [] (plainElem_int Try.underlying3 hwfk) ?_; intro w1 hown1 hgrow1)
            go_roundw
            case rel =>
              refine ⟨k + 1, fun i => if i = k then wr.heap.size + 1 else bs i, by go_num, by omega, hst'.out, ⟨cs2, hcs2.kept hgrow1 (by simp), hsz2⟩, ?_, ?_, ?_, bel2.grown hgrow1 bel2.size (fun j hj => by cases hj; omega)⟩
              rotate_left 2
              · rw [idD, hndv'.out]; exact hown1
              · have h2 := RA.grown hgrow1 rfl
                have e3 : (nodes.take (k + 1)).map rm0 = (nodes.take k).map rm0 ++ [rm0 nd] := by rw [List.take_succ_eq_append_getElem hlt, List.map_append, ← hndv'.out]; simp [rd_T46, hlt]
                rw [e3]
                exact h2
              · exact hAp'.out.step hbs'.out
            case measure => simp [intOf]; omega
          · have d2 : decide (0 < k) = true := decide_eq_true (by omega)
            obtain ⟨ad2, hA2, z0, z1, z2, z3, z4⟩ := at_T46 hr0 ((k : Int) - 1) (by omega) (by omega)
            obtain rfl := Option.some.inj hA2
            have adl2 := World.block_lt_of_cell? w _ z0
            replace z0 := (hbel.cell adl2).trans z0
            have hpv : (rd_T46 nodes ((k : Int) - 1)).f0 = pvId nodes k := by
              obtain ⟨m, rfl⟩ : ∃ m, k = m + 1 := ⟨k - 1, by omega⟩
              show (rd_T46 nodes (((m + 1 : Nat) : Int) - 1)).f0 = (rd_T46 nodes (m : Int)).f0
              rw [show ((m + 1 : Nat) : Int) - 1 = (m : Int) by omega]
            rw [hpv, show ((k : Int) - 1).toNat = k - 1 by omega] at z0
            have hsz2 := hbel.size
            have z5 : (wr.alloc (.cells #[.int .i64 nd.f0, .int .i64 nd.f1, .int .i64 nd.f2, .int .i64 nd.f3, .int .i64 nd.f4] 46)).cell? (ad.add ((k - 1) * 5)) = some (.int .i64 (pvId nodes k)) := by
              rw [World.cell?_alloc_lt _ _ _ (by rw [add_block] at adl2 ⊢; omega)]
              exact z0
            clear z0 z1 z2 z3 z4 hpv hA2 hsz2
            have d7 : decide (nd.f0 ≤ pvId nodes k) = false := decide_eq_false (by omega)
            have hwr : IntKind.i64.wrap ((k : Int) - 1) = ((k - 1 : Nat) : Int) := by rw [IntWalk.i64_in _ (by omega)]; omega
            have hk1 : k - 1 < nodes.length := by omega
            go_wp2
            go_quiet (fail)
            go_wp2
            obtain ⟨v0, hv0⟩ : ∃ v, cs1[k * 2]? = some v := ⟨cs1[k * 2]'(by rw [hs1'.out]; omega), by rw [Array.getElem?_eq_getElem]⟩
            obtain ⟨v1, hv1⟩ : ∃ v, cs1[k * 2 + 1]? = some v := ⟨cs1[k * 2 + 1]'(by rw [hs1'.out]; omega), by rw [Array.getElem?_eq_getElem]⟩
            have hv0' := Lib.hid hv0
            have hv1' := Lib.hid hv1
            clear hv0 hv1
            refine start_ (n := 10) (S := fun w' => Blk w' w.heap.size 84 cs1 ∧ Blk w' wr.heap.size 46 #[.int .i64 nd.f0, .int .i64 nd.f1, .int .i64 nd.f2, .int .i64 nd.f3, .int .i64 nd.f4]) (ds := [9]) #[false, false, false, false, false, false, false, false, false, false] (by kernel_rfl) rfl rfl ⟨mb'.out, nb'.out⟩ (fun hHeld => ?_)
            refine pure_ (i := 0) (N := some 66) (v := ?_) (a' := ?_) #[true, false, false, false, false, false, false, false, false, false] rfl rfl (by kernel_rfl) (fun _ _ _ h => h) (Or.inl ⟨by rfl, ?_⟩) ?_ ?_
            rotate_left
            · intro w'
              go_simp
              with_reducible rfl
            rotate_left
            · simp only [Act.put, List.setIfInBounds_toArray, List.set_cons_zero, List.set_cons_succ, i64_w, i32_w]
              rfl
            refine pure_ (i := 1) (N := some 67) (v := ?_) (a' := ?_) #[true, true, false, false, false, false, false, false, false, false] rfl rfl (by kernel_rfl) (fun _ _ _ h => h) (Or.inl ⟨by rfl, ?_⟩) ?_ ?_
            rotate_left
            · intro w'
              go_simp
              with_reducible rfl
            rotate_left
            · simp only [Act.put, List.setIfInBounds_toArray, List.set_cons_zero, List.set_cons_succ, i64_w, i32_w]
              rfl
            refine pure_ (i := 2) (N := some 68) (v := ?_) (a' := ?_) #[true, true, true, false, false, false, false, false, false, false] rfl rfl (by kernel_rfl) (fun _ _ _ h => h) (Or.inl ⟨by rfl, ?_⟩) ?_ ?_
            rotate_left
            · intro w'
              go_simp
              with_reducible rfl
            rotate_left
            · simp only [Act.put, List.setIfInBounds_toArray, List.set_cons_zero, List.set_cons_succ, i64_w, i32_w]
              rfl
            refine pure_ (i := 5) (N := some 71) (v := ?_) (a' := ?_) #[true, true, true, false, false, true, false, false, false, false] rfl rfl (by kernel_rfl) (fun _ _ _ h => h) (Or.inl ⟨by rfl, ?_⟩) ?_ ?_
            rotate_left
            · intro w'
              go_simp
              with_reducible rfl
            rotate_left
            · simp only [Act.put, List.setIfInBounds_toArray, List.set_cons_zero, List.set_cons_succ, i64_w, i32_w]
              rfl
            refine take_ (i := 3) (N := some 69) (v := ?_) (a' := ?_) #[true, true, true, true, false, true, false, false, false, false] rfl rfl (by kernel_rfl) (fun _ _ _ h => h) (Or.inl ⟨by rfl, ?_⟩) hHeld ?_ ?_
            rotate_left
            · rintro w' ⟨s0, s1⟩
              have t0 := s1.cell 1
              simp only [List.getElem?_toArray, List.getElem?_cons_zero, List.getElem?_cons_succ] at t0
              clear s0 s1
              go_simp
              with_reducible rfl
            rotate_left
            · simp only [Act.put, List.setIfInBounds_toArray, List.set_cons_zero, List.set_cons_succ, i64_w, i32_w]
              rfl
            refine take_ (i := 6) (N := some 72) (v := ?_) (a' := ?_) #[true, true, true, true, false, true, true, false, false, false] rfl rfl (by kernel_rfl) (fun _ _ _ h => h) (Or.inl ⟨by rfl, ?_⟩) hHeld ?_ ?_
            rotate_left
            · rintro w' ⟨s0, s1⟩
              have t0 := s1.cell 2
              simp only [List.getElem?_toArray, List.getElem?_cons_zero, List.getElem?_cons_succ] at t0
              clear s0 s1
              go_simp
              with_reducible rfl
            rotate_left
            · simp only [Act.put, List.setIfInBounds_toArray, List.set_cons_zero, List.set_cons_succ, i64_w, i32_w]
              rfl
            refine one_ (i := 4) (N := some 70) #[true, true, true, true, true, true, true, false, false, false] rfl rfl (by kernel_rfl) (by decide) (fun K hK => ?_)
            have hmk2 := hmk2'.out
            refine value_ (v := .slice (some ⟨wr.heap.size + 1, 0, none⟩) q q) (w1 := ((wr.alloc (.cells #[.int .i64 nd.f0, .int .i64 nd.f1, .int .i64 nd.f2, .int .i64 nd.f3, .int .i64 nd.f4] 46)).drewN (nq + 1)).alloc (.cells (Array.replicate q (.bool false)) 4)) (by rfl) rfl (by go_simp) ?_
            clear hmk2
            refine hK.out _ _ ⟨hHeld.1.alloc _, hHeld.2.alloc _⟩ (fun hHeld => ?_)
            clear hK K
            refine norm_ (a' := ?_) ?_ ?_
            rotate_left
            · show Act.put _ (some 70) _ = _
              simp only [Act.put, List.setIfInBounds_toArray, List.set_cons_zero, List.set_cons_succ, i64_w, i32_w]
              rfl
            refine pure_ (i := 7) (N := some 73) (v := ?_) (a' := ?_) #[true, true, true, true, true, true, true, true, false, false] rfl rfl (by kernel_rfl) (fun _ _ _ h => h) (Or.inl ⟨by rfl, ?_⟩) ?_ ?_
            rotate_left
            · intro w'
              go_simp
              with_reducible rfl
            rotate_left
            · simp only [Act.put, List.setIfInBounds_toArray, List.set_cons_zero, List.set_cons_succ, i64_w, i32_w]
              rfl
            refine pure_ (i := 8) (N := some 74) (v := ?_) (a' := ?_) #[true, true, true, true, true, true, true, true, true, false] rfl rfl (by kernel_rfl) (fun _ _ _ h => h) (Or.inl ⟨by rfl, ?_⟩) ?_ ?_
            rotate_left
            · intro w'
              go_simp
              with_reducible rfl
            rotate_left
            · simp only [Act.put, List.setIfInBounds_toArray, List.set_cons_zero, List.set_cons_succ, i64_w, i32_w]
              rfl
            refine last_ (i := 9) (N := none) #[true, true, true, true, true, true, true, true, true, true] rfl rfl (by kernel_rfl) (by decide) (fun K hK => ?_)
            have t0 := (hHeld.1.cell (k * 2)).trans hv0'.out
            have t1 := (hHeld.1.cell (k * 2 + 1)).trans hv1'.out
            have t2 := hHeld.1.frozen (k * 2)
            have t3 := hHeld.1.frozen (k * 2 + 1)
            refine skip_ (w1 := ?_) (by rfl) rfl ?_ ?_
            rotate_left
            · go_simp
              rfl
            refine hK.out _ _ ?_
            clear hK K
            refine done_ (by kernel_rfl) ?_
            have lenk : ((nodes.take k).map rm0).length = k := by simp; omega
            have eb : (((rm0 nd).taken).map Value.bool).toArray = Array.replicate q (.bool false) := by simp [rm0, hq1'.out]
            have el : (rm0 nd).taken.length = q := by simp [rm0, hq1'.out]
            have n4 : Blk (((wr.alloc (.cells #[.int .i64 nd.f0, .int .i64 nd.f1, .int .i64 nd.f2, .int .i64 nd.f3, .int .i64 nd.f4] 46)).drewN (nq + 1)).alloc (.cells (Array.replicate q (.bool false)) 4)) (wr.heap.size + 1) 4 (((rm0 nd).taken).map Value.bool).toArray := by
              have := Blk.new ((wr.alloc (.cells #[.int .i64 nd.f0, .int .i64 nd.f1, .int .i64 nd.f2, .int .i64 nd.f3, .int .i64 nd.f4] 46)).drewN (nq + 1)) 4 (Array.replicate q (.bool false))
              rw [eb]
              simpa using this
            have st := RoomsAt.step (W := (((wr.alloc (.cells #[.int .i64 nd.f0, .int .i64 nd.f1, .int .i64 nd.f2, .int .i64 nd.f3, .int .i64 nd.f4] 46)).drewN (nq + 1)).alloc (.cells (Array.replicate q (.bool false)) 4))) (r := rm0 nd) (((show RoomsAt ((wr.alloc (.cells #[.int .i64 nd.f0, .int .i64 nd.f1, .int .i64 nd.f2, .int .i64 nd.f3, .int .i64 nd.f4] 46)).drewN (nq + 1)) w.heap.size bs _ from hRA'.out.alloc _)).alloc _) ((show Blk ((wr.alloc (.cells #[.int .i64 nd.f0, .int .i64 nd.f1, .int .i64 nd.f2, .int .i64 nd.f3, .int .i64 nd.f4] 46)).drewN (nq + 1)) w.heap.size 84 cs1 from mb'.out).alloc _) (by rw [lenk, hs1'.out]; omega) n4 (by have := hown.lt; omega)
            rw [lenk, el, show (rm0 nd).mem = nd.f2 from rfl] at st
            obtain ⟨RA, cs2, hcs2, hsz2⟩ := st
            rw [hs1'.out] at hsz2
            have own2 : (((((wr.alloc (.cells #[.int .i64 nd.f0, .int .i64 nd.f1, .int .i64 nd.f2, .int .i64 nd.f3, .int .i64 nd.f4] 46)).drewN (nq + 1)).alloc (.cells (Array.replicate q (.bool false)) 4)).setCell ⟨w.heap.size, k * 2, none⟩ (.slice (some ⟨wr.heap.size + 1, 0, none⟩) q q)).setCell ⟨w.heap.size, k * 2 + 1, none⟩ (.int .i64 nd.f2)).ownsMap Try.prog 3 (plainElem (H := H) Try.prog 3) (w.heap.size + 1) k (idD nodes k) := ((((show ((wr.alloc (.cells #[.int .i64 nd.f0, .int .i64 nd.f1, .int .i64 nd.f2, .int .i64 nd.f3, .int .i64 nd.f4] 46)).drewN (nq + 1)).ownsMap Try.prog 3 (plainElem (H := H) Try.prog 3) (w.heap.size + 1) k (idD nodes k) from hown.alloc _)).alloc _).setCell (by simp) _).setCell (by simp) _
            have bel2 : Below w.heap.size w (((((wr.alloc (.cells #[.int .i64 nd.f0, .int .i64 nd.f1, .int .i64 nd.f2, .int .i64 nd.f3, .int .i64 nd.f4] 46)).drewN (nq + 1)).alloc (.cells (Array.replicate q (.bool false)) 4)).setCell ⟨w.heap.size, k * 2, none⟩ (.slice (some ⟨wr.heap.size + 1, 0, none⟩) q q)).setCell ⟨w.heap.size, k * 2 + 1, none⟩ (.int .i64 nd.f2)) := (((((show Below w.heap.size w ((wr.alloc (.cells #[.int .i64 nd.f0, .int .i64 nd.f1, .int .i64 nd.f2, .int .i64 nd.f3, .int .i64 nd.f4] 46)).drewN (nq + 1)) from pw_below_drewN (hbel.alloc hbel.size _) _)).alloc (by have := hbel.size; simp; omega) _).setCell (by simp) _).setCell (by simp) _)
            have nbd : Blk (((((wr.alloc (.cells #[.int .i64 nd.f0, .int .i64 nd.f1, .int .i64 nd.f2, .int .i64 nd.f3, .int .i64 nd.f4] 46)).drewN (nq + 1)).alloc (.cells (Array.replicate q (.bool false)) 4)).setCell ⟨w.heap.size, k * 2, none⟩ (.slice (some ⟨wr.heap.size + 1, 0, none⟩) q q)).setCell ⟨w.heap.size, k * 2 + 1, none⟩ (.int .i64 nd.f2)) wr.heap.size 46 #[.int .i64 nd.f0, .int .i64 nd.f1, .int .i64 nd.f2, .int .i64 nd.f3, .int .i64 nd.f4] := ((((show Blk ((wr.alloc (.cells #[.int .i64 nd.f0, .int .i64 nd.f1, .int .i64 nd.f2, .int .i64 nd.f3, .int .i64 nd.f4] 46)).drewN (nq + 1)) wr.heap.size 46 _ from nb'.out)).alloc _).other (by have := hown.lt; simp; omega) _).other (by have := hown.lt; simp; omega) _
            have hwrs : w.heap.size + 1 < wr.heap.size := hown.lt
            clear n4 eb el lenk hHeld hb1 hown hbel q0 q1 q2 q3 q4 mb' nb'
            generalize (World.setCell (World.setCell _ ⟨w.heap.size, k * 2, none⟩ _) ⟨w.heap.size, k * 2 + 1, none⟩ _) = WD at RA hcs2 own2 bel2 nbd ⊢
            have t0 := nbd.cell 0
            simp only [List.getElem?_toArray, List.getElem?_cons_zero] at t0
            have hkey : keyOf Try.prog 3 (.int .i64 nd.f0) = some (.int .i64 nd.f0) := keyOf_int_mk Try.underlying3 (by rw [← hndv'.out]; exact hw _ (by simp only [rd_T46, Int.toNat_natCast]; rw [List.getD_eq_getElem?_getD, List.getElem?_eq_getElem hlt]; exact List.getElem_mem hlt))
            have hwfk : (Lit.int .i64 (k : Int)).wf = true := wf64k (by omega)
            have hkm : k < maxLen := by unfold maxLen; omega
            go_wp2_with (at_mapUpdate; refine wpList_mapUpdate_own _ rfl _ _ _ 129 rfl 3 3 (int_keyed Try.underlying3) Try.underlying129 _ (w.heap.size + 1) k _ rfl own2 hkm _ _ _ rfl rfl hkey _ [] (plainElem_int Try.underlying3 hwfk) ?_; intro w1 hown1 hgrow1)
            go_roundw
            case rel =>
              refine ⟨k + 1, fun i => if i = k then wr.heap.size + 1 else bs i, by go_num, by omega, hst'.out, ⟨cs2, hcs2.kept hgrow1 (by simp), hsz2⟩, ?_, ?_, ?_, bel2.grown hgrow1 bel2.size (fun j hj => by cases hj; omega)⟩
              rotate_left 2
              · rw [idD, hndv'.out]; exact hown1
              · have h2 := RA.grown hgrow1 rfl
                have e3 : (nodes.take (k + 1)).map rm0 = (nodes.take k).map rm0 ++ [rm0 nd] := by rw [List.take_succ_eq_append_getElem hlt, List.map_append, ← hndv'.out]; simp [rd_T46, hlt]
                rw [e3]
                exact h2
              · exact hAp'.out.step hbs'.out
            case measure => simp [intOf]; omega
      · have hk' : k = nodes.length := by omega
        subst hk'
        have hall : (nodes.take nodes.length) = nodes := List.take_length
        rw [hall] at hnd hRA
        have hF2 : RF = rfOf (roomsL nodes (nodes.map rm0) leases) := by rw [hF'.out, if_pos hnd]; cases roomsL nodes (nodes.map rm0) leases <;> rfl
        obtain ⟨hrise, hbd⟩ := nds_all hnd
        have hspec := fun z d => idD_spec (H := H) nodes hrise z d nodes.length (Nat.le_refl _)
        have hbig : leases.length ≤ 9223372036854775807 := hr1.2.1
        have hspec' := Lib.hid hspec
        have hF2' := Lib.hid hF2
        have hbd' := Lib.hid hbd
        have hRA' := Lib.hid hRA
        have hAp' := Lib.hid hAp
        have hs1' := Lib.hid hs1
        have hall' := Lib.hid hall
        clear hspec hF2 hbd hRA hAp hs1 hall hnd hF' hrise
        have hw1 : wr = wr := rfl
        go_wp2
        have bnd0 : ∀ r ∈ nodes.map rm0, r.taken.length ≤ 64 ∧ r.mem ≤ 1099511627776 := fun r hr => by
          obtain ⟨n, hn, rfl⟩ := List.mem_map.1 hr
          have := hbd'.out n hn
          simp only [rm0, List.length_replicate]
          omega
        have bnd0' := Lib.hid bnd0
        clear bnd0
        go_loopw [82] (fun iv wq => ∃ (j : Nat) (rs : List Rm), iv = .int .i64 j ∧ j ≤ leases.length ∧ rs.length = nodes.length ∧ RF = rfOf (roomsL nodes rs (leases.drop j)) ∧ (∀ r ∈ rs, r.taken.length ≤ 64 ∧ r.mem ≤ 1099511627776) ∧ (∃ cs, Blk wq w.heap.size 84 cs ∧ cs.size = 2 * nodes.length) ∧ RoomsAt wq w.heap.size bs rs ∧
            wq.ownsMap Try.prog 3 (plainElem (H := H) Try.prog 3) (w.heap.size + 1) nodes.length (idD nodes nodes.length) ∧ Below w.heap.size w wq)
          (fun iv _ => leases.length - (intOf iv).toNat)
        case atStart => exact ⟨0, _, rfl, Nat.zero_le _, by simp, by rw [List.drop_zero]; exact hF2'.out, bnd0'.out, ⟨cs1, hb1, hs1'.out⟩, hRA'.out, hown, hbel⟩
        case round =>
          clear hb1 hown hbel hRA' bnd0' hF2' hw1
          obtain ⟨j, rs, rfl, hj, hrl, hRF, hbnd, ⟨cs2, hb2, hs2⟩, hRA, hown, hbel⟩ := hrel
          by_cases hlt2 : j < leases.length
          · obtain ⟨x, hxv⟩ : ∃ x, rd_T50 leases (j : Int) = x := ⟨_, rfl⟩
            have hd : leases.drop j = x :: leases.drop (j + 1) := by rw [List.drop_eq_getElem_cons hlt2, ← hxv]; simp [rd_T50, hlt2]
            have hx2 : (Lit.int .i64 x.f2).wf = true := hw2 x (by rw [← hxv]; simp [rd_T50, hlt2])
            obtain ⟨ad2, A3, c3, hA2, q0, q1, q2, q3, q4, q5, q6, q7, l3, g3⟩ := at_T50 hr1 (j : Int) (by omega) (by omega)
            subst hA2
            rw [hxv, Int.toNat_natCast] at q0 q1 q2 q3 q4 q5 q6 q7
            rw [hxv] at l3 g3
            have adl : (ad2.add (j * 8)).block < w.heap.size := World.block_lt_of_cell? w _ q0
            replace q0 := (hbel.cell adl).trans q0
            replace q1 := (hbel.cell (p := ⟨(ad2.add (j * 8)).block, (ad2.add (j * 8)).off + 1, none⟩) adl).trans q1
            replace q2 := (hbel.cell (p := ⟨(ad2.add (j * 8)).block, (ad2.add (j * 8)).off + 2, none⟩) adl).trans q2
            replace q3 := (hbel.cell (p := ⟨(ad2.add (j * 8)).block, (ad2.add (j * 8)).off + 3, none⟩) adl).trans q3
            replace q4 := (hbel.cell (p := ⟨(ad2.add (j * 8)).block, (ad2.add (j * 8)).off + 4, none⟩) adl).trans q4
            replace q5 := (hbel.cell (p := ⟨(ad2.add (j * 8)).block, (ad2.add (j * 8)).off + 5, none⟩) adl).trans q5
            replace q6 := (hbel.cell (p := ⟨(ad2.add (j * 8)).block, (ad2.add (j * 8)).off + 6, none⟩) adl).trans q6
            replace q7 := (hbel.cell (p := ⟨(ad2.add (j * 8)).block, (ad2.add (j * 8)).off + 7, none⟩) adl).trans q7
            have hkey : keyOf Try.prog 3 (.int .i64 x.f2) = some (.int .i64 x.f2) := keyOf_int_mk Try.underlying3 hx2
            have hWQ : (wr.alloc (.cells #[.int .i64 x.f0, .int .i64 x.f1, .int .i64 x.f2, .slice A3 x.f3.length c3, .int .i64 x.f4, .int .i64 x.f5, .int .i64 x.f6, .bool x.f7] 50)) = (wr.alloc (.cells #[.int .i64 x.f0, .int .i64 x.f1, .int .i64 x.f2, .slice A3 x.f3.length c3, .int .i64 x.f4, .int .i64 x.f5, .int .i64 x.f6, .bool x.f7] 50)) := rfl
            have hown1 : (wr.alloc (.cells #[.int .i64 x.f0, .int .i64 x.f1, .int .i64 x.f2, .slice A3 x.f3.length c3, .int .i64 x.f4, .int .i64 x.f5, .int .i64 x.f6, .bool x.f7] 50)).ownsMap Try.prog 3 (plainElem (H := H) Try.prog 3) (w.heap.size + 1) nodes.length (idD nodes nodes.length) := hown.alloc _
            have nb : Blk (wr.alloc (.cells #[.int .i64 x.f0, .int .i64 x.f1, .int .i64 x.f2, .slice A3 x.f3.length c3, .int .i64 x.f4, .int .i64 x.f5, .int .i64 x.f6, .bool x.f7] 50)) wr.heap.size 50 #[.int .i64 x.f0, .int .i64 x.f1, .int .i64 x.f2, .slice A3 x.f3.length c3, .int .i64 x.f4, .int .i64 x.f5, .int .i64 x.f6, .bool x.f7] := Blk.new wr _ _
            have b3 : Blk (wr.alloc (.cells #[.int .i64 x.f0, .int .i64 x.f1, .int .i64 x.f2, .slice A3 x.f3.length c3, .int .i64 x.f4, .int .i64 x.f5, .int .i64 x.f6, .bool x.f7] 50)) w.heap.size 84 cs2 := hb2.alloc _
            have RA1 : RoomsAt (wr.alloc (.cells #[.int .i64 x.f0, .int .i64 x.f1, .int .i64 x.f2, .slice A3 x.f3.length c3, .int .i64 x.f4, .int .i64 x.f5, .int .i64 x.f6, .bool x.f7] 50)) w.heap.size bs rs := hRA.alloc _
            have bel1 : Below w.heap.size w (wr.alloc (.cells #[.int .i64 x.f0, .int .i64 x.f1, .int .i64 x.f2, .slice A3 x.f3.length c3, .int .i64 x.f4, .int .i64 x.f5, .int .i64 x.f6, .bool x.f7] 50)) := hbel.alloc hbel.size _
            have gC : Kd.C (Kd.int .i64) (wr.alloc (.cells #[.int .i64 x.f0, .int .i64 x.f1, .int .i64 x.f2, .slice A3 x.f3.length c3, .int .i64 x.f4, .int .i64 x.f5, .int .i64 x.f6, .bool x.f7] 50)).drew A3 x.f3.length x.f3 := Kd.C_below g3 bel1.drew
            have gA : ∀ ad, A3 = some ad → 0 < x.f3.length → ad.block < w.heap.size := fun ad he hp => by
              obtain ⟨ad', hAd, hcell⟩ := Kd.at_int g3 0 (by omega) (by omega)
              rw [he] at hAd
              obtain rfl := Option.some.inj hAd
              have := World.block_lt_of_cell? w _ hcell
              rw [add_block] at this
              exact this
            have hRF' := Lib.hid hRF
            have hd' := Lib.hid hd
            have nb' := Lib.hid nb
            have b3' := Lib.hid b3
            have RA1' := Lib.hid RA1
            have bel1' := Lib.hid bel1
            have gC' := Lib.hid gC
            have gA' := Lib.hid gA
            have hbnd' := Lib.hid hbnd
            have hs2' := Lib.hid hs2
            have hRAl' := Lib.hid (show ∀ i, i < rs.length → bs i < wr.heap.size from fun i hi => hRA.lt hi)
            have hrl' := Lib.hid hrl
            have hwrs : w.heap.size + 1 < wr.heap.size := hown.lt
            clear hRF hd nb b3 RA1 bel1 gC gA hbnd hs2 hrl hWQ hxv g3 hb2 hRA hown hw hw2 hr0 hr1 hx2
            cases hf : nodes.findIdx? (fun n => n.f0 == x.f2) with
            | none =>
              have g1 : Maps.has (idD (H := H) nodes nodes.length) (.int .i64 x.f2) = false := (hspec'.out x.f2 (.map [])).1 (fun i hi e => by
                have := List.findIdx?_eq_none_iff.1 hf _ (List.mem_of_getElem? (rd_get hi))
                simp [e] at this)
              have hbad : RF = (4, []) := by rw [hRF'.out, hd'.out, roomsL_none hf]; rfl
              subst hbad
              clear hf hRF'
              go_wp2_with (at_lookup; refine wpList_lookup_own_ok_int _ rfl _ _ 129 rfl 3 3 .i64 (int_keyed Try.underlying3) Try.underlying129 Try.underlying3 (zeroInt _) (w.heap.size + 1) nodes.length _ rfl hown1 _ _ rfl hkey ?_; intro c hat hwc; simp only [g1])
              refine start_ (n := 10) (S := fun w' => Blk w' wr.heap.size 50 #[.int .i64 x.f0, .int .i64 x.f1, .int .i64 x.f2, .slice A3 x.f3.length c3, .int .i64 x.f4, .int .i64 x.f5, .int .i64 x.f6, .bool x.f7]) (ds := []) #[false, false, false, false, false, false, false, false, false, false] (by kernel_rfl) rfl rfl nb'.out.drew (fun hHeld => ?_)
              refine pure_ (i := 0) (N := some 93) (v := ?_) (a' := ?_) #[true, false, false, false, false, false, false, false, false, false] rfl rfl (by kernel_rfl) (fun _ _ _ h => h) (Or.inl ⟨by rfl, ?_⟩) ?_ ?_
              rotate_left
              · intro w'
                go_simp
                with_reducible rfl
              rotate_left
              · simp only [Act.put, List.setIfInBounds_toArray, List.set_cons_zero, List.set_cons_succ, i64_w, i32_w]
                rfl
              refine pure_ (i := 1) (N := some 94) (v := ?_) (a' := ?_) #[true, true, false, false, false, false, false, false, false, false] rfl rfl (by kernel_rfl) (fun _ _ _ h => h) (Or.inl ⟨by rfl, ?_⟩) ?_ ?_
              rotate_left
              · intro w'
                go_simp
                with_reducible rfl
              rotate_left
              · simp only [Act.put, List.setIfInBounds_toArray, List.set_cons_zero, List.set_cons_succ, i64_w, i32_w]
                rfl
              refine pure_ (i := 2) (N := some 95) (v := ?_) (a' := ?_) #[true, true, true, false, false, false, false, false, false, false] rfl rfl (by kernel_rfl) (fun _ _ _ h => h) (Or.inl ⟨by rfl, ?_⟩) ?_ ?_
              rotate_left
              · intro w'
                go_simp
                with_reducible rfl
              rotate_left
              · simp only [Act.put, List.setIfInBounds_toArray, List.set_cons_zero, List.set_cons_succ, i64_w, i32_w]
                rfl
              refine pure_ (i := 3) (N := some 96) (v := undef) (a' := ?_) #[true, true, true, true, false, false, false, false, false, false] rfl rfl (by kernel_rfl) (fun _ _ _ h => h) (Or.inr ⟨by rfl, rfl⟩) ?_ ?_
              rotate_left
              · simp only [Act.put, List.setIfInBounds_toArray, List.set_cons_zero, List.set_cons_succ, i64_w, i32_w]
                rfl
              refine pure_ (i := 4) (N := some 97) (v := undef) (a' := ?_) #[true, true, true, true, true, false, false, false, false, false] rfl rfl (by kernel_rfl) (fun _ _ _ h => h) (Or.inr ⟨by rfl, rfl⟩) ?_ ?_
              rotate_left
              · simp only [Act.put, List.setIfInBounds_toArray, List.set_cons_zero, List.set_cons_succ, i64_w, i32_w]
                rfl
              refine pure_ (i := 5) (N := some 98) (v := undef) (a' := ?_) #[true, true, true, true, true, true, false, false, false, false] rfl rfl (by kernel_rfl) (fun _ _ _ h => h) (Or.inr ⟨by rfl, rfl⟩) ?_ ?_
              rotate_left
              · simp only [Act.put, List.setIfInBounds_toArray, List.set_cons_zero, List.set_cons_succ, i64_w, i32_w]
                rfl
              refine pure_ (i := 6) (N := some 99) (v := undef) (a' := ?_) #[true, true, true, true, true, true, true, false, false, false] rfl rfl (by kernel_rfl) (fun _ _ _ h => h) (Or.inr ⟨by rfl, rfl⟩) ?_ ?_
              rotate_left
              · simp only [Act.put, List.setIfInBounds_toArray, List.set_cons_zero, List.set_cons_succ, i64_w, i32_w]
                rfl
              refine pure_ (i := 7) (N := some 100) (v := undef) (a' := ?_) #[true, true, true, true, true, true, true, true, false, false] rfl rfl (by kernel_rfl) (fun _ _ _ h => h) (Or.inr ⟨by rfl, rfl⟩) ?_ ?_
              rotate_left
              · simp only [Act.put, List.setIfInBounds_toArray, List.set_cons_zero, List.set_cons_succ, i64_w, i32_w]
                rfl
              refine pure_ (i := 8) (N := some 101) (v := undef) (a' := ?_) #[true, true, true, true, true, true, true, true, true, false] rfl rfl (by kernel_rfl) (fun _ _ _ h => h) (Or.inr ⟨by rfl, rfl⟩) ?_ ?_
              rotate_left
              · simp only [Act.put, List.setIfInBounds_toArray, List.set_cons_zero, List.set_cons_succ, i64_w, i32_w]
                rfl
              refine pure_ (i := 9) (N := some 102) (v := ?_) (a' := ?_) #[true, true, true, true, true, true, true, true, true, true] rfl rfl (by kernel_rfl) (fun _ _ _ h => h) (Or.inl ⟨by rfl, ?_⟩) ?_ ?_
              rotate_left
              · intro w'
                go_simp
                with_reducible rfl
              rotate_left
              · simp only [Act.put, List.setIfInBounds_toArray, List.set_cons_zero, List.set_cons_succ, i64_w, i32_w]
                rfl
              refine done_ (by kernel_rfl) ?_
              clear hHeld
              go_wp2
              go_ret2
              exact ⟨bel1'.out.drew, rfl⟩
            | some i =>
              obtain ⟨hi, hp, _⟩ := List.findIdx?_eq_some_iff_getElem.1 hf
              have he : (rd_T46 nodes (i : Int)).f0 = x.f2 := by simpa [rd_T46, hi] using hp
              obtain ⟨g1, g2⟩ := (hspec'.out x.f2 (.lit (.int .i64 0))).2 i hi he
              obtain ⟨r, hr⟩ : ∃ r, rs[i]? = some r := ⟨rs[i]'(by rw [hrl'.out]; exact hi), List.getElem?_eq_getElem _⟩
              obtain ⟨a1, a2, a3, a4⟩ := RA1'.out i r hr
              obtain ⟨m1, m2⟩ := hbnd'.out r (List.mem_of_getElem? hr)
              have hCall := lease_calls w.heap.size (i * 2) (bs i) w.heap.size r x A3 c3 (wr.alloc (.cells #[.int .i64 x.f0, .int .i64 x.f1, .int .i64 x.f2, .slice A3 x.f3.length c3, .int .i64 x.f4, .int .i64 x.f5, .int .i64 x.f6, .bool x.f7] 50)).drew l3 gC'.out gA'.out (Nat.le_refl _) (by omega) (by omega) m1 m2 (by show w.heap.size < (wr.alloc (.cells #[.int .i64 x.f0, .int .i64 x.f1, .int .i64 x.f2, .slice A3 x.f3.length c3, .int .i64 x.f4, .int .i64 x.f5, .int .i64 x.f6, .bool x.f7] 50)).heap.size; simp; omega) a1 a2 (b3'.out.frozen _) a3
              have hneb' := Lib.hid (show wr.heap.size ≠ bs i from fun e => by have := hRAl'.out i (by rw [hrl'.out]; exact hi); omega)
              have hCall' := Lib.hid hCall
              have hstep : RF = rfOf (match leaseR r x with
                | none => none
                | some r => roomsL nodes (rs.set i r) (leases.drop (j + 1))) := by
                rw [hRF'.out, hd'.out, roomsL_some hf]
                have : rs.getD i ⟨[], 0⟩ = r := by rw [List.getD_eq_getElem?_getD, hr]; rfl
                rw [this]
              have hstep' := Lib.hid hstep
              have hr' := Lib.hid hr
              have g2' := Lib.hid g2
              have a3' := Lib.hid a3
              have hf' := Lib.hid hf
              clear hCall hstep hr a1 a2 a3 hf hp he g2 hRF'
              go_wp2_with (at_lookup; refine wpList_lookup_own_ok_int _ rfl _ _ 129 rfl 3 3 .i64 (int_keyed Try.underlying3) Try.underlying129 Try.underlying3 (zeroInt _) (w.heap.size + 1) nodes.length _ rfl hown1 _ _ rfl hkey ?_; intro c hat hwc; obtain rfl : c = (i : Int) := (by rw [g2'.out] at hat; cases hat; rfl); simp only [g1])
              cases hle : leaseR r x with
              | none =>
                have hbad : RF = (4, []) := by rw [hstep'.out, hle]; rfl
                have hle' := Lib.hid hle
                clear hle
                subst hbad
                refine start_ (n := 10) (S := fun w' => Blk w' wr.heap.size 50 #[.int .i64 x.f0, .int .i64 x.f1, .int .i64 x.f2, .slice A3 x.f3.length c3, .int .i64 x.f4, .int .i64 x.f5, .int .i64 x.f6, .bool x.f7]) (ds := []) #[false, false, false, false, false, false, false, false, false, false] (by kernel_rfl) rfl rfl nb'.out.drew (fun hHeld => ?_)
                refine pure_ (i := 0) (N := some 93) (v := ?_) (a' := ?_) #[true, false, false, false, false, false, false, false, false, false] rfl rfl (by kernel_rfl) (fun _ _ _ h => h) (Or.inl ⟨by rfl, ?_⟩) ?_ ?_
                rotate_left
                · intro w'
                  go_simp
                  with_reducible rfl
                rotate_left
                · simp only [Act.put, List.setIfInBounds_toArray, List.set_cons_zero, List.set_cons_succ, i64_w, i32_w]
                  rfl
                refine pure_ (i := 1) (N := some 94) (v := ?_) (a' := ?_) #[true, true, false, false, false, false, false, false, false, false] rfl rfl (by kernel_rfl) (fun _ _ _ h => h) (Or.inl ⟨by rfl, ?_⟩) ?_ ?_
                rotate_left
                · intro w'
                  go_simp
                  with_reducible rfl
                rotate_left
                · simp only [Act.put, List.setIfInBounds_toArray, List.set_cons_zero, List.set_cons_succ, i64_w, i32_w]
                  rfl
                refine pure_ (i := 2) (N := some 95) (v := ?_) (a' := ?_) #[true, true, true, false, false, false, false, false, false, false] rfl rfl (by kernel_rfl) (fun _ _ _ h => h) (Or.inl ⟨by rfl, ?_⟩) ?_ ?_
                rotate_left
                · intro w'
                  go_simp
                  with_reducible rfl
                rotate_left
                · simp only [Act.put, List.setIfInBounds_toArray, List.set_cons_zero, List.set_cons_succ, i64_w, i32_w]
                  rfl
                refine pure_ (i := 3) (N := some 96) (v := ?_) (a' := ?_) #[true, true, true, true, false, false, false, false, false, false] rfl rfl (by kernel_rfl) (fun _ _ _ h => h) (Or.inl ⟨by rfl, ?_⟩) ?_ ?_
                rotate_left
                · intro w'
                  go_simp
                  with_reducible rfl
                rotate_left
                · simp only [Act.put, List.setIfInBounds_toArray, List.set_cons_zero, List.set_cons_succ, i64_w, i32_w]
                  rfl
                refine pure_ (i := 4) (N := some 97) (v := ?_) (a' := ?_) #[true, true, true, true, true, false, false, false, false, false] rfl rfl (by kernel_rfl) (fun _ _ _ h => h) (Or.inl ⟨by rfl, ?_⟩) ?_ ?_
                rotate_left
                · intro w'
                  go_simp
                  with_reducible rfl
                rotate_left
                · simp only [Act.put, List.setIfInBounds_toArray, List.set_cons_zero, List.set_cons_succ, i64_w, i32_w]
                  rfl
                refine pure_ (i := 5) (N := some 98) (v := ?_) (a' := ?_) #[true, true, true, true, true, true, false, false, false, false] rfl rfl (by kernel_rfl) (fun _ _ _ h => h) (Or.inl ⟨by rfl, ?_⟩) ?_ ?_
                rotate_left
                · intro w'
                  go_simp
                  with_reducible rfl
                rotate_left
                · simp only [Act.put, List.setIfInBounds_toArray, List.set_cons_zero, List.set_cons_succ, i64_w, i32_w]
                  rfl
                refine take_ (i := 6) (N := some 99) (v := ?_) (a' := ?_) #[true, true, true, true, true, true, true, false, false, false] rfl rfl (by kernel_rfl) (fun _ _ _ h => h) (Or.inl ⟨by rfl, ?_⟩) hHeld ?_ ?_
                rotate_left
                · rintro w' s1
                  have t0 := s1.cell 0
                  have t1 := s1.cell 1
                  have t2 := s1.cell 2
                  have t3 := s1.cell 3
                  have t4 := s1.cell 4
                  have t5 := s1.cell 5
                  have t6 := s1.cell 6
                  have t7 := s1.cell 7
                  simp only [List.getElem?_toArray, List.getElem?_cons_zero, List.getElem?_cons_succ] at t0 t1 t2 t3 t4 t5 t6 t7
                  clear s1
                  go_simp
                  with_reducible rfl
                rotate_left
                · simp only [Act.put, List.setIfInBounds_toArray, List.set_cons_zero, List.set_cons_succ, i64_w, i32_w]
                  rfl
                refine one_ (i := 7) (N := some 100) #[true, true, true, true, true, true, true, true, false, false] rfl rfl (by kernel_rfl) (by decide) (fun K hK => ?_)
                refine goes_ Try.func113 (by kernel_rfl) rfl #[.pointer (some ⟨w.heap.size, i * 2, none⟩), .agg #[.int .i64 x.f0, .int .i64 x.f1, .int .i64 x.f2, .slice A3 x.f3.length c3, .int .i64 x.f4, .int .i64 x.f5, .int .i64 x.f6, .bool x.f7]] (by rfl) rfl rfl (by (try simp only [List.map_toArray, List.map_cons, List.map_nil]); first | done | rfl) ?_
                with_reducible refine (hCall'.out).mono ?_
                rintro e w10 (⟨_, rfl, hbut⟩ | ⟨r2, hr2, _⟩)
                rotate_left
                · rw [hle'.out] at hr2; cases hr2
                refine ⟨_, rfl, ?_⟩
                have bel2 := (bel1'.out.drew).trans (hbut.below (Nat.le_refl _) (by omega) (by show w.heap.size ≤ (wr.alloc (.cells #[.int .i64 x.f0, .int .i64 x.f1, .int .i64 x.f2, .slice A3 x.f3.length c3, .int .i64 x.f4, .int .i64 x.f5, .int .i64 x.f6, .bool x.f7] 50)).heap.size; simp; omega))
                have hbl := RoomsAt.lt RA1'.out (i := i) (by rw [hrl'.out]; exact hi)
                refine hK.out _ _ (hbut.blk nb'.out.drew (by omega) hneb'.out) (fun hHeld => ?_)
                clear hK K
                refine norm_ (a' := ?_) ?_ ?_
                rotate_left
                · show Act.put _ (some 100) _ = _
                  simp only [Act.put, List.setIfInBounds_toArray, List.set_cons_zero, List.set_cons_succ, i64_w, i32_w]
                  rfl
                refine pure_ (i := 8) (N := some 101) (v := ?_) (a' := ?_) #[true, true, true, true, true, true, true, true, true, false] rfl rfl (by kernel_rfl) (fun _ _ _ h => h) (Or.inl ⟨by rfl, ?_⟩) ?_ ?_
                rotate_left
                · intro w'
                  go_simp
                  with_reducible rfl
                rotate_left
                · simp only [Act.put, List.setIfInBounds_toArray, List.set_cons_zero, List.set_cons_succ, i64_w, i32_w]
                  rfl
                refine pure_ (i := 9) (N := some 102) (v := ?_) (a' := ?_) #[true, true, true, true, true, true, true, true, true, true] rfl rfl (by kernel_rfl) (fun _ _ _ h => h) (Or.inl ⟨by rfl, ?_⟩) ?_ ?_
                rotate_left
                · intro w'
                  go_simp
                  with_reducible rfl
                rotate_left
                · simp only [Act.put, List.setIfInBounds_toArray, List.set_cons_zero, List.set_cons_succ, i64_w, i32_w]
                  rfl
                refine done_ (by kernel_rfl) ?_
                clear hbut hHeld hown1
                go_wp2
                go_ret2
                exact ⟨bel2, rfl⟩
              | some r2 =>
                have hle' := Lib.hid hle
                clear hle
                refine start_ (n := 10) (S := fun w' => Blk w' wr.heap.size 50 #[.int .i64 x.f0, .int .i64 x.f1, .int .i64 x.f2, .slice A3 x.f3.length c3, .int .i64 x.f4, .int .i64 x.f5, .int .i64 x.f6, .bool x.f7]) (ds := []) #[false, false, false, false, false, false, false, false, false, false] (by kernel_rfl) rfl rfl nb'.out.drew (fun hHeld => ?_)
                refine pure_ (i := 0) (N := some 93) (v := ?_) (a' := ?_) #[true, false, false, false, false, false, false, false, false, false] rfl rfl (by kernel_rfl) (fun _ _ _ h => h) (Or.inl ⟨by rfl, ?_⟩) ?_ ?_
                rotate_left
                · intro w'
                  go_simp
                  with_reducible rfl
                rotate_left
                · simp only [Act.put, List.setIfInBounds_toArray, List.set_cons_zero, List.set_cons_succ, i64_w, i32_w]
                  rfl
                refine pure_ (i := 1) (N := some 94) (v := ?_) (a' := ?_) #[true, true, false, false, false, false, false, false, false, false] rfl rfl (by kernel_rfl) (fun _ _ _ h => h) (Or.inl ⟨by rfl, ?_⟩) ?_ ?_
                rotate_left
                · intro w'
                  go_simp
                  with_reducible rfl
                rotate_left
                · simp only [Act.put, List.setIfInBounds_toArray, List.set_cons_zero, List.set_cons_succ, i64_w, i32_w]
                  rfl
                refine pure_ (i := 2) (N := some 95) (v := ?_) (a' := ?_) #[true, true, true, false, false, false, false, false, false, false] rfl rfl (by kernel_rfl) (fun _ _ _ h => h) (Or.inl ⟨by rfl, ?_⟩) ?_ ?_
                rotate_left
                · intro w'
                  go_simp
                  with_reducible rfl
                rotate_left
                · simp only [Act.put, List.setIfInBounds_toArray, List.set_cons_zero, List.set_cons_succ, i64_w, i32_w]
                  rfl
                refine pure_ (i := 3) (N := some 96) (v := ?_) (a' := ?_) #[true, true, true, true, false, false, false, false, false, false] rfl rfl (by kernel_rfl) (fun _ _ _ h => h) (Or.inl ⟨by rfl, ?_⟩) ?_ ?_
                rotate_left
                · intro w'
                  go_simp
                  with_reducible rfl
                rotate_left
                · simp only [Act.put, List.setIfInBounds_toArray, List.set_cons_zero, List.set_cons_succ, i64_w, i32_w]
                  rfl
                refine pure_ (i := 4) (N := some 97) (v := ?_) (a' := ?_) #[true, true, true, true, true, false, false, false, false, false] rfl rfl (by kernel_rfl) (fun _ _ _ h => h) (Or.inl ⟨by rfl, ?_⟩) ?_ ?_
                rotate_left
                · intro w'
                  go_simp
                  with_reducible rfl
                rotate_left
                · simp only [Act.put, List.setIfInBounds_toArray, List.set_cons_zero, List.set_cons_succ, i64_w, i32_w]
                  rfl
                refine pure_ (i := 5) (N := some 98) (v := ?_) (a' := ?_) #[true, true, true, true, true, true, false, false, false, false] rfl rfl (by kernel_rfl) (fun _ _ _ h => h) (Or.inl ⟨by rfl, ?_⟩) ?_ ?_
                rotate_left
                · intro w'
                  go_simp
                  with_reducible rfl
                rotate_left
                · simp only [Act.put, List.setIfInBounds_toArray, List.set_cons_zero, List.set_cons_succ, i64_w, i32_w]
                  rfl
                refine take_ (i := 6) (N := some 99) (v := ?_) (a' := ?_) #[true, true, true, true, true, true, true, false, false, false] rfl rfl (by kernel_rfl) (fun _ _ _ h => h) (Or.inl ⟨by rfl, ?_⟩) hHeld ?_ ?_
                rotate_left
                · rintro w' s1
                  have t0 := s1.cell 0
                  have t1 := s1.cell 1
                  have t2 := s1.cell 2
                  have t3 := s1.cell 3
                  have t4 := s1.cell 4
                  have t5 := s1.cell 5
                  have t6 := s1.cell 6
                  have t7 := s1.cell 7
                  simp only [List.getElem?_toArray, List.getElem?_cons_zero, List.getElem?_cons_succ] at t0 t1 t2 t3 t4 t5 t6 t7
                  clear s1
                  go_simp
                  with_reducible rfl
                rotate_left
                · simp only [Act.put, List.setIfInBounds_toArray, List.set_cons_zero, List.set_cons_succ, i64_w, i32_w]
                  rfl
                refine one_ (i := 7) (N := some 100) #[true, true, true, true, true, true, true, true, false, false] rfl rfl (by kernel_rfl) (by decide) (fun K hK => ?_)
                refine goes_ Try.func113 (by kernel_rfl) rfl #[.pointer (some ⟨w.heap.size, i * 2, none⟩), .agg #[.int .i64 x.f0, .int .i64 x.f1, .int .i64 x.f2, .slice A3 x.f3.length c3, .int .i64 x.f4, .int .i64 x.f5, .int .i64 x.f6, .bool x.f7]] (by rfl) rfl rfl (by (try simp only [List.map_toArray, List.map_cons, List.map_nil]); first | done | rfl) ?_
                with_reducible refine (hCall'.out).mono ?_
                rintro e w10 (⟨hno, _⟩ | ⟨r3, hr3, rfl, k1, k2, hbut⟩)
                · rw [hle'.out] at hno; cases hno
                obtain rfl : r2 = r3 := by rw [hle'.out] at hr3; exact Option.some.inj hr3
                refine ⟨_, rfl, ?_⟩
                have bel2 := (bel1'.out.drew).trans (hbut.below (Nat.le_refl _) (by omega) (by show w.heap.size ≤ (wr.alloc (.cells #[.int .i64 x.f0, .int .i64 x.f1, .int .i64 x.f2, .slice A3 x.f3.length c3, .int .i64 x.f4, .int .i64 x.f5, .int .i64 x.f6, .bool x.f7] 50)).heap.size; simp; omega))
                have hbl := RoomsAt.lt RA1'.out (i := i) (by rw [hrl'.out]; exact hi)
                refine hK.out _ _ (hbut.blk nb'.out.drew (by omega) hneb'.out) (fun hHeld => ?_)
                clear hK K
                refine norm_ (a' := ?_) ?_ ?_
                rotate_left
                · show Act.put _ (some 100) _ = _
                  simp only [Act.put, List.setIfInBounds_toArray, List.set_cons_zero, List.set_cons_succ, i64_w, i32_w]
                  rfl
                refine pure_ (i := 8) (N := some 101) (v := ?_) (a' := ?_) #[true, true, true, true, true, true, true, true, true, false] rfl rfl (by kernel_rfl) (fun _ _ _ h => h) (Or.inl ⟨by rfl, ?_⟩) ?_ ?_
                rotate_left
                · intro w'
                  go_simp
                  with_reducible rfl
                rotate_left
                · simp only [Act.put, List.setIfInBounds_toArray, List.set_cons_zero, List.set_cons_succ, i64_w, i32_w]
                  rfl
                refine pure_ (i := 9) (N := some 102) (v := ?_) (a' := ?_) #[true, true, true, true, true, true, true, true, true, true] rfl rfl (by kernel_rfl) (fun _ _ _ h => h) (Or.inl ⟨by rfl, ?_⟩) ?_ ?_
                rotate_left
                · intro w'
                  go_simp
                  with_reducible rfl
                rotate_left
                · simp only [Act.put, List.setIfInBounds_toArray, List.set_cons_zero, List.set_cons_succ, i64_w, i32_w]
                  rfl
                refine done_ (by kernel_rfl) ?_
                have RB := RoomsAt.set (show RoomsAt (wr.alloc (.cells #[.int .i64 x.f0, .int .i64 x.f1, .int .i64 x.f2, .slice A3 x.f3.length c3, .int .i64 x.f4, .int .i64 x.f5, .int .i64 x.f6, .bool x.f7] 50)).drew w.heap.size bs rs from RA1'.out) hr'.out (leaseR_keeps hle'.out).1 (fun j' hj' e' => hAp'.out j' i (by rw [← hrl'.out]; exact hj') hi e') k1 k2 hbut (show Blk (wr.alloc (.cells #[.int .i64 x.f0, .int .i64 x.f1, .int .i64 x.f2, .slice A3 x.f3.length c3, .int .i64 x.f4, .int .i64 x.f5, .int .i64 x.f6, .bool x.f7] 50)).drew w.heap.size 84 cs2 from b3'.out) (by rw [hs2'.out]; omega)
                rw [hs2'.out] at RB
                have own2 := hbut.own (show (wr.alloc (.cells #[.int .i64 x.f0, .int .i64 x.f1, .int .i64 x.f2, .slice A3 x.f3.length c3, .int .i64 x.f4, .int .i64 x.f5, .int .i64 x.f6, .bool x.f7] 50)).drew.ownsMap Try.prog 3 (plainElem (H := H) Try.prog 3) (w.heap.size + 1) nodes.length (idD nodes nodes.length) from hown1) (by omega) (by omega)
                clear k1 k2 hbut hHeld hown1
                go_wp2
                go_roundw
                case rel => exact ⟨j + 1, rs.set i r2, by go_num, by omega, by rw [List.length_set]; exact hrl'.out, by rw [hstep'.out, hle'.out], fun u hu => by
                    rcases List.mem_or_eq_of_mem_set hu with hu | rfl
                    · exact hbnd'.out u hu
                    · have := leaseR_keeps hle'.out
                      omega, RB.2, RB.1, own2, bel2⟩
                case measure => simp [intOf]; omega
          · have hj' : j = leases.length := by omega
            subst hj'
            have hbad : RF = (0, rs) := by rw [hRF, List.drop_of_length_le (Nat.le_refl _)]; rfl
            subst hbad
            have hRA' := Lib.hid hRA
            clear hRF hRA hb2 hs2 hown hbnd
            go_wp2
            go_ret2
            first | exact ⟨hbel, .inr ⟨rfl, bs, rfl, hRA'.out⟩⟩ | exact ⟨hbel, bs, rfl, hRA'.out⟩ | exact ⟨hbel, rfl, bs, hRA'.out⟩
end Go.Proofs.Ytkbcjagkacijnaa.PPl
end
section
namespace Go.Proofs.Ytkbcjagkacijnaa.PPl
open Go.RowKit Go.Shelf Go.Maps Go.Proofs.Ytkbcjagkacijnaa.Iter Go.Proofs.YtkbcjagkacijnaaW.PrintWords Go.Proofs.YtkbcjagkacijnaaW.PrintLast
set_option linter.unusedVariables false
set_option linter.unusedSimpArgs false
attribute [local go_sem] Oper.semAt_some

def freeUp (t : List Bool) (k : Nat) : List Int := ((List.range k).filter fun c => !t.getD c false).map fun (c : Nat) => (c : Int)
theorem freeUp_taken {t : List Bool} {k : Nat} (h : t.getD k false = true) : freeUp t (k + 1) = freeUp t k := by
  unfold freeUp
  rw [List.range_succ, List.filter_append, List.filter_cons, h]
  simp
theorem freeUp_free {t : List Bool} {k : Nat} (h : t.getD k false = false) : freeUp t (k + 1) = freeUp t k ++ [(k : Int)] := by
  unfold freeUp
  rw [List.range_succ, List.filter_append, List.filter_cons, h]
  simp
theorem freeUp_prefix {t : List Bool} : ∀ (m k : Nat), k + m = t.length → freeUp t k <+: freeL t
  | 0, k, h => by
    rw [show k = t.length by omega]
    exact List.prefix_refl _
  | m + 1, k, h => by
    refine List.IsPrefix.trans ?_ (freeUp_prefix m (k + 1) (by omega))
    cases hk : t.getD k false with
    | true => rw [freeUp_taken hk]; exact List.prefix_refl _
    | false => rw [freeUp_free hk]; exact List.prefix_append _ _
theorem freeUp_length (t : List Bool) (k : Nat) : (freeUp t k).length ≤ k := by
  unfold freeUp
  rw [List.length_map]
  refine Nat.le_trans (List.length_filter_le _ _) ?_
  simp

set_option maxRecDepth 100000 in
set_option maxHeartbeats 4000000 in
theorem free_stops (F : Fence) (n : Nat) (hf : F.fn 115) (hro : F.round = none) (hn : 1 ≤ n) (C b : Nat) (t : List Bool) (mem : Int) (w : World) (hl : t.length ≤ 64) (hC : Blk w C 84 #[.slice (some ⟨b, 0, none⟩) t.length t.length, .int .i64 mem]) (hb : Blk w b 4 (t.map Value.bool).toArray) :
    SeqStopsK F n Try.prog 115 #[.pointer (some ⟨C, 0, none⟩)] (fun c : Int => #[.int .i64 c]) (Two C b) (fun xs => xs = freeL t) (fun pre => pre <+: freeL t) 64 w := fun l J Jx W hW _ _ hY h0 => by
  have hC1 := hC.below hW hC.lt
  have hb1 := hb.below hW hb.lt
  have cC := hC1.cell 0
  simp only [List.getElem?_toArray, List.getElem?_cons_zero] at cC
  refine callsIn_of_wp Try.func115 rfl hf ?_ hro
  simp only [Try.ntmps115, List.size_toArray, List.length_cons, List.length_nil, Nat.reduceAdd, Nat.reduceSub, Array.replicate_succ, Array.replicate_zero, List.push_toArray, List.append_toArray, List.nil_append, List.cons_append]
  gi_wp2
  gi_loopw [8] (fun iv wr => ∃ (k : Nat), iv = .int .i64 k ∧ k ≤ t.length ∧ Blk wr b 4 (t.map Value.bool).toArray ∧ J (freeUp t k) wr) (fun iv _ => t.length - (intOf iv).toNat)
  case atStart => exact ⟨0, rfl, Nat.zero_le _, hb1, h0⟩
  case round =>
    obtain ⟨k, rfl, hk, hbr, hJ⟩ := hrel
    by_cases hlt : k < t.length
    · have hcb := bools_cell hbr k hlt
      obtain ⟨fn, tmps, assign, body, hy, hR⟩ := hY (freeUp t k) (k : Int) wr hJ (by have := freeUp_length t k; omega)
      cases hm : t.getD k false
      · rw [hm] at hcb
        have hfu := freeUp_free hm
        have hfu' := Lib.hid hfu
        clear hfu hm
        gi_wp2
        refine hR.mono ?_
        rintro e W3 (⟨rfl, hJ3, hk3⟩ | ⟨rfl, hJx3⟩)
        · have hb3 : Blk W3 b 4 (t.map Value.bool).toArray := hk3.2.trans hbr
          gi_wp2
          go_roundw
          case rel => exact ⟨k + 1, by go_num, by omega, hb3, by rw [hfu'.out]; exact hJ3⟩
          case measure => simp [intOf]; omega
        · gi_wp2
          refine bodyPost_ret (results_none rfl _ _ _) rfl ?_
          exact ⟨⟨_, rfl⟩, .inr ⟨_, by rw [← hfu'.out]; exact freeUp_prefix (t.length - (k + 1)) (k + 1) (by omega), hJx3⟩⟩
      · rw [hm] at hcb
        have hfu := freeUp_taken hm
        have hfu' := Lib.hid hfu
        clear hfu hm
        gi_wp2
        refine ⟨fun _ h => (by cases h), ?_⟩
        gi_wp2
        go_roundw
        case rel => exact ⟨k + 1, by go_num, by omega, hbr, by rw [hfu'.out]; exact hJ⟩
        case measure => simp [intOf]; omega
    · have hk' : k = t.length := by omega
      subst hk'
      gi_wp2
      go_end0
      exact ⟨⟨_, rfl⟩, .inl ⟨_, rfl, hJ⟩⟩
end Go.Proofs.Ytkbcjagkacijnaa.PPl
end
section
namespace Go.Proofs.Ytkbcjagkacijnaa.PPl
open Go.RowKit Go.Shelf Go.Maps Go.Proofs.Ytkbcjagkacijnaa.Iter Go.Proofs.YtkbcjagkacijnaaW.PrintWords Go.Proofs.YtkbcjagkacijnaaW.PrintLast
set_option linter.unusedVariables false
set_option linter.unusedSimpArgs false
attribute [local go_sem] Oper.semAt_some

/-- A room's cells; its value. -/
abbrev csR (b len : Nat) (mem : Int) : Array Value := #[.slice (some ⟨b, 0, none⟩) len len, .int .i64 mem]
abbrev encR (b len : Nat) (mem : Int) : Value := .agg (csR b len mem)
set_option maxHeartbeats 1000000 in
theorem free_in (F : Fence) (n : Nat) (hf : F.fn 83) (hro : F.round = none) (b len : Nat) (mem : Int) (w : World) :
    CallsIn F n Try.prog 83 #[encR b len mem] w fun e w' => e = .returned (.func (.func 115) #[] #[.pointer (some ⟨w.heap.size, 0, none⟩)]) ∧ w' = w.alloc (.cells (csR b len mem) 84) := by
  refine callsIn_of_wp Try.func83 rfl hf ?_ hro
  simp only [Try.ntmps83, List.size_toArray, List.length_cons, List.length_nil, Nat.reduceAdd, Nat.reduceSub, Array.replicate_succ, Array.replicate_zero, List.push_toArray, List.append_toArray, List.nil_append, List.cons_append]
  gi_wp2
  go_ret
  exact ⟨rfl, rfl⟩

set_option maxRecDepth 100000 in
set_option maxHeartbeats 4000000 in
theorem count_in (F : Fence) (n : Nat) (h80 : F.fn 80) (h83 : F.fn 83) (h115 : F.fn 115) (hro : F.round = none) (hn : 6 ≤ n) (b : Nat) (t : List Bool) (mem : Int) (w : World) (hl : t.length ≤ 64) (hb : Blk w b 4 (t.map Value.bool).toArray) :
    CallsIn F n Try.prog 80 #[encR b t.length mem] w fun e W' => e = .returned (.int .i64 ((freeL t).length : Int)) ∧ Below w.heap.size w W' := by
  have h1 : 1 ≤ n := by omega
  refine callsIn_of_wp_marks Try.func80 rfl h80 ?_ hro
  simp only [Try.ntmps80, List.size_toArray, List.length_cons, List.length_nil, Nat.reduceAdd, Nat.reduceSub, Array.replicate_succ, Array.replicate_zero, List.push_toArray, List.append_toArray, List.nil_append, List.cons_append]
  have cV := (Blk.new w 84 (csR b t.length mem)).alloc (.cells #[.int .i64 0] 3)
  have cV0 := cV.cell 0
  have cV1 := cV.cell 1
  simp only [List.getElem?_toArray, List.getElem?_cons_zero, List.getElem?_cons_succ] at cV0 cV1
  have hbl := hb.lt
  gi_wp2_with (gi_at_call 83; refine (free_in F (n - 1) h83 hro b t.length mem _).mono ?_; rintro e w' ⟨rfl, rfl⟩)
  have bI := (Blk.new (w.alloc (.cells (csR b t.length mem) 84)) 3 #[.int .i64 0]).alloc (.cells (csR b t.length mem) 84)
  have bC := Blk.new ((w.alloc (.cells (csR b t.length mem) 84)).alloc (.cells #[.int .i64 0] 3)) 84 (csR b t.length mem)
  have bb := ((hb.alloc (.cells (csR b t.length mem) 84)).alloc (.cells #[.int .i64 0] 3)).alloc (.cells (csR b t.length mem) 84)
  simp only [World.size_alloc] at bI bC
  have hB0 : Below w.heap.size w (((w.alloc (.cells (csR b t.length mem) 84)).alloc (.cells #[.int .i64 0] 3)).alloc (.cells (csR b t.length mem) 84)) :=
    (((Below.refl _ w).alloc (Nat.le_refl _) _).alloc (by simp) _).alloc (by simp; omega) _
  have hsz : (((w.alloc (.cells (csR b t.length mem) 84)).alloc (.cells #[.int .i64 0] 3)).alloc (.cells (csR b t.length mem) 84)).heap.size = w.heap.size + 3 := by simp
  obtain ⟨W0, hW0⟩ : ∃ W0, (((w.alloc (.cells (csR b t.length mem) 84)).alloc (.cells #[.int .i64 0] 3)).alloc (.cells (csR b t.length mem) 84)) = W0 := ⟨_, rfl⟩
  rw [hW0] at bI bC bb hB0 hsz ⊢
  clear hW0 cV cV0 cV1
  refine wpIn_rangeFunc_ownF hro h1 (gf := 115) (lb := #[.pointer (some ⟨w.heap.size + 1 + 1, 0, none⟩)]) rfl h115 (enters_of Try.func115 (by kernel_rfl) rfl)
    (free_stops F (n - 1) h115 hro (by omega) (w.heap.size + 1 + 1) b t mem W0 hl bC bb) Two.t (Two.b (by omega) (by omega)) (Below.refl _ _) (fun _ => rfl)
    (fun pre W => Blk W (w.heap.size + 1) 3 #[.int .i64 (pre.length : Int)] ∧ Below w.heap.size w W)
    (fun c pre W => False)
    (OwnFrom.and (Own.from (blk_own _ _ _) _) (ownFrom_below (Nat.le_refl _) (by omega)))
    (fun c => ownFrom_pure _ _)
    ⟨bI, hB0⟩
    (fun x : Int => { tmps := #[encR b t.length mem, .pointer (some ⟨w.heap.size, 0, none⟩), .int .i64 0, .pointer (some ⟨w.heap.size + 1, 0, none⟩), .agg #[.slice (some ⟨b, 0, none⟩) t.length t.length, .int .i64 mem], .func (.func 115) #[] #[.pointer (some ⟨w.heap.size + 1 + 1, 0, none⟩)], .int .i64 x, undef, undef, undef], defers := [] })
    ?assign ?body ?done ?stop
  case assign =>
    rintro l x W K hK
    gi_wp2
    first | simpa using hK | (simp only [List.zip_toArray, List.zip_cons_cons, List.zip_nil_right, List.foldl_toArray, List.foldl_cons, List.foldl_nil, List.setIfInBounds_toArray, List.set_cons_succ, List.set_cons_zero]; exact hK) | (simp [Array.foldl, Array.zip] at hK ⊢; exact hK)
  case body =>
    rintro l pre x W ⟨bI1, hB1⟩ hlt
    have cI := bI1.cell 0
    have fI := bI1.frozen 0
    simp only [List.getElem?_toArray, List.getElem?_cons_zero] at cI
    have w1 : IntKind.i64.wrap ((pre.length : Int) + 1) = ((pre.length + 1 : Nat) : Int) := by rw [IntWalk.i64_in _ (by omega)]; omega
    gi_wp2
    exact ⟨KeepsOthers.setCell _ _ _, ⟨Below.heap_setCell _ _ _ _ (by simp), Below.heap_setCell _ _ _ _ (by simp; omega)⟩, by rw [List.length_append]; exact bI1.set 0 (.int .i64 ((pre.length : Int) + 1)) (by simp), hB1.setCell (p := ⟨w.heap.size + 1, 0, none⟩) (by simp <;> omega) _⟩
  case done =>
    rintro D zs W hD rfl ⟨bI1, hB1⟩ hK
    have cI := bI1.cell 0
    simp only [List.getElem?_toArray, List.getElem?_cons_zero] at cI
    gi_wp2
    refine ⟨by simp, .inl ⟨_, _, rfl, run_takeDeferred hK, ?_⟩⟩
    refine ⟨.int .i64 ((freeL t).length : Int), ?_, rfl, hB1.trans (belowK_b (w := w) (Nat.le_refl _) W D _ _ (by omega) hK rfl rfl)⟩
    simp [results, Try.f80, go_sem]
  case stop =>
    rintro D c pre W hD hpre h hK
    exact h.elim
end Go.Proofs.Ytkbcjagkacijnaa.PPl
end
section
namespace Go.Proofs.Ytkbcjagkacijnaa.PPl
open Go.RowKit Go.Shelf Go.Maps Go.Proofs.Ytkbcjagkacijnaa.Iter Go.Proofs.YtkbcjagkacijnaaW.PrintWords Go.Proofs.YtkbcjagkacijnaaW.PrintLast
set_option linter.unusedVariables false
set_option linter.unusedSimpArgs false
attribute [local go_sem] Oper.semAt_some

theorem infoInt : (Try.prog.info? 3).map (fun i => (i.zero, i.size, i.bytes)) = some (some (.int .i64 0), 1, 8) := by kernel_rfl
set_option maxRecDepth 100000 in
set_option maxHeartbeats 4000000 in
theorem append_in (F : Fence) (n : Nat) (h114 : F.fn 114) (h115 : F.fn 115) (hro : F.round = none) (hn : 3 ≤ n) (C b : Nat) (t : List Bool) (mem : Int) (w : World) (hl : t.length ≤ 64) (hC : Blk w C 84 (csR b t.length mem)) (hb : Blk w b 4 (t.map Value.bool).toArray) :
    CallsIn F n Try.prog 114 #[.slice none 0 0, .func (.func 115) #[] #[.pointer (some ⟨C, 0, none⟩)]] w fun e W' => ∃ v, e = .returned v ∧ W'.ownsRow w.heap.size 3 1 v (freeL t).length ((freeL t).map (Value.int .i64)) ∧ (v = .slice none 0 0 ↔ freeL t = []) ∧ Below w.heap.size w W' := by
  have h1 : 1 ≤ n := by omega
  obtain ⟨i0, hi, hz0, hz1, hz2⟩ := info_parts infoInt
  have hCl := hC.lt
  have hbl := hb.lt
  refine callsIn_of_wp_marks Try.func114 rfl h114 ?_ hro
  simp only [Try.ntmps114, List.size_toArray, List.length_cons, List.length_nil, Nat.reduceAdd, Nat.reduceSub, Array.replicate_succ, Array.replicate_zero, List.push_toArray, List.append_toArray, List.nil_append, List.cons_append]
  gi_wp2
  have bO := Boxed.new w 28 (.slice none 0 0)
  have hB0 : Below w.heap.size w (w.alloc (.cells #[.slice none 0 0] 28)) := (Below.refl _ w).alloc (Nat.le_refl _) _
  refine wpIn_rangeFunc_ownF hro h1 (gf := 115) (lb := #[.pointer (some ⟨C, 0, none⟩)]) rfl h115 (enters_of Try.func115 (by kernel_rfl) rfl)
    (free_stops F (n - 1) h115 hro (by omega) C b t mem (w.alloc (.cells #[.slice none 0 0] 28)) hl (hC.alloc _) (hb.alloc _)) Two.t (Two.b (by simp <;> omega) (by simp <;> omega)) (Below.refl _ _) (fun _ => rfl)
    (fun pre W => (∃ v, Boxed W w.heap.size 28 v ∧ W.ownsRow w.heap.size 3 1 v pre.length (pre.map (Value.int .i64)) ∧ (v = .slice none 0 0 ↔ pre = [])) ∧ Below w.heap.size w W)
    (fun _ _ _ => False)
    (OwnFrom.and (Own.from (holdsRow_own w.heap.size w.heap.size 28 3 1 (fun pre => pre.length) (fun pre => pre.map (Value.int .i64)) (fun pre v => v = .slice none 0 0 ↔ pre = [])) _) (ownFrom_below (Nat.le_refl _) (by simp <;> omega)))
    (fun c => ownFrom_pure _ _)
    ⟨⟨_, bO, World.ownsRow_nil _ _ _ _, by simp⟩, hB0⟩
    (fun x : Int => { tmps := #[.slice none 0 0, .func (.func 115) #[] #[.pointer (some ⟨C, 0, none⟩)], .pointer (some ⟨w.heap.size, 0, none⟩), undef, .slice none 0 0, .int .i64 x, .func (.func 115) #[] #[.pointer (some ⟨C, 0, none⟩)], .int .i64 x, undef, undef, undef, undef, undef], defers := [] })
    ?assign ?body ?done ?stop
  case assign =>
    rintro l x W K hK
    gi_wp2
    exact hK
  case body =>
    rintro l pre x W ⟨⟨v, hv, hrow, hnil⟩, hB⟩ hlt
    have hc := hv.cell
    have hml : pre.length + 1 ≤ maxLen := by unfold maxLen; omega
    gi_wp2_with (gi_at_builtin; refine wpListIn_append_own _ rfl _ _ 28 rfl w.heap.size 3 i0 (.int .i64 0) 1 8 Try.underlying28 hi hz0 hz1 hz2 rfl (by decide) _ _ _ rfl (hrow.alloc _) ⟨W.heap.size, 0, none⟩ 1 1 [.int .i64 x] rfl rfl (cell_one_new _ _ _) (by simp [Value.oneCell']) (by omega) (by omega) (by have := hB.size; simp; omega) ?_; intro v' w1 hown' hgrow _; obtain ⟨g', cap', rfl⟩ := ownsRow_succ hown'; obtain ⟨hv1, hv2, hr2, hk2, hb2⟩ := hv.appended (by decide) hrow hB.size (Nat.le_refl _) hown' hgrow; have hc1 := hv1.cell; have hf1 := hv1.frozen)
    exact ⟨hk2, ⟨hb2.block _ hCl, hb2.block _ hbl⟩, ⟨_, hv2, by simpa using hr2, by simp⟩, hB.trans hb2⟩
  case done =>
    rintro D ys W hD rfl ⟨⟨v, hv, hrow, hnil⟩, hB⟩ hK
    have hc := hv.cell
    gi_wp2
    refine ⟨by simp, .inl ⟨_, _, rfl, run_takeDeferred hK, ?_⟩⟩
    exact ⟨_, results_tmp rfl _ _ _, v, rfl, ownsRow_putObj hrow _ hK rfl, hnil, hB.trans (belowK_b (w := w) (Nat.le_refl _) W D _ _ (by simp at hD; omega) hK rfl rfl)⟩
  case stop =>
    rintro D c pre W hD hpre h hK
    exact h.elim
end Go.Proofs.Ytkbcjagkacijnaa.PPl
end
section
namespace Go.Proofs.Ytkbcjagkacijnaa.PPl
open Go.RowKit Go.Shelf Go.Maps Go.Proofs.Ytkbcjagkacijnaa.Iter Go.Proofs.YtkbcjagkacijnaaW.PrintWords Go.Proofs.YtkbcjagkacijnaaW.PrintLast
set_option linter.unusedVariables false
set_option linter.unusedSimpArgs false
theorem free_calls (b len : Nat) (mem : Int) (w : World) :
    Calls Try.prog 83 #[encR b len mem] w fun e w' => e = .returned (.func (.func 115) #[] #[.pointer (some ⟨w.heap.size, 0, none⟩)]) ∧ w' = w.alloc (.cells (csR b len mem) 84) :=
  (callsIn_wide (n := 6)).1 (free_in Fence.wide 6 trivial rfl b len mem w)
theorem count_calls (b : Nat) (t : List Bool) (mem : Int) (w : World) (hl : t.length ≤ 64) (hb : Blk w b 4 (t.map Value.bool).toArray) :
    Calls Try.prog 80 #[encR b t.length mem] w fun e W' => e = .returned (.int .i64 ((freeL t).length : Int)) ∧ Below w.heap.size w W' :=
  (callsIn_wide (n := 6)).1 (count_in Fence.wide 6 trivial trivial trivial rfl (by omega) b t mem w hl hb)
theorem append_calls (C b : Nat) (t : List Bool) (mem : Int) (w : World) (hl : t.length ≤ 64) (hC : Blk w C 84 (csR b t.length mem)) (hb : Blk w b 4 (t.map Value.bool).toArray) :
    Calls Try.prog 114 #[.slice none 0 0, .func (.func 115) #[] #[.pointer (some ⟨C, 0, none⟩)]] w fun e W' => ∃ v, e = .returned v ∧ W'.ownsRow w.heap.size 3 1 v (freeL t).length ((freeL t).map (Value.int .i64)) ∧ (v = .slice none 0 0 ↔ freeL t = []) ∧ Below w.heap.size w W' :=
  (callsIn_wide (n := 6)).1 (append_in Fence.wide 6 trivial trivial rfl (by omega) C b t mem w hl hC hb)
set_option maxRecDepth 100000 in
set_option maxHeartbeats 4000000 in
theorem collect_calls (C b : Nat) (t : List Bool) (mem : Int) (w : World) (hl : t.length ≤ 64) (hC : Blk w C 84 (csR b t.length mem)) (hb : Blk w b 4 (t.map Value.bool).toArray) :
    Calls Try.prog 82 #[.func (.func 115) #[] #[.pointer (some ⟨C, 0, none⟩)]] w fun e W' => ∃ v, e = .returned v ∧ W'.ownsRow w.heap.size 3 1 v (freeL t).length ((freeL t).map (Value.int .i64)) ∧ (v = .slice none 0 0 ↔ freeL t = []) ∧ Below w.heap.size w W' := by
  have hc' := Lib.hid (append_calls C b t mem w hl hC hb)
  clear hC hb
  go_enter Try.func82, Try.ntmps82
  go_wp2_with (first | (go_at_call 114; refine hc'.out.mono ?_; rintro e w9 ⟨v, rfl, hrow, hnil, hb9⟩))
  go_ret
  exact ⟨v, rfl, hrow, hnil, hb9⟩
end Go.Proofs.Ytkbcjagkacijnaa.PPl
end
section
namespace Go.Proofs.Ytkbcjagkacijnaa.PPl
open Go.RowKit Go.Shelf Go.Maps Go.Proofs.Ytkbcjagkacijnaa.Iter Go.Proofs.YtkbcjagkacijnaaW.PrintWords Go.Proofs.YtkbcjagkacijnaaW.PrintLast
set_option linter.unusedVariables false
set_option linter.unusedSimpArgs false
set_option maxRecDepth 100000 in
set_option maxHeartbeats 4000000 in
theorem clip_calls (ad : Addr) (n c : Nat) (w : World) (hn : n ≤ c) (hm : n ≤ 9223372036854775807) :
    Calls Try.prog 81 #[.slice (some ad) n c] w fun e w' => e = .returned (.slice (some ad) n n) ∧ w' = w := by
  go_enter Try.func81, Try.ntmps81
  go_wp2
  all_goals (try go_ret)
  all_goals (try exact ⟨by simp, rfl⟩)
end Go.Proofs.Ytkbcjagkacijnaa.PPl
end
section
-- Written for this claim by this project's own driver over the kit's print: functions and their contracts.
namespace Go.Proofs.Ytkbcjagkacijnaa.PVec
open Go.RowKit Go.Proofs.YtkbcjagkacijnaaW.PrintWords Go.Proofs.YtkbcjagkacijnaaW.PrintLast Go.Proofs.YtkbcjagkacijnaaW.PrintMore
attribute [local go_sem] max2_int min2_int max_two min_two max_three min_three max_four min_four   -- for this text's walks alone
set_option linter.unusedVariables false
set_option linter.unusedSimpArgs false



def errW : Option Int → Value
  | none => .nilIface
  | some c => .iface 0 (.int .i64 c)
theorem errW_none : errW none = .nilIface := rfl
theorem errW_some (c : Int) : errW (some c) = .iface 0 (.int .i64 c) := rfl

-- the values' own types
end Go.Proofs.Ytkbcjagkacijnaa.PVec
end
section
namespace Go.Proofs.Ytkbcjagkacijnaa.PVec
open Go.RowKit Go.Shelf Go.Proofs.Ytkbcjagkacijnaa.Iter
set_option linter.unusedVariables false
set_option linter.unusedSimpArgs false
attribute [local go_sem] Oper.semAt_some

/-- Is this an amount of one resource? -/
def okRes (x : Int) : Bool := decide (0 ≤ x) && decide (x ≤ 1099511627776)
def vec_Good.f (a0 a1 : Int) : Option Bool := some (okRes a0 && okRes a1)
def vec_Fits.f (a0 a1 b0 b1 : Int) : Option Bool := some (decide (a0 ≤ b0) && decide (a1 ≤ b1))

set_option maxRecDepth 100000 in
set_option maxHeartbeats 4000000 in
theorem good_in (F : Fence) (n : Nat) (h79 : F.fn 79) (h90 : F.fn 90) (h120 : F.fn 120) (hro : F.round = none) (hn : 6 ≤ n) (a : Int × Int) (w : World) :
    CallsIn F n Try.prog 79 #[enc2 a] w fun e W' => e = .returned (.bool (okRes a.1 && okRes a.2)) ∧ Below w.heap.size w W' := by
  have h1 : 1 ≤ n := by omega
  refine callsIn_of_wp_marks Try.func79 rfl h79 ?_ hro
  simp only [Try.ntmps79, List.size_toArray, List.length_cons, List.length_nil, Nat.reduceAdd, Nat.reduceSub, Array.replicate_succ, Array.replicate_zero, List.push_toArray, List.append_toArray, List.nil_append, List.cons_append]
  have cV := (Blk.new w 25 (cs2 a)).alloc (.cells #[.bool false] 4)
  have cV0 := cV.cell 0
  have cV1 := cV.cell 1
  simp only [List.getElem?_toArray, List.getElem?_cons_zero, List.getElem?_cons_succ] at cV0 cV1
  gi_wp2_with (gi_at_call 90; refine (parts_in F (n - 1) h90 hro a a _).mono ?_; rintro e w' ⟨rfl, rfl⟩)
  have bR := ((Blk.new (w.alloc (.cells (cs2 a) 25)) 4 #[.bool false]).alloc (.cells (cs2 a) 25)).alloc (.cells (cs2 a) 25)
  have bA := (Blk.new ((w.alloc (.cells (cs2 a) 25)).alloc (.cells #[.bool false] 4)) 25 (cs2 a)).alloc (.cells (cs2 a) 25)
  have bB := Blk.new (((w.alloc (.cells (cs2 a) 25)).alloc (.cells #[.bool false] 4)).alloc (.cells (cs2 a) 25)) 25 (cs2 a)
  simp only [World.size_alloc] at bR bA bB
  have hB0 : Below w.heap.size w ((((w.alloc (.cells (cs2 a) 25)).alloc (.cells #[.bool false] 4)).alloc (.cells (cs2 a) 25)).alloc (.cells (cs2 a) 25)) :=
    ((((Below.refl _ w).alloc (Nat.le_refl _) _).alloc (by simp) _).alloc (by simp; omega) _).alloc (by simp; omega) _
  have hsz : ((((w.alloc (.cells (cs2 a) 25)).alloc (.cells #[.bool false] 4)).alloc (.cells (cs2 a) 25)).alloc (.cells (cs2 a) 25)).heap.size = w.heap.size + 4 := by simp
  obtain ⟨W0, hW0⟩ : ∃ W0, (((w.alloc (.cells (cs2 a) 25)).alloc (.cells #[.bool false] 4)).alloc (.cells (cs2 a) 25)).alloc (.cells (cs2 a) 25) = W0 := ⟨_, rfl⟩
  rw [hW0] at bR bA bB hB0 hsz ⊢
  clear hW0 cV cV0 cV1
  refine wpIn_rangeFunc_ownH hro h1 (gf := 120) (lb := #[.pointer (some ⟨w.heap.size + 1 + 1, 0, none⟩), .pointer (some ⟨w.heap.size + 1 + 1 + 1, 0, none⟩)]) rfl h120 (enters_of Try.func120 (by kernel_rfl) rfl)
    (parts_stops (fun x : Int × Int => x) (a.1, a.1) (a.2, a.2) F (n - 1) h120 hro (by omega) (w.heap.size + 1 + 1) (w.heap.size + 1 + 1 + 1) a a W0 rfl rfl bA bB) Two.t (Two.b (by omega) (by omega)) (Below.refl _ _) (fun _ => rfl)
    (fun pre W => ((AllB (fun x => okRes x.1) pre ∧ Blk W (w.heap.size + 1) 4 #[.bool false]) ∧ Blk W (w.heap.size + 1 + 1 + 1) 25 (cs2 a)) ∧ Below w.heap.size w W)
    (fun c pre W => ((c = .ret ∧ AnyB (fun x => okRes x.1) pre) ∧ Blk W (w.heap.size + 1) 4 #[.bool false]) ∧ Below w.heap.size w W)
    (OwnFrom.and (OwnFrom.and (OwnFrom.and (ownFrom_pure _ _) (Own.from (blk_own _ _ _) _)) (Own.from (blk_own _ _ _) _)) (ownFrom_below (Nat.le_refl _) (by omega)))
    (fun c => OwnFrom.and (OwnFrom.and (ownFrom_pure _ _) (Own.from (blk_own _ _ _) _)) (ownFrom_below (Nat.le_refl _) (by omega)))
    ⟨⟨⟨AllB.nil _, bR⟩, bB⟩, hB0⟩
    (fun x a' W => ∃ Bx, w.heap.size + 3 < Bx ∧ Blk W Bx 104 (cs2 x) ∧ a' = { tmps := #[enc2 a, .pointer (some ⟨w.heap.size, 0, none⟩), .pointer (some ⟨w.heap.size + 1, 0, none⟩), .pointer (some ⟨Bx, 0, none⟩), .agg #[.int .i64 a.1, .int .i64 a.2], .agg #[.int .i64 a.1, .int .i64 a.2],
      .func (.func 120) #[] #[.pointer (some ⟨w.heap.size + 1 + 1, 0, none⟩), .pointer (some ⟨w.heap.size + 1 + 1 + 1, 0, none⟩)], enc2 x, undef, undef, undef, undef, undef, undef, undef, undef], defers := [] })
    (fun x a' _ X Y row hs hg hr => by obtain ⟨Bx, e1, e2, e3⟩ := hs; exact ⟨Bx, e1, blk_own Bx 104 (fun (_ : Unit) => cs2 x) () X Y row e2 hg (fun r e => (hr r e).2), e3⟩)
    ?assign ?body ?done ?stop
  case assign =>
    rintro l pre x W K ⟨⟨⟨hp, bR1⟩, bB1⟩, hB1⟩ hK
    gi_wp2
    exact hK _ _ ((KeepsOthers.alloc _ _).from _) ((Two.refl _ _ W).alloc (by have := bB1.lt; omega) bB1.lt _) ⟨⟨⟨hp, bR1.alloc _⟩, bB1.alloc _⟩, hB1.alloc hB1.size _⟩ ⟨W.heap.size, bB1.lt, Blk.new W _ _, rfl⟩
  case body =>
    rintro l pre x a' W hl ⟨r, hr⟩ ⟨⟨⟨hp, bR1⟩, bB1⟩, hB1⟩ ⟨Bx, hBx, bX, rfl⟩ hlt
    have cX := bX.cell 0
    have cR := bR1.cell 0
    have fR := bR1.frozen 0
    simp only [List.getElem?_toArray, List.getElem?_cons_zero, List.getElem?_cons_succ] at cX cR
    gi_wp2
    all_goals first
      | exact ⟨(KeepsOthers.setCell _ _ _).from _, ⟨⟨rfl, AnyB.snoc (by simp [okRes]; omega)⟩, bR1.set 0 _ (by simp)⟩, hB1.setCell (p := ⟨w.heap.size + 1, 0, none⟩) (by simp <;> omega) _⟩
      | exact ⟨KeepsFrom.refl _ _, Two.refl _ _ _, ⟨⟨hp.snoc (by simp [okRes]; omega), bR1⟩, bB1⟩, hB1⟩
  case done =>
    rintro D zs W hD rfl ⟨⟨⟨hp, bR1⟩, bB1⟩, hB1⟩ hK
    have cR := bR1.cell 0
    have fR := bR1.frozen 0
    simp only [List.getElem?_toArray, List.getElem?_cons_zero] at cR
    gi_wp2
    have hK' := (KeepsOthers.setCell W ⟨w.heap.size + 1, 0, none⟩ (.bool true)).same D _ hK rfl
    refine ⟨by simp, .inl ⟨_, _, rfl, run_takeDeferred hK', ?_⟩⟩
    have hc5 := cell_kept (((bR1.set 0 (.bool true) (by simp)).cell 0).trans rfl) (grownBy_putObj' _ D (.deferred none)) (fun r e => by cases e; exact ⟨_, hK', rfl⟩)
    refine ⟨.bool true, ?_, by rw [show (okRes a.1 && okRes a.2) = true from hp.two], (hB1.setCell (p := ⟨w.heap.size + 1, 0, none⟩) (by simp <;> omega) _).trans (belowK_b (w := w) (Nat.le_refl _) _ D _ _ (by omega) hK' rfl rfl)⟩
    simp [results, Try.f79, go_sem, hc5]
  case stop =>
    rintro D c pre W hD hpre ⟨⟨⟨rfl, hx⟩, bR1⟩, hB1⟩ hK
    have cR := bR1.cell 0
    simp only [List.getElem?_toArray, List.getElem?_cons_zero] at cR
    gi_wp2
    refine ⟨by simp, .inl ⟨_, _, rfl, run_takeDeferred hK, ?_⟩⟩
    have hc5 := cell_kept cR (grownBy_putObj' _ D (.deferred none)) (fun r e => by cases e; exact ⟨_, hK, rfl⟩)
    refine ⟨.bool false, ?_, ?_, hB1.trans (belowK_b (w := w) (Nat.le_refl _) W D _ _ (by omega) hK rfl rfl)⟩
    · simp [results, Try.f79, go_sem, hc5]
    · rw [show (okRes a.1 && okRes a.2) = false from hx.two hpre]

theorem vec_Good.calls (a0 a1 : Int) (r : Bool) (w : World) (h : vec_Good.f a0 a1 = some r) :
    Calls Try.prog 79 #[.agg #[.int .i64 a0, .int .i64 a1]] w fun e w' => e = .returned (.bool r) ∧ Below w.heap.size w w' := by
  obtain rfl := Option.some.inj h
  exact (callsIn_wide (n := 6)).1 (good_in Fence.wide 6 trivial trivial trivial rfl (by omega) (a0, a1) w)
end Go.Proofs.Ytkbcjagkacijnaa.PVec
end
section
namespace Go.Proofs.Ytkbcjagkacijnaa.PPl
open Go.RowKit Go.Shelf Go.Maps Go.Proofs.Ytkbcjagkacijnaa.Iter Go.Proofs.YtkbcjagkacijnaaW.PrintWords Go.Proofs.YtkbcjagkacijnaaW.PrintLast
set_option linter.unusedVariables false
set_option linter.unusedSimpArgs false

def wfI (z : Int) : Bool := (Lit.int .i64 z).wf
def sumC (l : List S46) : Int := (l.map (·.f1)).sum
def sumM (l : List S46) : Int := (l.map (·.f2)).sum
/-- What Total answers. -/
def totalV (nodes : List S46) : Int × Int × Int := if (roomsF nodes []).1 ≠ 0 then (0, 0, (roomsF nodes []).1) else if goodV (sumC nodes) (sumM nodes) = true then (sumC nodes, sumM nodes, 0) else (0, 0, 2)
def place_Total.f (l0 : List S46) : Option (Int × Int × Int) := if l0.all (fun n => wfI n.f0) = true then some (totalV l0) else none
theorem roomsF_ok {nodes : List S46} {leases : List S50} (h : (roomsF nodes leases).1 = 0) : nodes.length ≤ 64 ∧ ndsOK (-1) nodes = true := by
  unfold roomsF at h
  split at h
  · cases h
  · split at h
    · rename_i h1 h2
      exact ⟨by omega, h2⟩
    · cases h

end Go.Proofs.Ytkbcjagkacijnaa.PPl
end
section
namespace Go.Proofs.Ytkbcjagkacijnaa.PPl
open Go.RowKit Go.Shelf Go.Maps Go.Proofs.Ytkbcjagkacijnaa.Iter Go.Proofs.YtkbcjagkacijnaaW.PrintWords Go.Proofs.YtkbcjagkacijnaaW.PrintLast
set_option linter.unusedVariables false
set_option linter.unusedSimpArgs false

def idxV (nodes : List S46) (id : Int) : Int := match nodes.findIdx? (fun n => n.f0 == id) with
  | some i => (i : Int)
  | none => -1

set_option maxRecDepth 100000 in
set_option maxHeartbeats 4000000 in
theorem free1_calls (nd : S46) (id : Int) (bI : Nat) (w : World) (hI : w.cell? ⟨bI, 0, none⟩ = some (.int .i64 id)) :
    Calls Try.prog 94 #[.agg #[.int .i64 nd.f0, .int .i64 nd.f1, .int .i64 nd.f2, .int .i64 nd.f3, .int .i64 nd.f4], .pointer (some ⟨bI, 0, none⟩)] w fun e w' => e = .returned (.bool (decide (nd.f0 = id))) ∧ Below w.heap.size w w' := by
  have hl := World.block_lt_of_cell? w _ hI
  have hI2 : (w.alloc (.cells #[.int .i64 nd.f0, .int .i64 nd.f1, .int .i64 nd.f2, .int .i64 nd.f3, .int .i64 nd.f4] 46)).cell? ⟨bI, 0, none⟩ = some (.int .i64 id) := (World.cell?_alloc_lt _ _ _ hl).trans hI
  go_enter Try.func94, Try.ntmps94
  go_wp2
  go_ret
  exact ⟨by first | rfl | simp, by first | exact (Below.refl _ w).alloc (Nat.le_refl _) _ | exact pw_below_drewN ((Below.refl _ w).alloc (Nat.le_refl _) _) _⟩

set_option maxRecDepth 100000 in
set_option maxHeartbeats 4000000 in
theorem index_calls (nodes : List S46) (A0 : Option Addr) (c0 : Nat) (id : Int) (bI : Nat) (w : World) (hr0 : Kd.C k46 w A0 nodes.length nodes) (hc0 : nodes.length ≤ c0) (hI : w.cell? ⟨bI, 0, none⟩ = some (.int .i64 id)) :
    Calls Try.prog 93 #[.slice A0 nodes.length c0, .func (.func 94) #[] #[.pointer (some ⟨bI, 0, none⟩)]] w fun e w' => e = .returned (.int .i64 (idxV nodes id)) ∧ Below w.heap.size w w' := by
  have hbig : nodes.length ≤ 9223372036854775807 := hr0.2.1
  have hl := World.block_lt_of_cell? w _ hI
  go_enter Try.func93, Try.ntmps93
  go_wp2
  go_loopw [8] (fun iv wr => ∃ (k : Nat), iv = .int .i64 k ∧ k ≤ nodes.length ∧ (∀ i : Nat, i < k → (rd_T46 nodes (i : Int)).f0 ≠ id) ∧ Below w.heap.size w wr) (fun iv _ => nodes.length - (intOf iv).toNat)
  case atStart => exact ⟨0, rfl, Nat.zero_le _, fun i h => absurd h (Nat.not_lt_zero _), Below.refl _ _⟩
  case round =>
    obtain ⟨k, rfl, hk, hno, hbel⟩ := hrel
    have hI1 := (hbel.cell (p := ⟨bI, 0, none⟩) hl).trans hI
    by_cases hlt : k < nodes.length
    · obtain ⟨nd, hndv⟩ : ∃ nd, rd_T46 nodes (k : Int) = nd := ⟨_, rfl⟩
      obtain ⟨ad, hA, q0, q1, q2, q3, q4⟩ := at_T46 hr0 (k : Int) (by omega) (by omega)
      subst hA
      rw [hndv, Int.toNat_natCast] at q0 q1 q2 q3 q4
      have adl : (ad.add (k * 5)).block < w.heap.size := World.block_lt_of_cell? w _ q0
      replace q0 := (hbel.cell adl).trans q0
      replace q1 := (hbel.cell (p := ⟨(ad.add (k * 5)).block, (ad.add (k * 5)).off + 1, none⟩) adl).trans q1
      replace q2 := (hbel.cell (p := ⟨(ad.add (k * 5)).block, (ad.add (k * 5)).off + 2, none⟩) adl).trans q2
      replace q3 := (hbel.cell (p := ⟨(ad.add (k * 5)).block, (ad.add (k * 5)).off + 3, none⟩) adl).trans q3
      replace q4 := (hbel.cell (p := ⟨(ad.add (k * 5)).block, (ad.add (k * 5)).off + 4, none⟩) adl).trans q4
      have hno' := Lib.hid hno
      have hndv' := Lib.hid hndv
      clear hno hndv
      by_cases he : nd.f0 = id
      · have d : decide (nd.f0 = id) = true := decide_eq_true he
        have hres : idxV nodes id = (k : Int) := by
          have hf : nodes.findIdx? (fun n => n.f0 == id) = some k := by
            rw [List.findIdx?_eq_some_iff_getElem]
            refine ⟨hlt, ?_, fun j hj => ?_⟩
            · have := hndv'.out
              simp [rd_T46, hlt] at this
              rw [this]
              simpa using he
            · have := hno'.out j hj
              simp [rd_T46, show j < nodes.length by omega] at this
              simpa using this
          unfold idxV
          rw [hf]
        have hres' := Lib.hid hres
        have he' := Lib.hid he
        clear he hres
        go_wp2_with (first | (go_at_call 94; refine (free1_calls nd id bI _ hI1).mono ?_; rintro e w9 ⟨rfl, hb⟩; have L2 := hbel.trans (hb.mono hbel.size); try simp only [d]))
        go_ret
        exact ⟨by rw [hres'.out]; rfl, L2⟩
      · have d : decide (nd.f0 = id) = false := decide_eq_false he
        have hnext : ∀ i : Nat, i < k + 1 → (rd_T46 nodes (i : Int)).f0 ≠ id := fun i hi => by
          by_cases e : i = k
          · subst e; rw [hndv'.out]; exact he
          · exact hno'.out i (by omega)
        have hnext' := Lib.hid hnext
        clear he hnext
        go_wp2_with (first | (go_at_call 94; refine (free1_calls nd id bI _ hI1).mono ?_; rintro e w9 ⟨rfl, hb⟩; have L2 := hbel.trans (hb.mono hbel.size); try simp only [d]))
        go_roundw
        case rel => exact ⟨k + 1, by go_num, by omega, hnext'.out, L2⟩
        case measure => simp [intOf]; omega
    · have hk' : k = nodes.length := by omega
      subst hk'
      have hres : idxV nodes id = -1 := by
        have hf : nodes.findIdx? (fun n => n.f0 == id) = none := by
          rw [List.findIdx?_eq_none_iff]
          intro n hn
          obtain ⟨j, hj, rfl⟩ := List.getElem_of_mem hn
          have := hno j hj
          simp [rd_T46, hj] at this
          simpa using this
        unfold idxV
        rw [hf]
      have hres' := Lib.hid hres
      clear hno hres
      go_wp2
      go_ret
      exact ⟨by rw [hres'.out]; rfl, hbel⟩
end Go.Proofs.Ytkbcjagkacijnaa.PPl
end
section
namespace Go.Proofs.Ytkbcjagkacijnaa.PPl
open Go.RowKit Go.Shelf Go.Maps Go.Proofs.Ytkbcjagkacijnaa.Iter Go.Proofs.YtkbcjagkacijnaaW.PrintWords Go.Proofs.YtkbcjagkacijnaaW.PrintLast
set_option linter.unusedVariables false
set_option linter.unusedSimpArgs false

/-- What Free answers. -/
def freeV (nodes : List S46) (leases : List S50) (id : Int) : List Int × Int × Int := if (roomsF nodes leases).1 ≠ 0 then ([], 0, (roomsF nodes leases).1) else match nodes.findIdx? (fun n => n.f0 == id) with
  | none => ([], 0, 8)
  | some i => (freeL ((roomsF nodes leases).2.getD i ⟨[], 0⟩).taken, ((roomsF nodes leases).2.getD i ⟨[], 0⟩).mem, 0)
def place_Free.f (l0 : List S46) (l1 : List S50) (a2 : Int) : Option (List Int × Int × Int) := if (l0.all (fun n => wfI n.f0) && l1.all (fun x => wfI x.f2)) = true then some (freeV l0 l1 a2) else none

theorem roomsL_keeps {nodes : List S46} : ∀ (l : List S50) (rs rs' : List Rm), roomsL nodes rs l = some rs' → rs'.length = rs.length ∧ ((∀ r ∈ rs, r.taken.length ≤ 64) → ∀ r ∈ rs', r.taken.length ≤ 64)
  | [], rs, rs', h => by
    simp [roomsL] at h
    subst h
    exact ⟨rfl, id⟩
  | x :: l, rs, rs', h => by
    rw [roomsL] at h
    split at h
    · cases h
    · rename_i i hf
      split at h
      · cases h
      · rename_i r hr
        obtain ⟨a, b⟩ := roomsL_keeps l _ _ h
        refine ⟨by rw [a, List.length_set], fun hall => b fun u hu => ?_⟩
        rcases List.mem_or_eq_of_mem_set hu with hu | rfl
        · exact hall u hu
        · rw [(leaseR_keeps hr).1, List.getD_eq_getElem?_getD]
          cases e : rs[i]? with
          | none => simp
          | some q => exact hall q (List.mem_of_getElem? e)
theorem roomsF_keeps {nodes : List S46} {leases : List S50} (h : (roomsF nodes leases).1 = 0) : (roomsF nodes leases).2.length = nodes.length ∧ ∀ r ∈ (roomsF nodes leases).2, r.taken.length ≤ 64 := by
  obtain ⟨h64, hnd⟩ := roomsF_ok h
  have hbd := (nds_all hnd).2
  have e : roomsF nodes leases = rfOf (roomsL nodes (nodes.map rm0) leases) := by
    unfold roomsF
    rw [if_neg (by omega), if_pos hnd]
    cases roomsL nodes (nodes.map rm0) leases <;> rfl
  rw [e] at h ⊢
  cases hR : roomsL nodes (nodes.map rm0) leases with
  | none => rw [hR] at h; cases h
  | some rs =>
    obtain ⟨a, b⟩ := roomsL_keeps _ _ _ hR
    refine ⟨by show rs.length = _; rw [a, List.length_map], b fun r hr => ?_⟩
    obtain ⟨n, hn, rfl⟩ := List.mem_map.1 hr
    have := hbd n hn
    simp only [rm0, List.length_replicate]
    omega
theorem roomsF_len {nodes : List S46} {leases : List S50} (h : (roomsF nodes leases).1 = 0) : (roomsF nodes leases).2.length = nodes.length := (roomsF_keeps h).1
theorem roomsF_64 {nodes : List S46} {leases : List S50} (h : (roomsF nodes leases).1 = 0) : ∀ r ∈ (roomsF nodes leases).2, r.taken.length ≤ 64 := (roomsF_keeps h).2
theorem RoomsAt.below {W W1 : World} {BR : Nat} {bs : Nat → Nat} {rs : List Rm} (h : RoomsAt W BR bs rs) (hb : Below W.heap.size W W1) : RoomsAt W1 BR bs rs := fun i r hr => by
  obtain ⟨h1, h2, h3, h4⟩ := h i r hr
  exact ⟨(hb.cell (World.block_lt_of_cell? W _ h1)).trans h1, (hb.cell (World.block_lt_of_cell? W _ h2)).trans h2, h3.below hb h3.lt, h4⟩
set_option maxRecDepth 100000 in
set_option maxHeartbeats 8000000 in
theorem place_Free.calls (A0 : Option Addr) (c0 : Nat) (l0 : List S46) (A1 : Option Addr) (c1 : Nat) (l1 : List S50) (a2 : Int) (r1 : List Int) (r2 r3 : Int) (w : World) (hr0 : Kd.C k46 w A0 l0.length l0) (hc0 : l0.length ≤ c0) (hr1 : Kd.C k50 w A1 l1.length l1) (hc1 : l1.length ≤ c1) (h : place_Free.f l0 l1 a2 = some (r1, r2, r3)) :
    Calls Try.prog 49 #[.slice A0 l0.length c0, .slice A1 l1.length c1, .int .i64 a2] w fun e w' => ∃ v0_, e = .returned (.tuple #[v0_, .int .i64 r2, .int .i64 r3]) ∧ Kd.R (Kd.int .i64) 3 w' w.heap.size (fun _ => True) v0_ r1 ∧ Below w.heap.size w w' := by
  unfold place_Free.f at h
  split at h
  · rename_i hwf
    rw [Bool.and_eq_true] at hwf
    have hT : freeV l0 l1 a2 = (r1, r2, r3) := Option.some.inj h
    clear h
    have hw : ∀ n ∈ l0, (Lit.int .i64 n.f0).wf = true := fun n hn => List.all_eq_true.1 hwf.1 n hn
    have hw2 : ∀ x ∈ l1, (Lit.int .i64 x.f2).wf = true := fun n hn => List.all_eq_true.1 hwf.2 n hn
    have hC := rooms_calls (H := Unit) l0 l1 A0 c0 A1 c1 (w.alloc (.cells #[.int .i64 a2] 3)) hc0 hc1 (Kd.C_alloc hr0 _) (Kd.C_alloc hr1 _) hw hw2
    have l0'' : Below w.heap.size w (w.alloc (.cells #[.int .i64 a2] 3)) := (Below.refl _ w).alloc (Nat.le_refl _) _
    have l0' := Lib.hid l0''
    clear l0'' hwf hw hw2
    by_cases hz : (roomsF l0 l1).1 = 0
    · have hC1 := hC.mono (R' := fun e w' => Below (w.alloc (.cells #[.int .i64 a2] 3)).heap.size (w.alloc (.cells #[.int .i64 a2] 3)) w' ∧ ∃ bs, e = .returned (.tuple #[.slice (some ⟨(w.alloc (.cells #[.int .i64 a2] 3)).heap.size, 0, none⟩) l0.length l0.length, .int .i64 0]) ∧ RoomsAt w' (w.alloc (.cells #[.int .i64 a2] 3)).heap.size bs (roomsF l0 l1).2) (by
        rintro e w' ⟨hb, ⟨h0, _⟩ | ⟨_, bs, he, hR⟩⟩
        · exact absurd hz h0
        · exact ⟨hb, bs, he, hR⟩)
      have hC' := Lib.hid hC1
      have hI0 : (w.alloc (.cells #[.int .i64 a2] 3)).cell? ⟨w.heap.size, 0, none⟩ = some (.int .i64 a2) := (Blk.new w 3 #[.int .i64 a2]).cell 0
      have hI0' := Lib.hid hI0
      clear hC hC1 hI0
      cases hf : l0.findIdx? (fun n => n.f0 == a2) with
      | none =>
        obtain ⟨rfl, rfl, rfl⟩ : ([] : List Int) = r1 ∧ (0 : Int) = r2 ∧ (8 : Int) = r3 := by
          unfold freeV at hT
          rw [if_neg (by omega), hf] at hT
          simpa using hT
        have hidx : idxV l0 a2 = -1 := by unfold idxV; rw [hf]
        clear hT hf
        go_enter Try.func49, Try.ntmps49
        go_wp2_with (first
          | ((with_reducible refine gate_callee (f := 78) rfl ?_); refine goesL_ (some 15) rfl rfl Try.func78 (by kernel_rfl) rfl #[.slice A0 l0.length c0, .slice A1 l1.length c1] rfl (by (try simp only [List.map_toArray, List.map_cons, List.map_nil]); first | done | rfl) ?_; (with_reducible refine hC'.out.mono ?_); rintro e w9 ⟨hb, bs, rfl, hRA⟩; refine ⟨_, rfl, ?_⟩; have L1' := Lib.hid (l0'.out.trans (hb.mono (by simp))); have hI := (hb.cell (p := ⟨w.heap.size, 0, none⟩) (by simp)).trans hI0'.out; clear hb hRA)
          | ((with_reducible refine gate_callee (f := 93) rfl ?_); refine goesL_ (some 23) rfl rfl Try.func93 (by kernel_rfl) rfl #[.slice A0 l0.length c0, .func (.func 94) #[] #[.pointer (some ⟨w.heap.size, 0, none⟩)]] rfl (by (try simp only [List.map_toArray, List.map_cons, List.map_nil]); first | done | rfl) ?_; (with_reducible refine (index_calls l0 A0 c0 a2 w.heap.size _ (Kd.C_below hr0 L1'.out) hc0 hI).mono ?_); rintro e w10 ⟨rfl, hb⟩; refine ⟨_, rfl, ?_⟩; have L2' := Lib.hid (L1'.out.trans (hb.mono L1'.out.size)); clear hb; try simp only [hidx]))
        refine bodyPost_ret (v := .tuple #[.slice none 0 0, .int .i64 0, .int .i64 8]) ?_ rfl ?_
        · simp [results, Try.f49, go_sem]
        · exact ⟨.slice none 0 0, rfl, Kd.R_nil _ _ _ _ _, L2'.out⟩
      | some i =>
        obtain ⟨hi, _, _⟩ := List.findIdx?_eq_some_iff_getElem.1 hf
        have hidx : idxV l0 a2 = (i : Int) := by unfold idxV; rw [hf]
        have hT' := Lib.hid hT
        have hf' := Lib.hid hf
        clear hT hf
        go_enter Try.func49, Try.ntmps49
        go_wp2_with (first
          | ((with_reducible refine gate_callee (f := 78) rfl ?_); refine goesL_ (some 15) rfl rfl Try.func78 (by kernel_rfl) rfl #[.slice A0 l0.length c0, .slice A1 l1.length c1] rfl (by (try simp only [List.map_toArray, List.map_cons, List.map_nil]); first | done | rfl) ?_; (with_reducible refine hC'.out.mono ?_); rintro e w9 ⟨hb, bs, rfl, hRA⟩; refine ⟨_, rfl, ?_⟩; have L1' := Lib.hid (l0'.out.trans (hb.mono (by simp))); have hI := (hb.cell (p := ⟨w.heap.size, 0, none⟩) (by simp)).trans hI0'.out; have hRA' := Lib.hid hRA; clear hRA; have h9' := Lib.hid hb; clear hb)
          | ((with_reducible refine gate_callee (f := 93) rfl ?_); refine goesL_ (some 23) rfl rfl Try.func93 (by kernel_rfl) rfl #[.slice A0 l0.length c0, .func (.func 94) #[] #[.pointer (some ⟨w.heap.size, 0, none⟩)]] rfl (by (try simp only [List.map_toArray, List.map_cons, List.map_nil]); first | done | rfl) ?_; (with_reducible refine (index_calls l0 A0 c0 a2 w.heap.size _ (Kd.C_below hr0 L1'.out) hc0 hI).mono ?_); rintro e w10 ⟨rfl, hb⟩; refine ⟨_, rfl, ?_⟩; have L2' := Lib.hid (L1'.out.trans (hb.mono L1'.out.size)); have RB' := Lib.hid (hRA'.out.below hb); clear hb; try simp only [hidx]))
        have hrl : i < (roomsF l0 l1).2.length := by rw [roomsF_len hz]; exact hi
        obtain ⟨r, hr⟩ : ∃ r, (roomsF l0 l1).2[i]? = some r := ⟨_, List.getElem?_eq_getElem hrl⟩
        obtain ⟨a1, a2', a3, a4⟩ := RB'.out i r hr
        rw [World.size_alloc] at a1 a2' a4
        have ht : r.taken.length ≤ 64 := roomsF_64 hz r (List.mem_of_getElem? hr)
        have a3' := Lib.hid a3
        have hr' := Lib.hid hr
        clear a3 hr hI
        refine start_ (n := 14) (S := fun w' => w'.cell? ⟨w.heap.size + 1, i * 2, none⟩ = some (.slice (some ⟨bs i, 0, none⟩) r.taken.length r.taken.length) ∧ w'.cell? ⟨w.heap.size + 1, i * 2 + 1, none⟩ = some (.int .i64 r.mem)) (ds := []) #[false, false, false, false, false, false, false, false, false, false, false, false, false, false] (by kernel_rfl) rfl rfl ⟨a1, a2'⟩ (fun hHeld => ?_)
        refine pure_ (i := 0) (N := some 26) (v := ?_) (a' := ?_) #[true, false, false, false, false, false, false, false, false, false, false, false, false, false] rfl rfl (by kernel_rfl) (fun _ _ _ h => h) (Or.inl ⟨by rfl, ?_⟩) ?_ ?_
        rotate_left
        · intro w'
          go_simp
          with_reducible rfl
        rotate_left
        · simp only [Act.put, List.setIfInBounds_toArray, List.set_cons_zero, List.set_cons_succ, i64_w, i32_w]
          rfl
        refine pure_ (i := 1) (N := some 27) (v := ?_) (a' := ?_) #[true, true, false, false, false, false, false, false, false, false, false, false, false, false] rfl rfl (by kernel_rfl) (fun _ _ _ h => h) (Or.inl ⟨by rfl, ?_⟩) ?_ ?_
        rotate_left
        · intro w'
          go_simp
          with_reducible rfl
        rotate_left
        · simp only [Act.put, List.setIfInBounds_toArray, List.set_cons_zero, List.set_cons_succ, i64_w, i32_w]
          rfl
        refine pure_ (i := 2) (N := some 28) (v := ?_) (a' := ?_) #[true, true, true, false, false, false, false, false, false, false, false, false, false, false] rfl rfl (by kernel_rfl) (fun _ _ _ h => h) (Or.inl ⟨by rfl, ?_⟩) ?_ ?_
        rotate_left
        · intro w'
          go_simp
          with_reducible rfl
        rotate_left
        · simp only [Act.put, List.setIfInBounds_toArray, List.set_cons_zero, List.set_cons_succ, i64_w, i32_w]
          rfl
        refine take_ (i := 3) (N := some 29) (v := ?_) (a' := ?_) #[true, true, true, true, false, false, false, false, false, false, false, false, false, false] rfl rfl (by kernel_rfl) (fun _ _ _ h => h) (Or.inl ⟨by rfl, ?_⟩) hHeld ?_ ?_
        rotate_left
        · rintro w' ⟨s0, s1⟩
          go_simp
          with_reducible rfl
        rotate_left
        · simp only [Act.put, List.setIfInBounds_toArray, List.set_cons_zero, List.set_cons_succ, i64_w, i32_w]
          rfl
        refine pure_ (i := 6) (N := some 32) (v := ?_) (a' := ?_) #[true, true, true, true, false, false, true, false, false, false, false, false, false, false] rfl rfl (by kernel_rfl) (fun _ _ _ h => h) (Or.inl ⟨by rfl, ?_⟩) ?_ ?_
        rotate_left
        · intro w'
          go_simp
          with_reducible rfl
        rotate_left
        · simp only [Act.put, List.setIfInBounds_toArray, List.set_cons_zero, List.set_cons_succ, i64_w, i32_w]
          rfl
        refine pure_ (i := 7) (N := some 33) (v := ?_) (a' := ?_) #[true, true, true, true, false, false, true, true, false, false, false, false, false, false] rfl rfl (by kernel_rfl) (fun _ _ _ h => h) (Or.inl ⟨by rfl, ?_⟩) ?_ ?_
        rotate_left
        · intro w'
          go_simp
          with_reducible rfl
        rotate_left
        · simp only [Act.put, List.setIfInBounds_toArray, List.set_cons_zero, List.set_cons_succ, i64_w, i32_w]
          rfl
        refine pure_ (i := 8) (N := some 34) (v := ?_) (a' := ?_) #[true, true, true, true, false, false, true, true, true, false, false, false, false, false] rfl rfl (by kernel_rfl) (fun _ _ _ h => h) (Or.inl ⟨by rfl, ?_⟩) ?_ ?_
        rotate_left
        · intro w'
          go_simp
          with_reducible rfl
        rotate_left
        · simp only [Act.put, List.setIfInBounds_toArray, List.set_cons_zero, List.set_cons_succ, i64_w, i32_w]
          rfl
        refine pure_ (i := 9) (N := some 35) (v := ?_) (a' := ?_) #[true, true, true, true, false, false, true, true, true, true, false, false, false, false] rfl rfl (by kernel_rfl) (fun _ _ _ h => h) (Or.inl ⟨by rfl, ?_⟩) ?_ ?_
        rotate_left
        · intro w'
          go_simp
          with_reducible rfl
        rotate_left
        · simp only [Act.put, List.setIfInBounds_toArray, List.set_cons_zero, List.set_cons_succ, i64_w, i32_w]
          rfl
        refine take_ (i := 10) (N := some 36) (v := ?_) (a' := ?_) #[true, true, true, true, false, false, true, true, true, true, true, false, false, false] rfl rfl (by kernel_rfl) (fun _ _ _ h => h) (Or.inl ⟨by rfl, ?_⟩) hHeld ?_ ?_
        rotate_left
        · rintro w' ⟨s0, s1⟩
          go_simp
          with_reducible rfl
        rotate_left
        · simp only [Act.put, List.setIfInBounds_toArray, List.set_cons_zero, List.set_cons_succ, i64_w, i32_w]
          rfl
        refine one_ (i := 4) (N := some 30) #[true, true, true, true, true, false, true, true, true, true, true, false, false, false] rfl rfl (by kernel_rfl) (by decide) (fun K hK => ?_)
        refine goes_ Try.func83 (by kernel_rfl) rfl #[encR (bs i) r.taken.length r.mem] (by rfl) rfl rfl (by (try simp only [List.map_toArray, List.map_cons, List.map_nil]); first | done | rfl) ?_
        with_reducible refine (free_calls (bs i) r.taken.length r.mem _).mono ?_
        rintro e w11 ⟨rfl, hw11⟩
        refine ⟨_, rfl, ?_⟩
        refine hK.out _ _ ⟨by rw [hw11]; exact (World.cell?_alloc_lt _ _ _ (World.block_lt_of_cell? _ _ a1)).trans a1, by rw [hw11]; exact (World.cell?_alloc_lt _ _ _ (World.block_lt_of_cell? _ _ a2')).trans a2'⟩ (fun hHeld => ?_)
        clear hK K
        refine norm_ (a' := ?_) ?_ ?_
        rotate_left
        · show Act.put _ (some 30) _ = _
          simp only [Act.put, List.setIfInBounds_toArray, List.set_cons_zero, List.set_cons_succ, i64_w, i32_w]
          rfl
        have bC : Blk w11 w10.heap.size 84 (csR (bs i) r.taken.length r.mem) := by rw [hw11]; exact Blk.new w10.drew _ _
        have bb : Blk w11 (bs i) 4 (r.taken.map Value.bool).toArray := by rw [hw11]; exact (show Blk w10.drew _ _ _ from a3'.out).alloc _
        have L3 : Below w.heap.size w w11 := by rw [hw11]; exact L2'.out.drew.alloc (by have := L2'.out.size; exact this) _
        refine one_ (i := 5) (N := some 31) #[true, true, true, true, true, true, true, true, true, true, true, false, false, false] rfl rfl (by kernel_rfl) (by decide) (fun K hK => ?_)
        refine goes_ Try.func82 (by kernel_rfl) rfl #[.func (.func 115) #[] #[.pointer (some ⟨w10.heap.size, 0, none⟩)]] (by rfl) rfl rfl (by (try simp only [List.map_toArray, List.map_cons, List.map_nil]); first | done | rfl) ?_
        with_reducible refine (collect_calls w10.heap.size (bs i) r.taken r.mem w11 ht bC bb).mono ?_
        rintro e w12 ⟨v, rfl, hrow, hnil, hb12⟩
        refine ⟨_, rfl, ?_⟩
        refine hK.out _ _ ⟨(hb12.cell (World.block_lt_of_cell? _ _ hHeld.1)).trans hHeld.1, (hb12.cell (World.block_lt_of_cell? _ _ hHeld.2)).trans hHeld.2⟩ (fun hHeld => ?_)
        clear hK K
        refine norm_ (a' := ?_) ?_ ?_
        rotate_left
        · show Act.put _ (some 31) _ = _
          simp only [Act.put, List.setIfInBounds_toArray, List.set_cons_zero, List.set_cons_succ, i64_w, i32_w]
          rfl
        refine pure_ (i := 11) (N := some 6) (v := ?_) (a' := ?_) #[true, true, true, true, true, true, true, true, true, true, true, true, false, false] rfl rfl (by kernel_rfl) (fun _ _ _ h => h) (Or.inl ⟨by rfl, ?_⟩) ?_ ?_
        rotate_left
        · intro w'
          go_simp
          with_reducible rfl
        rotate_left
        · simp only [Act.put, List.setIfInBounds_toArray, List.set_cons_zero, List.set_cons_succ, i64_w, i32_w]
          rfl
        refine pure_ (i := 12) (N := some 7) (v := ?_) (a' := ?_) #[true, true, true, true, true, true, true, true, true, true, true, true, true, false] rfl rfl (by kernel_rfl) (fun _ _ _ h => h) (Or.inl ⟨by rfl, ?_⟩) ?_ ?_
        rotate_left
        · intro w'
          go_simp
          with_reducible rfl
        rotate_left
        · simp only [Act.put, List.setIfInBounds_toArray, List.set_cons_zero, List.set_cons_succ, i64_w, i32_w]
          rfl
        refine pure_ (i := 13) (N := some 8) (v := ?_) (a' := ?_) #[true, true, true, true, true, true, true, true, true, true, true, true, true, true] rfl rfl (by kernel_rfl) (fun _ _ _ h => h) (Or.inl ⟨by rfl, ?_⟩) ?_ ?_
        rotate_left
        · intro w'
          go_simp
          with_reducible rfl
        rotate_left
        · simp only [Act.put, List.setIfInBounds_toArray, List.set_cons_zero, List.set_cons_succ, i64_w, i32_w]
          rfl
        refine done_ (by kernel_rfl) ?_
        have L4 := L3.trans (hb12.mono L3.size)
        have hres : r1 = freeL r.taken ∧ r2 = r.mem ∧ r3 = 0 := by
          have := hT'.out
          unfold freeV at this
          rw [if_neg (by omega), hf'.out] at this
          simp only [List.getD_eq_getElem?_getD, hr'.out, Option.getD_some, Prod.mk.injEq] at this
          exact ⟨this.1.symm, this.2.1.symm, this.2.2.symm⟩
        obtain ⟨rfl, rfl, rfl⟩ := hres
        clear hHeld
        go_wp2
        refine bodyPost_ret (v := .tuple #[v, .int .i64 r.mem, .int .i64 0]) ?_ rfl ?_
        · simp [results, Try.f49, go_sem]
        · exact ⟨v, rfl, Kd.R_lower (Kd.R_of_own (by first | exact hrow | simpa [encs] using hrow) (fun _ _ => trivial)) L3.size, L4⟩
    · obtain ⟨rfl, rfl, rfl⟩ : ([] : List Int) = r1 ∧ (0 : Int) = r2 ∧ (roomsF l0 l1).1 = r3 := by
        unfold freeV at hT
        rw [if_pos hz] at hT
        simpa using hT
      have hC1 := hC.mono (R' := fun e w' => Below (w.alloc (.cells #[.int .i64 a2] 3)).heap.size (w.alloc (.cells #[.int .i64 a2] 3)) w' ∧ e = .returned (.tuple #[.slice none 0 0, .int .i64 (roomsF l0 l1).1])) (by
        rintro e w' ⟨hb, ⟨_, he⟩ | ⟨h0, _⟩⟩
        · exact ⟨hb, he⟩
        · exact absurd h0 hz)
      have hC' := Lib.hid hC1
      have d1 : decide ((roomsF l0 l1).1 = 0) = false := decide_eq_false hz
      clear hC hC1 hT
      generalize (roomsF l0 l1).1 = code at *
      go_enter Try.func49, Try.ntmps49
      go_wp2_with (((with_reducible refine gate_callee (f := 78) rfl ?_); refine goesL_ (some 15) rfl rfl Try.func78 (by kernel_rfl) rfl #[.slice A0 l0.length c0, .slice A1 l1.length c1] rfl (by (try simp only [List.map_toArray, List.map_cons, List.map_nil]); first | done | rfl) ?_; (with_reducible refine hC'.out.mono ?_); rintro e w9 ⟨hb, rfl⟩; refine ⟨_, rfl, ?_⟩; have L1 := l0'.out.trans (hb.mono (by simp)); have L1' := Lib.hid L1; clear L1 hb))
      refine bodyPost_ret (v := .tuple #[.slice none 0 0, .int .i64 0, .int .i64 code]) ?_ rfl ?_
      · simp [results, Try.f49, go_sem]
      · exact ⟨.slice none 0 0, rfl, Kd.R_nil _ _ _ _ _, L1'.out⟩
  · cases h
end Go.Proofs.Ytkbcjagkacijnaa.PPl
end
section
namespace Go.Proofs.Ytkbcjagkacijnaa.PPl
open Go.RowKit Go.Shelf Go.Maps Go.Proofs.Ytkbcjagkacijnaa.Iter Go.Proofs.YtkbcjagkacijnaaW.PrintWords Go.Proofs.YtkbcjagkacijnaaW.PrintLast
set_option linter.unusedVariables false
set_option linter.unusedSimpArgs false

def place_Find.f (l0 : List S46) (l1 : List S50) (a0 a1 : Int) : Option (Int × List Int × Int) := if (l0.all (fun n => wfI n.f0) && l1.all (fun x => wfI x.f2)) = true then some (findV l0 l1 a0 a1) else none

theorem freeL_len (t : List Bool) : (freeL t).length ≤ t.length := by
  unfold freeL
  rw [List.length_map]
  exact Nat.le_trans (List.length_filter_le _ _) (by simp)
/-- The search's answer has what is asked for. -/
theorem searchR_has (a0 a1 : Int) (rs : List Rm) : ∀ (l : List Rm) (best least : Int) (i : Nat), rs.drop i = l → (0 ≤ best → ∃ r, rs[best.toNat]? = some r ∧ a0 ≤ ((freeL r.taken).length : Int)) → 0 ≤ (searchR a0 a1 best least i l).1 →
    ∃ r, rs[(searchR a0 a1 best least i l).1.toNat]? = some r ∧ a0 ≤ ((freeL r.taken).length : Int)
  | [], best, least, i, hd, hb, h => hb h
  | r :: l, best, least, i, hd, hb, h => by
    have hi : rs[i]? = some r := by rw [← List.head?_drop, hd]; rfl
    have hd' : rs.drop (i + 1) = l := by rw [← List.tail_drop, hd]; rfl
    rw [searchR] at h ⊢
    split at h
    · rename_i hc
      rw [if_pos hc]
      exact searchR_has a0 a1 rs l best least (i + 1) hd' hb h
    · rename_i hc
      rw [if_neg hc]
      exact searchR_has a0 a1 rs l _ _ (i + 1) hd' (fun _ => ⟨r, by simpa using hi, by omega⟩) h

set_option maxRecDepth 100000 in
set_option maxHeartbeats 8000000 in
theorem place_Find.calls (A0 : Option Addr) (c0 : Nat) (l0 : List S46) (A1 : Option Addr) (c1 : Nat) (l1 : List S50) (a0 a1 : Int) (r1 : Int) (r2 : List Int) (r3 : Int) (w : World) (hr0 : Kd.C k46 w A0 l0.length l0) (hc0 : l0.length ≤ c0) (hr1 : Kd.C k50 w A1 l1.length l1) (hc1 : l1.length ≤ c1) (h : place_Find.f l0 l1 a0 a1 = some (r1, r2, r3)) :
    Calls Try.prog 33 #[.slice A0 l0.length c0, .slice A1 l1.length c1, .agg #[.int .i64 a0, .int .i64 a1]] w fun e w' => ∃ A c, e = .returned (.tuple #[.int .i64 r1, .slice A r2.length r2.length, .int .i64 r3]) ∧ Kd.R (Kd.int .i64) 3 w' w.heap.size (fun _ => True) (.slice A r2.length c) r2 ∧ Below w.heap.size w w' := by
  unfold place_Find.f at h
  split at h
  · rename_i hwf
    rw [Bool.and_eq_true] at hwf
    have hT : findV l0 l1 a0 a1 = (r1, r2, r3) := Option.some.inj h
    clear h
    have hw : ∀ n ∈ l0, (Lit.int .i64 n.f0).wf = true := fun n hn => List.all_eq_true.1 hwf.1 n hn
    have hw2 : ∀ x ∈ l1, (Lit.int .i64 x.f2).wf = true := fun n hn => List.all_eq_true.1 hwf.2 n hn
    have hbig : l0.length ≤ 9223372036854775807 := hr0.2.1
    have hC := rooms_calls (H := Unit) l0 l1 A0 c0 A1 c1 (w.alloc (.cells #[.int .i64 a0, .int .i64 a1] 25)) hc0 hc1 (Kd.C_alloc hr0 _) (Kd.C_alloc hr1 _) hw hw2
    have l0'' : Below w.heap.size w (w.alloc (.cells #[.int .i64 a0, .int .i64 a1] 25)) := (Below.refl _ w).alloc (Nat.le_refl _) _
    have R0' := Lib.hid (Blk.new w 25 #[.int .i64 a0, .int .i64 a1])
    have l0' := Lib.hid l0''
    clear l0'' hwf hw hw2
    by_cases hz : (roomsF l0 l1).1 = 0
    · have hC1 := hC.mono (R' := fun e w' => Below (w.alloc (.cells #[.int .i64 a0, .int .i64 a1] 25)).heap.size (w.alloc (.cells #[.int .i64 a0, .int .i64 a1] 25)) w' ∧ ∃ bs, e = .returned (.tuple #[.slice (some ⟨(w.alloc (.cells #[.int .i64 a0, .int .i64 a1] 25)).heap.size, 0, none⟩) l0.length l0.length, .int .i64 0]) ∧ RoomsAt w' (w.alloc (.cells #[.int .i64 a0, .int .i64 a1] 25)).heap.size bs (roomsF l0 l1).2) (by
        rintro e w' ⟨hb, ⟨h0, _⟩ | ⟨_, bs, he, hR⟩⟩
        · exact absurd hz h0
        · exact ⟨hb, bs, he, hR⟩)
      have hC' := Lib.hid hC1
      clear hC hC1
      have hvg : PVec.vec_Good.f a0 a1 = some (PVec.okRes a0 && PVec.okRes a1) := rfl
      by_cases harg : a0 < 1 ∨ 64 < a0 ∨ goodV a0 a1 = false
      · obtain ⟨rfl, rfl, rfl⟩ : (0 : Int) = r1 ∧ ([] : List Int) = r2 ∧ (1 : Int) = r3 := by
          unfold findV at hT
          rw [if_neg (by omega), if_pos harg] at hT
          simpa using hT
        clear hT
        have harg' := Lib.hid harg
        clear harg
        by_cases g1 : a0 < 1
        · have d1 : decide (a0 < 1) = true := decide_eq_true g1
          have g1' := Lib.hid g1
          clear g1
          go_enter Try.func33, Try.ntmps33
          go_wp2
          apply wp_scope_straight
          go_wp2_with (((with_reducible refine gate_callee (f := 78) rfl ?_); refine goesL_ (some 19) rfl rfl Try.func78 (by kernel_rfl) rfl #[.slice A0 l0.length c0, .slice A1 l1.length c1] rfl (by (try simp only [List.map_toArray, List.map_cons, List.map_nil]); first | done | rfl) ?_; (with_reducible refine (hC'.out).mono ?_); rintro e w9 ⟨hb, bs, rfl, hRA⟩; refine ⟨_, rfl, ?_⟩; have L1' := Lib.hid (l0'.out.trans (hb.mono (by simp))); have R1 := R0'.out.below hb R0'.out.lt; have q0 := R1.cell 0; have q1 := R1.cell 1; have f0 := R1.frozen 0; have f1 := R1.frozen 1; simp only [List.getElem?_toArray, List.getElem?_cons_zero, List.getElem?_cons_succ] at q0 q1; have R1' := Lib.hid R1; have RA1' := Lib.hid hRA; clear hb hRA R1))
          rw [Exit.noGoto_ret]
          refine bodyPost_ret (v := .tuple #[.int .i64 0, .slice none 0 0, .int .i64 1]) ?_ rfl ?_
          · simp [results, Try.f33, go_sem]
          · exact ⟨none, 0, rfl, Kd.R_nil _ _ _ _ _, L1'.out⟩
        · have d1 : decide (a0 < 1) = false := decide_eq_false g1
          by_cases g2 : 64 < a0
          · have d2 : decide (64 < a0) = true := decide_eq_true g2
            have g1' := Lib.hid g1
            have g2' := Lib.hid g2
            clear g1 g2
            go_enter Try.func33, Try.ntmps33
            go_wp2
            apply wp_scope_straight
            go_wp2_with (((with_reducible refine gate_callee (f := 78) rfl ?_); refine goesL_ (some 19) rfl rfl Try.func78 (by kernel_rfl) rfl #[.slice A0 l0.length c0, .slice A1 l1.length c1] rfl (by (try simp only [List.map_toArray, List.map_cons, List.map_nil]); first | done | rfl) ?_; (with_reducible refine (hC'.out).mono ?_); rintro e w9 ⟨hb, bs, rfl, hRA⟩; refine ⟨_, rfl, ?_⟩; have L1' := Lib.hid (l0'.out.trans (hb.mono (by simp))); have R1 := R0'.out.below hb R0'.out.lt; have q0 := R1.cell 0; have q1 := R1.cell 1; have f0 := R1.frozen 0; have f1 := R1.frozen 1; simp only [List.getElem?_toArray, List.getElem?_cons_zero, List.getElem?_cons_succ] at q0 q1; have R1' := Lib.hid R1; have RA1' := Lib.hid hRA; clear hb hRA R1))
            rw [Exit.noGoto_ret]
            refine bodyPost_ret (v := .tuple #[.int .i64 0, .slice none 0 0, .int .i64 1]) ?_ rfl ?_
            · simp [results, Try.f33, go_sem]
            · exact ⟨none, 0, rfl, Kd.R_nil _ _ _ _ _, L1'.out⟩
          · have d2 : decide (64 < a0) = false := decide_eq_false g2
            have hgood : (PVec.okRes a0 && PVec.okRes a1) = false := by
              have : goodV a0 a1 = false := by
                rcases harg'.out with h | h | h
                · omega
                · omega
                · exact h
              exact this
            have g1' := Lib.hid g1
            have g2' := Lib.hid g2
            clear g1 g2
            go_enter Try.func33, Try.ntmps33
            go_wp2
            apply wp_scope_straight
            go_wp2_with (first
              | (((with_reducible refine gate_callee (f := 78) rfl ?_); refine goesL_ (some 19) rfl rfl Try.func78 (by kernel_rfl) rfl #[.slice A0 l0.length c0, .slice A1 l1.length c1] rfl (by (try simp only [List.map_toArray, List.map_cons, List.map_nil]); first | done | rfl) ?_; (with_reducible refine (hC'.out).mono ?_); rintro e w9 ⟨hb, bs, rfl, hRA⟩; refine ⟨_, rfl, ?_⟩; have L1' := Lib.hid (l0'.out.trans (hb.mono (by simp))); have R1 := R0'.out.below hb R0'.out.lt; have q0 := R1.cell 0; have q1 := R1.cell 1; have f0 := R1.frozen 0; have f1 := R1.frozen 1; simp only [List.getElem?_toArray, List.getElem?_cons_zero, List.getElem?_cons_succ] at q0 q1; have R1' := Lib.hid R1; have RA1' := Lib.hid hRA; clear hb hRA R1))
              | ((go_at_call 79; refine (PVec.vec_Good.calls a0 a1 _ _ hvg).mono ?_; rintro e w10 ⟨rfl, hb⟩; have R2 := R1'.out.below hb R1'.out.lt; have L2 := L1'.out.trans (hb.mono L1'.out.size); have RA2 : RoomsAt w10 (w.heap.size + 1) bs _ := (by have h_ := RA1'.out.below hb; first | exact h_ | (rw [World.size_alloc] at h_; exact h_)); clear q0 q1 f0 f1; have q0 := R2.cell 0; have q1 := R2.cell 1; have f0 := R2.frozen 0; have f1 := R2.frozen 1; simp only [List.getElem?_toArray, List.getElem?_cons_zero, List.getElem?_cons_succ] at q0 q1; have R2' := Lib.hid R2; clear R2 RA2 hb; have L1' := Lib.hid L2; clear L2; try simp only [hgood])))
            rw [Exit.noGoto_ret]
            refine bodyPost_ret (v := .tuple #[.int .i64 0, .slice none 0 0, .int .i64 1]) ?_ rfl ?_
            · simp [results, Try.f33, go_sem]
            · exact ⟨none, 0, rfl, Kd.R_nil _ _ _ _ _, L1'.out⟩
      · have g1 : ¬ a0 < 1 := fun h => harg (.inl h)
        have g2 : ¬ 64 < a0 := fun h => harg (.inr (.inl h))
        have d1 : decide (a0 < 1) = false := decide_eq_false g1
        have d2 : decide (64 < a0) = false := decide_eq_false g2
        have hgood : (PVec.okRes a0 && PVec.okRes a1) = true := by
          cases hg : goodV a0 a1
          · exact absurd (.inr (.inr hg)) harg
          · exact hg
        have hlen : (roomsF l0 l1).2.length = l0.length := roomsF_len hz
        have h64r : ∀ r ∈ (roomsF l0 l1).2, r.taken.length ≤ 64 := roomsF_64 hz
        have hT2 : (if (searchR a0 a1 (-1) 65 0 (roomsF l0 l1).2).1 < 0 then ((0 : Int), ([] : List Int), (10 : Int)) else
            ((l0.getD (searchR a0 a1 (-1) 65 0 (roomsF l0 l1).2).1.toNat z46).f0, (freeL ((roomsF l0 l1).2.getD (searchR a0 a1 (-1) 65 0 (roomsF l0 l1).2).1.toNat ⟨[], 0⟩).taken).take a0.toNat, 0)) = (r1, r2, r3) := by
          unfold findV at hT
          rwa [if_neg (by omega), if_neg harg] at hT
        have hT2' := Lib.hid hT2
        have g1' := Lib.hid g1
        have g2' := Lib.hid g2
        have hlen' := Lib.hid hlen
        have h64r' := Lib.hid h64r
        clear hT hT2 g1 g2 harg hz hlen h64r
        generalize (roomsF l0 l1).2 = rs at *
        go_enter Try.func33, Try.ntmps33
        go_wp2
        apply wp_scope_straight
        go_wp2_with (first
          | (((with_reducible refine gate_callee (f := 78) rfl ?_); refine goesL_ (some 19) rfl rfl Try.func78 (by kernel_rfl) rfl #[.slice A0 l0.length c0, .slice A1 l1.length c1] rfl (by (try simp only [List.map_toArray, List.map_cons, List.map_nil]); first | done | rfl) ?_; (with_reducible refine (hC'.out).mono ?_); rintro e w9 ⟨hb, bs, rfl, hRA⟩; refine ⟨_, rfl, ?_⟩; have L1' := Lib.hid (l0'.out.trans (hb.mono (by simp))); have R1 := R0'.out.below hb R0'.out.lt; have q0 := R1.cell 0; have q1 := R1.cell 1; have f0 := R1.frozen 0; have f1 := R1.frozen 1; simp only [List.getElem?_toArray, List.getElem?_cons_zero, List.getElem?_cons_succ] at q0 q1; have R1' := Lib.hid R1; have RA1' := Lib.hid hRA; clear hb hRA R1))
          | ((go_at_call 79; refine (PVec.vec_Good.calls a0 a1 _ _ hvg).mono ?_; rintro e w10 ⟨rfl, hb⟩; have R2 := R1'.out.below hb R1'.out.lt; have L2 := L1'.out.trans (hb.mono L1'.out.size); have RA2 : RoomsAt w10 (w.heap.size + 1) bs _ := (by have h_ := RA1'.out.below hb; first | exact h_ | (rw [World.size_alloc] at h_; exact h_)); clear q0 q1 f0 f1; have q0 := R2.cell 0; have q1 := R2.cell 1; have f0 := R2.frozen 0; have f1 := R2.frozen 1; simp only [List.getElem?_toArray, List.getElem?_cons_zero, List.getElem?_cons_succ] at q0 q1; have R2' := Lib.hid R2; have L2' := Lib.hid L2; have RA2' := Lib.hid RA2; clear hb L2 R2 RA2; try simp only [hgood])))
        apply wp_label
        go_wp2
        go_loopw [11, 12, 40] (fun bv lv iv wr => ∃ (k : Nat) (best least : Int), bv = .int .i64 best ∧ lv = .int .i64 least ∧ iv = .int .i64 k ∧ k ≤ l0.length ∧ -1 ≤ best ∧ best < k ∧ 0 ≤ least ∧ least ≤ 65 ∧ searchR a0 a1 (-1) 65 0 rs = searchR a0 a1 best least k (rs.drop k) ∧ Blk wr w.heap.size 25 #[.int .i64 a0, .int .i64 a1] ∧ RoomsAt wr (w.heap.size + 1) bs rs ∧ Below w.heap.size w wr)
          (fun _ _ iv _ => l0.length - (intOf iv).toNat)
        case atStart => exact ⟨0, -1, 65, rfl, rfl, rfl, Nat.zero_le _, by omega, by omega, by omega, by omega, rfl, R2'.out, RA2'.out, L2'.out⟩
        case round =>
          obtain ⟨k, best, least, rfl, rfl, rfl, hk, hb1, hb2, hl1, hl2, hS, bV, hRA, hbel⟩ := hrel
          clear q0 q1 f0 f1
          have hS' := Lib.hid hS
          clear hS
          have hbel' := Lib.hid hbel
          clear hbel
          by_cases hlt : k < l0.length
          · obtain ⟨r, hr⟩ : ∃ r, rs[k]? = some r := ⟨rs[k]'(by rw [hlen'.out]; exact hlt), List.getElem?_eq_getElem _⟩
            obtain ⟨a1', a2', a3, a4⟩ := hRA k r hr
            have ht : r.taken.length ≤ 64 := h64r'.out r (List.mem_of_getElem? hr)
            have hd : rs.drop k = r :: rs.drop (k + 1) := by
              have hk' : k < rs.length := by rw [hlen'.out]; exact hlt
              rw [List.drop_eq_getElem_cons hk']
              congr 1
              rw [List.getElem?_eq_getElem hk'] at hr
              exact Option.some.inj hr
            have hstep : searchR a0 a1 (-1) 65 0 rs = if ((freeL r.taken).length : Int) < a0 ∨ r.mem < a1 ∨ least ≤ ((freeL r.taken).length : Int) then searchR a0 a1 best least (k + 1) (rs.drop (k + 1)) else searchR a0 a1 (k : Int) ((freeL r.taken).length : Int) (k + 1) (rs.drop (k + 1)) := by
              rw [hS'.out, hd, searchR]
            have hfl := freeL_len r.taken
            have hcnt := count_calls (bs k) r.taken r.mem (wr.alloc (.cells (csR (bs k) r.taken.length r.mem) 84)) ht (a3.alloc _)
            have hcnt' := Lib.hid hcnt
            have hstep' := Lib.hid hstep
            generalize hnq : (freeL r.taken).length = nq at *
            have bC := Blk.new wr 84 (csR (bs k) r.taken.length r.mem)
            have p0 := bC.cell 0
            have p1 := bC.cell 1
            have pf := bC.frozen 1
            simp only [List.getElem?_toArray, List.getElem?_cons_zero, List.getElem?_cons_succ] at p0 p1
            have bVb := bV.alloc (.cells (csR (bs k) r.taken.length r.mem) 84)
            have bC' := Lib.hid bC
            have bV' := Lib.hid bVb
            have hRA' := Lib.hid hRA
            have hr' := Lib.hid hr
            have a3' := Lib.hid a3
            have hsz := bV.lt
            clear hcnt hstep bC bVb hRA hr a3 hd hnq bV
            by_cases e1 : (nq : Int) < a0
            · have x1 : decide ((nq : Int) < a0) = true := decide_eq_true e1
              have hno : searchR a0 a1 (-1) 65 0 rs = searchR a0 a1 best least (k + 1) (rs.drop (k + 1)) := by rw [hstep'.out, if_pos (.inl e1)]
              have hno' := Lib.hid hno
              clear hno e1
              go_wp2_with (((with_reducible refine gate_callee (f := 80) rfl ?_); refine goesL_ (some 46) rfl rfl Try.func80 (by kernel_rfl) rfl #[encR (bs k) r.taken.length r.mem] rfl (by (try simp only [List.map_toArray, List.map_cons, List.map_nil]); first | done | rfl) ?_; (with_reducible refine (hcnt'.out).mono ?_); rintro e w11 ⟨rfl, hb⟩; refine ⟨_, rfl, ?_⟩; have V3 := bV'.out.below hb bV'.out.lt; have C3 := bC'.out.below hb bC'.out.lt; have q0 := V3.cell 0; have q1 := V3.cell 1; have f0 := V3.frozen 0; have f1 := V3.frozen 1; clear p0 p1 pf; have p0 := C3.cell 0; have p1 := C3.cell 1; simp only [List.getElem?_toArray, List.getElem?_cons_zero, List.getElem?_cons_succ] at q0 q1 p0 p1; have L3' := Lib.hid ((hbel'.out.alloc hbel'.out.size _).trans (hb.mono (by have := hbel'.out.size; simp; omega))); have RA3' := Lib.hid ((hRA'.out.alloc (.cells (csR (bs k) r.taken.length r.mem) 84)).below hb); have V3' := Lib.hid V3; clear hb V3 C3))
              go_roundw
              case rel => exact ⟨k + 1, best, least, by rfl, by rfl, by go_num, by omega, by omega, by omega, by omega, by omega, hno'.out, V3'.out, RA3'.out, L3'.out⟩
              case measure => simp [intOf]; omega
            · have x1 : decide ((nq : Int) < a0) = false := decide_eq_false e1
              by_cases e2 : r.mem < a1
              · have x2 : decide (r.mem < a1) = true := decide_eq_true e2
                have hno : searchR a0 a1 (-1) 65 0 rs = searchR a0 a1 best least (k + 1) (rs.drop (k + 1)) := by rw [hstep'.out, if_pos (.inr (.inl e2))]
                have hno' := Lib.hid hno
                clear hno e1 e2
                go_wp2_with (((with_reducible refine gate_callee (f := 80) rfl ?_); refine goesL_ (some 46) rfl rfl Try.func80 (by kernel_rfl) rfl #[encR (bs k) r.taken.length r.mem] rfl (by (try simp only [List.map_toArray, List.map_cons, List.map_nil]); first | done | rfl) ?_; (with_reducible refine (hcnt'.out).mono ?_); rintro e w11 ⟨rfl, hb⟩; refine ⟨_, rfl, ?_⟩; have V3 := bV'.out.below hb bV'.out.lt; have C3 := bC'.out.below hb bC'.out.lt; have q0 := V3.cell 0; have q1 := V3.cell 1; have f0 := V3.frozen 0; have f1 := V3.frozen 1; clear p0 p1 pf; have p0 := C3.cell 0; have p1 := C3.cell 1; simp only [List.getElem?_toArray, List.getElem?_cons_zero, List.getElem?_cons_succ] at q0 q1 p0 p1; have L3' := Lib.hid ((hbel'.out.alloc hbel'.out.size _).trans (hb.mono (by have := hbel'.out.size; simp; omega))); have RA3' := Lib.hid ((hRA'.out.alloc (.cells (csR (bs k) r.taken.length r.mem) 84)).below hb); have V3' := Lib.hid V3; clear hb V3 C3))
                go_roundw
                case rel => exact ⟨k + 1, best, least, by rfl, by rfl, by go_num, by omega, by omega, by omega, by omega, by omega, hno'.out, V3'.out, RA3'.out, L3'.out⟩
                case measure => simp [intOf]; omega
              · have x2 : decide (r.mem < a1) = false := decide_eq_false e2
                by_cases e3 : least ≤ (nq : Int)
                · have x3 : decide (least ≤ (nq : Int)) = true := decide_eq_true e3
                  have hno : searchR a0 a1 (-1) 65 0 rs = searchR a0 a1 best least (k + 1) (rs.drop (k + 1)) := by rw [hstep'.out, if_pos (.inr (.inr e3))]
                  have hno' := Lib.hid hno
                  clear hno e1 e2 e3
                  go_wp2_with (((with_reducible refine gate_callee (f := 80) rfl ?_); refine goesL_ (some 46) rfl rfl Try.func80 (by kernel_rfl) rfl #[encR (bs k) r.taken.length r.mem] rfl (by (try simp only [List.map_toArray, List.map_cons, List.map_nil]); first | done | rfl) ?_; (with_reducible refine (hcnt'.out).mono ?_); rintro e w11 ⟨rfl, hb⟩; refine ⟨_, rfl, ?_⟩; have V3 := bV'.out.below hb bV'.out.lt; have C3 := bC'.out.below hb bC'.out.lt; have q0 := V3.cell 0; have q1 := V3.cell 1; have f0 := V3.frozen 0; have f1 := V3.frozen 1; clear p0 p1 pf; have p0 := C3.cell 0; have p1 := C3.cell 1; simp only [List.getElem?_toArray, List.getElem?_cons_zero, List.getElem?_cons_succ] at q0 q1 p0 p1; have L3' := Lib.hid ((hbel'.out.alloc hbel'.out.size _).trans (hb.mono (by have := hbel'.out.size; simp; omega))); have RA3' := Lib.hid ((hRA'.out.alloc (.cells (csR (bs k) r.taken.length r.mem) 84)).below hb); have V3' := Lib.hid V3; clear hb V3 C3))
                  go_roundw
                  case rel => exact ⟨k + 1, best, least, by rfl, by rfl, by go_num, by omega, by omega, by omega, by omega, by omega, hno'.out, V3'.out, RA3'.out, L3'.out⟩
                  case measure => simp [intOf]; omega
                · have x3 : decide (least ≤ (nq : Int)) = false := decide_eq_false e3
                  have hyes : searchR a0 a1 (-1) 65 0 rs = searchR a0 a1 (k : Int) (nq : Int) (k + 1) (rs.drop (k + 1)) := by rw [hstep'.out, if_neg (by intro h; rcases h with h | h | h <;> omega)]
                  have hno' := Lib.hid hyes
                  clear hyes e1 e2 e3
                  go_wp2_with (((with_reducible refine gate_callee (f := 80) rfl ?_); refine goesL_ (some 46) rfl rfl Try.func80 (by kernel_rfl) rfl #[encR (bs k) r.taken.length r.mem] rfl (by (try simp only [List.map_toArray, List.map_cons, List.map_nil]); first | done | rfl) ?_; (with_reducible refine (hcnt'.out).mono ?_); rintro e w11 ⟨rfl, hb⟩; refine ⟨_, rfl, ?_⟩; have V3 := bV'.out.below hb bV'.out.lt; have C3 := bC'.out.below hb bC'.out.lt; have q0 := V3.cell 0; have q1 := V3.cell 1; have f0 := V3.frozen 0; have f1 := V3.frozen 1; clear p0 p1 pf; have p0 := C3.cell 0; have p1 := C3.cell 1; simp only [List.getElem?_toArray, List.getElem?_cons_zero, List.getElem?_cons_succ] at q0 q1 p0 p1; have L3' := Lib.hid ((hbel'.out.alloc hbel'.out.size _).trans (hb.mono (by have := hbel'.out.size; simp; omega))); have RA3' := Lib.hid ((hRA'.out.alloc (.cells (csR (bs k) r.taken.length r.mem) 84)).below hb); have V3' := Lib.hid V3; clear hb V3 C3))
                  go_roundw
                  case rel => exact ⟨k + 1, (k : Int), (nq : Int), by first | rfl | go_num, by first | rfl | go_num, by go_num, by omega, by omega, by omega, by omega, by omega, hno'.out, V3'.out, RA3'.out, L3'.out⟩
                  case measure => simp [intOf]; omega
          · have hk' : k = l0.length := by omega
            subst hk'
            have hE : searchR a0 a1 (-1) 65 0 rs = (best, least) := by rw [hS'.out, List.drop_of_length_le (by rw [hlen'.out]; exact Nat.le_refl _)]; rfl
            have hE' := Lib.hid hE
            clear hE
            by_cases hneg : best < 0
            · have dn : decide (best < 0) = true := decide_eq_true hneg
              obtain ⟨rfl, rfl, rfl⟩ : (0 : Int) = r1 ∧ ([] : List Int) = r2 ∧ (10 : Int) = r3 := by
                have := hT2'.out
                rw [hE'.out, if_pos hneg] at this
                simpa using this
              have hneg' := Lib.hid hneg
              clear hneg hb1 hb2 hRA bV
              go_wp2
              rw [Exit.noGoto_ret]
              refine bodyPost_ret (v := .tuple #[.int .i64 0, .slice none 0 0, .int .i64 10]) ?_ rfl ?_
              · simp [results, Try.f33, go_sem]
              · exact ⟨none, 0, rfl, Kd.R_nil _ _ _ _ _, hbel'.out⟩
            · have dn : decide (best < 0) = false := decide_eq_false hneg
              obtain ⟨i, rfl⟩ : ∃ i : Nat, best = i := ⟨best.toNat, by omega⟩
              go_wp2
              have hlt' : i < l0.length := by omega
              have hnneg' := Lib.hid hneg
              clear hneg hlt hk
              obtain ⟨ad, hA, z0, z1, z2, z3, z4⟩ := at_T46 hr0 (i : Int) (by omega) (by omega)
              subst hA
              rw [Int.toNat_natCast] at z0
              clear z1 z2 z3 z4
              have adl : (ad.add (i * 5)).block < w.heap.size := World.block_lt_of_cell? w _ z0
              replace z0 := (hbel'.out.cell adl).trans z0
              obtain ⟨nf, hnf⟩ : ∃ nf, (rd_T46 l0 (i : Int)).f0 = nf := ⟨_, rfl⟩
              rw [hnf] at z0
              obtain ⟨r, hr, hfit⟩ := searchR_has a0 a1 rs rs (-1) 65 0 rfl (fun h => absurd h (by omega)) (by rw [hE'.out]; omega)
              rw [hE'.out] at hr
              simp only [Int.toNat_natCast] at hr
              obtain ⟨y1, y2, y3, y4⟩ := hRA i r hr
              have ht : r.taken.length ≤ 64 := h64r'.out r (List.mem_of_getElem? hr)
              have hfl := freeL_len r.taken
              obtain ⟨q, rfl⟩ : ∃ q : Nat, a0 = q := ⟨a0.toNat, by have := g1'.out; omega⟩
              have hq1 : 1 ≤ q := by have := g1'.out; omega
              have hqn : q ≤ (freeL r.taken).length := by omega
              have v0 := bV.cell 0
              simp only [List.getElem?_toArray, List.getElem?_cons_zero, List.getElem?_cons_succ] at v0
              have hres : r1 = nf ∧ r2 = (freeL r.taken).take q ∧ r3 = 0 := by
                have := hT2'.out
                rw [hE'.out, if_neg (by omega)] at this
                simp only [Int.toNat_natCast, List.getD_eq_getElem?_getD, hr, Option.getD_some, Prod.mk.injEq] at this
                refine ⟨?_, this.2.1.symm, this.2.2.symm⟩
                rw [← this.1, ← hnf]
                simp [rd_T46]
              have hres' := Lib.hid hres
              have y3' := Lib.hid y3
              have hqn' := Lib.hid hqn
              have hlv : w.heap.size < wr.heap.size := bV.lt
              clear hres y3 hr hnf hfit hfl hRA bV hqn hE' hS'
              refine start_ (n := 20) (S := fun w' => w'.cell? (ad.add (i * 5)) = some (.int .i64 nf) ∧ w'.cell? ⟨w.heap.size + 1, i * 2, none⟩ = some (.slice (some ⟨bs i, 0, none⟩) r.taken.length r.taken.length) ∧ w'.cell? ⟨w.heap.size + 1, i * 2 + 1, none⟩ = some (.int .i64 r.mem) ∧ w'.cell? ⟨w.heap.size, 0, none⟩ = some (.int .i64 (q : Int))) (ds := []) #[false, false, false, false, false, false, false, false, false, false, false, false, false, false, false, false, false, false, false, false] (by kernel_rfl) rfl rfl ⟨z0, y1, y2, v0⟩ (fun hHeld => ?_)
              refine pure_ (i := 0) (N := some 68) (v := ?_) (a' := ?_) #[true, false, false, false, false, false, false, false, false, false, false, false, false, false, false, false, false, false, false, false] rfl rfl (by kernel_rfl) (fun _ _ _ h => h) (Or.inl ⟨by rfl, ?_⟩) ?_ ?_
              rotate_left
              · intro w'
                go_simp
                with_reducible rfl
              rotate_left
              · simp only [Act.put, List.setIfInBounds_toArray, List.set_cons_zero, List.set_cons_succ, i64_w, i32_w]
                rfl
              refine pure_ (i := 1) (N := some 69) (v := ?_) (a' := ?_) #[true, true, false, false, false, false, false, false, false, false, false, false, false, false, false, false, false, false, false, false] rfl rfl (by kernel_rfl) (fun _ _ _ h => h) (Or.inl ⟨by rfl, ?_⟩) ?_ ?_
              rotate_left
              · intro w'
                go_simp
                with_reducible rfl
              rotate_left
              · simp only [Act.put, List.setIfInBounds_toArray, List.set_cons_zero, List.set_cons_succ, i64_w, i32_w]
                rfl
              refine pure_ (i := 2) (N := some 70) (v := ?_) (a' := ?_) #[true, true, true, false, false, false, false, false, false, false, false, false, false, false, false, false, false, false, false, false] rfl rfl (by kernel_rfl) (fun _ _ _ h => h) (Or.inl ⟨by rfl, ?_⟩) ?_ ?_
              rotate_left
              · intro w'
                go_simp
                with_reducible rfl
              rotate_left
              · simp only [Act.put, List.setIfInBounds_toArray, List.set_cons_zero, List.set_cons_succ, i64_w, i32_w]
                rfl
              refine pure_ (i := 3) (N := some 71) (v := ?_) (a' := ?_) #[true, true, true, true, false, false, false, false, false, false, false, false, false, false, false, false, false, false, false, false] rfl rfl (by kernel_rfl) (fun _ _ _ h => h) (Or.inl ⟨by rfl, ?_⟩) ?_ ?_
              rotate_left
              · intro w'
                go_simp
                with_reducible rfl
              rotate_left
              · simp only [Act.put, List.setIfInBounds_toArray, List.set_cons_zero, List.set_cons_succ, i64_w, i32_w]
                rfl
              refine take_ (i := 4) (N := some 72) (v := ?_) (a' := ?_) #[true, true, true, true, true, false, false, false, false, false, false, false, false, false, false, false, false, false, false, false] rfl rfl (by kernel_rfl) (fun _ _ _ h => h) (Or.inl ⟨by rfl, ?_⟩) hHeld ?_ ?_
              rotate_left
              · rintro w' ⟨s0, s1, s2, s3⟩
                go_simp
                with_reducible rfl
              rotate_left
              · simp only [Act.put, List.setIfInBounds_toArray, List.set_cons_zero, List.set_cons_succ, i64_w, i32_w]
                rfl
              refine pure_ (i := 5) (N := some 73) (v := ?_) (a' := ?_) #[true, true, true, true, true, true, false, false, false, false, false, false, false, false, false, false, false, false, false, false] rfl rfl (by kernel_rfl) (fun _ _ _ h => h) (Or.inl ⟨by rfl, ?_⟩) ?_ ?_
              rotate_left
              · intro w'
                go_simp
                with_reducible rfl
              rotate_left
              · simp only [Act.put, List.setIfInBounds_toArray, List.set_cons_zero, List.set_cons_succ, i64_w, i32_w]
                rfl
              refine pure_ (i := 6) (N := some 74) (v := ?_) (a' := ?_) #[true, true, true, true, true, true, true, false, false, false, false, false, false, false, false, false, false, false, false, false] rfl rfl (by kernel_rfl) (fun _ _ _ h => h) (Or.inl ⟨by rfl, ?_⟩) ?_ ?_
              rotate_left
              · intro w'
                go_simp
                with_reducible rfl
              rotate_left
              · simp only [Act.put, List.setIfInBounds_toArray, List.set_cons_zero, List.set_cons_succ, i64_w, i32_w]
                rfl
              refine pure_ (i := 7) (N := some 75) (v := ?_) (a' := ?_) #[true, true, true, true, true, true, true, true, false, false, false, false, false, false, false, false, false, false, false, false] rfl rfl (by kernel_rfl) (fun _ _ _ h => h) (Or.inl ⟨by rfl, ?_⟩) ?_ ?_
              rotate_left
              · intro w'
                go_simp
                with_reducible rfl
              rotate_left
              · simp only [Act.put, List.setIfInBounds_toArray, List.set_cons_zero, List.set_cons_succ, i64_w, i32_w]
                rfl
              refine take_ (i := 8) (N := some 76) (v := ?_) (a' := ?_) #[true, true, true, true, true, true, true, true, true, false, false, false, false, false, false, false, false, false, false, false] rfl rfl (by kernel_rfl) (fun _ _ _ h => h) (Or.inl ⟨by rfl, ?_⟩) hHeld ?_ ?_
              rotate_left
              · rintro w' ⟨s0, s1, s2, s3⟩
                go_simp
                with_reducible rfl
              rotate_left
              · simp only [Act.put, List.setIfInBounds_toArray, List.set_cons_zero, List.set_cons_succ, i64_w, i32_w]
                rfl
              refine pure_ (i := 11) (N := some 79) (v := ?_) (a' := ?_) #[true, true, true, true, true, true, true, true, true, false, false, true, false, false, false, false, false, false, false, false] rfl rfl (by kernel_rfl) (fun _ _ _ h => h) (Or.inl ⟨by rfl, ?_⟩) ?_ ?_
              rotate_left
              · intro w'
                go_simp
                with_reducible rfl
              rotate_left
              · simp only [Act.put, List.setIfInBounds_toArray, List.set_cons_zero, List.set_cons_succ, i64_w, i32_w]
                rfl
              refine take_ (i := 12) (N := some 80) (v := ?_) (a' := ?_) #[true, true, true, true, true, true, true, true, true, false, false, true, true, false, false, false, false, false, false, false] rfl rfl (by kernel_rfl) (fun _ _ _ h => h) (Or.inl ⟨by rfl, ?_⟩) hHeld ?_ ?_
              rotate_left
              · rintro w' ⟨s0, s1, s2, s3⟩
                go_simp
                with_reducible rfl
              rotate_left
              · simp only [Act.put, List.setIfInBounds_toArray, List.set_cons_zero, List.set_cons_succ, i64_w, i32_w]
                rfl
              refine pure_ (i := 13) (N := some 81) (v := ?_) (a' := ?_) #[true, true, true, true, true, true, true, true, true, false, false, true, true, true, false, false, false, false, false, false] rfl rfl (by kernel_rfl) (fun _ _ _ h => h) (Or.inl ⟨by rfl, ?_⟩) ?_ ?_
              rotate_left
              · intro w'
                go_simp
                with_reducible rfl
              rotate_left
              · simp only [Act.put, List.setIfInBounds_toArray, List.set_cons_zero, List.set_cons_succ, i64_w, i32_w]
                rfl
              refine take_ (i := 14) (N := some 82) (v := ?_) (a' := ?_) #[true, true, true, true, true, true, true, true, true, false, false, true, true, true, true, false, false, false, false, false] rfl rfl (by kernel_rfl) (fun _ _ _ h => h) (Or.inl ⟨by rfl, ?_⟩) hHeld ?_ ?_
              rotate_left
              · rintro w' ⟨s0, s1, s2, s3⟩
                go_simp
                with_reducible rfl
              rotate_left
              · simp only [Act.put, List.setIfInBounds_toArray, List.set_cons_zero, List.set_cons_succ, i64_w, i32_w]
                rfl
              refine one_ (i := 9) (N := some 77) #[true, true, true, true, true, true, true, true, true, true, false, true, true, true, true, false, false, false, false, false] rfl rfl (by kernel_rfl) (by decide) (fun K hK => ?_)
              refine goes_ Try.func83 (by kernel_rfl) rfl #[encR (bs i) r.taken.length r.mem] (by rfl) rfl rfl (by (try simp only [List.map_toArray, List.map_cons, List.map_nil]); first | done | rfl) ?_
              with_reducible refine (free_calls (bs i) r.taken.length r.mem _).mono ?_
              rintro e w11 ⟨rfl, hw11⟩
              refine ⟨_, rfl, ?_⟩
              refine hK.out _ _ ⟨by rw [hw11]; exact (World.cell?_alloc_lt _ _ _ (World.block_lt_of_cell? _ _ z0)).trans z0, by rw [hw11]; exact (World.cell?_alloc_lt _ _ _ (World.block_lt_of_cell? _ _ y1)).trans y1, by rw [hw11]; exact (World.cell?_alloc_lt _ _ _ (World.block_lt_of_cell? _ _ y2)).trans y2, by rw [hw11]; exact (World.cell?_alloc_lt _ _ _ (World.block_lt_of_cell? _ _ v0)).trans v0⟩ (fun hHeld => ?_)
              clear hK K
              refine norm_ (a' := ?_) ?_ ?_
              rotate_left
              · show Act.put _ (some 77) _ = _
                simp only [Act.put, List.setIfInBounds_toArray, List.set_cons_zero, List.set_cons_succ, i64_w, i32_w]
                rfl
              have bC : Blk w11 wr.heap.size 84 (csR (bs i) r.taken.length r.mem) := by rw [hw11]; exact Blk.new wr.drew _ _
              have bb : Blk w11 (bs i) 4 (r.taken.map Value.bool).toArray := by rw [hw11]; exact (show Blk wr.drew _ _ _ from y3'.out).alloc _
              have L3 : Below w.heap.size w w11 := by rw [hw11]; exact hbel'.out.drew.alloc (by have := hbel'.out.size; exact this) _
              refine one_ (i := 10) (N := some 78) #[true, true, true, true, true, true, true, true, true, true, true, true, true, true, true, false, false, false, false, false] rfl rfl (by kernel_rfl) (by decide) (fun K hK => ?_)
              refine goes_ Try.func82 (by kernel_rfl) rfl #[.func (.func 115) #[] #[.pointer (some ⟨wr.heap.size, 0, none⟩)]] (by rfl) rfl rfl (by (try simp only [List.map_toArray, List.map_cons, List.map_nil]); first | done | rfl) ?_
              with_reducible refine (collect_calls wr.heap.size (bs i) r.taken r.mem w11 ht bC bb).mono ?_
              rintro e w12 ⟨v, rfl, hrow, hnil, hb12⟩
              obtain ⟨g, cap, cur, rfl, hg1, hg2, hg3, hg4, hg5⟩ : ∃ g cap cur, v = .slice (some ⟨g, 0, none⟩) (freeL r.taken).length cap ∧ w11.heap.size ≤ g ∧ w12.heap[g]? = some (.cells cur 3 (0, 0)) ∧ (freeL r.taken).length ≤ cap ∧ cap ≤ maxLen ∧ cur.size = cap * 1 := by
                rcases hrow.2 with ⟨_, h0⟩ | ⟨g, cap, cur, h1, h2, h3, h4, h5, h6, _⟩
                · have := hqn'.out; omega
                · exact ⟨g, cap, cur, h1, h2, h3, h4, h5, h6⟩
              have hqc : (q : Int) ≤ (cap : Int) := by have := hqn'.out; omega
              refine ⟨_, rfl, ?_⟩
              refine hK.out _ _ ⟨(hb12.cell (World.block_lt_of_cell? _ _ hHeld.1)).trans hHeld.1, (hb12.cell (World.block_lt_of_cell? _ _ hHeld.2.1)).trans hHeld.2.1, (hb12.cell (World.block_lt_of_cell? _ _ hHeld.2.2.1)).trans hHeld.2.2.1, (hb12.cell (World.block_lt_of_cell? _ _ hHeld.2.2.2)).trans hHeld.2.2.2⟩ (fun hHeld => ?_)
              clear hK K
              refine norm_ (a' := ?_) ?_ ?_
              rotate_left
              · show Act.put _ (some 78) _ = _
                simp only [Act.put, List.setIfInBounds_toArray, List.set_cons_zero, List.set_cons_succ, i64_w, i32_w]
                rfl
              refine pure_ (i := 15) (N := some 83) (v := ?_) (a' := ?_) #[true, true, true, true, true, true, true, true, true, true, true, true, true, true, true, true, false, false, false, false] rfl rfl (by kernel_rfl) (fun _ _ _ h => h) (Or.inl ⟨by rfl, ?_⟩) ?_ ?_
              rotate_left
              · intro w'
                go_simp
                with_reducible rfl
              rotate_left
              · simp only [Act.put, List.setIfInBounds_toArray, List.set_cons_zero, List.set_cons_succ, i64_w, i32_w]
                rfl
              refine one_ (i := 16) (N := some 84) #[true, true, true, true, true, true, true, true, true, true, true, true, true, true, true, true, true, false, false, false] rfl rfl (by kernel_rfl) (by decide) (fun K hK => ?_)
              refine goes_ Try.func81 (by kernel_rfl) rfl #[.slice (some ⟨g, 0, none⟩) q q] (by rfl) rfl rfl (by (try simp only [List.map_toArray, List.map_cons, List.map_nil]); first | done | rfl) ?_
              with_reducible refine (clip_calls ⟨g, 0, none⟩ q q _ (Nat.le_refl _) (by have := g2'.out; omega)).mono ?_
              rintro e w13 ⟨rfl, hw13⟩
              subst hw13
              refine ⟨_, rfl, ?_⟩
              refine hK.out _ _ hHeld (fun hHeld => ?_)
              clear hK K
              refine norm_ (a' := ?_) ?_ ?_
              rotate_left
              · show Act.put _ (some 84) _ = _
                simp only [Act.put, List.setIfInBounds_toArray, List.set_cons_zero, List.set_cons_succ, i64_w, i32_w]
                rfl
              refine pure_ (i := 17) (N := some 6) (v := ?_) (a' := ?_) #[true, true, true, true, true, true, true, true, true, true, true, true, true, true, true, true, true, true, false, false] rfl rfl (by kernel_rfl) (fun _ _ _ h => h) (Or.inl ⟨by rfl, ?_⟩) ?_ ?_
              rotate_left
              · intro w'
                go_simp
                with_reducible rfl
              rotate_left
              · simp only [Act.put, List.setIfInBounds_toArray, List.set_cons_zero, List.set_cons_succ, i64_w, i32_w]
                rfl
              refine pure_ (i := 18) (N := some 7) (v := ?_) (a' := ?_) #[true, true, true, true, true, true, true, true, true, true, true, true, true, true, true, true, true, true, true, false] rfl rfl (by kernel_rfl) (fun _ _ _ h => h) (Or.inl ⟨by rfl, ?_⟩) ?_ ?_
              rotate_left
              · intro w'
                go_simp
                with_reducible rfl
              rotate_left
              · simp only [Act.put, List.setIfInBounds_toArray, List.set_cons_zero, List.set_cons_succ, i64_w, i32_w]
                rfl
              refine pure_ (i := 19) (N := some 8) (v := ?_) (a' := ?_) #[true, true, true, true, true, true, true, true, true, true, true, true, true, true, true, true, true, true, true, true] rfl rfl (by kernel_rfl) (fun _ _ _ h => h) (Or.inl ⟨by rfl, ?_⟩) ?_ ?_
              rotate_left
              · intro w'
                go_simp
                with_reducible rfl
              rotate_left
              · simp only [Act.put, List.setIfInBounds_toArray, List.set_cons_zero, List.set_cons_succ, i64_w, i32_w]
                rfl
              refine done_ (by kernel_rfl) ?_
              have L4 := L3.trans (hb12.mono L3.size)
              obtain ⟨rfl, rfl, rfl⟩ := hres'.out
              clear hHeld
              go_wp2
              have hlen2 : ((freeL r.taken).take q).length = q := by rw [List.length_take]; have := hqn'.out; omega
              try rw [Exit.noGoto_ret]
              refine bodyPost_ret (v := .tuple #[.int .i64 r1, .slice (some ⟨g, 0, none⟩) q q, .int .i64 0]) ?_ rfl ?_
              · simp [results, Try.f33, go_sem]
              · refine ⟨some ⟨g, 0, none⟩, cap, by rw [hlen2], ?_, L4⟩
                have ht := own_take hrow hqn'.out
                refine Kd.R_lower (Kd.R_of_own ?_ (fun _ _ => trivial)) L3.size
                rw [hlen2]
                have e : encs (Value.int .i64) ((freeL r.taken).take q) = ((freeL r.taken).map (Value.int .i64)).take (q * 1) := by simp [encs, List.map_take]
                rw [e]
                exact ht
    · obtain ⟨rfl, rfl, rfl⟩ : (0 : Int) = r1 ∧ ([] : List Int) = r2 ∧ (roomsF l0 l1).1 = r3 := by
        unfold findV at hT
        rw [if_pos hz] at hT
        simpa using hT
      have hC1 := hC.mono (R' := fun e w' => Below (w.alloc (.cells #[.int .i64 a0, .int .i64 a1] 25)).heap.size (w.alloc (.cells #[.int .i64 a0, .int .i64 a1] 25)) w' ∧ e = .returned (.tuple #[.slice none 0 0, .int .i64 (roomsF l0 l1).1])) (by
        rintro e w' ⟨hb, ⟨_, he⟩ | ⟨h0, _⟩⟩
        · exact ⟨hb, he⟩
        · exact absurd h0 hz)
      have hC' := Lib.hid hC1
      have d1 : decide ((roomsF l0 l1).1 = 0) = false := decide_eq_false hz
      clear hC hC1 hT
      generalize (roomsF l0 l1).1 = code at *
      go_enter Try.func33, Try.ntmps33
      go_wp2
      apply wp_scope_straight
      go_wp2_with (((with_reducible refine gate_callee (f := 78) rfl ?_); refine goesL_ (some 19) rfl rfl Try.func78 (by kernel_rfl) rfl #[.slice A0 l0.length c0, .slice A1 l1.length c1] rfl (by (try simp only [List.map_toArray, List.map_cons, List.map_nil]); first | done | rfl) ?_; (with_reducible refine hC'.out.mono ?_); rintro e w9 ⟨hb, rfl⟩; refine ⟨_, rfl, ?_⟩; have L1 := l0'.out.trans (hb.mono (by simp)); have L1' := Lib.hid L1; clear L1 hb))
      rw [Exit.noGoto_ret]
      refine bodyPost_ret (v := .tuple #[.int .i64 0, .slice none 0 0, .int .i64 code]) ?_ rfl ?_
      · simp [results, Try.f33, go_sem]
      · exact ⟨none, 0, rfl, Kd.R_nil _ _ _ _ _, L1'.out⟩
  · cases h
end Go.Proofs.Ytkbcjagkacijnaa.PPl
end
section
namespace Go.Proofs.Ytkbcjagkacijnaa.PPl
open Go.RowKit Go.Proofs.YtkbcjagkacijnaaW.PrintWords Go.Proofs.YtkbcjagkacijnaaW.PrintLast
set_option linter.unusedVariables false
set_option linter.unusedSimpArgs false
/-- With enough rounds the answer is r. -/
def Ev {α : Type} (g : Nat → Option α) (r : α) : Prop := ∃ K, ∀ k, K ≤ k → g k = some r
theorem Ev.of {α : Type} {g : Nat → Option α} {r : α} (h : ∀ k, g k = some r) : Ev g r := ⟨0, fun k _ => h k⟩
theorem Ev.step {α : Type} {g h : Nat → Option α} {r : α} (e : ∀ k, g (k + 1) = h k) (hh : Ev h r) : Ev g r := by
  obtain ⟨K, hK⟩ := hh
  refine ⟨K + 1, fun k hk => ?_⟩
  obtain ⟨m, rfl⟩ : ∃ m, k = m + 1 := ⟨k - 1, by omega⟩
  rw [e]
  exact hK m (by omega)
theorem Ev.bind {α β : Type} {g : Nat → Option α} {a : α} {h : Nat → α → Option β} {r : β} (hg : Ev g a) (hh : Ev (fun k => h k a) r) : Ev (fun k => (g k).bind (h k)) r := by
  obtain ⟨K, hK⟩ := hg
  obtain ⟨L, hL⟩ := hh
  refine ⟨K + L, fun k hk => ?_⟩
  show (g k).bind (h k) = some r
  rw [hK k (by omega), Option.bind_some]
  exact hL k (by omega)
theorem Ev.eq {α : Type} {g : Nat → Option α} {r s : α} (h : Ev g r) (e : r = s) : Ev g s := e ▸ h
theorem rdI_get {l : List Int} {i : Nat} (h : i < l.length) : rd l (i : Int) = l[i] := by simp [rd, h]
theorem rd46_get {l : List S46} {i : Nat} (h : i < l.length) : rd_T46 l (i : Int) = l[i] := by simp [rd_T46, h]
theorem rd50_get {l : List S50} {i : Nat} (h : i < l.length) : rd_T50 l (i : Int) = l[i] := by simp [rd_T50, h]
theorem w_succ {i : Nat} (h : i < 4611686018427387904) : wrap64 ((i : Int) + 1) = ((i + 1 : Nat) : Int) := by rw [w64_id (by omega)]; rfl
def memsOK (nodes : List S46) (pre : List S50) : Prop := ∀ n ∈ nodes, 0 ≤ memOf n.f0 pre ∧ memOf n.f0 pre ≤ n.f2
def sizes (l : List S50) : Nat := (l.map (·.f3.length)).sum
theorem sizes_mem : ∀ {l : List S50} {x : S50}, x ∈ l → x.f3.length ≤ sizes l
  | [], x, h => by cases h
  | y :: l, x, h => by
    simp only [sizes, List.map_cons, List.sum_cons]
    rcases List.mem_cons.1 h with rfl | h
    · omega
    · have := sizes_mem h
      unfold sizes at this
      omega
section
variable (nodes : List S46) (leases : List S50)
end
section
variable (nodes : List S46) (leases : List S50)
end
section
variable (nodes : List S46) (leases : List S50)
end
section
variable (nodes : List S46) (leases : List S50)
theorem mems_snoc {pre : List S50} {x : S50} {n : S46} (hid : idsRise (-1) nodes = true) (hn : n ∈ nodes) (hx : x.f2 = n.f0) (hm : memsOK nodes pre) (ho : okLease n pre x = true) : memsOK nodes (pre ++ [x]) := by
  intro m hmem
  have h0 := hm m hmem
  by_cases e : x.f2 = m.f0
  · rw [memOf_snoc_same e]
    obtain ⟨i, hi⟩ := List.getElem?_of_mem hn
    obtain ⟨j, hj⟩ := List.getElem?_of_mem hmem
    have := ids_inj hid i j n m hi hj (by omega)
    subst this
    rw [hi] at hj
    obtain rfl := Option.some.inj hj
    unfold okLease at ho
    simp only [Bool.and_eq_true, decide_eq_true_eq] at ho
    omega
  · rw [memOf_snoc_other e]
    exact h0
end
section
variable (nodes : List S46) (leases : List S50)
/-- May lists be? -/
def formB : Bool := ndsOK (-1) nodes && validFrom nodes [] leases
end
section
variable (nodes : List S46) (leases : List S50)
/-- The errors of the lists. -/
def chk : Int := if 64 < nodes.length then 3 else if formB nodes leases = true then 0 else 4
end
section
variable (leases : List S50)
/-- A node's free cores. -/
def freeCores (n : S46) : List Int := ((List.range n.f1.toNat).map (fun (c : Nat) => (c : Int))).filter fun c => !(takenOf n.f0 leases).contains c
end
/-- What is valid keeps memory within bounds. -/
theorem valid_mems (nodes : List S46) (hid : idsRise (-1) nodes = true) : ∀ (l pre : List S50), memsOK nodes pre → validFrom nodes pre l = true → ∀ j, j ≤ l.length → memsOK nodes (pre ++ l.take j)
  | [], pre, hm, _, j, hj => by have : j = 0 := by simpa using hj
                                subst this; simpa using hm
  | x :: l, pre, hm, hv, j, hj => by
    rw [validFrom, Bool.and_eq_true] at hv
    cases j with
    | zero => simpa using hm
    | succ j =>
      cases hf : nodes.find? (fun n => n.f0 == x.f2) with
      | none => rw [hf] at hv; exact absurd hv.1 (by simp)
      | some n =>
        rw [hf] at hv
        have hnx : x.f2 = n.f0 := by have := List.find?_some hf; simp at this; omega
        have hm1 := mems_snoc nodes hid (List.mem_of_find?_eq_some hf) hnx hm hv.1
        have := valid_mems nodes hid l (pre ++ [x]) hm1 hv.2 j (by simpa using hj)
        simpa using this
theorem rm0_room (n : S46) : rm0 n = room [] n := by
  unfold rm0 room marks takenOf memOf
  simp only [List.filter_nil, List.flatMap_nil, List.map_nil, List.sum_nil, Int.sub_zero]
  congr 1
  apply List.ext_getElem
  · simp
  · intro i h1 h2; simp
theorem roomsF_eq (nodes : List S46) (leases : List S50) : roomsF nodes leases = (chk nodes leases, if chk nodes leases = 0 then nodes.map (room leases) else []) := by
  unfold roomsF chk formB
  by_cases h : 64 < nodes.length
  · rw [if_pos h, if_pos h]; rfl
  · rw [if_neg h, if_neg h]
    by_cases h1 : ndsOK (-1) nodes = true
    · obtain ⟨h2, h3⟩ := nds_all h1
      rw [if_pos h1, h1, Bool.true_and, show nodes.map rm0 = nodes.map (room []) from List.map_congr_left fun n _ => rm0_room n, roomsL_spec nodes h2 (fun n hn => by have := h3 n hn; omega) leases []]
      by_cases h4 : validFrom nodes [] leases = true
      · rw [if_pos h4, if_pos h4]; rfl
      · rw [if_neg h4, if_neg h4]; rfl
    · rw [if_neg h1]
      have : ndsOK (-1) nodes = false := by simpa using h1
      rw [this]; rfl
theorem freeL_room (leases : List S50) (n : S46) : freeL (room leases n).taken = freeCores leases n := by
  unfold freeL freeCores room
  simp only [marks_length]
  rw [List.filter_map]
  congr 1
  apply List.filter_congr
  intro c hc
  rw [List.mem_range] at hc
  rw [marks_get hc]
  rfl
theorem freeCores_le (leases : List S50) (n : S46) (h : n.f1 ≤ 64) : (freeCores leases n).length ≤ 64 := by
  unfold freeCores
  refine Nat.le_trans (List.length_filter_le _ _) ?_
  simp
  omega
section
variable (a0 a1 : Int) (leases : List S50)
/-- Is a node better than the best one? -/
def better (b : Option S46) (n : S46) : Bool := decide (a0 ≤ ((freeCores leases n).length : Int)) && decide (a1 ≤ n.f2 - memOf n.f0 leases) && (match b with
  | none => true
  | some m => decide ((freeCores leases n).length < (freeCores leases m).length))
end
section
variable (a0 a1 : Int) (leases : List S50)
def pick : Option S46 → List S46 → Option S46
  | b, [] => b
  | b, n :: l => pick (if better a0 a1 leases b n = true then some n else b) l
end
section
variable (a0 a1 : Int) (leases : List S50)
theorem search_pick (nodes : List S46) (hn : ∀ n ∈ nodes, n.f1 ≤ 64) : ∀ (l : List S46) (i : Nat) (b : Option S46) (best least : Int), nodes.drop i = l →
    (b = none → best = -1 ∧ least = 65) → (∀ m, b = some m → ∃ j : Nat, best = (j : Int) ∧ nodes[j]? = some m ∧ least = ((freeCores leases m).length : Int)) →
    (pick a0 a1 leases b l = none ∧ (searchR a0 a1 best least i (l.map (room leases))).1 = -1) ∨ ∃ m, ∃ j : Nat, pick a0 a1 leases b l = some m ∧ (searchR a0 a1 best least i (l.map (room leases))).1 = (j : Int) ∧ nodes[j]? = some m
  | [], i, b, best, least, hd, h1, h2 => by
    cases b with
    | none => exact .inl ⟨rfl, (h1 rfl).1⟩
    | some m =>
      obtain ⟨j, e1, e2, _⟩ := h2 m rfl
      exact .inr ⟨m, j, rfl, e1, e2⟩
  | n :: l, i, b, best, least, hd, h1, h2 => by
    have hni : nodes[i]? = some n := by rw [← List.head?_drop, hd]; rfl
    have hd' : nodes.drop (i + 1) = l := by rw [← List.tail_drop, hd]; rfl
    have hmem : n ∈ nodes := List.mem_of_getElem? hni
    have h64 := freeCores_le leases n (hn n hmem)
    simp only [pick, List.map_cons, searchR]
    rw [freeL_room, show (room leases n).mem = n.f2 - memOf n.f0 leases from rfl]
    have hb : better a0 a1 leases b n = true ↔ ¬ (((freeCores leases n).length : Int) < a0 ∨ n.f2 - memOf n.f0 leases < a1 ∨ least ≤ ((freeCores leases n).length : Int)) := by
      unfold better
      cases b with
      | none =>
        have := (h1 rfl).2
        simp only [Bool.and_true, Bool.and_eq_true, decide_eq_true_eq]
        omega
      | some m =>
        obtain ⟨j, _, _, e3⟩ := h2 m rfl
        simp only [Bool.and_eq_true, decide_eq_true_eq]
        omega
    by_cases hc : better a0 a1 leases b n = true
    · rw [if_pos hc, if_neg (hb.mp hc)]
      refine search_pick nodes hn l (i + 1) (some n) _ _ hd' (fun h => by cases h) (fun m hm => ?_)
      obtain rfl := Option.some.inj hm
      exact ⟨i, rfl, hni, rfl⟩
    · rw [if_neg hc, if_pos (Classical.byContradiction fun h => hc (hb.mpr h))]
      exact search_pick nodes hn l (i + 1) b best least hd' h1 h2
end
/-- The same, by the document. -/
def findD (nodes : List S46) (leases : List S50) (a0 a1 : Int) : Int × List Int × Int :=
  if chk nodes leases ≠ 0 then (0, [], chk nodes leases) else if a0 < 1 ∨ 64 < a0 ∨ goodV a0 a1 = false then (0, [], 1) else
  match pick a0 a1 leases none nodes with
  | none => (0, [], 10)
  | some m => (m.f0, (freeCores leases m).take a0.toNat, 0)
theorem chk_ok {nodes : List S46} {leases : List S50} (h : chk nodes leases = 0) : nodes.length ≤ 64 ∧ ndsOK (-1) nodes = true ∧ validFrom nodes [] leases = true := by
  unfold chk formB at h
  by_cases h1 : 64 < nodes.length
  · rw [if_pos h1] at h; cases h
  · rw [if_neg h1] at h
    by_cases h2 : (ndsOK (-1) nodes && validFrom nodes [] leases) = true
    · rw [Bool.and_eq_true] at h2
      exact ⟨by omega, h2.1, h2.2⟩
    · rw [if_neg h2] at h; cases h
theorem findV_findD (nodes : List S46) (leases : List S50) (a0 a1 : Int) : findV nodes leases a0 a1 = findD nodes leases a0 a1 := by
  unfold findV findD
  rw [roomsF_eq]
  simp only
  by_cases h : chk nodes leases = 0
  · rw [if_neg (show ¬ chk nodes leases ≠ 0 by omega), if_neg (show ¬ chk nodes leases ≠ 0 by omega)]
    by_cases h1 : a0 < 1 ∨ 64 < a0 ∨ goodV a0 a1 = false
    · rw [if_pos h1, if_pos h1]
    · rw [if_neg h1, if_neg h1, if_pos h]
      obtain ⟨_, hn, _⟩ := chk_ok h
      obtain ⟨_, hn2⟩ := nds_all hn
      rcases search_pick a0 a1 leases nodes (fun n hm => by have := hn2 n hm; omega) nodes 0 none (-1) 65 rfl (fun _ => ⟨rfl, rfl⟩) (fun m h => by cases h) with ⟨e1, e2⟩ | ⟨m, j, e1, e2, e3⟩
      · rw [e1, e2]; rfl
      · rw [e1, e2, if_neg (by omega)]
        have hj := (List.getElem?_eq_some_iff.1 e3)
        simp only [Int.toNat_natCast]
        rw [show nodes.getD j z46 = m by simp [e3], show (nodes.map (room leases)).getD j ⟨[], 0⟩ = room leases m by simp [e3], freeL_room]
  · rw [if_pos h, if_pos h]
/-- What the document's Free answers. -/
def freeD (nodes : List S46) (leases : List S50) (id : Int) : List Int × Int × Int :=
  if chk nodes leases ≠ 0 then ([], 0, chk nodes leases) else match nodes.find? (fun n => n.f0 == id) with
  | none => ([], 0, 8)
  | some n => (freeCores leases n, n.f2 - memOf n.f0 leases, 0)
theorem freeV_freeD (nodes : List S46) (leases : List S50) (id : Int) : freeV nodes leases id = freeD nodes leases id := by
  unfold freeV freeD
  rw [roomsF_eq]
  simp only
  by_cases h : chk nodes leases = 0
  · rw [if_neg (show ¬ chk nodes leases ≠ 0 by omega), if_neg (show ¬ chk nodes leases ≠ 0 by omega)]
    cases hf : nodes.findIdx? (fun n => n.f0 == id) with
    | none =>
      have : nodes.find? (fun n => n.f0 == id) = none := by
        rw [List.findIdx?_eq_none_iff] at hf
        rw [List.find?_eq_none]
        intro n hn
        have := hf n hn
        simp_all
      rw [this]
    | some i =>
      obtain ⟨hi, hp, hmin⟩ := List.findIdx?_eq_some_iff_getElem.1 hf
      have hn : nodes.find? (fun n => n.f0 == id) = some nodes[i] := by
        rw [List.find?_eq_some_iff_getElem]
        exact ⟨hp, i, hi, rfl, fun j hj => by simpa using hmin j hj⟩
      rw [hn, if_pos h]
      simp only
      rw [show (nodes.map (room leases)).getD i ⟨[], 0⟩ = room leases nodes[i] by simp [hi], freeL_room]
      rfl
  · rw [if_pos h, if_pos h]
end Go.Proofs.Ytkbcjagkacijnaa.PPl
end
