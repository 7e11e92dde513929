/- What the law VecOrders needs of the seat's contracts and plain laws, several texts one behind the other; no conditions. -/
import Derived.Test.YtkbcjagkacijnaaRows
import Derived.KernelRfl
import Derived.JoinedOf
import Derived.Test.YtkbcjagkacijnaaProg
import Derived.Below
import Derived.Deep.Draws
import Derived.Deep.AppendLies
import Derived.Maps.AppendAt
import Derived.OwnWalk
import Derived.Laws.BytesArg
import Derived.Laws.MakeOwn
import Derived.Laws.OwnMore
import Derived.Deep.OwnRows
import Derived.Tactics
import Derived.Lib.ConvBytes
import Derived.Laws.Slices
import Derived.WalkKit
import Derived.RowKit3
import Derived.Deep.LoopGhost
import Derived.Deep.QuietTactic
import Derived.BigQuiet
import Derived.WideLaws
import Derived.Deep.DeepCutAuto
import Derived.Deep.CutBlock
import Derived.Deep.RegionHeld3
import Derived.Laws.Rows
import Derived.Lib.AppendStr
import Derived.ArgAppend
import Derived.Laws.IdiomCopy
import Derived.OrdersHeld
import Derived.Laws.BitsLemmas
import Derived.RowKit
import Derived.Test.YtkbcjagkacijnaaWWords
import Derived.Test.YtkbcjagkacijnaaWLast
import Derived.Test.YtkbcjagkacijnaaWTab
import Derived.Test.YtkbcjagkacijnaaWFour
import Derived.Test.YtkbcjagkacijnaaWQPut
import Derived.Test.YtkbcjagkacijnaaWApart
import Derived.Test.YtkbcjagkacijnaaWArr
import Derived.Test.YtkbcjagkacijnaaWZeros
import Derived.Test.YtkbcjagkacijnaaWFoot
import Derived.Test.YtkbcjagkacijnaaWKept
import Derived.Test.YtkbcjagkacijnaaWShare
import Derived.Test.YtkbcjagkacijnaaWN
import Derived.Test.YtkbcjagkacijnaaWFootNe
import Derived.Test.YtkbcjagkacijnaaWAt
import Derived.Test.YtkbcjagkacijnaaWEqStruct
import Derived.Test.YtkbcjagkacijnaaWRepsOne
import Derived.Test.YtkbcjagkacijnaaWInv
import Derived.Test.YtkbcjagkacijnaaWInvWords
import Derived.Test.YtkbcjagkacijnaaWGuard
import Derived.Test.YtkbcjagkacijnaaWNEv
import Derived.Test.YtkbcjagkacijnaaWMore
import Derived.RangeFuncNested
import Derived.RangeFuncBound
import Derived.RangeFuncCalls
import Derived.RangeFuncLeaves
import Derived.Shelf.Abstract
import Derived.Shelf.RegionOpen
import Derived.OwnWalkIn
import Derived.TacticsInMore
import Derived.LoopNIn
import Derived.LoopIn
import Derived.Shelf.Small.Bits
import Derived.Shelf.Strconv.Itoa0
import Derived.Shelf.Bits.Mul64
section
namespace Go.Proofs.Ytkbcjagkacijnaa.Facts
set_option maxRecDepth 100000
set_option linter.unusedSimpArgs false
def signs : List Char := [Char.ofNat 104, Char.ofNat 97, Char.ofNat 114, Char.ofNat 110, Char.ofNat 101, Char.ofNat 115, Char.ofNat 115, Char.ofNat 32, Char.ofNat 102, Char.ofNat 100, Char.ofNat 100, Char.ofNat 100, Char.ofNat 49, Char.ofNat 97, Char.ofNat 50, Char.ofNat 52, Char.ofNat 50, Char.ofNat 97, Char.ofNat 98, Char.ofNat 54, Char.ofNat 48, Char.ofNat 99, Char.ofNat 97, Char.ofNat 51, Char.ofNat 101, Char.ofNat 49, Char.ofNat 102, Char.ofNat 55, Char.ofNat 50, Char.ofNat 57, Char.ofNat 48, Char.ofNat 52, Char.ofNat 97, Char.ofNat 56, Char.ofNat 57, Char.ofNat 101, Char.ofNat 53, Char.ofNat 100, Char.ofNat 101, Char.ofNat 52, Char.ofNat 57, Char.ofNat 56, Char.ofNat 102, Char.ofNat 57, Char.ofNat 98, Char.ofNat 56, Char.ofNat 52, Char.ofNat 56, Char.ofNat 97, Char.ofNat 98, Char.ofNat 100, Char.ofNat 100, Char.ofNat 97, Char.ofNat 54, Char.ofNat 50, Char.ofNat 98, Char.ofNat 101, Char.ofNat 99, Char.ofNat 57, Char.ofNat 51, Char.ofNat 53, Char.ofNat 54, Char.ofNat 53, Char.ofNat 50, Char.ofNat 97, Char.ofNat 54, Char.ofNat 101, Char.ofNat 100, Char.ofNat 49, Char.ofNat 48, Char.ofNat 57, Char.ofNat 99, Char.ofNat 32, Char.ofNat 99, Char.ofNat 117, Char.ofNat 116, Char.ofNat 32, Char.ofNat 97, Char.ofNat 116, Char.ofNat 32, Char.ofNat 102, Char.ofNat 117, Char.ofNat 114, Char.ofNat 108, Char.ofNat 111, Char.ofNat 110, Char.ofNat 103, Char.ofNat 47, Char.ofNat 102, Char.ofNat 117, Char.ofNat 114, Char.ofNat 108, Char.ofNat 111, Char.ofNat 110, Char.ofNat 103, Char.ofNat 108, Char.ofNat 97, Char.ofNat 119, Char.ofNat 48, Char.ofNat 55, Char.ofNat 46, Char.ofNat 80, Char.ofNat 108, Char.ofNat 97, Char.ofNat 99, Char.ofNat 101, Char.ofNat 70, Char.ofNat 105, Char.ofNat 110, Char.ofNat 100, Char.ofNat 115, Char.ofNat 32, Char.ofNat 102, Char.ofNat 117, Char.ofNat 114, Char.ofNat 108, Char.ofNat 111, Char.ofNat 110, Char.ofNat 103, Char.ofNat 47, Char.ofNat 102, Char.ofNat 117, Char.ofNat 114, Char.ofNat 108, Char.ofNat 111, Char.ofNat 110, Char.ofNat 103, Char.ofNat 108, Char.ofNat 97, Char.ofNat 119, Char.ofNat 48, Char.ofNat 50, Char.ofNat 46, Char.ofNat 86, Char.ofNat 101, Char.ofNat 99, Char.ofNat 83, Char.ofNat 104, Char.ofNat 97, Char.ofNat 114, Char.ofNat 101, Char.ofNat 115, Char.ofNat 32, Char.ofNat 102, Char.ofNat 117, Char.ofNat 114, Char.ofNat 108, Char.ofNat 111, Char.ofNat 110, Char.ofNat 103, Char.ofNat 47, Char.ofNat 102, Char.ofNat 117, Char.ofNat 114, Char.ofNat 108, Char.ofNat 111, Char.ofNat 110, Char.ofNat 103, Char.ofNat 108, Char.ofNat 97, Char.ofNat 119, Char.ofNat 48, Char.ofNat 50, Char.ofNat 46, Char.ofNat 86, Char.ofNat 101, Char.ofNat 99, Char.ofNat 65, Char.ofNat 100, Char.ofNat 100, Char.ofNat 115, Char.ofNat 32, Char.ofNat 102, Char.ofNat 117, Char.ofNat 114, Char.ofNat 108, Char.ofNat 111, Char.ofNat 110, Char.ofNat 103, Char.ofNat 47, Char.ofNat 102, Char.ofNat 117, Char.ofNat 114, Char.ofNat 108, Char.ofNat 111, Char.ofNat 110, Char.ofNat 103, Char.ofNat 108, Char.ofNat 97, Char.ofNat 119, Char.ofNat 48, Char.ofNat 50, Char.ofNat 46, Char.ofNat 86, Char.ofNat 101, Char.ofNat 99, Char.ofNat 66, Char.ofNat 97, Char.ofNat 99, Char.ofNat 107, Char.ofNat 32, Char.ofNat 102, Char.ofNat 117, Char.ofNat 114, Char.ofNat 108, Char.ofNat 111, Char.ofNat 110, Char.ofNat 103, Char.ofNat 47, Char.ofNat 102, Char.ofNat 117, Char.ofNat 114, Char.ofNat 108, Char.ofNat 111, Char.ofNat 110, Char.ofNat 103, Char.ofNat 108, Char.ofNat 97, Char.ofNat 119, Char.ofNat 48, Char.ofNat 50, Char.ofNat 46, Char.ofNat 86, Char.ofNat 101, Char.ofNat 99, Char.ofNat 77, Char.ofNat 111, Char.ofNat 115, Char.ofNat 116, Char.ofNat 32, Char.ofNat 102, Char.ofNat 117, Char.ofNat 114, Char.ofNat 108, Char.ofNat 111, Char.ofNat 110, Char.ofNat 103, Char.ofNat 47, Char.ofNat 102, Char.ofNat 117, Char.ofNat 114, Char.ofNat 108, Char.ofNat 111, Char.ofNat 110, Char.ofNat 103, Char.ofNat 108, Char.ofNat 97, Char.ofNat 119, Char.ofNat 48, Char.ofNat 55, Char.ofNat 46, Char.ofNat 80, Char.ofNat 108, Char.ofNat 97, Char.ofNat 99, Char.ofNat 101, Char.ofNat 70, Char.ofNat 105, Char.ofNat 116, Char.ofNat 115, Char.ofNat 32, Char.ofNat 102, Char.ofNat 117, Char.ofNat 114, Char.ofNat 108, Char.ofNat 111, Char.ofNat 110, Char.ofNat 103, Char.ofNat 47, Char.ofNat 102, Char.ofNat 117, Char.ofNat 114, Char.ofNat 108, Char.ofNat 111, Char.ofNat 110, Char.ofNat 103, Char.ofNat 108, Char.ofNat 97, Char.ofNat 119, Char.ofNat 48, Char.ofNat 55, Char.ofNat 46, Char.ofNat 80, Char.ofNat 108, Char.ofNat 97, Char.ofNat 99, Char.ofNat 101, Char.ofNat 84, Char.ofNat 97, Char.ofNat 107, Char.ofNat 101, Char.ofNat 115, Char.ofNat 32, Char.ofNat 102, Char.ofNat 117, Char.ofNat 114, Char.ofNat 108, Char.ofNat 111, Char.ofNat 110, Char.ofNat 103, Char.ofNat 47, Char.ofNat 102, Char.ofNat 117, Char.ofNat 114, Char.ofNat 108, Char.ofNat 111, Char.ofNat 110, Char.ofNat 103, Char.ofNat 108, Char.ofNat 97, Char.ofNat 119, Char.ofNat 48, Char.ofNat 55, Char.ofNat 46, Char.ofNat 80, Char.ofNat 108, Char.ofNat 97, Char.ofNat 99, Char.ofNat 101, Char.ofNat 65, Char.ofNat 112, Char.ofNat 97, Char.ofNat 114, Char.ofNat 116, Char.ofNat 32, Char.ofNat 102, Char.ofNat 117, Char.ofNat 114, Char.ofNat 108, Char.ofNat 111, Char.ofNat 110, Char.ofNat 103, Char.ofNat 47, Char.ofNat 102, Char.ofNat 117, Char.ofNat 114, Char.ofNat 108, Char.ofNat 111, Char.ofNat 110, Char.ofNat 103, Char.ofNat 108, Char.ofNat 97, Char.ofNat 119, Char.ofNat 48, Char.ofNat 50, Char.ofNat 46, Char.ofNat 86, Char.ofNat 101, Char.ofNat 99, Char.ofNat 79, Char.ofNat 114, Char.ofNat 100, Char.ofNat 101, Char.ofNat 114, Char.ofNat 115, Char.ofNat 32, Char.ofNat 102, Char.ofNat 117, Char.ofNat 114, Char.ofNat 108, Char.ofNat 111, Char.ofNat 110, Char.ofNat 103, Char.ofNat 47, Char.ofNat 102, Char.ofNat 117, Char.ofNat 114, Char.ofNat 108, Char.ofNat 111, Char.ofNat 110, Char.ofNat 103, Char.ofNat 108, Char.ofNat 97, Char.ofNat 119, Char.ofNat 48, Char.ofNat 50, Char.ofNat 46, Char.ofNat 86, Char.ofNat 101, Char.ofNat 99, Char.ofNat 84, Char.ofNat 117, Char.ofNat 114, Char.ofNat 110, Char.ofNat 115, Char.ofNat 32, Char.ofNat 102, Char.ofNat 117, Char.ofNat 114, Char.ofNat 108, Char.ofNat 111, Char.ofNat 110, Char.ofNat 103, Char.ofNat 47, Char.ofNat 102, Char.ofNat 117, Char.ofNat 114, Char.ofNat 108, Char.ofNat 111, Char.ofNat 110, Char.ofNat 103, Char.ofNat 108, Char.ofNat 97, Char.ofNat 119, Char.ofNat 48, Char.ofNat 50, Char.ofNat 46, Char.ofNat 86, Char.ofNat 101, Char.ofNat 99, Char.ofNat 65, Char.ofNat 108, Char.ofNat 105, Char.ofNat 107, Char.ofNat 101, Char.ofNat 32, Char.ofNat 102, Char.ofNat 117, Char.ofNat 114, Char.ofNat 108, Char.ofNat 111, Char.ofNat 110, Char.ofNat 103, Char.ofNat 47, Char.ofNat 102, Char.ofNat 117, Char.ofNat 114, Char.ofNat 108, Char.ofNat 111, Char.ofNat 110, Char.ofNat 103, Char.ofNat 108, Char.ofNat 97, Char.ofNat 119, Char.ofNat 48, Char.ofNat 55, Char.ofNat 46, Char.ofNat 80, Char.ofNat 108, Char.ofNat 97, Char.ofNat 99, Char.ofNat 101, Char.ofNat 70, Char.ofNat 114, Char.ofNat 101, Char.ofNat 101, Char.ofNat 115, Char.ofNat 32, Char.ofNat 102, Char.ofNat 117, Char.ofNat 114, Char.ofNat 108, Char.ofNat 111, Char.ofNat 110, Char.ofNat 103, Char.ofNat 47, Char.ofNat 102, Char.ofNat 117, Char.ofNat 114, Char.ofNat 108, Char.ofNat 111, Char.ofNat 110, Char.ofNat 103, Char.ofNat 108, Char.ofNat 97, Char.ofNat 119, Char.ofNat 48, Char.ofNat 55, Char.ofNat 46, Char.ofNat 80, Char.ofNat 108, Char.ofNat 97, Char.ofNat 99, Char.ofNat 101, Char.ofNat 65, Char.ofNat 108, Char.ofNat 108, Char.ofNat 32, Char.ofNat 102, Char.ofNat 117, Char.ofNat 114, Char.ofNat 108, Char.ofNat 111, Char.ofNat 110, Char.ofNat 103, Char.ofNat 47, Char.ofNat 102, Char.ofNat 117, Char.ofNat 114, Char.ofNat 108, Char.ofNat 111, Char.ofNat 110, Char.ofNat 103, Char.ofNat 108, Char.ofNat 97, Char.ofNat 119, Char.ofNat 48, Char.ofNat 49, Char.ofNat 46, Char.ofNat 78, Char.ofNat 117, Char.ofNat 109, Char.ofNat 68, Char.ofNat 105, Char.ofNat 118, Char.ofNat 105, Char.ofNat 100, Char.ofNat 101, Char.ofNat 115, Char.ofNat 32, Char.ofNat 102, Char.ofNat 117, Char.ofNat 114, Char.ofNat 108, Char.ofNat 111, Char.ofNat 110, Char.ofNat 103, Char.ofNat 47, Char.ofNat 102, Char.ofNat 117, Char.ofNat 114, Char.ofNat 108, Char.ofNat 111, Char.ofNat 110, Char.ofNat 103, Char.ofNat 108, Char.ofNat 97, Char.ofNat 119, Char.ofNat 48, Char.ofNat 49, Char.ofNat 46, Char.ofNat 78, Char.ofNat 117, Char.ofNat 109, Char.ofNat 71, Char.ofNat 99, Char.ofNat 100, Char.ofNat 115, Char.ofNat 32, Char.ofNat 102, Char.ofNat 117, Char.ofNat 114, Char.ofNat 108, Char.ofNat 111, Char.ofNat 110, Char.ofNat 103, Char.ofNat 47, Char.ofNat 102, Char.ofNat 117, Char.ofNat 114, Char.ofNat 108, Char.ofNat 111, Char.ofNat 110, Char.ofNat 103, Char.ofNat 108, Char.ofNat 97, Char.ofNat 119, Char.ofNat 48, Char.ofNat 49, Char.ofNat 46, Char.ofNat 78, Char.ofNat 117, Char.ofNat 109, Char.ofNat 70, Char.ofNat 108, Char.ofNat 111, Char.ofNat 111, Char.ofNat 114, Char.ofNat 32, Char.ofNat 102, Char.ofNat 117, Char.ofNat 114, Char.ofNat 108, Char.ofNat 111, Char.ofNat 110, Char.ofNat 103, Char.ofNat 47, Char.ofNat 102, Char.ofNat 117, Char.ofNat 114, Char.ofNat 108, Char.ofNat 111, Char.ofNat 110, Char.ofNat 103, Char.ofNat 108, Char.ofNat 97, Char.ofNat 119, Char.ofNat 48, Char.ofNat 49, Char.ofNat 46, Char.ofNat 78, Char.ofNat 117, Char.ofNat 109, Char.ofNat 79, Char.ofNat 114, Char.ofNat 100, Char.ofNat 101, Char.ofNat 114, Char.ofNat 32, Char.ofNat 102, Char.ofNat 117, Char.ofNat 114, Char.ofNat 108, Char.ofNat 111, Char.ofNat 110, Char.ofNat 103, Char.ofNat 47, Char.ofNat 102, Char.ofNat 117, Char.ofNat 114, Char.ofNat 108, Char.ofNat 111, Char.ofNat 110, Char.ofNat 103, Char.ofNat 108, Char.ofNat 97, Char.ofNat 119, Char.ofNat 48, Char.ofNat 49, Char.ofNat 46, Char.ofNat 78, Char.ofNat 117, Char.ofNat 109, Char.ofNat 80, Char.ofNat 97, Char.ofNat 114, Char.ofNat 116, Char.ofNat 115, Char.ofNat 32, Char.ofNat 102, Char.ofNat 117, Char.ofNat 114, Char.ofNat 108, Char.ofNat 111, Char.ofNat 110, Char.ofNat 103, Char.ofNat 47, Char.ofNat 102, Char.ofNat 117, Char.ofNat 114, Char.ofNat 108, Char.ofNat 111, Char.ofNat 110, Char.ofNat 103, Char.ofNat 108, Char.ofNat 97, Char.ofNat 119, Char.ofNat 48, Char.ofNat 49, Char.ofNat 46, Char.ofNat 78, Char.ofNat 117, Char.ofNat 109, Char.ofNat 65, Char.ofNat 100, Char.ofNat 100, Char.ofNat 115, Char.ofNat 32, Char.ofNat 102, Char.ofNat 117, Char.ofNat 114, Char.ofNat 108, Char.ofNat 111, Char.ofNat 110, Char.ofNat 103, Char.ofNat 47, Char.ofNat 102, Char.ofNat 117, Char.ofNat 114, Char.ofNat 108, Char.ofNat 111, Char.ofNat 110, Char.ofNat 103, Char.ofNat 108, Char.ofNat 97, Char.ofNat 119, Char.ofNat 48, Char.ofNat 49, Char.ofNat 46, Char.ofNat 78, Char.ofNat 117, Char.ofNat 109, Char.ofNat 82, Char.ofNat 105, Char.ofNat 110, Char.ofNat 103, Char.ofNat 115, Char.ofNat 32, Char.ofNat 102, Char.ofNat 117, Char.ofNat 114, Char.ofNat 108, Char.ofNat 111, Char.ofNat 110, Char.ofNat 103, Char.ofNat 47, Char.ofNat 102, Char.ofNat 117, Char.ofNat 114, Char.ofNat 108, Char.ofNat 111, Char.ofNat 110, Char.ofNat 103, Char.ofNat 108, Char.ofNat 97, Char.ofNat 119, Char.ofNat 48, Char.ofNat 52, Char.ofNat 46, Char.ofNat 67, Char.ofNat 108, Char.ofNat 111, Char.ofNat 99, Char.ofNat 107, Char.ofNat 76, Char.ofNat 101, Char.ofNat 110, Char.ofNat 115, Char.ofNat 32, Char.ofNat 102, Char.ofNat 117, Char.ofNat 114, Char.ofNat 108, Char.ofNat 111, Char.ofNat 110, Char.ofNat 103, Char.ofNat 47, Char.ofNat 102, Char.ofNat 117, Char.ofNat 114, Char.ofNat 108, Char.ofNat 111, Char.ofNat 110, Char.ofNat 103, Char.ofNat 108, Char.ofNat 97, Char.ofNat 119, Char.ofNat 48, Char.ofNat 52, Char.ofNat 46, Char.ofNat 67, Char.ofNat 108, Char.ofNat 111, Char.ofNat 99, Char.ofNat 107, Char.ofNat 87, Char.ofNat 105, Char.ofNat 116, Char.ofNat 104, Char.ofNat 105, Char.ofNat 110, Char.ofNat 32, Char.ofNat 102, Char.ofNat 117, Char.ofNat 114, Char.ofNat 108, Char.ofNat 111, Char.ofNat 110, Char.ofNat 103, Char.ofNat 47, Char.ofNat 102, Char.ofNat 117, Char.ofNat 114, Char.ofNat 108, Char.ofNat 111, Char.ofNat 110, Char.ofNat 103, Char.ofNat 108, Char.ofNat 97, Char.ofNat 119, Char.ofNat 48, Char.ofNat 52, Char.ofNat 46, Char.ofNat 67, Char.ofNat 108, Char.ofNat 111, Char.ofNat 99, Char.ofNat 107, Char.ofNat 71, Char.ofNat 114, Char.ofNat 101, Char.ofNat 97, Char.ofNat 116, Char.ofNat 101, Char.ofNat 115, Char.ofNat 116, Char.ofNat 32, Char.ofNat 102, Char.ofNat 117, Char.ofNat 114, Char.ofNat 108, Char.ofNat 111, Char.ofNat 110, Char.ofNat 103, Char.ofNat 47, Char.ofNat 102, Char.ofNat 117, Char.ofNat 114, Char.ofNat 108, Char.ofNat 111, Char.ofNat 110, Char.ofNat 103, Char.ofNat 108, Char.ofNat 97, Char.ofNat 119, Char.ofNat 48, Char.ofNat 52, Char.ofNat 46, Char.ofNat 67, Char.ofNat 108, Char.ofNat 111, Char.ofNat 99, Char.ofNat 107, Char.ofNat 79, Char.ofNat 110, Char.ofNat 101, Char.ofNat 32, Char.ofNat 102, Char.ofNat 117, Char.ofNat 114, Char.ofNat 108, Char.ofNat 111, Char.ofNat 110, Char.ofNat 103, Char.ofNat 47, Char.ofNat 102, Char.ofNat 117, Char.ofNat 114, Char.ofNat 108, Char.ofNat 111, Char.ofNat 110, Char.ofNat 103, Char.ofNat 108, Char.ofNat 97, Char.ofNat 119, Char.ofNat 48, Char.ofNat 52, Char.ofNat 46, Char.ofNat 67, Char.ofNat 108, Char.ofNat 111, Char.ofNat 99, Char.ofNat 107, Char.ofNat 83, Char.ofNat 116, Char.ofNat 101, Char.ofNat 97, Char.ofNat 100, Char.ofNat 121, Char.ofNat 32, Char.ofNat 102, Char.ofNat 117, Char.ofNat 114, Char.ofNat 108, Char.ofNat 111, Char.ofNat 110, Char.ofNat 103, Char.ofNat 47, Char.ofNat 102, Char.ofNat 117, Char.ofNat 114, Char.ofNat 108, Char.ofNat 111, Char.ofNat 110, Char.ofNat 103, Char.ofNat 108, Char.ofNat 97, Char.ofNat 119, Char.ofNat 48, Char.ofNat 52, Char.ofNat 46, Char.ofNat 67, Char.ofNat 108, Char.ofNat 111, Char.ofNat 99, Char.ofNat 107, Char.ofNat 72, Char.ofNat 111, Char.ofNat 108, Char.ofNat 100, Char.ofNat 115, Char.ofNat 32, Char.ofNat 102, Char.ofNat 117, Char.ofNat 114, Char.ofNat 108, Char.ofNat 111, Char.ofNat 110, Char.ofNat 103, Char.ofNat 47, Char.ofNat 102, Char.ofNat 117, Char.ofNat 114, Char.ofNat 108, Char.ofNat 111, Char.ofNat 110, Char.ofNat 103, Char.ofNat 108, Char.ofNat 97, Char.ofNat 119, Char.ofNat 48, Char.ofNat 49, Char.ofNat 46, Char.ofNat 78, Char.ofNat 117, Char.ofNat 109, Char.ofNat 83, Char.ofNat 117, Char.ofNat 109, Char.ofNat 115, Char.ofNat 32, Char.ofNat 102, Char.ofNat 117, Char.ofNat 114, Char.ofNat 108, Char.ofNat 111, Char.ofNat 110, Char.ofNat 103, Char.ofNat 47, Char.ofNat 102, Char.ofNat 117, Char.ofNat 114, Char.ofNat 108, Char.ofNat 111, Char.ofNat 110, Char.ofNat 103, Char.ofNat 108, Char.ofNat 97, Char.ofNat 119, Char.ofNat 48, Char.ofNat 49, Char.ofNat 46, Char.ofNat 78, Char.ofNat 117, Char.ofNat 109, Char.ofNat 84, Char.ofNat 111, Char.ofNat 103, Char.ofNat 101, Char.ofNat 116, Char.ofNat 104, Char.ofNat 101, Char.ofNat 114]
def rest : List (List Char) := [[Char.ofNat 97, Char.ofNat 116], [Char.ofNat 102, Char.ofNat 117, Char.ofNat 114, Char.ofNat 108, Char.ofNat 111, Char.ofNat 110, Char.ofNat 103, Char.ofNat 47, Char.ofNat 102, Char.ofNat 117, Char.ofNat 114, Char.ofNat 108, Char.ofNat 111, Char.ofNat 110, Char.ofNat 103, Char.ofNat 108, Char.ofNat 97, Char.ofNat 119, Char.ofNat 48, Char.ofNat 55, Char.ofNat 46, Char.ofNat 80, Char.ofNat 108, Char.ofNat 97, Char.ofNat 99, Char.ofNat 101, Char.ofNat 70, Char.ofNat 105, Char.ofNat 110, Char.ofNat 100, Char.ofNat 115], [Char.ofNat 102, Char.ofNat 117, Char.ofNat 114, Char.ofNat 108, Char.ofNat 111, Char.ofNat 110, Char.ofNat 103, Char.ofNat 47, Char.ofNat 102, Char.ofNat 117, Char.ofNat 114, Char.ofNat 108, Char.ofNat 111, Char.ofNat 110, Char.ofNat 103, Char.ofNat 108, Char.ofNat 97, Char.ofNat 119, Char.ofNat 48, Char.ofNat 50, Char.ofNat 46, Char.ofNat 86, Char.ofNat 101, Char.ofNat 99, Char.ofNat 83, Char.ofNat 104, Char.ofNat 97, Char.ofNat 114, Char.ofNat 101, Char.ofNat 115], [Char.ofNat 102, Char.ofNat 117, Char.ofNat 114, Char.ofNat 108, Char.ofNat 111, Char.ofNat 110, Char.ofNat 103, Char.ofNat 47, Char.ofNat 102, Char.ofNat 117, Char.ofNat 114, Char.ofNat 108, Char.ofNat 111, Char.ofNat 110, Char.ofNat 103, Char.ofNat 108, Char.ofNat 97, Char.ofNat 119, Char.ofNat 48, Char.ofNat 50, Char.ofNat 46, Char.ofNat 86, Char.ofNat 101, Char.ofNat 99, Char.ofNat 65, Char.ofNat 100, Char.ofNat 100, Char.ofNat 115], [Char.ofNat 102, Char.ofNat 117, Char.ofNat 114, Char.ofNat 108, Char.ofNat 111, Char.ofNat 110, Char.ofNat 103, Char.ofNat 47, Char.ofNat 102, Char.ofNat 117, Char.ofNat 114, Char.ofNat 108, Char.ofNat 111, Char.ofNat 110, Char.ofNat 103, Char.ofNat 108, Char.ofNat 97, Char.ofNat 119, Char.ofNat 48, Char.ofNat 50, Char.ofNat 46, Char.ofNat 86, Char.ofNat 101, Char.ofNat 99, Char.ofNat 66, Char.ofNat 97, Char.ofNat 99, Char.ofNat 107], [Char.ofNat 102, Char.ofNat 117, Char.ofNat 114, Char.ofNat 108, Char.ofNat 111, Char.ofNat 110, Char.ofNat 103, Char.ofNat 47, Char.ofNat 102, Char.ofNat 117, Char.ofNat 114, Char.ofNat 108, Char.ofNat 111, Char.ofNat 110, Char.ofNat 103, Char.ofNat 108, Char.ofNat 97, Char.ofNat 119, Char.ofNat 48, Char.ofNat 50, Char.ofNat 46, Char.ofNat 86, Char.ofNat 101, Char.ofNat 99, Char.ofNat 77, Char.ofNat 111, Char.ofNat 115, Char.ofNat 116], [Char.ofNat 102, Char.ofNat 117, Char.ofNat 114, Char.ofNat 108, Char.ofNat 111, Char.ofNat 110, Char.ofNat 103, Char.ofNat 47, Char.ofNat 102, Char.ofNat 117, Char.ofNat 114, Char.ofNat 108, Char.ofNat 111, Char.ofNat 110, Char.ofNat 103, Char.ofNat 108, Char.ofNat 97, Char.ofNat 119, Char.ofNat 48, Char.ofNat 55, Char.ofNat 46, Char.ofNat 80, Char.ofNat 108, Char.ofNat 97, Char.ofNat 99, Char.ofNat 101, Char.ofNat 70, Char.ofNat 105, Char.ofNat 116, Char.ofNat 115], [Char.ofNat 102, Char.ofNat 117, Char.ofNat 114, Char.ofNat 108, Char.ofNat 111, Char.ofNat 110, Char.ofNat 103, Char.ofNat 47, Char.ofNat 102, Char.ofNat 117, Char.ofNat 114, Char.ofNat 108, Char.ofNat 111, Char.ofNat 110, Char.ofNat 103, Char.ofNat 108, Char.ofNat 97, Char.ofNat 119, Char.ofNat 48, Char.ofNat 55, Char.ofNat 46, Char.ofNat 80, Char.ofNat 108, Char.ofNat 97, Char.ofNat 99, Char.ofNat 101, Char.ofNat 84, Char.ofNat 97, Char.ofNat 107, Char.ofNat 101, Char.ofNat 115], [Char.ofNat 102, Char.ofNat 117, Char.ofNat 114, Char.ofNat 108, Char.ofNat 111, Char.ofNat 110, Char.ofNat 103, Char.ofNat 47, Char.ofNat 102, Char.ofNat 117, Char.ofNat 114, Char.ofNat 108, Char.ofNat 111, Char.ofNat 110, Char.ofNat 103, Char.ofNat 108, Char.ofNat 97, Char.ofNat 119, Char.ofNat 48, Char.ofNat 55, Char.ofNat 46, Char.ofNat 80, Char.ofNat 108, Char.ofNat 97, Char.ofNat 99, Char.ofNat 101, Char.ofNat 65, Char.ofNat 112, Char.ofNat 97, Char.ofNat 114, Char.ofNat 116], [Char.ofNat 102, Char.ofNat 117, Char.ofNat 114, Char.ofNat 108, Char.ofNat 111, Char.ofNat 110, Char.ofNat 103, Char.ofNat 47, Char.ofNat 102, Char.ofNat 117, Char.ofNat 114, Char.ofNat 108, Char.ofNat 111, Char.ofNat 110, Char.ofNat 103, Char.ofNat 108, Char.ofNat 97, Char.ofNat 119, Char.ofNat 48, Char.ofNat 50, Char.ofNat 46, Char.ofNat 86, Char.ofNat 101, Char.ofNat 99, Char.ofNat 79, Char.ofNat 114, Char.ofNat 100, Char.ofNat 101, Char.ofNat 114, Char.ofNat 115], [Char.ofNat 102, Char.ofNat 117, Char.ofNat 114, Char.ofNat 108, Char.ofNat 111, Char.ofNat 110, Char.ofNat 103, Char.ofNat 47, Char.ofNat 102, Char.ofNat 117, Char.ofNat 114, Char.ofNat 108, Char.ofNat 111, Char.ofNat 110, Char.ofNat 103, Char.ofNat 108, Char.ofNat 97, Char.ofNat 119, Char.ofNat 48, Char.ofNat 50, Char.ofNat 46, Char.ofNat 86, Char.ofNat 101, Char.ofNat 99, Char.ofNat 84, Char.ofNat 117, Char.ofNat 114, Char.ofNat 110, Char.ofNat 115], [Char.ofNat 102, Char.ofNat 117, Char.ofNat 114, Char.ofNat 108, Char.ofNat 111, Char.ofNat 110, Char.ofNat 103, Char.ofNat 47, Char.ofNat 102, Char.ofNat 117, Char.ofNat 114, Char.ofNat 108, Char.ofNat 111, Char.ofNat 110, Char.ofNat 103, Char.ofNat 108, Char.ofNat 97, Char.ofNat 119, Char.ofNat 48, Char.ofNat 50, Char.ofNat 46, Char.ofNat 86, Char.ofNat 101, Char.ofNat 99, Char.ofNat 65, Char.ofNat 108, Char.ofNat 105, Char.ofNat 107, Char.ofNat 101], [Char.ofNat 102, Char.ofNat 117, Char.ofNat 114, Char.ofNat 108, Char.ofNat 111, Char.ofNat 110, Char.ofNat 103, Char.ofNat 47, Char.ofNat 102, Char.ofNat 117, Char.ofNat 114, Char.ofNat 108, Char.ofNat 111, Char.ofNat 110, Char.ofNat 103, Char.ofNat 108, Char.ofNat 97, Char.ofNat 119, Char.ofNat 48, Char.ofNat 55, Char.ofNat 46, Char.ofNat 80, Char.ofNat 108, Char.ofNat 97, Char.ofNat 99, Char.ofNat 101, Char.ofNat 70, Char.ofNat 114, Char.ofNat 101, Char.ofNat 101, Char.ofNat 115], [Char.ofNat 102, Char.ofNat 117, Char.ofNat 114, Char.ofNat 108, Char.ofNat 111, Char.ofNat 110, Char.ofNat 103, Char.ofNat 47, Char.ofNat 102, Char.ofNat 117, Char.ofNat 114, Char.ofNat 108, Char.ofNat 111, Char.ofNat 110, Char.ofNat 103, Char.ofNat 108, Char.ofNat 97, Char.ofNat 119, Char.ofNat 48, Char.ofNat 55, Char.ofNat 46, Char.ofNat 80, Char.ofNat 108, Char.ofNat 97, Char.ofNat 99, Char.ofNat 101, Char.ofNat 65, Char.ofNat 108, Char.ofNat 108], [Char.ofNat 102, Char.ofNat 117, Char.ofNat 114, Char.ofNat 108, Char.ofNat 111, Char.ofNat 110, Char.ofNat 103, Char.ofNat 47, Char.ofNat 102, Char.ofNat 117, Char.ofNat 114, Char.ofNat 108, Char.ofNat 111, Char.ofNat 110, Char.ofNat 103, Char.ofNat 108, Char.ofNat 97, Char.ofNat 119, Char.ofNat 48, Char.ofNat 49, Char.ofNat 46, Char.ofNat 78, Char.ofNat 117, Char.ofNat 109, Char.ofNat 68, Char.ofNat 105, Char.ofNat 118, Char.ofNat 105, Char.ofNat 100, Char.ofNat 101, Char.ofNat 115], [Char.ofNat 102, Char.ofNat 117, Char.ofNat 114, Char.ofNat 108, Char.ofNat 111, Char.ofNat 110, Char.ofNat 103, Char.ofNat 47, Char.ofNat 102, Char.ofNat 117, Char.ofNat 114, Char.ofNat 108, Char.ofNat 111, Char.ofNat 110, Char.ofNat 103, Char.ofNat 108, Char.ofNat 97, Char.ofNat 119, Char.ofNat 48, Char.ofNat 49, Char.ofNat 46, Char.ofNat 78, Char.ofNat 117, Char.ofNat 109, Char.ofNat 71, Char.ofNat 99, Char.ofNat 100, Char.ofNat 115], [Char.ofNat 102, Char.ofNat 117, Char.ofNat 114, Char.ofNat 108, Char.ofNat 111, Char.ofNat 110, Char.ofNat 103, Char.ofNat 47, Char.ofNat 102, Char.ofNat 117, Char.ofNat 114, Char.ofNat 108, Char.ofNat 111, Char.ofNat 110, Char.ofNat 103, Char.ofNat 108, Char.ofNat 97, Char.ofNat 119, Char.ofNat 48, Char.ofNat 49, Char.ofNat 46, Char.ofNat 78, Char.ofNat 117, Char.ofNat 109, Char.ofNat 70, Char.ofNat 108, Char.ofNat 111, Char.ofNat 111, Char.ofNat 114], [Char.ofNat 102, Char.ofNat 117, Char.ofNat 114, Char.ofNat 108, Char.ofNat 111, Char.ofNat 110, Char.ofNat 103, Char.ofNat 47, Char.ofNat 102, Char.ofNat 117, Char.ofNat 114, Char.ofNat 108, Char.ofNat 111, Char.ofNat 110, Char.ofNat 103, Char.ofNat 108, Char.ofNat 97, Char.ofNat 119, Char.ofNat 48, Char.ofNat 49, Char.ofNat 46, Char.ofNat 78, Char.ofNat 117, Char.ofNat 109, Char.ofNat 79, Char.ofNat 114, Char.ofNat 100, Char.ofNat 101, Char.ofNat 114], [Char.ofNat 102, Char.ofNat 117, Char.ofNat 114, Char.ofNat 108, Char.ofNat 111, Char.ofNat 110, Char.ofNat 103, Char.ofNat 47, Char.ofNat 102, Char.ofNat 117, Char.ofNat 114, Char.ofNat 108, Char.ofNat 111, Char.ofNat 110, Char.ofNat 103, Char.ofNat 108, Char.ofNat 97, Char.ofNat 119, Char.ofNat 48, Char.ofNat 49, Char.ofNat 46, Char.ofNat 78, Char.ofNat 117, Char.ofNat 109, Char.ofNat 80, Char.ofNat 97, Char.ofNat 114, Char.ofNat 116, Char.ofNat 115], [Char.ofNat 102, Char.ofNat 117, Char.ofNat 114, Char.ofNat 108, Char.ofNat 111, Char.ofNat 110, Char.ofNat 103, Char.ofNat 47, Char.ofNat 102, Char.ofNat 117, Char.ofNat 114, Char.ofNat 108, Char.ofNat 111, Char.ofNat 110, Char.ofNat 103, Char.ofNat 108, Char.ofNat 97, Char.ofNat 119, Char.ofNat 48, Char.ofNat 49, Char.ofNat 46, Char.ofNat 78, Char.ofNat 117, Char.ofNat 109, Char.ofNat 65, Char.ofNat 100, Char.ofNat 100, Char.ofNat 115], [Char.ofNat 102, Char.ofNat 117, Char.ofNat 114, Char.ofNat 108, Char.ofNat 111, Char.ofNat 110, Char.ofNat 103, Char.ofNat 47, Char.ofNat 102, Char.ofNat 117, Char.ofNat 114, Char.ofNat 108, Char.ofNat 111, Char.ofNat 110, Char.ofNat 103, Char.ofNat 108, Char.ofNat 97, Char.ofNat 119, Char.ofNat 48, Char.ofNat 49, Char.ofNat 46, Char.ofNat 78, Char.ofNat 117, Char.ofNat 109, Char.ofNat 82, Char.ofNat 105, Char.ofNat 110, Char.ofNat 103, Char.ofNat 115], [Char.ofNat 102, Char.ofNat 117, Char.ofNat 114, Char.ofNat 108, Char.ofNat 111, Char.ofNat 110, Char.ofNat 103, Char.ofNat 47, Char.ofNat 102, Char.ofNat 117, Char.ofNat 114, Char.ofNat 108, Char.ofNat 111, Char.ofNat 110, Char.ofNat 103, Char.ofNat 108, Char.ofNat 97, Char.ofNat 119, Char.ofNat 48, Char.ofNat 52, Char.ofNat 46, Char.ofNat 67, Char.ofNat 108, Char.ofNat 111, Char.ofNat 99, Char.ofNat 107, Char.ofNat 76, Char.ofNat 101, Char.ofNat 110, Char.ofNat 115], [Char.ofNat 102, Char.ofNat 117, Char.ofNat 114, Char.ofNat 108, Char.ofNat 111, Char.ofNat 110, Char.ofNat 103, Char.ofNat 47, Char.ofNat 102, Char.ofNat 117, Char.ofNat 114, Char.ofNat 108, Char.ofNat 111, Char.ofNat 110, Char.ofNat 103, Char.ofNat 108, Char.ofNat 97, Char.ofNat 119, Char.ofNat 48, Char.ofNat 52, Char.ofNat 46, Char.ofNat 67, Char.ofNat 108, Char.ofNat 111, Char.ofNat 99, Char.ofNat 107, Char.ofNat 87, Char.ofNat 105, Char.ofNat 116, Char.ofNat 104, Char.ofNat 105, Char.ofNat 110], [Char.ofNat 102, Char.ofNat 117, Char.ofNat 114, Char.ofNat 108, Char.ofNat 111, Char.ofNat 110, Char.ofNat 103, Char.ofNat 47, Char.ofNat 102, Char.ofNat 117, Char.ofNat 114, Char.ofNat 108, Char.ofNat 111, Char.ofNat 110, Char.ofNat 103, Char.ofNat 108, Char.ofNat 97, Char.ofNat 119, Char.ofNat 48, Char.ofNat 52, Char.ofNat 46, Char.ofNat 67, Char.ofNat 108, Char.ofNat 111, Char.ofNat 99, Char.ofNat 107, Char.ofNat 71, Char.ofNat 114, Char.ofNat 101, Char.ofNat 97, Char.ofNat 116, Char.ofNat 101, Char.ofNat 115, Char.ofNat 116], [Char.ofNat 102, Char.ofNat 117, Char.ofNat 114, Char.ofNat 108, Char.ofNat 111, Char.ofNat 110, Char.ofNat 103, Char.ofNat 47, Char.ofNat 102, Char.ofNat 117, Char.ofNat 114, Char.ofNat 108, Char.ofNat 111, Char.ofNat 110, Char.ofNat 103, Char.ofNat 108, Char.ofNat 97, Char.ofNat 119, Char.ofNat 48, Char.ofNat 52, Char.ofNat 46, Char.ofNat 67, Char.ofNat 108, Char.ofNat 111, Char.ofNat 99, Char.ofNat 107, Char.ofNat 79, Char.ofNat 110, Char.ofNat 101], [Char.ofNat 102, Char.ofNat 117, Char.ofNat 114, Char.ofNat 108, Char.ofNat 111, Char.ofNat 110, Char.ofNat 103, Char.ofNat 47, Char.ofNat 102, Char.ofNat 117, Char.ofNat 114, Char.ofNat 108, Char.ofNat 111, Char.ofNat 110, Char.ofNat 103, Char.ofNat 108, Char.ofNat 97, Char.ofNat 119, Char.ofNat 48, Char.ofNat 52, Char.ofNat 46, Char.ofNat 67, Char.ofNat 108, Char.ofNat 111, Char.ofNat 99, Char.ofNat 107, Char.ofNat 83, Char.ofNat 116, Char.ofNat 101, Char.ofNat 97, Char.ofNat 100, Char.ofNat 121], [Char.ofNat 102, Char.ofNat 117, Char.ofNat 114, Char.ofNat 108, Char.ofNat 111, Char.ofNat 110, Char.ofNat 103, Char.ofNat 47, Char.ofNat 102, Char.ofNat 117, Char.ofNat 114, Char.ofNat 108, Char.ofNat 111, Char.ofNat 110, Char.ofNat 103, Char.ofNat 108, Char.ofNat 97, Char.ofNat 119, Char.ofNat 48, Char.ofNat 52, Char.ofNat 46, Char.ofNat 67, Char.ofNat 108, Char.ofNat 111, Char.ofNat 99, Char.ofNat 107, Char.ofNat 72, Char.ofNat 111, Char.ofNat 108, Char.ofNat 100, Char.ofNat 115], [Char.ofNat 102, Char.ofNat 117, Char.ofNat 114, Char.ofNat 108, Char.ofNat 111, Char.ofNat 110, Char.ofNat 103, Char.ofNat 47, Char.ofNat 102, Char.ofNat 117, Char.ofNat 114, Char.ofNat 108, Char.ofNat 111, Char.ofNat 110, Char.ofNat 103, Char.ofNat 108, Char.ofNat 97, Char.ofNat 119, Char.ofNat 48, Char.ofNat 49, Char.ofNat 46, Char.ofNat 78, Char.ofNat 117, Char.ofNat 109, Char.ofNat 83, Char.ofNat 117, Char.ofNat 109, Char.ofNat 115], [Char.ofNat 102, Char.ofNat 117, Char.ofNat 114, Char.ofNat 108, Char.ofNat 111, Char.ofNat 110, Char.ofNat 103, Char.ofNat 47, Char.ofNat 102, Char.ofNat 117, Char.ofNat 114, Char.ofNat 108, Char.ofNat 111, Char.ofNat 110, Char.ofNat 103, Char.ofNat 108, Char.ofNat 97, Char.ofNat 119, Char.ofNat 48, Char.ofNat 49, Char.ofNat 46, Char.ofNat 78, Char.ofNat 117, Char.ofNat 109, Char.ofNat 84, Char.ofNat 111, Char.ofNat 103, Char.ofNat 101, Char.ofNat 116, Char.ofNat 104, Char.ofNat 101, Char.ofNat 114]]
theorem io : Try.pinned.checked.prog.initOrder = String.ofList signs := by kernel_rfl
theorem tl : Try.pinned.checked.prog.initOrder.toList = signs := by rw [io, String.toList_ofList]
theorem bw : behindMainWord (wordsSigns Try.pinned.checked.prog.initOrder.toList) = [Char.ofNat 99, Char.ofNat 117, Char.ofNat 116] :: rest := by rw [tl]; kernel_rfl
theorem make_of (P : Program) (c : List Char) (r : List (List Char)) (h : behindMainWord (wordsSigns P.initOrder.toList) = c :: r) (h1 : (c == "gc".toList || c == "spec".toList) = false) (h2 : (c == "cut".toList) = true) : P.make = some .cut := by
  unfold Program.make
  rw [h]
  simp only [h1, h2, Bool.true_or, if_true, Bool.false_eq_true, if_false]
theorem none_of (b : Prop) [Decidable b] : (if b then ([] : List String) else []).contains "finals" = false := by split <;> rfl
theorem lift_of (P : Program) (c : List Char) (r : List (List Char)) (h : behindMainWord (wordsSigns P.initOrder.toList) = c :: r) (h1 : (c == "carried".toList) = false) (h2 : stripLifts liftWords (c :: r) = ([], c :: r)) : P.liftsFinal = false := by
  unfold Program.liftsFinal Program.headLifts
  rw [h, h2]
  have e : (some c == some "carried".toList) = false := h1
  simp only [List.head?_cons, e, Bool.false_and, Bool.false_or]
  exact none_of _
theorem enter_of (P : Program) (c : List Char) (r : List (List Char)) (h : behindMainWord (wordsSigns P.initOrder.toList) = c :: r) (h1 : (c == "cut".toList) = true) (h2 : stripLifts liftWords (c :: r) = ([], c :: r))
    (hl : P.laysLater = false) (hb : P.bearsReflect = false) (hd : P.doorFits [] = true) : P.mayEnter = true := by
  unfold Program.mayEnter
  rw [h]
  have e : (some c == some "cut".toList) = true := h1
  simp only [h2, List.head?_cons, e, hl, hb, hd, List.contains_nil, Bool.not_false, Bool.or_true, Bool.and_true, Bool.true_and, Bool.or_false, Bool.false_or]
theorem strip : stripLifts liftWords ([Char.ofNat 99, Char.ofNat 117, Char.ofNat 116] :: rest) = ([], [Char.ofNat 99, Char.ofNat 117, Char.ofNat 116] :: rest) := by kernel_rfl
theorem make : Try.pinned.checked.prog.make = some .cut := make_of _ _ _ bw (by decide) (by decide)
theorem lift : Try.pinned.checked.prog.liftsFinal = false := lift_of _ _ _ bw (by decide) strip
theorem lays : Try.pinned.checked.prog.laysLater = false := by kernel_rfl
theorem bears : Try.pinned.checked.prog.bearsReflect = false := by kernel_rfl
theorem door : Try.pinned.checked.prog.doorFits [] = true := by kernel_rfl
theorem enter : Try.pinned.checked.prog.mayEnter = true := enter_of _ _ _ bw (by decide) strip lays bears door
theorem heard : Try.pinned.checked.prog.stopsHeard = true := by kernel_rfl
theorem laid : laidOutB Try.pinned.checked.prog = true := by kernel_rfl
theorem rowed : mapsRowed Try.pinned.checked.prog = true := by kernel_rfl
end Go.Proofs.Ytkbcjagkacijnaa.Facts
end
section
-- Written for this claim by this project's own driver over the kit's print: functions and their contracts.
namespace Go.Proofs.Ytkbcjagkacijnaa.PVec
open Go.RowKit Go.Proofs.YtkbcjagkacijnaaW.PrintWords Go.Proofs.YtkbcjagkacijnaaW.PrintLast Go.Proofs.YtkbcjagkacijnaaW.PrintMore
attribute [local go_sem] max2_int min2_int max_two min_two max_three min_three max_four min_four   -- for this text's walks alone
set_option linter.unusedVariables false
set_option linter.unusedSimpArgs false



def errW : Option Int → Value
  | none => .nilIface
  | some c => .iface 0 (.int .i64 c)
theorem errW_none : errW none = .nilIface := rfl
theorem errW_some (c : Int) : errW (some c) = .iface 0 (.int .i64 c) := rfl

-- the values' own types
structure S25 where
  f0 : Int
  f1 : Int
def z25 : S25 := ⟨(0 : Int), (0 : Int)⟩
def k25 : Kd S25 := Kd.iso (Kd.pair (Kd.int .i64) (Kd.int .i64)) (fun x : S25 => (x.f0, x.f1))
theorem k25_open {w : World} {x : S25} {cs : List Value} (h : k25.K w x cs) : cs = [.int .i64 x.f0, .int .i64 x.f1] := by
  obtain ⟨_, _, rfl, rfl, rfl⟩ := h
  exact rfl
theorem k25_mkM (w : World) (base : Nat) (ok : Nat → Prop) (x : S25)  : k25.M w base ok x [.int .i64 x.f0, .int .i64 x.f1] := ⟨[.int .i64 x.f0], [.int .i64 x.f1], rfl, rfl, rfl⟩
def rd_T25 (xs : List S25) (i : Int) : S25 := xs.getD i.toNat z25
theorem at_T25 {w : World} {A : Option Addr} {n : Nat} {xs : List S25} (h : Kd.C k25 w A n xs) (i : Int) (h0 : 0 ≤ i) (h1 : i < n) : ∃ ad , A = some ad ∧ w.cell? (ad.add (i.toNat * 2)) = some (.int .i64 (rd_T25 xs i).f0) ∧ w.cell? ⟨(ad.add (i.toNat * 2)).block, (ad.add (i.toNat * 2)).off + 1, none⟩ = some (.int .i64 (rd_T25 xs i).f1) := by
  obtain ⟨ad, c, e, _, hK, hc0⟩ := Kd.C_get h z25 i h0 h1
  have hc : ∀ j u, c[j]? = some u → w.cell? (ad.add (i.toNat * 2 + j)) = some u := hc0
  obtain rfl := k25_open hK
  exact ⟨ad, e, hc 0 _ rfl, by rw [← add_field _ _ 1 (by omega)]; exact hc 1 _ rfl⟩

end Go.Proofs.Ytkbcjagkacijnaa.PVec
end
section
-- Written for this claim by this project's own driver over the kit's print: functions and their contracts.
namespace Go.Proofs.Ytkbcjagkacijnaa.PVec
open Go.RowKit Go.Proofs.YtkbcjagkacijnaaW.PrintWords Go.Proofs.YtkbcjagkacijnaaW.PrintLast Go.Proofs.YtkbcjagkacijnaaW.PrintMore
attribute [local go_sem] max2_int min2_int max_two min_two max_three min_three max_four min_four   -- for this text's walks alone
set_option linter.unusedVariables false
set_option linter.unusedSimpArgs false

theorem eqA25 (d : Nat) (w : World) (x0 y0 : Int) (x1 y1 : Int) :
    (Op.equalIn (d + 2) 25 (.agg #[.int .i64 x0, .int .i64 x1]) (.agg #[.int .i64 y0, .int .i64 y1])).run Try.prog w = .ok (x0 == y0 && (x1 == y1)) w := by
  refine eqA_of Try.underlying25 (by kernel_rfl) ?_
  refine eqf_cons (by rfl) (by go_simp; rfl) (by go_simp; rfl) (by go_simp) ?_
  exact eqf_last (by rfl) (by go_simp; rfl) (by go_simp; rfl) (by go_simp)
end Go.Proofs.Ytkbcjagkacijnaa.PVec
end
section
namespace Go.Proofs.Ytkbcjagkacijnaa.Iter
open Go.RowKit Go.Shelf
set_option linter.unusedVariables false
set_option linter.unusedSimpArgs false
attribute [local go_sem] Oper.semAt_some

/-- A block of cells. -/
def Blk (W : World) (B : Nat) (t : TypeId) (cs : Array Value) : Prop := W.heap[B]? = some (.cells cs t (0, 0))
section
variable {W W' : World} {B : Nat} {t : TypeId} {cs : Array Value}
theorem Blk.lt (h : Blk W B t cs) : B < W.heap.size := (Array.getElem?_eq_some_iff.1 h).1
theorem Blk.cell (h : Blk W B t cs) (i : Nat) : W.cell? ⟨B, i, none⟩ = cs[i]? := by simp [World.cell?, show W.heap[B]? = _ from h]
theorem Blk.frozen (h : Blk W B t cs) (i : Nat) : W.frozen? ⟨B, i, none⟩ = false := by simp [World.frozen?, show W.heap[B]? = _ from h]
theorem Blk.new (W : World) (t : TypeId) (cs : Array Value) : Blk (W.alloc (.cells cs t)) W.heap.size t cs := World.alloc_heap_new W _
theorem Blk.kept {row : Option Nat} (h : Blk W B t cs) (hg : W.grownBy W' row) (hne : some B ≠ row) : Blk W' B t cs := (hg.block B h.lt hne).trans h
theorem Blk.alloc (h : Blk W B t cs) (o : Obj) : Blk (W.alloc o) B t cs := h.kept (World.grownBy_alloc W o none) (by simp)
theorem Blk.drew (h : Blk W B t cs) : Blk W.drew B t cs := h
theorem Blk.below {n : Nat} (h : Blk W B t cs) (hb : Below n W W') (hlt : B < n) : Blk W' B t cs := (hb.block B hlt).trans h
theorem Blk.set (h : Blk W B t cs) (i : Nat) (v : Value) (hi : i < cs.size) : Blk (W.setCell ⟨B, i, none⟩ v) B t (cs.setIfInBounds i v) := by
  obtain ⟨hlt, hk⟩ := Array.getElem?_eq_some_iff.1 h
  show (W.heap.modify B _)[B]? = _
  rw [Array.getElem?_eq_getElem (by rw [Array.size_modify]; exact hlt), Array.getElem_modify_self, hk]
  rfl
theorem Blk.other (h : Blk W B t cs) {a : Addr} (hne : B ≠ a.block) (u : Value) : Blk (W.setCell a u) B t cs := (Below.heap_setCell W a u B hne).trans h
theorem blk_own {β : Type} (B : Nat) (t : TypeId) (f : β → Array Value) : Own (fun s W => Blk W B t (f s)) := fun s X Y row hs hg hrow =>
  hs.kept hg (fun e' => by obtain ⟨o, ho, hc⟩ := hrow B e'.symm; rw [show X.heap[B]? = _ from hs] at ho; cases ho; cases hc)
end

/-- What a round keeps: two blocks. -/
def Two (A B : Nat) (W W' : World) : Prop := W'.heap[A]? = W.heap[A]? ∧ W'.heap[B]? = W.heap[B]?
theorem Two.t {A B : Nat} {X Y Z : World} (h : Two A B X Y) (k : Two A B Y Z) : Two A B X Z := ⟨k.1.trans h.1, k.2.trans h.2⟩
theorem Two.b {A B : Nat} {w : World} (hA : A < w.heap.size) (hB : B < w.heap.size) (W : World) (l : Nat) (o o' : Obj) (hl : w.heap.size ≤ l) (h : W.heap[l]? = some o) (_ : o.isCells = false) (_ : o.isWalk = false) : Two A B W (W.putObj l o') :=
  ⟨World.putObj_heap_other (by omega), World.putObj_heap_other (by omega)⟩

theorem Two.refl (A B : Nat) (W : World) : Two A B W W := ⟨rfl, rfl⟩
theorem Two.alloc {A B : Nat} {X W : World} (h : Two A B X W) (hA : A < W.heap.size) (hB : B < W.heap.size) (o : Obj) : Two A B X (W.alloc o) := ⟨(Below.heap_alloc W _ _ hA).trans h.1, (Below.heap_alloc W _ _ hB).trans h.2⟩
theorem Two.set {A B : Nat} {X W : World} (h : Two A B X W) {a : Addr} (hA : A ≠ a.block) (hB : B ≠ a.block) (u : Value) : Two A B X (W.setCell a u) := ⟨(Below.heap_setCell W _ _ _ hA).trans h.1, (Below.heap_setCell W _ _ _ hB).trans h.2⟩
theorem Two.below {A B n : Nat} {X Y W : World} (h : Two A B X Y) (hb : Below n Y W) (hA : A < n) (hB : B < n) : Two A B X W := ⟨(hb.block A hA).trans h.1, (hb.block B hB).trans h.2⟩
theorem Two.drew {A B : Nat} {X W : World} (h : Two A B X W) : Two A B X W.drew := h

/-- What a step of ours may turn: the cells of blocks from n on alone. -/
structure Since (n : Nat) (W W' : World) : Prop where
  others : KeepsOthers W W'
  below : Below n W W'
theorem Since.refl (n : Nat) (W : World) : Since n W W := ⟨KeepsOthers.refl W, Below.refl n W⟩
theorem Since.drew {n : Nat} {X W : World} (h : Since n X W) : Since n X W.drew := ⟨h.others.trans (KeepsOthers.drew W), h.below.drew⟩
theorem Since.call {n : Nat} {X W Y : World} (h : Since n X W) (hn : n ≤ X.heap.size) (hb : Below W.heap.size W Y) : Since n X Y :=
  ⟨h.others.trans ⟨hb.size, fun k o hk _ => (hb.block k (Array.getElem?_eq_some_iff.1 hk).1).trans hk⟩, h.below.trans (hb.mono (Nat.le_trans hn h.below.size))⟩
theorem Since.set {n : Nat} {X W : World} (h : Since n X W) (a : Addr) (ha : n ≤ a.block) (u : Value) : Since n X (W.setCell a u) := ⟨h.others.trans (KeepsOthers.setCell W a u), h.below.setCell ha u⟩

/-- Of what has come, all has it; one hasn't. -/
def AllB (f : Int × Int → Bool) (l : List (Int × Int)) : Prop := ∀ x ∈ l, f x = true
def AnyB (f : Int × Int → Bool) (l : List (Int × Int)) : Prop := ∃ x ∈ l, f x = false
theorem AllB.nil (f : Int × Int → Bool) : AllB f [] := fun x h => by cases h
theorem AllB.snoc {f : Int × Int → Bool} {l : List (Int × Int)} {x : Int × Int} (h : AllB f l) (hx : f x = true) : AllB f (l ++ [x]) := fun y hy => by
  rcases List.mem_append.1 hy with h1 | h1
  · exact h y h1
  · rw [List.mem_singleton.1 h1]; exact hx
theorem AnyB.snoc {f : Int × Int → Bool} {l : List (Int × Int)} {x : Int × Int} (hx : f x = false) : AnyB f (l ++ [x]) := ⟨x, by simp, hx⟩
theorem AllB.two {f : Int × Int → Bool} {x y : Int × Int} (h : AllB f [x, y]) : (f x && f y) = true := by rw [h x (by simp), h y (by simp)]; rfl
theorem AnyB.two {f : Int × Int → Bool} {x y : Int × Int} {pre : List (Int × Int)} (h : AnyB f pre) (hp : pre = [x] ∨ pre = [x, y]) : (f x && f y) = false := by
  obtain ⟨z, hz, hf⟩ := h
  rcases hp with rfl | rfl
  · rw [List.mem_singleton.1 hz] at hf; rw [hf]; rfl
  · simp at hz; rcases hz with rfl | rfl
    · rw [hf]; rfl
    · rw [hf, Bool.and_false]

abbrev enc2 (p : Int × Int) : Value := .agg #[.int .i64 p.1, .int .i64 p.2]
abbrev cs2 (p : Int × Int) : Array Value := #[.int .i64 p.1, .int .i64 p.2]

set_option maxHeartbeats 1000000 in
/-- Both amounts are boxed; the function value captures the boxes. -/
theorem parts_in (F : Fence) (n : Nat) (hf : F.fn 90) (hro : F.round = none) (a b : Int × Int) (w : World) :
    CallsIn F n Try.prog 90 #[enc2 a, enc2 b] w fun e w' => e = .returned (.func (.func 120) #[] #[.pointer (some ⟨w.heap.size, 0, none⟩), .pointer (some ⟨w.heap.size + 1, 0, none⟩)]) ∧
      w' = (w.alloc (.cells (cs2 a) 25)).alloc (.cells (cs2 b) 25) := by
  refine callsIn_of_wp Try.func90 rfl hf ?_ hro
  simp only [Try.ntmps90, List.size_toArray, List.length_cons, List.length_nil, Nat.reduceAdd, Nat.reduceSub, Array.replicate_succ, Array.replicate_zero, List.push_toArray, List.append_toArray, List.nil_append, List.cons_append]
  gi_wp2
  go_ret
  exact ⟨rfl, rfl⟩

set_option maxHeartbeats 1000000 in
/-- The iterator: the cores' part, then the memory's; it stops where a round says 'no more'. -/
theorem parts_stops {α : Type} (val : α → Int × Int) (p1 p2 : α) (F : Fence) (n : Nat) (hf : F.fn 120) (hro : F.round = none) (hn : 1 ≤ n) (A B : Nat) (a b : Int × Int) (w : World) (hp1 : val p1 = (a.1, b.1)) (hp2 : val p2 = (a.2, b.2)) (hA : Blk w A 25 (cs2 a)) (hB : Blk w B 25 (cs2 b)) :
    SeqStopsK F n Try.prog 120 #[.pointer (some ⟨A, 0, none⟩), .pointer (some ⟨B, 0, none⟩)] (fun p : α => #[enc2 (val p)]) (Two A B) (fun xs => xs = [p1, p2]) (fun pre => pre = [p1] ∨ pre = [p1, p2]) 2 w := fun l J Jx W hW _ _ hY h0 => by
  have hA1 : Blk W A 25 (cs2 a) := hA.below hW hA.lt
  have hB1 : Blk W B 25 (cs2 b) := hB.below hW hB.lt
  have cA0 := hA1.cell 0
  have cA1 := hA1.cell 1
  have cB0 := hB1.cell 0
  have cB1 := hB1.cell 1
  refine callsIn_of_wp Try.func120 rfl hf ?_ hro
  simp only [Try.ntmps120, List.size_toArray, List.length_cons, List.length_nil, Nat.reduceAdd, Nat.reduceSub, Array.replicate_succ, Array.replicate_zero, List.push_toArray, List.append_toArray, List.nil_append, List.cons_append]
  simp only [List.getElem?_toArray, List.getElem?_cons_zero, List.getElem?_cons_succ] at cA0 cA1 cB0 cB1
  obtain ⟨f1, t1, a1, b1, hy1, hR1⟩ := hY [] p1 W h0 (by simp)
  simp only [hp1] at hy1
  dsimp only [enc2] at hy1
  gi_wp2
  refine hR1.mono ?_
  rintro e W1 (⟨rfl, hJ1, hk1⟩ | ⟨rfl, hx1⟩)
  · obtain ⟨f2, t2, a2, b2, hy2, hR2⟩ := hY [p1] p2 W1 hJ1 (by simp)
    simp only [hp2] at hy2
    dsimp only [enc2] at hy2
    have dA1 := (show Blk W1 A _ _ from hk1.1.trans hA1).cell 1
    have dB1 := (show Blk W1 B _ _ from hk1.2.trans hB1).cell 1
    simp only [List.getElem?_toArray, List.getElem?_cons_zero, List.getElem?_cons_succ] at dA1 dB1
    gi_wp2
    refine hR2.mono ?_
    rintro e W2 (⟨rfl, hJ2, _⟩ | ⟨rfl, hx2⟩)
    · gi_wp2
      go_end0
      exact ⟨⟨_, rfl⟩, .inl ⟨_, rfl, hJ2⟩⟩
    · gi_wp2
      go_end0
      exact ⟨⟨_, rfl⟩, .inr ⟨_, .inr rfl, hx2⟩⟩
  · gi_wp2
    refine ⟨fun _ h => (by cases h), ?_⟩
    gi_wp2
    go_end0
    exact ⟨⟨_, rfl⟩, .inr ⟨_, .inl rfl, hx1⟩⟩
end Go.Proofs.Ytkbcjagkacijnaa.Iter
end
section
namespace Go.Proofs.Ytkbcjagkacijnaa.PVec
open Go.RowKit Go.Shelf Go.Proofs.Ytkbcjagkacijnaa.Iter
set_option linter.unusedVariables false
set_option linter.unusedSimpArgs false
attribute [local go_sem] Oper.semAt_some

/-- Is this an amount of one resource? -/
def okRes (x : Int) : Bool := decide (0 ≤ x) && decide (x ≤ 1099511627776)
def vec_Good.f (a0 a1 : Int) : Option Bool := some (okRes a0 && okRes a1)
def vec_Fits.f (a0 a1 b0 b1 : Int) : Option Bool := some (decide (a0 ≤ b0) && decide (a1 ≤ b1))

set_option maxRecDepth 100000 in
set_option maxHeartbeats 4000000 in
theorem good_in (F : Fence) (n : Nat) (h79 : F.fn 79) (h90 : F.fn 90) (h120 : F.fn 120) (hro : F.round = none) (hn : 6 ≤ n) (a : Int × Int) (w : World) :
    CallsIn F n Try.prog 79 #[enc2 a] w fun e W' => e = .returned (.bool (okRes a.1 && okRes a.2)) ∧ Below w.heap.size w W' := by
  have h1 : 1 ≤ n := by omega
  refine callsIn_of_wp_marks Try.func79 rfl h79 ?_ hro
  simp only [Try.ntmps79, List.size_toArray, List.length_cons, List.length_nil, Nat.reduceAdd, Nat.reduceSub, Array.replicate_succ, Array.replicate_zero, List.push_toArray, List.append_toArray, List.nil_append, List.cons_append]
  have cV := (Blk.new w 25 (cs2 a)).alloc (.cells #[.bool false] 4)
  have cV0 := cV.cell 0
  have cV1 := cV.cell 1
  simp only [List.getElem?_toArray, List.getElem?_cons_zero, List.getElem?_cons_succ] at cV0 cV1
  gi_wp2_with (gi_at_call 90; refine (parts_in F (n - 1) h90 hro a a _).mono ?_; rintro e w' ⟨rfl, rfl⟩)
  have bR := ((Blk.new (w.alloc (.cells (cs2 a) 25)) 4 #[.bool false]).alloc (.cells (cs2 a) 25)).alloc (.cells (cs2 a) 25)
  have bA := (Blk.new ((w.alloc (.cells (cs2 a) 25)).alloc (.cells #[.bool false] 4)) 25 (cs2 a)).alloc (.cells (cs2 a) 25)
  have bB := Blk.new (((w.alloc (.cells (cs2 a) 25)).alloc (.cells #[.bool false] 4)).alloc (.cells (cs2 a) 25)) 25 (cs2 a)
  simp only [World.size_alloc] at bR bA bB
  have hB0 : Below w.heap.size w ((((w.alloc (.cells (cs2 a) 25)).alloc (.cells #[.bool false] 4)).alloc (.cells (cs2 a) 25)).alloc (.cells (cs2 a) 25)) :=
    ((((Below.refl _ w).alloc (Nat.le_refl _) _).alloc (by simp) _).alloc (by simp; omega) _).alloc (by simp; omega) _
  have hsz : ((((w.alloc (.cells (cs2 a) 25)).alloc (.cells #[.bool false] 4)).alloc (.cells (cs2 a) 25)).alloc (.cells (cs2 a) 25)).heap.size = w.heap.size + 4 := by simp
  obtain ⟨W0, hW0⟩ : ∃ W0, (((w.alloc (.cells (cs2 a) 25)).alloc (.cells #[.bool false] 4)).alloc (.cells (cs2 a) 25)).alloc (.cells (cs2 a) 25) = W0 := ⟨_, rfl⟩
  rw [hW0] at bR bA bB hB0 hsz ⊢
  clear hW0 cV cV0 cV1
  refine wpIn_rangeFunc_ownH hro h1 (gf := 120) (lb := #[.pointer (some ⟨w.heap.size + 1 + 1, 0, none⟩), .pointer (some ⟨w.heap.size + 1 + 1 + 1, 0, none⟩)]) rfl h120 (enters_of Try.func120 (by kernel_rfl) rfl)
    (parts_stops (fun x : Int × Int => x) (a.1, a.1) (a.2, a.2) F (n - 1) h120 hro (by omega) (w.heap.size + 1 + 1) (w.heap.size + 1 + 1 + 1) a a W0 rfl rfl bA bB) Two.t (Two.b (by omega) (by omega)) (Below.refl _ _) (fun _ => rfl)
    (fun pre W => ((AllB (fun x => okRes x.1) pre ∧ Blk W (w.heap.size + 1) 4 #[.bool false]) ∧ Blk W (w.heap.size + 1 + 1 + 1) 25 (cs2 a)) ∧ Below w.heap.size w W)
    (fun c pre W => ((c = .ret ∧ AnyB (fun x => okRes x.1) pre) ∧ Blk W (w.heap.size + 1) 4 #[.bool false]) ∧ Below w.heap.size w W)
    (OwnFrom.and (OwnFrom.and (OwnFrom.and (ownFrom_pure _ _) (Own.from (blk_own _ _ _) _)) (Own.from (blk_own _ _ _) _)) (ownFrom_below (Nat.le_refl _) (by omega)))
    (fun c => OwnFrom.and (OwnFrom.and (ownFrom_pure _ _) (Own.from (blk_own _ _ _) _)) (ownFrom_below (Nat.le_refl _) (by omega)))
    ⟨⟨⟨AllB.nil _, bR⟩, bB⟩, hB0⟩
    (fun x a' W => ∃ Bx, w.heap.size + 3 < Bx ∧ Blk W Bx 104 (cs2 x) ∧ a' = { tmps := #[enc2 a, .pointer (some ⟨w.heap.size, 0, none⟩), .pointer (some ⟨w.heap.size + 1, 0, none⟩), .pointer (some ⟨Bx, 0, none⟩), .agg #[.int .i64 a.1, .int .i64 a.2], .agg #[.int .i64 a.1, .int .i64 a.2],
      .func (.func 120) #[] #[.pointer (some ⟨w.heap.size + 1 + 1, 0, none⟩), .pointer (some ⟨w.heap.size + 1 + 1 + 1, 0, none⟩)], enc2 x, undef, undef, undef, undef, undef, undef, undef, undef], defers := [] })
    (fun x a' _ X Y row hs hg hr => by obtain ⟨Bx, e1, e2, e3⟩ := hs; exact ⟨Bx, e1, blk_own Bx 104 (fun (_ : Unit) => cs2 x) () X Y row e2 hg (fun r e => (hr r e).2), e3⟩)
    ?assign ?body ?done ?stop
  case assign =>
    rintro l pre x W K ⟨⟨⟨hp, bR1⟩, bB1⟩, hB1⟩ hK
    gi_wp2
    exact hK _ _ ((KeepsOthers.alloc _ _).from _) ((Two.refl _ _ W).alloc (by have := bB1.lt; omega) bB1.lt _) ⟨⟨⟨hp, bR1.alloc _⟩, bB1.alloc _⟩, hB1.alloc hB1.size _⟩ ⟨W.heap.size, bB1.lt, Blk.new W _ _, rfl⟩
  case body =>
    rintro l pre x a' W hl ⟨r, hr⟩ ⟨⟨⟨hp, bR1⟩, bB1⟩, hB1⟩ ⟨Bx, hBx, bX, rfl⟩ hlt
    have cX := bX.cell 0
    have cR := bR1.cell 0
    have fR := bR1.frozen 0
    simp only [List.getElem?_toArray, List.getElem?_cons_zero, List.getElem?_cons_succ] at cX cR
    gi_wp2
    all_goals first
      | exact ⟨(KeepsOthers.setCell _ _ _).from _, ⟨⟨rfl, AnyB.snoc (by simp [okRes]; omega)⟩, bR1.set 0 _ (by simp)⟩, hB1.setCell (p := ⟨w.heap.size + 1, 0, none⟩) (by simp <;> omega) _⟩
      | exact ⟨KeepsFrom.refl _ _, Two.refl _ _ _, ⟨⟨hp.snoc (by simp [okRes]; omega), bR1⟩, bB1⟩, hB1⟩
  case done =>
    rintro D zs W hD rfl ⟨⟨⟨hp, bR1⟩, bB1⟩, hB1⟩ hK
    have cR := bR1.cell 0
    have fR := bR1.frozen 0
    simp only [List.getElem?_toArray, List.getElem?_cons_zero] at cR
    gi_wp2
    have hK' := (KeepsOthers.setCell W ⟨w.heap.size + 1, 0, none⟩ (.bool true)).same D _ hK rfl
    refine ⟨by simp, .inl ⟨_, _, rfl, run_takeDeferred hK', ?_⟩⟩
    have hc5 := cell_kept (((bR1.set 0 (.bool true) (by simp)).cell 0).trans rfl) (grownBy_putObj' _ D (.deferred none)) (fun r e => by cases e; exact ⟨_, hK', rfl⟩)
    refine ⟨.bool true, ?_, by rw [show (okRes a.1 && okRes a.2) = true from hp.two], (hB1.setCell (p := ⟨w.heap.size + 1, 0, none⟩) (by simp <;> omega) _).trans (belowK_b (w := w) (Nat.le_refl _) _ D _ _ (by omega) hK' rfl rfl)⟩
    simp [results, Try.f79, go_sem, hc5]
  case stop =>
    rintro D c pre W hD hpre ⟨⟨⟨rfl, hx⟩, bR1⟩, hB1⟩ hK
    have cR := bR1.cell 0
    simp only [List.getElem?_toArray, List.getElem?_cons_zero] at cR
    gi_wp2
    refine ⟨by simp, .inl ⟨_, _, rfl, run_takeDeferred hK, ?_⟩⟩
    have hc5 := cell_kept cR (grownBy_putObj' _ D (.deferred none)) (fun r e => by cases e; exact ⟨_, hK, rfl⟩)
    refine ⟨.bool false, ?_, ?_, hB1.trans (belowK_b (w := w) (Nat.le_refl _) W D _ _ (by omega) hK rfl rfl)⟩
    · simp [results, Try.f79, go_sem, hc5]
    · rw [show (okRes a.1 && okRes a.2) = false from hx.two hpre]

set_option maxRecDepth 100000 in
set_option maxHeartbeats 4000000 in
theorem fits_in (F : Fence) (n : Nat) (h46 : F.fn 46) (h90 : F.fn 90) (h120 : F.fn 120) (hro : F.round = none) (hn : 6 ≤ n) (a b : Int × Int) (w : World) :
    CallsIn F n Try.prog 46 #[enc2 a, enc2 b] w fun e W' => e = .returned (.bool (decide (a.1 ≤ b.1) && decide (a.2 ≤ b.2))) ∧ Below w.heap.size w W' := by
  have h1 : 1 ≤ n := by omega
  refine callsIn_of_wp_marks Try.func46 rfl h46 ?_ hro
  simp only [Try.ntmps46, List.size_toArray, List.length_cons, List.length_nil, Nat.reduceAdd, Nat.reduceSub, Array.replicate_succ, Array.replicate_zero, List.push_toArray, List.append_toArray, List.nil_append, List.cons_append]
  have cV := ((Blk.new w 25 (cs2 a)).alloc (.cells (cs2 b) 25)).alloc (.cells #[.bool false] 4)
  have cU := (Blk.new (w.alloc (.cells (cs2 a) 25)) 25 (cs2 b)).alloc (.cells #[.bool false] 4)
  have cV0 := cV.cell 0
  have cV1 := cV.cell 1
  have cU0 := cU.cell 0
  have cU1 := cU.cell 1
  simp only [World.size_alloc] at cU0 cU1
  simp only [List.getElem?_toArray, List.getElem?_cons_zero, List.getElem?_cons_succ] at cV0 cV1 cU0 cU1
  gi_wp2_with (gi_at_call 90; refine (parts_in F (n - 1) h90 hro a b _).mono ?_; rintro e w' ⟨rfl, rfl⟩)
  have bR := ((Blk.new ((w.alloc (.cells (cs2 a) 25)).alloc (.cells (cs2 b) 25)) 4 #[.bool false]).alloc (.cells (cs2 a) 25)).alloc (.cells (cs2 b) 25)
  have bA := (Blk.new (((w.alloc (.cells (cs2 a) 25)).alloc (.cells (cs2 b) 25)).alloc (.cells #[.bool false] 4)) 25 (cs2 a)).alloc (.cells (cs2 b) 25)
  have bB := Blk.new ((((w.alloc (.cells (cs2 a) 25)).alloc (.cells (cs2 b) 25)).alloc (.cells #[.bool false] 4)).alloc (.cells (cs2 a) 25)) 25 (cs2 b)
  simp only [World.size_alloc] at bR bA bB
  have hB0 : Below w.heap.size w (((((w.alloc (.cells (cs2 a) 25)).alloc (.cells (cs2 b) 25)).alloc (.cells #[.bool false] 4)).alloc (.cells (cs2 a) 25)).alloc (.cells (cs2 b) 25)) :=
    (((((Below.refl _ w).alloc (Nat.le_refl _) _).alloc (by simp) _).alloc (by simp; omega) _).alloc (by simp; omega) _).alloc (by simp; omega) _
  have hsz : (((((w.alloc (.cells (cs2 a) 25)).alloc (.cells (cs2 b) 25)).alloc (.cells #[.bool false] 4)).alloc (.cells (cs2 a) 25)).alloc (.cells (cs2 b) 25)).heap.size = w.heap.size + 5 := by simp
  obtain ⟨W0, hW0⟩ : ∃ W0, (((((w.alloc (.cells (cs2 a) 25)).alloc (.cells (cs2 b) 25)).alloc (.cells #[.bool false] 4)).alloc (.cells (cs2 a) 25)).alloc (.cells (cs2 b) 25)) = W0 := ⟨_, rfl⟩
  rw [hW0] at bR bA bB hB0 hsz ⊢
  clear hW0 cV cV0 cV1 cU cU0 cU1
  refine wpIn_rangeFunc_ownH hro h1 (gf := 120) (lb := #[.pointer (some ⟨w.heap.size + 1 + 1 + 1, 0, none⟩), .pointer (some ⟨w.heap.size + 1 + 1 + 1 + 1, 0, none⟩)]) rfl h120 (enters_of Try.func120 (by kernel_rfl) rfl)
    (parts_stops (fun x : Int × Int => x) (a.1, b.1) (a.2, b.2) F (n - 1) h120 hro (by omega) (w.heap.size + 1 + 1 + 1) (w.heap.size + 1 + 1 + 1 + 1) a b W0 rfl rfl bA bB) Two.t (Two.b (by omega) (by omega)) (Below.refl _ _) (fun _ => rfl)
    (fun pre W => ((AllB (fun x => decide (x.1 ≤ x.2)) pre ∧ Blk W (w.heap.size + 1 + 1) 4 #[.bool false]) ∧ Blk W (w.heap.size + 1 + 1 + 1 + 1) 25 (cs2 b)) ∧ Below w.heap.size w W)
    (fun c pre W => ((c = .ret ∧ AnyB (fun x => decide (x.1 ≤ x.2)) pre) ∧ Blk W (w.heap.size + 1 + 1) 4 #[.bool false]) ∧ Below w.heap.size w W)
    (OwnFrom.and (OwnFrom.and (OwnFrom.and (ownFrom_pure _ _) (Own.from (blk_own _ _ _) _)) (Own.from (blk_own _ _ _) _)) (ownFrom_below (Nat.le_refl _) (by omega)))
    (fun c => OwnFrom.and (OwnFrom.and (ownFrom_pure _ _) (Own.from (blk_own _ _ _) _)) (ownFrom_below (Nat.le_refl _) (by omega)))
    ⟨⟨⟨AllB.nil _, bR⟩, bB⟩, hB0⟩
    (fun x a' W => ∃ Bx, w.heap.size + 4 < Bx ∧ Blk W Bx 104 (cs2 x) ∧ a' = { tmps := #[enc2 a, enc2 b, .pointer (some ⟨w.heap.size, 0, none⟩), .pointer (some ⟨w.heap.size + 1, 0, none⟩), .pointer (some ⟨w.heap.size + 1 + 1, 0, none⟩), .pointer (some ⟨Bx, 0, none⟩), .agg #[.int .i64 a.1, .int .i64 a.2], .agg #[.int .i64 b.1, .int .i64 b.2],
      .func (.func 120) #[] #[.pointer (some ⟨w.heap.size + 1 + 1 + 1, 0, none⟩), .pointer (some ⟨w.heap.size + 1 + 1 + 1 + 1, 0, none⟩)], enc2 x, undef, undef, undef, undef, undef], defers := [] })
    (fun x a' _ X Y row hs hg hr => by obtain ⟨Bx, e1, e2, e3⟩ := hs; exact ⟨Bx, e1, blk_own Bx 104 (fun (_ : Unit) => cs2 x) () X Y row e2 hg (fun r e => (hr r e).2), e3⟩)
    ?assign ?body ?done ?stop
  case assign =>
    rintro l pre x W K ⟨⟨⟨hp, bR1⟩, bB1⟩, hB1⟩ hK
    gi_wp2
    exact hK _ _ ((KeepsOthers.alloc _ _).from _) ((Two.refl _ _ W).alloc (by have := bB1.lt; omega) bB1.lt _) ⟨⟨⟨hp, bR1.alloc _⟩, bB1.alloc _⟩, hB1.alloc hB1.size _⟩ ⟨W.heap.size, bB1.lt, Blk.new W _ _, rfl⟩
  case body =>
    rintro l pre x a' W hl ⟨r, hr⟩ ⟨⟨⟨hp, bR1⟩, bB1⟩, hB1⟩ ⟨Bx, hBx, bX, rfl⟩ hlt
    have cX := bX.cell 0
    have cY := bX.cell 1
    have cR := bR1.cell 0
    have fR := bR1.frozen 0
    simp only [List.getElem?_toArray, List.getElem?_cons_zero, List.getElem?_cons_succ] at cX cY cR
    gi_wp2
    all_goals first
      | exact ⟨(KeepsOthers.setCell _ _ _).from _, ⟨⟨rfl, AnyB.snoc (by simp; omega)⟩, bR1.set 0 _ (by simp)⟩, hB1.setCell (p := ⟨w.heap.size + 1 + 1, 0, none⟩) (by simp <;> omega) _⟩
      | exact ⟨KeepsFrom.refl _ _, Two.refl _ _ _, ⟨⟨hp.snoc (by simp; omega), bR1⟩, bB1⟩, hB1⟩
  case done =>
    rintro D zs W hD rfl ⟨⟨⟨hp, bR1⟩, bB1⟩, hB1⟩ hK
    have cR := bR1.cell 0
    have fR := bR1.frozen 0
    simp only [List.getElem?_toArray, List.getElem?_cons_zero] at cR
    gi_wp2
    have hK' := (KeepsOthers.setCell W ⟨w.heap.size + 1 + 1, 0, none⟩ (.bool true)).same D _ hK rfl
    refine ⟨by simp, .inl ⟨_, _, rfl, run_takeDeferred hK', ?_⟩⟩
    have hc5 := cell_kept (((bR1.set 0 (.bool true) (by simp)).cell 0).trans rfl) (grownBy_putObj' _ D (.deferred none)) (fun r e => by cases e; exact ⟨_, hK', rfl⟩)
    refine ⟨.bool true, ?_, by rw [show (decide (a.1 ≤ b.1) && decide (a.2 ≤ b.2)) = true from hp.two], (hB1.setCell (p := ⟨w.heap.size + 1 + 1, 0, none⟩) (by simp <;> omega) _).trans (belowK_b (w := w) (Nat.le_refl _) _ D _ _ (by omega) hK' rfl rfl)⟩
    simp [results, Try.f46, go_sem, hc5]
  case stop =>
    rintro D c pre W hD hpre ⟨⟨⟨rfl, hx⟩, bR1⟩, hB1⟩ hK
    have cR := bR1.cell 0
    simp only [List.getElem?_toArray, List.getElem?_cons_zero] at cR
    gi_wp2
    refine ⟨by simp, .inl ⟨_, _, rfl, run_takeDeferred hK, ?_⟩⟩
    have hc5 := cell_kept cR (grownBy_putObj' _ D (.deferred none)) (fun r e => by cases e; exact ⟨_, hK, rfl⟩)
    refine ⟨.bool false, ?_, ?_, hB1.trans (belowK_b (w := w) (Nat.le_refl _) W D _ _ (by omega) hK rfl rfl)⟩
    · simp [results, Try.f46, go_sem, hc5]
    · rw [show (decide (a.1 ≤ b.1) && decide (a.2 ≤ b.2)) = false from hx.two hpre]

theorem vec_Good.calls (a0 a1 : Int) (r : Bool) (w : World) (h : vec_Good.f a0 a1 = some r) :
    Calls Try.prog 79 #[.agg #[.int .i64 a0, .int .i64 a1]] w fun e w' => e = .returned (.bool r) ∧ Below w.heap.size w w' := by
  obtain rfl := Option.some.inj h
  exact (callsIn_wide (n := 6)).1 (good_in Fence.wide 6 trivial trivial trivial rfl (by omega) (a0, a1) w)
theorem vec_Fits.calls (a0 a1 b0 b1 : Int) (r : Bool) (w : World) (h : vec_Fits.f a0 a1 b0 b1 = some r) :
    Calls Try.prog 46 #[.agg #[.int .i64 a0, .int .i64 a1], .agg #[.int .i64 b0, .int .i64 b1]] w fun e w' => e = .returned (.bool r) ∧ Below w.heap.size w w' := by
  obtain rfl := Option.some.inj h
  exact (callsIn_wide (n := 6)).1 (fits_in Fence.wide 6 trivial trivial trivial rfl (by omega) (a0, a1) (b0, b1) w)
end Go.Proofs.Ytkbcjagkacijnaa.PVec
end
section
-- Written for this claim by this project's own driver over the kit's print: functions and their contracts.
namespace Go.Proofs.Ytkbcjagkacijnaa.PVp
open Go.RowKit Go.Proofs.YtkbcjagkacijnaaW.PrintWords Go.Proofs.YtkbcjagkacijnaaW.PrintLast Go.Proofs.YtkbcjagkacijnaaW.PrintMore
attribute [local go_sem] max2_int min2_int max_two min_two max_three min_three max_four min_four   -- for this text's walks alone
set_option linter.unusedVariables false
set_option linter.unusedSimpArgs false



def errW : Option Int → Value
  | none => .nilIface
  | some c => .iface 0 (.int .i64 c)
theorem errW_none : errW none = .nilIface := rfl
theorem errW_some (c : Int) : errW (some c) = .iface 0 (.int .i64 c) := rfl

-- the values' own types
end Go.Proofs.Ytkbcjagkacijnaa.PVp
end
section
-- Written for this claim by this project's own driver over the kit's print: functions and their contracts.
namespace Go.Proofs.Ytkbcjagkacijnaa.PNum
open Go.RowKit Go.Proofs.YtkbcjagkacijnaaW.PrintWords Go.Proofs.YtkbcjagkacijnaaW.PrintLast Go.Proofs.YtkbcjagkacijnaaW.PrintMore
attribute [local go_sem] max2_int min2_int max_two min_two max_three min_three max_four min_four   -- for this text's walks alone
set_option linter.unusedVariables false
set_option linter.unusedSimpArgs false



def errW : Option Int → Value
  | none => .nilIface
  | some c => .iface 0 (.int .i64 c)
theorem errW_none : errW none = .nilIface := rfl
theorem errW_some (c : Int) : errW (some c) = .iface 0 (.int .i64 c) := rfl

-- the values' own types
end Go.Proofs.Ytkbcjagkacijnaa.PNum
end
section
-- Written for this claim by this project's own driver over the kit's print: functions and their contracts.
namespace Go.Proofs.Ytkbcjagkacijnaa.PNum
open Go.RowKit Go.Proofs.YtkbcjagkacijnaaW.PrintWords Go.Proofs.YtkbcjagkacijnaaW.PrintLast Go.Proofs.YtkbcjagkacijnaaW.PrintMore
attribute [local go_sem] max2_int min2_int max_two min_two max_three min_three max_four min_four   -- for this text's walks alone
set_option linter.unusedVariables false
set_option linter.unusedSimpArgs false

def num_Compare.j0 : Nat → Int → Int → Bool → Int → Int → Bool → Option (Int)
  | 0, _, _, _, _, _, _ => none
  | k + 1, x102000, x102001, x102002, x103000, x103001, x103002 => if x102000 = x103000 then (if x102001 < x103001 then (some (-1)) else (if x102001 > x103001 then (some 1) else (some 0))) else (if x102000 < x103000 then (some (-1)) else (some 1))
def num_Compare.f (k : Nat) (a0_0 : Int) (a0_1 : Int) (a0_2 : Bool) (a1_0 : Int) (a1_1 : Int) (a1_2 : Bool) : Option (Int) := if (a0_2 != a1_2) = true then (if a0_2 = true then (some (-1)) else (some 1)) else (if a0_2 = true then (num_Compare.j0 k a1_0 a1_1 a1_2 a0_0 a0_1 a0_2) else (num_Compare.j0 k a0_0 a0_1 a0_2 a1_0 a1_1 a1_2))
theorem num_Compare.mono_l : ∀ k, (∀ y0 y1 y2 y3 y4 y5, LeO (num_Compare.j0 k y0 y1 y2 y3 y4 y5) (num_Compare.j0 (k + 1) y0 y1 y2 y3 y4 y5))
  | 0 => fun _ _ _ _ _ _ r h => by simp [num_Compare.j0] at h
  | k + 1 => by
    have ih0 := num_Compare.mono_l k
    · intro y0 y1 y2 y3 y4 y5
      unfold num_Compare.j0
      repeat' first
      | (with_reducible exact ih0 _ _ _ _ _ _)
      | (with_reducible exact LeO.refl _)
      | (with_reducible exact LeO.none _)
      | (with_reducible refine LeO.ite ?_ ?_)
      | (with_reducible refine LeO.bind ?_ (fun _ => ?_))
      | exact ih0 _ _ _ _ _ _
      | exact LeO.none _
      | refine LeO.ite ?_ ?_
      | refine LeO.bind ?_ (fun _ => ?_)
theorem num_Compare.mono : ∀ a0 a1 a2 a3 a4 a5 k, LeO (num_Compare.f k a0 a1 a2 a3 a4 a5) (num_Compare.f (k + 1) a0 a1 a2 a3 a4 a5) := by
  intro a0 a1 a2 a3 a4 a5 k
  have ih0 := num_Compare.mono_l k
  unfold num_Compare.f
  repeat' first
      | (with_reducible exact ih0 _ _ _ _ _ _)
      | (with_reducible exact LeO.refl _)
      | (with_reducible exact LeO.none _)
      | (with_reducible refine LeO.ite ?_ ?_)
      | (with_reducible refine LeO.bind ?_ (fun _ => ?_))
      | exact ih0 _ _ _ _ _ _
      | exact LeO.none _
      | refine LeO.ite ?_ ?_
      | refine LeO.bind ?_ (fun _ => ?_)
set_option maxHeartbeats 8000000 in
set_option maxRecDepth 100000 in
theorem num_Compare.calls (k : Nat) (a0_0 : Int) (a0_1 : Int) (a0_2 : Bool) (a1_0 : Int) (a1_1 : Int) (a1_2 : Bool) (r : Int) (w : World) (h : num_Compare.f k a0_0 a0_1 a0_2 a1_0 a1_1 a1_2 = some r) :
    Calls Try.prog 91 #[.agg #[.int .u64 a0_0, .int .u64 a0_1, .bool a0_2], .agg #[.int .u64 a1_0, .int .u64 a1_1, .bool a1_2]] w fun e w' => e = .returned (.int .i64 r) ∧ Below w.heap.size w w' := by
  have hu108 := Try.underlying108
  have HB := Aside0.mk (Below.refl w.heap.size w)
  have H : (if (a0_2 != a1_2) = true then (if a0_2 = true then (some (-1)) else (some 1)) else (if a0_2 = true then (num_Compare.j0 k a1_0 a1_1 a1_2 a0_0 a0_1 a0_2) else (num_Compare.j0 k a0_0 a0_1 a0_2 a1_0 a1_1 a1_2))) = some r := h
  clear h
  have HC3 := Aside0.mk H
  clear H
  go_enter Try.func91, Try.ntmps91
  go_upto_block 0 with (first | ((with_reducible refine gate_dst (N := 2) rfl ?_); refine box_event ?hg (N := 2) ?hd (cs := #[.int .u64 a0_0, .int .u64 a0_1, .bool a0_2]) (t := 108) ?hr ?_; (case hd => rfl); (case hg => rfl); (case hr => first | (go_simp; done) | (go_simp; rfl)); intro gb101 hg w4 hbox hb; have n0_ := Aside0.mk (below_step (by repeat (first | (with_reducible first | exact HB.out | apply below_alloc | apply pw_below_drewN | apply below_drew1) | exact HB.out)) hb); have n1_ := Aside0.mk (hbox); have n2_ := Aside0.mk ((by rw [hg]; exact (below_size (by repeat (first | (with_reducible first | exact HB.out | apply below_alloc | apply pw_below_drewN | apply below_drew1) | exact HB.out))) : w.heap.size ≤ gb101)); have n3_ := Aside0.mk ((by rw [hg]; exact (below_size (by repeat (first | (with_reducible first | exact HB.out | apply below_alloc | apply pw_below_drewN | apply below_drew1) | exact HB.out))) : w.heap.size ≤ gb101)); clear HB; have HB := n0_; have BK101 := n1_; have GW101 := n2_; have GE101 := n3_; clear n0_ n1_ n2_ n3_; clear hb hbox hg) | ((with_reducible refine gate_dst (N := 3) rfl ?_); refine box_event ?hg (N := 3) ?hd (cs := #[.int .u64 a1_0, .int .u64 a1_1, .bool a1_2]) (t := 108) ?hr ?_; (case hd => rfl); (case hg => rfl); (case hr => first | (go_simp; done) | (go_simp; rfl)); intro gb102 hg w5 hbox hb; have n0_ := Aside0.mk (blk_below (g := gb101) (o := .cells #[.int .u64 a0_0, .int .u64 a0_1, .bool a0_2] 108 (0, 0)) (by (with_reducible repeat (first | refine blk_drewN ?_ _ | refine blk_drew ?_ | refine blk_alloc ?_ _)); exact BK101.out) hb); have n1_ := Aside0.mk (below_step (by repeat (first | (with_reducible first | exact HB.out | apply below_alloc | apply pw_below_drewN | apply below_drew1 | refine below_set ?_ GE101.out) | exact HB.out)) hb); have n2_ := Aside0.mk (hbox); have n3_ := Aside0.mk ((by rw [hg]; exact (below_size (by repeat (first | (with_reducible first | exact HB.out | apply below_alloc | apply pw_below_drewN | apply below_drew1 | refine below_set ?_ GE101.out) | exact HB.out))) : w.heap.size ≤ gb102)); have n4_ := Aside0.mk ((by rw [hg]; exact (below_size (by repeat (first | (with_reducible first | exact HB.out | apply below_alloc | apply pw_below_drewN | apply below_drew1 | refine below_set ?_ GE101.out) | exact HB.out))) : w.heap.size ≤ gb102)); have n5_ := Aside0.mk ((by rw [hg]; exact Nat.ne_of_lt (blk_lt (g := gb101) (o := .cells #[.int .u64 a0_0, .int .u64 a0_1, .bool a0_2] 108 (0, 0)) (by (with_reducible repeat (first | refine blk_drewN ?_ _ | refine blk_drew ?_ | refine blk_alloc ?_ _)); exact BK101.out)) : gb101 ≠ gb102)); have n6_ := Aside0.mk ((by rw [hg]; exact Nat.ne_of_gt (blk_lt (g := gb101) (o := .cells #[.int .u64 a0_0, .int .u64 a0_1, .bool a0_2] 108 (0, 0)) (by (with_reducible repeat (first | refine blk_drewN ?_ _ | refine blk_drew ?_ | refine blk_alloc ?_ _)); exact BK101.out)) : gb102 ≠ gb101)); clear BK101; clear HB; have BK101 := n0_; have HB := n1_; have BK102 := n2_; have GW102 := n3_; have GE102 := n4_; have NB101_102 := n5_; have NB102_101 := n6_; clear n0_ n1_ n2_ n3_ n4_ n5_ n6_; clear hb hbox hg))
  (try simp only [Act.put, List.setIfInBounds_toArray, List.set_cons_zero, List.set_cons_succ])
  go_cut [] (fun wc => ∃ (kq : Nat) (x102000_2 : Int) (x102001_2 : Int) (x102002_2 : Bool) (x103000_2 : Int) (x103001_2 : Int) (x103002_2 : Bool), Aside0 (num_Compare.j0 kq x102000_2 x102001_2 x102002_2 x103000_2 x103001_2 x103002_2 = some r) ∧ Aside0 (kq ≤ k) ∧ Aside0 (wc.heap[gb101]? = some (.cells #[.int .u64 x102000_2, .int .u64 x102001_2, .bool x102002_2] 108 (0, 0))) ∧ Aside0 (wc.heap[gb102]? = some (.cells #[.int .u64 x103000_2, .int .u64 x103001_2, .bool x103002_2] 108 (0, 0))) ∧ Aside0 (Below w.heap.size w wc))
  case first =>
    have H := HC3.out
    clear HC3
    by_cases c6 : (a0_2 != a1_2) = true
    · rw [if_pos c6] at H
      have c6b0 : (a0_2 != a1_2) = true := c6
      (try (have c6b1 : decide (a0_2 = a1_2) = false := by simpa using c6))
      (try (have c6b2 : (a0_2 == a1_2) = false := by simpa using c6))
      (try (have c6b3 : ¬ (a0_2 = a1_2) := by simpa using c6))
      clear c6
      (first | rw [c6b0] | (simp only [i64_w, i32_w]; rw [c6b0]) | skip)
      by_cases c7 : a0_2 = true
      · subst c7
        have H1 : (some (-1)) = some r := by rw [if_pos rfl] at H; exact H
        clear H
        have H := H1
        clear H1
        obtain rfl := Option.some.inj H
        have hnb8 := NB101_102.out
        have hnc8 := NB102_101.out
        have hcz9_0 : w5.cell? ⟨gb101, 0, none⟩ = some (.int .u64 a0_0) := (blk_cell BK101.out 0).trans rfl
        have hcz9_1 : w5.cell? ⟨gb101, 1, none⟩ = some (.int .u64 a0_1) := (blk_cell BK101.out 1).trans rfl
        have hcz9_2 : w5.cell? ⟨gb101, 2, none⟩ = some (.bool true) := (blk_cell BK101.out 2).trans rfl
        have hfz9_0 := blk_frozen BK101.out 0
        have hfz9_1 := blk_frozen BK101.out 1
        have hfz9_2 := blk_frozen BK101.out 2
        have hcz10_0 : w5.cell? ⟨gb102, 0, none⟩ = some (.int .u64 a1_0) := (blk_cell BK102.out 0).trans rfl
        have hcz10_1 : w5.cell? ⟨gb102, 1, none⟩ = some (.int .u64 a1_1) := (blk_cell BK102.out 1).trans rfl
        have hcz10_2 : w5.cell? ⟨gb102, 2, none⟩ = some (.bool a1_2) := (blk_cell BK102.out 2).trans rfl
        have hfz10_0 := blk_frozen BK102.out 0
        have hfz10_1 := blk_frozen BK102.out 1
        have hfz10_2 := blk_frozen BK102.out 2
        go_wp2
        go_ret
        exact ⟨by first | rfl | (simp [errW_none, errW_some] <;> rfl) | (simp [*, errW_none, errW_some] <;> rfl), by repeat (first | (with_reducible first | exact HB.out | apply below_alloc | apply pw_below_drewN | apply below_drew1 | refine below_set ?_ GE101.out | refine below_set ?_ GE102.out) | exact HB.out)⟩
      · replace c7 := Bool.eq_false_iff.mpr c7
        subst c7
        have H1 : (some 1) = some r := by rw [if_neg (show ¬ (false = true) by decide)] at H; exact H
        clear H
        have H := H1
        clear H1
        obtain rfl := Option.some.inj H
        have hnb11 := NB101_102.out
        have hnc11 := NB102_101.out
        have hcz12_0 : w5.cell? ⟨gb101, 0, none⟩ = some (.int .u64 a0_0) := (blk_cell BK101.out 0).trans rfl
        have hcz12_1 : w5.cell? ⟨gb101, 1, none⟩ = some (.int .u64 a0_1) := (blk_cell BK101.out 1).trans rfl
        have hcz12_2 : w5.cell? ⟨gb101, 2, none⟩ = some (.bool false) := (blk_cell BK101.out 2).trans rfl
        have hfz12_0 := blk_frozen BK101.out 0
        have hfz12_1 := blk_frozen BK101.out 1
        have hfz12_2 := blk_frozen BK101.out 2
        have hcz13_0 : w5.cell? ⟨gb102, 0, none⟩ = some (.int .u64 a1_0) := (blk_cell BK102.out 0).trans rfl
        have hcz13_1 : w5.cell? ⟨gb102, 1, none⟩ = some (.int .u64 a1_1) := (blk_cell BK102.out 1).trans rfl
        have hcz13_2 : w5.cell? ⟨gb102, 2, none⟩ = some (.bool a1_2) := (blk_cell BK102.out 2).trans rfl
        have hfz13_0 := blk_frozen BK102.out 0
        have hfz13_1 := blk_frozen BK102.out 1
        have hfz13_2 := blk_frozen BK102.out 2
        go_wp2
        go_ret
        exact ⟨by first | rfl | (simp [errW_none, errW_some] <;> rfl) | (simp [*, errW_none, errW_some] <;> rfl), by repeat (first | (with_reducible first | exact HB.out | apply below_alloc | apply pw_below_drewN | apply below_drew1 | refine below_set ?_ GE101.out | refine below_set ?_ GE102.out) | exact HB.out)⟩
    · rw [if_neg c6] at H
      have c6b0 : (a0_2 != a1_2) = false := by simpa using c6
      (try (have c6b1 : decide (a0_2 = a1_2) = true := by simpa using c6))
      (try (have c6b2 : (a0_2 == a1_2) = true := by simpa using c6))
      clear c6
      (first | rw [c6b0] | (simp only [i64_w, i32_w]; rw [c6b0]) | skip)
      by_cases c14 : a0_2 = true
      · subst c14
        have H1 : (num_Compare.j0 k a1_0 a1_1 a1_2 a0_0 a0_1 true) = some r := by rw [if_pos rfl] at H; exact H
        clear H
        have H := H1
        clear H1
        have H' := Aside0.mk H
        clear H
        have hnb15 := NB101_102.out
        have hnc15 := NB102_101.out
        have hcz16_0 : w5.cell? ⟨gb101, 0, none⟩ = some (.int .u64 a0_0) := (blk_cell BK101.out 0).trans rfl
        have hcz16_1 : w5.cell? ⟨gb101, 1, none⟩ = some (.int .u64 a0_1) := (blk_cell BK101.out 1).trans rfl
        have hcz16_2 : w5.cell? ⟨gb101, 2, none⟩ = some (.bool true) := (blk_cell BK101.out 2).trans rfl
        have hfz16_0 := blk_frozen BK101.out 0
        have hfz16_1 := blk_frozen BK101.out 1
        have hfz16_2 := blk_frozen BK101.out 2
        have hcz17_0 : w5.cell? ⟨gb102, 0, none⟩ = some (.int .u64 a1_0) := (blk_cell BK102.out 0).trans rfl
        have hcz17_1 : w5.cell? ⟨gb102, 1, none⟩ = some (.int .u64 a1_1) := (blk_cell BK102.out 1).trans rfl
        have hcz17_2 : w5.cell? ⟨gb102, 2, none⟩ = some (.bool a1_2) := (blk_cell BK102.out 2).trans rfl
        have hfz17_0 := blk_frozen BK102.out 0
        have hfz17_1 := blk_frozen BK102.out 1
        have hfz17_2 := blk_frozen BK102.out 2
        go_wp2
        go_meet
        case rel => exact ⟨_, (a1_0), (a1_1), (a1_2), (a0_0), (a0_1), (true), H', ⟨by first | omega | exact Nat.le_refl _⟩, ⟨by (with_reducible repeat (first | refine blk_drewN ?_ _ | refine blk_drew ?_ | refine blk_alloc ?_ _)); refine blk_far ?_ NB101_102.out _; (with_reducible repeat (first | refine blk_drewN ?_ _ | refine blk_drew ?_ | refine blk_alloc ?_ _)); refine blk_far ?_ NB101_102.out _; (with_reducible repeat (first | refine blk_drewN ?_ _ | refine blk_drew ?_ | refine blk_alloc ?_ _)); refine blk_far ?_ NB101_102.out _; (with_reducible repeat (first | refine blk_drewN ?_ _ | refine blk_drew ?_ | refine blk_alloc ?_ _)); refine blk_put (cs := #[.int .u64 a1_0, .int .u64 a1_1, .bool true]) ?_ 2 _ rfl; (with_reducible repeat (first | refine blk_drewN ?_ _ | refine blk_drew ?_ | refine blk_alloc ?_ _)); refine blk_put (cs := #[.int .u64 a1_0, .int .u64 a0_1, .bool true]) ?_ 1 _ rfl; (with_reducible repeat (first | refine blk_drewN ?_ _ | refine blk_drew ?_ | refine blk_alloc ?_ _)); refine blk_put (cs := #[.int .u64 a0_0, .int .u64 a0_1, .bool true]) ?_ 0 _ rfl; (with_reducible repeat (first | refine blk_drewN ?_ _ | refine blk_drew ?_ | refine blk_alloc ?_ _)); exact BK101.out⟩, ⟨by (with_reducible repeat (first | refine blk_drewN ?_ _ | refine blk_drew ?_ | refine blk_alloc ?_ _)); refine blk_put (cs := #[.int .u64 a0_0, .int .u64 a0_1, .bool a1_2]) ?_ 2 _ rfl; (with_reducible repeat (first | refine blk_drewN ?_ _ | refine blk_drew ?_ | refine blk_alloc ?_ _)); refine blk_put (cs := #[.int .u64 a0_0, .int .u64 a1_1, .bool a1_2]) ?_ 1 _ rfl; (with_reducible repeat (first | refine blk_drewN ?_ _ | refine blk_drew ?_ | refine blk_alloc ?_ _)); refine blk_put (cs := #[.int .u64 a1_0, .int .u64 a1_1, .bool a1_2]) ?_ 0 _ rfl; (with_reducible repeat (first | refine blk_drewN ?_ _ | refine blk_drew ?_ | refine blk_alloc ?_ _)); refine blk_far ?_ NB102_101.out _; (with_reducible repeat (first | refine blk_drewN ?_ _ | refine blk_drew ?_ | refine blk_alloc ?_ _)); refine blk_far ?_ NB102_101.out _; (with_reducible repeat (first | refine blk_drewN ?_ _ | refine blk_drew ?_ | refine blk_alloc ?_ _)); refine blk_far ?_ NB102_101.out _; (with_reducible repeat (first | refine blk_drewN ?_ _ | refine blk_drew ?_ | refine blk_alloc ?_ _)); exact BK102.out⟩, ⟨by repeat (first | (with_reducible first | exact HB.out | apply below_alloc | apply pw_below_drewN | apply below_drew1 | refine below_set ?_ GE101.out | refine below_set ?_ GE102.out) | exact HB.out)⟩⟩
      · replace c14 := Bool.eq_false_iff.mpr c14
        subst c14
        have H1 : (num_Compare.j0 k a0_0 a0_1 false a1_0 a1_1 a1_2) = some r := by rw [if_neg (show ¬ (false = true) by decide)] at H; exact H
        clear H
        have H := H1
        clear H1
        have H' := Aside0.mk H
        clear H
        have hnb18 := NB101_102.out
        have hnc18 := NB102_101.out
        have hcz19_0 : w5.cell? ⟨gb101, 0, none⟩ = some (.int .u64 a0_0) := (blk_cell BK101.out 0).trans rfl
        have hcz19_1 : w5.cell? ⟨gb101, 1, none⟩ = some (.int .u64 a0_1) := (blk_cell BK101.out 1).trans rfl
        have hcz19_2 : w5.cell? ⟨gb101, 2, none⟩ = some (.bool false) := (blk_cell BK101.out 2).trans rfl
        have hfz19_0 := blk_frozen BK101.out 0
        have hfz19_1 := blk_frozen BK101.out 1
        have hfz19_2 := blk_frozen BK101.out 2
        have hcz20_0 : w5.cell? ⟨gb102, 0, none⟩ = some (.int .u64 a1_0) := (blk_cell BK102.out 0).trans rfl
        have hcz20_1 : w5.cell? ⟨gb102, 1, none⟩ = some (.int .u64 a1_1) := (blk_cell BK102.out 1).trans rfl
        have hcz20_2 : w5.cell? ⟨gb102, 2, none⟩ = some (.bool a1_2) := (blk_cell BK102.out 2).trans rfl
        have hfz20_0 := blk_frozen BK102.out 0
        have hfz20_1 := blk_frozen BK102.out 1
        have hfz20_2 := blk_frozen BK102.out 2
        go_wp2
        go_meet
        case rel => exact ⟨_, (a0_0), (a0_1), (false), (a1_0), (a1_1), (a1_2), H', ⟨by first | omega | exact Nat.le_refl _⟩, ⟨by (with_reducible repeat (first | refine blk_drewN ?_ _ | refine blk_drew ?_ | refine blk_alloc ?_ _)); exact BK101.out⟩, ⟨by (with_reducible repeat (first | refine blk_drewN ?_ _ | refine blk_drew ?_ | refine blk_alloc ?_ _)); exact BK102.out⟩, ⟨by repeat (first | (with_reducible first | exact HB.out | apply below_alloc | apply pw_below_drewN | apply below_drew1 | refine below_set ?_ GE101.out | refine below_set ?_ GE102.out) | exact HB.out)⟩⟩
  case rest =>
    clear HC3
    try clear c1
    try clear p2
    try clear c6
    try clear c6b0
    try clear c6b1
    try clear c6b2
    try clear c7
    try clear c8
    try clear c9
    try clear c11
    try clear c14
    try clear c15
    try clear c18
    try clear hcz10_0
    try clear hcz10_1
    try clear hcz10_2
    try clear hcz12_0
    try clear hcz12_1
    try clear hcz12_2
    try clear hcz13_0
    try clear hcz13_1
    try clear hcz13_2
    try clear hcz16_0
    try clear hcz16_1
    try clear hcz16_2
    try clear hcz17_0
    try clear hcz17_1
    try clear hcz17_2
    try clear hcz19_0
    try clear hcz19_1
    try clear hcz19_2
    try clear hcz20_0
    try clear hcz20_1
    try clear hcz20_2
    try clear hcz9_0
    try clear hcz9_1
    try clear hcz9_2
    try clear hfz10_0
    try clear hfz10_1
    try clear hfz10_2
    try clear hfz12_0
    try clear hfz12_1
    try clear hfz12_2
    try clear hfz13_0
    try clear hfz13_1
    try clear hfz13_2
    try clear hfz16_0
    try clear hfz16_1
    try clear hfz16_2
    try clear hfz17_0
    try clear hfz17_1
    try clear hfz17_2
    try clear hfz19_0
    try clear hfz19_1
    try clear hfz19_2
    try clear hfz20_0
    try clear hfz20_1
    try clear hfz20_2
    try clear hfz9_0
    try clear hfz9_1
    try clear hfz9_2
    obtain ⟨kq, x102000_2, x102001_2, x102002_2, x103000_2, x103001_2, x103002_2, HA, HJ2, BK101, BK102, HB⟩ := hcut
    cases kq with
    | zero => exact absurd HA.out (by simp [num_Compare.j0])
    | succ kj2 =>
      have H := HA.out
      clear HA
      simp only [num_Compare.j0] at H
      by_cases c21 : x102000_2 = x103000_2
      · rw [if_pos c21] at H
        have c21b0 : (x102000_2 == x103000_2) = true := beq_iff_eq.mpr c21
        have c21b1 : (x102000_2 != x103000_2) = false := bne_eq_false_iff_eq.mpr c21
        clear c21
        by_cases c22 : x102001_2 < x103001_2
        · rw [if_pos c22] at H
          have c22b0 : decide (x102001_2 < x103001_2) = true := decide_eq_true c22
          clear c22
          obtain rfl := Option.some.inj H
          have hnb23 := NB101_102.out
          have hnc23 := NB102_101.out
          have hcz24_0 : wc.cell? ⟨gb101, 0, none⟩ = some (.int .u64 x102000_2) := (blk_cell BK101.out 0).trans rfl
          have hcz24_1 : wc.cell? ⟨gb101, 1, none⟩ = some (.int .u64 x102001_2) := (blk_cell BK101.out 1).trans rfl
          have hcz24_2 : wc.cell? ⟨gb101, 2, none⟩ = some (.bool x102002_2) := (blk_cell BK101.out 2).trans rfl
          have hfz24_0 := blk_frozen BK101.out 0
          have hfz24_1 := blk_frozen BK101.out 1
          have hfz24_2 := blk_frozen BK101.out 2
          have hcz25_0 : wc.cell? ⟨gb102, 0, none⟩ = some (.int .u64 x103000_2) := (blk_cell BK102.out 0).trans rfl
          have hcz25_1 : wc.cell? ⟨gb102, 1, none⟩ = some (.int .u64 x103001_2) := (blk_cell BK102.out 1).trans rfl
          have hcz25_2 : wc.cell? ⟨gb102, 2, none⟩ = some (.bool x103002_2) := (blk_cell BK102.out 2).trans rfl
          have hfz25_0 := blk_frozen BK102.out 0
          have hfz25_1 := blk_frozen BK102.out 1
          have hfz25_2 := blk_frozen BK102.out 2
          go_wp2
          go_ret
          exact ⟨by first | rfl | (simp [errW_none, errW_some] <;> rfl) | (simp [*, errW_none, errW_some] <;> rfl), by repeat (first | (with_reducible first | exact HB.out | apply below_alloc | apply pw_below_drewN | apply below_drew1 | refine below_set ?_ GE101.out | refine below_set ?_ GE102.out) | exact HB.out)⟩
        · rw [if_neg c22] at H
          have c22b0 : decide (x102001_2 < x103001_2) = false := decide_eq_false c22
          clear c22
          by_cases c26 : x102001_2 > x103001_2
          · rw [if_pos c26] at H
            have c26b0 : decide (x103001_2 < x102001_2) = true := decide_eq_true c26
            clear c26
            obtain rfl := Option.some.inj H
            have hnb27 := NB101_102.out
            have hnc27 := NB102_101.out
            have hcz28_0 : wc.cell? ⟨gb101, 0, none⟩ = some (.int .u64 x102000_2) := (blk_cell BK101.out 0).trans rfl
            have hcz28_1 : wc.cell? ⟨gb101, 1, none⟩ = some (.int .u64 x102001_2) := (blk_cell BK101.out 1).trans rfl
            have hcz28_2 : wc.cell? ⟨gb101, 2, none⟩ = some (.bool x102002_2) := (blk_cell BK101.out 2).trans rfl
            have hfz28_0 := blk_frozen BK101.out 0
            have hfz28_1 := blk_frozen BK101.out 1
            have hfz28_2 := blk_frozen BK101.out 2
            have hcz29_0 : wc.cell? ⟨gb102, 0, none⟩ = some (.int .u64 x103000_2) := (blk_cell BK102.out 0).trans rfl
            have hcz29_1 : wc.cell? ⟨gb102, 1, none⟩ = some (.int .u64 x103001_2) := (blk_cell BK102.out 1).trans rfl
            have hcz29_2 : wc.cell? ⟨gb102, 2, none⟩ = some (.bool x103002_2) := (blk_cell BK102.out 2).trans rfl
            have hfz29_0 := blk_frozen BK102.out 0
            have hfz29_1 := blk_frozen BK102.out 1
            have hfz29_2 := blk_frozen BK102.out 2
            go_wp2
            go_ret
            exact ⟨by first | rfl | (simp [errW_none, errW_some] <;> rfl) | (simp [*, errW_none, errW_some] <;> rfl), by repeat (first | (with_reducible first | exact HB.out | apply below_alloc | apply pw_below_drewN | apply below_drew1 | refine below_set ?_ GE101.out | refine below_set ?_ GE102.out) | exact HB.out)⟩
          · rw [if_neg c26] at H
            have c26b0 : decide (x103001_2 < x102001_2) = false := decide_eq_false c26
            clear c26
            obtain rfl := Option.some.inj H
            have hnb30 := NB101_102.out
            have hnc30 := NB102_101.out
            have hcz31_0 : wc.cell? ⟨gb101, 0, none⟩ = some (.int .u64 x102000_2) := (blk_cell BK101.out 0).trans rfl
            have hcz31_1 : wc.cell? ⟨gb101, 1, none⟩ = some (.int .u64 x102001_2) := (blk_cell BK101.out 1).trans rfl
            have hcz31_2 : wc.cell? ⟨gb101, 2, none⟩ = some (.bool x102002_2) := (blk_cell BK101.out 2).trans rfl
            have hfz31_0 := blk_frozen BK101.out 0
            have hfz31_1 := blk_frozen BK101.out 1
            have hfz31_2 := blk_frozen BK101.out 2
            have hcz32_0 : wc.cell? ⟨gb102, 0, none⟩ = some (.int .u64 x103000_2) := (blk_cell BK102.out 0).trans rfl
            have hcz32_1 : wc.cell? ⟨gb102, 1, none⟩ = some (.int .u64 x103001_2) := (blk_cell BK102.out 1).trans rfl
            have hcz32_2 : wc.cell? ⟨gb102, 2, none⟩ = some (.bool x103002_2) := (blk_cell BK102.out 2).trans rfl
            have hfz32_0 := blk_frozen BK102.out 0
            have hfz32_1 := blk_frozen BK102.out 1
            have hfz32_2 := blk_frozen BK102.out 2
            go_wp2
            go_ret
            exact ⟨by first | rfl | (simp [errW_none, errW_some] <;> rfl) | (simp [*, errW_none, errW_some] <;> rfl), by repeat (first | (with_reducible first | exact HB.out | apply below_alloc | apply pw_below_drewN | apply below_drew1 | refine below_set ?_ GE101.out | refine below_set ?_ GE102.out) | exact HB.out)⟩
      · rw [if_neg c21] at H
        have c21b0 : (x102000_2 == x103000_2) = false := beq_eq_false_iff_ne.mpr c21
        have c21b1 : (x102000_2 != x103000_2) = true := bne_iff_ne.mpr c21
        by_cases c33 : x102000_2 < x103000_2
        · rw [if_pos c33] at H
          have c33b0 : decide (x102000_2 < x103000_2) = true := decide_eq_true c33
          clear c33
          obtain rfl := Option.some.inj H
          have hnb34 := NB101_102.out
          have hnc34 := NB102_101.out
          have hcz35_0 : wc.cell? ⟨gb101, 0, none⟩ = some (.int .u64 x102000_2) := (blk_cell BK101.out 0).trans rfl
          have hcz35_1 : wc.cell? ⟨gb101, 1, none⟩ = some (.int .u64 x102001_2) := (blk_cell BK101.out 1).trans rfl
          have hcz35_2 : wc.cell? ⟨gb101, 2, none⟩ = some (.bool x102002_2) := (blk_cell BK101.out 2).trans rfl
          have hfz35_0 := blk_frozen BK101.out 0
          have hfz35_1 := blk_frozen BK101.out 1
          have hfz35_2 := blk_frozen BK101.out 2
          have hcz36_0 : wc.cell? ⟨gb102, 0, none⟩ = some (.int .u64 x103000_2) := (blk_cell BK102.out 0).trans rfl
          have hcz36_1 : wc.cell? ⟨gb102, 1, none⟩ = some (.int .u64 x103001_2) := (blk_cell BK102.out 1).trans rfl
          have hcz36_2 : wc.cell? ⟨gb102, 2, none⟩ = some (.bool x103002_2) := (blk_cell BK102.out 2).trans rfl
          have hfz36_0 := blk_frozen BK102.out 0
          have hfz36_1 := blk_frozen BK102.out 1
          have hfz36_2 := blk_frozen BK102.out 2
          go_wp2
          go_ret
          exact ⟨by first | rfl | (simp [errW_none, errW_some] <;> rfl) | (simp [*, errW_none, errW_some] <;> rfl), by repeat (first | (with_reducible first | exact HB.out | apply below_alloc | apply pw_below_drewN | apply below_drew1 | refine below_set ?_ GE101.out | refine below_set ?_ GE102.out) | exact HB.out)⟩
        · rw [if_neg c33] at H
          have c33b0 : decide (x102000_2 < x103000_2) = false := decide_eq_false c33
          clear c33
          obtain rfl := Option.some.inj H
          have hnb37 := NB101_102.out
          have hnc37 := NB102_101.out
          have hcz38_0 : wc.cell? ⟨gb101, 0, none⟩ = some (.int .u64 x102000_2) := (blk_cell BK101.out 0).trans rfl
          have hcz38_1 : wc.cell? ⟨gb101, 1, none⟩ = some (.int .u64 x102001_2) := (blk_cell BK101.out 1).trans rfl
          have hcz38_2 : wc.cell? ⟨gb101, 2, none⟩ = some (.bool x102002_2) := (blk_cell BK101.out 2).trans rfl
          have hfz38_0 := blk_frozen BK101.out 0
          have hfz38_1 := blk_frozen BK101.out 1
          have hfz38_2 := blk_frozen BK101.out 2
          have hcz39_0 : wc.cell? ⟨gb102, 0, none⟩ = some (.int .u64 x103000_2) := (blk_cell BK102.out 0).trans rfl
          have hcz39_1 : wc.cell? ⟨gb102, 1, none⟩ = some (.int .u64 x103001_2) := (blk_cell BK102.out 1).trans rfl
          have hcz39_2 : wc.cell? ⟨gb102, 2, none⟩ = some (.bool x103002_2) := (blk_cell BK102.out 2).trans rfl
          have hfz39_0 := blk_frozen BK102.out 0
          have hfz39_1 := blk_frozen BK102.out 1
          have hfz39_2 := blk_frozen BK102.out 2
          go_wp2
          go_ret
          exact ⟨by first | rfl | (simp [errW_none, errW_some] <;> rfl) | (simp [*, errW_none, errW_some] <;> rfl), by repeat (first | (with_reducible first | exact HB.out | apply below_alloc | apply pw_below_drewN | apply below_drew1 | refine below_set ?_ GE101.out | refine below_set ?_ GE102.out) | exact HB.out)⟩

def num_Size.f (a0 : Int) : Option (Int) := if a0 < 0 then (some (IntKind.u64.wrap (-(IntKind.u64.wrap (a0))))) else (some (IntKind.u64.wrap (a0)))
set_option maxHeartbeats 8000000 in
set_option maxRecDepth 100000 in
theorem num_Size.calls (a0 : Int) (r : Int) (w : World) (h : num_Size.f a0 = some r) :
    Calls Try.prog 105 #[.int .i64 a0] w fun e w' => e = .returned (.int .u64 r) ∧ Drawn0 w w' := by
  have H : (if a0 < 0 then (some (IntKind.u64.wrap (-(IntKind.u64.wrap (a0))))) else (some (IntKind.u64.wrap (a0)))) = some r := h
  clear h
  by_cases c2 : a0 < 0
  · rw [if_pos c2] at H
    have c2b0 : decide (a0 < 0) = true := decide_eq_true c2
    clear c2
    obtain rfl := Option.some.inj H
    go_enter Try.func105, Try.ntmps105
    go_wp2
    go_ret
    exact ⟨by first | rfl | (simp; done) | (simp [*]; done), by repeat (first | exact Drawn0.refl _ | apply Drawn0.step)⟩
  · rw [if_neg c2] at H
    have c2b0 : decide (a0 < 0) = false := decide_eq_false c2
    clear c2
    obtain rfl := Option.some.inj H
    go_enter Try.func105, Try.ntmps105
    go_wp2
    go_ret
    exact ⟨by first | rfl | (simp; done) | (simp [*]; done), by repeat (first | exact Drawn0.refl _ | apply Drawn0.step)⟩

def bits_Mul64.f (a0 : Int) (a1 : Int) : Option (Int × Int) := some (IntKind.u64.wrap ((IntKind.u64.wrap ((IntKind.u64.wrap ((a0 / 4294967296) * (a1 / 4294967296))) + ((IntKind.u64.wrap ((IntKind.u64.wrap ((a0 / 4294967296) * (Go.bits .and .u64 a1 4294967295))) + ((IntKind.u64.wrap ((Go.bits .and .u64 a0 4294967295) * (Go.bits .and .u64 a1 4294967295))) / 4294967296))) / 4294967296))) + ((IntKind.u64.wrap ((Go.bits .and .u64 (IntKind.u64.wrap ((IntKind.u64.wrap ((a0 / 4294967296) * (Go.bits .and .u64 a1 4294967295))) + ((IntKind.u64.wrap ((Go.bits .and .u64 a0 4294967295) * (Go.bits .and .u64 a1 4294967295))) / 4294967296))) 4294967295) + (IntKind.u64.wrap ((Go.bits .and .u64 a0 4294967295) * (a1 / 4294967296))))) / 4294967296)), IntKind.u64.wrap (a0 * a1))
set_option maxHeartbeats 8000000 in
set_option maxRecDepth 100000 in
theorem bits_Mul64.calls (a0 : Int) (a1 : Int) (r1 : Int) (r2 : Int) (w : World) (h : bits_Mul64.f a0 a1 = some (r1, r2)) :
    Calls Try.prog 121 #[.int .u64 a0, .int .u64 a1] w fun e w' => e = .returned (.tuple #[.int .u64 r1, .int .u64 r2]) ∧ Drawn0 w w' := by
  have H : (some (IntKind.u64.wrap ((IntKind.u64.wrap ((IntKind.u64.wrap ((a0 / 4294967296) * (a1 / 4294967296))) + ((IntKind.u64.wrap ((IntKind.u64.wrap ((a0 / 4294967296) * (Go.bits .and .u64 a1 4294967295))) + ((IntKind.u64.wrap ((Go.bits .and .u64 a0 4294967295) * (Go.bits .and .u64 a1 4294967295))) / 4294967296))) / 4294967296))) + ((IntKind.u64.wrap ((Go.bits .and .u64 (IntKind.u64.wrap ((IntKind.u64.wrap ((a0 / 4294967296) * (Go.bits .and .u64 a1 4294967295))) + ((IntKind.u64.wrap ((Go.bits .and .u64 a0 4294967295) * (Go.bits .and .u64 a1 4294967295))) / 4294967296))) 4294967295) + (IntKind.u64.wrap ((Go.bits .and .u64 a0 4294967295) * (a1 / 4294967296))))) / 4294967296)), IntKind.u64.wrap (a0 * a1))) = some (r1, r2) := h
  clear h
  simp only [Option.some.injEq, Prod.mk.injEq] at H
  obtain ⟨rfl, rfl⟩ := H
  go_enter Try.func121, Try.ntmps121
  go_wp2
  go_ret2
  exact ⟨by first | rfl | (simp; done) | (simp [*]; done), by repeat (first | exact Drawn0.refl _ | apply Drawn0.step)⟩

def num_Product.f (a0 : Int) (a1 : Int) : Option (Int × Int × Bool) := (num_Size.f a0).bind fun t104 => ((num_Size.f a1).bind fun t105 => ((bits_Mul64.f t104 t105).bind fun bt106 => (if ((decide (a0 < 0)) != (decide (a1 < 0))) = true then (some (bt106.1, bt106.2, ((Go.bits .or .u64 bt106.1 bt106.2) != 0))) else (some (bt106.1, bt106.2, false)))))
set_option maxHeartbeats 8000000 in
set_option maxRecDepth 100000 in
theorem num_Product.calls (a0 : Int) (a1 : Int) (r1 : Int) (r2 : Int) (r3 : Bool) (w : World) (h : num_Product.f a0 a1 = some (r1, r2, r3)) :
    Calls Try.prog 92 #[.int .i64 a0, .int .i64 a1] w fun e w' => e = .returned (.agg #[.int .u64 r1, .int .u64 r2, .bool r3]) ∧ Below w.heap.size w w' := by
  have hu108 := Try.underlying108
  have HB := Aside0.mk (Below.refl w.heap.size w)
  have H : ((num_Size.f a0).bind fun t104 => ((num_Size.f a1).bind fun t105 => ((bits_Mul64.f t104 t105).bind fun bt106 => (if ((decide (a0 < 0)) != (decide (a1 < 0))) = true then (some (bt106.1, bt106.2, ((Go.bits .or .u64 bt106.1 bt106.2) != 0))) else (some (bt106.1, bt106.2, false)))))) = some (r1, r2, r3) := h
  clear h
  replace H := Option.bind_eq_some_iff.mp H
  obtain ⟨t104, A30, H⟩ := H
  replace H : ((num_Size.f a1).bind fun t105 => ((bits_Mul64.f t104 t105).bind fun bt106 => (if ((decide (a0 < 0)) != (decide (a1 < 0))) = true then (some (bt106.1, bt106.2, ((Go.bits .or .u64 bt106.1 bt106.2) != 0))) else (some (bt106.1, bt106.2, false))))) = some (r1, r2, r3) := H
  have A3 := Aside0.mk A30
  clear A30
  replace H := Option.bind_eq_some_iff.mp H
  obtain ⟨t105, A40, H⟩ := H
  replace H : ((bits_Mul64.f t104 t105).bind fun bt106 => (if ((decide (a0 < 0)) != (decide (a1 < 0))) = true then (some (bt106.1, bt106.2, ((Go.bits .or .u64 bt106.1 bt106.2) != 0))) else (some (bt106.1, bt106.2, false)))) = some (r1, r2, r3) := H
  have A4 := Aside0.mk A40
  clear A40
  replace H := Option.bind_eq_some_iff.mp H
  obtain ⟨⟨t106, t107⟩, A50, H⟩ := H
  replace H : (if ((decide (a0 < 0)) != (decide (a1 < 0))) = true then (some (t106, t107, ((Go.bits .or .u64 t106 t107) != 0))) else (some (t106, t107, false))) = some (r1, r2, r3) := H
  have A5 := Aside0.mk A50
  clear A50
  by_cases c6 : ((decide (a0 < 0)) != (decide (a1 < 0))) = true
  · rw [if_pos c6] at H
    have c6b0 : ((decide (a0 < 0)) != (decide (a1 < 0))) = true := c6
    (try (have c6b1 : decide ((decide (a0 < 0)) = (decide (a1 < 0))) = false := by simpa using c6))
    (try (have c6b2 : ((decide (a0 < 0)) == (decide (a1 < 0))) = false := by simpa using c6))
    (try (have c6b3 : ¬ ((decide (a0 < 0)) = (decide (a1 < 0))) := by simpa using c6))
    clear c6
    simp only [Option.some.injEq, Prod.mk.injEq] at H
    obtain ⟨rfl, rfl, rfl⟩ := H
    go_enter Try.func92, Try.ntmps92
    go_wp2_with (first | ((with_reducible refine gate_dst (N := 4) rfl ?_); refine box_event ?hg (N := 4) ?hd (cs := #[.int .u64 0, .int .u64 0, .bool false]) (t := 108) ?hr ?_; (case hd => rfl); (case hg => rfl); (case hr => first | (go_simp; done) | (go_simp; rfl)); intro gb103 hg w7 hbox hb; have n0_ := Aside0.mk (below_step (by repeat (first | (with_reducible first | exact HB.out | apply below_alloc | apply pw_below_drewN | apply below_drew1) | exact HB.out)) hb); have n1_ := Aside0.mk (hbox); have n2_ := Aside0.mk ((by rw [hg]; exact (below_size (by repeat (first | (with_reducible first | exact HB.out | apply below_alloc | apply pw_below_drewN | apply below_drew1) | exact HB.out))) : w.heap.size ≤ gb103)); have n3_ := Aside0.mk ((by rw [hg]; exact (below_size (by repeat (first | (with_reducible first | exact HB.out | apply below_alloc | apply pw_below_drewN | apply below_drew1) | exact HB.out))) : w.heap.size ≤ gb103)); clear HB; have HB := n0_; have BK103 := n1_; have GW103 := n2_; have GE103 := n3_; clear n0_ n1_ n2_ n3_; clear hb hbox hg) | ((with_reducible refine gate_callee (f := 105) rfl ?_); refine goesL_ (some 9) rfl rfl Try.func105 (by kernel_rfl) rfl #[.int .i64 a0] rfl (by (try simp only [List.map_toArray, List.map_cons, List.map_nil]); first | done | rfl | (simp only [List.length_drop, List.length_take]; rfl)) ?_; (with_reducible refine (num_Size.calls a0 t104 _ A3.out).mono ?_); rintro e w' ⟨rfl, ⟨nd, rfl⟩⟩; refine ⟨_, rfl, ?_⟩; (try (rw [drewN_self w7]; generalize hq_ : World.drewN w7 _ = w7; have n0_ : Aside0 (w7.heap[gb103]? = some (.cells #[.int .u64 0, .int .u64 0, .bool false] 108 (0, 0))) := ⟨by rw [← hq_]; exact (by (with_reducible repeat (first | refine blk_drewN ?_ _ | refine blk_drew ?_ | refine blk_alloc ?_ _)); exact BK103.out)⟩; have n1_ : Aside0 (Below w.heap.size w w7) := ⟨by rw [← hq_]; exact (by repeat (first | (with_reducible first | exact HB.out | apply below_alloc | apply pw_below_drewN | apply below_drew1 | refine below_set ?_ GE103.out) | exact HB.out))⟩; clear BK103 HB hq_; have BK103 := n0_; have HB := n1_; clear n0_ n1_))) | ((with_reducible refine gate_callee (f := 105) rfl ?_); refine goesL_ (some 11) rfl rfl Try.func105 (by kernel_rfl) rfl #[.int .i64 a1] rfl (by (try simp only [List.map_toArray, List.map_cons, List.map_nil]); first | done | rfl | (simp only [List.length_drop, List.length_take]; rfl)) ?_; (with_reducible refine (num_Size.calls a1 t105 _ A4.out).mono ?_); rintro e w' ⟨rfl, ⟨nd, rfl⟩⟩; refine ⟨_, rfl, ?_⟩; (try (rw [drewN_self w7]; generalize hq_ : World.drewN w7 _ = w7; have n0_ : Aside0 (w7.heap[gb103]? = some (.cells #[.int .u64 0, .int .u64 0, .bool false] 108 (0, 0))) := ⟨by rw [← hq_]; exact (by (with_reducible repeat (first | refine blk_drewN ?_ _ | refine blk_drew ?_ | refine blk_alloc ?_ _)); exact BK103.out)⟩; have n1_ : Aside0 (Below w.heap.size w w7) := ⟨by rw [← hq_]; exact (by repeat (first | (with_reducible first | exact HB.out | apply below_alloc | apply pw_below_drewN | apply below_drew1 | refine below_set ?_ GE103.out) | exact HB.out))⟩; clear BK103 HB hq_; have BK103 := n0_; have HB := n1_; clear n0_ n1_))) | ((with_reducible refine gate_callee (f := 121) rfl ?_); refine goesL_ (some 12) rfl rfl Try.func121 (by kernel_rfl) rfl #[.int .u64 t104, .int .u64 t105] rfl (by (try simp only [List.map_toArray, List.map_cons, List.map_nil]); first | done | rfl | (simp only [List.length_drop, List.length_take]; rfl)) ?_; (with_reducible refine (bits_Mul64.calls t104 t105 t106 t107 _ A5.out).mono ?_); rintro e w' ⟨rfl, ⟨nd, rfl⟩⟩; refine ⟨_, rfl, ?_⟩; (try (rw [drewN_self w7]; generalize hq_ : World.drewN w7 _ = w7; have n0_ : Aside0 (w7.heap[gb103]? = some (.cells #[.int .u64 0, .int .u64 0, .bool false] 108 (0, 0))) := ⟨by rw [← hq_]; exact (by (with_reducible repeat (first | refine blk_drewN ?_ _ | refine blk_drew ?_ | refine blk_alloc ?_ _)); exact BK103.out)⟩; have n1_ : Aside0 (Below w.heap.size w w7) := ⟨by rw [← hq_]; exact (by repeat (first | (with_reducible first | exact HB.out | apply below_alloc | apply pw_below_drewN | apply below_drew1 | refine below_set ?_ GE103.out) | exact HB.out))⟩; clear BK103 HB hq_; have BK103 := n0_; have HB := n1_; clear n0_ n1_)); have hcz8_0 : w7.cell? ⟨gb103, 0, none⟩ = some (.int .u64 0) := (blk_cell BK103.out 0).trans rfl; have hcz8_1 : w7.cell? ⟨gb103, 1, none⟩ = some (.int .u64 0) := (blk_cell BK103.out 1).trans rfl; have hcz8_2 : w7.cell? ⟨gb103, 2, none⟩ = some (.bool false) := (blk_cell BK103.out 2).trans rfl; have hfz8_0 := blk_frozen BK103.out 0; have hfz8_1 := blk_frozen BK103.out 1; have hfz8_2 := blk_frozen BK103.out 2))
    refine bodyPost_ret (results_cell_row rfl _ _ gb103 108 #[.int .u64 t106, .int .u64 t107, .bool ((Go.bits .or .u64 t106 t107) != 0)] (0, 0) _ rfl (by (with_reducible repeat (first | refine blk_drewN ?_ _ | refine blk_drew ?_ | refine blk_alloc ?_ _)); refine blk_put (cs := #[.int .u64 t106, .int .u64 t107, .bool false]) ?_ 2 _ rfl; (with_reducible repeat (first | refine blk_drewN ?_ _ | refine blk_drew ?_ | refine blk_alloc ?_ _)); refine blk_put (cs := #[.int .u64 t106, .int .u64 0, .bool false]) ?_ 1 _ rfl; (with_reducible repeat (first | refine blk_drewN ?_ _ | refine blk_drew ?_ | refine blk_alloc ?_ _)); refine blk_put (cs := #[.int .u64 0, .int .u64 0, .bool false]) ?_ 0 _ rfl; (with_reducible repeat (first | refine blk_drewN ?_ _ | refine blk_drew ?_ | refine blk_alloc ?_ _)); exact BK103.out) Try.underlying108 rfl (by kernel_rfl)) rfl ?_
    exact ⟨by first | rfl | (simp [errW_none, errW_some] <;> rfl) | (simp [*, errW_none, errW_some] <;> rfl), by repeat (first | (with_reducible first | exact HB.out | apply below_alloc | apply pw_below_drewN | apply below_drew1 | refine below_set ?_ GE103.out) | exact HB.out)⟩
  · rw [if_neg c6] at H
    have c6b0 : ((decide (a0 < 0)) != (decide (a1 < 0))) = false := by simpa using c6
    (try (have c6b1 : decide ((decide (a0 < 0)) = (decide (a1 < 0))) = true := by simpa using c6))
    (try (have c6b2 : ((decide (a0 < 0)) == (decide (a1 < 0))) = true := by simpa using c6))
    clear c6
    simp only [Option.some.injEq, Prod.mk.injEq] at H
    obtain ⟨rfl, rfl, rfl⟩ := H
    go_enter Try.func92, Try.ntmps92
    go_wp2_with (first | ((with_reducible refine gate_dst (N := 4) rfl ?_); refine box_event ?hg (N := 4) ?hd (cs := #[.int .u64 0, .int .u64 0, .bool false]) (t := 108) ?hr ?_; (case hd => rfl); (case hg => rfl); (case hr => first | (go_simp; done) | (go_simp; rfl)); intro gb103 hg w9 hbox hb; have n0_ := Aside0.mk (below_step (by repeat (first | (with_reducible first | exact HB.out | apply below_alloc | apply pw_below_drewN | apply below_drew1) | exact HB.out)) hb); have n1_ := Aside0.mk (hbox); have n2_ := Aside0.mk ((by rw [hg]; exact (below_size (by repeat (first | (with_reducible first | exact HB.out | apply below_alloc | apply pw_below_drewN | apply below_drew1) | exact HB.out))) : w.heap.size ≤ gb103)); have n3_ := Aside0.mk ((by rw [hg]; exact (below_size (by repeat (first | (with_reducible first | exact HB.out | apply below_alloc | apply pw_below_drewN | apply below_drew1) | exact HB.out))) : w.heap.size ≤ gb103)); clear HB; have HB := n0_; have BK103 := n1_; have GW103 := n2_; have GE103 := n3_; clear n0_ n1_ n2_ n3_; clear hb hbox hg) | ((with_reducible refine gate_callee (f := 105) rfl ?_); refine goesL_ (some 9) rfl rfl Try.func105 (by kernel_rfl) rfl #[.int .i64 a0] rfl (by (try simp only [List.map_toArray, List.map_cons, List.map_nil]); first | done | rfl | (simp only [List.length_drop, List.length_take]; rfl)) ?_; (with_reducible refine (num_Size.calls a0 t104 _ A3.out).mono ?_); rintro e w' ⟨rfl, ⟨nd, rfl⟩⟩; refine ⟨_, rfl, ?_⟩; (try (rw [drewN_self w9]; generalize hq_ : World.drewN w9 _ = w9; have n0_ : Aside0 (w9.heap[gb103]? = some (.cells #[.int .u64 0, .int .u64 0, .bool false] 108 (0, 0))) := ⟨by rw [← hq_]; exact (by (with_reducible repeat (first | refine blk_drewN ?_ _ | refine blk_drew ?_ | refine blk_alloc ?_ _)); exact BK103.out)⟩; have n1_ : Aside0 (Below w.heap.size w w9) := ⟨by rw [← hq_]; exact (by repeat (first | (with_reducible first | exact HB.out | apply below_alloc | apply pw_below_drewN | apply below_drew1 | refine below_set ?_ GE103.out) | exact HB.out))⟩; clear BK103 HB hq_; have BK103 := n0_; have HB := n1_; clear n0_ n1_))) | ((with_reducible refine gate_callee (f := 105) rfl ?_); refine goesL_ (some 11) rfl rfl Try.func105 (by kernel_rfl) rfl #[.int .i64 a1] rfl (by (try simp only [List.map_toArray, List.map_cons, List.map_nil]); first | done | rfl | (simp only [List.length_drop, List.length_take]; rfl)) ?_; (with_reducible refine (num_Size.calls a1 t105 _ A4.out).mono ?_); rintro e w' ⟨rfl, ⟨nd, rfl⟩⟩; refine ⟨_, rfl, ?_⟩; (try (rw [drewN_self w9]; generalize hq_ : World.drewN w9 _ = w9; have n0_ : Aside0 (w9.heap[gb103]? = some (.cells #[.int .u64 0, .int .u64 0, .bool false] 108 (0, 0))) := ⟨by rw [← hq_]; exact (by (with_reducible repeat (first | refine blk_drewN ?_ _ | refine blk_drew ?_ | refine blk_alloc ?_ _)); exact BK103.out)⟩; have n1_ : Aside0 (Below w.heap.size w w9) := ⟨by rw [← hq_]; exact (by repeat (first | (with_reducible first | exact HB.out | apply below_alloc | apply pw_below_drewN | apply below_drew1 | refine below_set ?_ GE103.out) | exact HB.out))⟩; clear BK103 HB hq_; have BK103 := n0_; have HB := n1_; clear n0_ n1_))) | ((with_reducible refine gate_callee (f := 121) rfl ?_); refine goesL_ (some 12) rfl rfl Try.func121 (by kernel_rfl) rfl #[.int .u64 t104, .int .u64 t105] rfl (by (try simp only [List.map_toArray, List.map_cons, List.map_nil]); first | done | rfl | (simp only [List.length_drop, List.length_take]; rfl)) ?_; (with_reducible refine (bits_Mul64.calls t104 t105 t106 t107 _ A5.out).mono ?_); rintro e w' ⟨rfl, ⟨nd, rfl⟩⟩; refine ⟨_, rfl, ?_⟩; (try (rw [drewN_self w9]; generalize hq_ : World.drewN w9 _ = w9; have n0_ : Aside0 (w9.heap[gb103]? = some (.cells #[.int .u64 0, .int .u64 0, .bool false] 108 (0, 0))) := ⟨by rw [← hq_]; exact (by (with_reducible repeat (first | refine blk_drewN ?_ _ | refine blk_drew ?_ | refine blk_alloc ?_ _)); exact BK103.out)⟩; have n1_ : Aside0 (Below w.heap.size w w9) := ⟨by rw [← hq_]; exact (by repeat (first | (with_reducible first | exact HB.out | apply below_alloc | apply pw_below_drewN | apply below_drew1 | refine below_set ?_ GE103.out) | exact HB.out))⟩; clear BK103 HB hq_; have BK103 := n0_; have HB := n1_; clear n0_ n1_)); have hcz10_0 : w9.cell? ⟨gb103, 0, none⟩ = some (.int .u64 0) := (blk_cell BK103.out 0).trans rfl; have hcz10_1 : w9.cell? ⟨gb103, 1, none⟩ = some (.int .u64 0) := (blk_cell BK103.out 1).trans rfl; have hcz10_2 : w9.cell? ⟨gb103, 2, none⟩ = some (.bool false) := (blk_cell BK103.out 2).trans rfl; have hfz10_0 := blk_frozen BK103.out 0; have hfz10_1 := blk_frozen BK103.out 1; have hfz10_2 := blk_frozen BK103.out 2))
    refine bodyPost_ret (results_cell_row rfl _ _ gb103 108 #[.int .u64 t106, .int .u64 t107, .bool false] (0, 0) _ rfl (by (with_reducible repeat (first | refine blk_drewN ?_ _ | refine blk_drew ?_ | refine blk_alloc ?_ _)); refine blk_put (cs := #[.int .u64 t106, .int .u64 t107, .bool false]) ?_ 2 _ rfl; (with_reducible repeat (first | refine blk_drewN ?_ _ | refine blk_drew ?_ | refine blk_alloc ?_ _)); refine blk_put (cs := #[.int .u64 t106, .int .u64 0, .bool false]) ?_ 1 _ rfl; (with_reducible repeat (first | refine blk_drewN ?_ _ | refine blk_drew ?_ | refine blk_alloc ?_ _)); refine blk_put (cs := #[.int .u64 0, .int .u64 0, .bool false]) ?_ 0 _ rfl; (with_reducible repeat (first | refine blk_drewN ?_ _ | refine blk_drew ?_ | refine blk_alloc ?_ _)); exact BK103.out) Try.underlying108 rfl (by kernel_rfl)) rfl ?_
    exact ⟨by first | rfl | (simp [errW_none, errW_some] <;> rfl) | (simp [*, errW_none, errW_some] <;> rfl), by repeat (first | (with_reducible first | exact HB.out | apply below_alloc | apply pw_below_drewN | apply below_drew1 | refine below_set ?_ GE103.out) | exact HB.out)⟩

def num_Cmp.j0 : Nat → Int → Int → Int → Int → Bool → Option (Int × Int)
  | 0, _, _, _, _, _ => none
  | k + 1, x0, x1, x2, x3, x15 => if x15 = true then (some (0, 1)) else ((num_Product.f x0 x3).bind fun bt108 => ((num_Product.f x2 x1).bind fun bt111 => ((num_Compare.f k bt108.1 bt108.2.1 bt108.2.2 bt111.1 bt111.2.1 bt111.2.2).bind fun t114 => (some (t114, 0)))))
def num_Cmp.f (k : Nat) (a0 : Int) (a1 : Int) (a2 : Int) (a3 : Int) : Option (Int × Int) := if a1 < 1 then (num_Cmp.j0 k a0 a1 a2 a3 true) else (num_Cmp.j0 k a0 a1 a2 a3 (decide (a3 < 1)))
theorem num_Cmp.mono_l : ∀ k, (∀ y0 y1 y2 y3 y4, LeO (num_Cmp.j0 k y0 y1 y2 y3 y4) (num_Cmp.j0 (k + 1) y0 y1 y2 y3 y4))
  | 0 => fun _ _ _ _ _ r h => by simp [num_Cmp.j0] at h
  | k + 1 => by
    have ih0 := num_Cmp.mono_l k
    · intro y0 y1 y2 y3 y4
      unfold num_Cmp.j0
      repeat' first
      | (with_reducible exact ih0 _ _ _ _ _)
      | (with_reducible exact num_Compare.mono _ _ _ _ _ _ _)
      | (with_reducible exact LeO.refl _)
      | (with_reducible exact LeO.none _)
      | (with_reducible refine LeO.ite ?_ ?_)
      | (with_reducible refine LeO.bind ?_ (fun _ => ?_))
      | exact ih0 _ _ _ _ _
      | exact num_Compare.mono _ _ _ _ _ _ _
      | exact LeO.none _
      | refine LeO.ite ?_ ?_
      | refine LeO.bind ?_ (fun _ => ?_)
theorem num_Cmp.mono : ∀ a0 a1 a2 a3 k, LeO (num_Cmp.f k a0 a1 a2 a3) (num_Cmp.f (k + 1) a0 a1 a2 a3) := by
  intro a0 a1 a2 a3 k
  have ih0 := num_Cmp.mono_l k
  unfold num_Cmp.f
  repeat' first
      | (with_reducible exact ih0 _ _ _ _ _)
      | (with_reducible exact num_Compare.mono _ _ _ _ _ _ _)
      | (with_reducible exact LeO.refl _)
      | (with_reducible exact LeO.none _)
      | (with_reducible refine LeO.ite ?_ ?_)
      | (with_reducible refine LeO.bind ?_ (fun _ => ?_))
      | exact ih0 _ _ _ _ _
      | exact num_Compare.mono _ _ _ _ _ _ _
      | exact LeO.none _
      | refine LeO.ite ?_ ?_
      | refine LeO.bind ?_ (fun _ => ?_)
end Go.Proofs.Ytkbcjagkacijnaa.PNum
end
section
namespace Go.Proofs
open Go.Shelf
def Try.lays134_ren : Go.Shelf.Ren := ⟨fun | 134 => 124 | 129 => 127 | n => n, fun | 53 => 106 | 3 => 3 | 4 => 4 | 46 => 144 | 5 => 5 | 9 => 9 | n => n, fun | n => n⟩
theorem Try.lays134 : Go.Proofs.Lays.n134 Try.prog Try.lays134_ren := {
  mixed := by kernel_rfl
  f129 := Try.func127.trans (congrArg some (by kernel_rfl))
  f134 := Try.func124.trans (congrArg some (by kernel_rfl))
  t3 := Try.underlying3
  a3 := Try.isAgg3
  z3 := Try.sizeOf3
  v3 := Try.zeroValue3
  t4 := Try.underlying4
  a4 := Try.isAgg4
  z4 := Try.sizeOf4
  v4 := Try.zeroValue4
  t5 := Try.underlying5
  a5 := Try.isAgg5
  z5 := Try.sizeOf5
  v5 := Try.zeroValue5
  t9 := Try.underlying9
  a9 := Try.isAgg9
  z9 := Try.sizeOf9
  v9 := Try.zeroValue9
  t46 := Try.underlying144
  a46 := Try.isAgg144
  z46 := Try.sizeOf144
  v46 := Try.zeroValue144
  t53 := Try.underlying106
  a53 := Try.isAgg106
  z53 := Try.sizeOf106
  v53 := Try.zeroValue106 }
/-- bits.LeadingZeros64: "LeadingZeros64 returns the number of leading zero bits in x; the result is 64 for x == 0.": IT RETURNS '64 - Lib.bitLen x'; the world is as it was. ITS CALLEE bits.Len64 IS MET BY ITS OWN CONTRACT OFF THE SHELF (lay that first): entered in place it sends the kernel out of memory. (LAID: no walk: one application.) -/
theorem Try.bits_LeadingZeros64 (x : Int) (w : World) (h0 : 0 ≤ x) (h1 : x ≤ 18446744073709551615) :
    Calls Try.prog 124 #[.int .u64 x] w fun e w' => e = .returned (.int .i64 (64 - (Lib.bitLen x.toNat : Int))) ∧ w' = w := Any.bits_LeadingZeros64 Try.lays134 x w h0 h1
def Try.lays264_ren : Go.Shelf.Ren := ⟨fun | 264 => 121 | n => n, fun | 53 => 106 | 46 => 144 | n => n, fun | n => n⟩
theorem Try.lays264 : Go.Proofs.Lays.n264 Try.prog Try.lays264_ren := {
  mixed := by kernel_rfl
  f264 := Try.func121.trans (congrArg some (by kernel_rfl))
  t46 := Try.underlying144
  a46 := Try.isAgg144
  z46 := Try.sizeOf144
  v46 := Try.zeroValue144
  t53 := Try.underlying106
  a53 := Try.isAgg106
  z53 := Try.sizeOf106
  v53 := Try.zeroValue106 }
open Go.RowKit Go.Lib in
theorem Try.bits_Mul64 (x y : Nat) (hx : x < 18446744073709551616) (hy : y < 18446744073709551616) (w : World) :
    Calls Try.prog 121 #[.int .u64 x, .int .u64 y] w fun e w' => e = .returned (.tuple #[.int .u64 ((x * y / 18446744073709551616 : Nat) : Int), .int .u64 ((x * y % 18446744073709551616 : Nat) : Int)]) ∧ w' = w := Any.bits_Mul64 Try.lays264 x y hx hy w
end Go.Proofs
end
section
namespace Go.Proofs.Ytkbcjagkacijnaa.PNum
set_option linter.unusedVariables false
set_option linter.unusedSimpArgs false
open Go.RowKit Go.Proofs.YtkbcjagkacijnaaW.PrintWords Go.Proofs.YtkbcjagkacijnaaW.PrintLast Go.Proofs.YtkbcjagkacijnaaW.PrintMore

def bits_LeadingZeros64.f (a0 : Int) : Option Int :=
  if 0 ≤ a0 ∧ a0 ≤ 18446744073709551615 then some (64 - (Lib.bitLen a0.toNat : Int)) else none

end Go.Proofs.Ytkbcjagkacijnaa.PNum
end
section
-- Written for this claim by this project's own driver over the kit's print: functions and their contracts.
namespace Go.Proofs.Ytkbcjagkacijnaa.PNum
open Go.RowKit Go.Proofs.YtkbcjagkacijnaaW.PrintWords Go.Proofs.YtkbcjagkacijnaaW.PrintLast Go.Proofs.YtkbcjagkacijnaaW.PrintMore
attribute [local go_sem] max2_int min2_int max_two min_two max_three min_three max_four min_four   -- for this text's walks alone
set_option linter.unusedVariables false
set_option linter.unusedSimpArgs false

mutual
def bits_Div64.j2 : Nat → Int → Int → Int → Int → Int → Int → Int → Int → Option (Int × Int)
  | 0, _, _, _, _, _, _, _, _ => none
  | k + 1, x2, x8, x9, x10, x11, x13, x14, x15 => if x9 = 0 then (none) else (bits_Div64.l1 k x2 x8 x9 x10 x14 x15 (IntKind.u64.wrap ((IntKind.u64.wrap ((IntKind.u64.wrap ((IntKind.u64.wrap (x11 * 4294967296)) + x13)) - (IntKind.u64.wrap (x15 * x2)))) - (IntKind.u64.wrap ((IntKind.u64.wrap (Int.tdiv (IntKind.u64.wrap ((IntKind.u64.wrap ((IntKind.u64.wrap (x11 * 4294967296)) + x13)) - (IntKind.u64.wrap (x15 * x2)))) x9)) * x9)))) (IntKind.u64.wrap ((IntKind.u64.wrap ((IntKind.u64.wrap (x11 * 4294967296)) + x13)) - (IntKind.u64.wrap (x15 * x2)))) (IntKind.u64.wrap (Int.tdiv (IntKind.u64.wrap ((IntKind.u64.wrap ((IntKind.u64.wrap (x11 * 4294967296)) + x13)) - (IntKind.u64.wrap (x15 * x2)))) x9)))
def bits_Div64.l1 : Nat → Int → Int → Int → Int → Int → Int → Int → Int → Int → Option (Int × Int)
  | 0, _, _, _, _, _, _, _, _, _ => none
  | k + 1, x2, x8, x9, x10, x14, x15, x16, x17, x18 => if x18 ≥ 4294967296 then (bits_Div64.j4 k x2 x8 x9 x10 x14 x15 x16 x17 x18 true) else (bits_Div64.j4 k x2 x8 x9 x10 x14 x15 x16 x17 x18 (decide ((IntKind.u64.wrap (x18 * x10)) > (IntKind.u64.wrap ((IntKind.u64.wrap (4294967296 * x16)) + x14)))))
def bits_Div64.j4 : Nat → Int → Int → Int → Int → Int → Int → Int → Int → Int → Bool → Option (Int × Int)
  | 0, _, _, _, _, _, _, _, _, _, _ => none
  | k + 1, x2, x8, x9, x10, x14, x15, x16, x17, x18, x113 => if x113 = true then (if (IntKind.u64.wrap (x16 + x9)) ≥ 4294967296 then (if 0 ≤ x8 then (some (IntKind.u64.wrap ((IntKind.u64.wrap (x15 * 4294967296)) + (IntKind.u64.wrap (x18 - 1))), shr .u64 (IntKind.u64.wrap ((IntKind.u64.wrap ((IntKind.u64.wrap (x17 * 4294967296)) + x14)) - (IntKind.u64.wrap ((IntKind.u64.wrap (x18 - 1)) * x2)))) x8)) else (none)) else (bits_Div64.l1 k x2 x8 x9 x10 x14 x15 (IntKind.u64.wrap (x16 + x9)) x17 (IntKind.u64.wrap (x18 - 1)))) else (if 0 ≤ x8 then (some (IntKind.u64.wrap ((IntKind.u64.wrap (x15 * 4294967296)) + x18), shr .u64 (IntKind.u64.wrap ((IntKind.u64.wrap ((IntKind.u64.wrap (x17 * 4294967296)) + x14)) - (IntKind.u64.wrap (x18 * x2)))) x8)) else (none))
def bits_Div64.l0 : Nat → Int → Int → Int → Int → Int → Int → Int → Int → Int → Option (Int × Int)
  | 0, _, _, _, _, _, _, _, _, _ => none
  | k + 1, x2, x8, x9, x10, x11, x13, x14, x15, x16 => if x15 ≥ 4294967296 then (bits_Div64.j1 k x2 x8 x9 x10 x11 x13 x14 x15 x16 true) else (bits_Div64.j1 k x2 x8 x9 x10 x11 x13 x14 x15 x16 (decide ((IntKind.u64.wrap (x15 * x10)) > (IntKind.u64.wrap ((IntKind.u64.wrap (4294967296 * x16)) + x13)))))
def bits_Div64.j1 : Nat → Int → Int → Int → Int → Int → Int → Int → Int → Int → Bool → Option (Int × Int)
  | 0, _, _, _, _, _, _, _, _, _, _ => none
  | k + 1, x2, x8, x9, x10, x11, x13, x14, x15, x16, x78 => if x78 = true then (if (IntKind.u64.wrap (x16 + x9)) ≥ 4294967296 then (bits_Div64.j2 k x2 x8 x9 x10 x11 x13 x14 (IntKind.u64.wrap (x15 - 1))) else (bits_Div64.l0 k x2 x8 x9 x10 x11 x13 x14 (IntKind.u64.wrap (x15 - 1)) (IntKind.u64.wrap (x16 + x9)))) else (bits_Div64.j2 k x2 x8 x9 x10 x11 x13 x14 x15)
end
def bits_Div64.f (k : Nat) (a0 : Int) (a1 : Int) (a2 : Int) : Option (Int × Int) := if a2 = 0 then (none) else (if a2 ≤ a0 then (none) else (if a0 = 0 then (some (IntKind.u64.wrap (Int.tdiv a1 a2), Int.tmod a1 a2)) else ((bits_LeadingZeros64.f a2).bind fun t115 => (if 0 ≤ (IntKind.u64.wrap (t115)) then (if 0 ≤ (IntKind.u64.wrap (64 - (IntKind.u64.wrap (t115)))) then (if ((shl .u64 a2 (IntKind.u64.wrap (t115))) / 4294967296) = 0 then (none) else (bits_Div64.l0 k (shl .u64 a2 (IntKind.u64.wrap (t115))) (IntKind.u64.wrap (t115)) ((shl .u64 a2 (IntKind.u64.wrap (t115))) / 4294967296) (Go.bits .and .u64 (shl .u64 a2 (IntKind.u64.wrap (t115))) 4294967295) (Go.bits .or .u64 (shl .u64 a0 (IntKind.u64.wrap (t115))) (shr .u64 a1 (IntKind.u64.wrap (64 - (IntKind.u64.wrap (t115)))))) ((shl .u64 a1 (IntKind.u64.wrap (t115))) / 4294967296) (Go.bits .and .u64 (shl .u64 a1 (IntKind.u64.wrap (t115))) 4294967295) (IntKind.u64.wrap (Int.tdiv (Go.bits .or .u64 (shl .u64 a0 (IntKind.u64.wrap (t115))) (shr .u64 a1 (IntKind.u64.wrap (64 - (IntKind.u64.wrap (t115)))))) ((shl .u64 a2 (IntKind.u64.wrap (t115))) / 4294967296))) (IntKind.u64.wrap ((Go.bits .or .u64 (shl .u64 a0 (IntKind.u64.wrap (t115))) (shr .u64 a1 (IntKind.u64.wrap (64 - (IntKind.u64.wrap (t115)))))) - (IntKind.u64.wrap ((IntKind.u64.wrap (Int.tdiv (Go.bits .or .u64 (shl .u64 a0 (IntKind.u64.wrap (t115))) (shr .u64 a1 (IntKind.u64.wrap (64 - (IntKind.u64.wrap (t115)))))) ((shl .u64 a2 (IntKind.u64.wrap (t115))) / 4294967296))) * ((shl .u64 a2 (IntKind.u64.wrap (t115))) / 4294967296))))))) else (none)) else (none)))))
theorem bits_Div64.mono_l : ∀ k, (∀ y0 y1 y2 y3 y4 y5 y6 y7, LeO (bits_Div64.j2 k y0 y1 y2 y3 y4 y5 y6 y7) (bits_Div64.j2 (k + 1) y0 y1 y2 y3 y4 y5 y6 y7)) ∧ (∀ y0 y1 y2 y3 y4 y5 y6 y7 y8, LeO (bits_Div64.l1 k y0 y1 y2 y3 y4 y5 y6 y7 y8) (bits_Div64.l1 (k + 1) y0 y1 y2 y3 y4 y5 y6 y7 y8)) ∧ (∀ y0 y1 y2 y3 y4 y5 y6 y7 y8 y9, LeO (bits_Div64.j4 k y0 y1 y2 y3 y4 y5 y6 y7 y8 y9) (bits_Div64.j4 (k + 1) y0 y1 y2 y3 y4 y5 y6 y7 y8 y9)) ∧ (∀ y0 y1 y2 y3 y4 y5 y6 y7 y8, LeO (bits_Div64.l0 k y0 y1 y2 y3 y4 y5 y6 y7 y8) (bits_Div64.l0 (k + 1) y0 y1 y2 y3 y4 y5 y6 y7 y8)) ∧ (∀ y0 y1 y2 y3 y4 y5 y6 y7 y8 y9, LeO (bits_Div64.j1 k y0 y1 y2 y3 y4 y5 y6 y7 y8 y9) (bits_Div64.j1 (k + 1) y0 y1 y2 y3 y4 y5 y6 y7 y8 y9))
  | 0 => ⟨fun _ _ _ _ _ _ _ _ r h => by simp [bits_Div64.j2] at h, fun _ _ _ _ _ _ _ _ _ r h => by simp [bits_Div64.l1] at h, fun _ _ _ _ _ _ _ _ _ _ r h => by simp [bits_Div64.j4] at h, fun _ _ _ _ _ _ _ _ _ r h => by simp [bits_Div64.l0] at h, fun _ _ _ _ _ _ _ _ _ _ r h => by simp [bits_Div64.j1] at h⟩
  | k + 1 => by
    obtain ⟨ih0, ih1, ih2, ih3, ih4⟩ := bits_Div64.mono_l k
    refine ⟨?_, ?_, ?_, ?_, ?_⟩
    · intro y0 y1 y2 y3 y4 y5 y6 y7
      unfold bits_Div64.j2
      repeat' first
      | (with_reducible exact ih0 _ _ _ _ _ _ _ _)
      | (with_reducible exact ih1 _ _ _ _ _ _ _ _ _)
      | (with_reducible exact ih2 _ _ _ _ _ _ _ _ _ _)
      | (with_reducible exact ih3 _ _ _ _ _ _ _ _ _)
      | (with_reducible exact ih4 _ _ _ _ _ _ _ _ _ _)
      | (with_reducible exact LeO.refl _)
      | (with_reducible exact LeO.none _)
      | (with_reducible refine LeO.ite ?_ ?_)
      | (with_reducible refine LeO.bind ?_ (fun _ => ?_))
      | exact ih0 _ _ _ _ _ _ _ _
      | exact ih1 _ _ _ _ _ _ _ _ _
      | exact ih2 _ _ _ _ _ _ _ _ _ _
      | exact ih3 _ _ _ _ _ _ _ _ _
      | exact ih4 _ _ _ _ _ _ _ _ _ _
      | exact LeO.none _
      | refine LeO.ite ?_ ?_
      | refine LeO.bind ?_ (fun _ => ?_)
    · intro y0 y1 y2 y3 y4 y5 y6 y7 y8
      unfold bits_Div64.l1
      repeat' first
      | (with_reducible exact ih0 _ _ _ _ _ _ _ _)
      | (with_reducible exact ih1 _ _ _ _ _ _ _ _ _)
      | (with_reducible exact ih2 _ _ _ _ _ _ _ _ _ _)
      | (with_reducible exact ih3 _ _ _ _ _ _ _ _ _)
      | (with_reducible exact ih4 _ _ _ _ _ _ _ _ _ _)
      | (with_reducible exact LeO.refl _)
      | (with_reducible exact LeO.none _)
      | (with_reducible refine LeO.ite ?_ ?_)
      | (with_reducible refine LeO.bind ?_ (fun _ => ?_))
      | exact ih0 _ _ _ _ _ _ _ _
      | exact ih1 _ _ _ _ _ _ _ _ _
      | exact ih2 _ _ _ _ _ _ _ _ _ _
      | exact ih3 _ _ _ _ _ _ _ _ _
      | exact ih4 _ _ _ _ _ _ _ _ _ _
      | exact LeO.none _
      | refine LeO.ite ?_ ?_
      | refine LeO.bind ?_ (fun _ => ?_)
    · intro y0 y1 y2 y3 y4 y5 y6 y7 y8 y9
      unfold bits_Div64.j4
      repeat' first
      | (with_reducible exact ih0 _ _ _ _ _ _ _ _)
      | (with_reducible exact ih1 _ _ _ _ _ _ _ _ _)
      | (with_reducible exact ih2 _ _ _ _ _ _ _ _ _ _)
      | (with_reducible exact ih3 _ _ _ _ _ _ _ _ _)
      | (with_reducible exact ih4 _ _ _ _ _ _ _ _ _ _)
      | (with_reducible exact LeO.refl _)
      | (with_reducible exact LeO.none _)
      | (with_reducible refine LeO.ite ?_ ?_)
      | (with_reducible refine LeO.bind ?_ (fun _ => ?_))
      | exact ih0 _ _ _ _ _ _ _ _
      | exact ih1 _ _ _ _ _ _ _ _ _
      | exact ih2 _ _ _ _ _ _ _ _ _ _
      | exact ih3 _ _ _ _ _ _ _ _ _
      | exact ih4 _ _ _ _ _ _ _ _ _ _
      | exact LeO.none _
      | refine LeO.ite ?_ ?_
      | refine LeO.bind ?_ (fun _ => ?_)
    · intro y0 y1 y2 y3 y4 y5 y6 y7 y8
      unfold bits_Div64.l0
      repeat' first
      | (with_reducible exact ih0 _ _ _ _ _ _ _ _)
      | (with_reducible exact ih1 _ _ _ _ _ _ _ _ _)
      | (with_reducible exact ih2 _ _ _ _ _ _ _ _ _ _)
      | (with_reducible exact ih3 _ _ _ _ _ _ _ _ _)
      | (with_reducible exact ih4 _ _ _ _ _ _ _ _ _ _)
      | (with_reducible exact LeO.refl _)
      | (with_reducible exact LeO.none _)
      | (with_reducible refine LeO.ite ?_ ?_)
      | (with_reducible refine LeO.bind ?_ (fun _ => ?_))
      | exact ih0 _ _ _ _ _ _ _ _
      | exact ih1 _ _ _ _ _ _ _ _ _
      | exact ih2 _ _ _ _ _ _ _ _ _ _
      | exact ih3 _ _ _ _ _ _ _ _ _
      | exact ih4 _ _ _ _ _ _ _ _ _ _
      | exact LeO.none _
      | refine LeO.ite ?_ ?_
      | refine LeO.bind ?_ (fun _ => ?_)
    · intro y0 y1 y2 y3 y4 y5 y6 y7 y8 y9
      unfold bits_Div64.j1
      repeat' first
      | (with_reducible exact ih0 _ _ _ _ _ _ _ _)
      | (with_reducible exact ih1 _ _ _ _ _ _ _ _ _)
      | (with_reducible exact ih2 _ _ _ _ _ _ _ _ _ _)
      | (with_reducible exact ih3 _ _ _ _ _ _ _ _ _)
      | (with_reducible exact ih4 _ _ _ _ _ _ _ _ _ _)
      | (with_reducible exact LeO.refl _)
      | (with_reducible exact LeO.none _)
      | (with_reducible refine LeO.ite ?_ ?_)
      | (with_reducible refine LeO.bind ?_ (fun _ => ?_))
      | exact ih0 _ _ _ _ _ _ _ _
      | exact ih1 _ _ _ _ _ _ _ _ _
      | exact ih2 _ _ _ _ _ _ _ _ _ _
      | exact ih3 _ _ _ _ _ _ _ _ _
      | exact ih4 _ _ _ _ _ _ _ _ _ _
      | exact LeO.none _
      | refine LeO.ite ?_ ?_
      | refine LeO.bind ?_ (fun _ => ?_)
theorem bits_Div64.mono : ∀ a0 a1 a2 k, LeO (bits_Div64.f k a0 a1 a2) (bits_Div64.f (k + 1) a0 a1 a2) := by
  intro a0 a1 a2 k
  obtain ⟨ih0, ih1, ih2, ih3, ih4⟩ := bits_Div64.mono_l k
  unfold bits_Div64.f
  repeat' first
      | (with_reducible exact ih0 _ _ _ _ _ _ _ _)
      | (with_reducible exact ih1 _ _ _ _ _ _ _ _ _)
      | (with_reducible exact ih2 _ _ _ _ _ _ _ _ _ _)
      | (with_reducible exact ih3 _ _ _ _ _ _ _ _ _)
      | (with_reducible exact ih4 _ _ _ _ _ _ _ _ _ _)
      | (with_reducible exact LeO.refl _)
      | (with_reducible exact LeO.none _)
      | (with_reducible refine LeO.ite ?_ ?_)
      | (with_reducible refine LeO.bind ?_ (fun _ => ?_))
      | exact ih0 _ _ _ _ _ _ _ _
      | exact ih1 _ _ _ _ _ _ _ _ _
      | exact ih2 _ _ _ _ _ _ _ _ _ _
      | exact ih3 _ _ _ _ _ _ _ _ _
      | exact ih4 _ _ _ _ _ _ _ _ _ _
      | exact LeO.none _
      | refine LeO.ite ?_ ?_
      | refine LeO.bind ?_ (fun _ => ?_)
def num_signed.j0 : Nat → Int → Int → Bool → Bool → Option (Int × Int)
  | 0, _, _, _, _ => none
  | k + 1, x0, x1, x2, x16 => if x16 = true then (some (wrap64 (IntKind.u64.wrap (-x1)), 0)) else (if x0 = 0 then (if x1 > 9223372036854775807 then (some (0, 2)) else (if x2 = true then (some (0, 2)) else (some (wrap64 (x1), 0)))) else (some (0, 2)))
def num_signed.f (k : Nat) (a0 : Int) (a1 : Int) (a2 : Bool) : Option (Int × Int) := if a2 = true then (if a0 = 0 then (num_signed.j0 k a0 a1 a2 (decide (a1 ≤ 9223372036854775808))) else (num_signed.j0 k a0 a1 a2 false)) else (num_signed.j0 k a0 a1 a2 false)
theorem num_signed.mono_l : ∀ k, (∀ y0 y1 y2 y3, LeO (num_signed.j0 k y0 y1 y2 y3) (num_signed.j0 (k + 1) y0 y1 y2 y3))
  | 0 => fun _ _ _ _ r h => by simp [num_signed.j0] at h
  | k + 1 => by
    have ih0 := num_signed.mono_l k
    · intro y0 y1 y2 y3
      unfold num_signed.j0
      repeat' first
      | (with_reducible exact ih0 _ _ _ _)
      | (with_reducible exact LeO.refl _)
      | (with_reducible exact LeO.none _)
      | (with_reducible refine LeO.ite ?_ ?_)
      | (with_reducible refine LeO.bind ?_ (fun _ => ?_))
      | exact ih0 _ _ _ _
      | exact LeO.none _
      | refine LeO.ite ?_ ?_
      | refine LeO.bind ?_ (fun _ => ?_)
theorem num_signed.mono : ∀ a0 a1 a2 k, LeO (num_signed.f k a0 a1 a2) (num_signed.f (k + 1) a0 a1 a2) := by
  intro a0 a1 a2 k
  have ih0 := num_signed.mono_l k
  unfold num_signed.f
  repeat' first
      | (with_reducible exact ih0 _ _ _ _)
      | (with_reducible exact LeO.refl _)
      | (with_reducible exact LeO.none _)
      | (with_reducible refine LeO.ite ?_ ?_)
      | (with_reducible refine LeO.bind ?_ (fun _ => ?_))
      | exact ih0 _ _ _ _
      | exact LeO.none _
      | refine LeO.ite ?_ ?_
      | refine LeO.bind ?_ (fun _ => ?_)
end Go.Proofs.Ytkbcjagkacijnaa.PNum
end
