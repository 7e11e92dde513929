/- What the law AgentScripts needs of the seat's contracts and plain laws, several texts one behind the other; no conditions. -/
import Derived.Test.YtkcmmghhghgdpaaRows
import Derived.KernelRfl
import Derived.JoinedOf
import Derived.Laws.AppendOwn
import Derived.Laws.OwnMore
import Derived.Below
import Derived.RangeFuncFrom
import Derived.Deep.Draws
import Derived.RangeFuncNested
import Derived.RangeFuncBound
import Derived.RangeFuncCalls
import Derived.RangeFuncLeaves
import Derived.Shelf.Abstract
import Derived.Shelf.RegionOpen
import Derived.WalkKit
import Derived.OwnWalkIn
import Derived.TacticsInMore
import Derived.LoopNIn
import Derived.LoopIn
import Derived.Test.YtkcmmghhghgdpaaProg
import Derived.OrdersIn
import Derived.Test.YtkcmmghhghgdpaaSAgentScripts0
import Derived.Test.YtkcmmghhghgdpaaSAgentScripts7
import Derived.LoopTactic
import Derived.IntWalk
import Derived.Lib.Hide
import Derived.Deep.LoopGhost
import Derived.RangeFuncBox
import Derived.RangeFuncWrites
import Derived.Maps.AppendAt
import Derived.Lib.SliceRun
import Derived.Shelf.RegionOpenPlain
import Derived.Shelf.Spec.SlicesInsert
import Derived.Deep.RegionLaw
import Derived.Lib.AppendZerosOnto
import Derived.Lib.Overlaps
import Derived.Lib.AppendZeros
import Derived.Test.YtkcmmghhghgdpaaSAgentScripts6
import Derived.ProofKit
import Derived.Test.YtkcmmghhghgdpaaSAgentScripts8
import Derived.Deep.RegionHeld3
import Derived.Deep.AppendLies
section
namespace Go.Proofs.Ytkcmmghhghgdpaa.Facts
set_option maxRecDepth 100000
set_option linter.unusedSimpArgs false
def signs : List Char := [Char.ofNat 104, Char.ofNat 97, Char.ofNat 114, Char.ofNat 110, Char.ofNat 101, Char.ofNat 115, Char.ofNat 115, Char.ofNat 32, Char.ofNat 49, Char.ofNat 51, Char.ofNat 101, Char.ofNat 97, Char.ofNat 55, Char.ofNat 100, Char.ofNat 50, Char.ofNat 101, Char.ofNat 99, Char.ofNat 102, Char.ofNat 102, Char.ofNat 101, Char.ofNat 48, Char.ofNat 98, Char.ofNat 57, Char.ofNat 98, Char.ofNat 53, Char.ofNat 52, Char.ofNat 102, Char.ofNat 53, Char.ofNat 52, Char.ofNat 97, Char.ofNat 102, Char.ofNat 98, Char.ofNat 50, Char.ofNat 51, Char.ofNat 53, Char.ofNat 99, Char.ofNat 100, Char.ofNat 54, Char.ofNat 55, Char.ofNat 100, Char.ofNat 101, Char.ofNat 102, Char.ofNat 100, Char.ofNat 56, Char.ofNat 48, Char.ofNat 101, Char.ofNat 57, Char.ofNat 97, Char.ofNat 54, Char.ofNat 101, Char.ofNat 100, Char.ofNat 51, Char.ofNat 97, Char.ofNat 100, Char.ofNat 98, Char.ofNat 55, Char.ofNat 54, Char.ofNat 98, Char.ofNat 53, Char.ofNat 57, Char.ofNat 51, Char.ofNat 101, Char.ofNat 57, Char.ofNat 54, Char.ofNat 57, Char.ofNat 54, Char.ofNat 52, Char.ofNat 97, Char.ofNat 52, Char.ofNat 52, Char.ofNat 53, Char.ofNat 57, Char.ofNat 32, Char.ofNat 99, Char.ofNat 117, Char.ofNat 116, Char.ofNat 32, Char.ofNat 97, Char.ofNat 116, Char.ofNat 32, Char.ofNat 102, Char.ofNat 117, Char.ofNat 114, Char.ofNat 108, Char.ofNat 111, Char.ofNat 110, Char.ofNat 103, Char.ofNat 47, Char.ofNat 102, Char.ofNat 117, Char.ofNat 114, Char.ofNat 108, Char.ofNat 111, Char.ofNat 110, Char.ofNat 103, Char.ofNat 108, Char.ofNat 97, Char.ofNat 119, Char.ofNat 48, Char.ofNat 57, Char.ofNat 46, Char.ofNat 83, Char.ofNat 116, Char.ofNat 114, Char.ofNat 105, Char.ofNat 100, Char.ofNat 101, Char.ofNat 82, Char.ofNat 111, Char.ofNat 117, Char.ofNat 110, Char.ofNat 100, Char.ofNat 115, Char.ofNat 32, Char.ofNat 102, Char.ofNat 117, Char.ofNat 114, Char.ofNat 108, Char.ofNat 111, Char.ofNat 110, Char.ofNat 103, Char.ofNat 47, Char.ofNat 102, Char.ofNat 117, Char.ofNat 114, Char.ofNat 108, Char.ofNat 111, Char.ofNat 110, Char.ofNat 103, Char.ofNat 108, Char.ofNat 97, Char.ofNat 119, Char.ofNat 48, Char.ofNat 57, Char.ofNat 46, Char.ofNat 83, Char.ofNat 116, Char.ofNat 114, Char.ofNat 105, Char.ofNat 100, Char.ofNat 101, Char.ofNat 83, Char.ofNat 99, Char.ofNat 114, Char.ofNat 105, Char.ofNat 112, Char.ofNat 116, Char.ofNat 115, Char.ofNat 32, Char.ofNat 102, Char.ofNat 117, Char.ofNat 114, Char.ofNat 108, Char.ofNat 111, Char.ofNat 110, Char.ofNat 103, Char.ofNat 47, Char.ofNat 102, Char.ofNat 117, Char.ofNat 114, Char.ofNat 108, Char.ofNat 111, Char.ofNat 110, Char.ofNat 103, Char.ofNat 108, Char.ofNat 97, Char.ofNat 119, Char.ofNat 48, Char.ofNat 57, Char.ofNat 46, Char.ofNat 83, Char.ofNat 116, Char.ofNat 114, Char.ofNat 105, Char.ofNat 100, Char.ofNat 101, Char.ofNat 70, Char.ofNat 97, Char.ofNat 105, Char.ofNat 114, Char.ofNat 32, Char.ofNat 102, Char.ofNat 117, Char.ofNat 114, Char.ofNat 108, Char.ofNat 111, Char.ofNat 110, Char.ofNat 103, Char.ofNat 47, Char.ofNat 102, Char.ofNat 117, Char.ofNat 114, Char.ofNat 108, Char.ofNat 111, Char.ofNat 110, Char.ofNat 103, Char.ofNat 108, Char.ofNat 97, Char.ofNat 119, Char.ofNat 48, Char.ofNat 57, Char.ofNat 46, Char.ofNat 83, Char.ofNat 116, Char.ofNat 114, Char.ofNat 105, Char.ofNat 100, Char.ofNat 101, Char.ofNat 82, Char.ofNat 117, Char.ofNat 110, Char.ofNat 115, Char.ofNat 32, Char.ofNat 102, Char.ofNat 117, Char.ofNat 114, Char.ofNat 108, Char.ofNat 111, Char.ofNat 110, Char.ofNat 103, Char.ofNat 47, Char.ofNat 102, Char.ofNat 117, Char.ofNat 114, Char.ofNat 108, Char.ofNat 111, Char.ofNat 110, Char.ofNat 103, Char.ofNat 108, Char.ofNat 97, Char.ofNat 119, Char.ofNat 48, Char.ofNat 57, Char.ofNat 46, Char.ofNat 83, Char.ofNat 116, Char.ofNat 114, Char.ofNat 105, Char.ofNat 100, Char.ofNat 101, Char.ofNat 76, Char.ofNat 101, Char.ofNat 97, Char.ofNat 118, Char.ofNat 101, Char.ofNat 115, Char.ofNat 32, Char.ofNat 102, Char.ofNat 117, Char.ofNat 114, Char.ofNat 108, Char.ofNat 111, Char.ofNat 110, Char.ofNat 103, Char.ofNat 47, Char.ofNat 102, Char.ofNat 117, Char.ofNat 114, Char.ofNat 108, Char.ofNat 111, Char.ofNat 110, Char.ofNat 103, Char.ofNat 108, Char.ofNat 97, Char.ofNat 119, Char.ofNat 48, Char.ofNat 57, Char.ofNat 46, Char.ofNat 83, Char.ofNat 116, Char.ofNat 114, Char.ofNat 105, Char.ofNat 100, Char.ofNat 101, Char.ofNat 78, Char.ofNat 105, Char.ofNat 108, Char.ofNat 32, Char.ofNat 102, Char.ofNat 117, Char.ofNat 114, Char.ofNat 108, Char.ofNat 111, Char.ofNat 110, Char.ofNat 103, Char.ofNat 47, Char.ofNat 102, Char.ofNat 117, Char.ofNat 114, Char.ofNat 108, Char.ofNat 111, Char.ofNat 110, Char.ofNat 103, Char.ofNat 108, Char.ofNat 97, Char.ofNat 119, Char.ofNat 49, Char.ofNat 57, Char.ofNat 46, Char.ofNat 65, Char.ofNat 103, Char.ofNat 101, Char.ofNat 110, Char.ofNat 116, Char.ofNat 76, Char.ofNat 97, Char.ofNat 116, Char.ofNat 101, Char.ofNat 32, Char.ofNat 102, Char.ofNat 117, Char.ofNat 114, Char.ofNat 108, Char.ofNat 111, Char.ofNat 110, Char.ofNat 103, Char.ofNat 47, Char.ofNat 102, Char.ofNat 117, Char.ofNat 114, Char.ofNat 108, Char.ofNat 111, Char.ofNat 110, Char.ofNat 103, Char.ofNat 108, Char.ofNat 97, Char.ofNat 119, Char.ofNat 49, Char.ofNat 57, Char.ofNat 46, Char.ofNat 65, Char.ofNat 103, Char.ofNat 101, Char.ofNat 110, Char.ofNat 116, Char.ofNat 78, Char.ofNat 101, Char.ofNat 118, Char.ofNat 101, Char.ofNat 114, Char.ofNat 32, Char.ofNat 102, Char.ofNat 117, Char.ofNat 114, Char.ofNat 108, Char.ofNat 111, Char.ofNat 110, Char.ofNat 103, Char.ofNat 47, Char.ofNat 102, Char.ofNat 117, Char.ofNat 114, Char.ofNat 108, Char.ofNat 111, Char.ofNat 110, Char.ofNat 103, Char.ofNat 108, Char.ofNat 97, Char.ofNat 119, Char.ofNat 49, Char.ofNat 57, Char.ofNat 46, Char.ofNat 65, Char.ofNat 103, Char.ofNat 101, Char.ofNat 110, Char.ofNat 116, Char.ofNat 83, Char.ofNat 104, Char.ofNat 97, Char.ofNat 114, Char.ofNat 101, Char.ofNat 115, Char.ofNat 32, Char.ofNat 102, Char.ofNat 117, Char.ofNat 114, Char.ofNat 108, Char.ofNat 111, Char.ofNat 110, Char.ofNat 103, Char.ofNat 47, Char.ofNat 102, Char.ofNat 117, Char.ofNat 114, Char.ofNat 108, Char.ofNat 111, Char.ofNat 110, Char.ofNat 103, Char.ofNat 108, Char.ofNat 97, Char.ofNat 119, Char.ofNat 49, Char.ofNat 57, Char.ofNat 46, Char.ofNat 65, Char.ofNat 103, Char.ofNat 101, Char.ofNat 110, Char.ofNat 116, Char.ofNat 83, Char.ofNat 99, Char.ofNat 114, Char.ofNat 105, Char.ofNat 112, Char.ofNat 116, Char.ofNat 115, Char.ofNat 32, Char.ofNat 102, Char.ofNat 117, Char.ofNat 114, Char.ofNat 108, Char.ofNat 111, Char.ofNat 110, Char.ofNat 103, Char.ofNat 47, Char.ofNat 102, Char.ofNat 117, Char.ofNat 114, Char.ofNat 108, Char.ofNat 111, Char.ofNat 110, Char.ofNat 103, Char.ofNat 108, Char.ofNat 97, Char.ofNat 119, Char.ofNat 49, Char.ofNat 57, Char.ofNat 46, Char.ofNat 65, Char.ofNat 103, Char.ofNat 101, Char.ofNat 110, Char.ofNat 116, Char.ofNat 78, Char.ofNat 105, Char.ofNat 108]
def rest : List (List Char) := [[Char.ofNat 97, Char.ofNat 116], [Char.ofNat 102, Char.ofNat 117, Char.ofNat 114, Char.ofNat 108, Char.ofNat 111, Char.ofNat 110, Char.ofNat 103, Char.ofNat 47, Char.ofNat 102, Char.ofNat 117, Char.ofNat 114, Char.ofNat 108, Char.ofNat 111, Char.ofNat 110, Char.ofNat 103, Char.ofNat 108, Char.ofNat 97, Char.ofNat 119, Char.ofNat 48, Char.ofNat 57, Char.ofNat 46, Char.ofNat 83, Char.ofNat 116, Char.ofNat 114, Char.ofNat 105, Char.ofNat 100, Char.ofNat 101, Char.ofNat 82, Char.ofNat 111, Char.ofNat 117, Char.ofNat 110, Char.ofNat 100, Char.ofNat 115], [Char.ofNat 102, Char.ofNat 117, Char.ofNat 114, Char.ofNat 108, Char.ofNat 111, Char.ofNat 110, Char.ofNat 103, Char.ofNat 47, Char.ofNat 102, Char.ofNat 117, Char.ofNat 114, Char.ofNat 108, Char.ofNat 111, Char.ofNat 110, Char.ofNat 103, Char.ofNat 108, Char.ofNat 97, Char.ofNat 119, Char.ofNat 48, Char.ofNat 57, Char.ofNat 46, Char.ofNat 83, Char.ofNat 116, Char.ofNat 114, Char.ofNat 105, Char.ofNat 100, Char.ofNat 101, Char.ofNat 83, Char.ofNat 99, Char.ofNat 114, Char.ofNat 105, Char.ofNat 112, Char.ofNat 116, Char.ofNat 115], [Char.ofNat 102, Char.ofNat 117, Char.ofNat 114, Char.ofNat 108, Char.ofNat 111, Char.ofNat 110, Char.ofNat 103, Char.ofNat 47, Char.ofNat 102, Char.ofNat 117, Char.ofNat 114, Char.ofNat 108, Char.ofNat 111, Char.ofNat 110, Char.ofNat 103, Char.ofNat 108, Char.ofNat 97, Char.ofNat 119, Char.ofNat 48, Char.ofNat 57, Char.ofNat 46, Char.ofNat 83, Char.ofNat 116, Char.ofNat 114, Char.ofNat 105, Char.ofNat 100, Char.ofNat 101, Char.ofNat 70, Char.ofNat 97, Char.ofNat 105, Char.ofNat 114], [Char.ofNat 102, Char.ofNat 117, Char.ofNat 114, Char.ofNat 108, Char.ofNat 111, Char.ofNat 110, Char.ofNat 103, Char.ofNat 47, Char.ofNat 102, Char.ofNat 117, Char.ofNat 114, Char.ofNat 108, Char.ofNat 111, Char.ofNat 110, Char.ofNat 103, Char.ofNat 108, Char.ofNat 97, Char.ofNat 119, Char.ofNat 48, Char.ofNat 57, Char.ofNat 46, Char.ofNat 83, Char.ofNat 116, Char.ofNat 114, Char.ofNat 105, Char.ofNat 100, Char.ofNat 101, Char.ofNat 82, Char.ofNat 117, Char.ofNat 110, Char.ofNat 115], [Char.ofNat 102, Char.ofNat 117, Char.ofNat 114, Char.ofNat 108, Char.ofNat 111, Char.ofNat 110, Char.ofNat 103, Char.ofNat 47, Char.ofNat 102, Char.ofNat 117, Char.ofNat 114, Char.ofNat 108, Char.ofNat 111, Char.ofNat 110, Char.ofNat 103, Char.ofNat 108, Char.ofNat 97, Char.ofNat 119, Char.ofNat 48, Char.ofNat 57, Char.ofNat 46, Char.ofNat 83, Char.ofNat 116, Char.ofNat 114, Char.ofNat 105, Char.ofNat 100, Char.ofNat 101, Char.ofNat 76, Char.ofNat 101, Char.ofNat 97, Char.ofNat 118, Char.ofNat 101, Char.ofNat 115], [Char.ofNat 102, Char.ofNat 117, Char.ofNat 114, Char.ofNat 108, Char.ofNat 111, Char.ofNat 110, Char.ofNat 103, Char.ofNat 47, Char.ofNat 102, Char.ofNat 117, Char.ofNat 114, Char.ofNat 108, Char.ofNat 111, Char.ofNat 110, Char.ofNat 103, Char.ofNat 108, Char.ofNat 97, Char.ofNat 119, Char.ofNat 48, Char.ofNat 57, Char.ofNat 46, Char.ofNat 83, Char.ofNat 116, Char.ofNat 114, Char.ofNat 105, Char.ofNat 100, Char.ofNat 101, Char.ofNat 78, Char.ofNat 105, Char.ofNat 108], [Char.ofNat 102, Char.ofNat 117, Char.ofNat 114, Char.ofNat 108, Char.ofNat 111, Char.ofNat 110, Char.ofNat 103, Char.ofNat 47, Char.ofNat 102, Char.ofNat 117, Char.ofNat 114, Char.ofNat 108, Char.ofNat 111, Char.ofNat 110, Char.ofNat 103, Char.ofNat 108, Char.ofNat 97, Char.ofNat 119, Char.ofNat 49, Char.ofNat 57, Char.ofNat 46, Char.ofNat 65, Char.ofNat 103, Char.ofNat 101, Char.ofNat 110, Char.ofNat 116, Char.ofNat 76, Char.ofNat 97, Char.ofNat 116, Char.ofNat 101], [Char.ofNat 102, Char.ofNat 117, Char.ofNat 114, Char.ofNat 108, Char.ofNat 111, Char.ofNat 110, Char.ofNat 103, Char.ofNat 47, Char.ofNat 102, Char.ofNat 117, Char.ofNat 114, Char.ofNat 108, Char.ofNat 111, Char.ofNat 110, Char.ofNat 103, Char.ofNat 108, Char.ofNat 97, Char.ofNat 119, Char.ofNat 49, Char.ofNat 57, Char.ofNat 46, Char.ofNat 65, Char.ofNat 103, Char.ofNat 101, Char.ofNat 110, Char.ofNat 116, Char.ofNat 78, Char.ofNat 101, Char.ofNat 118, Char.ofNat 101, Char.ofNat 114], [Char.ofNat 102, Char.ofNat 117, Char.ofNat 114, Char.ofNat 108, Char.ofNat 111, Char.ofNat 110, Char.ofNat 103, Char.ofNat 47, Char.ofNat 102, Char.ofNat 117, Char.ofNat 114, Char.ofNat 108, Char.ofNat 111, Char.ofNat 110, Char.ofNat 103, Char.ofNat 108, Char.ofNat 97, Char.ofNat 119, Char.ofNat 49, Char.ofNat 57, Char.ofNat 46, Char.ofNat 65, Char.ofNat 103, Char.ofNat 101, Char.ofNat 110, Char.ofNat 116, Char.ofNat 83, Char.ofNat 104, Char.ofNat 97, Char.ofNat 114, Char.ofNat 101, Char.ofNat 115], [Char.ofNat 102, Char.ofNat 117, Char.ofNat 114, Char.ofNat 108, Char.ofNat 111, Char.ofNat 110, Char.ofNat 103, Char.ofNat 47, Char.ofNat 102, Char.ofNat 117, Char.ofNat 114, Char.ofNat 108, Char.ofNat 111, Char.ofNat 110, Char.ofNat 103, Char.ofNat 108, Char.ofNat 97, Char.ofNat 119, Char.ofNat 49, Char.ofNat 57, Char.ofNat 46, Char.ofNat 65, Char.ofNat 103, Char.ofNat 101, Char.ofNat 110, Char.ofNat 116, Char.ofNat 83, Char.ofNat 99, Char.ofNat 114, Char.ofNat 105, Char.ofNat 112, Char.ofNat 116, Char.ofNat 115], [Char.ofNat 102, Char.ofNat 117, Char.ofNat 114, Char.ofNat 108, Char.ofNat 111, Char.ofNat 110, Char.ofNat 103, Char.ofNat 47, Char.ofNat 102, Char.ofNat 117, Char.ofNat 114, Char.ofNat 108, Char.ofNat 111, Char.ofNat 110, Char.ofNat 103, Char.ofNat 108, Char.ofNat 97, Char.ofNat 119, Char.ofNat 49, Char.ofNat 57, Char.ofNat 46, Char.ofNat 65, Char.ofNat 103, Char.ofNat 101, Char.ofNat 110, Char.ofNat 116, Char.ofNat 78, Char.ofNat 105, Char.ofNat 108]]
theorem io : Try.pinned.checked.prog.initOrder = String.ofList signs := by kernel_rfl
theorem tl : Try.pinned.checked.prog.initOrder.toList = signs := by rw [io, String.toList_ofList]
theorem bw : behindMainWord (wordsSigns Try.pinned.checked.prog.initOrder.toList) = [Char.ofNat 99, Char.ofNat 117, Char.ofNat 116] :: rest := by rw [tl]; kernel_rfl
theorem make_of (P : Program) (c : List Char) (r : List (List Char)) (h : behindMainWord (wordsSigns P.initOrder.toList) = c :: r) (h1 : (c == "gc".toList || c == "spec".toList) = false) (h2 : (c == "cut".toList) = true) : P.make = some .cut := by
  unfold Program.make
  rw [h]
  simp only [h1, h2, Bool.true_or, if_true, Bool.false_eq_true, if_false]
theorem none_of (b : Prop) [Decidable b] : (if b then ([] : List String) else []).contains "finals" = false := by split <;> rfl
theorem lift_of (P : Program) (c : List Char) (r : List (List Char)) (h : behindMainWord (wordsSigns P.initOrder.toList) = c :: r) (h1 : (c == "carried".toList) = false) (h2 : stripLifts liftWords (c :: r) = ([], c :: r)) : P.liftsFinal = false := by
  unfold Program.liftsFinal Program.headLifts
  rw [h, h2]
  have e : (some c == some "carried".toList) = false := h1
  simp only [List.head?_cons, e, Bool.false_and, Bool.false_or]
  exact none_of _
theorem enter_of (P : Program) (c : List Char) (r : List (List Char)) (h : behindMainWord (wordsSigns P.initOrder.toList) = c :: r) (h1 : (c == "cut".toList) = true) (h2 : stripLifts liftWords (c :: r) = ([], c :: r))
    (hl : P.laysLater = false) (hb : P.bearsReflect = false) (hd : P.doorFits [] = true) : P.mayEnter = true := by
  unfold Program.mayEnter
  rw [h]
  have e : (some c == some "cut".toList) = true := h1
  simp only [h2, List.head?_cons, e, hl, hb, hd, List.contains_nil, Bool.not_false, Bool.or_true, Bool.and_true, Bool.true_and, Bool.or_false, Bool.false_or]
theorem strip : stripLifts liftWords ([Char.ofNat 99, Char.ofNat 117, Char.ofNat 116] :: rest) = ([], [Char.ofNat 99, Char.ofNat 117, Char.ofNat 116] :: rest) := by kernel_rfl
theorem make : Try.pinned.checked.prog.make = some .cut := make_of _ _ _ bw (by decide) (by decide)
theorem lift : Try.pinned.checked.prog.liftsFinal = false := lift_of _ _ _ bw (by decide) strip
theorem lays : Try.pinned.checked.prog.laysLater = false := by kernel_rfl
theorem bears : Try.pinned.checked.prog.bearsReflect = false := by kernel_rfl
theorem door : Try.pinned.checked.prog.doorFits [] = true := by kernel_rfl
theorem enter : Try.pinned.checked.prog.mayEnter = true := enter_of _ _ _ bw (by decide) strip lays bears door
theorem heard : Try.pinned.checked.prog.stopsHeard = true := by kernel_rfl
theorem laid : laidOutB Try.pinned.checked.prog = true := by kernel_rfl
theorem rowed : mapsRowed Try.pinned.checked.prog = true := by kernel_rfl
end Go.Proofs.Ytkcmmghhghgdpaa.Facts
end
section
namespace Go.Proofs.Ytkcmmghhghgdpaa.Str
set_option linter.unusedVariables false
set_option linter.unusedSimpArgs false
/-- A client: Id, tickets, pass. -/
structure Cl where
  id : Int
  t : Int
  p : Int
abbrev SQ : Int := 720720
/-- How far a quantum brings. -/
def sd (t : Int) : Int := SQ / t
/-- The least pass. -/
def leastP : List Cl → Int
  | [] => 0
  | [c] => c.p
  | c :: l => min c.p (leastP l)
def levelL (l : List Cl) : List Cl := l.map fun c => { c with p := c.p - leastP l }
/-- The place of the client that is least far: the first one. -/
def firstFrom (l : List Cl) : Nat → Nat → List Cl → Nat
  | best, _, [] => best
  | best, i, c :: m => firstFrom l (if c.p < (l.getD best ⟨0, 0, 0⟩).p then i else best) (i + 1) m
def firstL (l : List Cl) : Nat := firstFrom l 0 0 l
def bump (c : Cl) : Cl := { c with p := c.p + sd c.t }
def pickL (l : List Cl) : List Cl × Int := (levelL (l.modify (firstL l) bump), (l.getD (firstL l) ⟨0, 0, 0⟩).id)
/-- n quanta. -/
def runL : Nat → List Cl → List Cl × List Int
  | 0, l => (l, [])
  | n + 1, l => ((runL n (pickL l).1).1, (pickL l).2 :: (runL n (pickL l).1).2)

def okCl (c : Cl) : Prop := 1 ≤ c.t ∧ c.t ≤ 16 ∧ 0 ≤ c.p ∧ c.p ≤ sd c.t
theorem sd_mul {t : Int} (h1 : 1 ≤ t) (h2 : t ≤ 16) : sd t * t = SQ := by
  have : t = 1 ∨ t = 2 ∨ t = 3 ∨ t = 4 ∨ t = 5 ∨ t = 6 ∨ t = 7 ∨ t = 8 ∨ t = 9 ∨ t = 10 ∨ t = 11 ∨ t = 12 ∨ t = 13 ∨ t = 14 ∨ t = 15 ∨ t = 16 := by omega
  unfold sd
  rcases this with rfl | rfl | rfl | rfl | rfl | rfl | rfl | rfl | rfl | rfl | rfl | rfl | rfl | rfl | rfl | rfl <;> decide
theorem sd_pos {t : Int} (h1 : 1 ≤ t) (h2 : t ≤ 16) : 0 < sd t ∧ sd t ≤ SQ := by
  have h := sd_mul h1 h2
  have : t = 1 ∨ t = 2 ∨ t = 3 ∨ t = 4 ∨ t = 5 ∨ t = 6 ∨ t = 7 ∨ t = 8 ∨ t = 9 ∨ t = 10 ∨ t = 11 ∨ t = 12 ∨ t = 13 ∨ t = 14 ∨ t = 15 ∨ t = 16 := by omega
  unfold sd at *
  rcases this with rfl | rfl | rfl | rfl | rfl | rfl | rfl | rfl | rfl | rfl | rfl | rfl | rfl | rfl | rfl | rfl <;> decide
theorem least_le : ∀ {l : List Cl} {c : Cl}, c ∈ l → leastP l ≤ c.p
  | [], c, h => by cases h
  | [d], c, h => by
    simp at h
    subst h
    exact Int.le_refl _
  | d :: e :: l, c, h => by
    rw [leastP]
    · rcases List.mem_cons.1 h with rfl | h
      · exact Int.min_le_left _ _
      · exact Int.le_trans (Int.min_le_right _ _) (least_le h)
    · simp
theorem least_mem : ∀ {l : List Cl}, l ≠ [] → ∃ c ∈ l, c.p = leastP l
  | [], h => absurd rfl h
  | [d], _ => ⟨d, List.mem_cons_self, rfl⟩
  | d :: e :: l, _ => by
    rw [leastP]
    · obtain ⟨c, hc, he⟩ := least_mem (l := e :: l) (by simp)
      by_cases h : d.p ≤ leastP (e :: l)
      · exact ⟨d, List.mem_cons_self, by omega⟩
      · exact ⟨c, List.mem_cons_of_mem _ hc, by omega⟩
    · simp
theorem firstFrom_spec (l : List Cl) : ∀ (m : List Cl) (best i : Nat), l.drop i = m → best < l.length → (∀ c ∈ l.take i, (l.getD best ⟨0, 0, 0⟩).p ≤ c.p) →
    firstFrom l best i m < l.length ∧ ∀ c ∈ l, (l.getD (firstFrom l best i m) ⟨0, 0, 0⟩).p ≤ c.p
  | [], best, i, hd, hb, hm => by
    refine ⟨hb, fun c hc => hm c ?_⟩
    have : l.length ≤ i := by simpa using hd
    rwa [List.take_of_length_le this]
  | c :: m, best, i, hd, hb, hm => by
    have hi : i < l.length := by
      rcases Nat.lt_or_ge i l.length with h | h
      · exact h
      · rw [List.drop_of_length_le h] at hd; cases hd
    have hc : l[i] = c := by rw [List.drop_eq_getElem_cons hi] at hd; exact (List.cons.inj hd).1
    have hd' : l.drop (i + 1) = m := by rw [List.drop_eq_getElem_cons hi] at hd; exact (List.cons.inj hd).2
    rw [firstFrom]
    refine firstFrom_spec l m _ (i + 1) hd' (by split <;> omega) (fun d hdm => ?_)
    rw [List.take_succ_eq_append_getElem hi, hc] at hdm
    rcases List.mem_append.1 hdm with h | h
    · have := hm d h
      split
      · rw [show (l.getD i ⟨0, 0, 0⟩) = c by simp [hi, hc]]; omega
      · exact this
    · simp at h
      subst h
      split
      · rw [show (l.getD i ⟨0, 0, 0⟩) = d by simp [hi, hc]]; omega
      · omega
theorem firstL_spec {l : List Cl} (h : l ≠ []) : firstL l < l.length ∧ ∀ c ∈ l, (l.getD (firstL l) ⟨0, 0, 0⟩).p ≤ c.p := by
  have : 0 < l.length := by cases l with | nil => exact absurd rfl h | cons => simp
  exact firstFrom_spec l l 0 0 rfl this (fun c h => by simp at h)
/-- How often who was picked. -/
def cnt (id : Int) (x : List Int) : Int := ((x.filter fun z => z == id).length : Int)
theorem level_len (l : List Cl) : (levelL l).length = l.length := by simp [levelL]
theorem pick_len (l : List Cl) : (pickL l).1.length = l.length := by simp [pickL, level_len]
/-- A pick: Ids and tickets stay; the passes go one stride on for the one that was picked; the least is taken off all. -/
theorem pick_get {l : List Cl} (h : l ≠ []) : ∃ (b : Nat) (M : Int), b < l.length ∧ (pickL l).2 = (l.getD b ⟨0, 0, 0⟩).id ∧ (∀ c ∈ l, (l.getD b ⟨0, 0, 0⟩).p ≤ c.p) ∧
    (∀ (i : Nat) (c : Cl), l[i]? = some c → (pickL l).1[i]? = some { c with p := (if i = b then c.p + sd c.t else c.p) - M }) ∧
    (∃ c ∈ (pickL l).1, c.p = 0) ∧ (∀ c ∈ (pickL l).1, 0 ≤ c.p) := by
  obtain ⟨h1, h2⟩ := firstL_spec h
  have hne : l.modify (firstL l) bump ≠ [] := by
    intro e
    have := congrArg List.length e
    simp at this
    exact h this
  refine ⟨firstL l, leastP (l.modify (firstL l) bump), h1, rfl, h2, fun i c hc => ?_, ?_, fun c hc => ?_⟩
  · show (levelL _)[i]? = _
    unfold levelL
    rw [List.getElem?_map, List.getElem?_modify, hc]
    by_cases e : firstL l = i
    · simp only [if_pos e, if_pos e.symm]; rfl
    · simp only [if_neg e, if_neg (fun h => e (Eq.symm h))]; rfl
  · obtain ⟨c, hc, he⟩ := least_mem hne
    exact ⟨_, List.mem_map.2 ⟨c, hc, rfl⟩, by show c.p - _ = 0; omega⟩
  · obtain ⟨d, hd, rfl⟩ := List.mem_map.1 hc
    have := least_le hd
    show 0 ≤ d.p - _
    omega
theorem run_len : ∀ (n : Nat) (l : List Cl), (runL n l).1.length = l.length
  | 0, l => rfl
  | n + 1, l => by
    show (runL n (pickL l).1).1.length = _
    rw [run_len n, pick_len]
def Lev (l : List Cl) : Prop := (∀ c ∈ l, okCl c) ∧ (l ≠ [] → ∃ c ∈ l, c.p = 0) ∧ ∀ (i j : Nat) (c d : Cl), l[i]? = some c → l[j]? = some d → c.id = d.id → i = j
theorem pick_ok {l : List Cl} (h : Lev l) : Lev (pickL l).1 := by
  by_cases hn : l = []
  · subst hn; exact h
  obtain ⟨b, M, hb, _, hmin, hget, hz, hp⟩ := pick_get hn
  obtain ⟨h1, h2, h3⟩ := h
  have back : ∀ (i : Nat) (d : Cl), (pickL l).1[i]? = some d → ∃ c, l[i]? = some c ∧ d = { c with p := (if i = b then c.p + sd c.t else c.p) - M } := fun i d hd => by
    have hi : i < l.length := by rw [← pick_len]; exact (List.getElem?_eq_some_iff.1 hd).1
    have := hget i l[i] (List.getElem?_eq_getElem hi)
    rw [hd] at this
    exact ⟨l[i], List.getElem?_eq_getElem hi, Option.some.inj this⟩
  have bz : (l.getD b ⟨0, 0, 0⟩).p = 0 := by
    obtain ⟨c, hc, hc0⟩ := h2 hn
    have := hmin c hc
    have hbm : l.getD b ⟨0, 0, 0⟩ ∈ l := by rw [List.getD_eq_getElem?_getD, List.getElem?_eq_getElem hb]; exact List.getElem_mem hb
    have := (h1 _ hbm).2.2.1
    omega
  refine ⟨fun d hd => ?_, fun _ => hz, fun i j c d hc hd e => ?_⟩
  · obtain ⟨i, hi⟩ := List.getElem?_of_mem hd
    obtain ⟨c, hc, rfl⟩ := back i d hi
    obtain ⟨k1, k2, k3, k4⟩ := h1 c (List.mem_of_getElem? hc)
    have hM : 0 ≤ M := by
      obtain ⟨z, hz1, hz2⟩ := hz
      obtain ⟨j, hj⟩ := List.getElem?_of_mem hz1
      obtain ⟨c', hc', rfl⟩ := back j z hj
      obtain ⟨m1, m2, m3, m4⟩ := h1 c' (List.mem_of_getElem? hc')
      have := (sd_pos m1 m2).1
      simp only at hz2
      split at hz2 <;> omega
    refine ⟨k1, k2, hp _ hd, ?_⟩
    show (if i = b then c.p + sd c.t else c.p) - M ≤ sd c.t
    split
    · rename_i e
      subst e
      rw [List.getD_eq_getElem?_getD, hc] at bz
      simp at bz
      omega
    · omega
  · obtain ⟨c', hc', rfl⟩ := back i c hc
    obtain ⟨d', hd', rfl⟩ := back j d hd
    exact h3 i j c' d' hc' hd' e
/-- Sums over clients. -/
def sumOf (f : Cl → Int) (l : List Cl) : Int := (l.map f).sum
theorem sum_cons (f : Cl → Int) (c : Cl) (l : List Cl) : sumOf f (c :: l) = f c + sumOf f l := by simp [sumOf]
/-- Where a client stands behind n quanta. -/
def after (l : List Cl) (n : Nat) (M : Int) (c : Cl) : Int := c.p + cnt c.id (runL n l).2 * sd c.t - M
def z0 : Cl := ⟨0, 0, 0⟩
def Sorted (l : List Cl) : Prop := l.Pairwise fun c d => c.id < d.id
/-- Where a client stands, or would. -/
def lb (id : Int) (l : List Cl) : Nat := (l.takeWhile fun c => decide (c.id < id)).length
def insL (c : Cl) : List Cl → List Cl
  | [] => [c]
  | d :: l => if c.id < d.id then c :: d :: l else d :: insL c l
theorem lb_le (id : Int) : ∀ (l : List Cl), lb id l ≤ l.length
  | [] => by simp [lb]
  | c :: l => by
    unfold lb
    rw [List.takeWhile_cons]
    split
    · have := lb_le id l
      unfold lb at this
      simp; omega
    · simp
theorem lb_lt (id : Int) : ∀ (l : List Cl) (i : Nat) (c : Cl), i < lb id l → l[i]? = some c → c.id < id
  | [], i, c, h, _ => by simp [lb] at h
  | d :: l, i, c, h, hc => by
    unfold lb at h
    rw [List.takeWhile_cons] at h
    split at h
    · rename_i hd
      cases i with
      | zero => simp at hc; subst hc; simpa using hd
      | succ i => exact lb_lt id l i c (by unfold lb; simpa using h) (by simpa using hc)
    · simp at h
theorem lb_ge (id : Int) : ∀ (l : List Cl), Sorted l → ∀ (i : Nat) (c : Cl), lb id l ≤ i → l[i]? = some c → id ≤ c.id
  | [], _, i, c, _, hc => by simp at hc
  | d :: l, hs, i, c, h, hc => by
    unfold Sorted at hs
    rw [List.pairwise_cons] at hs
    unfold lb at h
    rw [List.takeWhile_cons] at h
    split at h
    · cases i with
      | zero => simp at h
      | succ i => exact lb_ge id l hs.2 i c (by unfold lb; simpa using h) (by simpa using hc)
    · rename_i hd
      have hd' : id ≤ d.id := by simpa using hd
      cases i with
      | zero => simp at hc; subst hc; exact hd'
      | succ i =>
        have := hs.1 c (List.mem_of_getElem? (by simpa using hc))
        omega
/-- Is there such a client? -/
def hasL (id : Int) (l : List Cl) : Bool := l.any fun c => c.id == id
theorem has_lb {id : Int} {l : List Cl} (hs : Sorted l) : hasL id l = (match l[lb id l]? with
    | none => false
    | some c => c.id == id) := by
  rw [Bool.eq_iff_iff]
  unfold hasL
  rw [List.any_eq_true]
  constructor
  · rintro ⟨c, hc, he⟩
    rw [beq_iff_eq] at he
    obtain ⟨i, hi⟩ := List.getElem?_of_mem hc
    have h1 : ¬ i < lb id l := fun h => by have := lb_lt id l i c h hi; omega
    have hil := (List.getElem?_eq_some_iff.1 hi).1
    have hb : l[lb id l]? = some (l[lb id l]'(by omega)) := List.getElem?_eq_getElem (by omega)
    rw [hb]
    have h2 := lb_ge id l hs _ _ (Nat.le_refl _) hb
    simp only [beq_iff_eq]
    rcases Nat.lt_or_eq_of_le (Nat.not_lt.1 h1) with h3 | h3
    · have := List.pairwise_iff_getElem.1 hs (lb id l) i (by omega) hil h3
      have e : l[i] = c := by rw [List.getElem?_eq_getElem hil] at hi; exact Option.some.inj hi
      rw [e] at this
      omega
    · have e : l[lb id l]'(by omega) = c := by
        have := hi
        rw [← h3, hb] at this
        exact Option.some.inj this
      rw [e]; exact he
  · intro h
    cases hb : l[lb id l]? with
    | none => rw [hb] at h; cases h
    | some c => rw [hb] at h; exact ⟨c, List.mem_of_getElem? hb, h⟩
theorem ins_eq (c : Cl) : ∀ (l : List Cl), hasL c.id l = false → l.take (lb c.id l) ++ c :: l.drop (lb c.id l) = insL c l
  | [], _ => by simp [lb, insL]
  | d :: l, h => by
    unfold hasL at h
    rw [List.any_cons, Bool.or_eq_false_iff] at h
    have hne : d.id ≠ c.id := by simpa using h.1
    unfold lb insL
    rw [List.takeWhile_cons]
    by_cases hd : d.id < c.id
    · rw [if_pos (by simpa using hd), if_neg (by omega)]
      have := ins_eq c l h.2
      unfold lb at this
      simpa using this
    · rw [if_neg (by simpa using hd), if_pos (by omega)]
      simp
theorem ins_mem {c x : Cl} : ∀ {l : List Cl}, x ∈ insL c l ↔ x = c ∨ x ∈ l
  | [] => by simp [insL]
  | d :: l => by
    unfold insL
    split
    · simp
    · rw [List.mem_cons, ins_mem, List.mem_cons]
      constructor
      · rintro (h | h | h)
        · exact .inr (.inl h)
        · exact .inl h
        · exact .inr (.inr h)
      · rintro (h | h | h)
        · exact .inr (.inl h)
        · exact .inl h
        · exact .inr (.inr h)
theorem ins_len (c : Cl) : ∀ (l : List Cl), (insL c l).length = l.length + 1
  | [] => rfl
  | d :: l => by
    unfold insL
    split
    · simp
    · simp [ins_len c l]
theorem ins_sorted (c : Cl) : ∀ (l : List Cl), Sorted l → hasL c.id l = false → Sorted (insL c l)
  | [], _, _ => by simp [insL, Sorted]
  | d :: l, hs, h => by
    unfold hasL at h
    rw [List.any_cons, Bool.or_eq_false_iff] at h
    have hne : d.id ≠ c.id := by simpa using h.1
    have hs' := hs
    unfold Sorted at hs
    rw [List.pairwise_cons] at hs
    unfold insL
    split
    · rename_i hlt
      unfold Sorted
      rw [List.pairwise_cons]
      refine ⟨fun x hx => ?_, hs'⟩
      rcases List.mem_cons.1 hx with rfl | hx
      · exact hlt
      · have := hs.1 x hx
        omega
    · unfold Sorted
      rw [List.pairwise_cons]
      refine ⟨fun x hx => ?_, ins_sorted c l hs.2 h.2⟩
      rcases ins_mem.1 hx with rfl | hx
      · omega
      · exact hs.1 x hx
theorem level_sorted {l : List Cl} (h : Sorted l) : Sorted (levelL l) := by
  unfold Sorted levelL
  rw [List.pairwise_map]
  exact h
theorem level_lev {l : List Cl} (h1 : ∀ c ∈ l, okCl c) (hs : Sorted l) : Lev (levelL l) := by
  refine ⟨fun c hc => ?_, fun hn => ?_, fun i j c d hc hd e => ?_⟩
  · obtain ⟨d, hd, rfl⟩ := List.mem_map.1 hc
    obtain ⟨k1, k2, k3, k4⟩ := h1 d hd
    have := least_le hd
    have hne : l ≠ [] := by intro e; rw [e] at hd; cases hd
    obtain ⟨x, hx, he⟩ := least_mem hne
    have := (h1 x hx).2.2.1
    exact ⟨k1, k2, by show 0 ≤ d.p - leastP l; omega, by show d.p - leastP l ≤ sd d.t; omega⟩
  · have hne : l ≠ [] := by intro e; rw [e] at hn; exact hn rfl
    obtain ⟨x, hx, he⟩ := least_mem hne
    exact ⟨_, List.mem_map.2 ⟨x, hx, rfl⟩, by show x.p - leastP l = 0; omega⟩
  · have hs' := List.pairwise_iff_getElem.1 (level_sorted hs)
    obtain ⟨hi, rfl⟩ := List.getElem?_eq_some_iff.1 hc
    obtain ⟨hj, rfl⟩ := List.getElem?_eq_some_iff.1 hd
    rcases Nat.lt_trichotomy i j with h | h | h
    · have := hs' i j hi hj h; omega
    · exact h
    · have := hs' j i hj hi h; omega
/-- What a group is, all the time. -/
def GoodG (l : List Cl) : Prop := Lev l ∧ Sorted l ∧ l.length ≤ 1024
theorem good_nil : GoodG [] := ⟨⟨(fun c h => by cases h), (fun h => absurd rfl h), (fun i j c d hc _ _ => by simp at hc)⟩, List.Pairwise.nil, by simp⟩
def joinL (l : List Cl) (id t rem : Int) : List Cl × Int :=
  if hasL id l = true then (l, 9) else if t < 1 ∨ 16 < t ∨ rem < 0 ∨ sd t < rem then (l, 1) else if l.length = 1024 then (l, 10) else (levelL (insL ⟨id, t, rem⟩ l), 0)
theorem join_good {l : List Cl} {id t rem : Int} (h : GoodG l) : GoodG (joinL l id t rem).1 := by
  unfold joinL
  split
  · exact h
  · rename_i h1
    split
    · exact h
    · rename_i h2
      split
      · exact h
      · rename_i h3
        have hh : hasL id l = false := by simpa using h1
        have hs := ins_sorted ⟨id, t, rem⟩ l h.2.1 hh
        refine ⟨level_lev (fun c hc => ?_) hs, level_sorted hs, ?_⟩
        · rcases ins_mem.1 hc with rfl | hc
          · exact ⟨by show 1 ≤ t; omega, by show t ≤ 16; omega, by show 0 ≤ rem; omega, by show rem ≤ sd t; omega⟩
          · exact h.1.1 c hc
        · show (levelL _).length ≤ 1024
          rw [level_len, ins_len]
          have := h.2.2
          omega
theorem pick_good {l : List Cl} (h : GoodG l) : GoodG (pickL l).1 := by
  refine ⟨pick_ok h.1, ?_, by rw [pick_len]; exact h.2.2⟩
  refine level_sorted ?_
  unfold Sorted
  rw [List.pairwise_iff_getElem]
  intro i j hi hj hij
  rw [List.length_modify] at hi hj
  have := List.pairwise_iff_getElem.1 h.2.1 i j hi hj hij
  rw [List.getElem_modify, List.getElem_modify]
  have e : ∀ c : Cl, (bump c).id = c.id := fun _ => rfl
  split <;> split <;> first | exact this | (simp only [e]; exact this)

theorem has_get {l : List Cl} {id : Int} (hs : Sorted l) (h : hasL id l = true) : ∃ c, l[lb id l]? = some c ∧ c.id = id := by
  rw [has_lb hs] at h
  cases hb : l[lb id l]? with
  | none => rw [hb] at h; cases h
  | some c => rw [hb] at h; exact ⟨c, rfl, by simpa using h⟩
/-- Two runs, one behind the other. -/
theorem run_app : ∀ (a b : Nat) (l : List Cl), runL (a + b) l = ((runL b (runL a l).1).1, (runL a l).2 ++ (runL b (runL a l).1).2)
  | 0, b, l => by rw [Nat.zero_add]; rfl
  | a + 1, b, l => by
    rw [show a + 1 + b = (a + b) + 1 by omega]
    show ((runL (a + b) (pickL l).1).1, (pickL l).2 :: (runL (a + b) (pickL l).1).2) = _
    rw [run_app a b]
    rfl

/-- The least taken off the first i. -/
def subP (m : Int) (c : Cl) : Cl := { c with p := c.p - m }
def lvl (m : Int) (i : Nat) (l : List Cl) : List Cl := (l.take i).map (subP m) ++ l.drop i
theorem lvl_zero (m : Int) (l : List Cl) : lvl m 0 l = l := by simp [lvl]
theorem lvl_all (l : List Cl) : lvl (leastP l) l.length l = levelL l := by
  unfold lvl levelL
  rw [List.take_length, List.drop_length, List.append_nil]
  rfl
theorem lvl_get {m : Int} {i : Nat} {l : List Cl} {c : Cl} (hc : l[i]? = some c) : (lvl m i l)[i]? = some c := by
  have hi := (List.getElem?_eq_some_iff.1 hc).1
  unfold lvl
  rw [List.getElem?_append_right (by simp; omega)]
  have : i - ((l.take i).map (subP m)).length = 0 := by simp; omega
  rw [this, List.getElem?_drop]
  exact hc
theorem lvl_step {m : Int} {i : Nat} {l : List Cl} {c : Cl} (hc : l[i]? = some c) : (lvl m i l).modify i (fun d => { d with p := c.p - m }) = lvl m (i + 1) l := by
  have hi := (List.getElem?_eq_some_iff.1 hc).1
  have hcl : l[i] = c := (List.getElem?_eq_some_iff.1 hc).2
  have hd : l.drop i = c :: l.drop (i + 1) := by rw [List.drop_eq_getElem_cons hi, hcl]
  have ht : l.take (i + 1) = l.take i ++ [c] := by rw [List.take_succ_eq_append_getElem hi, hcl]
  unfold lvl
  rw [hd, ht, List.map_append, List.append_assoc]
  have hl : ((l.take i).map (subP m)).length = i := by simp; omega
  rw [List.modify_eq_take_drop, List.take_left' hl, List.drop_left' hl]
  rfl
/-- The client that is least far has the least pass. -/
theorem first_least {l : List Cl} (h : l ≠ []) : ∃ c, l[firstL l]? = some c ∧ c.p = leastP l := by
  obtain ⟨h1, h2⟩ := firstL_spec h
  refine ⟨l[firstL l], List.getElem?_eq_getElem h1, ?_⟩
  obtain ⟨d, hd, he⟩ := least_mem h
  have h3 := h2 d hd
  rw [List.getD_eq_getElem?_getD, List.getElem?_eq_getElem h1] at h3
  simp only [Option.getD_some] at h3
  have h4 := least_le (List.getElem_mem h1)
  omega
/-- A step of the search for the client that is least far. -/
def fstep (l : List Cl) (best i : Nat) : Nat := if (l.getD i ⟨0, 0, 0⟩).p < (l.getD best ⟨0, 0, 0⟩).p then i else best
theorem firstFrom_drop (l : List Cl) (best i : Nat) (hi : i < l.length) : firstFrom l best i (l.drop i) = firstFrom l (fstep l best i) (i + 1) (l.drop (i + 1)) := by
  rw [List.drop_eq_getElem_cons hi, firstFrom]
  unfold fstep
  rw [show l.getD i ⟨0, 0, 0⟩ = l[i] by simp [hi]]
theorem lb_upper {id : Int} {l : List Cl} {h : Nat} {c : Cl} (hc : l[h]? = some c) (hle : id ≤ c.id) : lb id l ≤ h := by
  rcases Nat.lt_or_ge h (lb id l) with h1 | h1
  · have := lb_lt id l h c h1 hc; omega
  · exact h1
theorem lb_lower {id : Int} {l : List Cl} (hs : Sorted l) {h : Nat} {c : Cl} (hc : l[h]? = some c) (hlt : c.id < id) : h < lb id l := by
  rcases Nat.lt_or_ge h (lb id l) with h1 | h1
  · exact h1
  · have := lb_ge id l hs h c h1 hc; omega
theorem sd_nonneg {t : Int} (h1 : 1 ≤ t) (h2 : t ≤ 16) : 0 ≤ sd t ∧ sd t ≤ 720720 := by
  have := sd_pos h1 h2
  exact ⟨by omega, this.2⟩

end Go.Proofs.Ytkcmmghhghgdpaa.Str
end
section
namespace Go.Proofs.Ytkcmmghhghgdpaa.Str
set_option linter.unusedVariables false
set_option linter.unusedSimpArgs false
/-- The least pass, and m. -/
def minF (m : Int) (l : List Cl) : Int := l.foldl (fun a c => min a c.p) m
theorem minF_take (m : Int) (l : List Cl) (i : Nat) (c : Cl) (h : l[i]? = some c) : minF m (l.take (i + 1)) = min (minF m (l.take i)) c.p := by
  unfold minF
  rw [List.take_add_one, h, List.foldl_append]
  rfl
theorem minF_le : ∀ (l : List Cl) (m : Int), minF m l ≤ m ∧ ∀ c ∈ l, minF m l ≤ c.p
  | [], m => ⟨Int.le_refl _, fun c h => by cases h⟩
  | d :: l, m => by
    obtain ⟨h1, h2⟩ := minF_le l (min m d.p)
    have e : minF m (d :: l) = minF (min m d.p) l := rfl
    refine ⟨by rw [e]; omega, fun c hc => ?_⟩
    rcases List.mem_cons.1 hc with rfl | hc
    · rw [e]; omega
    · rw [e]; exact h2 c hc
theorem minF_ge : ∀ (l : List Cl) (m a : Int), a ≤ m → (∀ c ∈ l, a ≤ c.p) → a ≤ minF m l
  | [], m, a, h, _ => h
  | d :: l, m, a, h, hl => by
    have e : minF m (d :: l) = minF (min m d.p) l := rfl
    rw [e]
    exact minF_ge l _ a (by have := hl d List.mem_cons_self; omega) (fun c hc => hl c (List.mem_cons_of_mem _ hc))
end Go.Proofs.Ytkcmmghhghgdpaa.Str
end
section
namespace Go.Proofs.Ytkcmmghhghgdpaa.Str
set_option linter.unusedVariables false
set_option linter.unusedSimpArgs false
/-- Where the document finds a client. -/
def placeL (l : List Cl) (id : Int) : Int := if hasL id l = true then (lb id l : Int) else -1
theorem place_at {l : List Cl} {id : Int} {i : Nat} {c : Cl} (hs : Sorted l) (hc : l[i]? = some c) (he : c.id = id) : placeL l id = (i : Int) := by
  have hh : hasL id l = true := List.any_eq_true.2 ⟨c, List.mem_of_getElem? hc, by simp [he]⟩
  unfold placeL
  rw [if_pos hh]
  have h1 := lb_upper hc (show id ≤ c.id by omega)
  have h2 : ¬ lb id l < i := fun hlt => by
    obtain ⟨d, hd, hde⟩ := has_get hs hh
    obtain ⟨k1, e1⟩ := List.getElem?_eq_some_iff.1 hd
    obtain ⟨k2, e2⟩ := List.getElem?_eq_some_iff.1 hc
    have := (List.pairwise_iff_getElem.1 hs) _ _ k1 k2 hlt
    rw [e1, e2] at this
    omega
  omega
theorem place_none {l : List Cl} {id : Int} (h : ∀ (j : Nat) (c : Cl), l[j]? = some c → c.id ≠ id) : placeL l id = -1 := by
  unfold placeL
  rw [if_neg]
  intro hh
  obtain ⟨c, hc, he⟩ := List.any_eq_true.1 hh
  obtain ⟨j, hj⟩ := List.mem_iff_getElem?.1 hc
  exact h j c hj (by simpa using he)
/-- The document's least. -/
theorem minF_least {l : List Cl} {c : Cl} (hc : c ∈ l) : minF c.p l = leastP l := by
  obtain ⟨h1, h2⟩ := minF_le l c.p
  obtain ⟨d, hd, he⟩ := least_mem (show l ≠ [] by intro e; rw [e] at hc; cases hc)
  have h3 := minF_ge l c.p (leastP l) (least_le hc) (fun x hx => least_le hx)
  have h4 := h2 d hd
  omega
theorem level_take {l : List Cl} {i : Nat} {c : Cl} (hc : l[i]? = some c) : (levelL l).take (i + 1) = (levelL l).take i ++ [⟨c.id, c.t, c.p - leastP l⟩] := by
  rw [List.take_add_one]
  unfold levelL
  rw [List.getElem?_map, hc]
  rfl
/-- The document's Join, client by client. -/
def jst (n : Cl) (s : Bool × List Cl) (c : Cl) : Bool × List Cl := if s.1 = false ∧ n.id < c.id then (true, (s.2 ++ [n]) ++ [c]) else (s.1, s.2 ++ [c])
def jF (n : Cl) (l : List Cl) : Bool × List Cl := l.foldl (jst n) (false, [])
theorem jF_take (n : Cl) (l : List Cl) (i : Nat) (c : Cl) (hc : l[i]? = some c) : jF n (l.take (i + 1)) = jst n (jF n (l.take i)) c := by
  unfold jF
  rw [List.take_add_one, hc, List.foldl_append]
  rfl
def jEnd (n : Cl) (s : Bool × List Cl) : List Cl := if s.1 = true then s.2 else s.2 ++ [n]
theorem jst_true (n : Cl) : ∀ (l acc : List Cl), l.foldl (jst n) (true, acc) = (true, acc ++ l)
  | [], acc => by simp
  | c :: l, acc => by
    rw [List.foldl_cons, show jst n (true, acc) c = (true, acc ++ [c]) from if_neg (by simp), jst_true n l]
    simp
theorem jst_false (n : Cl) : ∀ (l acc : List Cl), jEnd n (l.foldl (jst n) (false, acc)) = acc ++ insL n l
  | [], acc => rfl
  | c :: l, acc => by
    rw [List.foldl_cons]
    by_cases h : n.id < c.id
    · rw [show jst n (false, acc) c = (true, (acc ++ [n]) ++ [c]) from if_pos ⟨rfl, h⟩, jst_true n l]
      unfold jEnd
      rw [if_pos rfl]
      unfold insL
      rw [if_pos h]
      simp
    · rw [show jst n (false, acc) c = (false, acc ++ [c]) from if_neg (by simp [h]), jst_false n l]
      conv => rhs; unfold insL
      rw [if_neg h]
      simp
theorem jF_end (n : Cl) (l : List Cl) : jEnd n (jF n l) = insL n l := by unfold jF; rw [jst_false]; simp
theorem jst_len (n : Cl) (s : Bool × List Cl) (c : Cl) : (jst n s c).2.length ≤ s.2.length + 2 := by
  unfold jst
  split <;> simp
theorem jF_len' (n : Cl) : ∀ (l : List Cl) (s : Bool × List Cl), (l.foldl (jst n) s).2.length ≤ s.2.length + 2 * l.length
  | [], s => by simp
  | c :: l, s => by
    rw [List.foldl_cons, List.length_cons]
    have h1 := jF_len' n l (jst n s c)
    have h2 := jst_len n s c
    omega
theorem jF_len (n : Cl) (l : List Cl) : (jF n l).2.length ≤ 2 * l.length := by
  have := jF_len' n l (false, [])
  simpa [jF] using this
theorem has_place {l : List Cl} {id : Int} : hasL id l = true ↔ 0 ≤ placeL l id := by
  unfold placeL
  by_cases h : hasL id l = true
  · rw [if_pos h]; simp [h]
  · rw [if_neg h]; simp [h]
end Go.Proofs.Ytkcmmghhghgdpaa.Str
end
section
namespace Go.Proofs.Ytkcmmghhghgdpaa.Str
open Go Go.RowKit
set_option linter.unusedVariables false
set_option linter.unusedSimpArgs false
/-- A client's cells. -/
def cC (c : Cl) : List Value := [.int .i64 c.id, .int .i64 c.t, .int .i64 c.p]
def flat (l : List Cl) : List Value := l.flatMap cC
theorem flat_cons (c : Cl) (l : List Cl) : flat (c :: l) = cC c ++ flat l := rfl
theorem flat_app (l m : List Cl) : flat (l ++ m) = flat l ++ flat m := by simp [flat]
theorem flat_len : ∀ (l : List Cl), (flat l).length = l.length * 3
  | [] => rfl
  | c :: l => by rw [flat_cons, List.length_append, flat_len l, List.length_cons]; simp [cC]; omega
theorem flat_get : ∀ (l : List Cl) (i j : Nat) (c : Cl), j < 3 → l[i]? = some c → (flat l)[i * 3 + j]? = (cC c)[j]?
  | [], i, j, c, _, h => by simp at h
  | d :: l, 0, j, c, hj, h => by
    simp at h
    subst h
    rw [flat_cons, Nat.zero_mul, Nat.zero_add, List.getElem?_append_left (by simpa [cC] using hj)]
  | d :: l, i + 1, j, c, hj, h => by
    rw [flat_cons, List.getElem?_append_right (by simp [cC]; omega), show (i + 1) * 3 + j - (cC d).length = i * 3 + j by simp [cC]; omega]
    exact flat_get l i j c hj (by simpa using h)
theorem flat_take : ∀ (l : List Cl) (i : Nat), (flat l).take (i * 3) = flat (l.take i)
  | [], i => by simp [flat]
  | c :: l, 0 => by simp [flat]
  | c :: l, i + 1 => by
    rw [List.take_succ_cons, flat_cons, flat_cons, List.take_append, List.take_of_length_le (by simp [cC]; omega), show (i + 1) * 3 - (cC c).length = i * 3 by simp [cC]; omega, flat_take l i]
theorem flat_drop : ∀ (l : List Cl) (i : Nat), (flat l).drop (i * 3) = flat (l.drop i)
  | [], i => by simp [flat]
  | c :: l, 0 => by simp
  | c :: l, i + 1 => by
    rw [List.drop_succ_cons, flat_cons, List.drop_append, List.drop_of_length_le (by simp [cC]; omega), show (i + 1) * 3 - (cC c).length = i * 3 by simp [cC]; omega, flat_drop l i]
    rfl
theorem set_three (a b c x : Value) (l : List Value) (j : Nat) : (a :: b :: c :: l).set (j + 3) x = a :: b :: c :: l.set j x := rfl
/-- A field written. -/
theorem flat_setP : ∀ (l : List Cl) (i : Nat) (p : Int), (flat l).set (i * 3 + 2) (.int .i64 p) = flat (l.modify i fun c => { c with p := p })
  | [], i, p => by simp [flat]
  | c :: l, 0, p => by simp [flat, cC, List.modify]
  | c :: l, i + 1, p => by
    rw [List.modify_succ_cons, flat_cons, flat_cons, ← flat_setP l i p, show (i + 1) * 3 + 2 = (i * 3 + 2) + 3 by omega]
    exact set_three _ _ _ _ _ _
theorem flat_one (l : List Cl) : ∀ u ∈ flat l, u.oneCell' = true := by
  intro u hu
  unfold flat at hu
  rw [List.mem_flatMap] at hu
  obtain ⟨c, _, hc⟩ := hu
  simp [cC] at hc
  rcases hc with rfl | rfl | rfl <;> rfl

/-- A group, at block G: its row v holds l; both lie from B on. -/
structure Grp (tG tC B G : Nat) (v : Value) (l : List Cl) (W : World) : Prop where
  blk : W.heap[G]? = some (.cells #[v] tG (0, 0))
  base : B ≤ G
  row : W.ownsRow B tC 3 v l.length (flat l)
/-- What a call of a group may change: its block and its row's. -/
structure Mt (G : Nat) (r : Option Nat) (W W' : World) : Prop where
  os : W'.os = W.os
  tape : W'.tape = W.tape
  output : W'.output = W.output
  size : W.heap.size ≤ W'.heap.size
  block : ∀ k, k < W.heap.size → k ≠ G → some k ≠ r → W'.heap[k]? = W.heap[k]?
section
variable {tG tC B G : Nat} {v : Value} {l : List Cl} {W W' : World} {r : Option Nat}
theorem Mt.refl (G : Nat) (r : Option Nat) (W : World) : Mt G r W W := ⟨rfl, rfl, rfl, Nat.le_refl _, fun _ _ _ _ => rfl⟩
theorem Mt.drew (h : Mt G r W W') : Mt G r W W'.drew := ⟨h.os, h.tape, h.output, h.size, h.block⟩
theorem Mt.drewN (h : Mt G r W W') (n : Nat) : Mt G r W (W'.drewN n) := ⟨h.os, h.tape, h.output, h.size, h.block⟩
theorem Mt.alloc (h : Mt G r W W') (o : Obj) : Mt G r W (W'.alloc o) := ⟨h.os, h.tape, h.output, Nat.le_trans h.size (by simp), fun k hk h1 h2 => (Below.heap_alloc W' o k (by have := h.size; omega)).trans (h.block k hk h1 h2)⟩
theorem Mt.setG (h : Mt G r W W') (o : Nat) (x : Value) : Mt G r W (W'.setCell ⟨G, o, none⟩ x) := ⟨h.os, h.tape, h.output, by simpa using h.size, fun k hk h1 h2 => (Below.heap_setCell W' ⟨G, o, none⟩ x k h1).trans (h.block k hk h1 h2)⟩
theorem Mt.setR {g : Nat} (h : Mt G (some g) W W') (o : Nat) (x : Value) : Mt G (some g) W (W'.setCell ⟨g, o, none⟩ x) := ⟨h.os, h.tape, h.output, by simpa using h.size, fun k hk h1 h2 => (Below.heap_setCell W' ⟨g, o, none⟩ x k (fun e => h2 (by rw [e]))).trans (h.block k hk h1 h2)⟩
theorem Mt.new (h : Mt G r W W') {b : Nat} (hb : W.heap.size ≤ b) (o : Nat) (x : Value) : Mt G r W (W'.setCell ⟨b, o, none⟩ x) := ⟨h.os, h.tape, h.output, by simpa using h.size, fun k hk h1 h2 => (Below.heap_setCell W' ⟨b, o, none⟩ x k (fun e => by simp at e; omega)).trans (h.block k hk h1 h2)⟩
/-- Two calls, one behind the other: the row may have turned to a new one. -/
theorem Mt.trans {W'' : World} {r' : Option Nat} (h : Mt G r W W') (h' : Mt G r' W' W'') (hr : r' = r ∨ ∀ k, r' = some k → W.heap.size ≤ k) : Mt G r W W'' :=
  ⟨h'.os.trans h.os, h'.tape.trans h.tape, h'.output.trans h.output, Nat.le_trans h.size h'.size, fun k hk h1 h2 =>
    (h'.block k (by have := h.size; omega) h1 (fun e => by
      rcases hr with rfl | hr
      · exact h2 e
      · have := hr k e.symm; omega)).trans (h.block k hk h1 h2)⟩
theorem Mt.of_below (h : Below W.heap.size W W') : Mt G r W W' := ⟨h.os, h.tape, h.output, h.size, fun k hk _ _ => h.block k hk⟩
theorem Mt.below {w : World} (h : Mt G r W W') (hb : Below B w W) (hB : B ≤ w.heap.size) (hG : B ≤ G) (hr : ∀ k, r = some k → B ≤ k) : Below B w W' :=
  ⟨h.os.trans hb.os, h.tape.trans hb.tape, h.output.trans hb.output, Nat.le_trans hb.size h.size, fun k hk =>
    (h.block k (by have := hb.size; omega) (by omega) (fun e => by have := hr k e.symm; omega)).trans (hb.block k hk)⟩
theorem own_move {w w' : World} {base e size n : Nat} {v : Value} {xs : List Value} (h : w.ownsRow base e size v n xs) (hk : ∀ k, v.ownBlock = some k → w'.heap[k]? = w.heap[k]?) : w'.ownsRow base e size v n xs := by
  refine ⟨h.1, ?_⟩
  rcases h.2 with hn | ⟨g, cap, cur, rfl, hb, hg, rest⟩
  · exact .inl hn
  · exact .inr ⟨g, cap, cur, rfl, hb, (hk g rfl).trans hg, rest⟩
theorem own_block {w : World} {base e size n : Nat} {v : Value} {xs : List Value} (h : w.ownsRow base e size v n xs) {k : Nat} (hk : v.ownBlock = some k) : base ≤ k ∧ k < w.heap.size ∧ ∃ cur, w.heap[k]? = some (.cells cur e (0, 0)) := by
  rcases h.2 with ⟨rfl, _⟩ | ⟨g, cap, cur, rfl, hb, hg, _⟩
  · cases hk
  · have : g = k := by simpa [Value.ownBlock] using hk
    subst this
    exact ⟨hb, (Array.getElem?_eq_some_iff.1 hg).1, cur, hg⟩
theorem Grp.lt (h : Grp tG tC B G v l W) : G < W.heap.size := (Array.getElem?_eq_some_iff.1 h.blk).1
theorem Grp.move (h : Grp tG tC B G v l W) (h1 : W'.heap[G]? = W.heap[G]?) (h2 : ∀ k, v.ownBlock = some k → W'.heap[k]? = W.heap[k]?) : Grp tG tC B G v l W' := ⟨h1.trans h.blk, h.base, own_move h.row h2⟩
/-- The group's block is not its row's. -/
theorem Grp.ne (h : Grp tG tC B G v l W) (ht : tG ≠ tC) : v.ownBlock ≠ some G := fun e => by
  obtain ⟨_, _, cur, hc⟩ := own_block h.row e
  rw [h.blk] at hc
  injection hc with hc
  injection hc with _ hc _
  exact ht hc
theorem Grp.alloc (h : Grp tG tC B G v l W) (o : Obj) : Grp tG tC B G v l (W.alloc o) :=
  h.move (Below.heap_alloc W o G h.lt) (fun k hk => Below.heap_alloc W o k (own_block h.row hk).2.1)
theorem Grp.drew (h : Grp tG tC B G v l W) : Grp tG tC B G v l W.drew := ⟨h.blk, h.base, h.row⟩
theorem Grp.drewN (h : Grp tG tC B G v l W) (n : Nat) : Grp tG tC B G v l (W.drewN n) := ⟨h.blk, h.base, h.row⟩
theorem Grp.cellG (h : Grp tG tC B G v l W) : W.cell? ⟨G, 0, none⟩ = some v := by simp [World.cell?, h.blk]
/-- The row of a group that is not empty. -/
theorem Grp.form (h : Grp tG tC B G v l W) (hn : l ≠ []) : ∃ g cap, v = .slice (some ⟨g, 0, none⟩) l.length cap ∧ l.length ≤ cap ∧ cap ≤ maxLen := by
  rcases h.row.2 with ⟨_, h0⟩ | ⟨g, cap, cur, rfl, _, _, hc, hm, _⟩
  · cases l with
    | nil => exact absurd rfl hn
    | cons => simp at h0
  · exact ⟨g, cap, rfl, hc, hm⟩
theorem Grp.len {g cap n : Nat} (h : Grp tG tC B G (.slice (some ⟨g, 0, none⟩) n cap) l W) : n = l.length := by
  rcases h.row.2 with ⟨h', _⟩ | ⟨_, _, _, h', _⟩
  · simp at h'
  · simp only [Value.slice.injEq] at h'
    exact h'.2.1
theorem Grp.cellR {g cap n : Nat} (h : Grp tG tC B G (.slice (some ⟨g, 0, none⟩) n cap) l W) {i : Nat} {c : Cl} (hc : l[i]? = some c) :
    W.cell? ⟨g, i * 3, none⟩ = some (.int .i64 c.id) ∧ W.cell? ⟨g, i * 3 + 1, none⟩ = some (.int .i64 c.t) ∧ W.cell? ⟨g, i * 3 + 2, none⟩ = some (.int .i64 c.p) := by
  obtain rfl := h.len
  have hi := (List.getElem?_eq_some_iff.1 hc).1
  refine ⟨?_, ?_, ?_⟩
  · rw [h.row.cellAt (i * 3) (by omega)]
    have := flat_get l i 0 c (by omega) hc
    simpa [cC] using this
  · rw [h.row.cellAt (i * 3 + 1) (by omega)]
    have := flat_get l i 1 c (by omega) hc
    simpa [cC] using this
  · rw [h.row.cellAt (i * 3 + 2) (by omega)]
    have := flat_get l i 2 c (by omega) hc
    simpa [cC] using this
theorem Grp.frozenR {g cap n : Nat} (h : Grp tG tC B G (.slice (some ⟨g, 0, none⟩) n cap) l W) (j : Nat) : W.frozen? ⟨g, j, none⟩ = false := by
  obtain rfl := h.len
  exact h.row.frozenAt j
/-- A pass written. -/
theorem Grp.setP {g cap n : Nat} (h : Grp tG tC B G (.slice (some ⟨g, 0, none⟩) n cap) l W) (ht : tG ≠ tC) (i : Nat) (p : Int) :
    Grp tG tC B G (.slice (some ⟨g, 0, none⟩) n cap) (l.modify i fun c => { c with p := p }) (W.setCell ⟨g, i * 3 + 2, none⟩ (.int .i64 p)) := by
  obtain rfl := h.len
  have hne : G ≠ g := fun e => h.ne ht (by rw [e]; rfl)
  refine ⟨(Below.heap_setCell W ⟨g, i * 3 + 2, none⟩ _ G hne).trans h.blk, h.base, ?_⟩
  have := (h.row.stored (i * 3 + 2) (.int .i64 p)).1
  rw [flat_setP] at this
  rw [List.length_modify]
  exact this
end
end Go.Proofs.Ytkcmmghhghgdpaa.Str
end
section
namespace Go.Proofs.Ytkcmmghhghgdpaa.Iter
open Go.RowKit Go.Shelf
set_option linter.unusedVariables false
set_option linter.unusedSimpArgs false
attribute [local go_sem] Oper.semAt_some

/-- A block of cells. -/
def Blk (W : World) (B : Nat) (t : TypeId) (cs : Array Value) : Prop := W.heap[B]? = some (.cells cs t (0, 0))
section
variable {W W' : World} {B : Nat} {t : TypeId} {cs : Array Value}
theorem Blk.lt (h : Blk W B t cs) : B < W.heap.size := (Array.getElem?_eq_some_iff.1 h).1
theorem Blk.cell (h : Blk W B t cs) (i : Nat) : W.cell? ⟨B, i, none⟩ = cs[i]? := by simp [World.cell?, show W.heap[B]? = _ from h]
theorem Blk.frozen (h : Blk W B t cs) (i : Nat) : W.frozen? ⟨B, i, none⟩ = false := by simp [World.frozen?, show W.heap[B]? = _ from h]
theorem Blk.new (W : World) (t : TypeId) (cs : Array Value) : Blk (W.alloc (.cells cs t)) W.heap.size t cs := World.alloc_heap_new W _
theorem Blk.kept {row : Option Nat} (h : Blk W B t cs) (hg : W.grownBy W' row) (hne : some B ≠ row) : Blk W' B t cs := (hg.block B h.lt hne).trans h
theorem Blk.alloc (h : Blk W B t cs) (o : Obj) : Blk (W.alloc o) B t cs := h.kept (World.grownBy_alloc W o none) (by simp)
theorem Blk.drew (h : Blk W B t cs) : Blk W.drew B t cs := h
theorem Blk.below {n : Nat} (h : Blk W B t cs) (hb : Below n W W') (hlt : B < n) : Blk W' B t cs := (hb.block B hlt).trans h
theorem Blk.set (h : Blk W B t cs) (i : Nat) (v : Value) (hi : i < cs.size) : Blk (W.setCell ⟨B, i, none⟩ v) B t (cs.setIfInBounds i v) := by
  obtain ⟨hlt, hk⟩ := Array.getElem?_eq_some_iff.1 h
  show (W.heap.modify B _)[B]? = _
  rw [Array.getElem?_eq_getElem (by rw [Array.size_modify]; exact hlt), Array.getElem_modify_self, hk]
  rfl
theorem Blk.other (h : Blk W B t cs) {a : Addr} (hne : B ≠ a.block) (u : Value) : Blk (W.setCell a u) B t cs := (Below.heap_setCell W a u B hne).trans h
theorem blk_own {β : Type} (B : Nat) (t : TypeId) (f : β → Array Value) : Own (fun s W => Blk W B t (f s)) := fun s X Y row hs hg hrow =>
  hs.kept hg (fun e' => by obtain ⟨o, ho, hc⟩ := hrow B e'.symm; rw [show X.heap[B]? = _ from hs] at ho; cases ho; cases hc)
end

/-- What a round keeps: two blocks. -/
def Two (A B : Nat) (W W' : World) : Prop := W'.heap[A]? = W.heap[A]? ∧ W'.heap[B]? = W.heap[B]?
theorem Two.t {A B : Nat} {X Y Z : World} (h : Two A B X Y) (k : Two A B Y Z) : Two A B X Z := ⟨k.1.trans h.1, k.2.trans h.2⟩
theorem Two.b {A B : Nat} {w : World} (hA : A < w.heap.size) (hB : B < w.heap.size) (W : World) (l : Nat) (o o' : Obj) (hl : w.heap.size ≤ l) (h : W.heap[l]? = some o) (_ : o.isCells = false) (_ : o.isWalk = false) : Two A B W (W.putObj l o') :=
  ⟨World.putObj_heap_other (by omega), World.putObj_heap_other (by omega)⟩

theorem Two.refl (A B : Nat) (W : World) : Two A B W W := ⟨rfl, rfl⟩
theorem Two.alloc {A B : Nat} {X W : World} (h : Two A B X W) (hA : A < W.heap.size) (hB : B < W.heap.size) (o : Obj) : Two A B X (W.alloc o) := ⟨(Below.heap_alloc W _ _ hA).trans h.1, (Below.heap_alloc W _ _ hB).trans h.2⟩
theorem Two.set {A B : Nat} {X W : World} (h : Two A B X W) {a : Addr} (hA : A ≠ a.block) (hB : B ≠ a.block) (u : Value) : Two A B X (W.setCell a u) := ⟨(Below.heap_setCell W _ _ _ hA).trans h.1, (Below.heap_setCell W _ _ _ hB).trans h.2⟩
theorem Two.below {A B n : Nat} {X Y W : World} (h : Two A B X Y) (hb : Below n Y W) (hA : A < n) (hB : B < n) : Two A B X W := ⟨(hb.block A hA).trans h.1, (hb.block B hB).trans h.2⟩
theorem Two.drew {A B : Nat} {X W : World} (h : Two A B X W) : Two A B X W.drew := h

/-- What a step of ours may turn: the cells of blocks from n on alone. -/
structure Since (n : Nat) (W W' : World) : Prop where
  others : KeepsOthers W W'
  below : Below n W W'
theorem Since.refl (n : Nat) (W : World) : Since n W W := ⟨KeepsOthers.refl W, Below.refl n W⟩
theorem Since.drew {n : Nat} {X W : World} (h : Since n X W) : Since n X W.drew := ⟨h.others.trans (KeepsOthers.drew W), h.below.drew⟩
theorem Since.call {n : Nat} {X W Y : World} (h : Since n X W) (hn : n ≤ X.heap.size) (hb : Below W.heap.size W Y) : Since n X Y :=
  ⟨h.others.trans ⟨hb.size, fun k o hk _ => (hb.block k (Array.getElem?_eq_some_iff.1 hk).1).trans hk⟩, h.below.trans (hb.mono (Nat.le_trans hn h.below.size))⟩
theorem Since.set {n : Nat} {X W : World} (h : Since n X W) (a : Addr) (ha : n ≤ a.block) (u : Value) : Since n X (W.setCell a u) := ⟨h.others.trans (KeepsOthers.setCell W a u), h.below.setCell ha u⟩

end Go.Proofs.Ytkcmmghhghgdpaa.Iter
end
section
namespace Go.Proofs.Ytkcmmghhghgdpaa.Iter
open Go.RowKit Go.Proofs.YtkcmmghhghgdpaaW.PrintLast
set_option linter.unusedVariables false

/-- Q, but for 'the memory is outgrown'. -/
def NoOut (Q : Exit → Act → World → Prop) : Exit → Act → World → Prop
  | .outgrown, _, _ => False
  | .normal, a, w => Q .normal a w
  | .ret, a, w => Q .ret a w
  | .exit id, a, w => Q (.exit id) a w
  | .goto t, a, w => Q (.goto t) a w
  | .panic c, a, w => Q (.panic c) a w
theorem noOut_normal {Q : Exit → Act → World → Prop} {a : Act} {w : World} (h : Q .normal a w) : NoOut Q .normal a w := h
theorem not_letsOut (Q : Exit → Act → World → Prop) : ¬ LetsOut (NoOut Q) := fun ⟨_, _, h⟩ => h

def noDefer (ops : Array Oper) : Bool := ops.all fun o => match o.op with
  | .defer _ => false
  | _ => true
theorem noDefer_spec {ops : Array Oper} (h : noDefer ops = true) {i : Nat} {o : Oper} (ho : ops[i]? = some o) (c : Call) : o.op ≠ .defer c := by
  intro e
  have := Array.all_eq_true_iff_forall_mem.1 h o (Array.mem_of_getElem? ho)
  simp [e] at this

section
variable {P : Program} {ops : Array Oper} {Q : Exit → Act → World → Prop} {md : Region.Mode} {l n : Nat}

theorem rows_in {row : String} {args : Array Value} {w : World} {R : Value → World → Prop} {m : Nat} (h : Rows P row args w R) : RowsIn (Fence.wide.inRound l) m P row args w R := by
  intro c cs _
  obtain ⟨v, w', r, s⟩ := h c cs
  exact ⟨v, w', r, stepsIn_wide.2 s⟩
theorem upon_in {o : Oper} {a : Act} {next : Act → World → Prop} : ∀ (r : Result Next), o.upon P a next (NoOut Q) r → o.uponIn (Fence.wide.inRound l) n P a next Q r
  | .ok (.value v) w', h => h
  | .ok .skip w', h => h
  | .ok (.defer d) w', h => h
  | .ok (.enter f args) w', h => by
    rw [Oper.uponIn_enter]
    refine ⟨fun hd => absurd hd (by simp [Fence.wide]), CallsIn.inRound l (callsIn_wide.2 (Calls.mono h (fun e w'' he => ?_)))⟩
    cases e with
    | returned v => exact he
    | panicked c => exact he
    | outgrown => exact (not_letsOut Q he).elim
  | .ok (.row row args) w', h => by
    rw [Oper.uponIn_row]
    exact ⟨fun hd => absurd hd (by simp [Fence.wide]), rows_in h⟩
  | .ok (.round _ _ _ _ _) w', h => h.elim
  | .halt x w', h => by
    cases x <;> first | exact h | exact h.elim

theorem wpOp_in {i : Nat} {K : Act → World → Prop} {a : Act} {w : World} (hd : noDefer ops = true) (h : wpOp P ops (NoOut Q) i K a w) : wpOpIn (Fence.wide.inRound l) n P ops Q i K a w := by
  unfold wpOp at h
  unfold wpOpIn
  cases ho : ops[i]? with
  | none => rw [ho] at h; exact h
  | some o =>
    simp only [ho] at h ⊢
    split
    · rename_i hw
      rw [if_pos hw] at h
      rcases h with h | ⟨_, h⟩
      · refine ⟨fun _ _ => trivial, ?_⟩
        rw [show (Fence.wide.inRound l).round = some l from rfl, Oper.semAt_eq _ _ _ (noDefer_spec hd ho)]
        exact upon_in _ h
      · exact (not_letsOut Q h).elim
    · rename_i hw
      rw [if_neg hw] at h
      exact ⟨fun _ _ => trivial, h⟩
theorem wpAny_in (hd : noDefer ops = true) : ∀ (fuel : Nat) (listed : Array Bool) (a : Act) (w : World), wpAny P md ops (NoOut Q) fuel listed a w → wpAnyIn (Fence.wide.inRound l) n P md ops Q fuel listed a w
  | 0, _, _, _, h => h
  | fuel + 1, listed, a, w, h => ⟨h.1, fun i hi => wpOpIn_mono (fun a' w' h' => wpAny_in hd fuel _ a' w' h') (wpOp_in hd (h.2 i hi))⟩
/-- A region that draws its order, in a round: by the words for regions that draw (behind it pure_, take_, one_ .. done_). -/
theorem startIn_ {S : World → Prop} {ds : List Nat} {id m : Nat} {a : Act} {w : World} (t : Array Bool) (hm : P.follows .mixedOrders = true) (hd : noDefer ops = true) (hn : ops.size = m) (hl : Array.replicate m false = t) (hS : S w.drew)
    (h : S w.drew → wpAnyLast P .any ops (NoOut Q) S ds m t a w.drew) : (Code.region id ops true).wpIn (Fence.wide.inRound l) n P Q a w := by
  subst hn
  subst hl
  exact wpIn_region_any hm (wpAny_in hd _ _ _ _ (wpAny_of_last _ _ _ _ (h hS)))
end
end Go.Proofs.Ytkcmmghhghgdpaa.Iter
end
section
namespace Go.Proofs.Ytkcmmghhghgdpaa.Iter
open Go.RowKit Go.Proofs.YtkcmmghhghgdpaaW.PrintLast
set_option linter.unusedVariables false
set_option linter.unusedSimpArgs false
section
variable {P : Program} {ops : Array Oper} {Q : Exit → Act → World → Prop}

/-- What operation i waits for. -/
def depsL (ops : Array Oper) (i : Nat) : List Nat := match ops[i]? with
  | some o => (o.after.toList.filter (Region.binds .any)).map (·.on)
  | none => []
def up (d : Nat → Bool) (i j : Nat) : Bool := Nat.beq j i || d j
/-- What is listed is closed. -/
def Cl (ops : Array Oper) (d : Nat → Bool) : Prop := ∀ i, i < ops.size → d i = true → ∀ j ∈ depsL ops i, d j = true
/-- One operation, from whatever state in which what it waits for has come up. -/
def StepAt (P : Program) (ops : Array Oper) (Q : Exit → Act → World → Prop) (Inv : (Nat → Bool) → Act → World → Prop) (i : Nat) : Prop :=
  ∀ o, ops[i]? = some o → ∀ d a w, Cl ops d → d i = false → (∀ j ∈ depsL ops i, d j = true) → Inv d a w →
    ∀ K : Act → World → Prop, Shut (∀ a' w', Inv (up d i) a' w' → K a' w') → if Region.wanted o (yielded ops a.tmps) = true then Oper.wp P o a w K Q else K (a.put o.dst undef) w
def Steps (P : Program) (ops : Array Oper) (Q : Exit → Act → World → Prop) (Inv : (Nat → Bool) → Act → World → Prop) (n : Nat) : Prop := ∀ i, i < n → StepAt P ops Q Inv i
theorem Steps.zero {Inv : (Nat → Bool) → Act → World → Prop} : Steps P ops Q Inv 0 := fun i h => absurd h (Nat.not_lt_zero i)
theorem Steps.succ {Inv : (Nat → Bool) → Act → World → Prop} {n : Nat} (h : Steps P ops Q Inv n) (hn : StepAt P ops Q Inv n) : Steps P ops Q Inv (n + 1) := fun i hi => by
  rcases Nat.lt_succ_iff_lt_or_eq.1 hi with h1 | rfl
  · exact h i h1
  · exact hn
end
section
/-- What is put in at i. -/
def upd (z : Nat → Value) (i : Nat) (v : Value) (k : Nat) : Value := cond (Nat.beq k i) v (z k)
theorem upd_self (z : Nat → Value) (i : Nat) (v : Value) : upd z i v i = v := by
  have : Nat.beq i i = true := by simp
  simp [upd, this]
theorem upd_ne {z : Nat → Value} {i k : Nat} (h : Nat.beq k i = false) (v : Value) : upd z i v k = z k := by simp [upd, h]
theorem beq_false {k i : Nat} (h : ¬ k = i) : Nat.beq k i = false := by
  cases hb : Nat.beq k i with
  | false => rfl
  | true => exact absurd (Nat.eq_of_beq_eq_true hb) h
/-- What has come up holds what is told. -/
def Vals (vals : List (Option Value)) (d : Nat → Bool) (z : Nat → Value) : Prop := ∀ i v, vals[i]? = some (some v) → d i = true → z i = v
theorem Vals.put {vals : List (Option Value)} {d : Nat → Bool} {z : Nat → Value} {i : Nat} {v : Value} (h : Vals vals d z) (hi : ∀ u, vals[i]? = some (some u) → v = u) : Vals vals (up d i) (upd z i v) := by
  intro k u hk hd
  by_cases hki : k = i
  · subst hki
    rw [upd_self]
    exact hi u hk
  · rw [upd_ne (beq_false hki)]
    refine h k u hk ?_
    rw [up, beq_false hki, Bool.false_or] at hd
    exact hd
theorem Vals.skip {vals : List (Option Value)} {d : Nat → Bool} {z : Nat → Value} {i : Nat} (h : Vals vals d z) (hi : vals[i]? = some none) : Vals vals (up d i) z := by
  intro k u hk hd
  by_cases hki : k = i
  · subst hki
    rw [hi] at hk
    cases hk
  · refine h k u hk ?_
    rw [up, beq_false hki, Bool.false_or] at hd
    exact hd
theorem Vals.start {vals : List (Option Value)} {d : Nat → Bool} {z : Nat → Value} {n : Nat} (hl : vals.length ≤ n) (h : ∀ i, i < n → d i = false) : Vals vals d z := by
  intro k u hk hd
  have := (List.getElem?_eq_some_iff.1 hk).1
  rw [h k (by omega)] at hd
  cases hd
/-- Operation i has made a block; operation s writes it. -/
def New (d : Nat → Bool) (z : Nat → Value) (w : World) (lo i s : Nat) (v : Nat → Value) (t : TypeId) (cs : Bool → Array Value) : Prop := d i = true → ∃ g, z i = v g ∧ lo ≤ g ∧ Blk w g t (cs (d s))
variable {d : Nat → Bool} {z : Nat → Value} {w w' : World} {lo i s k : Nat} {v : Nat → Value} {t : TypeId} {cs : Bool → Array Value}
theorem New.start {n : Nat} (hi : i < n) (h : ∀ i, i < n → d i = false) : New d z w lo i s v t cs := fun hd => by
  rw [h i hi] at hd
  cases hd
theorem up_ne {d : Nat → Bool} {i k : Nat} (h : Nat.beq k i = false) : up d i k = d k := by rw [up, h, Bool.false_or]
theorem New.put (h : New d z w lo i s v t cs) (hk : (Nat.beq i k || Nat.beq s k) = false) (hb : Below w.heap.size w w') (u : Value) : New (up d k) (upd z k u) w' lo i s v t cs := fun hd => by
  rw [Bool.or_eq_false_iff] at hk
  rw [up_ne hk.1] at hd
  obtain ⟨g, h1, h2, h3⟩ := h hd
  exact ⟨g, by rw [upd_ne hk.1]; exact h1, h2, by rw [up_ne hk.2]; exact h3.below hb h3.lt⟩
theorem New.skip (h : New d z w lo i s v t cs) (hk : (Nat.beq i k || Nat.beq s k) = false) {p : Addr} {u : Value} (hp : ∀ g, z i = v g → lo ≤ g → d i = true → g ≠ p.block) : New (up d k) z (w.setCell p u) lo i s v t cs := fun hd => by
  rw [Bool.or_eq_false_iff] at hk
  rw [up_ne hk.1] at hd
  obtain ⟨g, h1, h2, h3⟩ := h hd
  exact ⟨g, h1, h2, by rw [up_ne hk.2]; exact h3.other (hp g h1 h2 hd) u⟩
theorem New.mk {g : Nat} (hg : lo ≤ g) (hb : Blk w g t (cs (up d i s))) : New (up d i) (upd z i (v g)) w lo i s v t cs := fun _ => ⟨g, upd_self _ _ _, hg, hb⟩
end
end Go.Proofs.Ytkcmmghhghgdpaa.Iter
end
section
namespace Go.Proofs.Ytkcmmghhghgdpaa.Str
open Go.RowKit Go.Shelf Go.Maps Go.Proofs.Ytkcmmghhghgdpaa.Iter Go.Proofs.YtkcmmghhghgdpaaW.PrintWords Go.Proofs.YtkcmmghhghgdpaaW.PrintLast
set_option linter.unusedVariables false
set_option linter.unusedSimpArgs false
abbrev tG : Nat := 100
abbrev tC : Nat := 44
abbrev ptrG (G : Nat) : Value := .pointer (some ⟨G, 0, none⟩)
abbrev encC (c : Cl) : Value := .agg #[.int .i64 c.id, .int .i64 c.t, .int .i64 c.p]
theorem grp_below {B G : Nat} {v : Value} {l : List Cl} {W W' : World} (h : Grp tG tC B G v l W) (hb : Below W.heap.size W W') : Grp tG tC B G v l W' :=
  h.move (hb.block G h.lt) (fun k hk => hb.block k (own_block h.row hk).2.1)

set_option maxRecDepth 100000 in
set_option maxHeartbeats 4000000 in
theorem stride_calls (c : Cl) (W : World) (h1 : 1 ≤ c.t) (h2 : c.t ≤ 16) : Calls Try.prog 79 #[encC c] W fun e W' => e = .returned (.int .i64 (sd c.t)) ∧ W' = W.alloc (.cells #[.int .i64 c.id, .int .i64 c.t, .int .i64 c.p] 44) := by
  have hq : Int.tdiv 720720 c.t = sd c.t := by unfold sd; exact Int.tdiv_eq_ediv_of_nonneg (by omega)
  have hne : (c.t == 0) = false := beq_eq_false_iff_ne.mpr (by omega)
  have hw : IntKind.i64.wrap (sd c.t) = sd c.t := IntWalk.i64_in _ (by have := sd_nonneg h1 h2; omega)
  have h0 : ¬ c.t = 0 := by omega
  go_enter Try.func79, Try.ntmps79
  go_wp2
  go_ret
  exact ⟨rfl, rfl⟩

set_option maxRecDepth 100000 in
set_option maxHeartbeats 4000000 in
theorem first_calls (B G g cap : Nat) (l : List Cl) (W : World) (hn : l ≠ []) (hlen : l.length ≤ 1024) (hg : Grp tG tC B G (.slice (some ⟨g, 0, none⟩) l.length cap) l W) :
    Calls Try.prog 77 #[ptrG G] W fun e W' => e = .returned (.int .i64 (firstL l : Int)) ∧ Below W.heap.size W W' := by
  have hpos : 0 < l.length := by cases l with | nil => exact absurd rfl hn | cons => simp
  have g0 := hg.cellG
  have hg' := Lib.hid hg
  clear hg
  go_enter Try.func77, Try.ntmps77
  go_wp2
  go_loopw [3, 11] (fun bv iv wr => ∃ (best i : Nat), bv = .int .i64 (best : Int) ∧ iv = .int .i64 (i : Int) ∧ i ≤ l.length ∧ best < l.length ∧ firstL l = firstFrom l best i (l.drop i) ∧ Below W.heap.size W wr)
    (fun _ iv _ => l.length - (intOf iv).toNat)
  case atStart => exact ⟨0, 0, rfl, rfl, Nat.zero_le _, hpos, rfl, Below.refl _ _⟩
  case round =>
    obtain ⟨best, i, rfl, rfl, hi, hb, hF, hbel⟩ := hrel
    clear g0
    have hF' := Lib.hid hF
    have hbel' := Lib.hid hbel
    clear hF hbel
    by_cases hlt : i < l.length
    · obtain ⟨c, hc⟩ : ∃ c, l[i]? = some c := ⟨l[i], List.getElem?_eq_getElem hlt⟩
      obtain ⟨d, hd⟩ : ∃ d, l[best]? = some d := ⟨l[best], List.getElem?_eq_getElem hb⟩
      have hgr := grp_below hg'.out hbel'.out
      obtain ⟨q0, q1, q2⟩ := hgr.cellR hc
      have hga := hgr.alloc (.cells #[.int .i64 c.id, .int .i64 c.t, .int .i64 c.p] 44)
      have z0 := hga.cellG
      obtain ⟨_, _, z2⟩ := hga.cellR hd
      have bC := Blk.new wr 44 #[.int .i64 c.id, .int .i64 c.t, .int .i64 c.p]
      have c2 := bC.cell 2
      simp only [List.getElem?_toArray, List.getElem?_cons_zero, List.getElem?_cons_succ] at c2
      have hst : firstL l = firstFrom l (if c.p < d.p then i else best) (i + 1) (l.drop (i + 1)) := by
        rw [hF'.out, firstFrom_drop l best i hlt]
        unfold fstep
        rw [show l.getD i ⟨0, 0, 0⟩ = c by simp [hc], show l.getD best ⟨0, 0, 0⟩ = d by simp [hd]]
      have hst' := Lib.hid hst
      have hL := Lib.hid (hbel'.out.alloc hbel'.out.size (.cells #[.int .i64 c.id, .int .i64 c.t, .int .i64 c.p] 44))
      clear hst hgr hga bC hc hd
      by_cases hp : c.p < d.p
      · have x1 : decide (c.p < d.p) = true := decide_eq_true hp
        go_wp2
        go_quiet (fail)
        go_wp2
        go_roundw
        case rel => exact ⟨i, i + 1, by first | rfl | go_num, by go_num, by omega, by omega, by rw [hst'.out, if_pos hp], by first | exact hL.out | exact hL.out.drew | exact pw_below_drewN hL.out _⟩
        case measure => simp [intOf]; omega
      · have x1 : decide (c.p < d.p) = false := decide_eq_false hp
        go_wp2
        go_quiet (fail)
        go_wp2
        go_roundw
        case rel => exact ⟨best, i + 1, by first | rfl | go_num, by go_num, by omega, by omega, by rw [hst'.out, if_neg (by omega)], by first | exact hL.out | exact hL.out.drew | exact pw_below_drewN hL.out _⟩
        case measure => simp [intOf]; omega
    · have hi' : i = l.length := by omega
      subst hi'
      have hf : firstL l = best := by rw [hF'.out, List.drop_of_length_le (Nat.le_refl _)]; rfl
      have hf' := Lib.hid hf
      clear hf
      go_wp2
      go_ret
      exact ⟨by rw [hf'.out]; rfl, hbel'.out⟩
end Go.Proofs.Ytkcmmghhghgdpaa.Str
end
section
namespace Go.Proofs.Ytkcmmghhghgdpaa.Str
open Go.RowKit Go.Shelf Go.Maps Go.Proofs.Ytkcmmghhghgdpaa.Iter Go.Proofs.YtkcmmghhghgdpaaW.PrintWords Go.Proofs.YtkcmmghhghgdpaaW.PrintLast
set_option linter.unusedVariables false
set_option linter.unusedSimpArgs false
theorem tGC : tG ≠ tC := by decide
set_option maxRecDepth 100000 in
set_option maxHeartbeats 4000000 in
theorem level_calls (B G : Nat) (v : Value) (l : List Cl) (W : World) (hlen : l.length ≤ 1024) (hp : ∀ c ∈ l, 0 ≤ c.p ∧ c.p ≤ 1500000) (hg : Grp tG tC B G v l W) :
    Calls Try.prog 46 #[ptrG G] W fun e W' => (∃ x, e = .returned x) ∧ Grp tG tC B G v (levelL l) W' ∧ Mt G v.ownBlock W W' := by
  by_cases hn : l = []
  · subst hn
    have g0 := hg.cellG
    have hvl : ∃ A c, v = .slice A 0 c := by
      rcases hg.row.2 with ⟨rfl, _⟩ | ⟨g, cap, cur, rfl, _⟩
      · exact ⟨_, _, rfl⟩
      · exact ⟨_, _, rfl⟩
    obtain ⟨A, c, rfl⟩ := hvl
    have hg' := Lib.hid hg
    clear hg
    go_enter Try.func46, Try.ntmps46
    go_wp2
    refine bodyPost_ret (results_none rfl _ _ _) rfl ?_
    exact ⟨⟨_, rfl⟩, hg'.out, Mt.refl _ _ _⟩
  · obtain ⟨g, cap, rfl, hc1, hc2⟩ := hg.form hn
    have hpos : 0 < l.length := by cases l with | nil => exact absurd rfl hn | cons => simp
    obtain ⟨cf, hcf, hcl⟩ := first_least hn
    have g0 := hg.cellG
    obtain ⟨_, _, g2⟩ := hg.cellR hcf
    rw [hcl] at g2
    have hcfm := hp cf (List.mem_of_getElem? hcf)
    rw [hcl] at hcfm
    have hfl := (List.getElem?_eq_some_iff.1 hcf).1
    have hg' := Lib.hid hg
    have hpos2 : ¬ (l.length : Int) = 0 := by omega
    have x0 : decide ((l.length : Int) = 0) = false := decide_eq_false (by omega)
    have x1 : ((l.length : Int) == 0) = false := beq_eq_false_iff_ne.mpr (by omega)
    have hp' := Lib.hid hp
    have hall := Lib.hid (lvl_all l)
    clear hg hp hcl hcf
    generalize leastP l = m at *
    have hn' := Lib.hid hn
    clear hn
    go_enter Try.func46, Try.ntmps46
    go_wp2
    refine start_ (n := 10) (S := fun w' => w'.cell? ⟨G, 0, none⟩ = some (.slice (some ⟨g, 0, none⟩) l.length cap) ∧ w'.cell? ⟨g, firstL l * 3 + 2, none⟩ = some (.int .i64 m)) (ds := []) #[false, false, false, false, false, false, false, false, false, false] (by kernel_rfl) rfl rfl ⟨g0, g2⟩ (fun hHeld => ?_)
    refine pure_ (i := 0) (N := some 10) (v := ?_) (a' := ?_) #[true, false, false, false, false, false, false, false, false, false] rfl rfl (by kernel_rfl) (fun _ _ _ h => h) (Or.inl ⟨by rfl, ?_⟩) ?_ ?_
    rotate_left
    · intro w'
      go_simp
      with_reducible rfl
    rotate_left
    · simp only [Act.put, List.setIfInBounds_toArray, List.set_cons_zero, List.set_cons_succ, i64_w, i32_w]
      rfl
    refine pure_ (i := 1) (N := some 11) (v := ?_) (a' := ?_) #[true, true, false, false, false, false, false, false, false, false] rfl rfl (by kernel_rfl) (fun _ _ _ h => h) (Or.inl ⟨by rfl, ?_⟩) ?_ ?_
    rotate_left
    · intro w'
      go_simp
      with_reducible rfl
    rotate_left
    · simp only [Act.put, List.setIfInBounds_toArray, List.set_cons_zero, List.set_cons_succ, i64_w, i32_w]
      rfl
    refine pure_ (i := 2) (N := some 12) (v := ?_) (a' := ?_) #[true, true, true, false, false, false, false, false, false, false] rfl rfl (by kernel_rfl) (fun _ _ _ h => h) (Or.inl ⟨by rfl, ?_⟩) ?_ ?_
    rotate_left
    · intro w'
      go_simp
      with_reducible rfl
    rotate_left
    · simp only [Act.put, List.setIfInBounds_toArray, List.set_cons_zero, List.set_cons_succ, i64_w, i32_w]
      rfl
    refine take_ (i := 3) (N := some 13) (v := ?_) (a' := ?_) #[true, true, true, true, false, false, false, false, false, false] rfl rfl (by kernel_rfl) (fun _ _ _ h => h) (Or.inl ⟨by rfl, ?_⟩) hHeld ?_ ?_
    rotate_left
    · rintro w' ⟨s0, s1⟩
      go_simp
      with_reducible rfl
    rotate_left
    · simp only [Act.put, List.setIfInBounds_toArray, List.set_cons_zero, List.set_cons_succ, i64_w, i32_w]
      rfl
    refine pure_ (i := 4) (N := some 14) (v := ?_) (a' := ?_) #[true, true, true, true, true, false, false, false, false, false] rfl rfl (by kernel_rfl) (fun _ _ _ h => h) (Or.inl ⟨by rfl, ?_⟩) ?_ ?_
    rotate_left
    · intro w'
      go_simp
      with_reducible rfl
    rotate_left
    · simp only [Act.put, List.setIfInBounds_toArray, List.set_cons_zero, List.set_cons_succ, i64_w, i32_w]
      rfl
    refine one_ (i := 5) (N := some 15) #[true, true, true, true, true, true, false, false, false, false] rfl rfl (by kernel_rfl) (by decide) (fun K hK => ?_)
    refine goes_ Try.func77 (by kernel_rfl) rfl #[ptrG G] (by rfl) rfl rfl (by (try simp only [List.map_toArray, List.map_cons, List.map_nil]); first | done | rfl) ?_
    with_reducible refine (first_calls B G g cap l _ hn'.out hlen hg'.out.drew).mono ?_
    rintro e w11 ⟨rfl, hb⟩
    refine ⟨_, rfl, ?_⟩
    refine hK.out _ _ ⟨(hb.cell (World.block_lt_of_cell? _ _ hHeld.1)).trans hHeld.1, (hb.cell (World.block_lt_of_cell? _ _ hHeld.2)).trans hHeld.2⟩ (fun hHeld => ?_)
    clear hK K
    refine norm_ (a' := ?_) ?_ ?_
    rotate_left
    · show Act.put _ (some 15) _ = _
      simp only [Act.put, List.setIfInBounds_toArray, List.set_cons_zero, List.set_cons_succ, i64_w, i32_w]
      rfl
    refine pure_ (i := 6) (N := some 16) (v := ?_) (a' := ?_) #[true, true, true, true, true, true, true, false, false, false] rfl rfl (by kernel_rfl) (fun _ _ _ h => h) (Or.inl ⟨by rfl, ?_⟩) ?_ ?_
    rotate_left
    · intro w'
      go_simp
      with_reducible rfl
    rotate_left
    · simp only [Act.put, List.setIfInBounds_toArray, List.set_cons_zero, List.set_cons_succ, i64_w, i32_w]
      rfl
    refine pure_ (i := 7) (N := some 17) (v := ?_) (a' := ?_) #[true, true, true, true, true, true, true, true, false, false] rfl rfl (by kernel_rfl) (fun _ _ _ h => h) (Or.inl ⟨by rfl, ?_⟩) ?_ ?_
    rotate_left
    · intro w'
      go_simp
      with_reducible rfl
    rotate_left
    · simp only [Act.put, List.setIfInBounds_toArray, List.set_cons_zero, List.set_cons_succ, i64_w, i32_w]
      rfl
    refine take_ (i := 8) (N := some 18) (v := ?_) (a' := ?_) #[true, true, true, true, true, true, true, true, true, false] rfl rfl (by kernel_rfl) (fun _ _ _ h => h) (Or.inl ⟨by rfl, ?_⟩) hHeld ?_ ?_
    rotate_left
    · rintro w' ⟨s0, s1⟩
      go_simp
      with_reducible rfl
    rotate_left
    · simp only [Act.put, List.setIfInBounds_toArray, List.set_cons_zero, List.set_cons_succ, i64_w, i32_w]
      rfl
    refine pure_ (i := 9) (N := some 2) (v := ?_) (a' := ?_) #[true, true, true, true, true, true, true, true, true, true] rfl rfl (by kernel_rfl) (fun _ _ _ h => h) (Or.inl ⟨by rfl, ?_⟩) ?_ ?_
    rotate_left
    · intro w'
      go_simp
      with_reducible rfl
    rotate_left
    · simp only [Act.put, List.setIfInBounds_toArray, List.set_cons_zero, List.set_cons_succ, i64_w, i32_w]
      rfl
    refine done_ (by kernel_rfl) ?_
    have hg1 := grp_below hg'.out.drew hb
    have hM1 : Mt G (some g) W w11 := (Mt.of_below (show Below W.heap.size W w11 from ⟨hb.os, hb.tape, hb.output, hb.size, hb.block⟩))
    have z0 := hHeld.1
    have hg1' := Lib.hid hg1
    have hM1' := Lib.hid hM1
    clear hHeld hb g0 g2 hg1 hM1
    go_wp2
    go_loopw [24] (fun iv wr => ∃ (i : Nat), iv = .int .i64 (i : Int) ∧ i ≤ l.length ∧ Grp tG tC B G (.slice (some ⟨g, 0, none⟩) l.length cap) (lvl m i l) wr ∧ Mt G (some g) W wr)
      (fun iv _ => l.length - (intOf iv).toNat)
    case atStart => exact ⟨0, rfl, Nat.zero_le _, by rw [lvl_zero]; exact hg1'.out, hM1'.out⟩
    case round =>
      obtain ⟨i, rfl, hi, hgr, hM⟩ := hrel
      clear z0
      by_cases hlt : i < l.length
      · obtain ⟨c, hc⟩ : ∃ c, l[i]? = some c := ⟨l[i], List.getElem?_eq_getElem hlt⟩
        have hcb := hp'.out c (List.mem_of_getElem? hc)
        have z0 := hgr.cellG
        obtain ⟨_, _, z2⟩ := hgr.cellR (lvl_get (m := m) hc)
        have zf := hgr.frozenR (i * 3 + 2)
        have hset := hgr.setP tGC i (c.p - m)
        rw [lvl_step hc] at hset
        have hset' := Lib.hid hset
        have hM' := Lib.hid (hM.setR (i * 3 + 2) (.int .i64 (c.p - m)))
        have hw : IntKind.i64.wrap (c.p - m) = c.p - m := IntWalk.i64_in _ (by omega)
        clear hset hgr hM hc
        go_wp2
        go_roundw
        case rel => exact ⟨i + 1, by go_num, by omega, hset'.out, hM'.out⟩
        case measure => simp [intOf]; omega
      · have hi' : i = l.length := by omega
        subst hi'
        rw [hall.out] at hgr
        have hgr' := Lib.hid hgr
        have hM' := Lib.hid hM
        clear hgr hM
        go_wp2
        first | go_ret | go_end0 | skip
        all_goals (try exact ⟨⟨_, rfl⟩, hgr'.out, hM'.out⟩)
end Go.Proofs.Ytkcmmghhghgdpaa.Str
end
section
namespace Go.Proofs.Ytkcmmghhghgdpaa.Str
open Go.RowKit Go.Shelf Go.Maps Go.Proofs.Ytkcmmghhghgdpaa.Iter Go.Proofs.YtkcmmghhghgdpaaW.PrintWords Go.Proofs.YtkcmmghhghgdpaaW.PrintLast
set_option linter.unusedVariables false
set_option linter.unusedSimpArgs false
def cmpV (a b : Int) : Int := if a < b then -1 else if b < a then 1 else 0
set_option maxRecDepth 100000 in
set_option maxHeartbeats 4000000 in
theorem cmp_calls (c : Cl) (id : Int) (W : World) : Calls Try.prog 74 #[encC c, .int .i64 id] W fun e W' => e = .returned (.int .i64 (cmpV c.id id)) ∧ Below W.heap.size W W' := by
  have L := Lib.hid ((Below.refl W.heap.size W).alloc (Nat.le_refl _) (.cells #[.int .i64 c.id, .int .i64 c.t, .int .i64 c.p] 44))
  by_cases h1 : c.id < id
  · have x1 : decide (c.id < id) = true := decide_eq_true h1
    have hv := Lib.hid (show cmpV c.id id = -1 from by unfold cmpV; rw [if_pos h1])
    go_enter Try.func74, Try.ntmps74
    go_wp2
    go_ret
    exact ⟨by rw [hv.out]; rfl, L.out⟩
  · have x1 : decide (c.id < id) = false := decide_eq_false h1
    by_cases h2 : id < c.id
    · have x2 : decide (id < c.id) = true := decide_eq_true h2
      have hv := Lib.hid (show cmpV c.id id = 1 from by unfold cmpV; rw [if_neg h1, if_pos h2])
      clear h1
      go_enter Try.func74, Try.ntmps74
      go_wp2
      go_ret
      exact ⟨by rw [hv.out]; rfl, L.out⟩
    · have x2 : decide (id < c.id) = false := decide_eq_false h2
      have hv := Lib.hid (show cmpV c.id id = 0 from by unfold cmpV; rw [if_neg h1, if_neg h2])
      clear h1 h2
      go_enter Try.func74, Try.ntmps74
      go_wp2
      go_ret
      exact ⟨by rw [hv.out]; rfl, L.out⟩

/-- The cells of clients that a slice reads. -/
def ReadsG (W : World) (A : Option Addr) (l : List Cl) : Prop := ∀ i c, l[i]? = some c → ∃ g, A = some ⟨g, 0, none⟩ ∧ g < W.heap.size ∧ W.cell? ⟨g, i * 3, none⟩ = some (.int .i64 c.id) ∧ W.cell? ⟨g, i * 3 + 1, none⟩ = some (.int .i64 c.t) ∧ W.cell? ⟨g, i * 3 + 2, none⟩ = some (.int .i64 c.p)
theorem ReadsG.below {W W' : World} {A : Option Addr} {l : List Cl} (h : ReadsG W A l) (hb : Below W.heap.size W W') : ReadsG W' A l := fun i c hc => by
  obtain ⟨g, rfl, hg, a, b, d⟩ := h i c hc
  exact ⟨g, rfl, Nat.lt_of_lt_of_le hg hb.size, (hb.cell (p := ⟨g, _, none⟩) hg).trans a, (hb.cell (p := ⟨g, _, none⟩) hg).trans b, (hb.cell (p := ⟨g, _, none⟩) hg).trans d⟩
theorem Grp.reads {B G : Nat} {A : Option Addr} {n c : Nat} {l : List Cl} {W : World} (h : Grp tG tC B G (.slice A n c) l W) : ReadsG W A l := fun i x hx => by
  rcases h.row.2 with ⟨_, h0⟩ | ⟨g, cap, cur, hv, _, hg, _⟩
  · have := (List.getElem?_eq_some_iff.1 hx).1
    omega
  · injection hv with e1 e2 e3
    subst e1
    obtain ⟨a, b, d⟩ := h.cellR hx
    exact ⟨g, rfl, (Array.getElem?_eq_some_iff.1 hg).1, a, b, d⟩

set_option maxRecDepth 100000 in
set_option maxHeartbeats 4000000 in
theorem search_calls (A : Option Addr) (cap : Nat) (l : List Cl) (id : Int) (W : World) (hs : Sorted l) (hlen : l.length ≤ 1024) (hcap : l.length ≤ cap) (hr : ReadsG W A l) :
    Calls Try.prog 73 #[.slice A l.length cap, .int .i64 id, .func (.func 74) #[] #[]] W fun e W' => e = .returned (.tuple #[.int .i64 (lb id l : Int), .bool (hasL id l)]) ∧ Below W.heap.size W W' := by
  have hlb := lb_le id l
  have hr' := Lib.hid hr
  have hs' := Lib.hid hs
  clear hr hs
  go_enter Try.func73, Try.ntmps73
  go_wp2
  go_loopw [9, 10] (fun iv jv wr => ∃ (i j : Nat), iv = .int .i64 (i : Int) ∧ jv = .int .i64 (j : Int) ∧ i ≤ lb id l ∧ lb id l ≤ j ∧ j ≤ l.length ∧ Below W.heap.size W wr)
    (fun iv jv _ => (intOf jv).toNat - (intOf iv).toNat)
  case atStart => exact ⟨0, l.length, rfl, rfl, Nat.zero_le _, hlb, Nat.le_refl _, Below.refl _ _⟩
  case round =>
    obtain ⟨i, j, rfl, rfl, hi, hj, hjl, hbel⟩ := hrel
    have hbel' := Lib.hid hbel
    by_cases hlt : i < j
    · have hh2 : (i + j) / 2 < l.length := by omega
      obtain ⟨c, hc⟩ : ∃ c, l[(i + j) / 2]? = some c := ⟨l[(i + j) / 2], List.getElem?_eq_getElem _⟩
      obtain ⟨g, hA, hgl, q0, q1, q2⟩ := (hr'.out.below hbel) _ c hc
      subst hA
      have hc' := Lib.hid hc
      clear hbel hc
      by_cases hlt2 : c.id < id
      · have hv : cmpV c.id id = -1 := by unfold cmpV; rw [if_pos hlt2]
        have hlow := lb_lower hs'.out hc'.out hlt2
        clear hlt2
        go_wp2_with (first | (go_at_call 74; refine (cmp_calls c id _).mono ?_; rintro e w9 ⟨rfl, hb⟩; have L2 := Lib.hid (hbel'.out.trans (hb.mono hbel'.out.size)); clear hb; try simp only [hv]))
        go_roundw
        case rel => exact ⟨(i + j) / 2 + 1, j, by first | go_num | (congr 1; omega), rfl, by omega, by omega, hjl, L2.out⟩
        case measure => simp [intOf]; omega
      · have hv : (cmpV c.id id < 0) = False := by unfold cmpV; rw [if_neg hlt2]; split <;> simp
        have hv2 : decide (cmpV c.id id < 0) = false := decide_eq_false (by rw [hv]; exact not_false)
        have hup := lb_upper hc'.out (show id ≤ c.id by omega)
        clear hlt2
        go_wp2_with (first | (go_at_call 74; refine (cmp_calls c id _).mono ?_; rintro e w9 ⟨rfl, hb⟩; have L2 := Lib.hid (hbel'.out.trans (hb.mono hbel'.out.size)); clear hb; try simp only [hv, hv2]))
        go_roundw
        case rel => exact ⟨i, (i + j) / 2, rfl, by first | go_num | (congr 1; omega), hi, by omega, by omega, L2.out⟩
        case measure => simp [intOf]; omega
    · have hij : i = lb id l := by omega
      have hij2 : j = lb id l := by omega
      subst hij
      subst hij2
      by_cases hlt2 : lb id l < l.length
      · obtain ⟨c, hc⟩ : ∃ c, l[lb id l]? = some c := ⟨l[lb id l], List.getElem?_eq_getElem _⟩
        obtain ⟨g, hA, hgl, q0, q1, q2⟩ := (hr'.out.below hbel) _ c hc
        subst hA
        have hge := lb_ge id l hs'.out _ c (Nat.le_refl _) hc
        have hhas : hasL id l = (c.id == id) := by rw [has_lb hs'.out, hc]
        have hhas' := Lib.hid hhas
        clear hbel hc hhas
        by_cases he : c.id = id
        · have hv : cmpV c.id id = 0 := by unfold cmpV; rw [if_neg (by omega), if_neg (by omega)]
          have hb' := Lib.hid (show hasL id l = true by rw [hhas'.out]; simpa using he)
          clear he hge
          go_wp2_with (first | (go_at_call 74; refine (cmp_calls c id _).mono ?_; rintro e w9 ⟨rfl, hb⟩; have L2 := Lib.hid (hbel'.out.trans (hb.mono hbel'.out.size)); clear hb; try simp only [hv]))
          go_ret2
          exact ⟨by rw [hb'.out]; rfl, L2.out⟩
        · have hv : cmpV c.id id = 1 := by unfold cmpV; rw [if_neg (by omega), if_pos (by omega)]
          have hb' := Lib.hid (show hasL id l = false by rw [hhas'.out]; simpa using he)
          clear he hge
          go_wp2_with (first | (go_at_call 74; refine (cmp_calls c id _).mono ?_; rintro e w9 ⟨rfl, hb⟩; have L2 := Lib.hid (hbel'.out.trans (hb.mono hbel'.out.size)); clear hb; try simp only [hv]))
          go_ret2
          exact ⟨by rw [hb'.out]; rfl, L2.out⟩
      · have hb' := Lib.hid (show hasL id l = false by rw [has_lb hs'.out, List.getElem?_eq_none (by omega)])
        have x1 : decide ((lb id l : Int) < (l.length : Int)) = false := decide_eq_false (by omega)
        clear hbel
        go_wp2
        go_ret2
        exact ⟨by rw [hb'.out]; rfl, hbel'.out⟩
set_option maxRecDepth 100000 in
set_option maxHeartbeats 4000000 in
theorem find_calls (B G : Nat) (v : Value) (l : List Cl) (id : Int) (W : World) (hs : Sorted l) (hlen : l.length ≤ 1024) (hg : Grp tG tC B G v l W) :
    Calls Try.prog 44 #[ptrG G, .int .i64 id] W fun e W' => e = .returned (.tuple #[.int .i64 (lb id l : Int), .bool (hasL id l)]) ∧ Below W.heap.size W W' := by
  obtain ⟨A, c, rfl, hcap⟩ : ∃ A c, v = .slice A l.length c ∧ l.length ≤ c := by
    rcases hg.row.2 with ⟨rfl, h0⟩ | ⟨g, cap, cur, rfl, _, _, hc, _⟩
    · exact ⟨none, 0, by rw [h0], by omega⟩
    · exact ⟨_, cap, rfl, hc⟩
  have g0 := hg.cellG
  have hr' := Lib.hid hg.reads
  clear hg
  go_enter Try.func44, Try.ntmps44
  go_wp2_with ((with_reducible refine gate_callee (f := 73) rfl ?_); refine goesL_ (some 11) rfl rfl Try.func73 (by kernel_rfl) rfl #[.slice A l.length c, .int .i64 id, .func (.func 74) #[] #[]] rfl (by (try simp only [List.map_toArray, List.map_cons, List.map_nil]); first | done | rfl) ?_; (with_reducible refine (search_calls A c l id _ hs hlen hcap hr'.out).mono ?_); rintro e w9 ⟨rfl, hb⟩; refine ⟨_, rfl, ?_⟩; have L := Lib.hid hb; clear hb)
  go_ret2
  exact ⟨rfl, L.out⟩
end Go.Proofs.Ytkcmmghhghgdpaa.Str
end
section
namespace Go.Proofs.Ytkcmmghhghgdpaa.SeqM
open Go Go.RowKit
set_option linter.unusedVariables false
variable {F : Fence} {n : Nat} {P : Program}

/-- The iterator has a state s; a step gives x and the next state; it turns memory as Mu says; a round must keep Kp; J: what the loop knows between two rounds (Mu does not mind it), fewer than N rounds go on; Jx: where a round has said 'no more'. -/
def SeqM {α σ : Type} (F : Fence) (n : Nat) (P : Program) (g : Nat) (lb : Array Value) (enc : α → Array Value) (step : σ → Option (α × σ)) (St : σ → World → Prop) (Mu Kp : World → World → Prop) (N : Nat) (s0 : σ) (W : World) : Prop :=
  ∀ (l : Nat) (J Jx : List α → σ → World → Prop),
    (∀ pre s A B, J pre s A → Mu A B → J pre s B) →
    (∀ pre s A, J pre s A → pre.length < N) →
    (∀ pre s x s' W1, J pre s W1 → step s = some (x, s') → St s' W1 → YieldAt F (n - 1) P l (enc x) W1 fun e W' => Kp W1 W' ∧ ((e = .returned (.bool true) ∧ J (pre ++ [x]) s' W') ∨ (e = .returned (.bool false) ∧ Jx (pre ++ [x]) s' W'))) →
    J [] s0 W →
    CallsIn F n P g (#[.func (.yield l) #[] #[]] ++ lb) W fun e W' => (∃ v, e = .returned v) ∧ ∃ pre s, St s W' ∧ ((step s = none ∧ J pre s W') ∨ Jx pre s W')

/-- What a body's walk ends in. -/
def postM {α σ : Type} (Kp : World → World → Prop) (I : List α → σ → World → Prop) (Ix : Code → List α → σ → World → Prop) (xs : List α) (s : σ) (W : World) : Exit → Act → World → Prop
  | .normal, _, W' => KeepsOthers W W' ∧ Kp W W' ∧ I xs s W'
  | .ret, _, W' => KeepsOthers W W' ∧ Kp W W' ∧ Ix .ret xs s W'
  | .exit id, _, W' => KeepsOthers W W' ∧ Kp W W' ∧ Ix (.exit id) xs s W'
  | .goto t, _, W' => KeepsOthers W W' ∧ Kp W W' ∧ Ix (.goto t) xs s W'
  | .panic _, _, _ => False
  | .outgrown, _, _ => False

theorem wpIn_rangeM {α σ : Type} {g : Operand} {ps : Array Tmp} {assign body : Code} {Q : Exit → Act → World → Prop} {a : Act} {w : World}
    (hro : F.round = none) (h1 : 1 ≤ n) {gf : Nat} {lb : Array Value} (hg : a.eval g = .func (.func gf) #[] lb) (hFg : F.fn gf) (eg : ∀ args w, (callFunc gf args).run P w = .ok (.enter gf args) w)
    {enc : α → Array Value} {step : σ → Option (α × σ)} {St : σ → World → Prop} {Mu Kp : World → World → Prop} {N : Nat} {s0 : σ} (hseq : ∀ W, St s0 W → KeepsOthers w W → SeqM F (n - 1) P gf lb enc step St Mu Kp N s0 W)
    (hSt : OwnFrom w.heap.size St) (hKt : ∀ {A B C : World}, Kp A B → Kp B C → Kp A C) (hKb : ∀ (W : World) (l : Nat) (o o' : Obj), w.heap.size ≤ l → W.heap[l]? = some o → o.isCells = false → Kp W (W.putObj l o'))
    (hMu : ∀ A B, Mu A B → KeepsOthers A B) (hps : ∀ x, (enc x).size = ps.size)
    (I : List α → σ → World → Prop) (Ix : Code → List α → σ → World → Prop) (hI : ∀ s, OwnFrom w.heap.size (fun pre => I pre s)) (hIx : ∀ c s, OwnFrom w.heap.size (fun pre => Ix c pre s))
    (hImu : ∀ pre s A B, I pre s A → Mu A B → I pre s B) (hIN : ∀ pre s A, I pre s A → pre.length < N) (h0 : I [] s0 w) (hs0 : St s0 w) (a₁ : α → Act)
    (hassign : ∀ (l : Nat) (x : α) (W : World) (K : Act → World → Prop), K (a₁ x) W →
      assign.wpIn (F.inRound l) (n - 1 - 1) P (Exit.then K (fun _ _ _ => False)) { tmps := (ps.zip (enc x)).foldl (fun t (p, v) => t.setIfInBounds p v) a.tmps, defers := [] } W)
    (hbody : ∀ (l : Nat) (pre : List α) (s : σ) (x : α) (s' : σ) (W : World), I pre s W → step s = some (x, s') → St s' W → body.wpIn (F.inRound l) (n - 1 - 1) P (postM Kp I Ix (pre ++ [x]) s' W) (a₁ x) W)
    (hdone : ∀ (D : Nat) (pre : List α) (s : σ) (W : World), w.heap.size ≤ D → step s = none → I pre s W → St s W → W.heap[D]? = some (.deferred (some [])) → Q .normal { a with defers := { target := .collected D, args := #[] } :: a.defers } W)
    (hstop : ∀ (D : Nat) (c : Code) (pre : List α) (s : σ) (W : World), w.heap.size ≤ D → Ix c pre s W → St s W → W.heap[D]? = some (.deferred (some [])) → c.wpIn F n P Q { a with defers := { target := .collected D, args := #[] } :: a.defers } W) :
    (Code.rangeFunc g ps assign body).wpIn F n P Q a w := by
  refine wpIn_rangeFunc ?_
  intro fn hfn
  rw [hro]
  obtain ⟨rec, hrec⟩ : ∃ rec : LoopState → Option Code → Loop, rec = fun st pe => { state := st, pending := pe, fn, tmps := a.tmps, params := ps, assign, body, defers := w.heap.size } := ⟨_, rfl⟩
  obtain ⟨W1, hW1⟩ : ∃ W1, (w.alloc (.deferred (some []))).alloc (.loop (rec .ready none)) = W1 := ⟨_, rfl⟩
  have hL1 : W1.heap[w.heap.size + 1]? = some (.loop (rec .ready none)) := by
    rw [← hW1]; have := World.alloc_heap_new (w.alloc (.deferred (some []))) (.loop (rec .ready none)); rwa [World.size_alloc] at this
  have hK1 : W1.heap[w.heap.size]? = some (.deferred (some [])) := by
    rw [← hW1]; exact (Below.heap_alloc _ _ _ (by simp)).trans (World.alloc_heap_new w _)
  have hI1 : I [] s0 W1 := by rw [← hW1]; exact (hI s0).alloc _ ((hI s0).alloc _ h0)
  have hS1 : St s0 W1 := by rw [← hW1]; exact hSt.alloc _ (hSt.alloc _ hs0)
  have hO1 : KeepsOthers w W1 := by rw [← hW1]; exact (KeepsOthers.alloc w _).trans (KeepsOthers.alloc _ _)
  refine ⟨w.heap.size + 1, [{ target := .collected w.heap.size, args := #[] }], W1, { target := .fn (.func gf) lb, args := #[.func (.yield (w.heap.size + 1)) #[] #[]] }, W1, gf,
    #[.func (.yield (w.heap.size + 1)) #[] #[]] ++ lb, W1, ?_, ?_, ?_, ?_, fun _ => h1, ?_⟩
  · rw [← hW1, hrec]; exact run_enterLoop_outer _ _ _ _ _
  · simp only [resolve, hg]
    simp [go_sem]
  · intro f' hf'; simp [Target.leads] at hf'; subst hf'; exact hFg
  · simp [invoke, go_sem, eg]
  · refine (hseq W1 hS1 hO1 (w.heap.size + 1)
      (fun pre s W => I pre s W ∧ W.heap[w.heap.size + 1]? = some (.loop (rec .ready none)) ∧ W.heap[w.heap.size]? = some (.deferred (some [])))
      (fun pre s W => ∃ c, Ix c pre s W ∧ W.heap[w.heap.size + 1]? = some (.loop (rec .done (some c))) ∧ W.heap[w.heap.size]? = some (.deferred (some [])))
      (fun pre s A B hs hm => ⟨hImu pre s A B hs.1 hm, (hMu A B hm).same _ _ hs.2.1 rfl, (hMu A B hm).same _ _ hs.2.2 rfl⟩)
      (fun pre s A hs => hIN pre s A hs.1) ?_ ⟨hI1, hL1, hK1⟩).mono ?_
    · rintro pre s x s' W ⟨hi, hl, hk⟩ hstep hst
      have hlt : w.heap.size + 1 < W.heap.size := (Array.getElem?_eq_some_iff.1 hl).1
      have hy := run_yield (P := P) (args := enc x) hl (by rw [hrec]; exact hps x)
      rw [hrec] at hy
      refine ⟨fn, _, assign, body, hy, roundIn_of_wpIn hfn (hassign _ x W _ ⟨_, run_beginRound hl (by rw [hrec]), ?_⟩)⟩
      have hl2 : (W.putObj (w.heap.size + 1) (.loop { rec .ready none with state := .busy })).heap[w.heap.size + 1]? = some (.loop { rec .ready none with state := .busy }) := World.putObj_heap_same hlt
      have hk2 : (W.putObj (w.heap.size + 1) (.loop { rec .ready none with state := .busy })).heap[w.heap.size]? = some (.deferred (some [])) := (World.putObj_heap_other (by omega)).trans hk
      have hp2 : Kp W (W.putObj (w.heap.size + 1) (.loop { rec .ready none with state := .busy })) := hKb W _ _ _ (by omega) hl rfl
      refine wpIn_mono (hbody _ pre s x s' _ ((hI s).putObj _ hi (by omega) hl rfl) hstep (hSt.putObj _ hst (by omega) hl rfl)) ?_
      have fin : ∀ (jump : Option Code) (W3 : World), KeepsOthers (W.putObj (w.heap.size + 1) (.loop { rec .ready none with state := .busy })) W3 → Kp (W.putObj (w.heap.size + 1) (.loop { rec .ready none with state := .busy })) W3 →
          (Instr.endRound (w.heap.size + 1) jump).run P W3 = .ok (.bool jump.isNone) (W3.putObj (w.heap.size + 1) (.loop (rec (if jump.isNone then .ready else .done) jump))) ∧
          W3.heap[w.heap.size + 1]? = some (.loop { rec .ready none with state := .busy }) ∧
          (W3.putObj (w.heap.size + 1) (.loop (rec (if jump.isNone then .ready else .done) jump))).heap[w.heap.size + 1]? = some (.loop (rec (if jump.isNone then .ready else .done) jump)) ∧
          (W3.putObj (w.heap.size + 1) (.loop (rec (if jump.isNone then .ready else .done) jump))).heap[w.heap.size]? = some (.deferred (some [])) ∧
          Kp W (W3.putObj (w.heap.size + 1) (.loop (rec (if jump.isNone then .ready else .done) jump))) := fun jump W3 hk3 hp3 => by
        have hl3 := hk3.same _ _ hl2 rfl
        have := run_endRound (P := P) jump hl3
        rw [hrec] at this ⊢
        rw [hrec] at hl3
        exact ⟨this, hl3, World.putObj_heap_same (Array.getElem?_eq_some_iff.1 hl3).1, (World.putObj_heap_other (by omega)).trans (hk3.same _ _ hk2 rfl), hKt (by rw [hrec] at hp2; exact hp2) (hKt (by rw [hrec] at hp3; exact hp3) (hKb W3 _ _ _ (by omega) hl3 rfl))⟩
      rintro e a3 W3 hp
      cases e with
      | normal =>
        obtain ⟨hk3, hp3, hi3⟩ := hp
        obtain ⟨hr, hl3, hl4, hk4, hp4⟩ := fin none W3 hk3 hp3
        exact ⟨_, _, hr, hp4, .inl ⟨rfl, (hI s').putObj _ hi3 (by omega) hl3 rfl, hl4, hk4⟩⟩
      | ret =>
        obtain ⟨hk3, hp3, hi3⟩ := hp
        obtain ⟨hr, hl3, hl4, hk4, hp4⟩ := fin (some .ret) W3 hk3 hp3
        exact ⟨_, _, hr, hp4, .inr ⟨rfl, .ret, (hIx _ s').putObj _ hi3 (by omega) hl3 rfl, hl4, hk4⟩⟩
      | exit id =>
        obtain ⟨hk3, hp3, hi3⟩ := hp
        obtain ⟨hr, hl3, hl4, hk4, hp4⟩ := fin (some (.exit id)) W3 hk3 hp3
        exact ⟨_, _, hr, hp4, .inr ⟨rfl, .exit id, (hIx _ s').putObj _ hi3 (by omega) hl3 rfl, hl4, hk4⟩⟩
      | goto t =>
        obtain ⟨hk3, hp3, hi3⟩ := hp
        obtain ⟨hr, hl3, hl4, hk4, hp4⟩ := fin (some (.goto t)) W3 hk3 hp3
        exact ⟨_, _, hr, hp4, .inr ⟨rfl, .goto t, (hIx _ s').putObj _ hi3 (by omega) hl3 rfl, hl4, hk4⟩⟩
      | panic ch => exact hp.elim
      | outgrown => exact hp.elim
    · rintro e W2 ⟨⟨v, rfl⟩, pre, s, hst, (⟨hno, hi, hl, hk⟩ | ⟨c, hi, hl, hk⟩)⟩
      · exact ⟨none, _, by have := run_endLoop (P := P) hl (by rw [hrec]; simp); rw [hrec] at this; exact this, hdone _ pre s _ (Nat.le_refl _) hno ((hI s).putObj _ hi (by omega) hl rfl) (hSt.putObj _ hst (by omega) hl rfl) ((World.putObj_heap_other (by omega)).trans hk)⟩
      · exact ⟨some c, _, by have := run_endLoop (P := P) hl (by rw [hrec]; simp); rw [hrec] at this; exact this, hstop _ c pre s _ (Nat.le_refl _) ((hIx c s).putObj _ hi (by omega) hl rfl) (hSt.putObj _ hst (by omega) hl rfl) ((World.putObj_heap_other (by omega)).trans hk)⟩
end Go.Proofs.Ytkcmmghhghgdpaa.SeqM
end
section
namespace Go.Proofs.Ytkcmmghhghgdpaa.Str
open Go.RowKit Go.Shelf Go.Maps Go.Proofs.Ytkcmmghhghgdpaa.Iter Go.Proofs.Ytkcmmghhghgdpaa.SeqM Go.Proofs.YtkcmmghhghgdpaaW.PrintWords Go.Proofs.YtkcmmghhghgdpaaW.PrintLast
set_option linter.unusedVariables false
set_option linter.unusedSimpArgs false
/-- The group's state, between two quanta. -/
structure StQ (QB B G : Nat) (v : Value) (l : List Cl) (W : World) : Prop where
  good : GoodG l
  box : Blk W QB 24 #[ptrG G]
  grp : Grp tG tC B G v l W
def MuQ (G : Nat) (v : Value) (A B : World) : Prop := Mt G v.ownBlock A B ∧ KeepsOthers A B
def KpQ (QB G : Nat) (v : Value) (A B : World) : Prop := B.heap[QB]? = A.heap[QB]? ∧ B.heap[G]? = A.heap[G]? ∧ ∀ k, v.ownBlock = some k → B.heap[k]? = A.heap[k]?
def stepQ (l : List Cl) : Option (Int × List Cl) := if l = [] then none else some ((pickL l).2, (pickL l).1)
theorem StQ.kept {QB B G : Nat} {v : Value} {l : List Cl} {W W' : World} (h : StQ QB B G v l W) (hk : KpQ QB G v W W') : StQ QB B G v l W' := ⟨h.good, hk.1.trans h.box, h.grp.move hk.2.1 hk.2.2⟩
theorem modify_bump (l : List Cl) (i : Nat) (c : Cl) (hc : l[i]? = some c) : (l.modify i fun d => { d with p := c.p + sd c.t }) = l.modify i bump := by
  apply List.ext_getElem?
  intro j
  rw [List.getElem?_modify, List.getElem?_modify]
  by_cases e : i = j
  · subst e
    rw [hc]
    simp [bump]
  · simp [e]
theorem bump_bound {l : List Cl} (h : GoodG l) (i : Nat) : ∀ c ∈ l.modify i bump, 0 ≤ c.p ∧ c.p ≤ 1500000 := by
  intro c hc
  obtain ⟨j, hj⟩ := List.getElem?_of_mem hc
  rw [List.getElem?_modify] at hj
  obtain ⟨d, hd, he⟩ := Option.map_eq_some_iff.1 hj
  obtain ⟨k1, k2, k3, k4⟩ := h.1.1 d (List.mem_of_getElem? hd)
  have := sd_nonneg k1 k2
  split at he
  · subst he
    show 0 ≤ d.p + sd d.t ∧ d.p + sd d.t ≤ 1500000
    omega
  · subst he
    omega
theorem Mt.others {B G : Nat} {v : Value} {l : List Cl} {W W' : World} (h : Mt G v.ownBlock W W') (hg : Grp tG tC B G v l W) : KeepsOthers W W' :=
  ⟨h.size, fun k o hk ho => by
    have hl := (Array.getElem?_eq_some_iff.1 hk).1
    rw [← hk]
    refine h.block k hl (fun e => ?_) (fun e => ?_)
    · subst e
      rw [hg.blk] at hk
      cases hk
      cases ho
    · obtain ⟨_, _, cur, hc⟩ := own_block hg.row e.symm
      rw [hc] at hk
      cases hk
      cases ho⟩
set_option maxRecDepth 100000 in
set_option maxHeartbeats 8000000 in
theorem quanta_seq (m QB B G : Nat) (v : Value) (l0 : List Cl) (N : Nat) (W : World) (hst : StQ QB B G v l0 W) :
    SeqM Fence.wide m Try.prog 78 #[.pointer (some ⟨QB, 0, none⟩)] (fun id : Int => #[.int .i64 id]) stepQ (StQ QB B G v) (MuQ G v) (KpQ QB G v) N l0 W := by
  intro ll J Jx hJ hJN hY h0
  refine callsIn_wide.2 ?_
  go_enter Try.func78, Try.ntmps78
  go_wp2
  go_loopg [] N (fun kq wr => ∃ (pre : List Int) (s : List Cl), Aside0 (StQ QB B G v s wr) ∧ Aside0 (J pre s wr) ∧ Aside0 (N ≤ kq + pre.length))
  case atStart => exact ⟨[], l0, ⟨hst⟩, ⟨h0⟩, ⟨by simp⟩⟩
  case round =>
    clear hst h0
    obtain ⟨pre, s, HS, HJ, HN⟩ := hrel
    have hst := HS.out
    have b0 := hst.box.cell 0
    simp only [List.getElem?_toArray, List.getElem?_cons_zero] at b0
    have g0 := hst.grp.cellG
    by_cases hs : s = []
    · subst hs
      have hvl : ∃ A c, v = .slice A 0 c := by
        rcases hst.grp.row.2 with ⟨rfl, _⟩ | ⟨g, cap, cur, rfl, _⟩
        · exact ⟨_, _, rfl⟩
        · exact ⟨_, _, rfl⟩
      obtain ⟨A, c, rfl⟩ := hvl
      clear hst
      go_wp2
      refine bodyPost_end (results_none rfl _ _ _) rfl ?_
      exact ⟨⟨_, rfl⟩, pre, [], HS.out, .inl ⟨rfl, HJ.out⟩⟩
    · cases gk with
      | zero => exact absurd (hJN _ _ _ HJ.out) (by have := HN.out; omega)
      | succ k1 =>
        obtain ⟨g, cap, rfl, hc1, hc2⟩ := hst.grp.form hs
        have hgood := hst.good
        have hpos : 0 < s.length := by cases s with | nil => exact absurd rfl hs | cons => simp
        have hlen : s.length ≤ 1024 := hgood.2.2
        obtain ⟨hfl, _⟩ := firstL_spec hs
        obtain ⟨c, hc⟩ : ∃ c, s[firstL s]? = some c := ⟨s[firstL s], List.getElem?_eq_getElem hfl⟩
        obtain ⟨z0, z1, z2⟩ := hst.grp.cellR hc
        obtain ⟨k1', k2', k3', k4'⟩ := hgood.1.1 c (List.mem_of_getElem? hc)
        have hsd := sd_nonneg k1' k2'
        have hstep : stepQ s = some ((pickL s).2, (pickL s).1) := by unfold stepQ; rw [if_neg hs]
        have hpid : (pickL s).2 = c.id := by show (s.getD (firstL s) ⟨0, 0, 0⟩).id = c.id; rw [List.getD_eq_getElem?_getD, hc]; rfl
        have hpl : (pickL s).1 = levelL (s.modify (firstL s) bump) := rfl
        have hmb := modify_bump s (firstL s) c hc
        have x0 : decide (0 < (s.length : Int)) = true := decide_eq_true (by omega)
        have hpos2 : 0 < (s.length : Int) := by omega
        have hfl2 : firstL s < s.length := hfl
        have hwp : IntKind.i64.wrap (c.p + sd c.t) = c.p + sd c.t := IntWalk.i64_in _ (by omega)
        have hfz := hst.grp.frozenR (firstL s * 3 + 2)
        have hbb := Lib.hid (bump_bound hgood (firstL s))
        have hst' := Lib.hid hst
        have hstep' := Lib.hid hstep
        have hpid' := Lib.hid hpid
        have hpl' := Lib.hid hpl
        have hmb' := Lib.hid hmb
        have hgood' := Lib.hid hgood
        have hs' := Lib.hid hs
        have hc' := Lib.hid hc
        have hHN := HN.out
        clear hst hstep hpid hpl hmb hgood hs hc k3' k4' HN
        go_wp2
        refine start_ (n := 8) (S := fun w' => w'.cell? ⟨QB, 0, none⟩ = some (ptrG G) ∧ w'.cell? ⟨G, 0, none⟩ = some (.slice (some ⟨g, 0, none⟩) s.length cap)) (ds := []) #[false, false, false, false, false, false, false, false] (by kernel_rfl) rfl rfl ⟨b0, g0⟩ (fun hHeld => ?_)
        refine take_ (i := 0) (N := some 11) (v := ?_) (a' := ?_) #[true, false, false, false, false, false, false, false] rfl rfl (by kernel_rfl) (fun _ _ _ h => h) (Or.inl ⟨by rfl, ?_⟩) hHeld ?_ ?_
        rotate_left
        · rintro w' ⟨s0, s1⟩
          go_simp
          with_reducible rfl
        rotate_left
        · simp only [Act.put, List.setIfInBounds_toArray, List.set_cons_zero, List.set_cons_succ, i64_w, i32_w]
          rfl
        refine pure_ (i := 1) (N := some 12) (v := ?_) (a' := ?_) #[true, true, false, false, false, false, false, false] rfl rfl (by kernel_rfl) (fun _ _ _ h => h) (Or.inl ⟨by rfl, ?_⟩) ?_ ?_
        rotate_left
        · intro w'
          go_simp
          with_reducible rfl
        rotate_left
        · simp only [Act.put, List.setIfInBounds_toArray, List.set_cons_zero, List.set_cons_succ, i64_w, i32_w]
          rfl
        refine pure_ (i := 2) (N := some 13) (v := ?_) (a' := ?_) #[true, true, true, false, false, false, false, false] rfl rfl (by kernel_rfl) (fun _ _ _ h => h) (Or.inl ⟨by rfl, ?_⟩) ?_ ?_
        rotate_left
        · intro w'
          go_simp
          with_reducible rfl
        rotate_left
        · simp only [Act.put, List.setIfInBounds_toArray, List.set_cons_zero, List.set_cons_succ, i64_w, i32_w]
          rfl
        refine take_ (i := 3) (N := some 14) (v := ?_) (a' := ?_) #[true, true, true, true, false, false, false, false] rfl rfl (by kernel_rfl) (fun _ _ _ h => h) (Or.inl ⟨by rfl, ?_⟩) hHeld ?_ ?_
        rotate_left
        · rintro w' ⟨s0, s1⟩
          go_simp
          with_reducible rfl
        rotate_left
        · simp only [Act.put, List.setIfInBounds_toArray, List.set_cons_zero, List.set_cons_succ, i64_w, i32_w]
          rfl
        refine take_ (i := 4) (N := some 15) (v := ?_) (a' := ?_) #[true, true, true, true, true, false, false, false] rfl rfl (by kernel_rfl) (fun _ _ _ h => h) (Or.inl ⟨by rfl, ?_⟩) hHeld ?_ ?_
        rotate_left
        · rintro w' ⟨s0, s1⟩
          go_simp
          with_reducible rfl
        rotate_left
        · simp only [Act.put, List.setIfInBounds_toArray, List.set_cons_zero, List.set_cons_succ, i64_w, i32_w]
          rfl
        refine one_ (i := 5) (N := some 16) #[true, true, true, true, true, true, false, false] rfl rfl (by kernel_rfl) (by decide) (fun K hK => ?_)
        refine goes_ Try.func77 (by kernel_rfl) rfl #[ptrG G] (by rfl) rfl rfl (by (try simp only [List.map_toArray, List.map_cons, List.map_nil]); first | done | rfl) ?_
        with_reducible refine (first_calls B G g cap s _ hs'.out hlen hst'.out.grp.drew).mono ?_
        rintro e w11 ⟨rfl, hb⟩
        refine ⟨_, rfl, ?_⟩
        refine hK.out _ _ ⟨(hb.cell (World.block_lt_of_cell? _ _ hHeld.1)).trans hHeld.1, (hb.cell (World.block_lt_of_cell? _ _ hHeld.2)).trans hHeld.2⟩ (fun hHeld => ?_)
        clear hK K
        refine norm_ (a' := ?_) ?_ ?_
        rotate_left
        · show Act.put _ (some 16) _ = _
          simp only [Act.put, List.setIfInBounds_toArray, List.set_cons_zero, List.set_cons_succ, i64_w, i32_w]
          rfl
        refine pure_ (i := 6) (N := some 17) (v := ?_) (a' := ?_) #[true, true, true, true, true, true, true, false] rfl rfl (by kernel_rfl) (fun _ _ _ h => h) (Or.inl ⟨by rfl, ?_⟩) ?_ ?_
        rotate_left
        · intro w'
          go_simp
          with_reducible rfl
        rotate_left
        · simp only [Act.put, List.setIfInBounds_toArray, List.set_cons_zero, List.set_cons_succ, i64_w, i32_w]
          rfl
        refine pure_ (i := 7) (N := some 3) (v := ?_) (a' := ?_) #[true, true, true, true, true, true, true, true] rfl rfl (by kernel_rfl) (fun _ _ _ h => h) (Or.inl ⟨by rfl, ?_⟩) ?_ ?_
        rotate_left
        · intro w'
          go_simp
          with_reducible rfl
        rotate_left
        · simp only [Act.put, List.setIfInBounds_toArray, List.set_cons_zero, List.set_cons_succ, i64_w, i32_w]
          rfl
        refine done_ (by kernel_rfl) ?_
        have hg1 := grp_below hst'.out.grp.drew hb
        have bQ1 := hst'.out.box.drew.below hb hst'.out.box.lt
        have hM1 : Mt G (some g) wr w11 := (Mt.of_below (show Below wr.heap.size wr w11 from ⟨hb.os, hb.tape, hb.output, hb.size, hb.block⟩))
        obtain ⟨y0, y1, y2⟩ := hg1.cellR (i := firstL s) (c := c) (by first | exact hc'.out | assumption)
        have hg1' := Lib.hid hg1
        have bQ1' := Lib.hid bQ1
        have hM1' := Lib.hid hM1
        clear hHeld hb z0 z1 z2 b0 g0 hg1 bQ1 hM1 hfz
        go_wp2
        refine start_ (n := 12) (S := fun w' => w'.cell? ⟨g, firstL s * 3, none⟩ = some (.int .i64 c.id) ∧ w'.cell? ⟨g, firstL s * 3 + 1, none⟩ = some (.int .i64 c.t) ∧ w'.cell? ⟨g, firstL s * 3 + 2, none⟩ = some (.int .i64 c.p)) (ds := [11]) #[false, false, false, false, false, false, false, false, false, false, false, false] (by kernel_rfl) rfl rfl ⟨y0, y1, y2⟩ (fun hHeld => ?_)
        refine pure_ (i := 0) (N := some 18) (v := ?_) (a' := ?_) #[true, false, false, false, false, false, false, false, false, false, false, false] rfl rfl (by kernel_rfl) (fun _ _ _ h => h) (Or.inl ⟨by rfl, ?_⟩) ?_ ?_
        rotate_left
        · intro w'
          go_simp
          with_reducible rfl
        rotate_left
        · simp only [Act.put, List.setIfInBounds_toArray, List.set_cons_zero, List.set_cons_succ, i64_w, i32_w]
          rfl
        refine pure_ (i := 1) (N := some 19) (v := ?_) (a' := ?_) #[true, true, false, false, false, false, false, false, false, false, false, false] rfl rfl (by kernel_rfl) (fun _ _ _ h => h) (Or.inl ⟨by rfl, ?_⟩) ?_ ?_
        rotate_left
        · intro w'
          go_simp
          with_reducible rfl
        rotate_left
        · simp only [Act.put, List.setIfInBounds_toArray, List.set_cons_zero, List.set_cons_succ, i64_w, i32_w]
          rfl
        refine pure_ (i := 2) (N := some 20) (v := ?_) (a' := ?_) #[true, true, true, false, false, false, false, false, false, false, false, false] rfl rfl (by kernel_rfl) (fun _ _ _ h => h) (Or.inl ⟨by rfl, ?_⟩) ?_ ?_
        rotate_left
        · intro w'
          go_simp
          with_reducible rfl
        rotate_left
        · simp only [Act.put, List.setIfInBounds_toArray, List.set_cons_zero, List.set_cons_succ, i64_w, i32_w]
          rfl
        refine take_ (i := 3) (N := some 21) (v := ?_) (a' := ?_) #[true, true, true, true, false, false, false, false, false, false, false, false] rfl rfl (by kernel_rfl) (fun _ _ _ h => h) (Or.inl ⟨by rfl, ?_⟩) hHeld ?_ ?_
        rotate_left
        · rintro w' ⟨s0, s1, s2⟩
          go_simp
          with_reducible rfl
        rotate_left
        · simp only [Act.put, List.setIfInBounds_toArray, List.set_cons_zero, List.set_cons_succ, i64_w, i32_w]
          rfl
        refine pure_ (i := 4) (N := some 22) (v := ?_) (a' := ?_) #[true, true, true, true, true, false, false, false, false, false, false, false] rfl rfl (by kernel_rfl) (fun _ _ _ h => h) (Or.inl ⟨by rfl, ?_⟩) ?_ ?_
        rotate_left
        · intro w'
          go_simp
          with_reducible rfl
        rotate_left
        · simp only [Act.put, List.setIfInBounds_toArray, List.set_cons_zero, List.set_cons_succ, i64_w, i32_w]
          rfl
        refine pure_ (i := 5) (N := some 23) (v := ?_) (a' := ?_) #[true, true, true, true, true, true, false, false, false, false, false, false] rfl rfl (by kernel_rfl) (fun _ _ _ h => h) (Or.inl ⟨by rfl, ?_⟩) ?_ ?_
        rotate_left
        · intro w'
          go_simp
          with_reducible rfl
        rotate_left
        · simp only [Act.put, List.setIfInBounds_toArray, List.set_cons_zero, List.set_cons_succ, i64_w, i32_w]
          rfl
        refine take_ (i := 6) (N := some 24) (v := ?_) (a' := ?_) #[true, true, true, true, true, true, true, false, false, false, false, false] rfl rfl (by kernel_rfl) (fun _ _ _ h => h) (Or.inl ⟨by rfl, ?_⟩) hHeld ?_ ?_
        rotate_left
        · rintro w' ⟨s0, s1, s2⟩
          go_simp
          with_reducible rfl
        rotate_left
        · simp only [Act.put, List.setIfInBounds_toArray, List.set_cons_zero, List.set_cons_succ, i64_w, i32_w]
          rfl
        refine one_ (i := 7) (N := some 25) #[true, true, true, true, true, true, true, true, false, false, false, false] rfl rfl (by kernel_rfl) (by decide) (fun K hK => ?_)
        refine goes_ Try.func79 (by kernel_rfl) rfl #[encC c] (by rfl) rfl rfl (by (try simp only [List.map_toArray, List.map_cons, List.map_nil]); first | done | rfl) ?_
        with_reducible refine (stride_calls c _ k1' k2').mono ?_
        rintro e w12 ⟨rfl, hw12⟩
        refine ⟨_, rfl, ?_⟩
        refine hK.out _ _ ⟨by rw [hw12]; exact (World.cell?_alloc_lt _ _ _ (World.block_lt_of_cell? _ _ hHeld.1)).trans hHeld.1, by rw [hw12]; exact (World.cell?_alloc_lt _ _ _ (World.block_lt_of_cell? _ _ hHeld.2.1)).trans hHeld.2.1, by rw [hw12]; exact (World.cell?_alloc_lt _ _ _ (World.block_lt_of_cell? _ _ hHeld.2.2)).trans hHeld.2.2⟩ (fun hHeld => ?_)
        clear hK K
        refine norm_ (a' := ?_) ?_ ?_
        rotate_left
        · show Act.put _ (some 25) _ = _
          simp only [Act.put, List.setIfInBounds_toArray, List.set_cons_zero, List.set_cons_succ, i64_w, i32_w]
          rfl
        have hg2 : Grp tG tC B G (.slice (some ⟨g, 0, none⟩) s.length cap) s w12 := by rw [hw12]; exact hg1'.out.drew.alloc _
        have bQ2 : Blk w12 QB 24 #[ptrG G] := by rw [hw12]; exact bQ1'.out.drew.alloc _
        have hM2 : Mt G (some g) wr w12 := by rw [hw12]; exact hM1'.out.drew.alloc _
        have hg2' := Lib.hid hg2
        have bQ2' := Lib.hid bQ2
        have hM2' := Lib.hid hM2
        clear hg2 bQ2 hM2 hw12
        refine pure_ (i := 8) (N := some 26) (v := ?_) (a' := ?_) #[true, true, true, true, true, true, true, true, true, false, false, false] rfl rfl (by kernel_rfl) (fun _ _ _ h => h) (Or.inl ⟨by rfl, ?_⟩) ?_ ?_
        rotate_left
        · intro w'
          go_simp
          with_reducible rfl
        rotate_left
        · simp only [Act.put, List.setIfInBounds_toArray, List.set_cons_zero, List.set_cons_succ, i64_w, i32_w]
          rfl
        refine pure_ (i := 9) (N := some 27) (v := ?_) (a' := ?_) #[true, true, true, true, true, true, true, true, true, true, false, false] rfl rfl (by kernel_rfl) (fun _ _ _ h => h) (Or.inl ⟨by rfl, ?_⟩) ?_ ?_
        rotate_left
        · intro w'
          go_simp
          with_reducible rfl
        rotate_left
        · simp only [Act.put, List.setIfInBounds_toArray, List.set_cons_zero, List.set_cons_succ, i64_w, i32_w]
          rfl
        refine pure_ (i := 10) (N := some 28) (v := ?_) (a' := ?_) #[true, true, true, true, true, true, true, true, true, true, true, false] rfl rfl (by kernel_rfl) (fun _ _ _ h => h) (Or.inl ⟨by rfl, ?_⟩) ?_ ?_
        rotate_left
        · intro w'
          go_simp
          with_reducible rfl
        rotate_left
        · simp only [Act.put, List.setIfInBounds_toArray, List.set_cons_zero, List.set_cons_succ, i64_w, i32_w]
          rfl
        refine last_ (i := 11) (N := none) #[true, true, true, true, true, true, true, true, true, true, true, true] rfl rfl (by kernel_rfl) (by decide) (fun K hK => ?_)
        have t2 := hHeld.2.2
        have tf := hg2'.out.frozenR (firstL s * 3 + 2)
        refine skip_ (w1 := ?_) (by rfl) rfl ?_ ?_
        rotate_left
        · go_simp
          rfl
        refine hK.out _ _ ?_
        clear hK K
        refine done_ (by kernel_rfl) ?_
        have hg3 := hg2'.out.setP tGC (firstL s) (c.p + sd c.t)
        rw [hmb'.out] at hg3
        have hgne : QB ≠ g := fun e => by
          have h1 := bQ2'.out
          obtain ⟨_, _, cur, h2⟩ := own_block hg2'.out.row (k := g) rfl
          rw [e] at h1
          have h3 := Option.some.inj (h1.symm.trans h2)
          injection h3 with _ h4 _
          exact absurd h4 (by decide)
        have bQ3 := bQ2'.out.other (a := ⟨g, firstL s * 3 + 2, none⟩) hgne (.int .i64 (c.p + sd c.t))
        have hM3 := hM2'.out.setR (firstL s * 3 + 2) (.int .i64 (c.p + sd c.t))
        have hid3 : (w12.setCell ⟨g, firstL s * 3 + 2, none⟩ (.int .i64 (c.p + sd c.t))).cell? ⟨g, firstL s * 3, none⟩ = some (.int .i64 c.id) := (World.cell?_setCell_other _ ⟨g, firstL s * 3 + 2, none⟩ ⟨g, firstL s * 3, none⟩ _ (by simp)).trans hHeld.1
        clear hHeld y0 y1 y2
        generalize (World.setCell w12 ⟨g, firstL s * 3 + 2, none⟩ (.int .i64 (c.p + sd c.t))) = WD at *
        have bq := bQ3.cell 0
        simp only [List.getElem?_toArray, List.getElem?_cons_zero] at bq
        have hg3' := Lib.hid hg3
        have bQ3' := Lib.hid bQ3
        have hM3' := Lib.hid hM3
        clear hg3 bQ3 hM3
        go_upto_region 5 with ((with_reducible refine gate_callee (f := 46) rfl ?_); refine goesL_ (some 34) rfl rfl Try.func46 (by kernel_rfl) rfl #[ptrG G] rfl (by (try simp only [List.map_toArray, List.map_cons, List.map_nil]); first | done | rfl) ?_; (with_reducible refine (level_calls B G _ (s.modify (firstL s) bump) _ (by rw [List.length_modify]; exact hlen) hbb.out hg3'.out).mono ?_); rintro e w13 ⟨⟨rv, rfl⟩, hg4, hM4⟩; refine ⟨_, rfl, ?_⟩; have hg4' := Lib.hid hg4; have hM4' := Lib.hid hM4; clear hg4 hM4)
        have hg5 : StQ QB B G (.slice (some ⟨g, 0, none⟩) s.length cap) (pickL s).1 w13 := ⟨pick_good hgood'.out, (show w13.heap[QB]? = _ from (hM4'.out.block QB bQ3'.out.lt (fun e => by
            have h1 := bQ3'.out
            have h2 := hg3'.out.blk
            rw [e] at h1
            have h3 := Option.some.inj (h1.symm.trans h2)
            injection h3 with _ h4 _
            exact absurd h4 (by decide)) (fun e => hgne (by simpa [Value.ownBlock] using e))).trans bQ3'.out), by rw [hpl'.out]; exact hg4'.out⟩
        have hM5 : MuQ G (.slice (some ⟨g, 0, none⟩) s.length cap) wr w13 := by
          have h1 : Mt G (Value.slice (some ⟨g, 0, none⟩) s.length cap).ownBlock wr w13 := hM3'.out.trans hM4'.out (.inl rfl)
          exact ⟨h1, h1.others hst'.out.grp⟩
        have hJ5 := hJ _ _ _ _ HJ.out hM5
        obtain ⟨fn, tm, asg, bdy, hy, hR⟩ := hY pre s (pickL s).2 (pickL s).1 w13 hJ5 hstep'.out hg5
        rw [hpid'.out] at hy hR
        have hg5' := Lib.hid hg5
        clear hg5 hM5 hJ5
        refine (wpIn_wide (n := m)).1 ?_
        gi_wp2
        refine ⟨fun h => absurd h (by simp [Fence.wide]), ?_⟩
        refine hR.mono ?_
        rintro e W3 ⟨hk, (⟨rfl, hJ3⟩ | ⟨rfl, hJx3⟩)⟩
        · have hS3 := Lib.hid (hg5'.out.kept hk)
          have hJ3' := Lib.hid hJ3
          clear hk hJ3
          gi_wp2
          go_wp2
          go_roundg k1
          case rel => exact ⟨pre ++ [c.id], (pickL s).1, ⟨hS3.out⟩, ⟨hJ3'.out⟩, ⟨by rw [List.length_append]; simp; omega⟩⟩
          all_goals (try omega)
        · have hS3 := Lib.hid (hg5'.out.kept hk)
          have hJ3' := Lib.hid hJx3
          clear hk hJx3
          gi_wp2
          go_wp2
          refine bodyPost_ret (results_none rfl _ _ _) rfl ?_
          exact ⟨⟨_, rfl⟩, pre ++ [c.id], (pickL s).1, hS3.out, .inr hJ3'.out⟩
end Go.Proofs.Ytkcmmghhghgdpaa.Str
end
section
namespace Go.Proofs.Ytkcmmghhghgdpaa.Str
open Go.RowKit Go.Shelf Go.Maps Go.Proofs.Ytkcmmghhghgdpaa.Iter Go.Proofs.Ytkcmmghhghgdpaa.SeqM Go.Proofs.YtkcmmghhghgdpaaW.PrintWords Go.Proofs.YtkcmmghhghgdpaaW.PrintLast
set_option linter.unusedVariables false
set_option linter.unusedSimpArgs false
attribute [local go_sem] Oper.semAt_some
abbrev tP : Nat := 24
theorem quanta_calls (G : Nat) (W : World) : Calls Try.prog 47 #[ptrG G] W fun e W' => e = .returned (.func (.func 78) #[] #[.pointer (some ⟨W.heap.size, 0, none⟩)]) ∧ W' = W.alloc (.cells #[ptrG G] tP) := by
  go_enter Try.func47, Try.ntmps47
  go_wp2
  go_ret
  exact ⟨rfl, rfl⟩
theorem ownFrom_mt {β : Type} {B' G : Nat} {r : Option Nat} {W : World} (h : W.heap.size ≤ B') : OwnFrom B' (fun (_ : β) W1 => Mt G r W W1) := fun s X Y row hs hg hr =>
  ⟨hg.os.trans hs.os, hg.tape.trans hs.tape, hg.output.trans hs.output, Nat.le_trans hs.size hg.size, fun k hk h1 h2 => (hg.block k (Nat.lt_of_lt_of_le hk hs.size) (fun e => by have := (hr k e.symm).1; omega)).trans (hs.block k hk h1 h2)⟩
theorem ownFrom_grp {β : Type} {B' B G : Nat} {v : Value} {f : β → List Cl} {QB : Nat} : OwnFrom B' (fun (s : List Cl) W => StQ QB B G v s W) := fun s X Y row hs hg hr => by
  have keep : ∀ k (o : Obj), X.heap[k]? = some o → o.isCells = true → Y.heap[k]? = X.heap[k]? := fun k o hk ho => hg.block k (Array.getElem?_eq_some_iff.1 hk).1 (fun e => by
    obtain ⟨_, o', h1, h2⟩ := hr k e.symm
    rw [hk] at h1
    cases h1
    rw [ho] at h2
    cases h2)
  exact ⟨hs.good, (keep _ _ hs.box rfl).trans hs.box, hs.grp.move (keep _ _ hs.grp.blk rfl) (fun k hk => by
    obtain ⟨_, _, cur, hc⟩ := own_block hs.grp.row hk
    exact keep _ _ hc rfl)⟩
theorem KpQ.t {QB G : Nat} {v : Value} {X Y Z : World} (h : KpQ QB G v X Y) (k : KpQ QB G v Y Z) : KpQ QB G v X Z := ⟨k.1.trans h.1, k.2.1.trans h.2.1, fun b hb => (k.2.2 b hb).trans (h.2.2 b hb)⟩
theorem mt_put {G : Nat} {r : Option Nat} {W X : World} {D : Nat} {o : Obj} (h : Mt G r W X) (hD : W.heap.size ≤ D) : Mt G r W (X.putObj D o) :=
  ⟨h.os, h.tape, h.output, by rw [World.putObj_size]; exact h.size, fun k hk h1 h2 => (World.putObj_heap_other (by omega)).trans (h.block k hk h1 h2)⟩
/-- What Pick answers. -/
def pickR (l : List Cl) : List Cl × Int × Int := if l = [] then (l, 0, 8) else ((pickL l).1, (pickL l).2, 0)
theorem blk_mu {G R : Nat} {v : Value} {t : TypeId} {cs : Array Value} {X Y : World} (h : Blk X R t cs) (hm : MuQ G v X Y) (h1 : R ≠ G) (h2 : v.ownBlock ≠ some R) : Blk Y R t cs := (hm.1.block R h.lt h1 (fun e => h2 e.symm)).trans h

set_option maxRecDepth 100000 in
set_option maxHeartbeats 4000000 in
theorem pick_calls (B G : Nat) (v : Value) (l : List Cl) (W : World) (hgood : GoodG l) (hg : Grp tG tC B G v l W) :
    Calls Try.prog 23 #[ptrG G] W fun e W' => e = .returned (.tuple #[.int .i64 (pickR l).2.1, .int .i64 (pickR l).2.2]) ∧ Grp tG tC B G v (pickR l).1 W' ∧ Mt G v.ownBlock W W' := by
  refine (callsIn_wide (n := 6)).1 ?_
  refine callsIn_of_wp_marks Try.func23 rfl trivial ?_ rfl
  simp only [Try.ntmps23, List.size_toArray, List.length_cons, List.length_nil, Nat.reduceAdd, Nat.reduceSub, Array.replicate_succ, Array.replicate_zero, List.push_toArray, List.append_toArray, List.nil_append, List.cons_append]
  have hGl := hg.lt
  have hvl : ∀ k, v.ownBlock = some k → k < W.heap.size := fun k hk => (own_block hg.row hk).2.1
  gi_wp2_with (refine ⟨trivial, ?_⟩; gi_at_call 47; refine (callsIn_wide.2 (quanta_calls G _)).mono ?_; rintro e w' ⟨rfl, rfl⟩)
  have b2 := ((Blk.new W 3 #[.int .i64 0]).alloc (.cells #[.int .i64 0] 26)).alloc (.cells #[ptrG G] tP)
  have b3 := (Blk.new (W.alloc (.cells #[.int .i64 0] 3)) 26 #[.int .i64 0]).alloc (.cells #[ptrG G] tP)
  have bQ := Blk.new ((W.alloc (.cells #[.int .i64 0] 3)).alloc (.cells #[.int .i64 0] 26)) tP #[ptrG G]
  simp only [World.size_alloc] at b3 bQ
  have hM0 : Mt G v.ownBlock W (((W.alloc (.cells #[.int .i64 0] 3)).alloc (.cells #[.int .i64 0] 26)).alloc (.cells #[ptrG G] tP)) := (((Mt.refl _ _ _).alloc _).alloc _).alloc _
  have hg0 : Grp tG tC B G v l (((W.alloc (.cells #[.int .i64 0] 3)).alloc (.cells #[.int .i64 0] 26)).alloc (.cells #[ptrG G] tP)) := ((hg.alloc _).alloc _).alloc _
  have hsz : (((W.alloc (.cells #[.int .i64 0] 3)).alloc (.cells #[.int .i64 0] 26)).alloc (.cells #[ptrG G] tP)).heap.size = W.heap.size + 3 := by simp
  obtain ⟨W0, hW0⟩ : ∃ W0, (((W.alloc (.cells #[.int .i64 0] 3)).alloc (.cells #[.int .i64 0] 26)).alloc (.cells #[ptrG G] tP)) = W0 := ⟨_, rfl⟩
  rw [hW0] at b2 b3 bQ hM0 hg0 hsz ⊢
  clear hW0
  have hv2 : ∀ r, W.heap.size ≤ r → v.ownBlock ≠ some r := fun r hr e => by have := hvl r e; omega
  refine wpIn_rangeM (F := Fence.wide) rfl (by omega) (gf := 78) (lb := #[.pointer (some ⟨W.heap.size + 1 + 1, 0, none⟩)]) rfl trivial (enters_of Try.func78 (by kernel_rfl) rfl)
    (enc := fun id : Int => #[.int .i64 id]) (step := stepQ) (St := StQ (W.heap.size + 1 + 1) B G v) (Mu := MuQ G v) (Kp := KpQ (W.heap.size + 1 + 1) G v) (N := 1) (s0 := l)
    (fun W1 h _ => quanta_seq _ _ B G v l 1 W1 h)
    (ownFrom_grp (f := fun s : List Cl => s)) KpQ.t
    (fun X r o o' hr hr2 ho => ⟨World.putObj_heap_other (by omega), World.putObj_heap_other (by omega), fun k hk => World.putObj_heap_other (by have := hvl k hk; omega)⟩)
    (fun X Y h => h.2) (fun _ => rfl)
    (fun pre s X => (((pre = [] ∧ s = l) ∧ Blk X W.heap.size 3 #[.int .i64 0]) ∧ Blk X (W.heap.size + 1) 26 #[.int .i64 0]) ∧ Mt G v.ownBlock W X)
    (fun c pre s X => (((c = .ret ∧ s = (pickL l).1 ∧ l ≠ []) ∧ Blk X W.heap.size 3 #[.int .i64 (pickL l).2]) ∧ Blk X (W.heap.size + 1) 26 #[.int .i64 0]) ∧ Mt G v.ownBlock W X)
    (fun s => OwnFrom.and (OwnFrom.and (OwnFrom.and (ownFrom_pure _ _) (Own.from (blk_own _ _ _) _)) (Own.from (blk_own _ _ _) _)) (ownFrom_mt (by omega)))
    (fun c s => OwnFrom.and (OwnFrom.and (OwnFrom.and (ownFrom_pure _ _) (Own.from (blk_own _ _ _) _)) (Own.from (blk_own _ _ _) _)) (ownFrom_mt (by omega)))
    (fun pre s X Y hs hm => ⟨⟨⟨hs.1.1.1, blk_mu hs.1.1.2 hm (by omega) (hv2 _ (by omega))⟩, blk_mu hs.1.2 hm (by omega) (hv2 _ (by omega))⟩, hs.2.trans hm.1 (.inl rfl)⟩)
    (fun pre s X hs => by rw [hs.1.1.1.1]; simp) ⟨⟨⟨⟨rfl, rfl⟩, b2⟩, b3⟩, hM0⟩ ⟨hgood, bQ, hg0⟩
    (fun x : Int => { tmps := #[ptrG G, undef, .pointer (some ⟨W.heap.size, 0, none⟩), .pointer (some ⟨W.heap.size + 1, 0, none⟩), .int .i64 x, ptrG G, .bool false, ptrG G, .func (.func 78) #[] #[.pointer (some ⟨W.heap.size + 1 + 1, 0, none⟩)], .int .i64 x, undef], defers := [] })
    ?assign ?body ?done ?stop
  case assign =>
    rintro ll x X K hK
    gi_wp2
    first | simpa using hK | (simp only [List.zip_toArray, List.zip_cons_cons, List.zip_nil_right, List.foldl_toArray, List.foldl_cons, List.foldl_nil, List.setIfInBounds_toArray, List.set_cons_succ, List.set_cons_zero]; exact hK) | (simp [Array.foldl, Array.zip] at hK ⊢; exact hK)
  case body =>
    rintro ll pre s x s' X ⟨⟨⟨⟨rfl, rfl⟩, c2⟩, c3⟩, hM⟩ hstep hst
    have hn : s ≠ [] := by intro e; rw [e] at hstep; cases hstep
    have hx : (pickL s).2 = x ∧ (pickL s).1 = s' := by
      unfold stepQ at hstep
      rw [if_neg hn] at hstep
      simpa using hstep
    obtain ⟨rfl, rfl⟩ := hx
    have f2 := c2.frozen 0
    have f3 := c3.frozen 0
    have q2 := c2.cell 0
    have q3 := c3.cell 0
    try simp only [List.getElem?_toArray, List.getElem?_cons_zero] at q2 q3
    generalize hpv : (pickL s).2 = pv at *
    gi_wp2
    have hb2 : ∀ (w : World) (b o : Nat) (u : Value) (k : Nat), k < W.heap.size ∨ k = W.heap.size + 1 + 1 → W.heap.size ≤ b → b < W.heap.size + 2 → (w.setCell ⟨b, o, none⟩ u).heap[k]? = w.heap[k]? := fun w b o u k hk h1 h2 => Below.heap_setCell w ⟨b, o, none⟩ u k (show k ≠ b by omega)
    refine ⟨(KeepsOthers.setCell _ _ _).trans (KeepsOthers.setCell _ _ _), ⟨?_, ?_, fun b hb => ?_⟩, ⟨⟨⟨rfl, rfl, hn⟩, ?_⟩, ?_⟩, ?_⟩
    · exact (hb2 _ _ _ _ _ (.inr rfl) (by omega) (by omega)).trans (hb2 _ _ _ _ _ (.inr rfl) (by omega) (by omega))
    · exact (hb2 _ _ _ _ _ (.inl hGl) (by omega) (by omega)).trans (hb2 _ _ _ _ _ (.inl hGl) (by omega) (by omega))
    · have := hvl b hb
      exact (hb2 _ _ _ _ _ (.inl this) (by omega) (by omega)).trans (hb2 _ _ _ _ _ (.inl this) (by omega) (by omega))
    · exact (c2.set 0 (.int .i64 pv) (by simp)).other (by simp) _
    · exact (c3.other (by simp) _).set 0 (.int .i64 0) (by simp)
    · exact (hM.new (Nat.le_refl _) _ _).new (by omega) _ _
  case done =>
    rintro D pre s X hD hno ⟨⟨⟨⟨rfl, rfl⟩, c2⟩, c3⟩, hM⟩ hst hK
    have hs0 : s = [] := by
      unfold stepQ at hno
      split at hno
      · assumption
      · cases hno
    have f2 := c2.frozen 0
    have f3 := c3.frozen 0
    have q2 := c2.cell 0
    have q3 := c3.cell 0
    try simp only [List.getElem?_toArray, List.getElem?_cons_zero] at q2 q3
    gi_wp2
    have hK' := ((KeepsOthers.setCell X ⟨W.heap.size, 0, none⟩ (.int .i64 0)).trans (KeepsOthers.setCell _ ⟨W.heap.size + 1, 0, none⟩ (.int .i64 8))).same D _ hK rfl
    refine ⟨by simp, .inl ⟨_, _, rfl, run_takeDeferred hK', ?_⟩⟩
    have d2 := (c2.set 0 (.int .i64 0) (by simp)).other (a := ⟨W.heap.size + 1, 0, none⟩) (by simp) (.int .i64 8)
    have d3 := (c3.other (a := ⟨W.heap.size, 0, none⟩) (by simp) (.int .i64 0)).set 0 (.int .i64 8) (by simp)
    have hM2 := (hM.new (b := W.heap.size) (Nat.le_refl _) 0 (.int .i64 0)).new (b := W.heap.size + 1) (by omega) 0 (.int .i64 8)
    have hg2 : Grp tG tC B G v s ((X.setCell ⟨W.heap.size, 0, none⟩ (.int .i64 0)).setCell ⟨W.heap.size + 1, 0, none⟩ (.int .i64 8)) := hst.grp.move
      ((Below.heap_setCell _ _ _ _ (by simp; omega)).trans (Below.heap_setCell _ _ _ _ (by simp; omega)))
      (fun k hk => by have := hvl k hk; exact (Below.heap_setCell _ _ _ _ (by simp; omega)).trans (Below.heap_setCell _ _ _ _ (by simp; omega)))
    generalize ((X.setCell ⟨W.heap.size, 0, none⟩ (.int .i64 0)).setCell ⟨W.heap.size + 1, 0, none⟩ (.int .i64 8)) = Y at *
    have e2 := cell_kept ((d2.cell 0).trans rfl) (grownBy_putObj' _ D (.deferred none)) (fun r e => by cases e; exact ⟨_, hK', rfl⟩)
    have e3 := cell_kept ((d3.cell 0).trans rfl) (grownBy_putObj' _ D (.deferred none)) (fun r e => by cases e; exact ⟨_, hK', rfl⟩)
    refine ⟨.tuple #[.int .i64 0, .int .i64 8], ?_, ?_, ?_, ?_⟩
    · simp [results, Try.f23, go_sem, e2, e3]
    · simp [pickR, hs0]
    · rw [show (pickR s).1 = s by simp [pickR, hs0]]
      exact hg2.move (World.putObj_heap_other (by omega)) (fun k hk => World.putObj_heap_other (by have := hvl k hk; omega))
    · exact mt_put hM2 (by omega)
  case stop =>
    rintro D c pre s X hD ⟨⟨⟨⟨rfl, rfl, hn⟩, c2⟩, c3⟩, hM⟩ hst hK
    have q2 := c2.cell 0
    have q3 := c3.cell 0
    try simp only [List.getElem?_toArray, List.getElem?_cons_zero] at q2 q3
    gi_wp2
    refine ⟨by simp, .inl ⟨_, _, rfl, run_takeDeferred hK, ?_⟩⟩
    have e2 := cell_kept q2 (grownBy_putObj' _ D (.deferred none)) (fun r e => by cases e; exact ⟨_, hK, rfl⟩)
    have e3 := cell_kept q3 (grownBy_putObj' _ D (.deferred none)) (fun r e => by cases e; exact ⟨_, hK, rfl⟩)
    have hp : pickR l = ((pickL l).1, (pickL l).2, 0) := by simp [pickR, hn]
    rw [hp]
    refine ⟨.tuple #[.int .i64 (pickL l).2, .int .i64 0], ?_, rfl, ?_, ?_⟩
    · simp [results, Try.f23, go_sem, e2, e3]
    · exact hst.grp.move (World.putObj_heap_other (by omega)) (fun k hk => World.putObj_heap_other (by have := hvl k hk; omega))
    · exact mt_put hM (by omega)
end Go.Proofs.Ytkcmmghhghgdpaa.Str
end
section
namespace Go.Proofs.Ytkcmmghhghgdpaa.Str
open Go.RowKit Go.Shelf Go.Maps Go.Proofs.Ytkcmmghhghgdpaa.Iter Go.Proofs.Ytkcmmghhghgdpaa.SeqM Go.Proofs.YtkcmmghhghgdpaaW.PrintWords Go.Proofs.YtkcmmghhghgdpaaW.PrintLast
set_option linter.unusedVariables false
set_option linter.unusedSimpArgs false
attribute [local go_sem] Oper.semAt_some
theorem infoInt : (Try.prog.info? 3).map (fun i => (i.zero, i.size, i.bytes)) = some (some (.int .i64 0), 1, 8) := by kernel_rfl
theorem run_snoc (k : Nat) (l : List Cl) : runL (k + 1) l = ((pickL (runL k l).1).1, (runL k l).2 ++ [(pickL (runL k l).1).2]) := run_app k 1 l
/-- What Run answers. -/
def runR (l : List Cl) (n : Int) : List Cl × List Int × Int :=
  if n < 0 ∨ n > 100000 then (l, [], 1) else if n = 0 then (l, [], 0) else if l = [] then (l, [], 8) else ((runL n.toNat l).1, (runL n.toNat l).2, 0)

set_option maxRecDepth 100000 in
set_option maxHeartbeats 4000000 in
theorem run_calls (B G : Nat) (v : Value) (l : List Cl) (n : Int) (W : World) (hgood : GoodG l) (hg : Grp tG tC B G v l W) :
    Calls Try.prog 17 #[ptrG G, .int .i64 n] W fun e W' => ∃ u, e = .returned (.tuple #[u, .int .i64 (runR l n).2.2]) ∧ W'.ownsRow W.heap.size 3 1 u (runR l n).2.1.length ((runR l n).2.1.map (Value.int .i64)) ∧ Grp tG tC B G v (runR l n).1 W' ∧ Mt G v.ownBlock W W' := by
  have hGl := hg.lt
  have hvl : ∀ k, v.ownBlock = some k → k < W.heap.size := fun k hk => (own_block hg.row hk).2.1
  by_cases h1 : n < 0 ∨ n > 100000
  · have hr := Lib.hid (show runR l n = (l, [], 1) from if_pos h1)
    have hfin := Lib.hid (show W.ownsRow W.heap.size 3 1 (.slice none 0 0) 0 [] from World.ownsRow_nil _ _ _ _)
    have hM := Lib.hid ((Mt.refl G v.ownBlock W).alloc (.cells #[.int .i64 n] 3))
    have hG := Lib.hid (hg.alloc (.cells #[.int .i64 n] 3))
    clear hg hgood
    rcases h1 with h1 | h1
    · go_enter Try.func17, Try.ntmps17
      go_wp2
      go_ret2
      exact ⟨_, by rw [hr.out]; rfl, by rw [hr.out]; exact World.ownsRow_nil _ _ _ _, by rw [hr.out]; exact hG.out, hM.out⟩
    · have h0 : ¬ n < 0 := by omega
      go_enter Try.func17, Try.ntmps17
      go_wp2
      go_ret2
      exact ⟨_, by rw [hr.out]; rfl, by rw [hr.out]; exact World.ownsRow_nil _ _ _ _, by rw [hr.out]; exact hG.out, hM.out⟩
  · have p1 : ¬ n < 0 := by omega
    have p2 : ¬ n > 100000 := by omega
    by_cases h2 : n = 0
    · subst h2
      have hr := Lib.hid (show runR l 0 = (l, [], 0) by unfold runR; rw [if_neg h1, if_pos rfl])
      have hM := Lib.hid ((Mt.refl G v.ownBlock W).alloc (.cells #[.int .i64 0] 3))
      have hG := Lib.hid (hg.alloc (.cells #[.int .i64 0] 3))
      clear hg hgood
      go_enter Try.func17, Try.ntmps17
      go_wp2
      go_ret2
      exact ⟨_, by rw [hr.out]; rfl, by rw [hr.out]; exact World.ownsRow_nil _ _ _ _, by rw [hr.out]; exact hG.out, hM.out⟩
    · by_cases h3 : l = []
      · have hr := Lib.hid (show runR l n = (l, [], 8) by unfold runR; rw [if_neg h1, if_neg h2, if_pos h3])
        have hM := Lib.hid ((Mt.refl G v.ownBlock W).alloc (.cells #[.int .i64 n] 3))
        have hG := Lib.hid (hg.alloc (.cells #[.int .i64 n] 3))
        have hc := hG.out.cellG
        obtain ⟨A, c, rfl⟩ : ∃ A c, v = .slice A 0 c := by
          subst h3
          rcases hg.row.2 with ⟨rfl, h0⟩ | ⟨g, cap, cur, rfl, _, _, hc, _⟩
          · exact ⟨none, 0, rfl⟩
          · exact ⟨_, cap, rfl⟩
        have h2' : ¬ (n == 0) = true := by simpa using h2
        clear hg hgood
        have h3' := Lib.hid h3
        clear h3
        go_enter Try.func17, Try.ntmps17
        go_wp2
        go_ret2
        exact ⟨_, by rw [hr.out]; rfl, by rw [hr.out]; exact World.ownsRow_nil _ _ _ _, by rw [hr.out]; exact hG.out, hM.out⟩
      · obtain ⟨N, rfl⟩ : ∃ N : Nat, n = (N : Int) := ⟨n.toNat, by omega⟩
        have hN0 : 0 < N := by omega
        have hN1 : N ≤ 100000 := by omega
        have hr := Lib.hid (show runR l (N : Int) = ((runL N l).1, (runL N l).2, 0) by unfold runR; rw [if_neg h1, if_neg h2, if_neg h3, Int.toNat_natCast])
        obtain ⟨g, cap, hv, hlc, hcm⟩ := hg.form h3
        have hlp : 0 < l.length := by cases l with | nil => exact absurd rfl h3 | cons => simp
        have hc := (hg.alloc (.cells #[.int .i64 (N : Int)] 3)).cellG
        rw [hv] at hc
        have hl0 : ¬ ((l.length : Int) = 0) := by omega
        obtain ⟨i0, hi, hz0, hz1, hz2⟩ := info_parts infoInt
        refine (callsIn_wide (n := 6)).1 ?_
        refine callsIn_of_wp_marks Try.func17 rfl trivial ?_ rfl
        simp only [Try.ntmps17, List.size_toArray, List.length_cons, List.length_nil, Nat.reduceAdd, Nat.reduceSub, Array.replicate_succ, Array.replicate_zero, List.push_toArray, List.append_toArray, List.nil_append, List.cons_append]
        gi_wp2_with (first | (gi_at_make; refine wpListIn_make_own _ rfl _ _ 22 rfl (W.heap.size + 1) 3 i0 (.int .i64 0) 1 Try.underlying22 hi hz0 hz1 .i64 .i64 (N : Int) N rfl rfl rfl (by rw [hz2]; omega) (by unfold maxLen; omega) (by simp) ?_; intro w1 hown hgrow) | (refine ⟨trivial, ?_⟩; gi_at_call 47; refine (callsIn_wide.2 (quanta_calls G _)).mono ?_; rintro e w' ⟨rfl, rfl⟩))
        have hs1 : W.heap.size + 1 < w1.heap.size := by have := (own_block hown (k := (W.alloc (.cells #[.int .i64 (N : Int)] 3)).heap.size) rfl).2.1; simpa using this
        have bN := ((((Blk.new W 3 #[.int .i64 (N : Int)]).kept hgrow (by simp)).alloc (.cells #[.slice (some ⟨W.heap.size + 1, 0, none⟩) 0 N] 22)).alloc (.cells #[ptrG G] tP))
        have bO := (Boxed.new w1 22 (.slice (some ⟨W.heap.size + 1, 0, none⟩) 0 N)).alloc (.cells #[ptrG G] tP)
        have bQ := Blk.new (w1.alloc (.cells #[.slice (some ⟨W.heap.size + 1, 0, none⟩) 0 N] 22)) tP #[ptrG G]
        simp only [World.size_alloc] at bQ hown
        have hrow0 := (hown.alloc (.cells #[.slice (some ⟨W.heap.size + 1, 0, none⟩) 0 N] 22)).alloc (.cells #[ptrG G] tP)
        have hM0 : Mt G v.ownBlock W ((w1.alloc (.cells #[.slice (some ⟨W.heap.size + 1, 0, none⟩) 0 N] 22)).alloc (.cells #[ptrG G] tP)) :=
          (((((Mt.refl _ _ _).alloc _).trans (r' := v.ownBlock) (Mt.of_below ⟨hgrow.os, hgrow.tape, hgrow.output, hgrow.size, fun k hk => hgrow.block k hk (by simp)⟩) (.inl rfl))).alloc _).alloc _
        have hg0 : Grp tG tC B G v l ((w1.alloc (.cells #[.slice (some ⟨W.heap.size + 1, 0, none⟩) 0 N] 22)).alloc (.cells #[ptrG G] tP)) :=
          ((grp_below (hg.alloc (.cells #[.int .i64 (N : Int)] 3)) ⟨hgrow.os, hgrow.tape, hgrow.output, hgrow.size, fun k hk => hgrow.block k hk (by simp)⟩).alloc _).alloc _
        have hsz : ((w1.alloc (.cells #[.slice (some ⟨W.heap.size + 1, 0, none⟩) 0 N] 22)).alloc (.cells #[ptrG G] tP)).heap.size = w1.heap.size + 2 := by simp
        obtain ⟨W0, hW0⟩ : ∃ W0, ((w1.alloc (.cells #[.slice (some ⟨W.heap.size + 1, 0, none⟩) 0 N] 22)).alloc (.cells #[ptrG G] tP)) = W0 := ⟨_, rfl⟩
        rw [hW0] at bN bO bQ hrow0 hM0 hg0 hsz ⊢
        clear hW0 hown hc hgrow
        obtain ⟨S1, hS1⟩ : ∃ S1, w1.heap.size = S1 := ⟨_, rfl⟩
        rw [hS1] at bO bQ hsz hs1 ⊢
        clear hS1
        have hv2 : ∀ r, W.heap.size ≤ r → v.ownBlock ≠ some r := fun r hr e => by have := hvl r e; omega
        refine wpIn_rangeM (F := Fence.wide) rfl (by omega) (gf := 78) (lb := #[.pointer (some ⟨S1 + 1, 0, none⟩)]) rfl trivial (enters_of Try.func78 (by kernel_rfl) rfl)
          (enc := fun id : Int => #[.int .i64 id]) (step := stepQ) (St := StQ (S1 + 1) B G v) (Mu := MuQ G v) (Kp := KpQ (S1 + 1) G v) (N := N) (s0 := l)
          (fun W1 h _ => quanta_seq _ _ B G v l N W1 h)
          (ownFrom_grp (f := fun s : List Cl => s)) KpQ.t
          (fun X r o o' hr hr2 ho => ⟨World.putObj_heap_other (by omega), World.putObj_heap_other (by omega), fun k hk => World.putObj_heap_other (by have := hvl k hk; omega)⟩)
          (fun X Y h => h.2) (fun _ => rfl)
          (fun pre s X => ((((s, pre) = runL pre.length l ∧ pre.length < N) ∧ Blk X W.heap.size 3 #[.int .i64 (N : Int)]) ∧ (∃ u, Boxed X S1 22 u ∧ X.ownsRow (W.heap.size + 1) 3 1 u pre.length (pre.map (Value.int .i64)) ∧ True)) ∧ Mt G v.ownBlock W X)
          (fun c pre s X => ((c = .exit 1 ∧ (s, pre) = runL N l) ∧ (∃ u, Boxed X S1 22 u ∧ X.ownsRow (W.heap.size + 1) 3 1 u pre.length (pre.map (Value.int .i64)) ∧ True)) ∧ Mt G v.ownBlock W X)
          (fun s => OwnFrom.and (OwnFrom.and (OwnFrom.and (ownFrom_pure _ _) (Own.from (blk_own _ _ _) _)) (Own.from (holdsRow_own (W.heap.size + 1) S1 22 3 1 (fun pre : List Int => pre.length) (fun pre => pre.map (Value.int .i64)) (fun _ _ => True)) _)) (ownFrom_mt (by omega)))
          (fun c s => OwnFrom.and (OwnFrom.and (ownFrom_pure _ _) (Own.from (holdsRow_own (W.heap.size + 1) S1 22 3 1 (fun pre : List Int => pre.length) (fun pre => pre.map (Value.int .i64)) (fun _ _ => True)) _)) (ownFrom_mt (by omega)))
          (fun pre s X Y hs hm => by
            obtain ⟨⟨⟨h1, h2⟩, u, hu, hrow, _⟩, h4⟩ := hs
            refine ⟨⟨⟨h1, blk_mu h2 hm (by omega) (hv2 _ (by omega))⟩, u, blk_mu (v := v) (show Blk X S1 22 #[u] from hu) hm (by omega) (hv2 _ (by omega)), own_move hrow (fun k hk => ?_), trivial⟩, h4.trans hm.1 (.inl rfl)⟩
            obtain ⟨e1, e2, _⟩ := own_block hrow hk
            exact hm.1.block k e2 (by omega) (fun e => hv2 k (by omega) e.symm))
          (fun pre s X hs => hs.1.1.1.2) ⟨⟨⟨⟨rfl, hN0⟩, bN⟩, _, bO, hrow0, trivial⟩, hM0⟩ ⟨hgood, bQ, hg0⟩
          (fun x : Int => { tmps := #[ptrG G, .int .i64 (N : Int), undef, .pointer (some ⟨W.heap.size, 0, none⟩), .slice none 0 0, .int .i64 0, .pointer (some ⟨S1, 0, none⟩), .int .i64 x, .bool false, ptrG G, .bool false, .bool false, .int .i64 (N : Int), .bool false, .bool false, .int .i64 (N : Int), .bool false, .bool false, .bool false, .int .i64 (N : Int), .bool false, .bool false, ptrG G, .pointer (some ⟨G, 0, none⟩), .pointer (some ⟨G, 0, none⟩),
            .slice (some ⟨g, 0, none⟩) l.length cap, .int .i64 (l.length : Int), .bool false, .int .i64 (N : Int), .slice (some ⟨W.heap.size + 1, 0, none⟩) 0 N, ptrG G, .func (.func 78) #[] #[.pointer (some ⟨S1 + 1, 0, none⟩)], .int .i64 x, undef, undef, undef, undef, undef, undef, undef, undef, undef], defers := [] })
          ?assign ?body ?done ?stop
        case assign =>
          rintro ll x X K hK
          gi_wp2
          first | simpa using hK | (simp only [List.zip_toArray, List.zip_cons_cons, List.zip_nil_right, List.foldl_toArray, List.foldl_cons, List.foldl_nil, List.setIfInBounds_toArray, List.set_cons_succ, List.set_cons_zero]; exact hK) | (simp [Array.foldl, Array.zip] at hK ⊢; exact hK)
        case body =>
          rintro ll pre s x s' X ⟨⟨⟨⟨hrun, hpl⟩, cN⟩, u, hu, hrow, _⟩, hM⟩ hstep hst
          have hn : s ≠ [] := by intro e; rw [e] at hstep; cases hstep
          have hx : (pickL s).2 = x ∧ (pickL s).1 = s' := by
            unfold stepQ at hstep
            rw [if_neg hn] at hstep
            simpa using hstep
          obtain ⟨rfl, rfl⟩ := hx
          have hrun2 := Lib.hid (show ((pickL s).1, pre ++ [(pickL s).2]) = runL (pre ++ [(pickL s).2]).length l by
            rw [List.length_append, List.length_singleton, run_snoc, ← hrun])
          generalize (pickL s).2 = pv at *
          have hc := hu.cell
          have hml : pre.length + 1 ≤ maxLen := by unfold maxLen; omega
          have qN := cN.cell 0
          try simp only [List.getElem?_toArray, List.getElem?_cons_zero] at qN
          have hXs := hM.size
          have hSX := hu.lt
          have bQ' := hst.box
          have hne : some (S1 + 1) ≠ u.ownBlock := (show Boxed X (S1 + 1) tP (ptrG G) from bQ').not_row (by decide) hrow
          have hbl := bQ'.lt
          have hrun' := Lib.hid hrun
          have hstep' := Lib.hid hstep
          clear hrun hstep
          gi_wp2_with (gi_at_builtin; refine wpListIn_append_own _ rfl _ _ 22 rfl (W.heap.size + 1) 3 i0 (.int .i64 0) 1 8 Try.underlying22 hi hz0 hz1 hz2 rfl (by decide) _ _ _ rfl (hrow.alloc _) ⟨X.heap.size, 0, none⟩ 1 1 [.int .i64 pv] rfl rfl (cell_one_new _ _ _) (by simp [Value.oneCell']) (by omega) (by omega) (by simp; omega) ?_; intro v' w2 hown' hgrow _; obtain ⟨g', cap', rfl⟩ := ownsRow_succ hown'; obtain ⟨hv1, hv2', hr2, hk2, hb2⟩ := hu.appended (by decide) hrow (by omega) (by omega) hown' hgrow; have hc1 := hv1.cell; have hf1 := hv1.frozen; have hq1 := (hb2.cell (p := ⟨W.heap.size, 0, none⟩) (by simp)).trans qN)
          all_goals
            have hq2 : w2.heap[S1 + 1]? = X.heap[S1 + 1]? := (hgrow.block (S1 + 1) (by simp; omega) hne).trans (Below.heap_alloc X _ _ hbl)
            have hKp : KpQ (S1 + 1) G v X (w2.setCell ⟨S1, 0, none⟩ (.slice (some ⟨g', 0, none⟩) (pre.length + 1) cap')) := ⟨(Below.heap_setCell _ ⟨S1, 0, none⟩ _ (S1 + 1) (by simp)).trans hq2, hb2.block G (by omega), fun b hb => hb2.block b (by have := hvl b hb; omega)⟩
            have hM2 : Mt G v.ownBlock W (w2.setCell ⟨S1, 0, none⟩ (.slice (some ⟨g', 0, none⟩) (pre.length + 1) cap')) := ⟨hb2.os.trans hM.os, hb2.tape.trans hM.tape, hb2.output.trans hM.output, Nat.le_trans hM.size hb2.size, fun k hk e1 e2 => (hb2.block k (by omega)).trans (hM.block k hk e1 e2)⟩
          · rename_i hd
            have hd' : pre.length + 1 = N := by have := of_decide_eq_true hd; omega
            refine ⟨hk2, hKp, ⟨⟨rfl, ?_⟩, _, hv2', by simpa using hr2, trivial⟩, hM2⟩
            have := hrun2.out
            rw [List.length_append, List.length_singleton, hd'] at this
            exact this
          · rename_i hd
            have hd' : pre.length + 1 ≠ N := fun e => by
              have := of_decide_eq_false hd
              exact this (by omega)
            exact ⟨hk2, hKp, ⟨⟨⟨hrun2.out, by rw [List.length_append, List.length_singleton]; omega⟩, (hb2.block _ (by omega)).trans cN⟩, _, hv2', by simpa using hr2, trivial⟩, hM2⟩
        case done =>
          rintro D pre s X hD hno ⟨⟨⟨⟨hrun, hpl⟩, cN⟩, u, hu, hrow, _⟩, hM⟩ hst hK
          exfalso
          have hs0 : s = [] := by
            unfold stepQ at hno
            split at hno
            · assumption
            · cases hno
          have := run_len pre.length l
          rw [← hrun, hs0] at this
          simp at this
          omega
        case stop =>
          rintro D c pre s X hD ⟨⟨⟨rfl, hrun⟩, u, hu, hrow, _⟩, hM⟩ hst hK
          have hc := hu.cell
          gi_wp2
          refine ⟨by simp, .inl ⟨_, _, rfl, run_takeDeferred hK, ?_⟩⟩
          rw [hr.out]
          have e1 : s = (runL N l).1 := congrArg Prod.fst hrun
          have e2 : pre = (runL N l).2 := congrArg Prod.snd hrun
          subst e1
          subst e2
          refine ⟨.tuple #[u, .int .i64 0], ?_, u, rfl, ?_, ?_, mt_put hM (by omega)⟩
          · simp [results, Try.f17, go_sem]
          · have h9 := ownsRow_putObj hrow (.deferred none) hK rfl
            refine ⟨h9.1, ?_⟩
            rcases h9.2 with hnil | ⟨g9, cap9, cur9, e9, hb9, hr9⟩
            · exact .inl hnil
            · exact .inr ⟨g9, cap9, cur9, e9, by omega, hr9⟩
          · exact hst.grp.move (World.putObj_heap_other (by omega)) (fun k hk => World.putObj_heap_other (by have := hvl k hk; omega))
end Go.Proofs.Ytkcmmghhghgdpaa.Str
end
section
namespace Go.Proofs.Ytkcmmghhghgdpaa.Str
open Go.RowKit Go.Shelf Go.Maps Go.Proofs.Ytkcmmghhghgdpaa.Iter Go.Proofs.Ytkcmmghhghgdpaa.SeqM Go.Proofs.YtkcmmghhghgdpaaW.PrintWords Go.Proofs.YtkcmmghhghgdpaaW.PrintLast
set_option linter.unusedVariables false
set_option linter.unusedSimpArgs false
theorem infoC : (Try.prog.info? 44).map (fun i => (i.zero, i.size, i.bytes)) = some (some (.agg #[.int .i64 0, .int .i64 0, .int .i64 0]), 3, 24) := by kernel_rfl
abbrev slC : Nat := 41

set_option maxRecDepth 100000 in
set_option maxHeartbeats 4000000 in
theorem new_calls (W : World) : Calls Try.prog 15 #[] W fun e W' => e = .returned (ptrG W.heap.size) ∧ Grp tG tC W.heap.size W.heap.size (.slice none 0 0) [] W' ∧ Below W.heap.size W W' := by
  go_enter Try.func15, Try.ntmps15
  go_wp2
  go_ret
  exact ⟨rfl, ⟨World.alloc_heap_new W _, Nat.le_refl _, World.ownsRow_nil _ _ _ _⟩, (Below.refl _ W).alloc (Nat.le_refl _) _⟩

end Go.Proofs.Ytkcmmghhghgdpaa.Str
end
section
namespace Go.Proofs.Ytkcmmghhghgdpaa.Str
open Go.RowKit Go.Shelf Go.Maps Go.Proofs.Ytkcmmghhghgdpaa.Iter Go.Proofs.Ytkcmmghhghgdpaa.SeqM Go.Proofs.YtkcmmghhghgdpaaW.PrintWords Go.Proofs.YtkcmmghhghgdpaaW.PrintLast
set_option linter.unusedVariables false
set_option linter.unusedSimpArgs false
section
variable {P : Program}
end
theorem setRow_grown (w : World) (g : Nat) (old cs : Array Value) (t : TypeId) (hg : w.heap[g]? = some (.cells old t (0, 0))) : w.grownBy (w.setRow g cs) (some g) :=
  ⟨rfl, rfl, rfl, by simp, fun k _ hk => setRow_other w g k _ (fun e => hk (by rw [e]))⟩

end Go.Proofs.Ytkcmmghhghgdpaa.Str
end
section
namespace Go.Proofs.Ytkcmmghhghgdpaa.Str
open Go.RowKit Go.Shelf Go.Maps Go.Proofs.Ytkcmmghhghgdpaa.Iter Go.Proofs.Ytkcmmghhghgdpaa.SeqM Go.Proofs.YtkcmmghhghgdpaaW.PrintWords Go.Proofs.YtkcmmghhghgdpaaW.PrintLast
set_option linter.unusedVariables false
set_option linter.unusedSimpArgs false
/-- copy, into a row that the block g holds: all is read before anything is written. -/
theorem run_copy_row {P : Program} (w : World) (t t' ty e : TypeId) (i : TypeInfo) (ht : P.underlying t = some (.slice e)) (hi : P.info? e = some i) (g o dLen dCap : Nat) (a : Addr) (sLen sCap : Nat) (cs : List Value)
    (hl : cs.length = Nat.min sLen dLen * i.size) (hsrc : ∀ j u, cs[j]? = some u → w.cell? (a.add j) = some u) (cur : Array Value) (hg : w.heap[g]? = some (.cells cur e (0, 0))) (hfit : o + cs.length ≤ cur.size) (h1 : ∀ u ∈ cs, u.oneCell' = true) :
    (Builtin.copy_ #[t, t'] ty #[.slice (some ⟨g, o, none⟩) dLen dCap, .slice (some a) sLen sCap]).run P w = .ok (goInt (Nat.min sLen dLen)) (w.setRow g (cur.toList.take o ++ cs ++ cur.toList.drop (o + cs.length)).toArray) := by
  have hf := run_firstCells_some (P := P) w i.size (Nat.min sLen dLen) a sLen sCap cs hl hsrc
  have hst := run_storeCells_at P g o e cs 0 cur w hg (by simpa using hfit) h1
  simp only [Nat.add_zero] at hst
  simp [Builtin.copy_, run_underlying ht, sizeOf, typeInfo, hi, Builtin.lenOf, hf, hst]
theorem ins_take (i : Nat) (c : Cl) (l : List Cl) (hi : i ≤ l.length) : (l.take i ++ c :: l.drop i).length = l.length + 1 := by
  rw [List.length_append, List.length_take, List.length_cons, List.length_drop]; omega
theorem flat_ins (i : Nat) (c : Cl) (l : List Cl) : flat (l.take i ++ c :: l.drop i) = flat (l.take i) ++ (cC c ++ flat (l.drop i)) := by rw [flat_app, flat_cons]
/-- append to a row of one's own: and where the new row lies. -/
theorem run_append_own2 {P : Program} (w : World) (base : Nat) (t ty e : TypeId) (i : TypeInfo) (z : Value) (size bytes : Nat) (ht : P.underlying t = some (.slice e)) (hi : P.info? e = some i) (hz : i.zero = some z)
    (hsize : i.size = size) (hby : i.bytes = bytes) (hzs : z.cells.size = size) (hsz : 0 < size)
    (v : Value) (n : Nat) (xs : List Value) (hown : w.ownsRow base e size v n xs)
    (a : Addr) (m c : Nat) (news : List Value) (hl : news.length = m * size) (hnews : ∀ j u, news[j]? = some u → w.cell? (a.add j) = some u) (h1 : ∀ u ∈ news, u.oneCell' = true)
    (h63 : n + m ≤ maxLen) (hbytes : (n + m) * bytes ≤ 140737488355328) (hbase : base ≤ w.heap.size) :
    ∃ v' w', (Builtin.append_ #[t, t] ty #[v, .slice (some a) m c]).run P w = .ok v' w' ∧ w'.ownsRow base e size v' (n + m) (xs ++ news) ∧ w.grownBy w' v.ownBlock ∧
      (v'.ownBlock = v.ownBlock ∨ v'.ownBlock = some w.heap.size) := by
  obtain ⟨v', w', hr, h2, h3, h4⟩ := run_append_own (P := P) w base t ty e i z size bytes ht hi hz hsize hby hzs hsz v n xs hown a m c news hl hnews h1 h63 hbytes hbase
  refine ⟨v', w', hr, h2, h3, ?_⟩
  subst hsize
  subst hby
  have hm63 : n + m ≤ 9223372036854775807 := by simp only [maxLen] at h63; omega
  rcases hown.2 with ⟨rfl, rfl⟩ | ⟨g, cap, cur, rfl, hbg, hg, hnc, hcm, hcs, htake⟩
  · by_cases hm : m = 0
    · exact .inl (by rw [h4.2 ⟨rfl, hm⟩])
    · have := run_append_nil (P := P) w t ty e i z ht hi hz a m c news hl hnews (by omega) (by omega) (by have hb := hbytes; simp only [Nat.zero_add] at hb; omega)
      rw [hr] at this
      injection this with e1 e2
      exact .inr (by rw [e1]; rfl)
  · by_cases hroom : n + m ≤ cap
    · have := run_append_room (P := P) w t ty e i ht hi g n cap cur hg a m c news hl hnews h1 hroom (by rw [hl, hcs, ← Nat.add_mul]; exact Nat.mul_le_mul_right _ hroom)
      rw [hr] at this
      injection this with e1 e2
      exact .inl (by rw [e1]; rfl)
    · have holds : ∀ j u, xs[j]? = some u → w.cell? ((⟨g, 0, none⟩ : Addr).add j) = some u := hown.cells (g := g) rfl
      have := run_append_grow (P := P) w t ty e i z ht hi hz ⟨g, 0, none⟩ n cap xs hown.1 holds a m c news hl hnews (by omega) (by omega) (growslice_fits (by omega) hbytes)
      rw [hr] at this
      injection this with e1 e2
      exact .inr (by rw [e1]; rfl)
set_option maxRecDepth 100000 in
set_option maxHeartbeats 4000000 in
/-- At the end. -/
theorem insert_end (B vb : Nat) (v : Value) (c : Cl) (l : List Cl) (W : World) (hB : B ≤ W.heap.size) (hlen : l.length ≤ 1024) (hrow : W.ownsRow B tC 3 v l.length (flat l)) (hv : Blk W vb tC (cC c).toArray) :
    Calls Try.prog 45 #[v, .int .i64 (l.length : Int), .slice (some ⟨vb, 0, none⟩) 1 1] W fun e W' => ∃ v', e = .returned v' ∧ W'.ownsRow B tC 3 v' (l.length + 1) (flat (l ++ [c])) ∧ W.grownBy W' v.ownBlock ∧ (v'.ownBlock = v.ownBlock ∨ v'.ownBlock = some W.heap.size) := by
  obtain ⟨i0, hif, hz0, hz1, hz2⟩ := info_parts infoC
  have hcell : ∀ j u, (cC c)[j]? = some u → W.cell? (Addr.add ⟨vb, 0, none⟩ j) = some u := fun j u hj => by
    rw [Addr.add_lit, Nat.zero_add]
    rw [hv.cell j]
    simpa using hj
  have hA := Lib.hid hcell
  have hrow' := Lib.hid hrow
  have hlm : l.length + 1 ≤ maxLen := by unfold maxLen; omega
  obtain ⟨A, cap, rfl, hcap⟩ : ∃ A cap, v = .slice A l.length cap ∧ l.length ≤ cap := by
    rcases hrow.2 with ⟨rfl, h0⟩ | ⟨g, cap, cur, rfl, _, _, hc, _⟩
    · exact ⟨none, 0, by rw [h0], by omega⟩
    · exact ⟨_, cap, rfl, hc⟩
  obtain ⟨v', w', hr, h2, h3, h4⟩ := run_append_own2 (P := Try.prog) W B slC slC tC i0 _ 3 24 Try.underlying41 hif hz0 hz1 hz2 rfl (by decide) _ _ _ hrow ⟨vb, 0, none⟩ 1 1 (cC c) rfl hcell (by simp [cC, Value.oneCell']) (by omega) (by omega) hB
  have hr' := Lib.hid hr
  have h2' := Lib.hid h2
  have h3' := Lib.hid h3
  have h4' := Lib.hid h4
  clear hrow hcell hv hr h2 h3 h4
  go_enter Try.func45, Try.ntmps45
  go_wp2_with (refine Lib.wpList_append_run _ rfl _ _ _ _ rfl _ _ rfl rfl _ _ hr'.out ?_)
  all_goals
    go_ret
    have e9 : ∀ c', (Value.slice A l.length c').ownBlock = (Value.slice A l.length cap).ownBlock := fun c' => by cases A <;> rfl
    refine ⟨v', rfl, ?_, by first | exact h3'.out | (rw [e9]; exact h3'.out), by first | exact h4'.out | (rw [e9]; exact h4'.out)⟩
    rw [flat_app, show flat [c] = cC c by simp [flat]]
    exact h2'.out

set_option maxRecDepth 100000 in
set_option maxHeartbeats 4000000 in
/-- There is room: in place. -/
theorem insert_shift (B vb g cap i : Nat) (c : Cl) (l : List Cl) (W : World) (hi : i < l.length) (hroom : l.length + 1 ≤ cap) (hlen : l.length ≤ 1024) (hrow : W.ownsRow B tC 3 (.slice (some ⟨g, 0, none⟩) l.length cap) l.length (flat l)) (hv : Blk W vb tC (cC c).toArray) (hne : vb ≠ g) :
    Calls Try.prog 45 #[.slice (some ⟨g, 0, none⟩) l.length cap, .int .i64 (i : Int), .slice (some ⟨vb, 0, none⟩) 1 1] W fun e W' => e = .returned (.slice (some ⟨g, 0, none⟩) (l.length + 1) cap) ∧ W'.ownsRow B tC 3 (.slice (some ⟨g, 0, none⟩) (l.length + 1) cap) (l.length + 1) (flat (l.take i ++ c :: l.drop i)) ∧ W.grownBy W' (some g) := by
  obtain ⟨cur, hBg, hgb, hlc, hcm, hcs, htake⟩ : ∃ cur, B ≤ g ∧ W.heap[g]? = some (.cells cur tC (0, 0)) ∧ l.length ≤ cap ∧ cap ≤ maxLen ∧ cur.size = cap * 3 ∧ cur.toList.take (l.length * 3) = flat l := by
    rcases hrow.2 with ⟨h, _⟩ | ⟨g', cap', cur, e, hb, hg, hc, hm, hs, ht⟩
    · cases h
    · injection e with e1 e2 e3
      injection e1 with e1
      injection e1 with e1
      subst e1
      subst e3
      exact ⟨cur, hb, hg, hc, hm, hs, ht⟩
  obtain ⟨i0, hif, hz0, hz1, hz2⟩ := info_parts infoC
  have hfl := flat_len l
  have hfd := flat_len (l.drop i)
  rw [List.length_drop] at hfd
  have hcc : (cC c).length = 3 := rfl
  have hcellA : ∀ j u, (flat l)[j]? = some u → W.cell? ⟨g, j, none⟩ = some u := fun j u hj => by
    rw [← htake] at hj
    have hjl : j < l.length * 3 := by
      have := (List.getElem?_eq_some_iff.1 hj).1
      rw [List.length_take] at this
      omega
    rw [List.getElem?_take_of_lt hjl, Array.getElem?_toList] at hj
    simp [World.cell?, hgb, hj]
  -- what overlaps answers
  have hov : ∀ lb cb, (callFunc 75 #[.slice (some ⟨vb, 0, none⟩) 1 1, .slice (some ⟨g, (i + 1) * 3, none⟩) lb cb]).run Try.prog W = .ok (.value (.bool false)) W := fun lb cb => by
    rw [run_callFunc_extern Try.func75 (by kernel_rfl) (by kernel_rfl) (by kernel_rfl) (e := Extern.SlicesOverlaps.overlaps #[slC, slC] #[4]) (by kernel_rfl),
      Lib.run_overlaps_apart W slC 4 tC Try.underlying41 3 (fun w => by simp [sizeOf, typeInfo, hif, hz1]) ⟨vb, 0, none⟩ ⟨g, (i + 1) * 3, none⟩ 1 1 lb cb hne tC tC 3 (cap * 3) (by simp [World.shape?, show W.heap[vb]? = _ from hv, hcc, cC]) (by simp [World.shape?, hgb, hcs]) (by omega) (hv.frozen 0) (hv.frozen 3)]
    rfl
  -- the cells behind i, one on
  have hcp1 : ∀ ty dc sc, (Builtin.copy_ #[slC, slC] ty #[.slice (some ⟨g, (i + 1) * 3, none⟩) (l.length - i) dc, .slice (some ⟨g, i * 3, none⟩) (l.length + 1 - i) sc]).run Try.prog W.drew = _ := fun ty dc sc =>
    run_copy_row W.drew slC slC ty tC i0 Try.underlying41 hif g ((i + 1) * 3) (l.length - i) dc ⟨g, i * 3, none⟩ (l.length + 1 - i) sc (flat (l.drop i)) (by rw [hfd, hz1]; simp only [Nat.min_def]; split <;> omega)
      (fun j u hj => by
        rw [Addr.add_lit]
        refine hcellA _ _ ?_
        rw [← flat_drop, List.getElem?_drop] at hj
        exact hj) cur hgb (by omega) (flat_one _)
  obtain ⟨cur1, hcur1⟩ : ∃ x : Array Value, (cur.toList.take ((i + 1) * 3) ++ flat (l.drop i) ++ cur.toList.drop ((i + 1) * 3 + (flat (l.drop i)).length)).toArray = x := ⟨_, rfl⟩
  rw [hcur1] at hcp1
  have hg1 : (W.drew.setRow g cur1).heap[g]? = some (.cells cur1 tC (0, 0)) := setRow_heap W.drew g cur cur1 tC (0, 0) hgb
  have hs1 : cur1.size = cap * 3 := by
    rw [← hcur1]
    simp only [List.size_toArray, List.length_append, List.length_take, List.length_drop, Array.length_toList]
    omega
  have hcp2 : ∀ ty dc, (Builtin.copy_ #[slC, slC] ty #[.slice (some ⟨g, i * 3, none⟩) (l.length + 1 - i) dc, .slice (some ⟨vb, 0, none⟩) 1 1]).run Try.prog (W.drew.setRow g cur1) = _ := fun ty dc =>
    run_copy_row (W.drew.setRow g cur1) slC slC ty tC i0 Try.underlying41 hif g (i * 3) (l.length + 1 - i) dc ⟨vb, 0, none⟩ 1 1 (cC c) (by rw [hcc, hz1]; simp only [Nat.min_def]; split <;> omega)
      (fun j u hj => by
        rw [Addr.add_lit, Nat.zero_add]
        have hb : Blk (W.drew.setRow g cur1) vb tC (cC c).toArray := (setRow_other W.drew g vb cur1 hne).trans hv
        rw [hb.cell j]
        simpa using hj) cur1 hg1 (by omega) (by simp [cC, Value.oneCell'])
  obtain ⟨cur2, hcur2⟩ : ∃ x : Array Value, (cur1.toList.take (i * 3) ++ cC c ++ cur1.toList.drop (i * 3 + (cC c).length)).toArray = x := ⟨_, rfl⟩
  rw [hcur2] at hcp2
  have hg2 : ((W.drew.setRow g cur1).setRow g cur2).heap[g]? = some (.cells cur2 tC (0, 0)) := setRow_heap _ g cur1 cur2 tC (0, 0) hg1
  have hs2 : cur2.size = cap * 3 := by
    rw [← hcur2]
    simp only [List.size_toArray, List.length_append, List.length_take, List.length_drop, Array.length_toList, hcc]
    omega
  have ht2 : cur2.toList.take ((l.length + 1) * 3) = flat (l.take i ++ c :: l.drop i) := by
    have e1 : cur1.toList.take (i * 3) = flat (l.take i) := by
      rw [← hcur1, List.append_assoc, List.take_append_of_le_length (by simp only [List.length_take, Array.length_toList]; omega), List.take_take, show min (i * 3) ((i + 1) * 3) = i * 3 by omega, ← flat_take, ← htake, List.take_take, show min (i * 3) (l.length * 3) = i * 3 by omega]
    have e2 : (cur1.toList.drop (i * 3 + 3)).take ((l.length - i) * 3) = flat (l.drop i) := by
      rw [← hcur1, List.append_assoc, show i * 3 + 3 = (i + 1) * 3 by omega, List.drop_append_of_le_length (by simp only [List.length_take, Array.length_toList]; omega), List.drop_of_length_le (by simp only [List.length_take, Array.length_toList]; omega), List.nil_append, List.take_append_of_le_length (by omega), List.take_of_length_le (by omega)]
    rw [flat_ins, ← hcur2, hcc, e1, List.append_assoc, show (l.length + 1) * 3 = (flat (l.take i)).length + (3 + (l.length - i) * 3) by rw [flat_len, List.length_take]; omega, List.take_length_add_append, show 3 + (l.length - i) * 3 = (cC c).length + (l.length - i) * 3 by rw [hcc], List.take_length_add_append, e2]
  have hfin : ((W.drew.setRow g cur1).setRow g cur2).ownsRow B tC 3 (.slice (some ⟨g, 0, none⟩) (l.length + 1) cap) (l.length + 1) (flat (l.take i ++ c :: l.drop i)) :=
    ⟨by rw [flat_len, ins_take i c l (by omega)], .inr ⟨g, cap, cur2, rfl, hBg, hg2, hroom, hcm, hs2, ht2⟩⟩
  have hgr : W.grownBy ((W.drew.setRow g cur1).setRow g cur2) (some g) := by
    have h1 := setRow_grown W.drew g cur cur1 tC hgb
    have h2 := setRow_grown _ g cur1 cur2 tC hg1
    exact ⟨h2.os.trans h1.os, h2.tape.trans h1.tape, h2.output.trans h1.output, Nat.le_trans h1.size h2.size, fun k hk hne => (h2.block k (Nat.lt_of_lt_of_le hk h1.size) hne).trans (h1.block k hk hne)⟩
  have hfin' := Lib.hid hfin
  have hgr' := Lib.hid hgr
  have hcp1' := Lib.hid hcp1
  have hcp2' := Lib.hid hcp2
  have mixed : Try.prog.follows Departure.mixedOrders = true := by kernel_rfl
  have hz2' : ¬ ((i : Int) = (l.length : Int)) := by omega
  have hw1 : IntKind.i64.wrap ((i : Int) + 1) = (i : Int) + 1 := IntWalk.i64_in _ (by omega)
  have hw2 : IntKind.i64.wrap ((l.length : Int) + 1) = (l.length : Int) + 1 := IntWalk.i64_in _ (by omega)
  have hb1 : (0 : Int) ≤ (i : Int) + 1 := by omega
  have hb2 : (0 : Int) ≤ (l.length : Int) + 1 := by omega
  have hb3 : (i : Int) + 1 ≤ (l.length : Int) + 1 := by omega
  have hb4 : (l.length : Int) + 1 ≤ (cap : Int) := by omega
  have hb5 : ¬ ((cap : Int) < (l.length : Int) + 1) := by omega
  have hb6 : ((i : Int) + 1).toNat = i + 1 := by omega
  have hb7 : ((l.length : Int) + 1).toNat = l.length + 1 := by omega
  have hin : i ≤ l.length := by omega
  have hin1 : (i : Int) ≤ (l.length : Int) + 1 := by omega
  have hin2 : i ≤ l.length + 1 := by omega
  have hc1 : ¬ (cap = i + 1) := by omega
  have hc2 : ¬ (cap = i) := by omega
  have hc3 : l.length + 1 - (i + 1) = l.length - i := by omega
  clear hfin hgr hcp1 hcp2 hg1 hg2 hs1 hs2 ht2 hcur1 hcur2 hcellA htake hcs hgb hrow hv
  go_enter Try.func45, Try.ntmps45
  go_wp2_with (simp only [hov])
  go_region_law_o (refine step_copy_runI rfl _ _ slC slC rfl (.slice (some ⟨g, (i + 1) * 3, none⟩) (l.length - i) (cap - (i + 1))) (.slice (some ⟨g, i * 3, none⟩) (l.length + 1 - i) (cap - i)) (by simp [Act.eval, Act.put]) (by simp [Act.eval, Act.put]) (hcp1'.out _ _ _) ?_)
  go_wp2_with (refine wpList_copy_runI _ rfl _ _ slC slC rfl _ _ rfl rfl (hcp2'.out _ _) ?_)
  trace_state
  go_ret
  exact ⟨rfl, hfin'.out, hgr'.out⟩
end Go.Proofs.Ytkcmmghhghgdpaa.Str
end
section
namespace Go.Proofs.Ytkcmmghhghgdpaa.Str
open Go.RowKit Go.Shelf Go.Maps Go.Proofs.Ytkcmmghhghgdpaa.Iter Go.Proofs.Ytkcmmghhghgdpaa.SeqM Go.Proofs.YtkcmmghhghgdpaaW.PrintWords Go.Proofs.YtkcmmghhghgdpaaW.PrintLast
set_option linter.unusedVariables false
set_option linter.unusedSimpArgs false

set_option maxRecDepth 100000 in
set_option maxHeartbeats 4000000 in
theorem insert_grow (B vb g cap i : Nat) (c : Cl) (l : List Cl) (W : World) (hB : B ≤ W.heap.size) (hi : i < l.length) (hroom : cap < l.length + 1) (hlen : l.length ≤ 1024) (hrow : W.ownsRow B tC 3 (.slice (some ⟨g, 0, none⟩) l.length cap) l.length (flat l)) (hv : Blk W vb tC (cC c).toArray) :
    Calls Try.prog 45 #[.slice (some ⟨g, 0, none⟩) l.length cap, .int .i64 (i : Int), .slice (some ⟨vb, 0, none⟩) 1 1] W fun e W' => ∃ v', e = .returned v' ∧ W'.ownsRow B tC 3 v' (l.length + 1) (flat (l.take i ++ c :: l.drop i)) ∧ W.grownBy W' (some g) ∧ v'.ownBlock = some W.heap.size := by
  obtain ⟨cur, hBg, hgb, hlc, hcm, hcs, htake⟩ : ∃ cur, B ≤ g ∧ W.heap[g]? = some (.cells cur tC (0, 0)) ∧ l.length ≤ cap ∧ cap ≤ maxLen ∧ cur.size = cap * 3 ∧ cur.toList.take (l.length * 3) = flat l := by
    rcases hrow.2 with ⟨h, _⟩ | ⟨g', cap', cur, e, hb, hg, hc, hm, hs, ht⟩
    · cases h
    · injection e with e1 e2 e3
      injection e1 with e1
      injection e1 with e1
      subst e1
      subst e3
      exact ⟨cur, hb, hg, hc, hm, hs, ht⟩
  obtain ⟨i0, hif, hz0, hz1, hz2⟩ := info_parts infoC
  have hgl : g < W.heap.size := (Array.getElem?_eq_some_iff.1 hgb).1
  have hvl : vb < W.heap.size := hv.lt
  have hfl := flat_len l
  have hfd := flat_len (l.drop i)
  rw [List.length_drop] at hfd
  have hft := flat_len (l.take i)
  rw [List.length_take, Nat.min_eq_left (by omega)] at hft
  have hcc : (cC c).length = 3 := rfl
  have hcellA : ∀ j u, (flat l)[j]? = some u → W.cell? ⟨g, j, none⟩ = some u := fun j u hj => by
    rw [← htake] at hj
    have hjl : j < l.length * 3 := by
      have := (List.getElem?_eq_some_iff.1 hj).1
      rw [List.length_take] at this
      omega
    rw [List.getElem?_take_of_lt hjl, Array.getElem?_toList] at hj
    simp [World.cell?, hgb, hj]
  have hold : (Builtin.firstCells i0.size i (.slice (some ⟨g, 0, none⟩) i cap)).run Try.prog W.drew = .ok (flat (l.take i)).toArray W.drew := by
    rw [hz1]
    refine run_firstCells_some W.drew 3 i ⟨g, 0, none⟩ i cap (flat (l.take i)) hft (fun j u hj => ?_)
    rw [Addr.add_lit, Nat.zero_add]
    refine hcellA j u ?_
    rw [← flat_take, List.getElem?_take] at hj
    split at hj
    · exact hj
    · cases hj
  have hk1 : i + (l.length + 1 - i) = l.length + 1 := by omega
  have happ : ∀ ty, (Builtin.append_ #[slC, 3] ty #[.slice (some ⟨g, 0, none⟩) i cap, .int .i64 ((l.length : Int) + 1 - (i : Int))]).run Try.prog W = .ok (.slice (some ⟨W.heap.size, 0, none⟩) (l.length + 1) (grownCap W (l.length + 1) cap tC)) (W.drew.alloc (.cells ((flat (l.take i)).toArray ++ Builtin.zeroCells (Value.agg #[.int .i64 0, .int .i64 0, .int .i64 0]).cells (l.length + 1 - i) ++ Builtin.zeroCells (Value.agg #[.int .i64 0, .int .i64 0, .int .i64 0]).cells (grownCap W (l.length + 1) cap tC - (l.length + 1))) tC)) := fun ty => by
    have h := Lib.run_append_grow_zeros W slC 3 ty tC i0 _ .i64 .i64 Try.underlying41 Try.underlying3 hif hz0 (some ⟨g, 0, none⟩) i cap (flat (l.take i)) hold (l.length + 1 - i) (by omega) (by omega) (by omega) (by omega) (by rw [hz2]; omega) (by rw [hz2, hk1]; exact growslice_fits hroom (by omega))
    rw [hk1] at h
    rw [show ((l.length : Int) + 1 - (i : Int)) = ((l.length + 1 - i : Nat) : Int) by omega]
    exact h
  obtain ⟨Gc, hGc⟩ : ∃ x, grownCap W (l.length + 1) cap tC = x := ⟨_, rfl⟩
  rw [hGc] at happ
  have hG1 : l.length + 1 ≤ Gc := by rw [← hGc]; exact grownCap_ge W _ _ _
  have hG2 : Gc ≤ maxLen := by rw [← hGc]; exact grownCap_le_maxLen W _ _ _ (by unfold maxLen; omega)
  obtain ⟨ROW, hROW⟩ : ∃ x : Array Value, (flat (l.take i)).toArray ++ Builtin.zeroCells (Value.agg #[.int .i64 0, .int .i64 0, .int .i64 0]).cells (l.length + 1 - i) ++ Builtin.zeroCells (Value.agg #[.int .i64 0, .int .i64 0, .int .i64 0]).cells (Gc - (l.length + 1)) = x := ⟨_, rfl⟩
  rw [hROW] at happ
  have hzs : (Value.agg #[Value.int .i64 0, .int .i64 0, .int .i64 0]).cells.size = 3 := rfl
  have hsR : ROW.size = Gc * 3 := by
    rw [← hROW]
    simp only [Array.size_append, List.size_toArray, size_zeroCells, hzs, hft]
    omega
  have hRt : ROW.toList.take (i * 3) = flat (l.take i) := by
    rw [← hROW, ← hft]
    simp only [Array.toList_append, List.append_assoc]
    exact List.take_left
  obtain ⟨N, hN⟩ : ∃ x, W.heap.size = x := ⟨_, rfl⟩
  rw [hN] at happ hgl hvl hB
  have hg0 : (W.drew.alloc (.cells ROW tC)).heap[N]? = some (.cells ROW tC (0, 0)) := by rw [← hN]; exact heap_alloc_new W.drew _
  have hold0 : ∀ k, k < N → (W.drew.alloc (.cells ROW tC)).heap[k]? = W.heap[k]? := fun k hk => Below.heap_alloc W.drew _ k (by rw [← hN] at hk; exact hk)
  -- v
  have hcpA : ∀ X : World, X.heap = (W.drew.alloc (.cells ROW tC)).heap → ∀ ty dc, (Builtin.copy_ #[slC, slC] ty #[.slice (some ⟨N, i * 3, none⟩) (l.length + 1 - i) dc, .slice (some ⟨vb, 0, none⟩) 1 1]).run Try.prog X = .ok (goInt (Nat.min 1 (l.length + 1 - i))) (X.setRow N (ROW.toList.take (i * 3) ++ cC c ++ ROW.toList.drop (i * 3 + (cC c).length)).toArray) := fun X hX ty dc =>
    run_copy_row X slC slC ty tC i0 Try.underlying41 hif N (i * 3) (l.length + 1 - i) dc ⟨vb, 0, none⟩ 1 1 (cC c) (by rw [hcc, hz1]; simp only [Nat.min_def]; split <;> omega)
      (fun j u hj => by
        rw [Addr.add_lit, Nat.zero_add]
        have hb : Blk X vb tC (cC c).toArray := by show X.heap[vb]? = _; rw [hX, hold0 vb hvl]; exact hv
        rw [hb.cell j]
        simpa using hj) ROW (by rw [hX]; exact hg0) (by omega) (by simp [cC, Value.oneCell'])
  obtain ⟨cur1, hcur1⟩ : ∃ x : Array Value, (ROW.toList.take (i * 3) ++ cC c ++ ROW.toList.drop (i * 3 + (cC c).length)).toArray = x := ⟨_, rfl⟩
  rw [hcur1] at hcpA
  have hs1 : cur1.size = Gc * 3 := by
    rw [← hcur1]
    simp only [List.size_toArray, List.length_append, List.length_take, List.length_drop, Array.length_toList, hcc]
    omega
  have hg1 : ∀ X : World, X.heap = ((W.drew.alloc (.cells ROW tC)).setRow N cur1).heap → X.heap[N]? = some (.cells cur1 tC (0, 0)) := fun X hX => by rw [hX]; exact setRow_heap _ N ROW cur1 tC (0, 0) hg0
  have hold1 : ∀ X : World, X.heap = ((W.drew.alloc (.cells ROW tC)).setRow N cur1).heap → ∀ k, k < N → X.heap[k]? = W.heap[k]? := fun X hX k hk => by rw [hX, setRow_other _ N k _ (by omega)]; exact hold0 k hk
  have hcpB : ∀ X : World, X.heap = ((W.drew.alloc (.cells ROW tC)).setRow N cur1).heap → ∀ ty dc sc, (Builtin.copy_ #[slC, slC] ty #[.slice (some ⟨N, (i + 1) * 3, none⟩) (l.length - i) dc, .slice (some ⟨g, i * 3, none⟩) (l.length - i) sc]).run Try.prog X = .ok (goInt (Nat.min (l.length - i) (l.length - i))) (X.setRow N (cur1.toList.take ((i + 1) * 3) ++ flat (l.drop i) ++ cur1.toList.drop ((i + 1) * 3 + (flat (l.drop i)).length)).toArray) := fun X hX ty dc sc =>
    run_copy_row X slC slC ty tC i0 Try.underlying41 hif N ((i + 1) * 3) (l.length - i) dc ⟨g, i * 3, none⟩ (l.length - i) sc (flat (l.drop i)) (by rw [hfd, hz1]; simp only [Nat.min_def]; split <;> omega)
      (fun j u hj => by
        rw [Addr.add_lit]
        rw [← flat_drop, List.getElem?_drop] at hj
        have := hcellA _ _ hj
        rw [World.cell?_of_block (w := W) (w' := X) (hold1 X hX g hgl)]
        exact this) cur1 (hg1 X hX) (by omega) (flat_one _)
  obtain ⟨cur2, hcur2⟩ : ∃ x : Array Value, (cur1.toList.take ((i + 1) * 3) ++ flat (l.drop i) ++ cur1.toList.drop ((i + 1) * 3 + (flat (l.drop i)).length)).toArray = x := ⟨_, rfl⟩
  rw [hcur2] at hcpB
  have hs2 : cur2.size = Gc * 3 := by
    rw [← hcur2]
    simp only [List.size_toArray, List.length_append, List.length_take, List.length_drop, Array.length_toList]
    omega
  have ht2 : cur2.toList.take ((l.length + 1) * 3) = flat (l.take i ++ c :: l.drop i) := by
    have e1 : cur1.toList.take ((i + 1) * 3) = flat (l.take i) ++ cC c := by
      rw [← hcur1, hRt, List.take_append_of_le_length (by rw [List.length_append, hft, hcc]; omega), List.take_of_length_le (by rw [List.length_append, hft, hcc]; omega)]
    rw [flat_ins, ← hcur2, e1, List.take_append_of_le_length (by simp only [List.length_append, hft, hcc]; omega), List.take_of_length_le (by simp only [List.length_append, hft, hcc]; omega), List.append_assoc]
  have hfin : ∀ X : World, X.heap = (((W.drew.alloc (.cells ROW tC)).setRow N cur1).setRow N cur2).heap → X.ownsRow B tC 3 (.slice (some ⟨N, 0, none⟩) (l.length + 1) Gc) (l.length + 1) (flat (l.take i ++ c :: l.drop i)) := fun X hX =>
    ⟨by rw [flat_len, ins_take i c l (by omega)], .inr ⟨N, Gc, cur2, rfl, hB, by rw [hX]; exact setRow_heap _ N cur1 cur2 tC (0, 0) (hg1 _ rfl), hG1, hG2, hs2, ht2⟩⟩
  have hgr : ∀ X : World, X.heap = (((W.drew.alloc (.cells ROW tC)).setRow N cur1).setRow N cur2).heap → X.os = W.os → X.tape = W.tape → X.output = W.output → W.grownBy X (some g) := fun X hX h1 h2 h3 =>
    ⟨h1, h2, h3, by rw [hX]; simp, fun k hk _ => by rw [hX, setRow_other _ N k _ (by omega)]; exact hold1 _ rfl k (by omega)⟩
  have hfin' := Lib.hid hfin
  have hgr' := Lib.hid hgr
  have hcpA' := Lib.hid hcpA
  have hcpB' := Lib.hid hcpB
  have happ' := Lib.hid happ
  have mixed : Try.prog.follows Departure.mixedOrders = true := by kernel_rfl
  have hz2' : ¬ ((i : Int) = (l.length : Int)) := by omega
  have hw1 : IntKind.i64.wrap ((i : Int) + 1) = (i : Int) + 1 := IntWalk.i64_in _ (by omega)
  have hw2 : IntKind.i64.wrap ((l.length : Int) + 1) = (l.length : Int) + 1 := IntWalk.i64_in _ (by omega)
  have hw3 : IntKind.i64.wrap ((l.length : Int) + 1 - (i : Int)) = (l.length : Int) + 1 - (i : Int) := IntWalk.i64_in _ (by omega)
  have hb1 : (0 : Int) ≤ (i : Int) + 1 := by omega
  have hb3 : (i : Int) + 1 ≤ (l.length : Int) + 1 := by omega
  have hb5 : (cap : Int) < (l.length : Int) + 1 := by omega
  have hb6 : ((i : Int) + 1).toNat = i + 1 := by omega
  have hin : i ≤ l.length := by omega
  have hin1 : (i : Int) ≤ (l.length : Int) + 1 := by omega
  have hin2 : i ≤ l.length + 1 := by omega
  have hin3 : i ≤ cap := by omega
  have hc1 : ¬ (Gc = i + 1) := by omega
  have hc2 : ¬ (Gc = i) := by omega
  have hc4 : ¬ (cap = i) := by omega
  have hc3 : l.length + 1 - (i + 1) = l.length - i := by omega
  clear hfin hgr hcpA hcpB happ hg0 hg1 hs1 hs2 ht2 hcur1 hcur2 hcellA htake hcs hgb hrow hv hold hold0 hold1 hROW hsR hRt hGc
  go_enter Try.func45, Try.ntmps45
  go_wp2_with (first
    | (refine Lib.wpList_append_run _ rfl _ _ _ _ rfl _ _ rfl rfl _ _ (happ'.out _) ?_)
    | (refine wpList_copy_runI _ rfl _ _ slC slC rfl _ _ rfl rfl (hcpA'.out _ (by rfl) _ _) ?_))
  go_region_law_o (refine step_copy_runI rfl _ _ slC slC rfl (.slice (some ⟨N, (i + 1) * 3, none⟩) (l.length - i) (Gc - (i + 1))) (.slice (some ⟨g, i * 3, none⟩) (l.length - i) (cap - i)) (by simp [Act.eval, Act.put]) (by simp [Act.eval, Act.put]) (hcpB'.out _ (by rfl) _ _ _) ?_)
  go_wp2
  go_ret
  exact ⟨_, rfl, hfin'.out _ (by rfl), hgr'.out _ (by rfl) (by rfl) (by rfl) (by rfl), by rw [hN]; rfl⟩
theorem insert_calls (B vb i : Nat) (v : Value) (c : Cl) (l : List Cl) (W : World) (hB : B ≤ W.heap.size) (hi : i ≤ l.length) (hlen : l.length ≤ 1024) (hrow : W.ownsRow B tC 3 v l.length (flat l)) (hv : Blk W vb tC (cC c).toArray) (hne : v.ownBlock ≠ some vb) :
    Calls Try.prog 45 #[v, .int .i64 (i : Int), .slice (some ⟨vb, 0, none⟩) 1 1] W fun e W' => ∃ v', e = .returned v' ∧ W'.ownsRow B tC 3 v' (l.length + 1) (flat (l.take i ++ c :: l.drop i)) ∧ W.grownBy W' v.ownBlock ∧ (v'.ownBlock = v.ownBlock ∨ v'.ownBlock = some W.heap.size) := by
  by_cases he : i = l.length
  · subst he
    have := insert_end B vb v c l W hB hlen hrow hv
    rw [List.take_of_length_le (Nat.le_refl _), List.drop_of_length_le (Nat.le_refl _)]
    exact this
  · have hlt : i < l.length := by omega
    rcases hrow.2 with ⟨_, h0⟩ | ⟨g, cap, cur, rfl, _, _, hc, _⟩
    · omega
    · by_cases hroom : l.length + 1 ≤ cap
      · refine (insert_shift B vb g cap i c l W hlt hroom hlen hrow hv (fun e => hne (by rw [e]; rfl))).mono ?_
        rintro e W' ⟨rfl, h1, h2⟩
        exact ⟨_, rfl, h1, h2, .inl rfl⟩
      · refine (insert_grow B vb g cap i c l W hB hlt (by omega) hlen hrow hv).mono ?_
        rintro e W' ⟨v', rfl, h1, h2, h3⟩
        exact ⟨_, rfl, h1, h2, .inr h3⟩
end Go.Proofs.Ytkcmmghhghgdpaa.Str
end
section
namespace Go.Proofs.Ytkcmmghhghgdpaa.Str
open Go.RowKit Go.Shelf Go.Maps Go.Proofs.Ytkcmmghhghgdpaa.Iter Go.Proofs.Ytkcmmghhghgdpaa.SeqM Go.Proofs.YtkcmmghhghgdpaaW.PrintWords Go.Proofs.YtkcmmghhghgdpaaW.PrintLast
set_option linter.unusedVariables false
set_option linter.unusedSimpArgs false
theorem grp_put {B G : Nat} {v v' : Value} {l l' : List Cl} {n : Nat} {W W' : World} (h : Grp tG tC B G v l W) (hg : W.grownBy W' v.ownBlock) (hr : W'.ownsRow B tC 3 v' n (flat l')) (hn : n = l'.length) : Grp tG tC B G v' l' (W'.setCell ⟨G, 0, none⟩ v') := by
  subst hn
  have hG : Blk W' G tG #[v] := (hg.block G h.lt (fun e => h.ne tGC e.symm)).trans h.blk
  have hne : v'.ownBlock ≠ some G := fun e => by
    obtain ⟨_, _, cur, hc⟩ := own_block hr e
    rw [show W'.heap[G]? = _ from hG] at hc
    injection hc with hc
    injection hc with _ hc _
    exact absurd hc (by decide)
  exact ⟨hG.set 0 v' (by simp), h.base, own_move hr (fun k hk => Below.heap_setCell _ _ _ _ (fun e => hne (by rw [hk, e])))⟩
theorem mt_grown {G : Nat} {r : Option Nat} {W X Y : World} (h : Mt G r W X) (hg : X.grownBy Y r) : Mt G r W Y :=
  ⟨hg.os.trans h.os, hg.tape.trans h.tape, hg.output.trans h.output, Nat.le_trans h.size hg.size, fun k hk h1 h2 => (hg.block k (Nat.lt_of_lt_of_le hk h.size) h2).trans (h.block k hk h1 h2)⟩
theorem ok_bound {l : List Cl} (h : ∀ c ∈ l, okCl c) : ∀ c ∈ l, 0 ≤ c.p ∧ c.p ≤ 1500000 := fun c hc => by
  obtain ⟨k1, k2, k3, k4⟩ := h c hc
  have := sd_nonneg k1 k2
  omega

set_option maxRecDepth 100000 in
set_option maxHeartbeats 4000000 in
theorem join_calls (B G : Nat) (v : Value) (l : List Cl) (id t rem : Int) (W : World) (hgood : GoodG l) (hg : Grp tG tC B G v l W) (hB : B ≤ W.heap.size) :
    Calls Try.prog 16 #[ptrG G, .int .i64 id, .int .i64 t, .int .i64 rem] W fun e W' => e = .returned (.int .i64 (joinL l id t rem).2) ∧ ∃ v', Grp tG tC B G v' (joinL l id t rem).1 W' ∧ Mt G v.ownBlock W W' ∧ (v'.ownBlock = v.ownBlock ∨ ∀ k, v'.ownBlock = some k → W.heap.size ≤ k) := by
  have hF := Lib.hid (find_calls B G v l id W hgood.2.1 hgood.2.2 hg)
  have hg' := Lib.hid hg
  by_cases hh : hasL id l = true
  · have hr := Lib.hid (show joinL l id t rem = (l, 9) from if_pos hh)
    clear hg
    go_enter Try.func16, Try.ntmps16
    go_wp2_with ((with_reducible refine gate_callee (f := 44) rfl ?_); refine goesL_ (some 16) rfl rfl Try.func44 (by kernel_rfl) rfl #[ptrG G, .int .i64 id] rfl (by (try simp only [List.map_toArray, List.map_cons, List.map_nil]); first | done | rfl) ?_; (with_reducible refine (hF.out).mono ?_); rintro e w9 ⟨rfl, hb⟩; refine ⟨_, rfl, ?_⟩; have L := Lib.hid hb; clear hb)
    go_ret
    exact ⟨by rw [hr.out]; rfl, v, by rw [hr.out]; exact grp_below hg'.out L.out, Mt.of_below L.out, .inl rfl⟩
  have hh' : hasL id l = false := by simpa using hh
  by_cases c1 : t < 1
  · have hr := Lib.hid (show joinL l id t rem = (l, 1) by unfold joinL; rw [if_neg hh, if_pos (by omega)])
    clear hg
    go_enter Try.func16, Try.ntmps16
    go_wp2_with ((with_reducible refine gate_callee (f := 44) rfl ?_); refine goesL_ (some 16) rfl rfl Try.func44 (by kernel_rfl) rfl #[ptrG G, .int .i64 id] rfl (by (try simp only [List.map_toArray, List.map_cons, List.map_nil]); first | done | rfl) ?_; (with_reducible refine (hF.out).mono ?_); rintro e w9 ⟨rfl, hb⟩; refine ⟨_, rfl, ?_⟩; have L := Lib.hid hb; clear hb)
    go_ret
    exact ⟨by rw [hr.out]; rfl, v, by rw [hr.out]; exact grp_below hg'.out L.out, Mt.of_below L.out, .inl rfl⟩
  by_cases c2 : 16 < t
  · have hr := Lib.hid (show joinL l id t rem = (l, 1) by unfold joinL; rw [if_neg hh, if_pos (by omega)])
    clear hg
    go_enter Try.func16, Try.ntmps16
    go_wp2_with ((with_reducible refine gate_callee (f := 44) rfl ?_); refine goesL_ (some 16) rfl rfl Try.func44 (by kernel_rfl) rfl #[ptrG G, .int .i64 id] rfl (by (try simp only [List.map_toArray, List.map_cons, List.map_nil]); first | done | rfl) ?_; (with_reducible refine (hF.out).mono ?_); rintro e w9 ⟨rfl, hb⟩; refine ⟨_, rfl, ?_⟩; have L := Lib.hid hb; clear hb)
    go_ret
    exact ⟨by rw [hr.out]; rfl, v, by rw [hr.out]; exact grp_below hg'.out L.out, Mt.of_below L.out, .inl rfl⟩
  by_cases c3 : rem < 0
  · have hr := Lib.hid (show joinL l id t rem = (l, 1) by unfold joinL; rw [if_neg hh, if_pos (by omega)])
    clear hg
    go_enter Try.func16, Try.ntmps16
    go_wp2_with ((with_reducible refine gate_callee (f := 44) rfl ?_); refine goesL_ (some 16) rfl rfl Try.func44 (by kernel_rfl) rfl #[ptrG G, .int .i64 id] rfl (by (try simp only [List.map_toArray, List.map_cons, List.map_nil]); first | done | rfl) ?_; (with_reducible refine (hF.out).mono ?_); rintro e w9 ⟨rfl, hb⟩; refine ⟨_, rfl, ?_⟩; have L := Lib.hid hb; clear hb)
    go_ret
    exact ⟨by rw [hr.out]; rfl, v, by rw [hr.out]; exact grp_below hg'.out L.out, Mt.of_below L.out, .inl rfl⟩
  have hq : Int.tdiv 720720 t = sd t := by unfold sd; exact Int.tdiv_eq_ediv_of_nonneg (by omega)
  have hne : (t == 0) = false := beq_eq_false_iff_ne.mpr (by omega)
  have h0 : ¬ t = 0 := by omega
  have hsd := sd_nonneg (t := t) (by omega) (by omega)
  have hw : IntKind.i64.wrap (sd t) = sd t := IntWalk.i64_in _ (by omega)
  by_cases c4 : sd t < rem
  · have hr := Lib.hid (show joinL l id t rem = (l, 1) by unfold joinL; rw [if_neg hh, if_pos (by omega)])
    clear hg
    go_enter Try.func16, Try.ntmps16
    go_wp2_with ((with_reducible refine gate_callee (f := 44) rfl ?_); refine goesL_ (some 16) rfl rfl Try.func44 (by kernel_rfl) rfl #[ptrG G, .int .i64 id] rfl (by (try simp only [List.map_toArray, List.map_cons, List.map_nil]); first | done | rfl) ?_; (with_reducible refine (hF.out).mono ?_); rintro e w9 ⟨rfl, hb⟩; refine ⟨_, rfl, ?_⟩; have L := Lib.hid hb; clear hb)
    go_ret
    exact ⟨by rw [hr.out]; rfl, v, by rw [hr.out]; exact grp_below hg'.out L.out, Mt.of_below L.out, .inl rfl⟩
  obtain ⟨A, cap, rfl, hcap⟩ : ∃ A c, v = .slice A l.length c ∧ l.length ≤ c := by
    rcases hg.row.2 with ⟨rfl, h0⟩ | ⟨g, cap, cur, rfl, _, _, hc, _⟩
    · exact ⟨none, 0, by rw [h0], by omega⟩
    · exact ⟨_, cap, rfl, hc⟩
  by_cases c5 : l.length = 1024
  · have hr := Lib.hid (show joinL l id t rem = (l, 10) by unfold joinL; rw [if_neg hh, if_neg (by omega), if_pos c5])
    have c5' : (l.length : Int) = 1024 := by omega
    clear hg c5
    go_enter Try.func16, Try.ntmps16
    go_wp2_with ((with_reducible refine gate_callee (f := 44) rfl ?_); refine goesL_ (some 16) rfl rfl Try.func44 (by kernel_rfl) rfl #[ptrG G, .int .i64 id] rfl (by (try simp only [List.map_toArray, List.map_cons, List.map_nil]); first | done | rfl) ?_; (with_reducible refine (hF.out).mono ?_); rintro e w9 ⟨rfl, hb⟩; refine ⟨_, rfl, ?_⟩; have L := Lib.hid hb; clear hb; have hg1 := grp_below hg'.out L.out; have g0 := hg1.cellG; have hg1' := Lib.hid hg1; clear hg1)
    go_ret
    exact ⟨by rw [hr.out]; rfl, _, by rw [hr.out]; exact grp_below hg'.out L.out, Mt.of_below L.out, .inl rfl⟩
  · have hr := Lib.hid (show joinL l id t rem = (levelL (insL ⟨id, t, rem⟩ l), 0) by unfold joinL; rw [if_neg hh, if_neg (by omega), if_neg c5])
    have c5' : ¬ (l.length : Int) = 1024 := by omega
    have hlb := lb_le id l
    have hlen := hgood.2.2
    have hins := Lib.hid (show l.take (lb id l) ++ (⟨id, t, rem⟩ : Cl) :: l.drop (lb id l) = insL ⟨id, t, rem⟩ l from ins_eq ⟨id, t, rem⟩ l hh')
    have hbb := Lib.hid (show ∀ c ∈ insL ⟨id, t, rem⟩ l, 0 ≤ c.p ∧ c.p ≤ 1500000 from ok_bound (fun c hc => by
      rcases ins_mem.1 hc with rfl | hc
      · exact ⟨by show 1 ≤ t; omega, by show t ≤ 16; omega, by show 0 ≤ rem; omega, by show rem ≤ sd t; omega⟩
      · exact hgood.1.1 c hc))
    have hil := ins_len ⟨id, t, rem⟩ l
    have hrb := fun k hk => (own_block hg.row (k := k) hk).2.1
    have hGl := hg.lt
    clear hg hgood hh
    go_enter Try.func16, Try.ntmps16
    go_upto_region 11 with (first | ((with_reducible refine gate_callee (f := 44) rfl ?_); refine goesL_ (some 16) rfl rfl Try.func44 (by kernel_rfl) rfl #[ptrG G, .int .i64 id] rfl (by (try simp only [List.map_toArray, List.map_cons, List.map_nil]); first | done | rfl) ?_; (with_reducible refine (hF.out).mono ?_); rintro e w9 ⟨rfl, hb⟩; refine ⟨_, rfl, ?_⟩; have L := Lib.hid hb; clear hb; have hg1 := grp_below hg'.out L.out; have g0 := hg1.cellG; have hg1' := Lib.hid hg1; clear hg1) | (go_at_call 45; refine (insert_calls B w9.heap.size (lb id l) (.slice A l.length cap) ⟨id, t, rem⟩ l _ (by have := L.out.size; simp; omega) hlb hlen (hg1'.out.alloc (.cells #[.int .i64 id, .int .i64 t, .int .i64 rem] tC)).row (Blk.new w9 tC (cC ⟨id, t, rem⟩).toArray) (fun e => by have := hrb _ e; have := L.out.size; omega)).mono ?_; rintro e w10 ⟨u, rfl, hu, hgr, hub⟩; obtain ⟨g', cap', rfl⟩ := ownsRow_succ hu; have hu' := Lib.hid hu; have hgr' := Lib.hid hgr; have hub' := Lib.hid hub; have gG : Blk w10 G tG #[.slice A l.length cap] := (hgr.block G ((hg1'.out.alloc (.cells #[.int .i64 id, .int .i64 t, .int .i64 rem] tC)).lt) (fun e => (hg1'.out.ne tGC) e.symm)).trans (hg1'.out.alloc (.cells #[.int .i64 id, .int .i64 t, .int .i64 rem] tC)).blk; have gc := gG.cell 0; have gf := gG.frozen 0; try simp only [List.getElem?_toArray, List.getElem?_cons_zero] at gc; clear hu hgr hub gG))
    have hg2 := grp_put (hg1'.out.alloc (.cells #[.int .i64 id, .int .i64 t, .int .i64 rem] tC)) hgr'.out (by rw [← hins.out]; exact hu'.out) hil.symm
    have hM2 := (mt_grown ((Mt.of_below (G := G) (r := (Value.slice A l.length cap).ownBlock) L.out).alloc (.cells #[.int .i64 id, .int .i64 t, .int .i64 rem] tC)) hgr'.out).setG 0 (.slice (some ⟨g', 0, none⟩) (l.length + 1) cap')
    have hub2 := Lib.hid (show (Value.slice (some ⟨g', 0, none⟩) (l.length + 1) cap').ownBlock = (Value.slice A l.length cap).ownBlock ∨ ∀ k, (Value.slice (some ⟨g', 0, none⟩) (l.length + 1) cap').ownBlock = some k → W.heap.size ≤ k from by
      rcases hub'.out with h | h
      · exact .inl h
      · refine .inr fun k hk => ?_
        rw [h] at hk
        have := L.out.size
        simp at hk
        omega)
    have hg2' := Lib.hid hg2
    have hM2' := Lib.hid hM2
    clear hg2 hM2 g0 gc gf
    generalize (World.setCell w10 ⟨G, 0, none⟩ (.slice (some ⟨g', 0, none⟩) (l.length + 1) cap')) = WD at *
    go_wp2_with ((with_reducible refine gate_callee (f := 46) rfl ?_); refine goesL_ (some 60) rfl rfl Try.func46 (by kernel_rfl) rfl #[ptrG G] rfl (by (try simp only [List.map_toArray, List.map_cons, List.map_nil]); first | done | rfl) ?_; (with_reducible refine (level_calls B G _ (insL ⟨id, t, rem⟩ l) _ (by first | assumption | (rw [hil]; omega)) hbb.out hg2'.out).mono ?_); rintro e w13 ⟨⟨rv, rfl⟩, hg4, hM4⟩; refine ⟨_, rfl, ?_⟩; have hg4' := Lib.hid hg4; have hM4' := Lib.hid hM4; clear hg4 hM4)
    go_ret
    exact ⟨by rw [hr.out]; rfl, _, by rw [hr.out]; exact hg4'.out, hM2'.out.trans hM4'.out hub2.out, hub2.out⟩

end Go.Proofs.Ytkcmmghhghgdpaa.Str
end
section
namespace Go.Proofs.Ytkcmmghhghgdpaa.Str
open Go.RowKit Go.Shelf Go.Maps Go.Proofs.Ytkcmmghhghgdpaa.Iter Go.Proofs.Ytkcmmghhghgdpaa.SeqM Go.Proofs.YtkcmmghhghgdpaaW.PrintWords Go.Proofs.YtkcmmghhghgdpaaW.PrintLast
set_option linter.unusedVariables false
set_option linter.unusedSimpArgs false
/-- A slice of integers reads xs. -/
def ReadsI (W : World) (A : Option Addr) (xs : List Int) : Prop := ∀ j x, xs[j]? = some x → ∃ ad, A = some ad ∧ ad.block < W.heap.size ∧ W.cell? (ad.add j) = some (.int .i64 x)
theorem ReadsI.below {W W' : World} {A : Option Addr} {xs : List Int} (h : ReadsI W A xs) (hb : Below W.heap.size W W') : ReadsI W' A xs := fun j x hx => by
  obtain ⟨ad, rfl, h1, h2⟩ := h j x hx
  exact ⟨ad, rfl, Nat.lt_of_lt_of_le h1 hb.size, (hb.cell (p := ad.add j) (by rw [add_block]; exact h1)).trans h2⟩
theorem reads_row {W : World} {base : Nat} {A : Option Addr} {n c : Nat} {xs : List Int} (h : W.ownsRow base 3 1 (.slice A n c) xs.length (xs.map (Value.int .i64))) : ReadsI W A xs ∧ (∀ ad, A = some ad → base ≤ ad.block ∧ ad.block < W.heap.size) ∧ n = xs.length ∧ n ≤ c := by
  rcases h.2 with ⟨h1, h0⟩ | ⟨g, cap, cur, hv, hb, hg, hc, _⟩
  · simp at h1
    obtain ⟨rfl, rfl, rfl⟩ := h1
    refine ⟨fun j x hx => ?_, (fun ad h => by cases h), h0.symm, Nat.le_refl _⟩
    have := (List.getElem?_eq_some_iff.1 hx).1
    omega
  · injection hv with e1 e2 e3
    subst e1
    have hl : g < W.heap.size := (Array.getElem?_eq_some_iff.1 hg).1
    refine ⟨fun j x hx => ⟨_, rfl, hl, ?_⟩, (fun ad h => by obtain rfl := Option.some.inj h; exact ⟨hb, hl⟩), e2, by omega⟩
    rw [Addr.add_lit, Nat.zero_add]
    subst e2
    have hj := (List.getElem?_eq_some_iff.1 hx).1
    rw [h.cellAt j (by omega)]
    simp [hx]

set_option maxRecDepth 100000 in
set_option maxHeartbeats 4000000 in
theorem ints_calls (A0 A1 : Option Addr) (c0 c1 : Nat) (xs ys : List Int) (W : World) (h0 : ReadsI W A0 xs) (h1 : ReadsI W A1 ys) (l0 : xs.length ≤ 4611686018427387904) (k0 : xs.length ≤ c0) (k1 : ys.length ≤ c1) :
    Calls Try.prog 18 #[.slice A0 xs.length c0, .slice A1 ys.length c1] W fun e W' => e = .returned (.bool (decide (xs = ys))) ∧ Below W.heap.size W W' := by
  have h0' := Lib.hid h0
  have h1' := Lib.hid h1
  clear h0 h1
  by_cases hl : xs.length = ys.length
  · have hl2 : ¬ (xs.length : Int) ≠ (ys.length : Int) := by omega
    have hlen := Lib.hid hl
    rw [← hl]
    rw [← hl] at k1
    clear hl hl2
    go_enter Try.func18, Try.ntmps18
    go_wp2
    go_loopw [13] (fun iv wr => ∃ (i : Nat), iv = .int .i64 (i : Int) ∧ i ≤ xs.length ∧ xs.take i = ys.take i ∧ Below W.heap.size W wr)
      (fun iv _ => xs.length - (intOf iv).toNat)
    case atStart => exact ⟨0, rfl, Nat.zero_le _, rfl, Below.refl _ _⟩
    case round =>
      obtain ⟨i, rfl, hi, htk, hbel⟩ := hrel
      have hbel' := Lib.hid hbel
      have htk' := Lib.hid htk
      by_cases hlt : i < xs.length
      · obtain ⟨x, hx⟩ : ∃ x, xs[i]? = some x := ⟨xs[i], List.getElem?_eq_getElem hlt⟩
        obtain ⟨y, hy⟩ : ∃ y, ys[i]? = some y := ⟨ys[i]'(by have := hlen.out; omega), List.getElem?_eq_getElem _⟩
        obtain ⟨a0, rfl, _, q0⟩ := h0'.out.below hbel i x hx
        obtain ⟨a1, rfl, _, q1⟩ := h1'.out.below hbel i y hy
        have hx' := Lib.hid hx
        have hy' := Lib.hid hy
        clear hbel htk hx hy
        by_cases he : x = y
        · subst he
          go_wp2
          go_quiet (fail)
          go_wp2
          go_roundw
          case rel =>
            refine ⟨i + 1, by go_num, by omega, ?_, by first | exact hbel'.out | exact hbel'.out.drew | exact pw_below_drewN hbel'.out _⟩
            rw [List.take_add_one, List.take_add_one, hx'.out, hy'.out, htk'.out]
          case measure => simp [intOf]; omega
        · have hr := Lib.hid (show decide (xs = ys) = false from decide_eq_false (fun e => he (by have h9 := hx'.out; rw [e, hy'.out] at h9; exact (Option.some.inj h9).symm)))
          have he2 : (x == y) = false := beq_eq_false_iff_ne.mpr he
          go_wp2
          go_quiet (fail)
          go_wp2
          go_ret
          exact ⟨by rw [hr.out]; rfl, by first | exact hbel'.out | exact hbel'.out.drew | exact pw_below_drewN hbel'.out _⟩
      · have hi' : i = xs.length := by omega
        subst hi'
        have hr := Lib.hid (show decide (xs = ys) = true from decide_eq_true (by
          have := htk'.out
          rw [List.take_of_length_le (Nat.le_refl _), List.take_of_length_le (by have := hlen.out; omega)] at this
          exact this))
        clear hbel htk
        go_wp2
        go_ret
        exact ⟨by rw [hr.out]; rfl, hbel'.out⟩
  · have hr := Lib.hid (show decide (xs = ys) = false from decide_eq_false (fun e => hl (by rw [e])))
    have hl2 : ¬ (xs.length : Int) = (ys.length : Int) := by omega
    clear hl
    go_enter Try.func18, Try.ntmps18
    go_wp2
    go_ret
    exact ⟨by rw [hr.out]; rfl, Below.refl _ _⟩
end Go.Proofs.Ytkcmmghhghgdpaa.Str
end
section
namespace Go.Proofs.Ytkcmmghhghgdpaa.Str
open Go.RowKit Go.Shelf Go.Maps Go.Proofs.Ytkcmmghhghgdpaa.Iter Go.Proofs.Ytkcmmghhghgdpaa.SeqM Go.Proofs.YtkcmmghhghgdpaaW.PrintWords Go.Proofs.YtkcmmghhghgdpaaW.PrintLast
set_option linter.unusedVariables false
set_option linter.unusedSimpArgs false
/-- A group's call, seen from where the group began. -/
theorem step_grp {B G : Nat} {v : Value} {l : List Cl} {W X Y : World} (hb : Below B W X) (hB : B ≤ W.heap.size) (hg : Grp tG tC B G v l X) (hm : Mt G v.ownBlock X Y) : Below B W Y :=
  hm.below hb hB hg.base (fun k hk => (own_block hg.row hk).1)
theorem aw1 : joinL [] 1 2 0 = ([⟨1, 2, 0⟩], 0) := by kernel_rfl
theorem aw2 : joinL [⟨1, 2, 0⟩] 2 1 0 = ([⟨1, 2, 0⟩, ⟨2, 1, 0⟩], 0) := by kernel_rfl
theorem aw3 : (runR [⟨1, 2, 0⟩, ⟨2, 1, 0⟩] 6).2 = ([1, 2, 1, 1, 2, 1], 0) := by kernel_rfl
theorem aw4 : GoodG [⟨1, 2, 0⟩] := by have := join_good (id := 1) (t := 2) (rem := 0) good_nil; rwa [aw1] at this
theorem aw5 : GoodG [⟨1, 2, 0⟩, ⟨2, 1, 0⟩] := by have := join_good (id := 2) (t := 1) (rem := 0) aw4; rwa [aw2] at this

theorem reads_new (w : World) (xs : List Int) : ReadsI (w.alloc (.cells (xs.map (Value.int .i64)).toArray 3)) (some ⟨w.heap.size, 0, none⟩) xs := fun j x hx => by
  refine ⟨_, rfl, by simp, ?_⟩
  rw [Addr.add_lit, Nat.zero_add, (Blk.new w 3 (xs.map (Value.int .i64)).toArray).cell j]
  simp [hx]
set_option maxRecDepth 100000 in
set_option maxHeartbeats 4000000 in
theorem awake_calls (W : World) : Calls Try.prog 14 #[] W fun e W' => e = .returned (.bool true) ∧ Below W.heap.size W W' := by
  go_enter Try.func14, Try.ntmps14
  go_wp2_with (first
    | ((with_reducible refine gate_callee (f := 15) rfl ?_); refine goesL_ (some 6) rfl rfl Try.func15 (by kernel_rfl) rfl #[] rfl (by (try simp only [List.map_toArray, List.map_cons, List.map_nil]); first | done | rfl) ?_; (with_reducible refine (new_calls _).mono ?_); rintro e w1 ⟨rfl, g1, b1⟩; refine ⟨_, rfl, ?_⟩; have g1' := Lib.hid g1; have b1' := Lib.hid b1; clear g1 b1)
    | ((with_reducible refine gate_callee (f := 16) rfl ?_); refine goesL_ (some 8) rfl rfl Try.func16 (by kernel_rfl) rfl #[ptrG W.heap.size, .int .i64 1, .int .i64 2, .int .i64 0] rfl (by (try simp only [List.map_toArray, List.map_cons, List.map_nil]); first | done | rfl) ?_; (with_reducible refine (join_calls W.heap.size W.heap.size _ [] 1 2 0 _ good_nil g1'.out b1'.out.size).mono ?_); rintro e w2 ⟨rfl, v2, g2, m2, _⟩; rw [aw1] at g2; refine ⟨_, rfl, ?_⟩; have g2' := Lib.hid g2; have b2' := Lib.hid (step_grp b1'.out (Nat.le_refl _) g1'.out m2); clear g2 m2; simp only [aw1])
    | ((with_reducible refine gate_callee (f := 16) rfl ?_); refine goesL_ (some 10) rfl rfl Try.func16 (by kernel_rfl) rfl #[ptrG W.heap.size, .int .i64 2, .int .i64 1, .int .i64 0] rfl (by (try simp only [List.map_toArray, List.map_cons, List.map_nil]); first | done | rfl) ?_; (with_reducible refine (join_calls W.heap.size W.heap.size _ _ 2 1 0 _ aw4 g2'.out b2'.out.size).mono ?_); rintro e w3 ⟨rfl, v3, g3, m3, _⟩; rw [aw2] at g3; refine ⟨_, rfl, ?_⟩; have g3' := Lib.hid g3; have b3' := Lib.hid (step_grp b2'.out (Nat.le_refl _) g2'.out m3); clear g3 m3; simp only [aw2])
    | ((with_reducible refine gate_callee (f := 17) rfl ?_); refine goesL_ (some 13) rfl rfl Try.func17 (by kernel_rfl) rfl #[ptrG W.heap.size, .int .i64 6] rfl (by (try simp only [List.map_toArray, List.map_cons, List.map_nil]); first | done | rfl) ?_; (with_reducible refine (run_calls W.heap.size W.heap.size _ _ 6 _ aw5 g3'.out).mono ?_); rintro e w4 ⟨u, rfl, u4, g4, m4⟩; rw [aw3] at u4; obtain ⟨gu, cu, rfl⟩ := ownsRow_succ u4; refine ⟨_, rfl, ?_⟩; have u4' := Lib.hid (reads_row u4); have b4' := Lib.hid (step_grp b3'.out (Nat.le_refl _) g3'.out m4); clear u4 g4 m4; simp only [aw3])
    | (go_at_call 18; refine (ints_calls (some ⟨gu, 0, none⟩) (some ⟨w4.heap.size, 0, none⟩) cu 6 [1, 2, 1, 1, 2, 1] [1, 2, 1, 1, 2, 1] _ (u4'.out.1.below (Below.refl _ _ |>.alloc (Nat.le_refl _) _)) (reads_new w4 [1, 2, 1, 1, 2, 1]) (by decide) u4'.out.2.2.2 (by decide)).mono ?_; rintro e w5 ⟨rfl, b5⟩; have b5' := Lib.hid (b4'.out.trans ((Below.refl _ _ |>.alloc (Nat.le_refl _) _).trans (b5.mono (by simp))  |>.mono b4'.out.size)); clear b5; simp only [decide_true]))
  go_ret
  exact ⟨rfl, b5'.out⟩
end Go.Proofs.Ytkcmmghhghgdpaa.Str
end
section
namespace Go.Proofs.Ytkcmmghhghgdpaa.Open
set_option linter.unusedVariables false
set_option linter.unusedSimpArgs false
open Go.RowKit Go.Proofs.YtkcmmghhghgdpaaW.PrintWords

/-- Values of type T read as what k says; good: what is known of them; bulk: no more than the data's. -/
def Opens {α : Type} (P : Program) (T : TypeId) (k : Kd α) (good : α → Prop) (bulk : α → Nat) : Prop :=
  ∀ (H : Type) (enc : TypeId × Value → H) (W : World) (fuel : Nat) (cs : List Value) (x : DataW H × List MemPlace),
    DataW.trod enc P W 0 (fun _ => true) true fuel T cs = some x → ∃ a : α, k.K W a cs ∧ good a ∧ bulk a ≤ Rows.uptoBulk x.1

theorem Opens.int {P : Program} {T : TypeId} {q : IntKind} (h : P.underlying T = some (.int q)) : Opens P T (Kd.int q) (fun n => (Lit.int q n).wf = true) (fun _ => 1) := by
  intro H enc W fuel cs x hx
  obtain ⟨n, rfl, rfl, hw⟩ := DataW.trod_int h hx
  exact ⟨n, rfl, hw, by simp [Rows.uptoBulk]⟩
theorem Opens.bool {P : Program} {T : TypeId} (h : P.underlying T = some .bool) : Opens P T Kd.bool (fun _ => True) (fun _ => 1) := by
  intro H enc W fuel cs x hx
  obtain ⟨n, rfl, rfl⟩ := DataW.trod_bool h hx
  exact ⟨n, rfl, trivial, by simp [Rows.uptoBulk]⟩

theorem list_of {α : Type} (n : Nat) : ∀ (R : Nat → α → Prop), (∀ i, i < n → ∃ a, R i a) → ∃ l : List α, l.length = n ∧ ∀ i a, l[i]? = some a → R i a := by
  induction n with
  | zero => intro R _; exact ⟨[], rfl, fun i a h => by simp at h⟩
  | succ n ih =>
    intro R h
    obtain ⟨a, ha⟩ := h 0 (by omega)
    obtain ⟨l, hl, hr⟩ := ih (fun i a => R (i + 1) a) (fun i hi => h (i + 1) (by omega))
    refine ⟨a :: l, by simp [hl], fun i b hb => ?_⟩
    cases i with
    | zero => simp at hb; subst hb; exact ha
    | succ i => exact hr i b (by simpa using hb)

theorem cells_get {w : World} {base : Nat} {a : Addr} {n : Nat} {cs : List Value} (h : w.cells? base a n = some cs) (j : Nat) (u : Value) (hu : cs[j]? = some u) : w.cell? (a.add j) = some u := by
  unfold World.cells? at h
  split at h
  · have hl := mapM_some_length h
    have hj : j < n := by
      have := (List.getElem?_eq_some_iff.1 hu).1
      simp at hl; omega
    have := mapM_some_get h j j (by simp [hj])
    rw [this, hu]
  · cases h

theorem add_add (a : Addr) (m j : Nat) : (a.add m).add j = a.add (m + j) := by
  unfold Addr.add
  by_cases h1 : m = 0 <;> by_cases h2 : j = 0 <;> simp [h1, h2, Nat.add_assoc]
theorem bulk_sum {α H : Type} (bulk : α → Nat) : ∀ (l : List α) (ds : List (DataW H)), l.length = ds.length → (∀ (i : Nat) (a : α) (d : DataW H), l[i]? = some a → ds[i]? = some d → bulk a ≤ Rows.uptoBulk d) → (l.map bulk).sum ≤ Rows.uptoBulkAll ds
  | [], [], _, _ => by simp
  | a :: l, d :: ds, hl, h => by
    have h0 := h 0 a d rfl rfl
    have h1 := bulk_sum bulk l ds (by simpa using hl) (fun i b e hb he => h (i + 1) b e (by simpa using hb) (by simpa using he))
    simp only [List.map_cons, List.sum_cons, Rows.uptoBulkAll]
    omega
  | [], _ :: _, hl, _ => by simp at hl
  | _ :: _, [], hl, _ => by simp at hl

theorem Opens.slice {α : Type} {P : Program} {T e : TypeId} {k : Kd α} {good : α → Prop} {bulk : α → Nat} (ht : P.underlying T = some (.slice e)) (hz : P.cellsOf e = k.sz) (h : Opens P e k good bulk) :
    Opens P T (Kd.slice e k) (fun l => l.length ≤ maxLen ∧ ∀ a ∈ l, good a) (fun l => (l.map bulk).sum + 1) := by
  intro H enc W fuel cs x hx
  rcases DataW.trod_slice ht hx with ⟨rfl, rfl⟩ | ⟨a, len, cap, elems, rest, n, _, rfl, rfl, _, hl, hm, hlen, hel, _, _⟩
  · exact ⟨[], ⟨none, 0, rfl, Nat.le_refl _, Kd.C_nil k W⟩, ⟨Nat.zero_le _, fun a h => by cases h⟩, by simp [Rows.uptoBulk]⟩
  · have hone : ∀ i, i < len → ∃ v : α, ∃ c, (∃ y, elems[i]? = some y ∧ bulk v ≤ Rows.uptoBulk y.1) ∧ k.K W v c ∧ good v ∧ ∀ j u, c[j]? = some u → W.cell? (a.add (i * k.sz + j)) = some u := by
      intro i hi
      have he := hel i hi
      have hy : elems[i]? = some (elems[i]'(by omega)) := List.getElem?_eq_getElem (by omega)
      rw [hy, Option.bind_eq_some_iff] at he
      obtain ⟨c, hc, ht'⟩ := he
      obtain ⟨v, hv, hg, hb⟩ := h H enc W n c _ ht'
      refine ⟨v, c, ⟨_, hy, hb⟩, hv, hg, fun j u hu => ?_⟩
      have := cells_get hc j u hu
      rw [hz] at this
      rw [← add_add]
      exact this
    obtain ⟨l, hll, hr⟩ := list_of len _ hone
    have hmem : ∀ v ∈ l, good v := by
      intro v hv
      obtain ⟨i, hi⟩ := List.getElem?_of_mem hv
      obtain ⟨c, _, _, hg, _⟩ := hr i v hi
      exact hg
    refine ⟨l, ⟨some a, cap, by rw [hll], by omega, by omega, ?_, fun hpos => ⟨a, rfl, fun j p hp => ?_⟩⟩, ⟨by omega, hmem⟩, ?_⟩
    · unfold maxLen at hm; omega
    · obtain ⟨c, _, hk, _, hc⟩ := hr j p hp
      exact ⟨c, k.K_len hk, hk, hc⟩
    · have hs := bulk_sum (H := H) bulk l (elems.map (·.1)) (by simp [hll, hlen]) (fun i b d hb hd => by
        obtain ⟨c, ⟨y, hy, hby⟩, _⟩ := hr i b hb
        rw [List.getElem?_map, hy] at hd
        simp at hd
        subst hd
        exact hby)
      simp only [Rows.uptoBulk]
      omega

/-- Fields, one behind the other. -/
def OpensFs {α : Type} (P : Program) (ts : List TypeId) (k : Kd α) (good : α → Prop) (bulk : α → Nat) : Prop :=
  ∀ (H : Type) (enc : TypeId × Value → H) (W : World) (n : Nat) (cs : List Value) (xs : List (DataW H × List MemPlace)), cs.length = (ts.map P.cellsOf).sum → xs.length = ts.length →
    (∀ i t, ts[i]? = some t → DataW.trod enc P W 0 (fun _ => true) true n t ((cs.drop ((ts.take i).map P.cellsOf).sum).take (P.cellsOf t)) = xs[i]?) →
    ∃ a : α, k.K W a cs ∧ good a ∧ bulk a ≤ Rows.uptoBulkAll (xs.map (·.1))

theorem OpensFs.one {α : Type} {P : Program} {t : TypeId} {k : Kd α} {good : α → Prop} {bulk : α → Nat} (h : Opens P t k good bulk) : OpensFs P [t] k good bulk := by
  intro H enc W n cs xs hl hx hf
  match xs, hx with
  | [x], _ =>
    have h0 := hf 0 t rfl
    simp at h0 hl
    rw [List.take_of_length_le (by omega)] at h0
    obtain ⟨a, h1, h2, h3⟩ := h H enc W n cs x h0
    exact ⟨a, h1, h2, by simpa [Rows.uptoBulkAll] using h3⟩

theorem OpensFs.cons {α β : Type} {P : Program} {t : TypeId} {ts : List TypeId} {k : Kd α} {ks : Kd β} {g : α → Prop} {gs : β → Prop} {b : α → Nat} {bs : β → Nat} (h : Opens P t k g b) (hs : OpensFs P ts ks gs bs) :
    OpensFs P (t :: ts) (Kd.pair k ks) (fun x => g x.1 ∧ gs x.2) (fun x => b x.1 + bs x.2) := by
  intro H enc W n cs xs hl hx hf
  match xs, hx with
  | x :: xs, hx =>
    have h0 := hf 0 t rfl
    simp at h0 hl
    obtain ⟨a, h1, h2, h3⟩ := h H enc W n _ x h0
    obtain ⟨c, g1, g2, g3⟩ := hs H enc W n (cs.drop (P.cellsOf t)) xs (by rw [List.length_drop]; omega) (by simpa using hx) (fun i t' ht' => by
      have := hf (i + 1) t' (by simpa using ht')
      simp only [List.take_succ_cons, List.map_cons, List.sum_cons, List.getElem?_cons_succ] at this
      rw [List.drop_drop]
      exact this)
    exact ⟨(a, c), ⟨_, _, (List.take_append_drop (P.cellsOf t) cs).symm, h1, g1⟩, ⟨h2, g2⟩, by simp only [List.map_cons, Rows.uptoBulkAll]; omega⟩

theorem Opens.struct {α : Type} {P : Program} {T : TypeId} {fs : Array Field} {ts : List TypeId} {k : Kd α} {good : α → Prop} {bulk : α → Nat} (ht : P.underlying T = some (.struct fs))
    (hts : fs.toList.map (·.type) = ts) (hoff : fs.toList.map (·.offset) = (List.range ts.length).map fun i => ((ts.take i).map P.cellsOf).sum) (hsz : P.cellsOf T = (ts.map P.cellsOf).sum) (h : OpensFs P ts k good bulk) :
    Opens P T k good (fun a => bulk a + 1) := by
  intro H enc W fuel cs x hx
  obtain ⟨xs, n, _, rfl, hl, hlen, hf⟩ := DataW.trod_struct ht hx
  have hn : ts.length = fs.size := by rw [← hts]; simp
  obtain ⟨a, h1, h2, h3⟩ := h H enc W n cs xs (by rw [hl, hsz]) (by rw [hlen, hn]) (fun i t hi => by
    have hlt : i < fs.size := by have := (List.getElem?_eq_some_iff.1 hi).1; omega
    have hfi : fs[i]? = some fs[i] := Array.getElem?_eq_getElem hlt
    have e1 : fs[i].type = t := by
      have := congrArg (fun l => l[i]?) hts
      simp [hi, hlt] at this
      exact this
    have e2 : fs[i].offset = ((ts.take i).map P.cellsOf).sum := by
      have := congrArg (fun l => l[i]?) hoff
      simp [hlt, hn] at this
      rw [List.map_take]
      exact this
    have := hf i _ hfi
    rw [e1, e2] at this
    exact this)
  exact ⟨a, h1, h2, by simp only [Rows.uptoBulk]; omega⟩

theorem Opens.iso {α β : Type} {P : Program} {T : TypeId} {k : Kd α} {good : α → Prop} {bulk : α → Nat} (f : β → α) (g : α → β) (hfg : ∀ a, f (g a) = a) (h : Opens P T k good bulk) :
    Opens P T (Kd.iso k f) (fun b => good (f b)) (fun b => bulk (f b)) := by
  intro H enc W fuel cs x hx
  obtain ⟨a, h1, h2, h3⟩ := h H enc W fuel cs x hx
  exact ⟨g a, by show k.K W (f (g a)) cs; rw [hfg]; exact h1, by show good (f (g a)); rw [hfg]; exact h2, by show bulk (f (g a)) ≤ _; rw [hfg]; exact h3⟩
end Go.Proofs.Ytkcmmghhghgdpaa.Open
end
section
namespace Go.Proofs.Ytkcmmghhghgdpaa.Open
open Go.RowKit Go.Proofs.YtkcmmghhghgdpaaW.PrintWords
set_option linter.unusedVariables false
set_option maxRecDepth 100000 in
theorem ints : Opens Try.prog 22 (Kd.slice 3 (Kd.int .i64)) (fun l => l.length ≤ maxLen ∧ ∀ a ∈ l, (Lit.int .i64 a).wf = true) (fun l => (l.map fun _ => 1).sum + 1) :=
  Opens.slice Try.underlying22 (by kernel_rfl) (Opens.int Try.underlying3)
abbrev kOp : Kd (Int × Int × Int × Int × Int) := Kd.pair (Kd.int .i64) (Kd.pair (Kd.int .i64) (Kd.pair (Kd.int .i64) (Kd.pair (Kd.int .i64) (Kd.int .i64))))
def wf64 (z : Int) : Prop := (Lit.int .i64 z).wf = true
def okOp (x : Int × Int × Int × Int × Int) : Prop := wf64 x.1 ∧ wf64 x.2.1 ∧ wf64 x.2.2.1 ∧ wf64 x.2.2.2.1 ∧ wf64 x.2.2.2.2
set_option maxRecDepth 100000 in
theorem op1 : Opens Try.prog 35 kOp okOp (fun _ => 1 + (1 + (1 + (1 + 1))) + 1) :=
  Opens.struct (ts := [3, 3, 3, 2, 3]) Try.underlying35 (by kernel_rfl) (by kernel_rfl) (by kernel_rfl)
      (OpensFs.cons (Opens.int Try.underlying3) (OpensFs.cons (Opens.int Try.underlying3) (OpensFs.cons (Opens.int Try.underlying3) (OpensFs.cons (Opens.int Try.underlying2) (OpensFs.one (Opens.int Try.underlying3))))))
set_option maxRecDepth 100000 in
theorem ops : Opens Try.prog 32 (Kd.slice 35 kOp) (fun l => l.length ≤ maxLen ∧ ∀ a ∈ l, okOp a) (fun l => (l.map fun _ => 1 + (1 + (1 + (1 + 1))) + 1).sum + 1) :=
  Opens.slice Try.underlying32 (by kernel_rfl) op1
end Go.Proofs.Ytkcmmghhghgdpaa.Open
end
section
namespace Go.Proofs.Ytkcmmghhghgdpaa.Str
open Go.RowKit Go.Shelf Go.Maps Go.Proofs.Ytkcmmghhghgdpaa.Iter Go.Proofs.Ytkcmmghhghgdpaa.SeqM Go.Proofs.YtkcmmghhghgdpaaW.PrintWords Go.Proofs.YtkcmmghhghgdpaaW.PrintLast
set_option linter.unusedVariables false
set_option linter.unusedSimpArgs false
theorem Grp.lower {B B' G : Nat} {v : Value} {l : List Cl} {W : World} (h : Grp tG tC B G v l W) (hb : B' ≤ B) : Grp tG tC B' G v l W := by
  refine ⟨h.blk, Nat.le_trans hb h.base, h.row.1, ?_⟩
  rcases h.row.2 with hn | ⟨g, cap, cur, e, hg, rest⟩
  · exact .inl hn
  · exact .inr ⟨g, cap, cur, e, Nat.le_trans hb hg, rest⟩
theorem slice_of_own {W : World} {base e size n : Nat} {v : Value} {xs : List Value} (h : W.ownsRow base e size v n xs) : ∃ A c, v = .slice A n c := by
  rcases h.2 with ⟨rfl, h0⟩ | ⟨g, cap, cur, rfl, _⟩
  · exact ⟨none, 0, by rw [h0]⟩
  · exact ⟨_, cap, rfl⟩
theorem ReadsI.other {W : World} {A : Option Addr} {xs : List Int} (h : ReadsI W A xs) {a : Addr} (u : Value) (hn : ∀ ad, A = some ad → ad.block ≠ a.block) : ReadsI (W.setCell a u) A xs := fun j x hx => by
  obtain ⟨ad, rfl, h1, h2⟩ := h j x hx
  exact ⟨ad, rfl, by simpa using h1, (World.cell?_of_block (by rw [add_block]; exact Below.heap_setCell _ _ _ _ (hn ad rfl))).trans h2⟩
theorem Grp.other {B G : Nat} {v : Value} {l : List Cl} {W : World} (h : Grp tG tC B G v l W) {a : Addr} (u : Value) (h1 : G ≠ a.block) (h2 : v.ownBlock ≠ some a.block) : Grp tG tC B G v l (W.setCell a u) :=
  h.move (Below.heap_setCell _ _ _ _ h1) (fun k hk => Below.heap_setCell _ _ _ _ (fun e => h2 (by rw [hk, e])))
end Go.Proofs.Ytkcmmghhghgdpaa.Str
namespace Go.Proofs.Ytkcmmghhghgdpaa.Walk
open Go.RowKit Go.Shelf Go.Maps Go.Proofs.Ytkcmmghhghgdpaa.Iter Go.Proofs.Ytkcmmghhghgdpaa.SeqM Go.Proofs.Ytkcmmghhghgdpaa.Str Go.Proofs.YtkcmmghhghgdpaaW.PrintWords Go.Proofs.YtkcmmghhghgdpaaW.PrintLast
set_option linter.unusedVariables false
set_option linter.unusedSimpArgs false

end Go.Proofs.Ytkcmmghhghgdpaa.Walk
end
section
namespace Go.Proofs.Ytkcmmghhghgdpaa.Str
open Go.RowKit Go.Shelf Go.Maps Go.Proofs.Ytkcmmghhghgdpaa.Iter Go.Proofs.Ytkcmmghhghgdpaa.SeqM Go.Proofs.YtkcmmghhghgdpaaW.PrintWords Go.Proofs.YtkcmmghhghgdpaaW.PrintLast
set_option linter.unusedVariables false
set_option linter.unusedSimpArgs false
theorem good_len {l : List Cl} (h : GoodG l) : l.length ≤ 1024 := h.2.2
abbrev Opr : Type := Int × Int × Int × Int × Int
theorem pickR_good {l : List Cl} (h : GoodG l) : GoodG (pickR l).1 := by
  unfold pickR
  split
  · exact h
  · exact pick_good h
/-- A list of calls is read. -/
def ReadsO (W : World) (A : Option Addr) (xs : List Opr) : Prop := ∀ j x, xs[j]? = some x → ∃ ad, A = some ad ∧ ad.block < W.heap.size ∧ W.cell? (ad.add (j * 5)) = some (.int .i64 x.1) ∧
  W.cell? ⟨(ad.add (j * 5)).block, (ad.add (j * 5)).off + 1, none⟩ = some (.int .i64 x.2.1) ∧ W.cell? ⟨(ad.add (j * 5)).block, (ad.add (j * 5)).off + 2, none⟩ = some (.int .i64 x.2.2.1) ∧
  W.cell? ⟨(ad.add (j * 5)).block, (ad.add (j * 5)).off + 3, none⟩ = some (.int .i64 x.2.2.2.1) ∧ W.cell? ⟨(ad.add (j * 5)).block, (ad.add (j * 5)).off + 4, none⟩ = some (.int .i64 x.2.2.2.2)
theorem ReadsO.below {W W' : World} {A : Option Addr} {xs : List Opr} (h : ReadsO W A xs) (hb : Below W.heap.size W W') : ReadsO W' A xs := fun j x hx => by
  obtain ⟨ad, rfl, h1, a, b, c, d, e⟩ := h j x hx
  have hl : (ad.add (j * 5)).block < W.heap.size := by rw [add_block]; exact h1
  exact ⟨ad, rfl, Nat.lt_of_lt_of_le h1 hb.size, (hb.cell (p := ad.add (j * 5)) hl).trans a, (hb.cell (p := ⟨(ad.add (j * 5)).block, _, none⟩) hl).trans b, (hb.cell (p := ⟨(ad.add (j * 5)).block, _, none⟩) hl).trans c, (hb.cell (p := ⟨(ad.add (j * 5)).block, _, none⟩) hl).trans d, (hb.cell (p := ⟨(ad.add (j * 5)).block, _, none⟩) hl).trans e⟩
end Go.Proofs.Ytkcmmghhghgdpaa.Str
end
section
namespace Go.Proofs.Ytkcmmghhghgdpaa.Agt
open Go.Proofs.Ytkcmmghhghgdpaa.Str
set_option linter.unusedVariables false
set_option linter.unusedSimpArgs false
/-- A lease, a task, a job, an agent. -/
structure Ls where
  task : Int
  queue : Int
  node : Int
  cores : List Int
  mem : Int
  since : Int
  til : Int
  stop : Bool
structure Ts where
  id : Int
  queue : Int
  cpu : Int
  mem : Int
  work : Int
  tk : List Int
  state : Int
structure Jb where
  le : Ls
  frm : Int
  work : Int
  had : Int
  th : List Cl
structure Ag where
  nid : Int
  nco : Int
  nme : Int
  nin : Int
  nbe : Int
  short : Int
  clock : Int
  runs : Bool
  inc : Int
  sent : List Int
  replied : Int
  jobs : List Jb
def newG (nid nco nme nin nbe short : Int) : Ag := ⟨nid, nco, nme, nin, nbe, short, 0, false, 0, [], 0, []⟩
/-- May such an agent be? -/
def okNew (nid nco nme short : Int) : Prop := 0 ≤ nid ∧ 1 ≤ nco ∧ nco ≤ 64 ∧ 0 ≤ nme ∧ nme ≤ 1099511627776 ∧ 0 ≤ short ∧ short ≤ 1099511627776
instance (nid nco nme short : Int) : Decidable (okNew nid nco nme short) := by unfold okNew; exact inferInstance
def bootG (s : Ag) (n : Int) : Ag × Int := if s.runs = true then (s, 13) else if n ≤ s.inc then (s, 15) else ({ s with runs := true, inc := n }, 0)
def haltG (s : Ag) : Ag × Int := if s.runs = true then ({ s with runs := false, sent := [], replied := 0, jobs := [] }, 0) else (s, 13)
def passG (s : Ag) (dt : Int) : Ag × Int := if dt < 0 ∨ 1099511627776 < dt then (s, 1) else if 9223372036854775807 < s.clock + dt then (s, 2) else ({ s with clock := s.clock + dt }, 0)
def beatG (s : Ag) : Ag × Int × Int := if s.runs = true then ({ s with sent := s.sent ++ [s.clock] }, (s.sent.length : Int) + 1, 0) else (s, 0, 13)
/-- May a task be? -/
def fitsT (t : Ts) : Bool := decide (1 ≤ (t.tk.length : Int)) && (decide ((t.tk.length : Int) ≤ 16) && (!(t.tk.any fun k => decide (k < 1) || decide (16 < k)) && decide (0 ≤ t.work)))
/-- Do the tasks of a reply rise? -/
def risesT : List Ts → Bool
  | [] => true
  | [_] => true
  | a :: b :: l => decide (a.id < b.id) && risesT (b :: l)
def findT (ts : List Ts) (id : Int) : Option Ts := ts.find? fun t => t.id == id
/-- The cores of a lease. -/
def cstep (n : Int) (s : Option (Int × List Int)) (c : Int) : Option (Int × List Int) :=
  match s with
  | none => none
  | some (last, tk) => if c ≤ last ∨ n ≤ c ∨ c ∈ tk then none else some (c, c :: tk)
def coresF (n : Int) (tk cs : List Int) : Option (Int × List Int) := cs.foldl (cstep n) (some (-1, tk))
theorem cstep_none (n : Int) : ∀ (cs : List Int), cs.foldl (cstep n) none = none
  | [] => rfl
  | c :: cs => cstep_none n cs
theorem coresF_take (n : Int) (tk cs : List Int) (i : Nat) (c : Int) (h : cs[i]? = some c) : coresF n tk (cs.take (i + 1)) = cstep n (coresF n tk (cs.take i)) c := by
  unfold coresF
  rw [List.take_add_one, h, List.foldl_append]
  rfl
theorem coresF_dead {n : Int} {tk cs : List Int} {i : Nat} (h : coresF n tk (cs.take i) = none) : coresF n tk cs = none := by
  unfold coresF at h ⊢
  rw [← List.take_append_drop i cs, List.foldl_append, h]
  exact cstep_none n _
/-- The leases of a reply. -/
def lstep (nid n : Int) (ts : List Ts) (s : Option (Option Int × List Int)) (x : Ls) : Option (Option Int × List Int) :=
  match s with
  | none => none
  | some (prev, tk) =>
    if (∃ p, prev = some p ∧ x.task ≤ p) ∨ x.node ≠ nid ∨ x.cores = [] then none else
    match findT ts x.task with
    | none => none
    | some t => if fitsT t = true then (match coresF n tk x.cores with | none => none | some (_, tk') => some (some x.task, tk')) else none
instance (prev : Option Int) (y : Int) : Decidable (∃ p, prev = some p ∧ y ≤ p) :=
  match prev with
  | none => isFalse (by rintro ⟨p, h, _⟩; cases h)
  | some q => if h : y ≤ q then isTrue ⟨q, rfl, h⟩ else isFalse (by rintro ⟨p, e, h2⟩; cases e; exact h h2)
def formF (nid n : Int) (ts : List Ts) (xs : List Ls) : Option (Option Int × List Int) := xs.foldl (lstep nid n ts) (some (none, []))
theorem lstep_none (nid n : Int) (ts : List Ts) : ∀ (xs : List Ls), xs.foldl (lstep nid n ts) none = none
  | [] => rfl
  | x :: xs => lstep_none nid n ts xs
theorem formF_take (nid n : Int) (ts : List Ts) (xs : List Ls) (i : Nat) (x : Ls) (h : xs[i]? = some x) : formF nid n ts (xs.take (i + 1)) = lstep nid n ts (formF nid n ts (xs.take i)) x := by
  unfold formF
  rw [List.take_add_one, h, List.foldl_append]
  rfl
theorem formF_dead {nid n : Int} {ts : List Ts} {xs : List Ls} {i : Nat} (h : formF nid n ts (xs.take i) = none) : formF nid n ts xs = none := by
  unfold formF at h ⊢
  rw [← List.take_append_drop i xs, List.foldl_append, h]
  exact lstep_none _ _ _ _
def formB (s : Ag) (ts : List Ts) (xs : List Ls) : Bool := risesT ts && (formF s.nid s.nco ts xs).isSome
/-- The threads of a new job. -/
def joinsF : Nat → List Cl → List Int → List Cl
  | _, l, [] => l
  | i, l, k :: ks => joinsF (i + 1) (joinL l (i : Int) k (SQ / k)).1 ks
theorem joinsF_app : ∀ (ks ms : List Int) (i : Nat) (l : List Cl), joinsF i l (ks ++ ms) = joinsF (i + ks.length) (joinsF i l ks) ms
  | [], ms, i, l => rfl
  | k :: ks, ms, i, l => by
    show joinsF (i + 1) _ (ks ++ ms) = _
    rw [joinsF_app ks ms (i + 1), List.length_cons, show i + (ks.length + 1) = i + 1 + ks.length by omega]
    rfl
theorem joinsF_take (ks : List Int) (i : Nat) (k : Int) (h : ks[i]? = some k) : joinsF 0 [] (ks.take (i + 1)) = (joinL (joinsF 0 [] (ks.take i)) (i : Int) k (SQ / k)).1 := by
  have hi := (List.getElem?_eq_some_iff.1 h).1
  rw [List.take_add_one, h]
  show joinsF 0 [] (ks.take i ++ [k]) = _
  rw [joinsF_app, List.length_take, Nat.min_eq_left (by omega), Nat.zero_add]
  rfl
theorem joinsF_good : ∀ (ks : List Int) (i : Nat) (l : List Cl), GoodG l → GoodG (joinsF i l ks)
  | [], i, l, h => h
  | k :: ks, i, l, h => joinsF_good ks (i + 1) _ (join_good h)
/-- What a task is from now on. -/
def jobF (jobs : List Jb) (x : Ls) (t : Ts) (frm : Int) : Jb :=
  match jobs.find? fun j => j.le.task == x.task with
  | some j => { j with le := x, frm := frm }
  | none => ⟨x, frm, t.work, 0, joinsF 0 [] t.tk⟩
def noTask : Ts := ⟨0, 0, 0, 0, 0, [], 0⟩
def replyJ (s : Ag) (ts : List Ts) (xs : List Ls) (frm : Int) : List Jb := xs.map fun x => jobF s.jobs x ((findT ts x.task).getD noTask) frm
def staleG (s : Ag) (n m : Int) : Prop := n ≠ s.inc ∨ m < 1 ∨ (s.sent.length : Int) < m ∨ m ≤ s.replied
instance (s : Ag) (n m : Int) : Decidable (staleG s n m) := by unfold staleG; exact inferInstance
def replyG (s : Ag) (n m : Int) (xs : List Ls) (ts : List Ts) : Ag × Int :=
  if s.runs = true then (if staleG s n m then (s, 15) else if formB s ts xs = true then ({ s with jobs := replyJ s ts xs (s.sent.getD (m - 1).toNat 0), replied := m }, 0) else (s, 4)) else (s, 13)
def doneJ (j : Jb) : Bool := decide (0 < j.work) && decide (j.work ≤ j.had)
def liveJ (s : Ag) (j : Jb) : Bool := decide (s.clock - j.frm < s.short) && !doneJ j
def runsJ (j : Jb) : List (Int × Int) := j.le.cores.map fun c => (j.le.task, c)
def liveG (s : Ag) : List (Int × Int) := (s.jobs.filter (liveJ s)).flatMap runsJ
def finG (s : Ag) : List Ls := (s.jobs.filter doneJ).map (·.le)
def quantJ (j : Jb) : Jb := { j with th := (pickR j.th).1, had := j.had + 1 }
def quantG (s : Ag) : Ag × List (Int × Int) := ({ s with jobs := s.jobs.map fun j => if liveJ s j = true then quantJ j else j }, (s.jobs.filter (liveJ s)).map fun j => (j.le.task, (pickR j.th).2.1))
theorem rises_iff : ∀ (ts : List Ts), risesT ts = true ↔ ts.Pairwise fun x y => x.id < y.id
  | [] => by simp [risesT]
  | [a] => by simp [risesT]
  | a :: b :: l => by
    unfold risesT
    rw [Bool.and_eq_true, decide_eq_true_eq, rises_iff (b :: l)]
    constructor
    · rintro ⟨h, hp⟩
      refine List.pairwise_cons.2 ⟨fun x hx => ?_, hp⟩
      rcases List.mem_cons.1 hx with rfl | hx
      · exact h
      · have := (List.pairwise_cons.1 hp).1 x hx
        omega
    · intro h
      obtain ⟨h1, hp⟩ := List.pairwise_cons.1 h
      exact ⟨h1 b List.mem_cons_self, hp⟩
theorem rises_snoc {ts : List Ts} {i : Nat} {t u : Ts} (hp : (ts.take i).Pairwise fun x y => x.id < y.id) (hu : ts[i - 1]? = some u) (h0 : 0 < i) (hlt : u.id < t.id) : ∀ x ∈ ts.take i, x.id < t.id := fun x hx => by
  obtain ⟨m, hm⟩ := List.mem_iff_getElem?.1 hx
  have hml := (List.getElem?_eq_some_iff.1 hm).1
  rw [List.length_take] at hml
  by_cases he : m = i - 1
  · subst he
    rw [List.getElem?_take, if_pos (by omega), hu] at hm
    obtain rfl := Option.some.inj hm
    exact hlt
  · have hu' : (ts.take i)[i - 1]? = some u := by rw [List.getElem?_take, if_pos (by omega)]; exact hu
    obtain ⟨k1, e1⟩ := List.getElem?_eq_some_iff.1 hm
    obtain ⟨k2, e2⟩ := List.getElem?_eq_some_iff.1 hu'
    have := (List.pairwise_iff_getElem.1 hp) m (i - 1) k1 k2 (by omega)
    rw [e1, e2] at this
    omega
theorem rises_not {ts : List Ts} {i : Nat} {t u : Ts} (ht : ts[i]? = some t) (hu : ts[i - 1]? = some u) (h0 : 0 < i) (hle : t.id ≤ u.id) : risesT ts = false := by
  cases h : risesT ts with
  | false => rfl
  | true =>
    have hp := (rises_iff ts).1 h
    obtain ⟨k1, e1⟩ := List.getElem?_eq_some_iff.1 ht
    obtain ⟨k2, e2⟩ := List.getElem?_eq_some_iff.1 hu
    have := (List.pairwise_iff_getElem.1 hp) (i - 1) i k2 k1 (by omega)
    rw [e1, e2] at this
    omega
theorem take_pair {ts : List Ts} {i : Nat} {t : Ts} (ht : ts[i]? = some t) (hp : (ts.take i).Pairwise fun x y => x.id < y.id) (h : ∀ x ∈ ts.take i, x.id < t.id) : (ts.take (i + 1)).Pairwise fun x y => x.id < y.id := by
  rw [List.take_add_one, ht]
  show (ts.take i ++ [t]).Pairwise _
  rw [List.pairwise_append]
  exact ⟨hp, by simp, fun x hx y hy => by simp at hy; subst hy; exact h x hx⟩
section
variable {nid n : Int} {ts : List Ts} {prev : Option Int} {tk tk' : List Int} {x : Ls} {t : Ts} {last : Int}
theorem lstep_none1 (h : (∃ p, prev = some p ∧ x.task ≤ p) ∨ x.node ≠ nid ∨ x.cores = []) : lstep nid n ts (some (prev, tk)) x = none := by
  unfold lstep
  simp only
  rw [if_pos h]
theorem lstep_none2 (h : findT ts x.task = none) : lstep nid n ts (some (prev, tk)) x = none := by
  unfold lstep
  simp only
  split
  · rfl
  · rw [h]
theorem lstep_none3 (hf : findT ts x.task = some t) (h : fitsT t = false) : lstep nid n ts (some (prev, tk)) x = none := by
  unfold lstep
  simp only
  split
  · rfl
  · rw [hf]
    simp only
    rw [if_neg (by simp [h])]
theorem lstep_none4 (h : coresF n tk x.cores = none) : lstep nid n ts (some (prev, tk)) x = none := by
  unfold lstep
  simp only
  split
  · rfl
  · split
    · rfl
    · rw [h]
      split <;> rfl
theorem lstep_some (h1 : ¬ ((∃ p, prev = some p ∧ x.task ≤ p) ∨ x.node ≠ nid ∨ x.cores = [])) (hf : findT ts x.task = some t) (h : fitsT t = true) (hc : coresF n tk x.cores = some (last, tk')) : lstep nid n ts (some (prev, tk)) x = some (some x.task, tk') := by
  unfold lstep
  simp only
  rw [if_neg h1, hf]
  simp only
  rw [if_pos h, hc]
theorem lstep_prev {s : Option (Option Int × List Int)} (h : lstep nid n ts s x = some (prev, tk)) : prev = some x.task := by
  cases s with
  | none => cases h
  | some s =>
    obtain ⟨p, k⟩ := s
    unfold lstep at h
    simp only at h
    split at h
    · cases h
    · split at h
      · cases h
      · split at h
        · split at h
          · cases h
          · injection h with h
            injection h with h _
            exact h.symm
        · cases h
theorem formF_prev {xs : List Ls} {i : Nat} {u : Ls} (h : formF nid n ts (xs.take i) = some (prev, tk)) (h0 : 0 < i) (hu : xs[i - 1]? = some u) : prev = some u.task := by
  obtain ⟨m, rfl⟩ : ∃ m, i = m + 1 := ⟨i - 1, by omega⟩
  rw [formF_take nid n ts xs m u (by simpa using hu)] at h
  exact lstep_prev h
theorem formF_zero {xs : List Ls} {i : Nat} (h : formF nid n ts (xs.take i) = some (prev, tk)) (h0 : i = 0) : prev = none := by
  subst h0
  injection h with h
  injection h with h _
  exact h.symm
theorem formF_no {xs : List Ls} {i : Nat} (hx : xs[i]? = some x) (h : formF nid n ts (xs.take i) = some (prev, tk)) (hn : lstep nid n ts (some (prev, tk)) x = none) : formF nid n ts xs = none :=
  formF_dead (i := i + 1) (by rw [formF_take nid n ts xs i x hx, h]; exact hn)
theorem coresF_last : ∀ (cs : List Int) (i : Nat), i ≤ cs.length → ∀ (last : Int) (tk' : List Int), coresF n tk (cs.take i) = some (last, tk') → -1 ≤ last
  | cs, 0, _, last, tk', h => by
    injection h with h
    injection h with h _
    omega
  | cs, i + 1, hi, last, tk', h => by
    obtain ⟨c, hc⟩ : ∃ c, cs[i]? = some c := ⟨cs[i]'(by omega), List.getElem?_eq_getElem _⟩
    rw [coresF_take n tk cs i c hc] at h
    cases hs : coresF n tk (cs.take i) with
    | none => rw [hs] at h; cases h
    | some s =>
      obtain ⟨l, k⟩ := s
      have ih := coresF_last cs i (by omega) l k hs
      rw [hs] at h
      unfold cstep at h
      simp only at h
      split at h
      · cases h
      · rename_i hno
        injection h with h
        injection h with h _
        omega
end
end Go.Proofs.Ytkcmmghhghgdpaa.Agt
end
section
namespace Go.Proofs.Ytkcmmghhghgdpaa.Str
open Go.RowKit Go.Shelf Go.Maps Go.Proofs.Ytkcmmghhghgdpaa.Iter Go.Proofs.Ytkcmmghhghgdpaa.SeqM Go.Proofs.YtkcmmghhghgdpaaW.PrintWords Go.Proofs.YtkcmmghhghgdpaaW.PrintLast
set_option linter.unusedVariables false
set_option linter.unusedSimpArgs false
theorem wpList_append_run {P : Program} (w : World) {ops : Array Oper} {rest : List Oper} {o : Oper} {a : Act} {Q : Exit → Act → World → Prop} (hw : Region.wanted o (yielded ops a.tmps) = true) (d x : Operand) (dT sT : TypeId)
    (hop : o.op = Op.call { callee := Callee.builtin Builtin.append, args := #[d, x], argTypes := #[dT, sT] }) (v u : Value) (hd : a.eval d = v) (hx : a.eval x = u) {v' : Value} {w' : World}
    (hr : (Builtin.append_ #[dT, sT] o.type #[v, u]).run P w = .ok v' w') (h : wpList P ops Q rest (a.put o.dst v') w') : wpList P ops Q (o :: rest) a w := by
  unfold wpList
  rw [if_pos hw]
  left
  unfold Oper.wp
  simp [execOp, hop, resolve, invoke, builtin, hd, hx, hr, Result.andThen]
  exact h
theorem ReadsI.grown {W W' : World} {A : Option Addr} {xs : List Int} {r : Option Nat} (h : ReadsI W A xs) (hb : W.grownBy W' r) (hn : ∀ ad, A = some ad → some ad.block ≠ r) : ReadsI W' A xs := fun j x hx => by
  obtain ⟨ad, rfl, h1, h2⟩ := h j x hx
  exact ⟨ad, rfl, Nat.lt_of_lt_of_le h1 hb.size, (World.cell?_of_block (by rw [add_block]; exact hb.block _ h1 (hn ad rfl))).trans h2⟩
theorem own_below {w w' : World} {base e size n : Nat} {v : Value} {xs : List Value} (h : w.ownsRow base e size v n xs) (hm : Below w.heap.size w w') : w'.ownsRow base e size v n xs :=
  own_move h fun k hk => hm.block k (own_block h hk).2.1
theorem below_grown {B : Nat} {W X Y : World} {r : Option Nat} (hb : Below B W X) (hg : X.grownBy Y r) (hB : B ≤ W.heap.size) (hr : ∀ k, r = some k → B ≤ k) : Below B W Y :=
  ⟨hg.os.trans hb.os, hg.tape.trans hb.tape, hg.output.trans hb.output, Nat.le_trans hb.size hg.size, fun k hk => (hg.block k (by have := hb.size; omega) (fun e => by have := hr k e.symm; omega)).trans (hb.block k hk)⟩
theorem ReadsG.other {W : World} {A : Option Addr} {l : List Cl} (h : ReadsG W A l) {a : Addr} (u : Value) (hn : ∀ ad, A = some ad → ad.block ≠ a.block) : ReadsG (W.setCell a u) A l := fun j x hx => by
  obtain ⟨g, rfl, h1, p, q, r⟩ := h j x hx
  have hb := Below.heap_setCell W a u g (hn _ rfl)
  exact ⟨g, rfl, by simpa using h1, (World.cell?_of_block (a := ⟨g, _, none⟩) hb).trans p, (World.cell?_of_block (a := ⟨g, _, none⟩) hb).trans q, (World.cell?_of_block (a := ⟨g, _, none⟩) hb).trans r⟩
end Go.Proofs.Ytkcmmghhghgdpaa.Str
end
section
namespace Go.Proofs.Ytkcmmghhghgdpaa.Agt
open Go.RowKit Go.Shelf Go.Maps Go.Proofs.Ytkcmmghhghgdpaa.Iter Go.Proofs.Ytkcmmghhghgdpaa.SeqM Go.Proofs.Ytkcmmghhghgdpaa.Str Go.Proofs.YtkcmmghhghgdpaaW.PrintWords Go.Proofs.YtkcmmghhghgdpaaW.PrintLast
set_option linter.unusedVariables false
set_option linter.unusedSimpArgs false
abbrev tA : Nat := 120
abbrev tJ : Nat := 129
abbrev tPJ : Nat := 126
abbrev tL : Nat := 81
abbrev tT : Nat := 85
abbrev tI : Nat := 3
abbrev tQ : Nat := 2
abbrev ptr (a : Nat) : Value := .pointer (some ⟨a, 0, none⟩)
/-- Where a job lies: its block, its group's, the group's row, its cores. -/
structure Jm where
  J : Nat
  G : Nat
  v : Value
  A : Option Addr
  c : Nat
abbrev jbCells (j : Jb) (t : Jm) : Array Value := #[.int .i64 j.le.task, .int .i64 j.le.queue, .int .i64 j.le.node, .slice t.A j.le.cores.length t.c, .int .i64 j.le.mem, .int .i64 j.le.since, .int .i64 j.le.til, .bool j.le.stop, .int .i64 j.frm, .int .i64 j.work, .int .i64 j.had, ptr t.G]
abbrev agCells (s : Ag) (vs vj : Value) : Array Value := #[.int .i64 s.nid, .int .i64 s.nco, .int .i64 s.nme, .int .i64 s.nin, .int .i64 s.nbe, .int .i64 s.short, .int .i64 s.clock, .bool s.runs, .int .i64 s.inc, vs, .int .i64 s.replied, vj]
structure JobM (B : Nat) (t : Jm) (j : Jb) (W : World) : Prop where
  blk : Blk W t.J tJ (jbCells j t)
  base : B ≤ t.J
  cores : W.ownsRow B tI 1 (.slice t.A j.le.cores.length t.c) j.le.cores.length (j.le.cores.map (Value.int .i64))
  grp : Grp tG tC B t.G t.v j.th W
structure AgM (B a : Nat) (vs vj : Value) (js : List Jm) (S : Ag) (W : World) : Prop where
  blk : Blk W a tA (agCells S vs vj)
  base : B ≤ a
  sent : W.ownsRow B tQ 1 vs S.sent.length (S.sent.map (Value.int .i64))
  jrow : W.ownsRow B tPJ 1 vj js.length (js.map fun t => ptr t.J)
  len : js.length = S.jobs.length
  job : ∀ (i : Nat) (t : Jm) (j : Jb), js[i]? = some t → S.jobs[i]? = some j → JobM B t j W
  dist : ∀ (i k : Nat) (t u : Jm), js[i]? = some t → js[k]? = some u → i ≠ k → t.J ≠ u.J ∧ t.G ≠ u.G ∧ ∀ r, t.v.ownBlock = some r → u.v.ownBlock ≠ some r
def Foot (a : Nat) (vs vj : Value) (js : List Jm) (k : Nat) : Prop := k = a ∨ vs.ownBlock = some k ∨ vj.ownBlock = some k ∨ ∃ t ∈ js, k = t.J ∨ k = t.G ∨ t.v.ownBlock = some k ∨ ∃ ad, t.A = some ad ∧ ad.block = k
/-- What a call of an agent may change. -/
structure FrF (F : Nat → Prop) (W W' : World) : Prop where
  os : W'.os = W.os
  tape : W'.tape = W.tape
  output : W'.output = W.output
  size : W.heap.size ≤ W'.heap.size
  block : ∀ k, k < W.heap.size → ¬ F k → W'.heap[k]? = W.heap[k]?
section
variable {B a : Nat} {vs vj : Value} {js : List Jm} {S S' : Ag} {W W' W'' : World} {F F' : Nat → Prop}
theorem FrF.refl (F : Nat → Prop) (W : World) : FrF F W W := ⟨rfl, rfl, rfl, Nat.le_refl _, fun _ _ _ => rfl⟩
theorem FrF.trans (h : FrF F W W') (h' : FrF F' W' W'') (hF : ∀ k, F' k → F k ∨ W.heap.size ≤ k) : FrF F W W'' :=
  ⟨h'.os.trans h.os, h'.tape.trans h.tape, h'.output.trans h.output, Nat.le_trans h.size h'.size, fun k hk hn => (h'.block k (Nat.lt_of_lt_of_le hk h.size) (fun e => (hF k e).elim hn (fun h2 => by omega))).trans (h.block k hk hn)⟩
theorem FrF.of_below (h : Below W.heap.size W W') : FrF F W W' := ⟨h.os, h.tape, h.output, h.size, fun k hk _ => h.block k hk⟩
theorem FrF.of_mt {G : Nat} {r : Option Nat} (h : Mt G r W W') (h1 : F G) (h2 : ∀ k, r = some k → F k) : FrF F W W' := ⟨h.os, h.tape, h.output, h.size, fun k hk hn => h.block k hk (fun e => hn (e ▸ h1)) (fun e => hn (h2 k e.symm))⟩
theorem FrF.alloc (h : FrF F W W') (o : Obj) : FrF F W (W'.alloc o) := ⟨h.os, h.tape, h.output, Nat.le_trans h.size (by simp), fun k hk hn => (Below.heap_alloc W' o k (by have := h.size; omega)).trans (h.block k hk hn)⟩
theorem FrF.drew (h : FrF F W W') : FrF F W W'.drew := ⟨h.os, h.tape, h.output, h.size, h.block⟩
theorem FrF.setCell (h : FrF F W W') {p : Addr} (hp : F p.block ∨ W.heap.size ≤ p.block) (u : Value) : FrF F W (W'.setCell p u) := ⟨h.os, h.tape, h.output, by simpa using h.size, fun k hk hn => (Below.heap_setCell W' p u k (fun e => hp.elim (fun h1 => hn (e ▸ h1)) (fun h2 => by omega))).trans (h.block k hk hn)⟩
theorem FrF.below {B : Nat} {W0 : World} (hb : Below B W0 W) (h : FrF F W W') (hF : ∀ k, F k → B ≤ k) (hB : B ≤ W0.heap.size) : Below B W0 W' :=
  ⟨h.os.trans hb.os, h.tape.trans hb.tape, h.output.trans hb.output, Nat.le_trans hb.size h.size, fun k hk => (h.block k (by have := hb.size; omega) (fun e => by have := hF k e; omega)).trans (hb.block k hk)⟩
/-- Blocks of two types are two. -/
theorem two_types {k m : Nat} {cs ds : Array Value} {t u : TypeId} (h1 : W.heap[k]? = some (.cells cs t (0, 0))) (h2 : W.heap[m]? = some (.cells ds u (0, 0))) (ht : t ≠ u) : k ≠ m := fun e => by
  subst e
  rw [h1] at h2
  injection h2 with h2
  injection h2 with _ h2 _
  exact ht h2
theorem JobM.frame {t : Jm} {j : Jb} (h : JobM B t j W) (h1 : W'.heap[t.J]? = W.heap[t.J]?) (h2 : W'.heap[t.G]? = W.heap[t.G]?) (h3 : ∀ k, t.v.ownBlock = some k → W'.heap[k]? = W.heap[k]?) (h4 : ∀ ad, t.A = some ad → W'.heap[ad.block]? = W.heap[ad.block]?) : JobM B t j W' :=
  ⟨h1.trans h.blk, h.base, Str.own_move h.cores (fun k hk => by
    cases hA : t.A with
    | none => rw [hA] at hk; cases hk
    | some ad =>
      rw [hA] at hk
      have hsp := h.cores.2
      rcases hsp with ⟨e, _⟩ | ⟨g, cap, cur, e, _⟩
      · rw [hA] at e; cases e
      · rw [hA] at e
        injection e with e _ _
        injection e with e
        subst e
        injection hk with hk
        subst hk
        exact h4 _ hA), h.grp.move h2 h3⟩
theorem JobM.ltJ {t : Jm} {j : Jb} (h : JobM B t j W) : t.J < W.heap.size := h.blk.lt
theorem JobM.coreA {t : Jm} {j : Jb} (h : JobM B t j W) {ad : Addr} (hA : t.A = some ad) : B ≤ ad.block ∧ ad.block < W.heap.size ∧ ∃ cur, W.heap[ad.block]? = some (.cells cur tI (0, 0)) := by
  rcases h.cores.2 with ⟨e, _⟩ | ⟨g, cap, cur, e, hb, hg, _⟩
  · rw [hA] at e; cases e
  · rw [hA] at e
    injection e with e _ _
    injection e with e
    subst e
    exact ⟨hb, (Array.getElem?_eq_some_iff.1 hg).1, cur, hg⟩
theorem AgM.foot (h : AgM B a vs vj js S W) : ∀ k, Foot a vs vj js k → B ≤ k ∧ k < W.heap.size := fun k hk => by
  rcases hk with rfl | hk | hk | ⟨t, ht, hk⟩
  · exact ⟨h.base, h.blk.lt⟩
  · obtain ⟨x, y, _⟩ := own_block h.sent hk; exact ⟨x, y⟩
  · obtain ⟨x, y, _⟩ := own_block h.jrow hk; exact ⟨x, y⟩
  · obtain ⟨i, hi⟩ := List.mem_iff_getElem?.1 ht
    have hl := (List.getElem?_eq_some_iff.1 hi).1
    have hj := h.job i t (S.jobs[i]'(by rw [← h.len]; exact hl)) hi (List.getElem?_eq_getElem _)
    rcases hk with rfl | rfl | hk | ⟨ad, hA, rfl⟩
    · exact ⟨hj.base, hj.ltJ⟩
    · exact ⟨hj.grp.base, hj.grp.lt⟩
    · obtain ⟨x, y, _⟩ := own_block hj.grp.row hk; exact ⟨x, y⟩
    · obtain ⟨x, y, _⟩ := hj.coreA hA; exact ⟨x, y⟩
theorem AgM.frame (h : AgM B a vs vj js S W) (hk : ∀ k, Foot a vs vj js k → W'.heap[k]? = W.heap[k]?) : AgM B a vs vj js S W' :=
  ⟨(hk a (.inl rfl)).trans h.blk, h.base, Str.own_move h.sent (fun k e => hk k (.inr (.inl e))), Str.own_move h.jrow (fun k e => hk k (.inr (.inr (.inl e)))), h.len,
    fun i t j ht hj => (h.job i t j ht hj).frame (hk _ (.inr (.inr (.inr ⟨t, List.mem_of_getElem? ht, .inl rfl⟩)))) (hk _ (.inr (.inr (.inr ⟨t, List.mem_of_getElem? ht, .inr (.inl rfl)⟩)))) (fun k e => hk k (.inr (.inr (.inr ⟨t, List.mem_of_getElem? ht, .inr (.inr (.inl e))⟩)))) (fun ad e => hk _ (.inr (.inr (.inr ⟨t, List.mem_of_getElem? ht, .inr (.inr (.inr ⟨ad, e, rfl⟩))⟩)))),
    h.dist⟩
theorem AgM.below (h : AgM B a vs vj js S W) (hb : Below W.heap.size W W') : AgM B a vs vj js S W' := h.frame fun k hk => hb.block k (h.foot k hk).2
theorem AgM.alloc (h : AgM B a vs vj js S W) (o : Obj) : AgM B a vs vj js S (W.alloc o) := h.frame fun k hk => Below.heap_alloc W o k (h.foot k hk).2
theorem AgM.drew (h : AgM B a vs vj js S W) : AgM B a vs vj js S W.drew := h.frame fun _ _ => rfl
/-- The agent's own block changed alone. -/
theorem AgM.moved (h : AgM B a vs vj js S W) (hb : Blk W' a tA (agCells S' vs vj)) (hk : ∀ k, k ≠ a → k < W.heap.size → W'.heap[k]? = W.heap[k]?) (e1 : S'.sent = S.sent) (e2 : S'.jobs = S.jobs) : AgM B a vs vj js S' W' := by
  refine ⟨hb, h.base, ?_, ?_, by rw [e2]; exact h.len, ?_, h.dist⟩
  · rw [e1]
    exact Str.own_move h.sent fun k e => by
      obtain ⟨_, y, cur, hc⟩ := own_block h.sent e
      exact hk k (two_types hc h.blk (by decide)) y
  · exact Str.own_move h.jrow fun k e => by
      obtain ⟨_, y, cur, hc⟩ := own_block h.jrow e
      exact hk k (two_types hc h.blk (by decide)) y
  · rw [e2]
    intro i t j ht hj
    have hj' := h.job i t j ht hj
    refine hj'.frame (hk _ (two_types hj'.blk h.blk (by decide)) hj'.ltJ) (hk _ (two_types hj'.grp.blk h.blk (by decide)) hj'.grp.lt) (fun k e => ?_) (fun ad e => ?_)
    · obtain ⟨_, y, cur, hc⟩ := own_block hj'.grp.row e
      exact hk k (two_types hc h.blk (by decide)) y
    · obtain ⟨_, y, cur, hc⟩ := hj'.coreA e
      exact hk _ (two_types hc h.blk (by decide)) y
theorem AgM.setA (h : AgM B a vs vj js S W) (k : Nat) (u : Value) (hk : k < 12) (hc : (agCells S vs vj).setIfInBounds k u = agCells S' vs vj) (e1 : S'.sent = S.sent) (e2 : S'.jobs = S.jobs) : AgM B a vs vj js S' (W.setCell ⟨a, k, none⟩ u) :=
  h.moved (by rw [← hc]; exact h.blk.set k u (by simpa using hk)) (fun m hm _ => Below.heap_setCell W ⟨a, k, none⟩ u m hm) e1 e2
/-- All rows turned: a halted agent. -/
theorem AgM.halted (h : AgM B a vs vj js S W) (hb : Blk W' a tA (agCells S' (.slice none 0 0) (.slice none 0 0))) (e1 : S'.sent = []) (e2 : S'.jobs = []) : AgM B a (.slice none 0 0) (.slice none 0 0) [] S' W' :=
  ⟨hb, h.base, by rw [e1]; exact World.ownsRow_nil _ _ _ _, World.ownsRow_nil _ _ _ _, by rw [e2]; rfl, fun i t j ht => by simp at ht, fun i k t u ht => by simp at ht⟩
end
end Go.Proofs.Ytkcmmghhghgdpaa.Agt
end
section
namespace Go.Proofs.Ytkcmmghhghgdpaa.Agt
open Go.RowKit Go.Shelf Go.Maps Go.Proofs.Ytkcmmghhghgdpaa.Iter Go.Proofs.Ytkcmmghhghgdpaa.SeqM Go.Proofs.Ytkcmmghhghgdpaa.Str Go.Proofs.YtkcmmghhghgdpaaW.PrintWords Go.Proofs.YtkcmmghhghgdpaaW.PrintLast
set_option linter.unusedVariables false
set_option linter.unusedSimpArgs false
set_option maxRecDepth 100000 in
set_option maxHeartbeats 4000000 in
theorem add_calls (x y : Int) (W : World) (h1 : 0 ≤ x) (h2 : x ≤ 9223372036854775807) (h3 : 0 ≤ y) (h4 : y ≤ 9223372036854775807) :
    Calls Try.prog 54 #[.int .i64 x, .int .i64 y] W fun e W' => e = .returned (.tuple #[.int .i64 (if 9223372036854775807 < x + y then 0 else x + y), .int .i64 (if 9223372036854775807 < x + y then 2 else 0)]) ∧ W' = W := by
  have p1 : decide (x < 0) = false := decide_eq_false (by omega)
  have p2 : decide (y < 0) = false := decide_eq_false (by omega)
  by_cases hb : 9223372036854775807 < x + y
  · have hw : IntKind.i64.wrap (x + y) = x + y - 18446744073709551616 := by
      have h := IntWalk.i64_in (x + y - 18446744073709551616) (by omega)
      rw [← h]
      simp [IntKind.wrap, IntKind.signed, IntKind.bits]
    have p3 : decide (x + y - 18446744073709551616 < 0) = true := decide_eq_true (by omega)
    rw [if_pos hb, if_pos hb]
    clear hb h1 h2 h3 h4
    go_enter Try.func54, Try.ntmps54
    go_wp2
    go_ret2
    exact ⟨rfl, rfl⟩
  · have hw : IntKind.i64.wrap (x + y) = x + y := IntWalk.i64_in _ (by omega)
    have p3 : decide (x + y < 0) = false := decide_eq_false (by omega)
    rw [if_neg hb, if_neg hb]
    clear hb h1 h2 h3 h4
    go_enter Try.func54, Try.ntmps54
    go_wp2
    go_ret2
    exact ⟨rfl, rfl⟩

set_option maxRecDepth 100000 in
set_option maxHeartbeats 4000000 in
theorem newG_calls (nid nco nme nin nbe short : Int) (W : World) :
    Calls Try.prog 27 #[.agg #[.int .i64 nid, .int .i64 nco, .int .i64 nme, .int .i64 nin, .int .i64 nbe], .int .i64 short] W fun e W' =>
      (okNew nid nco nme short ∧ ∃ a, e = .returned (.tuple #[ptr a, .int .i64 0]) ∧ AgM W.heap.size a (.slice none 0 0) (.slice none 0 0) [] (newG nid nco nme nin nbe short) W' ∧ Below W.heap.size W W') ∨
      (¬ okNew nid nco nme short ∧ e = .returned (.tuple #[.pointer none, .int .i64 1]) ∧ Below W.heap.size W W') := by
  have bX := Blk.new W 53 #[.int .i64 nid, .int .i64 nco, .int .i64 nme, .int .i64 nin, .int .i64 nbe]
  have d0 := bX.cell 0
  have d1 := bX.cell 1
  have d2 := bX.cell 2
  have d3 := bX.cell 3
  have d4 := bX.cell 4
  simp only [List.getElem?_toArray, List.getElem?_cons_zero, List.getElem?_cons_succ] at d0 d1 d2 d3 d4
  have hb0 := Lib.hid ((Below.refl W.heap.size W).alloc (Nat.le_refl _) (.cells #[.int .i64 nid, .int .i64 nco, .int .i64 nme, .int .i64 nin, .int .i64 nbe] 53))
  clear bX
  by_cases c1 : nid < 0
  · have hok := Lib.hid (show ¬ okNew nid nco nme short by unfold okNew; omega)
    go_enter Try.func27, Try.ntmps27
    go_wp2
    go_ret2
    exact .inr ⟨hok.out, rfl, hb0.out⟩
  by_cases c2 : nco < 1
  · have hok := Lib.hid (show ¬ okNew nid nco nme short by unfold okNew; omega)
    go_enter Try.func27, Try.ntmps27
    go_wp2
    go_ret2
    exact .inr ⟨hok.out, rfl, hb0.out⟩
  by_cases c3 : 64 < nco
  · have hok := Lib.hid (show ¬ okNew nid nco nme short by unfold okNew; omega)
    go_enter Try.func27, Try.ntmps27
    go_wp2
    go_ret2
    exact .inr ⟨hok.out, rfl, hb0.out⟩
  by_cases c4 : nme < 0
  · have hok := Lib.hid (show ¬ okNew nid nco nme short by unfold okNew; omega)
    go_enter Try.func27, Try.ntmps27
    go_wp2
    go_ret2
    exact .inr ⟨hok.out, rfl, hb0.out⟩
  by_cases c5 : 1099511627776 < nme
  · have hok := Lib.hid (show ¬ okNew nid nco nme short by unfold okNew; omega)
    go_enter Try.func27, Try.ntmps27
    go_wp2
    go_ret2
    exact .inr ⟨hok.out, rfl, hb0.out⟩
  by_cases c6 : short < 0
  · have hok := Lib.hid (show ¬ okNew nid nco nme short by unfold okNew; omega)
    go_enter Try.func27, Try.ntmps27
    go_wp2
    go_ret2
    exact .inr ⟨hok.out, rfl, hb0.out⟩
  by_cases c7 : 1099511627776 < short
  · have hok := Lib.hid (show ¬ okNew nid nco nme short by unfold okNew; omega)
    go_enter Try.func27, Try.ntmps27
    go_wp2
    go_ret2
    exact .inr ⟨hok.out, rfl, hb0.out⟩
  have hok := Lib.hid (show okNew nid nco nme short by unfold okNew; omega)
  go_enter Try.func27, Try.ntmps27
  go_wp2
  go_ret2
  refine .inl ⟨hok.out, _, rfl, ⟨by have hx := Blk.new (W.alloc (.cells #[.int .i64 nid, .int .i64 nco, .int .i64 nme, .int .i64 nin, .int .i64 nbe] 53)) tA (agCells (newG nid nco nme nin nbe short) (.slice none 0 0) (.slice none 0 0)); simp only [World.size_alloc] at hx; exact hx, by simp, World.ownsRow_nil _ _ _ _, World.ownsRow_nil _ _ _ _, rfl, fun i t j ht => by simp at ht, fun i k t u ht => by simp at ht⟩, hb0.out.alloc hb0.out.size _⟩

set_option maxRecDepth 100000 in
set_option maxHeartbeats 4000000 in
theorem boot_calls (B a : Nat) (vs vj : Value) (js : List Jm) (S : Ag) (n : Int) (W : World) (h : AgM B a vs vj js S W) :
    Calls Try.prog 28 #[ptr a, .int .i64 n] W fun e W' => e = .returned (.int .i64 (bootG S n).2) ∧ AgM B a vs vj js (bootG S n).1 W' ∧ FrF (Foot a vs vj js) W W' := by
  have h' := Lib.hid h
  have d7 := h.blk.cell 7
  have d8 := h.blk.cell 8
  have f7 := h.blk.frozen 7
  have f8 := h.blk.frozen 8
  simp only [List.getElem?_toArray, List.getElem?_cons_zero, List.getElem?_cons_succ] at d7 d8
  clear h
  by_cases hr : S.runs = true
  · have hj := Lib.hid (show bootG S n = (S, 13) by unfold bootG; rw [if_pos hr])
    go_enter Try.func28, Try.ntmps28
    go_wp2
    go_ret
    exact ⟨by rw [hj.out]; rfl, by rw [hj.out]; exact h'.out, FrF.refl _ _⟩
  · have hr' : S.runs = false := by simpa using hr
    by_cases hn : n ≤ S.inc
    · have hj := Lib.hid (show bootG S n = (S, 15) by unfold bootG; rw [if_neg hr, if_pos hn])
      clear hr
      go_enter Try.func28, Try.ntmps28
      go_wp2
      go_ret
      exact ⟨by rw [hj.out]; rfl, by rw [hj.out]; exact h'.out, FrF.refl _ _⟩
    · have hj := Lib.hid (show bootG S n = ({ S with runs := true, inc := n }, 0) by unfold bootG; rw [if_neg hr, if_neg hn])
      clear hr
      go_enter Try.func28, Try.ntmps28
      go_wp2
      go_ret
      exact ⟨by rw [hj.out]; rfl, by rw [hj.out]; exact (h'.out.setA 7 (.bool true) (S' := { S with runs := true }) (by decide) rfl rfl rfl).setA 8 (.int .i64 n) (by decide) rfl rfl rfl,
        ((FrF.refl _ _).setCell (p := ⟨a, 7, none⟩) (.inl (.inl rfl)) _).setCell (p := ⟨a, 8, none⟩) (.inl (.inl rfl)) _⟩

set_option maxRecDepth 100000 in
set_option maxHeartbeats 4000000 in
theorem halt_calls (B a : Nat) (vs vj : Value) (js : List Jm) (S : Ag) (W : World) (h : AgM B a vs vj js S W) :
    Calls Try.prog 29 #[ptr a] W fun e W' => e = .returned (.int .i64 (haltG S).2) ∧ ∃ vs' vj' js', AgM B a vs' vj' js' (haltG S).1 W' ∧ FrF (Foot a vs vj js) W W' ∧ ∀ k, Foot a vs' vj' js' k → Foot a vs vj js k := by
  have h' := Lib.hid h
  have d7 := h.blk.cell 7
  have d9 := h.blk.cell 9
  have d10 := h.blk.cell 10
  have d11 := h.blk.cell 11
  have f7 := h.blk.frozen 7
  have f9 := h.blk.frozen 9
  have f10 := h.blk.frozen 10
  have f11 := h.blk.frozen 11
  simp only [List.getElem?_toArray, List.getElem?_cons_zero, List.getElem?_cons_succ] at d7 d9 d10 d11
  clear h
  by_cases hr : S.runs = true
  · have hj := Lib.hid (show haltG S = ({ S with runs := false, sent := [], replied := 0, jobs := [] }, 0) by unfold haltG; rw [if_pos hr])
    go_enter Try.func29, Try.ntmps29
    go_wp2
    go_ret
    have b1 := ((((h'.out.blk.set 7 (.bool false) (by simp)).set 9 (.slice none 0 0) (by simp)).set 10 (.int .i64 0) (by simp)).set 11 (.slice none 0 0) (by simp))
    refine ⟨by rw [hj.out]; rfl, .slice none 0 0, .slice none 0 0, [], ?_, ((((FrF.refl _ _).setCell (p := ⟨a, 7, none⟩) (.inl (.inl rfl)) _).setCell (p := ⟨a, 9, none⟩) (.inl (.inl rfl)) _).setCell (p := ⟨a, 10, none⟩) (.inl (.inl rfl)) _).setCell (p := ⟨a, 11, none⟩) (.inl (.inl rfl)) _, ?_⟩
    · rw [hj.out]
      exact h'.out.halted b1 rfl rfl
    · rintro k (rfl | hk | hk | ⟨t, ht, _⟩)
      · exact .inl rfl
      · cases hk
      · cases hk
      · simp at ht
  · have hr' : S.runs = false := by simpa using hr
    have hj := Lib.hid (show haltG S = (S, 13) by unfold haltG; rw [if_neg hr])
    clear hr
    go_enter Try.func29, Try.ntmps29
    go_wp2
    go_ret
    exact ⟨by rw [hj.out]; rfl, vs, vj, js, by rw [hj.out]; exact h'.out, FrF.refl _ _, fun _ h => h⟩

set_option maxRecDepth 100000 in
set_option maxHeartbeats 4000000 in
theorem pass_calls (B a : Nat) (vs vj : Value) (js : List Jm) (S : Ag) (dt : Int) (W : World) (h : AgM B a vs vj js S W) (hc0 : 0 ≤ S.clock) (hc1 : S.clock ≤ 9223372036854775807) :
    Calls Try.prog 30 #[ptr a, .int .i64 dt] W fun e W' => e = .returned (.int .i64 (passG S dt).2) ∧ AgM B a vs vj js (passG S dt).1 W' ∧ FrF (Foot a vs vj js) W W' := by
  have h' := Lib.hid h
  have d6 := h.blk.cell 6
  have f6 := h.blk.frozen 6
  simp only [List.getElem?_toArray, List.getElem?_cons_zero, List.getElem?_cons_succ] at d6
  clear h
  by_cases hn : dt < 0
  · have hj := Lib.hid (show passG S dt = (S, 1) by unfold passG; rw [if_pos (.inl hn)])
    go_enter Try.func30, Try.ntmps30
    go_wp2
    go_ret
    exact ⟨by rw [hj.out]; rfl, by rw [hj.out]; exact h'.out, FrF.refl _ _⟩
  · by_cases hm : 1099511627776 < dt
    · have hj := Lib.hid (show passG S dt = (S, 1) by unfold passG; rw [if_pos (.inr hm)])
      go_enter Try.func30, Try.ntmps30
      go_wp2
      go_ret
      exact ⟨by rw [hj.out]; rfl, by rw [hj.out]; exact h'.out, FrF.refl _ _⟩
    · by_cases hb : 9223372036854775807 < S.clock + dt
      · have hj := Lib.hid (show passG S dt = (S, 2) by unfold passG; rw [if_neg (by omega), if_pos hb])
        have hb' := Lib.hid hb
        clear hb
        go_enter Try.func30, Try.ntmps30
        go_wp2_with ((with_reducible refine gate_callee (f := 54) rfl ?_); refine goesL_ (some 23) rfl rfl Try.func54 (by kernel_rfl) rfl #[.int .i64 S.clock, .int .i64 dt] rfl (by (try simp only [List.map_toArray, List.map_cons, List.map_nil]); first | done | rfl) ?_; (with_reducible refine (add_calls S.clock dt _ hc0 hc1 (by omega) (by omega)).mono ?_); rintro e w1 ⟨rfl, rfl⟩; refine ⟨_, rfl, ?_⟩; (first | rw [if_pos hb'.out, if_pos hb'.out] | rw [if_neg hb'.out, if_neg hb'.out]))
        go_ret
        exact ⟨by rw [hj.out]; rfl, by rw [hj.out]; exact h'.out, FrF.refl _ _⟩
      · have hj := Lib.hid (show passG S dt = ({ S with clock := S.clock + dt }, 0) by unfold passG; rw [if_neg (by omega), if_neg hb])
        have hb' := Lib.hid hb
        clear hb
        go_enter Try.func30, Try.ntmps30
        go_wp2_with ((with_reducible refine gate_callee (f := 54) rfl ?_); refine goesL_ (some 23) rfl rfl Try.func54 (by kernel_rfl) rfl #[.int .i64 S.clock, .int .i64 dt] rfl (by (try simp only [List.map_toArray, List.map_cons, List.map_nil]); first | done | rfl) ?_; (with_reducible refine (add_calls S.clock dt _ hc0 hc1 (by omega) (by omega)).mono ?_); rintro e w1 ⟨rfl, rfl⟩; refine ⟨_, rfl, ?_⟩; (first | rw [if_pos hb'.out, if_pos hb'.out] | rw [if_neg hb'.out, if_neg hb'.out]))
        go_ret
        exact ⟨by rw [hj.out]; rfl, by rw [hj.out]; exact h'.out.setA 6 (.int .i64 (S.clock + dt)) (by decide) rfl rfl rfl, (FrF.refl _ _).setCell (p := ⟨a, 6, none⟩) (.inl (.inl rfl)) _⟩

set_option maxRecDepth 100000 in
set_option maxHeartbeats 4000000 in
theorem clock_calls (B a : Nat) (vs vj : Value) (js : List Jm) (S : Ag) (W : World) (h : AgM B a vs vj js S W) :
    Calls Try.prog 37 #[ptr a] W fun e W' => e = .returned (.int .i64 S.clock) ∧ Below W.heap.size W W' := by
  have d6 := h.blk.cell 6
  simp only [List.getElem?_toArray, List.getElem?_cons_zero, List.getElem?_cons_succ] at d6
  clear h
  go_enter Try.func37, Try.ntmps37
  go_wp2
  go_ret
  exact ⟨rfl, Below.refl _ _⟩
set_option maxRecDepth 100000 in
set_option maxHeartbeats 4000000 in
theorem inc_calls (B a : Nat) (vs vj : Value) (js : List Jm) (S : Ag) (W : World) (h : AgM B a vs vj js S W) :
    Calls Try.prog 43 #[ptr a] W fun e W' => e = .returned (.int .i64 S.inc) ∧ Below W.heap.size W W' := by
  have d8 := h.blk.cell 8
  simp only [List.getElem?_toArray, List.getElem?_cons_zero, List.getElem?_cons_succ] at d8
  clear h
  go_enter Try.func43, Try.ntmps43
  go_wp2
  go_ret
  exact ⟨rfl, Below.refl _ _⟩
end Go.Proofs.Ytkcmmghhghgdpaa.Agt
end
section
namespace Go.Proofs.Ytkcmmghhghgdpaa.Agt
open Go.RowKit Go.Shelf Go.Maps Go.Proofs.Ytkcmmghhghgdpaa.Iter Go.Proofs.Ytkcmmghhghgdpaa.SeqM Go.Proofs.Ytkcmmghhghgdpaa.Str Go.Proofs.YtkcmmghhghgdpaaW.PrintWords Go.Proofs.YtkcmmghhghgdpaaW.PrintLast
set_option linter.unusedVariables false
set_option linter.unusedSimpArgs false
def badK (k : Int) : Bool := decide (k < 1) || decide (16 < k)
set_option maxRecDepth 100000 in
set_option maxHeartbeats 4000000 in
theorem badK_calls (k : Int) (W : World) : Calls Try.prog 96 #[.int .i64 k] W fun e W' => e = .returned (.bool (badK k)) ∧ W' = W := by
  by_cases h1 : k < 1
  · have x1 : decide (k < 1) = true := decide_eq_true h1
    have hv := Lib.hid (show badK k = true by unfold badK; rw [x1]; rfl)
    clear h1
    go_enter Try.func96, Try.ntmps96
    go_wp2
    go_ret
    exact ⟨by rw [hv.out]; rfl, rfl⟩
  · have x1 : decide (k < 1) = false := decide_eq_false h1
    by_cases h2 : 16 < k
    · have hv := Lib.hid (show badK k = true by unfold badK; rw [decide_eq_true h2]; simp)
      have x2 : decide (16 < k) = true := decide_eq_true h2
      clear h1 h2
      go_enter Try.func96, Try.ntmps96
      go_wp2
      go_ret
      exact ⟨by rw [hv.out]; rfl, rfl⟩
    · have hv := Lib.hid (show badK k = false by unfold badK; rw [x1, decide_eq_false h2]; rfl)
      have x2 : decide (16 < k) = false := decide_eq_false h2
      clear h1 h2
      go_enter Try.func96, Try.ntmps96
      go_wp2
      go_ret
      exact ⟨by rw [hv.out]; rfl, rfl⟩

set_option maxRecDepth 100000 in
set_option maxHeartbeats 4000000 in
theorem indexF_calls (A : Option Addr) (c0 : Nat) (ks : List Int) (W : World) (hlen : ks.length ≤ 9223372036854775807) (hr : ReadsI W A ks) :
    Calls Try.prog 102 #[.slice A ks.length c0, .func (.func 96) #[] #[]] W fun e W' => ∃ r : Int, e = .returned (.int .i64 r) ∧ decide (0 ≤ r) = ks.any badK ∧ Below W.heap.size W W' := by
  have hr' := Lib.hid hr
  clear hr
  go_enter Try.func102, Try.ntmps102
  go_wp2
  go_loopw [8] (fun iv wr => ∃ (i : Nat), iv = .int .i64 (i : Int) ∧ i ≤ ks.length ∧ (ks.take i).any badK = false ∧ Below W.heap.size W wr)
    (fun iv _ => ks.length - (intOf iv).toNat)
  case atStart => exact ⟨0, rfl, Nat.zero_le _, rfl, Below.refl _ _⟩
  case round =>
    obtain ⟨i, rfl, hi, hno, hbel⟩ := hrel
    have hbel' := Lib.hid hbel
    by_cases hlt : i < ks.length
    · obtain ⟨k, hk⟩ : ∃ k, ks[i]? = some k := ⟨ks[i], List.getElem?_eq_getElem hlt⟩
      obtain ⟨ad, rfl, _, q0⟩ := (hr'.out.below hbel) i k hk
      have hst : (ks.take (i + 1)).any badK = badK k := by rw [List.take_add_one, hk, List.any_append, hno]; simp
      have hst' := Lib.hid hst
      cases hb : badK k with
      | true =>
        have hany := Lib.hid (show ks.any badK = true from List.any_eq_true.2 ⟨k, List.mem_of_getElem? hk, hb⟩)
        have hb' := Lib.hid hb
        clear hbel hk hno hst hb
        go_wp2_with (go_at_call 96; refine (badK_calls k _).mono ?_; rintro e w1 ⟨rfl, rfl⟩; simp only [hb'.out])
        go_ret
        exact ⟨_, rfl, by rw [hany.out]; exact decide_eq_true (by omega), hbel'.out⟩
      | false =>
        have hb' := Lib.hid hb
        clear hbel hk hno hst hb
        go_wp2_with (go_at_call 96; refine (badK_calls k _).mono ?_; rintro e w1 ⟨rfl, rfl⟩; simp only [hb'.out])
        go_roundw
        case rel => exact ⟨i + 1, by go_num, by omega, by rw [hst'.out, hb'.out], hbel'.out⟩
        case measure => simp [intOf]; omega
    · have hi' : i = ks.length := by omega
      subst hi'
      rw [List.take_of_length_le (Nat.le_refl _)] at hno
      have hno' := Lib.hid hno
      clear hbel hno
      go_wp2
      go_ret
      exact ⟨_, rfl, by rw [hno'.out]; rfl, hbel'.out⟩

set_option maxRecDepth 100000 in
set_option maxHeartbeats 4000000 in
theorem containsF_calls (A : Option Addr) (c0 : Nat) (ks : List Int) (W : World) (hlen : ks.length ≤ 9223372036854775807) (hr : ReadsI W A ks) :
    Calls Try.prog 95 #[.slice A ks.length c0, .func (.func 96) #[] #[]] W fun e W' => e = .returned (.bool (ks.any badK)) ∧ Below W.heap.size W W' := by
  have hI := Lib.hid (indexF_calls A c0 ks W hlen hr)
  clear hr
  go_enter Try.func95, Try.ntmps95
  go_wp2_with ((with_reducible refine gate_callee (f := 102) rfl ?_); refine goesL_ (some 7) rfl rfl Try.func102 (by kernel_rfl) rfl #[.slice A ks.length c0, .func (.func 96) #[] #[]] rfl (by (try simp only [List.map_toArray, List.map_cons, List.map_nil]); first | done | rfl) ?_; (with_reducible refine (hI.out).mono ?_); rintro e w1 ⟨r, rfl, p1, b1⟩; refine ⟨_, rfl, ?_⟩)
  go_ret
  exact ⟨by rw [← p1]; rfl, b1⟩

/-- A task's value. -/
abbrev taskV (t : Ts) (A : Option Addr) (c : Nat) : Value := .agg #[.int .i64 t.id, .int .i64 t.queue, .int .i64 t.cpu, .int .i64 t.mem, .int .i64 t.work, .slice A t.tk.length c, .int .i64 t.state]
abbrev taskC (t : Ts) (A : Option Addr) (c : Nat) : Array Value := #[.int .i64 t.id, .int .i64 t.queue, .int .i64 t.cpu, .int .i64 t.mem, .int .i64 t.work, .slice A t.tk.length c, .int .i64 t.state]
set_option maxRecDepth 100000 in
set_option maxHeartbeats 4000000 in
theorem fits_calls (t : Ts) (A : Option Addr) (c : Nat) (W : World) (hlen : t.tk.length ≤ 9223372036854775807) (hr : ReadsI W A t.tk) :
    Calls Try.prog 84 #[taskV t A c] W fun e W' => e = .returned (.bool (fitsT t)) ∧ Below W.heap.size W W' := by
  have hb1 := Lib.hid ((Below.refl W.heap.size W).alloc (Nat.le_refl _) (.cells (taskC t A c) tT))
  have hr' := Lib.hid (hr.below hb1.out)
  have bX := Blk.new W tT (taskC t A c)
  have d4 := bX.cell 4
  have d5 := bX.cell 5
  simp only [List.getElem?_toArray, List.getElem?_cons_zero, List.getElem?_cons_succ] at d4 d5
  have bX' := Lib.hid bX
  clear bX hr
  by_cases c1 : 1 ≤ (t.tk.length : Int)
  · by_cases c2 : (t.tk.length : Int) ≤ 16
    · cases c3 : t.tk.any badK with
      | true =>
        have hv := Lib.hid (show fitsT t = false by unfold fitsT; rw [show (t.tk.any fun k => decide (k < 1) || decide (16 < k)) = true from c3]; simp)
        have c3' := Lib.hid c3
        clear c3
        go_enter Try.func84, Try.ntmps84
        go_wp2_with ((with_reducible refine gate_callee (f := 95) rfl ?_); refine goesL_ (some 6) rfl rfl Try.func95 (by kernel_rfl) rfl #[.slice A t.tk.length c, .func (.func 96) #[] #[]] rfl (by (try simp only [List.map_toArray, List.map_cons, List.map_nil]); first | done | rfl) ?_; (with_reducible refine (containsF_calls A c t.tk _ hlen hr'.out).mono ?_); rintro e w1 ⟨rfl, b1⟩; refine ⟨_, rfl, ?_⟩; clear d4 d5; have bY := bX'.out.below b1 bX'.out.lt; have d4 := bY.cell 4; have d5 := bY.cell 5; simp only [List.getElem?_toArray, List.getElem?_cons_zero, List.getElem?_cons_succ] at d4 d5; have bY' := Lib.hid bY; clear bY; simp only [c3'.out])
        go_ret
        exact ⟨by rw [hv.out]; rfl, hb1.out.trans (b1.mono hb1.out.size)⟩
      | false =>
        have c3' := Lib.hid c3
        by_cases c4 : 0 ≤ t.work
        · have hv := Lib.hid (show fitsT t = true by unfold fitsT; rw [show (t.tk.any fun k => decide (k < 1) || decide (16 < k)) = false from c3, decide_eq_true c1, decide_eq_true c2, decide_eq_true c4]; rfl)
          clear c3
          go_enter Try.func84, Try.ntmps84
          go_wp2_with ((with_reducible refine gate_callee (f := 95) rfl ?_); refine goesL_ (some 6) rfl rfl Try.func95 (by kernel_rfl) rfl #[.slice A t.tk.length c, .func (.func 96) #[] #[]] rfl (by (try simp only [List.map_toArray, List.map_cons, List.map_nil]); first | done | rfl) ?_; (with_reducible refine (containsF_calls A c t.tk _ hlen hr'.out).mono ?_); rintro e w1 ⟨rfl, b1⟩; refine ⟨_, rfl, ?_⟩; clear d4 d5; have bY := bX'.out.below b1 bX'.out.lt; have d4 := bY.cell 4; have d5 := bY.cell 5; simp only [List.getElem?_toArray, List.getElem?_cons_zero, List.getElem?_cons_succ] at d4 d5; have bY' := Lib.hid bY; clear bY; simp only [c3'.out])
          go_ret
          exact ⟨by rw [hv.out]; rfl, hb1.out.trans (b1.mono hb1.out.size)⟩
        · have hv := Lib.hid (show fitsT t = false by unfold fitsT; rw [decide_eq_false c4]; simp)
          clear c3
          go_enter Try.func84, Try.ntmps84
          go_wp2_with ((with_reducible refine gate_callee (f := 95) rfl ?_); refine goesL_ (some 6) rfl rfl Try.func95 (by kernel_rfl) rfl #[.slice A t.tk.length c, .func (.func 96) #[] #[]] rfl (by (try simp only [List.map_toArray, List.map_cons, List.map_nil]); first | done | rfl) ?_; (with_reducible refine (containsF_calls A c t.tk _ hlen hr'.out).mono ?_); rintro e w1 ⟨rfl, b1⟩; refine ⟨_, rfl, ?_⟩; clear d4 d5; have bY := bX'.out.below b1 bX'.out.lt; have d4 := bY.cell 4; have d5 := bY.cell 5; simp only [List.getElem?_toArray, List.getElem?_cons_zero, List.getElem?_cons_succ] at d4 d5; have bY' := Lib.hid bY; clear bY; simp only [c3'.out])
          go_ret
          exact ⟨by rw [hv.out]; rfl, hb1.out.trans (b1.mono hb1.out.size)⟩
    · have hv := Lib.hid (show fitsT t = false by unfold fitsT; rw [decide_eq_false c2]; simp)
      obtain ⟨bb, c3⟩ : ∃ b, t.tk.any badK = b := ⟨_, rfl⟩
      have c3' := Lib.hid c3
      clear c3
      go_enter Try.func84, Try.ntmps84
      go_wp2_with ((with_reducible refine gate_callee (f := 95) rfl ?_); refine goesL_ (some 6) rfl rfl Try.func95 (by kernel_rfl) rfl #[.slice A t.tk.length c, .func (.func 96) #[] #[]] rfl (by (try simp only [List.map_toArray, List.map_cons, List.map_nil]); first | done | rfl) ?_; (with_reducible refine (containsF_calls A c t.tk _ hlen hr'.out).mono ?_); rintro e w1 ⟨rfl, b1⟩; refine ⟨_, rfl, ?_⟩; clear d4 d5; have bY := bX'.out.below b1 bX'.out.lt; have d4 := bY.cell 4; have d5 := bY.cell 5; simp only [List.getElem?_toArray, List.getElem?_cons_zero, List.getElem?_cons_succ] at d4 d5; have bY' := Lib.hid bY; clear bY; simp only [c3'.out])
      go_ret
      exact ⟨by rw [hv.out]; rfl, hb1.out.trans (b1.mono hb1.out.size)⟩
  · have hv := Lib.hid (show fitsT t = false by unfold fitsT; rw [decide_eq_false c1]; simp)
    obtain ⟨bb, c3⟩ : ∃ b, t.tk.any badK = b := ⟨_, rfl⟩
    have c3' := Lib.hid c3
    clear c3
    go_enter Try.func84, Try.ntmps84
    go_wp2_with ((with_reducible refine gate_callee (f := 95) rfl ?_); refine goesL_ (some 6) rfl rfl Try.func95 (by kernel_rfl) rfl #[.slice A t.tk.length c, .func (.func 96) #[] #[]] rfl (by (try simp only [List.map_toArray, List.map_cons, List.map_nil]); first | done | rfl) ?_; (with_reducible refine (containsF_calls A c t.tk _ hlen hr'.out).mono ?_); rintro e w1 ⟨rfl, b1⟩; refine ⟨_, rfl, ?_⟩; clear d4 d5; have bY := bX'.out.below b1 bX'.out.lt; have d4 := bY.cell 4; have d5 := bY.cell 5; simp only [List.getElem?_toArray, List.getElem?_cons_zero, List.getElem?_cons_succ] at d4 d5; have bY' := Lib.hid bY; clear bY; simp only [c3'.out])
    go_ret
    exact ⟨by rw [hv.out]; rfl, hb1.out.trans (b1.mono hb1.out.size)⟩

theorem infoQ : (Try.prog.info? 2).map (fun i => (i.zero, i.size, i.bytes)) = some (some (.int .i64 0), 1, 8) := by kernel_rfl
/-- The times of heartbeats turned. -/
theorem AgM.sentSet {B a : Nat} {vs vs' vj : Value} {js : List Jm} {S S' : Ag} {W W' : World} (h : AgM B a vs vj js S W) (hb : Blk W' a tA (agCells S' vs' vj)) (hs : W'.ownsRow B tQ 1 vs' S'.sent.length (S'.sent.map (Value.int .i64)))
    (hk : ∀ k, k ≠ a → vs.ownBlock ≠ some k → k < W.heap.size → W'.heap[k]? = W.heap[k]?) (e2 : S'.jobs = S.jobs) : AgM B a vs' vj js S' W' := by
  have ns : ∀ {k : Nat} {cs : Array Value} {t : TypeId}, W.heap[k]? = some (.cells cs t (0, 0)) → t ≠ tQ → vs.ownBlock ≠ some k := fun hc ht e => by
    obtain ⟨_, _, cur, h2⟩ := own_block h.sent e
    exact two_types hc h2 ht rfl
  refine ⟨hb, h.base, hs, ?_, by rw [e2]; exact h.len, ?_, h.dist⟩
  · exact Str.own_move h.jrow fun k e => by
      obtain ⟨_, y, cur, hc⟩ := own_block h.jrow e
      exact hk k (two_types hc h.blk (by decide)) (ns hc (by decide)) y
  · rw [e2]
    intro i t j ht hj
    have hj' := h.job i t j ht hj
    refine hj'.frame (hk _ (two_types hj'.blk h.blk (by decide)) (ns hj'.blk (by decide)) hj'.ltJ) (hk _ (two_types hj'.grp.blk h.blk (by decide)) (ns hj'.grp.blk (by decide)) hj'.grp.lt) (fun k e => ?_) (fun ad e => ?_)
    · obtain ⟨_, y, cur, hc⟩ := own_block hj'.grp.row e
      exact hk k (two_types hc h.blk (by decide)) (ns hc (by decide)) y
    · obtain ⟨_, y, cur, hc⟩ := hj'.coreA e
      exact hk _ (two_types hc h.blk (by decide)) (ns hc (by decide)) y
theorem beat_done {B a : Nat} {vs vj : Value} {js : List Jm} {S : Ag} {W w1 : World} {gg cap : Nat} (h : AgM B a vs vj js S W)
    (hown1 : w1.ownsRow B tQ 1 (.slice (some ⟨gg, 0, none⟩) (S.sent.length + 1) cap) (S.sent.length + 1) (S.sent.map (Value.int .i64) ++ [.int .i64 S.clock]))
    (hgrow : (W.alloc (.cells #[.int .i64 S.clock] tQ)).drew.grownBy w1 vs.ownBlock) (hat : vs.ownBlock = some gg ∨ gg = W.heap.size + 1) :
    AgM B a (.slice (some ⟨gg, 0, none⟩) (S.sent.length + 1) cap) vj js { S with sent := S.sent ++ [S.clock] } (w1.setCell ⟨a, 9, none⟩ (.slice (some ⟨gg, 0, none⟩) (S.sent.length + 1) cap)) ∧
    FrF (Foot a vs vj js) W (w1.setCell ⟨a, 9, none⟩ (.slice (some ⟨gg, 0, none⟩) (S.sent.length + 1) cap)) ∧
    ∀ k, Foot a (.slice (some ⟨gg, 0, none⟩) (S.sent.length + 1) cap) vj js k → Foot a vs vj js k ∨ W.heap.size ≤ k := by
  have hna : some a ≠ vs.ownBlock := fun e => by
    obtain ⟨_, _, cur, hc⟩ := own_block h.sent e.symm
    exact two_types hc h.blk (by decide) rfl
  have hblk : ∀ k, k < W.heap.size → k ≠ a → vs.ownBlock ≠ some k → (w1.setCell ⟨a, 9, none⟩ (.slice (some ⟨gg, 0, none⟩) (S.sent.length + 1) cap)).heap[k]? = W.heap[k]? := fun k hk h1 h2 =>
    (Below.heap_setCell w1 ⟨a, 9, none⟩ _ k h1).trans ((hgrow.block k (by show k < (W.alloc _).heap.size; simp; omega) (fun e => h2 e.symm)).trans (Below.heap_alloc W _ k hk))
  have bY : Blk w1 a tA (agCells S vs vj) := (h.blk.alloc (.cells #[.int .i64 S.clock] tQ)).drew.kept hgrow hna
  have hgt : ∃ cur, w1.heap[gg]? = some (.cells cur tQ (0, 0)) := (own_block hown1 (k := gg) rfl).2.2
  obtain ⟨cur, hgt⟩ := hgt
  refine ⟨h.sentSet ?_ ?_ (fun k h1 h2 h3 => hblk k h3 h1 h2) rfl, ⟨hgrow.os, hgrow.tape, hgrow.output, ?_, fun k hk hn => hblk k hk (fun e => hn (.inl e)) (fun e => hn (.inr (.inl e)))⟩, ?_⟩
  · have := bY.set 9 (.slice (some ⟨gg, 0, none⟩) (S.sent.length + 1) cap) (by simp)
    exact this
  · rw [List.map_append, List.length_append]
    exact Str.own_move hown1 fun k e => Below.heap_setCell w1 ⟨a, 9, none⟩ _ k (by
      injection e with e
      subst e
      exact two_types hgt bY (by decide))
  · have h1 := hgrow.size
    have h2 : (W.alloc (.cells #[.int .i64 S.clock] tQ)).drew.heap.size = W.heap.size + 1 := World.size_alloc W _
    simp
    omega
  · rintro k (rfl | hk | hk | hk)
    · exact .inl (.inl rfl)
    · injection hk with hk
      subst hk
      rcases hat with h1 | h1
      · exact .inl (.inr (.inl h1))
      · exact .inr (by show W.heap.size ≤ gg; omega)
    · exact .inl (.inr (.inr (.inl hk)))
    · exact .inl (.inr (.inr (.inr hk)))
set_option maxRecDepth 100000 in
set_option maxHeartbeats 8000000 in
theorem beat_calls (B a : Nat) (vs vj : Value) (js : List Jm) (S : Ag) (W : World) (h : AgM B a vs vj js S W) (hl : S.sent.length ≤ 100000) (hB : B ≤ W.heap.size) :
    Calls Try.prog 31 #[ptr a] W fun e W' => e = .returned (.tuple #[.int .i64 (beatG S).2.1, .int .i64 (beatG S).2.2]) ∧ ∃ vs', AgM B a vs' vj js (beatG S).1 W' ∧ FrF (Foot a vs vj js) W W' ∧ ∀ k, Foot a vs' vj js k → Foot a vs vj js k ∨ W.heap.size ≤ k := by
  have h' := Lib.hid h
  have d6 := h.blk.cell 6
  have d7 := h.blk.cell 7
  have d9 := h.blk.cell 9
  simp only [List.getElem?_toArray, List.getElem?_cons_zero, List.getElem?_cons_succ] at d6 d7 d9
  have hal := h.blk.lt
  by_cases hr : S.runs = true
  · have hj := Lib.hid (show beatG S = ({ S with sent := S.sent ++ [S.clock] }, (S.sent.length : Int) + 1, 0) by unfold beatG; rw [if_pos hr])
    obtain ⟨i0, hif, hz0, hz1, hz2⟩ := info_parts infoQ
    have hown := h.sent
    have hna : vs.ownBlock ≠ some a := fun e => by
      obtain ⟨_, _, cur, hc⟩ := own_block h.sent e
      exact two_types hc h.blk (by decide) rfl
    have hbk := Lib.hid h.blk
    clear h
    go_enter Try.func31, Try.ntmps31
    go_wp2_with fail
    go_region_law (refine step_append_lies _ (by rfl) _ _ _ (by rfl) B tQ i0 _ 1 8 Try.underlying72 hif hz0 hz1 hz2 rfl (by omega) vs S.sent.length (S.sent.map (Value.int .i64)) (by rfl) (by first | exact (hown.alloc _).drew | exact hown.drew.alloc _ | exact hown.alloc _) ⟨W.heap.size, 0, none⟩ 1 1 [.int .i64 S.clock] (by rfl) (by rfl) (World.news_of_block (cs := #[.int .i64 S.clock]) (t := tQ) (fr := (0, 0)) (heap_alloc_new W _)) (by simp [Value.oneCell']) (by omega) (by unfold maxLen; omega) (by omega) (by simp; omega) (W.heap.size + 1) (by simp) ?_; intro gg cap w1 hown1 hgrow hat hlt; have bY := (hbk.out.alloc (.cells #[.int .i64 S.clock] tQ)).drew.kept hgrow (fun e => hna e.symm); have f9 := bY.frozen 9; have c9 := bY.cell 9; simp only [List.getElem?_toArray, List.getElem?_cons_zero, List.getElem?_cons_succ] at c9; have bY' := Lib.hid bY; clear bY)
    all_goals (
      have z9 := (bY'.out.set 9 (.slice (some ⟨gg, 0, none⟩) (S.sent.length + 1) cap) (by simp)).cell 9
      simp only [List.setIfInBounds_toArray, List.set_cons_succ, List.set_cons_zero, List.getElem?_toArray, List.getElem?_cons_zero, List.getElem?_cons_succ] at z9
      obtain ⟨e1, e2, e3⟩ := beat_done h'.out hown1 hgrow hat
      have e1' := Lib.hid e1
      have e2' := Lib.hid e2
      have e3' := Lib.hid e3
      clear e1 e2 e3 hown1 hgrow hat hlt
      go_wp2
      go_ret2
      exact ⟨by rw [hj.out]; rfl, _, by rw [hj.out]; exact e1'.out, e2'.out, e3'.out⟩)
  · have hr' : S.runs = false := by simpa using hr
    have hj := Lib.hid (show beatG S = (S, 0, 13) by unfold beatG; rw [if_neg hr])
    clear hr h
    go_enter Try.func31, Try.ntmps31
    go_wp2
    go_ret2
    exact ⟨by rw [hj.out]; rfl, vs, by rw [hj.out]; exact h'.out, FrF.refl _ _, fun _ h => .inl h⟩
end Go.Proofs.Ytkcmmghhghgdpaa.Agt
end
