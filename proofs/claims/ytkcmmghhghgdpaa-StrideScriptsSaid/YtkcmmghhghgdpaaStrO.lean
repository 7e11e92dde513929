/- Lists of integers and of calls as they are read of an argument. -/
import Derived.Test.YtkcmmghhghgdpaaOpen
namespace Go.Proofs.Ytkcmmghhghgdpaa.Open
open Go.RowKit Go.Proofs.YtkcmmghhghgdpaaW.PrintWords
set_option linter.unusedVariables false
set_option maxRecDepth 100000 in
theorem ints : Opens Try.prog 22 (Kd.slice 3 (Kd.int .i64)) (fun l => l.length ≤ maxLen ∧ ∀ a ∈ l, (Lit.int .i64 a).wf = true) (fun l => (l.map fun _ => 1).sum + 1) :=
  Opens.slice Try.underlying22 (by kernel_rfl) (Opens.int Try.underlying3)
abbrev kOp : Kd (Int × Int × Int × Int × Int) := Kd.pair (Kd.int .i64) (Kd.pair (Kd.int .i64) (Kd.pair (Kd.int .i64) (Kd.pair (Kd.int .i64) (Kd.int .i64))))
def wf64 (z : Int) : Prop := (Lit.int .i64 z).wf = true
def okOp (x : Int × Int × Int × Int × Int) : Prop := wf64 x.1 ∧ wf64 x.2.1 ∧ wf64 x.2.2.1 ∧ wf64 x.2.2.2.1 ∧ wf64 x.2.2.2.2
set_option maxRecDepth 100000 in
theorem op1 : Opens Try.prog 35 kOp okOp (fun _ => 1 + (1 + (1 + (1 + 1))) + 1) :=
  Opens.struct (ts := [3, 3, 3, 2, 3]) Try.underlying35 (by kernel_rfl) (by kernel_rfl) (by kernel_rfl)
      (OpensFs.cons (Opens.int Try.underlying3) (OpensFs.cons (Opens.int Try.underlying3) (OpensFs.cons (Opens.int Try.underlying3) (OpensFs.cons (Opens.int Try.underlying2) (OpensFs.one (Opens.int Try.underlying3))))))
set_option maxRecDepth 100000 in
theorem ops : Opens Try.prog 32 (Kd.slice 35 kOp) (fun l => l.length ≤ maxLen ∧ ∀ a ∈ l, okOp a) (fun l => (l.map fun _ => 1 + (1 + (1 + (1 + 1))) + 1).sum + 1) :=
  Opens.slice Try.underlying32 (by kernel_rfl) op1
end Go.Proofs.Ytkcmmghhghgdpaa.Open
