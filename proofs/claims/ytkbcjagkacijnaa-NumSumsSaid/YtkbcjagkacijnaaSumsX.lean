/- num.Sum, the document's Sum and the law's awake, named again for NumSums' own print. -/
import Derived.Test.YtkbcjagkacijnaaPSumsx0
import Derived.Test.YtkbcjagkacijnaaSum
import Derived.Test.YtkbcjagkacijnaaPNumx15
import Derived.Test.YtkbcjagkacijnaaPNumx4
namespace Go.Proofs.Ytkbcjagkacijnaa.PSums
open Go.RowKit Go.Proofs.YtkbcjagkacijnaaW.PrintWords Go.Proofs.YtkbcjagkacijnaaW.PrintLast
set_option linter.unusedVariables false
abbrev num_Sum.f := @PNum.num_Sum.f
theorem num_Sum.mono : ∀ l k, LeO (num_Sum.f k l) (num_Sum.f (k + 1) l) := PNum.num_Sum.mono
theorem num_Sum.calls (k : Nat) (A0 : Option Addr) (c0 : Nat) (l0 : List Int) (r1 r2 : Int) (w : World) (hr0 : Kd.C (Kd.int .i64) w A0 l0.length l0) (hc0 : l0.length ≤ c0) (h : num_Sum.f k l0 = some (r1, r2)) :
    Calls Try.prog 76 #[.slice A0 l0.length c0] w fun e w' => e = .returned (.tuple #[.int .i64 r1, .int .i64 r2]) ∧ Below w.heap.size w w' := PNum.num_Sum.calls k A0 c0 l0 r1 r2 w hr0 hc0 h
abbrev furlongref01_Sum.f := @PNum.furlongref01_Sum.f
theorem furlongref01_Sum.mono : ∀ a0 k, LeO (furlongref01_Sum.f k a0) (furlongref01_Sum.f (k + 1) a0) := PNum.furlongref01_Sum.mono
theorem furlongref01_Sum.calls (k : Nat) (A0 : Option Addr) (c0 : Nat) (l0 : List Int) (r1 : Int) (r2 : Int) (w : World) (hr0 : Kd.C (Kd.int .i64) w A0 l0.length l0) (hc0 : l0.length ≤ c0) (h : furlongref01_Sum.f k l0 = some (r1, r2)) :
    Calls Try.prog 77 #[.slice A0 l0.length c0] w fun e w' => e = .returned (.tuple #[.int .i64 r1, .int .i64 r2]) ∧ Below w.heap.size w w' := PNum.furlongref01_Sum.calls k A0 c0 l0 r1 r2 w hr0 hc0 h
abbrev furlonglaw01_awake.f := @PNum.furlonglaw01_awake.f
theorem furlonglaw01_awake.mono : ∀ k, LeO (furlonglaw01_awake.f k) (furlonglaw01_awake.f (k + 1)) := PNum.furlonglaw01_awake.mono
theorem furlonglaw01_awake.calls (k : Nat) (r : Bool) (w : World) (h : furlonglaw01_awake.f k = some r) :
    Calls Try.prog 55 #[] w fun e w' => e = .returned (.bool r) ∧ Below w.heap.size w w' := PNum.furlonglaw01_awake.calls k r w h
end Go.Proofs.Ytkbcjagkacijnaa.PSums
