/- num.Cmp and the law's awake, named again for NumOrder's own print. -/
import Derived.Test.YtkbcjagkacijnaaPOrdx0
import Derived.Test.YtkbcjagkacijnaaPNumx2
import Derived.Test.YtkbcjagkacijnaaPNumx4
namespace Go.Proofs.Ytkbcjagkacijnaa.POrd
open Go.RowKit Go.Proofs.YtkbcjagkacijnaaW.PrintWords Go.Proofs.YtkbcjagkacijnaaW.PrintLast
set_option linter.unusedVariables false
abbrev num_Cmp.f := @PNum.num_Cmp.f
theorem num_Cmp.mono : ∀ a0 a1 a2 a3 k, LeO (num_Cmp.f k a0 a1 a2 a3) (num_Cmp.f (k + 1) a0 a1 a2 a3) := PNum.num_Cmp.mono
abbrev furlonglaw01_awake.f := @PNum.furlonglaw01_awake.f
theorem furlonglaw01_awake.mono : ∀ k, LeO (furlonglaw01_awake.f k) (furlonglaw01_awake.f (k + 1)) := PNum.furlonglaw01_awake.mono
theorem num_Cmp.calls (k : Nat) (a0 : Int) (a1 : Int) (a2 : Int) (a3 : Int) (r1 : Int) (r2 : Int) (w : World) (h : num_Cmp.f k a0 a1 a2 a3 = some (r1, r2)) :
    Calls Try.prog 48 #[.int .i64 a0, .int .i64 a1, .int .i64 a2, .int .i64 a3] w fun e w' => e = .returned (.tuple #[.int .i64 r1, .int .i64 r2]) ∧ Below w.heap.size w w' := PNum.num_Cmp.calls k a0 a1 a2 a3 r1 r2 w h
theorem furlonglaw01_awake.calls (k : Nat) (r : Bool) (w : World) (h : furlonglaw01_awake.f k = some r) :
    Calls Try.prog 55 #[] w fun e w' => e = .returned (.bool r) ∧ Below w.heap.size w w' := PNum.furlonglaw01_awake.calls k r w h
end Go.Proofs.Ytkbcjagkacijnaa.POrd
