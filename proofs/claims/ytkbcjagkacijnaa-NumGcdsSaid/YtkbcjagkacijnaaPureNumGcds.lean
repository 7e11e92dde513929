/- NumGcds: for all numbers, the greatest common divisor is the reference's; no condition. -/
import Derived.Test.YtkbcjagkacijnaaPNumx7
import Derived.Test.YtkbcjagkacijnaaNumE
namespace Go.Proofs.Ytkbcjagkacijnaa.Pure
set_option linter.unusedVariables false
set_option linter.unusedSimpArgs false
open Go.RowKit Go.Proofs.Ytkbcjagkacijnaa.PNum Go.Proofs.Ytkbcjagkacijnaa.NumLib Go.Proofs.YtkbcjagkacijnaaW.PrintWords Go.Proofs.YtkbcjagkacijnaaW.PrintLast

theorem NumGcds : furlonglaw01_NumGcds.Pure := by
  intro a b wa wb
  have ha : in64 a := wf64.mp wa
  have hb : in64 b := wf64.mp wb
  have main : ∀ k, 9223372036854775830 ≤ k → furlonglaw01_NumGcds.f k a b = some true := by
    intro k hk
    unfold furlonglaw01_NumGcds.f
    rw [awake_eq (by omega), gcd_eq ha hb (by omega), rgcd_eq ha hb (by omega)]
    simp
  exact ⟨_, main _ (Nat.le_refl _)⟩

end Go.Proofs.Ytkbcjagkacijnaa.Pure
