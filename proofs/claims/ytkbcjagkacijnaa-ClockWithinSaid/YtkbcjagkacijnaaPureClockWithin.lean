/- ClockWithin: for all numbers, how far a clock may go is the reference's; no condition. -/
import Derived.Test.YtkbcjagkacijnaaPNumx11
import Derived.Test.YtkbcjagkacijnaaClock
namespace Go.Proofs.Ytkbcjagkacijnaa.Pure
set_option linter.unusedVariables false
set_option linter.unusedSimpArgs false
open Go.RowKit Go.Proofs.Ytkbcjagkacijnaa.PNum Go.Proofs.Ytkbcjagkacijnaa.NumLib Go.Proofs.YtkbcjagkacijnaaW.PrintWords Go.Proofs.YtkbcjagkacijnaaW.PrintLast

theorem ClockWithin : furlonglaw04_ClockWithin.Pure := by
  intro t i d wt wi wd
  have main : ∀ k, 30 ≤ k → furlonglaw04_ClockWithin.f k t i d = some true := by
    intro k hk
    unfold furlonglaw04_ClockWithin.f
    rw [cawake_eq (by omega), rwithin_eq]
    obtain ⟨k, rfl⟩ : ∃ m, k = m + 3 := ⟨k - 3, by omega⟩
    rw [within_eq]
    simp
  exact ⟨_, main _ (Nat.le_refl _)⟩

end Go.Proofs.Ytkbcjagkacijnaa.Pure
