/- NumAdds: for all numbers, sums, differences and products are the reference's; no condition. -/
import Derived.Test.YtkbcjagkacijnaaPNumx9
import Derived.Test.YtkbcjagkacijnaaNumE
namespace Go.Proofs.Ytkbcjagkacijnaa.Pure
set_option linter.unusedVariables false
set_option linter.unusedSimpArgs false
open Go.RowKit Go.Proofs.Ytkbcjagkacijnaa.PNum Go.Proofs.Ytkbcjagkacijnaa.NumLib Go.Proofs.YtkbcjagkacijnaaW.PrintWords Go.Proofs.YtkbcjagkacijnaaW.PrintLast

theorem NumAdds : furlonglaw01_NumAdds.Pure := by
  intro a b wa wb
  have ha : in64 a := wf64.mp wa
  have hb : in64 b := wf64.mp wb
  have main : ∀ k, 9223372036854775830 ≤ k → furlonglaw01_NumAdds.f k a b = some true := by
    intro k hk
    unfold furlonglaw01_NumAdds.f
    rw [awake_eq (by omega)]
    obtain ⟨k, rfl⟩ : ∃ m, k = m + 1 := ⟨k - 1, by omega⟩
    rw [add_eq ha hb, sub_eq ha hb, mul_eq ha hb, radd_eq ha hb, rsub_eq ha hb, rmul_eq ha hb]
    simp
  exact ⟨_, main _ (Nat.le_refl _)⟩

end Go.Proofs.Ytkbcjagkacijnaa.Pure
