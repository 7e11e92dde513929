/- NumDivides: for all numbers, the quotient and the comparison of fractions are the reference's; no condition. -/
import Derived.Test.YtkbcjagkacijnaaPNumx7
import Derived.Test.YtkbcjagkacijnaaNumE
namespace Go.Proofs.Ytkbcjagkacijnaa.Pure
set_option linter.unusedVariables false
set_option linter.unusedSimpArgs false
open Go.RowKit Go.Proofs.Ytkbcjagkacijnaa.PNum Go.Proofs.Ytkbcjagkacijnaa.NumLib Go.Proofs.YtkbcjagkacijnaaW.PrintWords Go.Proofs.YtkbcjagkacijnaaW.PrintLast

theorem NumDivides : furlonglaw01_NumDivides.Pure := by
  intro a b c d wa wb wc wd
  have ha : in64 a := wf64.mp wa
  have hb : in64 b := wf64.mp wb
  have hc : in64 c := wf64.mp wc
  have hd : in64 d := wf64.mp wd
  have main : ∀ k, 9223372036854775830 ≤ k → furlonglaw01_NumDivides.f k a b c d = some true := by
    intro k hk
    unfold furlonglaw01_NumDivides.f
    rw [awake_eq (by omega), rmuldiv_eq ha hb hc (by omega)]
    obtain ⟨k, rfl⟩ : ∃ m, k = m + 2 := ⟨k - 2, by omega⟩
    rw [muldiv_eq (by omega) ha hb hc, cmp_eq ha hb hc hd, rcmp_eq ha hb hc hd]
    simp
  exact ⟨_, main _ (Nat.le_refl _)⟩

end Go.Proofs.Ytkbcjagkacijnaa.Pure
