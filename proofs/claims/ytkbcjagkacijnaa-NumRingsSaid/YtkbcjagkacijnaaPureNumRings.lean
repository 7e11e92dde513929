/- NumRings: for all numbers, sums and products do not hang on order, what is added can be taken off, and products go over sums; no condition. -/
import Derived.Test.YtkbcjagkacijnaaPNumx10
import Derived.Test.YtkbcjagkacijnaaNumE
namespace Go.Proofs.Ytkbcjagkacijnaa.Pure
set_option linter.unusedVariables false
set_option linter.unusedSimpArgs false
open Go.RowKit Go.Proofs.Ytkbcjagkacijnaa.PNum Go.Proofs.Ytkbcjagkacijnaa.NumLib Go.Proofs.YtkbcjagkacijnaaW.PrintWords Go.Proofs.YtkbcjagkacijnaaW.PrintLast

theorem in64_zero : in64 0 := by decide
theorem val_in64 (x : Int) : in64 (if in64 x then (x, (0 : Int)) else (0, 2)).1 := by split; assumption; exact in64_zero
theorem NumRings : furlonglaw01_NumRings.Pure := by
  intro a b c wa wb wc
  have ha : in64 a := wf64.mp wa
  have hb : in64 b := wf64.mp wb
  have hc : in64 c := wf64.mp wc
  have j1 : ∀ k s e, 3 ≤ k → in64 s → (e = 0 → s = a + b) → furlonglaw01_NumRings.j1 k a b c s e = some true := by
    intro k s e hk hs he
    obtain ⟨k, rfl⟩ : ∃ m, k = m + 2 := ⟨k - 2, by omega⟩
    simp only [furlonglaw01_NumRings.j1]
    rw [mul_eq hs hc, mul_eq ha hc, mul_eq hb hc]
    simp only [Option.bind_some]
    rw [add_eq (val_in64 _) (val_in64 _)]
    simp only [Option.bind_some]
    by_cases h0 : e = 0
    · rw [if_pos h0]
      have := he h0
      subst this
      by_cases h1 : in64 ((a + b) * c)
      · by_cases h2 : in64 (a * c)
        · by_cases h3 : in64 (b * c)
          · have e1 : a * c + b * c = (a + b) * c := (Int.add_mul _ _ _).symm
            simp [h1, h2, h3, e1]
          · simp [h1, h2, h3]
        · simp [h1, h2]
      · simp [h1]
    · rw [if_neg h0]
  have main : ∀ k, 9223372036854775830 ≤ k → furlonglaw01_NumRings.f k a b c = some true := by
    intro k hk
    unfold furlonglaw01_NumRings.f
    rw [awake_eq (by omega)]
    obtain ⟨k, rfl⟩ : ∃ m, k = m + 4 := ⟨k - 4, by omega⟩
    rw [add_eq ha hb, add_eq hb ha, mul_eq ha hb, mul_eq hb ha, Int.add_comm b a, Int.mul_comm b a]
    simp only [Option.bind_some, if_true, furlonglaw01_NumRings.j0, bne_self_eq_false, Bool.false_eq_true, if_false]
    by_cases h0 : in64 (a + b)
    · simp only [if_pos h0]
      rw [sub_eq h0 hb, Int.add_sub_cancel]
      simp only [Option.bind_some, if_pos ha, if_true]
      exact j1 _ _ _ (by omega) h0 (fun _ => rfl)
    · simp only [if_neg h0]
      rw [if_neg (by decide)]
      exact j1 _ _ _ (by omega) in64_zero (fun h => by cases h)
  exact ⟨_, main _ (Nat.le_refl _)⟩

end Go.Proofs.Ytkbcjagkacijnaa.Pure
