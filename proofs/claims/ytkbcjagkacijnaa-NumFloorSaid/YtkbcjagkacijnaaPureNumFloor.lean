/- NumFloor: for all numbers, a quotient is the greatest number that is not above the fraction; no condition. -/
import Derived.Test.YtkbcjagkacijnaaPNumx7
import Derived.Test.YtkbcjagkacijnaaNumE
namespace Go.Proofs.Ytkbcjagkacijnaa.Pure
set_option linter.unusedVariables false
set_option linter.unusedSimpArgs false
open Go.RowKit Go.Proofs.Ytkbcjagkacijnaa.PNum Go.Proofs.Ytkbcjagkacijnaa.NumLib Go.Proofs.YtkbcjagkacijnaaW.PrintWords Go.Proofs.YtkbcjagkacijnaaW.PrintLast

theorem NumFloor : furlonglaw01_NumFloor.Pure := by
  intro a b c wa wb wc
  have ha : in64 a := wf64.mp wa
  have hb : in64 b := wf64.mp wb
  have hc : in64 c := wf64.mp wc
  have main : ∀ k, 9223372036854775830 ≤ k → furlonglaw01_NumFloor.f k a b c = some true := by
    intro k hk
    unfold furlonglaw01_NumFloor.f
    rw [awake_eq (by omega)]
    obtain ⟨k, rfl⟩ : ∃ m, k = m + 4 := ⟨k - 4, by omega⟩
    rw [muldiv_eq (by omega) ha hb hc]
    simp only [Option.bind_some]
    by_cases c1 : c < 1
    · simp [c1]
    · have hcp : 0 < c := by omega
      by_cases c2 : in64 (a * b / c)
      · simp only [if_neg c1, if_pos c2, if_true]
        simp only [furlonglaw01_NumFloor.j0]
        by_cases c3 : b < 1
        · simp [c3]
        · rw [if_neg (by simpa using c3), cmp_eq c2 hb ha hc]
          have fl := floor_le (p := a * b) hcp
          generalize hq : a * b / c = q at *
          simp only [Option.bind_some]
          have s1 : ¬ (sgn (q * c - a * b) > 0) := by
            rcases Int.lt_or_eq_of_le fl.1 with h | h
            · rw [sgn_neg (by omega)]; decide
            · rw [sgn_zero (by omega)]; decide
          rw [if_neg (by omega : ¬ (b < 1 ∨ c < 1)), if_pos rfl]
          simp only [furlonglaw01_NumFloor.j1]
          rw [if_neg (by simpa using s1)]
          by_cases c4 : q = 9223372036854775807
          · rw [if_pos c4]
          · unfold in64 at c2
            rw [if_neg c4, w64_id (by omega), cmp_eq (by unfold in64; omega) hb ha hc]
            simp only [Option.bind_some]
            rw [if_neg (by omega : ¬ (b < 1 ∨ c < 1)), if_pos rfl, sgn_pos (by rw [Int.add_mul, Int.one_mul]; omega)]
            rfl
      · simp [c1, c2, furlonglaw01_NumFloor.j0]
  exact ⟨_, main _ (Nat.le_refl _)⟩

end Go.Proofs.Ytkbcjagkacijnaa.Pure
