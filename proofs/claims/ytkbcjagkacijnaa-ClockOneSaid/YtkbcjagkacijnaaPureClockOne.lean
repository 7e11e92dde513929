/- ClockOne: for all numbers, a clock without drift goes on as time does alone, and a greater drift allows no less; no condition. -/
import Derived.Test.YtkbcjagkacijnaaPNumx12
import Derived.Test.YtkbcjagkacijnaaClock
namespace Go.Proofs.Ytkbcjagkacijnaa.Pure
set_option linter.unusedVariables false
set_option linter.unusedSimpArgs false
open Go.RowKit Go.Proofs.Ytkbcjagkacijnaa.PNum Go.Proofs.Ytkbcjagkacijnaa.NumLib Go.Proofs.YtkbcjagkacijnaaW.PrintWords Go.Proofs.YtkbcjagkacijnaaW.PrintLast

theorem ClockOne : furlonglaw04_ClockOne.Pure := by
  intro t i d wt wi wd
  have hd : in64 d := wf64.mp wd
  have main : ∀ k, 30 ≤ k → furlonglaw04_ClockOne.f k t i d = some true := by
    intro k hk
    unfold furlonglaw04_ClockOne.f
    rw [cawake_eq (by omega)]
    simp only [Option.bind_some, if_true]
    obtain ⟨k, rfl⟩ : ∃ m, k = m + 4 := ⟨k - 4, by omega⟩
    have no : ¬ (inRes t ∧ inRes i) → furlonglaw04_ClockOne.j0 (k + 4) t i d true = some true := by
      intro h
      simp only [furlonglaw04_ClockOne.j0, if_true]
      rw [within_eq, decide_eq_false (fun g => h ⟨g.1, g.2.1⟩)]
      rfl
    have yes : inRes t → inRes i → furlonglaw04_ClockOne.j0 (k + 4) t i d false = some true := by
      intro h1 h2
      simp only [furlonglaw04_ClockOne.j0, Bool.false_eq_true, if_false]
      rw [within_eq, within_eq, within_eq]
      simp only [Option.bind_some]
      have e : decide (withinP t i 0) = (t == i) := by
        rw [Bool.eq_iff_iff, decide_eq_true_iff, beq_iff_eq]
        constructor
        · rintro ⟨_, _, _, a, b⟩; omega
        · rintro rfl; exact ⟨h1, h1, by decide, by omega, by omega⟩
      rw [e]
      simp only [bne_self_eq_false, Bool.false_eq_true, if_false]
      by_cases c1 : d < 0
      · rw [if_pos c1]
      rw [if_neg c1]
      by_cases c2 : d ≥ 999
      · rw [if_pos c2]
      rw [if_neg c2, w64_id (by omega)]
      by_cases c3 : withinP t i d
      · rw [decide_eq_true c3, if_pos rfl, decide_eq_true]
        obtain ⟨_, _, _, a, b⟩ := c3
        refine ⟨h1, h2, by unfold okd; omega, ?_, ?_⟩
        · unfold inRes at h1
          rw [Int.sub_mul] at a ⊢; rw [Int.add_mul]; omega
        · unfold inRes at h1
          rw [Int.add_mul] at b ⊢; rw [Int.add_mul]; omega
      · rw [decide_eq_false c3]; simp
    by_cases c1 : t < 0
    · rw [if_pos c1]; exact no (by unfold inRes; omega)
    rw [if_neg c1]
    by_cases c2 : t > 1099511627776
    · rw [if_pos c2]; exact no (by unfold inRes; omega)
    rw [if_neg c2]
    by_cases c3 : i < 0
    · rw [if_pos c3]; exact no (by unfold inRes; omega)
    rw [if_neg c3]
    by_cases c4 : i > 1099511627776
    · rw [decide_eq_true c4]; exact no (by unfold inRes; omega)
    · rw [decide_eq_false c4]; exact yes (by unfold inRes; omega) (by unfold inRes; omega)
  exact ⟨_, main _ (Nat.le_refl _)⟩

end Go.Proofs.Ytkbcjagkacijnaa.Pure
