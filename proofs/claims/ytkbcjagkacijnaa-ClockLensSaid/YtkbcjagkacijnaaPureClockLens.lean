/- ClockLens: for every length and drift, the length by an agent's clock, and what is safe, are the reference's; no condition. -/
import Derived.Test.YtkbcjagkacijnaaPNumx11
import Derived.Test.YtkbcjagkacijnaaClock
namespace Go.Proofs.Ytkbcjagkacijnaa.Pure
set_option linter.unusedVariables false
set_option linter.unusedSimpArgs false
open Go.RowKit Go.Proofs.Ytkbcjagkacijnaa.PNum Go.Proofs.Ytkbcjagkacijnaa.NumLib Go.Proofs.YtkbcjagkacijnaaW.PrintWords Go.Proofs.YtkbcjagkacijnaaW.PrintLast

theorem ClockLens : furlonglaw04_ClockLens.Pure := by
  intro l s d wl ws wd
  have hl : in64 l := wf64.mp wl
  have hs : in64 s := wf64.mp ws
  have hd : in64 d := wf64.mp wd
  have rr : ∀ a b : Int, furlongref04_Right.f a b d = some (decide (inRes a ∧ inRes b ∧ okd d)) := by
    intro a b
    unfold furlongref04_Right.f inRes okd
    repeat' split
    all_goals (congr 1; first | (symm; apply decide_eq_false; omega) | (apply decide_eq_decide.mpr; omega))
  have rl : furlongref04_Len.f l d = some (if lenOk l d then (l * (1000 - d) / (1000 + d), 0) else (0, 1)) := by
    unfold furlongref04_Len.f
    by_cases c : l < 1
    · rw [if_pos c, if_neg (by unfold lenOk; omega)]
    rw [if_neg c, rr]
    simp only [Option.bind_some]
    by_cases c2 : inRes l ∧ inRes 0 ∧ okd d
    · have hL : lenOk l d := ⟨by omega, c2.1, c2.2.2⟩
      obtain ⟨a1, _, a2⟩ := c2
      have lb := len_bound hL
      have m1 := mulres a1 (show 0 ≤ 1000 - d by unfold okd at a2; omega) (by unfold okd at a2; omega)
      rw [decide_eq_true ⟨a1, by decide, a2⟩, if_pos rfl, if_pos hL]
      unfold inRes at a1; unfold okd at a2
      rw [w64_id (x := 1000 - d) (by omega), w64_id (x := 1000 + d) (by omega), w64_id (x := l * (1000 - d)) (by omega), if_neg (by omega), Int.tdiv_eq_ediv_of_nonneg m1.1, w64_id (by omega)]
    · rw [decide_eq_false c2, if_neg (by decide), if_neg (fun h => c2 ⟨h.2.1, by decide, h.2.2⟩)]
  have rs : furlongref04_Safe.f l s d = some (decide (safeP l s d)) := by
    unfold furlongref04_Safe.f
    rw [rr]
    simp only [Option.bind_some]
    by_cases c : inRes l ∧ inRes s ∧ okd d
    · obtain ⟨a1, a2, a3⟩ := c
      have m1 := mulres a1 (show 0 ≤ 1000 - d by unfold okd at a3; omega) (by unfold okd at a3; omega)
      have m2 := mulres a2 (show 0 ≤ 1000 + d by unfold okd at a3; omega) (by unfold okd at a3; omega)
      rw [decide_eq_true ⟨a1, a2, a3⟩, if_pos rfl]
      have b1 := a1; have b2 := a2; have b3 := a3
      unfold inRes at b1 b2; unfold okd at b3
      rw [w64_id (x := 1000 - d) (by omega), w64_id (x := 1000 + d) (by omega), w64_id (x := l * (1000 - d)) (by omega), w64_id (x := s * (1000 + d)) (by omega)]
      congr 1
      apply decide_eq_decide.mpr
      exact ⟨fun h => ⟨a1, a2, a3, h⟩, fun h => h.2.2.2⟩
    · rw [decide_eq_false c, if_neg (by decide)]
      congr 1; symm; apply decide_eq_false
      exact fun h => c ⟨h.1, h.2.1, h.2.2.1⟩
  have main : ∀ k, 30 ≤ k → furlonglaw04_ClockLens.f k l s d = some true := by
    intro k hk
    unfold furlonglaw04_ClockLens.f
    rw [cawake_eq (by omega), len_eq (by omega) hl hd, rl, rs]
    obtain ⟨k, rfl⟩ : ∃ m, k = m + 3 := ⟨k - 3, by omega⟩
    rw [safe_eq]
    simp
  exact ⟨_, main _ (Nat.le_refl _)⟩

end Go.Proofs.Ytkbcjagkacijnaa.Pure
