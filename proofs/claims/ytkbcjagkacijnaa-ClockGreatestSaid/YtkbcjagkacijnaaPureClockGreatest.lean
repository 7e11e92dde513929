/- ClockGreatest: for every length and drift, the length is safe, and one more is not; no condition. -/
import Derived.Test.YtkbcjagkacijnaaPNumx11
import Derived.Test.YtkbcjagkacijnaaClock
namespace Go.Proofs.Ytkbcjagkacijnaa.Pure
set_option linter.unusedVariables false
set_option linter.unusedSimpArgs false
open Go.RowKit Go.Proofs.Ytkbcjagkacijnaa.PNum Go.Proofs.Ytkbcjagkacijnaa.NumLib Go.Proofs.YtkbcjagkacijnaaW.PrintWords Go.Proofs.YtkbcjagkacijnaaW.PrintLast

theorem ClockGreatest : furlonglaw04_ClockGreatest.Pure := by
  intro l d wl wd
  have hl : in64 l := wf64.mp wl
  have hd : in64 d := wf64.mp wd
  have main : ∀ k, 30 ≤ k → furlonglaw04_ClockGreatest.f k l d = some true := by
    intro k hk
    unfold furlonglaw04_ClockGreatest.f
    rw [cawake_eq (by omega), len_eq (by omega) hl hd]
    simp only [Option.bind_some, if_true]
    obtain ⟨k, rfl⟩ : ∃ m, k = m + 4 := ⟨k - 4, by omega⟩
    have no : ¬ lenOk l d → furlonglaw04_ClockGreatest.j0 (k + 4) l d (if lenOk l d then (l * (1000 - d) / (1000 + d), (0 : Int)) else (0, 1)).1 (if lenOk l d then (l * (1000 - d) / (1000 + d), (0 : Int)) else (0, 1)).2 true = some true := by
      intro h
      simp [furlonglaw04_ClockGreatest.j0, h]
    have yes : lenOk l d → furlonglaw04_ClockGreatest.j0 (k + 4) l d (if lenOk l d then (l * (1000 - d) / (1000 + d), (0 : Int)) else (0, 1)).1 (if lenOk l d then (l * (1000 - d) / (1000 + d), (0 : Int)) else (0, 1)).2 false = some true := by
      intro h
      rw [if_pos h]
      have lb := len_bound h
      have hh := h
      obtain ⟨h1, h2, h3⟩ := h
      have d0 : d = 0 → l * (1000 - d) / (1000 + d) = l := by
        rintro rfl
        show l * 1000 / 1000 = l
        omega
      generalize hn : l * (1000 - d) / (1000 + d) = n at *
      unfold inRes at h2; unfold okd at h3
      simp only [furlonglaw04_ClockGreatest.j0, Bool.false_eq_true, if_false, if_true]
      rw [if_pos (by omega), if_pos (by omega), safe_eq, decide_eq_true (show safeP l n d from ⟨by unfold inRes; omega, by unfold inRes; omega, h3, lb.2.2.1⟩)]
      simp only [Option.bind_some, if_true]
      have fin : (if d > 0 then some true else some (n == l)) = some true := by
        by_cases c : d > 0
        · rw [if_pos c]
        · rw [if_neg c, d0 (by omega)]; simp
      by_cases c : n = 1099511627776
      · rw [if_pos c]; exact fin
      · rw [if_neg c, w64_id (by omega), safe_eq, decide_eq_false]
        · simp only [Option.bind_some, Bool.false_eq_true, if_false]; exact fin
        · rintro ⟨_, _, _, h⟩
          rw [Int.add_mul, Int.one_mul] at h
          omega
    by_cases c1 : l < 1
    · rw [if_pos c1]; exact no (by unfold lenOk; omega)
    rw [if_neg c1]
    by_cases c2 : l > 1099511627776
    · rw [if_pos c2]; exact no (by unfold lenOk inRes; omega)
    rw [if_neg c2]
    by_cases c3 : d < 0
    · rw [if_pos c3]; exact no (by unfold lenOk okd; omega)
    rw [if_neg c3]
    by_cases c4 : d > 999
    · rw [decide_eq_true c4]; exact no (by unfold lenOk okd; omega)
    · rw [decide_eq_false c4]; exact yes (by unfold lenOk inRes okd; omega)
  exact ⟨_, main _ (Nat.le_refl _)⟩

end Go.Proofs.Ytkbcjagkacijnaa.Pure
