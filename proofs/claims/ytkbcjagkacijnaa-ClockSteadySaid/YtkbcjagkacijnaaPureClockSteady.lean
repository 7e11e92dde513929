/- ClockSteady: for all lists of steps and drifts, whether a clock may go on so is the reference's; no condition. -/
import Derived.Test.YtkbcjagkacijnaaPNumx12
import Derived.Test.YtkbcjagkacijnaaSteady
namespace Go.Proofs.Ytkbcjagkacijnaa.Pure
set_option linter.unusedVariables false
set_option linter.unusedSimpArgs false
open Go.RowKit Go.Proofs.Ytkbcjagkacijnaa.PNum Go.Proofs.Ytkbcjagkacijnaa.NumLib Go.Proofs.YtkbcjagkacijnaaW.PrintWords Go.Proofs.YtkbcjagkacijnaaW.PrintLast

theorem rsteady_loop {l m : List Int} {d : Int} (hlen : l.length = m.length) (hm : l.length * 8 ≤ 140737488351232) (n : Nat) : ∀ (k i : Nat), i + n = l.length → n < k →
    furlongref04_Steady.l0 k l m d (l.length : Int) (i : Int) = some (steadyB d (l.drop i) (m.drop i)) := by
  induction n with
  | zero =>
    intro k i h hk
    obtain ⟨k, rfl⟩ : ∃ x, k = x + 1 := ⟨k - 1, by omega⟩
    simp only [furlongref04_Steady.l0]
    rw [if_neg (by omega), List.drop_of_length_le (by omega)]
    rfl
  | succ n ih =>
    intro k i h hk
    obtain ⟨k, rfl⟩ : ∃ x, k = x + 1 := ⟨k - 1, by omega⟩
    simp only [furlongref04_Steady.l0]
    rw [if_pos (by omega), if_pos (by omega), if_pos (by omega), if_pos (by omega), rwithin_eq, rd_drop (show i < l.length by omega), rd_drop (show i < m.length by omega)]
    simp only [Option.bind_some, steadyB]
    by_cases c : withinP (rd l i) (rd m i) d
    · rw [decide_eq_true c, if_pos rfl, Bool.true_and, w64_id (by omega), show (i : Int) + 1 = ((i + 1 : Nat) : Int) by omega]
      exact ih k (i + 1) (by omega) (by omega)
    · rw [decide_eq_false c, if_neg (by decide), Bool.false_and]

theorem ClockSteady : furlonglaw04_ClockSteady.Pure := by
  intro l m d hl hl8 wl hm hm8 wm wd
  have main : ∀ k, l.length + 40 ≤ k → furlonglaw04_ClockSteady.f k l m d = some true := by
    intro k hk
    unfold furlonglaw04_ClockSteady.f furlongref04_Steady.f
    rw [cawake_eq (by omega), steady_eq hl8 (by omega)]
    simp only [Option.bind_some, if_true]
    by_cases c : l.length = m.length
    · have e : furlongref04_Steady.l0 k l m d (l.length : Int) 0 = some (steadyB d l m) := rsteady_loop c hl8 l.length k 0 (by omega) (by omega)
      rw [if_pos (by omega), e, decide_eq_true c]
      simp
    · rw [if_neg (by omega), decide_eq_false c]
      simp
  exact ⟨_, main _ (Nat.le_refl _)⟩

end Go.Proofs.Ytkbcjagkacijnaa.Pure
