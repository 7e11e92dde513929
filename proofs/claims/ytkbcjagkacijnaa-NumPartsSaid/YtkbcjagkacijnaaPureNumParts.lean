/- NumParts: for all numbers, the greatest common divisor divides both, and what both are divided by it has none but 1; no condition. -/
import Derived.Test.YtkbcjagkacijnaaPNumx8
import Derived.Test.YtkbcjagkacijnaaNumE
namespace Go.Proofs.Ytkbcjagkacijnaa.Pure
set_option linter.unusedVariables false
set_option linter.unusedSimpArgs false
open Go.RowKit Go.Proofs.Ytkbcjagkacijnaa.PNum Go.Proofs.Ytkbcjagkacijnaa.NumLib Go.Proofs.YtkbcjagkacijnaaW.PrintWords Go.Proofs.YtkbcjagkacijnaaW.PrintLast

theorem gcd_quot {a b : Int} (hg : 0 < Int.gcd a b) : Int.gcd (a.tdiv (Int.gcd a b)) (b.tdiv (Int.gcd a b)) = 1 := by
  have h := Nat.gcd_div (Int.natAbs_dvd_natAbs.mpr (Int.gcd_dvd_left a b)) (Int.natAbs_dvd_natAbs.mpr (Int.gcd_dvd_right a b))
  unfold Int.gcd at *
  rw [Int.natAbs_tdiv, Int.natAbs_tdiv]
  simp only [Int.natAbs_natCast] at *
  exact h.trans (Nat.div_self hg)
theorem NumParts : furlonglaw01_NumParts.Pure := by
  intro a b wa wb
  have ha : in64 a := wf64.mp wa
  have hb : in64 b := wf64.mp wb
  have main : ∀ k, 9223372036854775830 ≤ k → furlonglaw01_NumParts.f k a b = some true := by
    intro k hk
    unfold furlonglaw01_NumParts.f
    rw [awake_eq (by omega), gcd_eq ha hb (by omega)]
    obtain ⟨k, rfl⟩ : ∃ m, k = m + 1 := ⟨k - 1, by omega⟩
    simp only [Option.bind_some, if_true]
    have hda := Int.gcd_dvd_left a b
    have hdb := Int.gcd_dvd_right a b
    have hz : Int.gcd a b = 0 ↔ a = 0 ∧ b = 0 := Int.gcd_eq_zero_iff
    have hq := gcd_quot (a := a) (b := b)
    have hcm : Int.gcd b a = Int.gcd a b := Int.gcd_comm b a
    have key : ¬ (a = 0 ∧ b = 0) → furlonglaw01_NumParts.j0 (k + 1) a b (if (Int.gcd a b : Int) > 9223372036854775807 then 0 else (Int.gcd a b : Int)) false = some true := by
      intro hne
      simp only [furlonglaw01_NumParts.j0, Bool.false_eq_true, if_false]
      have hg : 0 < Int.gcd a b := by
        rcases Nat.eq_zero_or_pos (Int.gcd a b) with h | h
        · exact absurd (hz.mp h) hne
        · exact h
      obtain ⟨x, hx⟩ := hda
      obtain ⟨y, hy⟩ := hdb
      unfold in64 at ha hb
      generalize hG : Int.gcd a b = g at *
      by_cases c1 : (g : Int) > 9223372036854775807
      · rw [if_pos c1, if_pos rfl]
        have f : ∀ z w : Int, w = (g : Int) * z → -9223372036854775808 ≤ w → w ≤ 9223372036854775807 → w = 0 ∨ w = -9223372036854775808 := by
          intro z w e h1 h2
          rcases Int.lt_trichotomy z 0 with h | h | h
          · right
            have := Int.mul_le_mul_of_nonneg_left (show z ≤ -1 by omega) (show (0 : Int) ≤ g by omega)
            rw [Int.mul_neg, Int.mul_one] at this
            omega
          · left; rw [e, h, Int.mul_zero]
          · have := Int.mul_le_mul_of_nonneg_left (show 1 ≤ z by omega) (show (0 : Int) ≤ g by omega)
            rw [Int.mul_one] at this
            omega
        rcases f x a hx ha.1 ha.2 with h | h <;> rcases f y b hy hb.1 hb.2 with h' | h' <;> subst h <;> subst h' <;> simp
      · rw [if_neg c1, if_neg (by omega), if_pos (by omega), if_pos (Int.tmod_eq_zero_of_dvd ⟨x, hx⟩), if_pos (Int.tmod_eq_zero_of_dvd ⟨y, hy⟩)]
        have dx : a.tdiv (g : Int) = x := by rw [hx]; exact Int.mul_tdiv_cancel_left x (by omega)
        have dy : b.tdiv (g : Int) = y := by rw [hy]; exact Int.mul_tdiv_cancel_left y (by omega)
        have q1 := hq hg
        rw [dx, dy] at q1
        have bx : ∀ z w : Int, w = (g : Int) * z → -9223372036854775808 ≤ w → w ≤ 9223372036854775807 → in64 z := by
          intro z w e h1 h2
          unfold in64
          rcases Int.lt_or_le z 0 with h | h
          · have := Int.mul_le_mul_of_nonpos_right (show (1 : Int) ≤ g by omega) (show z ≤ 0 by omega)
            rw [Int.one_mul] at this
            omega
          · have := Int.mul_le_mul_of_nonneg_right (show (1 : Int) ≤ g by omega) (show 0 ≤ z by omega)
            rw [Int.one_mul] at this
            omega
        have ix := bx x a hx ha.1 ha.2
        have iy := bx y b hy hb.1 hb.2
        rw [dx, dy, w64_id ix, w64_id iy, gcd_eq ix iy (by omega), gcd_eq hb ha (by omega), hcm, q1]
        simp only [Option.bind_some]
        rw [if_pos (by decide), if_neg c1]
        simp
    by_cases c1 : a = 0
    · rw [if_pos c1]
      by_cases c2 : b = 0
      · subst c1; subst c2
        simp [furlonglaw01_NumParts.j0]
      · rw [show (b == 0) = false by simpa using c2]
        exact key (fun h => c2 h.2)
    · rw [if_neg c1]
      exact key (fun h => c1 h.1)
  exact ⟨_, main _ (Nat.le_refl _)⟩

end Go.Proofs.Ytkbcjagkacijnaa.Pure
