/- ClockHolds: however two clocks go, each within the drift, as long as one has gone on by less than the short length, the other one has not gone on by the long one; no condition. -/
import Derived.Test.YtkbcjagkacijnaaPNumx13
import Derived.Test.YtkbcjagkacijnaaSteady
namespace Go.Proofs.Ytkbcjagkacijnaa.Pure
set_option linter.unusedVariables false
set_option linter.unusedSimpArgs false
open Go.RowKit Go.Proofs.Ytkbcjagkacijnaa.PNum Go.Proofs.Ytkbcjagkacijnaa.NumLib Go.Proofs.YtkbcjagkacijnaaW.PrintWords Go.Proofs.YtkbcjagkacijnaaW.PrintLast

theorem holds_step {T mine its n L d : Int} (hd : okd d) (h1 : (1000 - d) * T ≤ 1000 * mine) (h2 : 1000 * its ≤ (1000 + d) * T) (hn : n * (1000 + d) ≤ L * (1000 - d)) (hm : mine < n) : its < L := by
  unfold okd at hd
  rcases Int.lt_or_le its L with h | h
  · exact h
  · exfalso
    have a1 : (1000 + d) * ((1000 - d) * T) ≤ (1000 + d) * (1000 * mine) := Int.mul_le_mul_of_nonneg_left h1 (by omega)
    have a2 : (1000 - d) * (1000 * its) ≤ (1000 - d) * ((1000 + d) * T) := Int.mul_le_mul_of_nonneg_left h2 (by omega)
    have a3 : (1000 - d) * (1000 * L) ≤ (1000 - d) * (1000 * its) := Int.mul_le_mul_of_nonneg_left (by omega) (by omega)
    have a4 : (mine + 1) * (1000 + d) ≤ n * (1000 + d) := Int.mul_le_mul_of_nonneg_right (by omega) (by omega)
    have e1 : (1000 + d) * ((1000 - d) * T) = (1000 - d) * ((1000 + d) * T) := by grind
    have e2 : (1000 + d) * (1000 * mine) = 1000 * (mine * (1000 + d)) := by grind
    have e3 : (1000 - d) * (1000 * L) = 1000 * (L * (1000 - d)) := by grind
    have e4 : (mine + 1) * (1000 + d) = mine * (1000 + d) + (1000 + d) := by grind
    omega

theorem holds_loop {x y : List Int} {L n d : Int} (hd : okd d) (hn : n * (1000 + d) ≤ L * (1000 - d)) (hx : x.length ≤ 2000) (hxy : x.length = y.length) (j : Nat) : ∀ (k i : Nat) (t : List Int) (T mine its : Int),
    i + j = x.length → j < k → t.length = j → steadyB d t (x.drop i) = true → steadyB d t (y.drop i) = true → 0 ≤ mine → mine ≤ i * 1099511627776 → 0 ≤ its → its ≤ i * 1099511627776 →
    (1000 - d) * T ≤ 1000 * mine → 1000 * its ≤ (1000 + d) * T →
    furlonglaw04_ClockHolds.l0 k x y L n mine its (x.length : Int) (i : Int) = some true := by
  induction j with
  | zero =>
    intro k i t T mine its h hk _ _ _ _ _ _ _ _ _
    obtain ⟨k, rfl⟩ : ∃ x, k = x + 1 := ⟨k - 1, by omega⟩
    simp only [furlonglaw04_ClockHolds.l0]
    rw [if_neg (by omega)]
  | succ j ih =>
    intro k i t T mine its h hk ht s1 s2 m0 m1 i0 i1 g1 g2
    obtain ⟨k, rfl⟩ : ∃ x, k = x + 1 := ⟨k - 1, by omega⟩
    simp only [furlonglaw04_ClockHolds.l0]
    rw [if_pos (by omega), if_pos (by omega), if_pos (by omega), if_pos (by omega)]
    obtain ⟨t0, t, rfl⟩ : ∃ a b, t = a :: b := by
      cases t with
      | nil => simp at ht
      | cons a b => exact ⟨a, b, rfl⟩
    rw [rd_drop (show i < x.length by omega)] at s1
    rw [rd_drop (show i < y.length by omega)] at s2
    simp only [steadyB, Bool.and_eq_true, decide_eq_true_eq] at s1 s2
    obtain ⟨w1, s1⟩ := s1
    obtain ⟨w2, s2⟩ := s2
    obtain ⟨r0, r1, _, u1, u1'⟩ := w1
    obtain ⟨_, r2, _, u2, u2'⟩ := w2
    unfold inRes at r0 r1 r2
    generalize rd x (i : Int) = a at *
    generalize rd y (i : Int) = b at *
    have q1 : (1000 - d) * (T + t0) ≤ 1000 * (mine + a) := by rw [Int.mul_add]; omega
    have q2 : 1000 * (its + b) ≤ (1000 + d) * (T + t0) := by rw [Int.mul_add (1000 + d)]; omega
    rw [w64_id (x := mine + a) (by omega), w64_id (x := its + b) (by omega), w64_id (x := (i : Int) + 1) (by omega), show (i : Int) + 1 = ((i + 1 : Nat) : Int) by omega]
    have rest := ih k (i + 1) t (T + t0) (mine + a) (its + b) (by omega) (by omega) (by simpa using ht) s1 s2 (by omega) (by omega) (by omega) (by omega) q1 q2
    by_cases c1 : mine + a < n
    · rw [if_pos c1, if_neg (by have := holds_step hd q1 q2 hn c1; omega)]
      exact rest
    · rw [if_neg c1]
      exact rest

theorem ClockHolds : furlonglaw04_ClockHolds.Pure := by
  intro t x y L d ht ht8 wt hx hx8 wx hy hy8 wy wL wd
  have hL : in64 L := wf64.mp wL
  have hd : in64 d := wf64.mp wd
  have main : ∀ k, t.length + 2100 ≤ k → furlonglaw04_ClockHolds.f k t x y L d = some true := by
    intro k hk
    unfold furlonglaw04_ClockHolds.f
    rw [cawake_eq (by omega), len_eq (by omega) hL hd]
    simp only [Option.bind_some, if_true]
    obtain ⟨k, rfl⟩ : ∃ m, k = m + 1 := ⟨k - 1, by omega⟩
    have yes : ∀ n, furlonglaw04_ClockHolds.j0 (k + 1) x y L n true = some true := fun n => by simp [furlonglaw04_ClockHolds.j0]
    by_cases c1 : lenOk L d
    · rw [if_pos c1, if_pos rfl]
      have lb := len_bound c1
      by_cases c2 : (t.length : Int) > 2000
      · rw [if_pos c2]; exact yes _
      rw [if_neg c2, steady_eq ht8 (by omega), steady_eq ht8 (by omega)]
      simp only [Option.bind_some]
      by_cases c3 : (decide (t.length = x.length) && steadyB d t x) = true
      · rw [if_pos c3]
        by_cases c4 : (decide (t.length = y.length) && steadyB d t y) = true
        · rw [c4]
          simp only [Bool.and_eq_true, decide_eq_true_eq] at c3 c4
          simp only [furlonglaw04_ClockHolds.j0, Bool.not_true, Bool.false_eq_true, if_false]
          exact holds_loop c1.2.2 lb.2.2.1 (by omega) (by omega) x.length k 0 t 0 0 0 (by omega) (by omega) (by omega) c3.2 c4.2 (by omega) (by omega) (by omega) (by omega) (by omega) (by omega)
        · rw [Bool.eq_false_iff.mpr c4]; exact yes _
      · rw [if_neg c3]; exact yes _
    · rw [if_neg c1, if_neg (by decide)]; exact yes _
  exact ⟨_, main _ (Nat.le_refl _)⟩

end Go.Proofs.Ytkbcjagkacijnaa.Pure
