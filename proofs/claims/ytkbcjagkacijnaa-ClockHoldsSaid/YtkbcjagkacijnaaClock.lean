/- Plain laws of clock's functions and of their reference: lengths, what is safe, how far a clock may go. -/
import Derived.Test.YtkbcjagkacijnaaNumE
import Derived.Test.YtkbcjagkacijnaaPNumx10
import Derived.Test.YtkbcjagkacijnaaPNumx11
namespace Go.Proofs.Ytkbcjagkacijnaa.NumLib
set_option linter.unusedVariables false
set_option linter.unusedSimpArgs false
open Go.RowKit Go.Proofs.Ytkbcjagkacijnaa.PNum Go.Proofs.YtkbcjagkacijnaaW.PrintWords Go.Proofs.YtkbcjagkacijnaaW.PrintLast Go.Proofs.YtkbcjagkacijnaaW.PrintMore

def inRes (x : Int) : Prop := 0 ≤ x ∧ x ≤ 1099511627776
def okd (d : Int) : Prop := 0 ≤ d ∧ d ≤ 999
instance (x : Int) : Decidable (inRes x) := by unfold inRes; infer_instance
instance (x : Int) : Decidable (okd x) := by unfold okd; infer_instance

theorem right1 {k : Nat} (x d : Int) : clock_right.f (k + 2) d [x] = some (decide (inRes x ∧ okd d)) := by
  unfold clock_right.f inRes okd
  simp only [clock_right.l0]
  have e : wrap64 (0 + 1) = 1 := w64_id (by omega)
  have r : rd [x] 0 = x := rfl
  have hl : (([x] : List Int).length : Int) = 1 := rfl
  rw [e, r, hl]
  by_cases c1 : x < 0
  · rw [if_pos (by omega), if_pos (by omega), if_pos (by omega), if_pos c1, decide_eq_false (by omega)]
  · by_cases c2 : x > 1099511627776
    · rw [if_pos (by omega), if_pos (by omega), if_pos (by omega), if_neg c1, if_pos c2, decide_eq_false (by omega)]
    · rw [if_pos (by omega), if_pos (by omega), if_pos (by omega), if_neg c1, if_neg c2, if_neg (by omega)]
      by_cases c3 : d ≥ 0
      · rw [if_pos c3]; congr 1; apply decide_eq_decide.mpr; omega
      · rw [if_neg c3, decide_eq_false (by omega)]

theorem right2 {k : Nat} (x y d : Int) : clock_right.f (k + 3) d [x, y] = some (decide (inRes x ∧ inRes y ∧ okd d)) := by
  unfold clock_right.f inRes okd
  simp only [clock_right.l0]
  have e : wrap64 (0 + 1) = 1 := w64_id (by omega)
  have e2 : wrap64 (1 + 1) = 2 := w64_id (by omega)
  have r : rd [x, y] 0 = x := rfl
  have r1 : rd [x, y] 1 = y := rfl
  have hl : (([x, y] : List Int).length : Int) = 2 := rfl
  rw [e, e2, r, r1, hl]
  by_cases c1 : x < 0
  · rw [if_pos (by omega), if_pos (by omega), if_pos (by omega), if_pos c1, decide_eq_false (by omega)]
  by_cases c2 : x > 1099511627776
  · rw [if_pos (by omega), if_pos (by omega), if_pos (by omega), if_neg c1, if_pos c2, decide_eq_false (by omega)]
  rw [if_pos (by omega), if_pos (by omega), if_pos (by omega), if_neg c1, if_neg c2, if_pos (by omega), if_pos (by omega), if_pos (by omega)]
  by_cases c3 : y < 0
  · rw [if_pos c3, decide_eq_false (by omega)]
  by_cases c4 : y > 1099511627776
  · rw [if_neg c3, if_pos c4, decide_eq_false (by omega)]
  rw [if_neg c3, if_neg c4, if_neg (by omega)]
  by_cases c5 : d ≥ 0
  · rw [if_pos c5]; congr 1; apply decide_eq_decide.mpr; omega
  · rw [if_neg c5, decide_eq_false (by omega)]

theorem mulres {x m : Int} (hx : inRes x) (h0 : 0 ≤ m) (h1 : m ≤ 2000) : 0 ≤ x * m ∧ x * m ≤ 2199023255552000 := by
  unfold inRes at hx
  exact ⟨Int.mul_nonneg hx.1 h0, by have := Int.mul_le_mul hx.2 h1 h0 (by omega : (0 : Int) ≤ 1099511627776); omega⟩

def safeP (l s d : Int) : Prop := inRes l ∧ inRes s ∧ okd d ∧ s * (1000 + d) ≤ l * (1000 - d)
instance (l s d : Int) : Decidable (safeP l s d) := by unfold safeP; infer_instance
theorem safe_eq {k : Nat} (l s d : Int) : clock_Safe.f (k + 3) l s d = some (decide (safeP l s d)) := by
  unfold clock_Safe.f
  rw [right2]
  simp only [Option.bind_some]
  by_cases c : inRes l ∧ inRes s ∧ okd d
  · rw [decide_eq_true c, if_pos rfl]
    obtain ⟨hl, hs, hd⟩ := c
    have hl' := hl; have hs' := hs; have hd' := hd
    unfold inRes at hl' hs'; unfold okd at hd'
    rw [w64_id (by omega), w64_id (by omega), cmp_eq (by unfold in64; omega) (by unfold in64; omega) (by unfold in64; omega) (by unfold in64; omega)]
    simp only [Option.bind_some]
    rw [if_neg (by omega)]
    congr 1
    apply decide_eq_decide.mpr
    constructor
    · intro h
      refine ⟨hl, hs, hd, ?_⟩
      rcases Int.lt_or_le (l * (1000 - d)) (s * (1000 + d)) with h' | h'
      · rw [sgn_pos (by omega)] at h; omega
      · exact h'
    · rintro ⟨_, _, _, h⟩
      rcases Int.lt_or_eq_of_le h with h' | h'
      · rw [sgn_neg (by omega)]; decide
      · rw [sgn_zero (by omega)]; decide
  · rw [decide_eq_false c]
    simp only [Bool.false_eq_true, if_false]
    congr 1
    symm
    apply decide_eq_false
    rintro ⟨h1, h2, h3, _⟩
    exact c ⟨h1, h2, h3⟩

def withinP (t i d : Int) : Prop := inRes t ∧ inRes i ∧ okd d ∧ (1000 - d) * t ≤ 1000 * i ∧ 1000 * i ≤ (1000 + d) * t
instance (l s d : Int) : Decidable (withinP l s d) := by unfold withinP; infer_instance
theorem within_eq {k : Nat} (t i d : Int) : clock_Within.f (k + 3) t i d = some (decide (withinP t i d)) := by
  unfold clock_Within.f
  rw [right2]
  simp only [Option.bind_some]
  by_cases c : inRes t ∧ inRes i ∧ okd d
  · rw [decide_eq_true c, if_pos rfl]
    obtain ⟨hl, hs, hd⟩ := c
    have hl' := hl; have hs' := hs; have hd' := hd
    unfold inRes at hl' hs'; unfold okd at hd'
    have m1 := mulres hl (show 0 ≤ 1000 - d by omega) (by omega)
    have m2 := mulres hl (show 0 ≤ 1000 + d by omega) (by omega)
    rw [w64_id (x := 1000 - d) (by omega), w64_id (x := 1000 + d) (by omega), w64_id (x := 1000 * i) (by omega), w64_id (x := t * (1000 - d)) (by omega), w64_id (x := t * (1000 + d)) (by omega)]
    rw [cmp_eq (by unfold in64; omega) (by unfold in64; omega) (by unfold in64; omega) (by unfold in64; omega), cmp_eq (by unfold in64; omega) (by unfold in64; omega) (by unfold in64; omega) (by unfold in64; omega)]
    simp only [Option.bind_some]
    have e0 : ¬ ((1 : Int) < 1 ∨ (1 : Int) < 1) := by omega
    rw [if_neg e0, if_neg e0]
    simp only [Int.mul_one]
    have key : withinP t i d ↔ t * (1000 - d) ≤ 1000 * i ∧ 1000 * i ≤ t * (1000 + d) := by
      unfold withinP
      rw [Int.mul_comm (1000 - d) t, Int.mul_comm (1000 + d) t]
      exact ⟨fun h => h.2.2.2, fun h => ⟨hl, hs, hd, h⟩⟩
    generalize t * (1000 - d) = x at *
    generalize t * (1000 + d) = y at *
    have g1 : sgn (1000 * i - x) ≥ 0 ↔ x ≤ 1000 * i := by
      unfold sgn
      split
      · omega
      · split <;> omega
    have g2 : sgn (1000 * i - y) ≤ 0 ↔ 1000 * i ≤ y := by
      unfold sgn
      split
      · omega
      · split <;> omega
    by_cases c1 : x ≤ 1000 * i
    · rw [if_pos (g1.mpr c1)]
      congr 1
      apply decide_eq_decide.mpr
      exact g2.trans ⟨fun h => key.mpr ⟨c1, h⟩, fun h => (key.mp h).2⟩
    · rw [if_neg (fun h => c1 (g1.mp h))]
      congr 1
      symm
      apply decide_eq_false
      exact fun h => c1 (key.mp h).1
  · rw [decide_eq_false c]
    simp only [Bool.false_eq_true, if_false]
    congr 1
    symm
    apply decide_eq_false
    rintro ⟨h1, h2, h3, _⟩
    exact c ⟨h1, h2, h3⟩

def lenOk (l d : Int) : Prop := 1 ≤ l ∧ inRes l ∧ okd d
instance (l d : Int) : Decidable (lenOk l d) := by unfold lenOk; infer_instance
theorem len_bound {l d : Int} (h : lenOk l d) : 0 ≤ l * (1000 - d) / (1000 + d) ∧ l * (1000 - d) / (1000 + d) ≤ l ∧
    l * (1000 - d) / (1000 + d) * (1000 + d) ≤ l * (1000 - d) ∧ l * (1000 - d) < l * (1000 - d) / (1000 + d) * (1000 + d) + (1000 + d) := by
  obtain ⟨h1, h2, h3⟩ := h
  have m1 := mulres h2 (show 0 ≤ 1000 - d by unfold okd at h3; omega) (by unfold okd at h3; omega)
  unfold inRes at h2; unfold okd at h3
  have f := floor_le (p := l * (1000 - d)) (show 0 < 1000 + d by omega)
  have g : 0 ≤ l * (1000 - d) / (1000 + d) := Int.ediv_nonneg m1.1 (by omega)
  have e1 : l * (1000 - d) = l * 1000 - l * d := Int.mul_sub _ _ _
  have e2 : l * (1000 + d) = l * 1000 + l * d := Int.mul_add _ _ _
  have e3 : 0 ≤ l * d := Int.mul_nonneg (by omega) (by omega)
  refine ⟨g, ?_, f.1, f.2⟩
  have : l * (1000 - d) / (1000 + d) * (1000 + d) ≤ l * (1000 + d) := by omega
  exact Int.le_of_mul_le_mul_right this (by omega)

theorem len_eq {k : Nat} (hk : 22 ≤ k) {l d : Int} (hl : in64 l) (hd : in64 d) : clock_Len.f k l d = some (if lenOk l d then (l * (1000 - d) / (1000 + d), 0) else (0, 1)) := by
  unfold clock_Len.f
  by_cases c : l < 1
  · rw [if_pos c, if_neg (by unfold lenOk; omega)]
  rw [if_neg c]
  obtain ⟨k, rfl⟩ : ∃ m, k = m + 2 := ⟨k - 2, by omega⟩
  rw [right1]
  simp only [Option.bind_some]
  by_cases c2 : inRes l ∧ okd d
  · have hL : lenOk l d := ⟨by omega, c2.1, c2.2⟩
    have lb := len_bound hL
    obtain ⟨a1, a2⟩ := c2
    rw [decide_eq_true ⟨a1, a2⟩, if_pos rfl, if_pos hL]
    unfold inRes at a1; unfold okd at a2
    rw [w64_id (x := 1000 - d) (by omega), w64_id (x := 1000 + d) (by omega), muldiv_eq (by omega) hl (by unfold in64; omega) (by unfold in64; omega)]
    simp only [Option.bind_some]
    rw [if_neg (by omega), if_pos (by unfold in64; omega)]
  · rw [decide_eq_false c2, if_neg (by decide), if_neg (fun h => c2 ⟨h.2.1, h.2.2⟩)]

theorem cawake_eq {k : Nat} (hk : 25 ≤ k) : furlonglaw04_awake.f k = some true := by
  unfold furlonglaw04_awake.f
  rw [len_eq (by omega) (by decide) (by decide)]
  obtain ⟨k, rfl⟩ : ∃ m, k = m + 3 := ⟨k - 3, by omega⟩
  rw [safe_eq, safe_eq, within_eq, within_eq]
  decide

theorem rright_eq (a b d : Int) : furlongref04_Right.f a b d = some (decide (inRes a ∧ inRes b ∧ okd d)) := by
  unfold furlongref04_Right.f inRes okd
  repeat' split
  all_goals (congr 1; first | (symm; apply decide_eq_false; omega) | (apply decide_eq_decide.mpr; omega))
theorem rwithin_eq (t i d : Int) : furlongref04_Within.f t i d = some (decide (withinP t i d)) := by
  unfold furlongref04_Within.f
  rw [rright_eq]
  simp only [Option.bind_some]
  by_cases c : inRes t ∧ inRes i ∧ okd d
  · obtain ⟨a1, a2, a3⟩ := c
    have m1 := mulres a1 (show 0 ≤ 1000 - d by unfold okd at a3; omega) (by unfold okd at a3; omega)
    have m2 := mulres a1 (show 0 ≤ 1000 + d by unfold okd at a3; omega) (by unfold okd at a3; omega)
    rw [decide_eq_true ⟨a1, a2, a3⟩, if_pos rfl]
    have b1 := a1; have b2 := a2; have b3 := a3
    unfold inRes at b1 b2; unfold okd at b3
    rw [Int.mul_comm] at m1 m2
    rw [w64_id (x := 1000 - d) (by omega), w64_id (x := 1000 + d) (by omega), w64_id (x := 1000 * i) (by omega), w64_id (x := (1000 - d) * t) (by omega), w64_id (x := (1000 + d) * t) (by omega)]
    by_cases c1 : 1000 * i ≥ (1000 - d) * t
    · rw [if_pos c1]
      congr 1; apply decide_eq_decide.mpr
      exact ⟨fun h => ⟨a1, a2, a3, c1, h⟩, fun h => h.2.2.2.2⟩
    · rw [if_neg c1]
      congr 1; symm; apply decide_eq_false
      exact fun h => c1 h.2.2.2.1
  · rw [decide_eq_false c, if_neg (by decide)]
    congr 1; symm; apply decide_eq_false
    exact fun h => c ⟨h.1, h.2.1, h.2.2.1⟩
end Go.Proofs.Ytkbcjagkacijnaa.NumLib
