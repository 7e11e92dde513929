/- Plain laws of num's Mul, MulDiv and Gcd: the exact product, the quotient rounded down, the greatest common divisor. -/
import Derived.Test.YtkbcjagkacijnaaNumB
import Derived.Test.YtkbcjagkacijnaaDiv
import Derived.Test.YtkbcjagkacijnaaPNumx9

namespace Go.Proofs.Ytkbcjagkacijnaa.NumLib
set_option linter.unusedVariables false
set_option linter.unusedSimpArgs false
open Go.RowKit Go.Proofs.Ytkbcjagkacijnaa.PNum Go.Proofs.YtkbcjagkacijnaaW.PrintWords Go.Proofs.YtkbcjagkacijnaaW.PrintLast

theorem mul_eq {k : Nat} {a b : Int} (ha : in64 a) (hb : in64 b) :
    num_Mul.f (k + 1) a b = some (if in64 (a * b) then (a * b, 0) else (0, 2)) := by
  unfold num_Mul.f
  rw [product_eq ha hb]
  simp only [Option.bind_some]
  rw [signed_eq (wok_parts _), wv_parts]
  simp only [Option.bind_some]

theorem add_eq {a b : Int} (ha : in64 a) (hb : in64 b) : num_Add.f a b = some (if in64 (a + b) then (a + b, 0) else (0, 2)) := by
  unfold in64 at ha hb
  unfold num_Add.f
  have hw := w64 (a + b)
  generalize wrap64 (a + b) = c at *
  by_cases h : in64 (a + b)
  · rw [if_pos h]
    unfold in64 at h
    have : c = a + b := by omega
    subst this
    by_cases c1 : (decide (a < 0) == decide (b < 0)) = true
    · have c2 : ¬ ((decide (a + b < 0) != decide (a < 0)) = true) := by
        by_cases a1 : a < 0 <;> by_cases b1 : b < 0 <;> simp [a1, b1] at c1 ⊢ <;> omega
      rw [if_pos c1, if_neg c2]
    · rw [if_neg c1]
  · rw [if_neg h]
    unfold in64 at h
    have c1 : (decide (a < 0) == decide (b < 0)) = true := by
      by_cases a1 : a < 0 <;> by_cases b1 : b < 0 <;> simp [a1, b1] <;> omega
    have c2 : (decide (c < 0) != decide (a < 0)) = true := by
      by_cases a1 : a < 0 <;> by_cases b1 : c < 0 <;> simp [a1, b1] <;> omega
    rw [if_pos c1, if_pos c2]

theorem sub_eq {a b : Int} (ha : in64 a) (hb : in64 b) : num_Sub.f a b = some (if in64 (a - b) then (a - b, 0) else (0, 2)) := by
  unfold in64 at ha hb
  unfold num_Sub.f
  have hw := w64 (a - b)
  generalize wrap64 (a - b) = c at *
  by_cases h : in64 (a - b)
  · rw [if_pos h]
    unfold in64 at h
    have : c = a - b := by omega
    subst this
    by_cases c1 : (decide (a < 0) != decide (b < 0)) = true
    · have c2 : ¬ ((decide (a - b < 0) != decide (a < 0)) = true) := by
        by_cases a1 : a < 0 <;> by_cases b1 : b < 0 <;> simp [a1, b1] at c1 ⊢ <;> omega
      rw [if_pos c1, if_neg c2]
    · rw [if_neg c1]
  · rw [if_neg h]
    unfold in64 at h
    have c1 : (decide (a < 0) != decide (b < 0)) = true := by
      by_cases a1 : a < 0 <;> by_cases b1 : b < 0 <;> simp [a1, b1] <;> omega
    have c2 : (decide (c < 0) != decide (a < 0)) = true := by
      by_cases a1 : a < 0 <;> by_cases b1 : c < 0 <;> simp [a1, b1] <;> omega
    rw [if_pos c1, if_pos c2]

/-- The quotient rounded down, by what it is. -/
theorem floor_unique {p q c : Int} (hc : 0 < c) (h1 : q * c ≤ p) (h2 : p < q * c + c) : p / c = q := by
  have a : q ≤ p / c := (Int.le_ediv_iff_mul_le hc).mpr h1
  have b : p / c < q + 1 := Int.ediv_lt_of_lt_mul hc (by rw [Int.add_mul, Int.one_mul]; omega)
  omega
theorem floor_le {p c : Int} (hc : 0 < c) : p / c * c ≤ p ∧ p < p / c * c + c := by
  have := Int.mul_ediv_add_emod p c
  have h1 := Int.emod_nonneg p (show c ≠ 0 by omega)
  have h2 := Int.emod_lt_of_pos p hc
  rw [Int.mul_comm] at this
  omega
theorem mul_mono {x y c : Int} (hc : 0 < c) (h : x ≤ y) : x * c ≤ y * c := Int.mul_le_mul_of_nonneg_right h (Int.le_of_lt hc)

/-- A quotient within int64 has no numerator of more than 2^63 times the denominator. -/
theorem in64_div {p c : Int} (hc : 0 < c) (h : in64 (p / c)) : -9223372036854775808 * c ≤ p ∧ p < 9223372036854775808 * c := by
  have f := floor_le (p := p) hc
  unfold in64 at h
  have h1 := mul_mono hc h.1
  have h2 := mul_mono hc h.2
  omega

theorem muldiv_eq {k : Nat} {a b c : Int} (hk : 22 ≤ k) (ha : in64 a) (hb : in64 b) (hc : in64 c) :
    num_MulDiv.f k a b c = some (if c < 1 then (0, 1) else if in64 (a * b / c) then (a * b / c, 0) else (0, 2)) := by
  have hm := abs_mul_lt ha hb
  rw [natAbs_mul_cast] at hm
  unfold num_MulDiv.f
  by_cases c1 : c < 1
  · rw [if_pos c1, if_pos c1]
  rw [if_neg c1, if_neg c1, product_eq ha hb]
  simp only [Option.bind_some]
  have hcw : IntKind.u64.wrap c = c := by rw [u64w]; unfold in64 at hc; omega
  rw [hcw]
  have hcp : 0 < c := by omega
  generalize hp : a * b = p at *
  clear ha hb hp
  by_cases c2 : (p.natAbs : Int) / 18446744073709551616 ≥ c
  · rw [if_pos c2, if_neg]
    intro h
    have := in64_div hcp h
    omega
  rw [if_neg c2]
  unfold in64 at hc
  obtain ⟨k, rfl⟩ : ∃ m, k = m + 2 := ⟨k - 2, by omega⟩
  have hd : bits_Div64.f (k + 2) ((p.natAbs : Int) / 18446744073709551616) ((p.natAbs : Int) % 18446744073709551616) c = some ((p.natAbs : Int) / c, (p.natAbs : Int) % c) := by
    rw [div64_eq (by omega) (by omega) (by omega) (by omega) (by omega) (by omega), show (p.natAbs : Int) / 18446744073709551616 * 18446744073709551616 + (p.natAbs : Int) % 18446744073709551616 = (p.natAbs : Int) by omega]
  rw [hd]
  simp only [Option.bind_some]
  have fl := floor_le (p := (p.natAbs : Int)) hcp
  have hr := Int.mul_ediv_add_emod (p.natAbs : Int) c
  have hr1 := Int.emod_nonneg (p.natAbs : Int) (show c ≠ 0 by omega)
  have hr2 := Int.emod_lt_of_pos (p.natAbs : Int) hcp
  rw [Int.mul_comm] at hr
  have hq0 : 0 ≤ (p.natAbs : Int) / c := Int.ediv_nonneg (by omega) (by omega)
  have hq1 : (p.natAbs : Int) / c < 18446744073709551616 := Int.ediv_lt_of_lt_mul hcp (by omega)
  generalize hq : (p.natAbs : Int) / c = q at *
  generalize hrr : (p.natAbs : Int) % c = r at *
  by_cases c3 : p < 0
  · rw [if_pos (by simpa using c3)]
    simp only [num_MulDiv.j0]
    by_cases c4 : r > 0
    · have hpq : p / c = -(q + 1) := floor_unique hcp (by rw [Int.neg_mul, Int.add_mul]; omega) (by rw [Int.neg_mul, Int.add_mul]; omega)
      rw [if_pos (by simpa using c4), hpq]
      by_cases c5 : q = 18446744073709551615
      · rw [if_pos c5, if_neg (by unfold in64; omega)]
      · rw [if_neg c5, u64w, show (q + 1) % 18446744073709551616 = q + 1 by omega]
        have e : decide (p < 0) = true := by simpa using c3
        rw [e, signed_eq ⟨by omega, by omega, by omega, fun _ => .inr (by omega)⟩]
        simp [wv]
    · have hpq : p / c = -q := floor_unique hcp (by rw [Int.neg_mul]; omega) (by rw [Int.neg_mul]; omega)
      have e : decide (p < 0) = true := by simpa using c3
      have hq2 : q ≠ 0 := by intro h; subst h; omega
      rw [if_neg (by simpa using c4), hpq, e, signed_eq ⟨by omega, by omega, by omega, fun _ => .inr (by omega)⟩]
      simp [wv]
  · rw [if_neg (by simpa using c3)]
    simp only [num_MulDiv.j0]
    have hpq : p / c = q := by rw [← hq]; congr 1; omega
    have e : decide (p < 0) = false := by simpa using c3
    rw [if_neg (by decide), hpq, e, signed_eq ⟨by omega, by omega, by omega, fun h => by cases h⟩]
    simp [wv]

/-- Gcd's loop. -/
theorem gcd_loop (n : Nat) : ∀ (k x y : Nat), y ≤ n → y < k → x < 18446744073709551616 → y < 18446744073709551616 →
    num_Gcd.l0 (k + 1) x y = some (if (Nat.gcd x y : Int) > 9223372036854775807 then 0 else (Nat.gcd x y : Int)) := by
  induction n with
  | zero =>
    intro k x y h1 h2 hx _
    obtain rfl : y = 0 := by omega
    simp only [num_Gcd.l0]
    rw [if_neg (by omega), Nat.gcd_zero_right]
    split
    · rfl
    · rw [w64_id (by omega)]
  | succ n ih =>
    intro k x y h1 h2 hx hy
    simp only [num_Gcd.l0]
    by_cases c : y = 0
    · subst c
      rw [if_neg (by omega), Nat.gcd_zero_right]
      split
      · rfl
      · rw [w64_id (by omega)]
    · obtain ⟨k, rfl⟩ : ∃ m, k = m + 1 := ⟨k - 1, by omega⟩
      have hl := Nat.mod_lt x (show 0 < y by omega)
      rw [if_pos (by omega), if_neg (by omega), Int.tmod_eq_emod_of_nonneg (by omega), ← Int.natCast_emod]
      rw [ih k y (x % y) (by omega) (by omega) hy (by omega), Nat.gcd_comm x y, Nat.gcd_rec y x, Nat.gcd_comm]

theorem gcd_eq {k : Nat} {a b : Int} (ha : in64 a) (hb : in64 b) (hk : 9223372036854775809 < k) :
    num_Gcd.f k a b = some (if (Int.gcd a b : Int) > 9223372036854775807 then 0 else (Int.gcd a b : Int)) := by
  unfold num_Gcd.f
  rw [size_eq ha, size_eq hb]
  simp only [Option.bind_some]
  unfold in64 at ha hb
  obtain ⟨k, rfl⟩ : ∃ m, k = m + 1 := ⟨k - 1, by omega⟩
  rw [gcd_loop b.natAbs k a.natAbs b.natAbs (Nat.le_refl _) (by omega) (by omega) (by omega)]
  rfl
end Go.Proofs.Ytkbcjagkacijnaa.NumLib
