/- Plain laws: the reference's quotient, bit by bit, is the quotient rounded down; the first calls of layer 1 answer what they are to. -/
import Derived.Test.YtkbcjagkacijnaaNumD
namespace Go.Proofs.Ytkbcjagkacijnaa.NumLib
set_option linter.unusedVariables false
set_option linter.unusedSimpArgs false
open Go.RowKit Go.Proofs.Ytkbcjagkacijnaa.PNum Go.Proofs.YtkbcjagkacijnaaW.PrintWords Go.Proofs.YtkbcjagkacijnaaW.PrintLast Go.Proofs.YtkbcjagkacijnaaW.PrintMore

theorem shl_one {n : Nat} (h : n ≤ 62) : shl .i64 1 (n : Int) = 2 ^ n := by
  unfold shl
  rw [Int.toNat_natCast, Nat.min_eq_left (by simp [IntKind.bits]; omega), Int.one_mul]
  refine IntWalk.i64_in _ ?_
  have h1 : (2 : Int) ^ n ≤ 2 ^ 62 := by exact_mod_cast Nat.pow_le_pow_right (show 0 < 2 by omega) h
  have h0 : (0 : Int) < 2 ^ n := Int.pow_pos (by omega)
  have h2 : (2 : Int) ^ 62 = 4611686018427387904 := by rfl
  omega

theorem rloop {c p : Int} (hc : in64 c) (hc0 : 0 < c) (n : Nat) : ∀ (k : Nat) (q : Int), n ≤ 63 → n < k → -9223372036854775808 ≤ q → q + 2 ^ n ≤ 9223372036854775808 → q * c ≤ p → p < (q + 2 ^ n) * c →
    furlongref01_MulDiv.l0 k c q ((n : Int) - 1) (hiW p) (loW p) = some (p / c, 0) := by
  induction n with
  | zero =>
    intro k q _ hk h1 h2 h3 h4
    obtain ⟨k, rfl⟩ : ∃ m, k = m + 1 := ⟨k - 1, by omega⟩
    simp only [furlongref01_MulDiv.l0]
    rw [if_neg (by omega)]
    congr 2
    rw [Int.pow_zero, Int.add_mul, Int.one_mul] at h4
    exact (floor_unique hc0 h3 h4).symm
  | succ n ih =>
    intro k q hn hk h1 h2 h3 h4
    obtain ⟨k, rfl⟩ : ∃ m, k = m + 1 := ⟨k - 1, by omega⟩
    simp only [furlongref01_MulDiv.l0]
    have hx : ((n + 1 : Nat) : Int) - 1 = (n : Int) := by omega
    have h0 : (0 : Int) < 2 ^ n := Int.pow_pos (by omega)
    have hs : (2 : Int) ^ (n + 1) = 2 * 2 ^ n := by rw [Int.pow_succ, Int.mul_comm]
    rw [hx, if_pos (by omega), if_pos (by omega), shl_one (by omega)]
    rw [hs] at h2 h4
    have hq : in64 (q + 2 ^ n) := by unfold in64; omega
    have e1 : wrap64 (q + 2 ^ n) = q + 2 ^ n := w64_id hq
    have e2 : wrap64 ((n : Int) - 1) = (n : Int) - 1 := w64_id (by omega)
    rw [e1, e2, times_eq hq hc]
    simp only [Option.bind_some]
    rw [rless_eq]
    simp only [Option.bind_some]
    by_cases c1 : p < (q + 2 ^ n) * c
    · rw [if_pos (by simpa using c1)]
      exact ih k q (by omega) (by omega) h1 (by omega) h3 c1
    · rw [if_neg (by simpa using c1)]
      exact ih k (q + 2 ^ n) (by omega) (by omega) (by omega) (by omega) (by omega) (by rw [show q + 2 ^ n + 2 ^ n = q + 2 * 2 ^ n by omega]; exact h4)

theorem rmuldiv_eq {k : Nat} {a b c : Int} (ha : in64 a) (hb : in64 b) (hc : in64 c) (hk : 66 < k) :
    furlongref01_MulDiv.f k a b c = some (if c < 1 then (0, 1) else if in64 (a * b / c) then (a * b / c, 0) else (0, 2)) := by
  unfold furlongref01_MulDiv.f
  by_cases c1 : c < 1
  · rw [if_pos c1, if_pos c1]
  rw [if_neg c1, if_neg c1, times_eq ha hb]
  simp only [Option.bind_some]
  have hp := in128_mul ha hb
  generalize a * b = p at *
  have hcp : 0 < c := by omega
  have hmin : in64 (-9223372036854775808) := by unfold in64; omega
  have hmax : in64 9223372036854775807 := by unfold in64; omega
  rw [times_eq hmin hc]
  simp only [Option.bind_some]
  rw [rless_eq]
  simp only [Option.bind_some]
  have fl := floor_le (p := p) hcp
  obtain ⟨k, rfl⟩ : ∃ m, k = m + 2 := ⟨k - 2, by omega⟩
  by_cases c2 : p < -9223372036854775808 * c
  · rw [if_pos (by simpa using c2), if_neg]
    · simp only [furlongref01_MulDiv.j0]; rw [if_pos trivial]
    · intro h; have := in64_div hcp h; omega
  rw [if_neg (by simpa using c2), times_eq hmax hc, of_eq hc]
  simp only [Option.bind_some]
  have hc' := hc
  unfold in64 at hc'
  rw [plus_eq (by unfold in128; omega) (by unfold in128; omega) (by unfold in128; omega)]
  simp only [Option.bind_some]
  rw [rless_eq]
  simp only [Option.bind_some, furlongref01_MulDiv.j0]
  by_cases c3 : p < 9223372036854775807 * c + c
  · rw [if_neg (by simpa using c3)]
    have hq : in64 (p / c) := by
      have h1 : -9223372036854775808 ≤ p / c := (Int.le_ediv_iff_mul_le hcp).mpr (by omega)
      have h2 : p / c < 9223372036854775808 := Int.ediv_lt_of_lt_mul hcp (by omega)
      unfold in64; omega
    rw [if_pos hq]
    have hz : furlongref01_Less.f (hiW p) (loW p) 0 0 = some (decide (p < 0)) := rless_eq p 0
    rw [hz]
    simp only [Option.bind_some, furlongref01_MulDiv.j1]
    by_cases c4 : p < 0
    · rw [if_pos (by simpa using c4)]
      exact rloop hc hcp 63 k (-9223372036854775808) (by omega) (by omega) (by omega) (by decide) (by omega) (by rw [show (-9223372036854775808 + 2 ^ 63 : Int) = 0 by decide]; omega)
    · rw [if_neg (by simpa using c4)]
      exact rloop hc hcp 63 k 0 (by omega) (by omega) (by omega) (by decide) (by omega) (by rw [show (0 + 2 ^ 63 : Int) = 9223372036854775808 by decide]; omega)
  · rw [if_pos (by simpa using c3), if_neg]
    intro h; have := in64_div hcp h; omega

theorem rgcd_loop (n : Nat) : ∀ (k x y : Nat), y ≤ n → y < k → x < 18446744073709551616 → y < 18446744073709551616 →
    furlongref01_Gcd.l0 (k + 1) x y = some (if (Nat.gcd x y : Int) > 9223372036854775807 then 0 else (Nat.gcd x y : Int)) := by
  induction n with
  | zero =>
    intro k x y h1 h2 hx _
    obtain rfl : y = 0 := by omega
    simp only [furlongref01_Gcd.l0]
    rw [if_pos (by omega), Nat.gcd_zero_right]
    split
    · rfl
    · rw [w64_id (by omega)]
  | succ n ih =>
    intro k x y h1 h2 hx hy
    simp only [furlongref01_Gcd.l0]
    by_cases c : y = 0
    · subst c
      rw [if_pos (by omega), Nat.gcd_zero_right]
      split
      · rfl
      · rw [w64_id (by omega)]
    · obtain ⟨k, rfl⟩ : ∃ m, k = m + 1 := ⟨k - 1, by omega⟩
      have hl := Nat.mod_lt x (show 0 < y by omega)
      rw [if_neg (by omega), Int.tmod_eq_emod_of_nonneg (by omega), ← Int.natCast_emod]
      rw [ih k y (x % y) (by omega) (by omega) hy (by omega), Nat.gcd_comm x y, Nat.gcd_rec y x, Nat.gcd_comm]

theorem rgcd_eq {k : Nat} {a b : Int} (ha : in64 a) (hb : in64 b) (hk : 9223372036854775809 < k) :
    furlongref01_Gcd.f k a b = some (if (Int.gcd a b : Int) > 9223372036854775807 then 0 else (Int.gcd a b : Int)) := by
  unfold furlongref01_Gcd.f
  rw [rsize_eq ha, rsize_eq hb]
  simp only [Option.bind_some]
  unfold in64 at ha hb
  obtain ⟨k, rfl⟩ : ∃ m, k = m + 1 := ⟨k - 1, by omega⟩
  rw [rgcd_loop b.natAbs k a.natAbs b.natAbs (Nat.le_refl _) (by omega) (by omega) (by omega)]
  rfl

theorem awake_eq {k : Nat} (hk : 9223372036854775820 ≤ k) : furlonglaw01_awake.f k = some true := by
  have i1 : in64 1 := by decide
  have i2 : in64 2 := by decide
  have i3 : in64 3 := by decide
  have i6 : in64 6 := by decide
  have i7 : in64 (-7) := by decide
  have i12 : in64 12 := by decide
  have i18 : in64 (-18) := by decide
  unfold furlonglaw01_awake.f
  rw [gcd_eq i12 i18 (by omega)]
  obtain ⟨k, rfl⟩ : ∃ m, k = m + 2 := ⟨k - 2, by omega⟩
  rw [add_eq i2 i3, muldiv_eq (by omega) i7 i1 i2, cmp_eq i1 i3 i2 i6]
  decide
end Go.Proofs.Ytkbcjagkacijnaa.NumLib
