/- Plain laws of num's functions: products, comparisons of fractions, quotients, greatest common divisors are the exact ones. -/
import Derived.Test.YtkbcjagkacijnaaNumA
namespace Go.Proofs.Ytkbcjagkacijnaa.NumLib
set_option linter.unusedVariables false
set_option linter.unusedSimpArgs false
open Go.RowKit Go.Proofs.Ytkbcjagkacijnaa.PNum Go.Proofs.YtkbcjagkacijnaaW.PrintWords Go.Proofs.YtkbcjagkacijnaaW.PrintLast

/-- Is this number within int64? -/
def in64 (x : Int) : Prop := -9223372036854775808 ≤ x ∧ x ≤ 9223372036854775807
instance (x : Int) : Decidable (in64 x) := by unfold in64; infer_instance

theorem abs_mul_lt {a b : Int} (ha : in64 a) (hb : in64 b) : 0 ≤ (a.natAbs : Int) * (b.natAbs : Int) ∧ (a.natAbs : Int) * (b.natAbs : Int) ≤ 85070591730234615865843651857942052864 := by
  unfold in64 at ha hb
  have h1 : (a.natAbs : Int) ≤ 9223372036854775808 := by omega
  have h2 : (b.natAbs : Int) ≤ 9223372036854775808 := by omega
  refine ⟨Int.mul_nonneg (by omega) (by omega), ?_⟩
  have := Int.mul_le_mul h1 h2 (by omega) (by omega : (0 : Int) ≤ 9223372036854775808)
  omega

theorem below_iff {a b : Int} : ((decide (a < 0) != decide (b < 0)) = true ∧ a * b ≠ 0) ↔ a * b < 0 := by
  rcases Int.lt_trichotomy a 0 with ha | ha | ha <;> rcases Int.lt_trichotomy b 0 with hb | hb | hb
  · have := Int.mul_pos_of_neg_of_neg ha hb; simp [ha, hb]; omega
  · subst hb; simp
  · have := Int.mul_neg_of_neg_of_pos ha hb; simp [ha, Int.not_lt.mpr (Int.le_of_lt hb)]; omega
  · subst ha; simp
  · subst ha; simp
  · subst ha; simp
  · have := Int.mul_neg_of_pos_of_neg ha hb; simp [hb, Int.not_lt.mpr (Int.le_of_lt ha)]; omega
  · subst hb; simp
  · have := Int.mul_pos ha hb; simp [Int.not_lt.mpr (Int.le_of_lt ha), Int.not_lt.mpr (Int.le_of_lt hb)]; omega

theorem natAbs_mul_cast (a b : Int) : (a.natAbs : Int) * (b.natAbs : Int) = ((a * b).natAbs : Int) := by
  rw [Int.natAbs_mul]; simp

/-- A product of 128 bits. -/
theorem product_eq {a b : Int} (ha : in64 a) (hb : in64 b) : num_Product.f a b =
    some (((a * b).natAbs : Int) / 18446744073709551616, ((a * b).natAbs : Int) % 18446744073709551616, decide (a * b < 0)) := by
  have hm := abs_mul_lt ha hb
  have hbl := below_iff (a := a) (b := b)
  unfold num_Product.f
  rw [size_eq ha, size_eq hb]
  simp only [Option.bind_some]
  unfold in64 at ha hb
  rw [mul64_eq (by omega) (by omega) (by omega) (by omega)]
  simp only [Option.bind_some]
  rw [natAbs_mul_cast] at hm ⊢
  have h1 : 0 ≤ ((a * b).natAbs : Int) / 18446744073709551616 ∧ ((a * b).natAbs : Int) / 18446744073709551616 < 18446744073709551616 := by omega
  have h2 : 0 ≤ ((a * b).natAbs : Int) % 18446744073709551616 ∧ ((a * b).natAbs : Int) % 18446744073709551616 < 18446744073709551616 := by omega
  have h3 : (((a * b).natAbs : Int) / 18446744073709551616 ≠ 0 ∨ ((a * b).natAbs : Int) % 18446744073709551616 ≠ 0) ↔ a * b ≠ 0 := by omega
  split
  · rename_i hd
    rw [or_ne h1.1 h1.2 h2.1 h2.2]
    congr 3
    exact decide_eq_decide.mpr (h3.trans ⟨fun h => hbl.mp ⟨hd, h⟩, fun h => (hbl.mpr h).2⟩)
  · rename_i hd
    congr 3
    exact (decide_eq_false (fun h => hd (hbl.mpr h).1)).symm

/-- The value of a sized number. -/
def wv (hi lo : Int) (b : Bool) : Int := if b = true then -(hi * 18446744073709551616 + lo) else hi * 18446744073709551616 + lo
def sgn (x : Int) : Int := if x < 0 then -1 else if x = 0 then 0 else 1
theorem sgn_neg {x : Int} (h : x < 0) : sgn x = -1 := by unfold sgn; rw [if_pos h]
theorem sgn_zero {x : Int} (h : x = 0) : sgn x = 0 := by subst h; rfl
theorem sgn_pos {x : Int} (h : 0 < x) : sgn x = 1 := by unfold sgn; rw [if_neg (by omega), if_neg (by omega)]
def wok (hi lo : Int) (b : Bool) : Prop := 0 ≤ hi ∧ 0 ≤ lo ∧ lo < 18446744073709551616 ∧ (b = true → hi ≠ 0 ∨ lo ≠ 0)

theorem wv_parts (p : Int) : wv ((p.natAbs : Int) / 18446744073709551616) ((p.natAbs : Int) % 18446744073709551616) (decide (p < 0)) = p := by
  unfold wv
  split <;> simp_all <;> omega
theorem wok_parts (p : Int) : wok ((p.natAbs : Int) / 18446744073709551616) ((p.natAbs : Int) % 18446744073709551616) (decide (p < 0)) := by
  refine ⟨by omega, by omega, by omega, ?_⟩
  intro h
  have : p < 0 := by simpa using h
  omega

theorem compare_j {k : Nat} {h1 l1 h2 l2 : Int} {b1 b2 : Bool} (a1 : 0 ≤ l1) (a2 : l1 < 18446744073709551616) (a3 : 0 ≤ l2) (a4 : l2 < 18446744073709551616) :
    num_Compare.j0 (k + 1) h1 l1 b1 h2 l2 b2 = some (sgn ((h1 * 18446744073709551616 + l1) - (h2 * 18446744073709551616 + l2))) := by
  simp only [num_Compare.j0]
  by_cases e : h1 = h2
  · rw [if_pos e]
    by_cases c1 : l1 < l2
    · rw [if_pos c1, sgn_neg (by omega)]
    · rw [if_neg c1]
      by_cases c2 : l1 > l2
      · rw [if_pos c2, sgn_pos (by omega)]
      · rw [if_neg c2, sgn_zero (by omega)]
  · rw [if_neg e]
    by_cases c : h1 < h2
    · rw [if_pos c, sgn_neg (by omega)]
    · rw [if_neg c, sgn_pos (by omega)]

/-- Compare tells the sign of the difference. -/
theorem compare_eq {k : Nat} {h1 l1 h2 l2 : Int} {b1 b2 : Bool} (w1 : wok h1 l1 b1) (w2 : wok h2 l2 b2) :
    num_Compare.f (k + 1) h1 l1 b1 h2 l2 b2 = some (sgn (wv h1 l1 b1 - wv h2 l2 b2)) := by
  obtain ⟨p1, p2, p3, p4⟩ := w1
  obtain ⟨q1, q2, q3, q4⟩ := w2
  unfold num_Compare.f
  rw [compare_j p2 p3 q2 q3, compare_j q2 q3 p2 p3]
  cases b1 <;> cases b2
  · rw [if_neg (by decide), if_neg (by decide)]; simp [wv]
  · have := q4 rfl
    rw [if_pos (by decide), if_neg (by decide)]
    rw [sgn_pos (by simp only [wv]; simp; omega)]
  · have := p4 rfl
    rw [if_pos (by decide), if_pos (by decide)]
    rw [sgn_neg (by simp only [wv]; simp; omega)]
  · rw [if_neg (by decide), if_pos (by decide)]
    simp only [wv, if_true]
    congr 2
    omega

theorem cmp_eq {k : Nat} {a b c d : Int} (ha : in64 a) (hb : in64 b) (hc : in64 c) (hd : in64 d) :
    num_Cmp.f (k + 2) a b c d = some (if b < 1 ∨ d < 1 then (0, 1) else (sgn (a * d - c * b), 0)) := by
  unfold num_Cmp.f
  have key : ∀ x, num_Cmp.j0 (k + 2) a b c d x = some (if x = true then (0, 1) else (sgn (a * d - c * b), 0)) := by
    intro x
    simp only [num_Cmp.j0]
    rw [product_eq ha hd, product_eq hc hb]
    simp only [Option.bind_some]
    rw [compare_eq (wok_parts _) (wok_parts _)]
    simp only [Option.bind_some, wv_parts]
    cases x <;> simp
  rw [key, key]
  by_cases h1 : b < 1
  · simp [h1]
  · by_cases h2 : d < 1 <;> simp [h1, h2]

/-- The number of a size and a sign, if it is one. -/
theorem signed_eq {k : Nat} {hi lo : Int} {b : Bool} (w : wok hi lo b) :
    num_signed.f (k + 1) hi lo b = some (if in64 (wv hi lo b) then (wv hi lo b, 0) else (0, 2)) := by
  obtain ⟨p1, p2, p3, p4⟩ := w
  unfold num_signed.f
  simp only [num_signed.j0, u64w, in64, wv]
  cases b
  · simp only [Bool.false_eq_true, if_false]
    by_cases e : hi = 0
    · subst e
      by_cases c : lo > 9223372036854775807
      · rw [if_pos rfl, if_pos c, if_neg (by omega)]
      · rw [if_pos rfl, if_neg c, if_pos (by omega), w64_id (by omega)]; congr 2; omega
    · rw [if_neg e, if_neg (by omega)]
  · simp only [if_true]
    by_cases e : hi = 0
    · subst e
      rw [if_pos rfl]
      by_cases c : lo ≤ 9223372036854775808
      · rw [if_pos (by simpa using c), if_pos (by omega)]
        have := p4 rfl
        congr 2
        rw [w64]; omega
      · have hn : ¬ (-9223372036854775808 ≤ -(0 * 18446744073709551616 + lo) ∧ -(0 * 18446744073709551616 + lo) ≤ 9223372036854775807) := by omega
        rw [if_neg (by simpa using c), if_pos rfl, if_neg hn]
        split <;> rfl
    · rw [if_neg e, if_neg (by simp), if_neg e, if_neg (by omega)]
end Go.Proofs.Ytkbcjagkacijnaa.NumLib
