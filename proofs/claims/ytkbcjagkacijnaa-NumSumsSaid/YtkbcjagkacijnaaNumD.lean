/- Plain laws of the reference's numbers of two words: each is the exact sum, difference, product, order, quotient. -/
import Derived.Test.YtkbcjagkacijnaaNumC
import Derived.Test.YtkbcjagkacijnaaPNumx4

import Derived.Test.YtkbcjagkacijnaaPNumx7
namespace Go.Proofs.Ytkbcjagkacijnaa.NumLib
set_option linter.unusedVariables false
set_option linter.unusedSimpArgs false
open Go.RowKit Go.Proofs.Ytkbcjagkacijnaa.PNum Go.Proofs.YtkbcjagkacijnaaW.PrintWords Go.Proofs.YtkbcjagkacijnaaW.PrintLast

/-- The words of a number: high and low. -/
def hiW (v : Int) : Int := v / 18446744073709551616
def loW (v : Int) : Int := v % 18446744073709551616
/-- Is this number within 128 bits? -/
def in128 (v : Int) : Prop := -170141183460469231731687303715884105728 ≤ v ∧ v ≤ 170141183460469231731687303715884105727

theorem rsize_eq {a : Int} (h : in64 a) : furlongref01_size.f a = some (a.natAbs : Int) := by
  unfold in64 at h
  unfold furlongref01_size.f
  simp only [u64w]
  split
  · congr 1; omega
  · congr 1; omega

theorem of_eq {a : Int} (h : in64 a) : furlongref01_Of.f a = some (hiW a, loW a) := by
  unfold in64 at h
  unfold furlongref01_Of.f hiW loW
  simp only [u64w]
  split
  · congr 2; omega
  · congr 2; omega

theorem plus_eq {u v : Int} (hu : in128 u) (hv : in128 v) (h : in128 (u + v)) : furlongref01_Plus.f (hiW u) (loW u) (hiW v) (loW v) = some (hiW (u + v), loW (u + v)) := by
  unfold in128 at hu hv h
  unfold furlongref01_Plus.f hiW loW
  simp only [u64w]
  split
  · congr 2
    · rw [w64, w64]; omega
    · omega
  · congr 2
    · rw [w64]; omega
    · omega

theorem ofInt_nat (x : Int) : ((BitVec.ofInt 64 x).toNat : Int) = x % 18446744073709551616 := by
  rw [BitVec.toNat_ofInt]
  have : ((2 ^ 64 : Nat) : Int) = 18446744073709551616 := by rfl
  rw [this]
  omega
theorem not_nat (x : Int) : ((BitVec.allOnes 64 ^^^ BitVec.ofInt 64 x).toNat : Int) = 18446744073709551615 - x % 18446744073709551616 := by
  rw [BitVec.allOnes_xor, BitVec.toNat_not, ← ofInt_nat x]
  have := (BitVec.ofInt 64 x).isLt
  have e : (2 : Nat) ^ 64 = 18446744073709551616 := by rfl
  rw [e] at *
  omega
theorem xor_i64 {x : Int} (h : in64 x) : Go.bits .xor .i64 (-1) x = -1 - x := by
  show IntKind.i64.wrap ((BitVec.ofInt 64 (-1) ^^^ BitVec.ofInt 64 x).toNat : Int) = _
  have e : BitVec.ofInt 64 (-1) = BitVec.allOnes 64 := by decide
  rw [e, not_nat, IntKind.wrap_i64]
  unfold in64 at h
  omega
theorem xor_u64 {x : Int} (h0 : 0 ≤ x) (h1 : x < 18446744073709551616) : Go.bits .xor .u64 18446744073709551615 x = 18446744073709551615 - x := by
  show IntKind.u64.wrap ((BitVec.ofInt 64 18446744073709551615 ^^^ BitVec.ofInt 64 x).toNat : Int) = _
  have e : BitVec.ofInt 64 18446744073709551615 = BitVec.allOnes 64 := by decide
  rw [e, not_nat, u64w]
  omega
theorem minus_eq {u v : Int} (hu : in128 u) (hv : in128 v) (h : in128 (u - v)) (hn : in128 (-v)) : furlongref01_Minus.f (hiW u) (loW u) (hiW v) (loW v) = some (hiW (u - v), loW (u - v)) := by
  unfold furlongref01_Minus.f
  have h1 : in64 (hiW v) := by unfold in128 at hv; unfold in64 hiW; omega
  have h2 : 0 ≤ loW v ∧ loW v < 18446744073709551616 := by unfold loW; omega
  rw [xor_i64 h1, xor_u64 h2.1 h2.2]
  have e1 : -1 - hiW v = hiW (-1 - v) := by unfold hiW; omega
  have e2 : 18446744073709551615 - loW v = loW (-1 - v) := by unfold loW; omega
  have h3 : in128 (-1 - v) := by unfold in128 at *; omega
  have z : furlongref01_Plus.f (hiW (-1 - v)) (loW (-1 - v)) 0 1 = some (hiW (-1 - v + 1), loW (-1 - v + 1)) :=
    plus_eq (v := 1) h3 (by unfold in128; omega) (by unfold in128 at *; omega)
  rw [e1, e2, z]
  simp only [Option.bind_some]
  rw [show -1 - v + 1 = -v by omega, plus_eq hu hn (by rw [show u + -v = u - v by omega]; exact h)]
  simp only [Option.bind_some]
  rw [show u + -v = u - v by omega]

theorem half_eq {a b : Int} (ha : 0 ≤ a) (ha' : a ≤ 9223372036854775808) (hb : 0 ≤ b) (hb' : b ≤ 9223372036854775808) :
    furlongref01_half.f a b = some (hiW (a * b), loW (a * b)) := by
  unfold furlongref01_half.f hiW loW
  simp only [u64w]
  rw [and_mask ha (by omega), and_mask hb (by omega)]
  have hle := Int.mul_le_mul ha' hb' hb (by omega : (0 : Int) ≤ 9223372036854775808)
  have ea : a = 4294967296 * (a / 4294967296) + a % 4294967296 := by omega
  have eb : b = 4294967296 * (b / 4294967296) + b % 4294967296 := by omega
  have hx1 : 0 ≤ a / 4294967296 ∧ a / 4294967296 ≤ 4294967295 := by omega
  have hx0 : 0 ≤ a % 4294967296 ∧ a % 4294967296 ≤ 4294967295 := by omega
  have hy1 : 0 ≤ b / 4294967296 ∧ b / 4294967296 ≤ 4294967295 := by omega
  have hy0 : 0 ≤ b % 4294967296 ∧ b % 4294967296 ≤ 4294967295 := by omega
  have hab := mul_parts (a / 4294967296) (a % 4294967296) (b / 4294967296) (b % 4294967296)
  rw [← ea, ← eb] at hab
  generalize a / 4294967296 = x1 at *
  generalize a % 4294967296 = x0 at *
  generalize b / 4294967296 = y1 at *
  generalize b % 4294967296 = y0 at *
  have b11 := mul_le32 hx1.1 hx1.2 hy1.1 hy1.2
  have b10 := mul_le32 hx1.1 hx1.2 hy0.1 hy0.2
  have b01 := mul_le32 hx0.1 hx0.2 hy1.1 hy1.2
  have b00 := mul_le32 hx0.1 hx0.2 hy0.1 hy0.2
  generalize a * b = p at *
  generalize x1 * y1 = p11 at *
  generalize x1 * y0 = p10 at *
  generalize x0 * y1 = p01 at *
  generalize x0 * y0 = p00 at *
  simp only [and_mask, Int.emod_nonneg, Int.emod_lt_of_pos, ne_eq, reduceCtorEq, not_false_eq_true, show (0 : Int) < 18446744073709551616 by omega, show ¬ ((18446744073709551616 : Int) = 0) by omega]
  congr 1
  refine Prod.ext ?_ ?_
  · show wrap64 _ = _ / _; rw [w64]; omega
  · show _ = _ % _; omega

theorem in128_mul {a b : Int} (ha : in64 a) (hb : in64 b) : in128 (a * b) := by
  have h := abs_mul_lt ha hb
  rw [natAbs_mul_cast] at h
  unfold in128
  omega

theorem times_eq {a b : Int} (ha : in64 a) (hb : in64 b) : furlongref01_Times.f a b = some (hiW (a * b), loW (a * b)) := by
  have hb1 := below_iff (a := a) (b := b)
  have hm := abs_mul_lt ha hb
  unfold furlongref01_Times.f
  rw [rsize_eq ha, rsize_eq hb]
  simp only [Option.bind_some]
  have ha' := ha
  have hb' := hb
  unfold in64 at ha' hb'
  rw [half_eq (by omega) (by omega) (by omega) (by omega), natAbs_mul_cast]
  rw [natAbs_mul_cast] at hm
  simp only [Option.bind_some]
  split
  · rename_i hd
    have hz : furlongref01_Minus.f 0 0 (hiW ((a * b).natAbs : Int)) (loW ((a * b).natAbs : Int)) = some (hiW (0 - ((a * b).natAbs : Int)), loW (0 - ((a * b).natAbs : Int))) :=
      minus_eq (u := 0) (by unfold in128; omega) (by unfold in128; omega) (by unfold in128; omega) (by unfold in128; omega)
    rw [hz]
    simp only [Option.bind_some]
    by_cases e : a * b = 0
    · rw [e]; rfl
    · have := hb1.mp ⟨hd, e⟩
      rw [show (0 - ((a * b).natAbs : Int)) = a * b by omega]
  · rename_i hd
    have : ¬ a * b < 0 := fun h => hd (hb1.mpr h).1
    rw [show ((a * b).natAbs : Int) = a * b by omega]

theorem rless_eq (u v : Int) : furlongref01_Less.f (hiW u) (loW u) (hiW v) (loW v) = some (decide (u < v)) := by
  unfold furlongref01_Less.f hiW loW
  split
  · congr 1; symm; simp; omega
  · split
    · congr 1; apply decide_eq_decide.mpr; omega
    · congr 1; symm; simp; omega

theorem order_eq (u v : Int) : furlongref01_order.f (hiW u) (loW u) (hiW v) (loW v) = some (sgn (u - v)) := by
  unfold furlongref01_order.f
  rw [rless_eq, rless_eq]
  simp only [Option.bind_some]
  by_cases c : u < v
  · rw [if_pos (by simpa using c), sgn_neg (by omega)]
  · rw [if_neg (by simpa using c)]
    by_cases c2 : v < u
    · rw [if_pos (by simpa using c2), sgn_pos (by omega)]
    · rw [if_neg (by simpa using c2), sgn_zero (by omega)]

theorem rcmp_eq {k : Nat} {a b c d : Int} (ha : in64 a) (hb : in64 b) (hc : in64 c) (hd : in64 d) :
    furlongref01_Cmp.f (k + 1) a b c d = some (if b < 1 ∨ d < 1 then (0, 1) else (sgn (a * d - c * b), 0)) := by
  unfold furlongref01_Cmp.f
  have key : ∀ x, furlongref01_Cmp.j0 (k + 1) a b c d x = some (if x = true then (0, 1) else (sgn (a * d - c * b), 0)) := by
    intro x
    simp only [furlongref01_Cmp.j0]
    rw [times_eq ha hd, times_eq hc hb]
    simp only [Option.bind_some]
    rw [order_eq]
    simp only [Option.bind_some]
    cases x <;> simp
  rw [key, key]
  by_cases h1 : b < 1
  · simp [h1]
  · by_cases h2 : d < 1 <;> simp [h1, h2]

theorem narrow_eq (v : Int) (h : in128 v) : furlongref01_Narrow.f (hiW v) (loW v) = some (if in64 v then (v, 0) else (0, 2)) := by
  unfold furlongref01_Narrow.f
  have hw := w64 (loW v)
  rw [of_eq (by unfold in64; omega)]
  simp only [Option.bind_some]
  generalize wrap64 (loW v) = c at *
  unfold in128 at h
  by_cases c1 : in64 v
  · unfold in64 at c1
    have : c = v := by unfold loW at hw; omega
    subst this
    rw [if_neg (by simp), if_pos (by unfold in64; omega)]
  · rw [if_neg c1]
    unfold in64 at c1
    have : hiW c ≠ hiW v := by unfold hiW; unfold loW at hw; omega
    rw [if_pos (by simp [this])]

theorem radd_eq {a b : Int} (ha : in64 a) (hb : in64 b) : furlongref01_Add.f a b = some (if in64 (a + b) then (a + b, 0) else (0, 2)) := by
  unfold furlongref01_Add.f
  rw [of_eq ha, of_eq hb]
  simp only [Option.bind_some]
  unfold in64 at ha hb
  rw [plus_eq (by unfold in128; omega) (by unfold in128; omega) (by unfold in128; omega)]
  simp only [Option.bind_some]
  rw [narrow_eq _ (by unfold in128; omega)]
  simp only [Option.bind_some]
theorem rsub_eq {a b : Int} (ha : in64 a) (hb : in64 b) : furlongref01_Sub.f a b = some (if in64 (a - b) then (a - b, 0) else (0, 2)) := by
  unfold furlongref01_Sub.f
  rw [of_eq ha, of_eq hb]
  simp only [Option.bind_some]
  unfold in64 at ha hb
  rw [minus_eq (by unfold in128; omega) (by unfold in128; omega) (by unfold in128; omega) (by unfold in128; omega)]
  simp only [Option.bind_some]
  rw [narrow_eq _ (by unfold in128; omega)]
  simp only [Option.bind_some]
theorem rmul_eq {a b : Int} (ha : in64 a) (hb : in64 b) : furlongref01_Mul.f a b = some (if in64 (a * b) then (a * b, 0) else (0, 2)) := by
  unfold furlongref01_Mul.f
  rw [times_eq ha hb]
  simp only [Option.bind_some]
  rw [narrow_eq _ (in128_mul ha hb)]
  simp only [Option.bind_some]
end Go.Proofs.Ytkbcjagkacijnaa.NumLib
