/- Plain laws of the functions of num and of its reference (no program in sight): sizes, products, comparisons, sums. -/
import Derived.Test.YtkbcjagkacijnaaPNumx2
import Derived.Test.YtkbcjagkacijnaaPNumx5
import Derived.Test.YtkbcjagkacijnaaPNumx3
import Derived.Test.YtkbcjagkacijnaaPNumx4
import Derived.Laws.BitsAllLaws
namespace Go.Proofs.Ytkbcjagkacijnaa.NumLib
set_option linter.unusedVariables false
set_option linter.unusedSimpArgs false
open Go.RowKit Go.Proofs.Ytkbcjagkacijnaa.PNum Go.Proofs.YtkbcjagkacijnaaW.PrintWords Go.Proofs.YtkbcjagkacijnaaW.PrintLast

theorem wf64 {x : Int} : (Lit.int .i64 x).wf = true ↔ (-9223372036854775808 ≤ x ∧ x ≤ 9223372036854775807) := by
  simp [Lit.wf, IntKind.min, IntKind.max, IntKind.signed, IntKind.bits]
theorem wfu64 {x : Int} : (Lit.int .u64 x).wf = true ↔ (0 ≤ x ∧ x ≤ 18446744073709551615) := by
  simp [Lit.wf, IntKind.min, IntKind.max, IntKind.signed, IntKind.bits]
theorem u64w (x : Int) : IntKind.u64.wrap x = x % 18446744073709551616 := by
  simp [IntKind.wrap, IntKind.signed, IntKind.bits]
theorem w64 (x : Int) : wrap64 x = (x + 9223372036854775808) % 18446744073709551616 - 9223372036854775808 := by
  unfold wrap64; omega
theorem w64_id {x : Int} (h : -9223372036854775808 ≤ x ∧ x ≤ 9223372036854775807) : wrap64 x = x := by
  rw [w64]; omega
theorem and_mask {x : Int} (h0 : 0 ≤ x) (h1 : x < 18446744073709551616) : Go.bits .and .u64 x 4294967295 = x % 4294967296 :=
  bits_mask .u64 64 (by decide) (fun n h0 h1 => by rw [u64w]; omega) 32 (by decide) x h0 h1
theorem or_ne {a b : Int} (h0 : 0 ≤ a) (h1 : a < 18446744073709551616) (h2 : 0 ≤ b) (h3 : b < 18446744073709551616) :
    (Go.bits .or .u64 a b != 0) = decide (a ≠ 0 ∨ b ≠ 0) := by
  rw [u64_or a b h0 h1 h2 h3, Bool.eq_iff_iff]
  simp only [bne_iff_ne, ne_eq, decide_eq_true_eq]
  rw [Int.natCast_eq_zero, Nat.or_eq_zero_iff]
  omega

/-- The size of a number. -/
theorem size_eq {a : Int} (h : -9223372036854775808 ≤ a ∧ a ≤ 9223372036854775807) : num_Size.f a = some (a.natAbs : Int) := by
  unfold num_Size.f
  simp only [u64w]
  split
  · congr 1; omega
  · congr 1; omega

theorem mul_parts (x1 x0 y1 y0 : Int) : (4294967296 * x1 + x0) * (4294967296 * y1 + y0) = 18446744073709551616 * (x1 * y1) + 4294967296 * (x1 * y0) + 4294967296 * (x0 * y1) + x0 * y0 := by
  grind
theorem mul_le32 {x y : Int} (h0 : 0 ≤ x) (h1 : x ≤ 4294967295) (h2 : 0 ≤ y) (h3 : y ≤ 4294967295) : 0 ≤ x * y ∧ x * y ≤ 18446744065119617025 :=
  ⟨Int.mul_nonneg h0 h2, by have := Int.mul_le_mul h1 h3 h2 (by omega : (0 : Int) ≤ 4294967295); omega⟩

theorem mul64_eq {a b : Int} (ha : 0 ≤ a) (ha' : a < 18446744073709551616) (hb : 0 ≤ b) (hb' : b < 18446744073709551616) :
    bits_Mul64.f a b = some (a * b / 18446744073709551616, a * b % 18446744073709551616) := by
  unfold bits_Mul64.f
  simp only [u64w]
  rw [and_mask ha ha', and_mask hb hb']
  have ea : a = 4294967296 * (a / 4294967296) + a % 4294967296 := by omega
  have eb : b = 4294967296 * (b / 4294967296) + b % 4294967296 := by omega
  have hx1 : 0 ≤ a / 4294967296 ∧ a / 4294967296 ≤ 4294967295 := by omega
  have hx0 : 0 ≤ a % 4294967296 ∧ a % 4294967296 ≤ 4294967295 := by omega
  have hy1 : 0 ≤ b / 4294967296 ∧ b / 4294967296 ≤ 4294967295 := by omega
  have hy0 : 0 ≤ b % 4294967296 ∧ b % 4294967296 ≤ 4294967295 := by omega
  have hab := mul_parts (a / 4294967296) (a % 4294967296) (b / 4294967296) (b % 4294967296)
  rw [← ea, ← eb] at hab
  generalize a / 4294967296 = x1 at *
  generalize a % 4294967296 = x0 at *
  generalize b / 4294967296 = y1 at *
  generalize b % 4294967296 = y0 at *
  have b11 := mul_le32 hx1.1 hx1.2 hy1.1 hy1.2
  have b10 := mul_le32 hx1.1 hx1.2 hy0.1 hy0.2
  have b01 := mul_le32 hx0.1 hx0.2 hy1.1 hy1.2
  have b00 := mul_le32 hx0.1 hx0.2 hy0.1 hy0.2
  generalize a * b = p at *
  generalize x1 * y1 = p11 at *
  generalize x1 * y0 = p10 at *
  generalize x0 * y1 = p01 at *
  generalize x0 * y0 = p00 at *
  rw [and_mask (by omega) (by omega)]
  congr 1
  refine Prod.ext ?_ ?_
  · show _ = _ / _; omega
  · show _ = _ % _; omega
end Go.Proofs.Ytkbcjagkacijnaa.NumLib
