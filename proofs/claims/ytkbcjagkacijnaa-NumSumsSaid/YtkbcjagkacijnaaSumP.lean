/- Plain law of num.Sum and of the reference's Sum: the exact sum of a list, or that it leaves int64. -/
import Derived.Test.YtkbcjagkacijnaaSum
import Derived.Test.YtkbcjagkacijnaaNumE
import Derived.Test.YtkbcjagkacijnaaPNumx15
namespace Go.Proofs.Ytkbcjagkacijnaa.NumLib
set_option linter.unusedVariables false
set_option linter.unusedSimpArgs false
open Go.RowKit Go.Proofs.Ytkbcjagkacijnaa.PNum Go.Proofs.YtkbcjagkacijnaaW.PrintWords Go.Proofs.YtkbcjagkacijnaaW.PrintLast Go.Proofs.YtkbcjagkacijnaaW.PrintMore

theorem rd_drop' {l : List Int} {i : Nat} (h : i < l.length) : l.drop i = rd l (i : Int) :: l.drop (i + 1) := by
  rw [List.drop_eq_getElem_cons h]
  congr 1
  unfold rd
  rw [Int.toNat_natCast, List.getD_eq_getElem?_getD, List.getElem?_eq_getElem h]
  rfl
theorem rd_mem {l : List Int} {i : Nat} (h : i < l.length) : rd l (i : Int) ∈ l := by
  have : rd l (i : Int) ∈ l.drop i := by rw [rd_drop' h]; exact List.mem_cons_self
  exact List.mem_of_mem_drop this

/-- What is above 0, what is below. -/
def posS : List Int → Int
  | [] => 0
  | x :: l => (if x < 0 then 0 else x) + posS l
def negS : List Int → Int
  | [] => 0
  | x :: l => (if x < 0 then -x else 0) + negS l
theorem pos_neg (l : List Int) : posS l - negS l = l.sum := by
  induction l with
  | nil => rfl
  | cons x l ih => rw [List.sum_cons, posS, negS]; split <;> omega

/-- The exact sum, if it is within int64. -/
def sumA (s : Int) : Int × Int := if in64 s then (s, 0) else (0, 2)

theorem bw1 {P N : Int} (h1 : 0 ≤ P) (h4 : N ≤ 324518553658426726783156020576256) (c : P ≤ N) : ((N / 18446744073709551616 - P / 18446744073709551616) % 18446744073709551616 - (if N % 18446744073709551616 < P % 18446744073709551616 then 1 else 0)) % 18446744073709551616 = (N - P) / 18446744073709551616 := by split <;> omega
theorem bw2 {P N : Int} : (N % 18446744073709551616 - P % 18446744073709551616) % 18446744073709551616 = (N - P) % 18446744073709551616 := by omega
theorem bw3 {P N : Int} : wv ((N - P) / 18446744073709551616) ((N - P) % 18446744073709551616) true = P - N := by unfold wv; rw [if_pos rfl]; omega
theorem bw3' {P N : Int} : wv ((P - N) / 18446744073709551616) ((P - N) % 18446744073709551616) false = P - N := by unfold wv; rw [if_neg (by decide)]; omega
theorem bw4 {P N : Int} (c : P < N) : P / 18446744073709551616 < N / 18446744073709551616 ∨ P / 18446744073709551616 = N / 18446744073709551616 ∧ P % 18446744073709551616 < N % 18446744073709551616 := by omega
theorem bw5 {P N : Int} (c : ¬ P < N) : ¬ (P / 18446744073709551616 < N / 18446744073709551616 ∨ P / 18446744073709551616 = N / 18446744073709551616 ∧ P % 18446744073709551616 < N % 18446744073709551616) := by omega
theorem bw6 {P N : Int} : 0 ≤ P % 18446744073709551616 ∧ P % 18446744073709551616 < 18446744073709551616 ∧ 0 ≤ N % 18446744073709551616 ∧ N % 18446744073709551616 < 18446744073709551616 := by omega
theorem bw7 {S : Int} (h : 0 < S) : wok (S / 18446744073709551616) (S % 18446744073709551616) true := ⟨by omega, by omega, by omega, fun _ => by omega⟩
theorem bw8 {S : Int} (h : 0 ≤ S) : wok (S / 18446744073709551616) (S % 18446744073709551616) false := ⟨by omega, by omega, by omega, fun h => by cases h⟩
theorem signed1 {hi lo : Int} {b : Bool} (w : wok hi lo b) : num_signed.f 1 hi lo b = some (sumA (wv hi lo b)) := signed_eq (k := 0) w

theorem fin_eq {P N : Int} (h1 : 0 ≤ P) (h2 : P ≤ 324518553658426726783156020576256) (h3 : 0 ≤ N) (h4 : N ≤ 324518553658426726783156020576256) :
    num_Sum.fin (P / 18446744073709551616) (N / 18446744073709551616) (P % 18446744073709551616) (N % 18446744073709551616) = some (sumA (P - N)) := by
  unfold num_Sum.fin
  rw [if_pos bw6]
  by_cases c : P < N
  · rw [if_pos (bw4 c)]
    unfold uM bor
    rw [u64w, u64w, bw1 h1 h4 (Int.le_of_lt c), bw2, signed1 (bw7 (by omega)), bw3]
  · rw [if_neg (bw5 c)]
    unfold uM bor
    rw [u64w, u64w, bw1 h3 h2 (by omega), bw2, signed1 (bw8 (by omega)), bw3']

theorem carry1 {N s : Int} (h0 : 0 ≤ N) (h1 : N ≤ 324518553658426726783156020576256) (h2 : 0 ≤ s) (h3 : s ≤ 9223372036854775808) : IntKind.u64.wrap (N / 18446744073709551616 + uD (N % 18446744073709551616 + s)) = (N + s) / 18446744073709551616 := by
  rw [u64w]; unfold uD; omega
theorem carry2 {N s : Int} : uM (N % 18446744073709551616 + s) = (N + s) % 18446744073709551616 := by
  unfold uM; omega
theorem grows {N s : Int} {i : Nat} (h : N ≤ i * 9223372036854775808) (hs : s ≤ 9223372036854775808) : N + s ≤ ((i + 1 : Nat) : Int) * 9223372036854775808 := by omega
theorem small {N : Int} {i : Nat} (h : N ≤ i * 9223372036854775808) (hi : i ≤ 17592186044416) : N ≤ 324518553658426726783156020576256 := by omega
theorem sum_loop {l : List Int} (hw : ∀ x ∈ l, in64 x) (hl : l.length ≤ 17592186044416) (n : Nat) : ∀ (k i : Nat) (P N : Int), i + n = l.length → n < k → 0 ≤ P → P ≤ i * 9223372036854775808 → 0 ≤ N → N ≤ i * 9223372036854775808 →
    num_Sum.l0 k l (i : Int) (P / 18446744073709551616) (N / 18446744073709551616) (P % 18446744073709551616) (N % 18446744073709551616) = some (sumA (P - N + (l.drop i).sum)) := by
  induction n with
  | zero =>
    intro k i P N h hk p0 p1 n0 n1
    obtain ⟨k, rfl⟩ : ∃ x, k = x + 1 := ⟨k - 1, by omega⟩
    simp only [num_Sum.l0]
    rw [if_neg (by omega), List.drop_of_length_le (by omega), List.sum_nil, Int.add_zero]
    exact fin_eq p0 (by omega) n0 (by omega)
  | succ n ih =>
    intro k i P N h hk p0 p1 n0 n1
    obtain ⟨k, rfl⟩ : ∃ x, k = x + 1 := ⟨k - 1, by omega⟩
    simp only [num_Sum.l0]
    have hi : i < l.length := by omega
    have hx := hw _ (rd_mem hi)
    rw [if_pos (by omega), if_pos (by omega), if_pos bw6, size_eq hx, rd_drop' hi, List.sum_cons, Option.bind_some]
    generalize rd l (i : Int) = x at *
    unfold in64 at hx
    rw [if_pos (by omega), w64_id (by omega), show (i : Int) + 1 = ((i + 1 : Nat) : Int) by omega]
    by_cases c : x < 0
    · rw [if_pos c, carry1 n0 (small n1 (by omega)) (by omega) (by omega), carry2, ih k (i + 1) P (N + (x.natAbs : Int)) (by omega) (by omega) p0 (Int.le_trans p1 (by omega)) (by omega) (grows n1 (by omega))]
      congr 2; omega
    · rw [if_neg c, carry1 p0 (small p1 (by omega)) (by omega) (by omega), carry2, ih k (i + 1) (P + (x.natAbs : Int)) N (by omega) (by omega) (by omega) (grows p1 (by omega)) n0 (Int.le_trans n1 (by omega))]
      congr 2; omega

theorem sum_eq {l : List Int} {k : Nat} (hw : ∀ x ∈ l, in64 x) (hl : l.length ≤ 17592186044416) (hk : l.length < k) : num_Sum.f k l = some (sumA l.sum) := by
  have := sum_loop hw hl l.length k 0 0 0 (by omega) hk (by omega) (by omega) (by omega) (by omega)
  rw [show (0 : Int) - 0 + (l.drop 0).sum = l.sum by simp] at this
  exact this

theorem rsum_loop {l : List Int} (hw : ∀ x ∈ l, in64 x) (hl : l.length ≤ 17592186044416) (n : Nat) : ∀ (k i : Nat) (s : Int), i + n = l.length → n < k → -(i * 9223372036854775808) ≤ s → s ≤ i * 9223372036854775808 →
    furlongref01_Sum.l0 k l (l.length : Int) (i : Int) (hiW s) (loW s) = some (sumA (s + (l.drop i).sum)) := by
  induction n with
  | zero =>
    intro k i s h hk p0 p1
    obtain ⟨k, rfl⟩ : ∃ x, k = x + 1 := ⟨k - 1, by omega⟩
    simp only [furlongref01_Sum.l0]
    rw [if_neg (by omega), List.drop_of_length_le (by omega), List.sum_nil, Int.add_zero, narrow_eq _ (by unfold in128; omega)]
    simp only [Option.bind_some, sumA]
  | succ n ih =>
    intro k i s h hk p0 p1
    obtain ⟨k, rfl⟩ : ∃ x, k = x + 1 := ⟨k - 1, by omega⟩
    simp only [furlongref01_Sum.l0]
    have hi : i < l.length := by omega
    have hx := hw _ (rd_mem hi)
    rw [if_pos (by omega), if_pos (by omega), if_pos (by omega), of_eq hx, rd_drop' hi, List.sum_cons]
    simp only [Option.bind_some]
    generalize rd l (i : Int) = x at *
    unfold in64 at hx
    rw [plus_eq (by unfold in128; omega) (by unfold in128; omega) (by unfold in128; omega)]
    simp only [Option.bind_some]
    rw [w64_id (by omega), show (i : Int) + 1 = ((i + 1 : Nat) : Int) by omega, ih k (i + 1) (s + x) (by omega) (by omega) (by omega) (by omega)]
    congr 2; omega

theorem rsum_eq {l : List Int} {k : Nat} (hw : ∀ x ∈ l, in64 x) (hl : l.length ≤ 17592186044416) (hk : l.length < k) : furlongref01_Sum.f k l = some (sumA l.sum) := by
  have := rsum_loop hw hl l.length k 0 0 (by omega) hk (by omega) (by omega)
  rw [show (0 : Int) + (l.drop 0).sum = l.sum by simp] at this
  exact this
end Go.Proofs.Ytkbcjagkacijnaa.NumLib
