/- Plain law of math/bits.Div64: quotient and remainder of two words by one word, digit by digit. -/
import Derived.Test.YtkbcjagkacijnaaPNumx3
import Derived.Test.YtkbcjagkacijnaaLz
import Derived.Test.YtkbcjagkacijnaaNumA
namespace Go.Proofs.Ytkbcjagkacijnaa.NumLib
set_option linter.unusedVariables false
set_option linter.unusedSimpArgs false
open Go.RowKit Go.Proofs.Ytkbcjagkacijnaa.PNum Go.Proofs.YtkbcjagkacijnaaW.PrintWords Go.Proofs.YtkbcjagkacijnaaW.PrintLast Go.Proofs.YtkbcjagkacijnaaW.PrintMore

theorem bitLen_spec (x : Nat) : 0 < x → x < 2 ^ 64 → ∃ m, Lib.bitLen x = m + 1 ∧ 2 ^ m ≤ x ∧ x < 2 ^ (m + 1) := by
  induction x using Nat.strongRecOn with
  | _ x ih =>
    intro h0 h1
    have hb := Lib.bitLen_half x (by omega) h1
    by_cases c : x = 1
    · subst c; exact ⟨0, rfl, by decide, by decide⟩
    · obtain ⟨m, e, g1, g2⟩ := ih (x / 2) (by omega) (by omega) (by omega)
      refine ⟨m + 1, by omega, ?_, ?_⟩
      · rw [Nat.pow_succ]; omega
      · rw [Nat.pow_succ]; omega

/-- The shift that brings a divisor's first bit to the top. -/
theorem lead (y : Int) (h0 : 0 < y) (h1 : y < 18446744073709551616) : ∃ s : Nat, s ≤ 63 ∧ bits_LeadingZeros64.f y = some (s : Int) ∧
    9223372036854775808 ≤ y * 2 ^ s ∧ y * 2 ^ s < 18446744073709551616 := by
  have hy : y.toNat < 2 ^ 64 := by have : (2 : Nat) ^ 64 = 18446744073709551616 := by rfl
                                   omega
  obtain ⟨m, e, g1, g2⟩ := bitLen_spec y.toNat (by omega) hy
  have hm : m < 64 := (Nat.pow_lt_pow_iff_right (a := 2) (by omega)).mp (Nat.lt_of_le_of_lt g1 hy)
  refine ⟨63 - m, by omega, ?_, ?_⟩
  · unfold bits_LeadingZeros64.f
    rw [if_pos (by omega), e]
    congr 1
    omega
  · have k1 : 2 ^ m * 2 ^ (63 - m) ≤ y.toNat * 2 ^ (63 - m) := Nat.mul_le_mul_right _ g1
    have k2 : y.toNat * 2 ^ (63 - m) < 2 ^ (m + 1) * 2 ^ (63 - m) := Nat.mul_lt_mul_of_pos_right g2 (Nat.pow_pos (by omega))
    rw [← Nat.pow_add, show m + (63 - m) = 63 by omega] at k1
    rw [← Nat.pow_add, show m + 1 + (63 - m) = 64 by omega] at k2
    have e1 : ((y.toNat * 2 ^ (63 - m) : Nat) : Int) = y * 2 ^ (63 - m) := by
      rw [Int.natCast_mul, Int.natCast_pow]
      congr 1
      omega
    have p1 : (2 : Nat) ^ 63 = 9223372036854775808 := by rfl
    have p2 : (2 : Nat) ^ 64 = 18446744073709551616 := by rfl
    omega

/-- What a round's estimate is known to be: not below the digit, and with its rest. -/
structure Est (u d y1 y0 q r : Int) : Prop where
  q0 : 0 ≤ q
  qb : q ≤ 4294967297
  r0 : 0 ≤ r
  eq : u = q * y1 + r
  up : (u * 4294967296 + d) < (q + 1) * (y1 * 4294967296 + y0)

/-- The estimate is the digit, where its rest says so. -/
theorem Est.exact {u d y1 y0 q r : Int} (h : Est u d y1 y0 q r) (hc : q * y0 ≤ 4294967296 * r + d) : q * (y1 * 4294967296 + y0) ≤ u * 4294967296 + d := by
  have e := h.eq
  have : q * (y1 * 4294967296 + y0) = 4294967296 * (q * y1) + q * y0 := by grind
  rw [this]
  generalize q * y1 = a at *
  generalize q * y0 = b at *
  omega

theorem Est.less {u d y1 y0 q r : Int} (h : Est u d y1 y0 q r) (hq1 : 1 ≤ q) (hy1 : 0 ≤ y1)
    (hc : u * 4294967296 + d < q * (y1 * 4294967296 + y0)) : Est u d y1 y0 (q - 1) (r + y1) := by
  refine ⟨by omega, by have := h.qb; omega, by have := h.r0; omega, ?_, ?_⟩
  · have := h.eq; rw [Int.sub_mul, Int.one_mul]; omega
  · rw [show q - 1 + 1 = q by omega]; exact hc

structure Nrm (u d y y1 y0 : Int) : Prop where
  yy : y = y1 * 4294967296 + y0
  hi : 2147483648 ≤ y1
  hi' : y1 < 4294967296
  lo : 0 ≤ y0
  lo' : y0 < 4294967296
  u0 : 0 ≤ u
  ub : u < y
  d0 : 0 ≤ d
  db : d < 4294967296

theorem mulB {q y0 : Int} (h0 : 0 ≤ q) (h1 : q ≤ 4294967296) (h2 : 0 ≤ y0) (h3 : y0 < 4294967296) : 0 ≤ q * y0 ∧ q * y0 ≤ 18446744069414584320 :=
  ⟨Int.mul_nonneg h0 h2, by have := Int.mul_le_mul h1 (show y0 ≤ 4294967295 by omega) h2 (by omega : (0 : Int) ≤ 4294967296); omega⟩

/-- One more look at an estimate: it is the digit, or one less is an estimate. -/
theorem look {u d y y1 y0 q r : Int} (n : Nrm u d y y1 y0) (h : Est u d y1 y0 q r) :
    (q < 4294967296 ∧ q * y0 ≤ 4294967296 * r + d → q * y ≤ u * 4294967296 + d ∧ u * 4294967296 + d < q * y + y) ∧
    (¬ (q < 4294967296 ∧ q * y0 ≤ 4294967296 * r + d) → Est u d y1 y0 (q - 1) (r + y1) ∧
      (4294967296 ≤ r + y1 → (q - 1) * y ≤ u * 4294967296 + d ∧ u * 4294967296 + d < (q - 1) * y + y)) := by
  have ey := n.yy
  have nu := n.ub; have nhi := n.hi; have nlo := n.lo; have nlo' := n.lo'; have nd := n.d0; have nd' := n.db; have n0 := n.u0
  have up := h.up
  rw [← ey, Int.add_mul, Int.one_mul] at up
  constructor
  · rintro ⟨h1, h2⟩
    have := h.exact h2
    rw [← ey] at this
    exact ⟨this, up⟩
  · intro hn
    have hc : u * 4294967296 + d < q * y := by
      by_cases c : q < 4294967296
      · have c2 : ¬ q * y0 ≤ 4294967296 * r + d := fun h => hn ⟨c, h⟩
        have e := h.eq
        have : q * y = 4294967296 * (q * y1) + q * y0 := by rw [ey]; grind
        rw [this]
        generalize q * y1 = a at *
        generalize q * y0 = b at *
        omega
      · have : 4294967296 * y ≤ q * y := Int.mul_le_mul_of_nonneg_right (by omega) (by omega)
        omega
    have hq1 : 1 ≤ q := by
      rcases Int.lt_or_le 0 q with h' | h'
      · omega
      · have := h.q0
        obtain rfl : q = 0 := by omega
        omega
    have hE := h.less hq1 (by omega) (by rw [← ey]; exact hc)
    refine ⟨hE, fun hr => ?_⟩
    have mb := mulB hE.q0 (show q - 1 ≤ 4294967296 by have := h.qb; omega) nlo nlo'
    have := hE.exact (by omega)
    rw [← ey] at this
    have up2 := hE.up
    rw [← ey, Int.add_mul, Int.one_mul] at up2
    exact ⟨this, up2⟩

/-- The first estimate. -/
theorem first {u d y y1 y0 : Int} (n : Nrm u d y y1 y0) : Est u d y1 y0 (u / y1) (u % y1) := by
  have ey := n.yy
  have nu := n.ub; have nhi := n.hi; have nhi' := n.hi'; have nlo := n.lo; have nlo' := n.lo'; have nd' := n.db; have n0 := n.u0
  have h1 := Int.emod_nonneg u (show y1 ≠ 0 by omega)
  have h2 := Int.emod_lt_of_pos u (show 0 < y1 by omega)
  have h3 := Int.mul_ediv_add_emod u y1
  have hq : u / y1 < 4294967298 := Int.ediv_lt_of_lt_mul (by omega) (by omega)
  refine ⟨Int.ediv_nonneg n0 (by omega), by omega, h1, by rw [Int.mul_comm]; omega, ?_⟩
  have : (u / y1 + 1) * (y1 * 4294967296 + y0) = 4294967296 * (y1 * (u / y1)) + 4294967296 * y1 + (u / y1 + 1) * y0 := by grind
  rw [this]
  have h4 : 0 ≤ (u / y1 + 1) * y0 := Int.mul_nonneg (by have := Int.ediv_nonneg n0 (show 0 ≤ y1 by omega); omega) nlo
  generalize y1 * (u / y1) = a at *
  generalize (u / y1 + 1) * y0 = b at *
  omega

theorem digit_lt {u d y y1 y0 q : Int} (n : Nrm u d y y1 y0) (h : q * y ≤ u * 4294967296 + d) : q < 4294967296 := by
  have := n.ub; have := n.db; have := n.hi; have := n.yy; have := n.lo
  rcases Int.lt_or_le q 4294967296 with c | c
  · exact c
  · have : 4294967296 * y ≤ q * y := Int.mul_le_mul_of_nonneg_right c (by omega)
    omega

theorem loop1 {u d y y1 y0 : Int} (nr : Nrm u d y y1 y0) (s q1 : Int) (hs : 0 ≤ s) (n : Nat) : ∀ (k : Nat) (q r : Int), 2 * n + 2 ≤ k → Est u d y1 y0 q r → r < 4294967296 → 4294967296 ≤ r + n * 2147483648 →
    ∃ q', q' * y ≤ u * 4294967296 + d ∧ u * 4294967296 + d < q' * y + y ∧ 0 ≤ q' ∧
      bits_Div64.l1 k y s y1 y0 d q1 r u q = some (IntKind.u64.wrap ((IntKind.u64.wrap (q1 * 4294967296)) + q'), shr .u64 (IntKind.u64.wrap ((IntKind.u64.wrap ((IntKind.u64.wrap (u * 4294967296)) + d)) - (IntKind.u64.wrap (q' * y)))) s) := by
  induction n with
  | zero => intro k q r _ _ h1 h2; omega
  | succ n ih =>
    intro k q r hk hE hr hn
    obtain ⟨k, rfl⟩ : ∃ m, k = m + 2 := ⟨k - 2, by omega⟩
    have lk := look nr hE
    have q0 := hE.q0; have r0 := hE.r0; have nlo := nr.lo; have nlo' := nr.lo'; have d0 := nr.d0; have db := nr.db; have hi := nr.hi; have hi' := nr.hi'; have qb := hE.qb
    have cond : ∀ b : Bool, b = !decide (q < 4294967296 ∧ q * y0 ≤ 4294967296 * r + d) → bits_Div64.j4 (k + 1) y s y1 y0 d q1 r u q b = some (IntKind.u64.wrap ((IntKind.u64.wrap (q1 * 4294967296)) + q), shr .u64 (IntKind.u64.wrap ((IntKind.u64.wrap ((IntKind.u64.wrap (u * 4294967296)) + d)) - (IntKind.u64.wrap (q * y)))) s) ∧ (q * y ≤ u * 4294967296 + d ∧ u * 4294967296 + d < q * y + y) ∨
        ∃ q', q' * y ≤ u * 4294967296 + d ∧ u * 4294967296 + d < q' * y + y ∧ 0 ≤ q' ∧ bits_Div64.j4 (k + 1) y s y1 y0 d q1 r u q b = some (IntKind.u64.wrap ((IntKind.u64.wrap (q1 * 4294967296)) + q'), shr .u64 (IntKind.u64.wrap ((IntKind.u64.wrap ((IntKind.u64.wrap (u * 4294967296)) + d)) - (IntKind.u64.wrap (q' * y)))) s) := by
      intro b hb
      by_cases c : q < 4294967296 ∧ q * y0 ≤ 4294967296 * r + d
      · left
        rw [decide_eq_true c] at hb
        subst hb
        refine ⟨?_, lk.1 c⟩
        simp only [bits_Div64.j4, Bool.not_true, Bool.false_eq_true, if_false]
        rw [if_pos hs]
      · right
        rw [decide_eq_false c] at hb
        subst hb
        obtain ⟨hE2, hx⟩ := lk.2 c
        have q02 := hE2.q0
        simp only [bits_Div64.j4, Bool.not_false, if_true]
        rw [u64w (r + y1), u64w (q - 1), show (r + y1) % 18446744073709551616 = r + y1 by omega, show (q - 1) % 18446744073709551616 = q - 1 by omega]
        by_cases c2 : r + y1 ≥ 4294967296
        · refine ⟨q - 1, (hx c2).1, (hx c2).2, q02, ?_⟩
          rw [if_pos c2, if_pos hs]
        · rw [if_neg c2]
          exact ih k (q - 1) (r + y1) (by omega) hE2 (by omega) (by omega)
    simp only [bits_Div64.l1]
    have fin : ∀ b : Bool, b = !decide (q < 4294967296 ∧ q * y0 ≤ 4294967296 * r + d) → ∃ q', q' * y ≤ u * 4294967296 + d ∧ u * 4294967296 + d < q' * y + y ∧ 0 ≤ q' ∧ bits_Div64.j4 (k + 1) y s y1 y0 d q1 r u q b = some (IntKind.u64.wrap ((IntKind.u64.wrap (q1 * 4294967296)) + q'), shr .u64 (IntKind.u64.wrap ((IntKind.u64.wrap ((IntKind.u64.wrap (u * 4294967296)) + d)) - (IntKind.u64.wrap (q' * y)))) s) := by
      intro b hb
      rcases cond b hb with ⟨h1, h2, h3⟩ | h
      · exact ⟨q, h2, h3, q0, h1⟩
      · exact h
    by_cases c1 : q ≥ 4294967296
    · rw [if_pos c1]
      exact fin true (by rw [decide_eq_false (by omega)]; rfl)
    · rw [if_neg c1]
      have mb := mulB q0 (by omega) nlo nlo'
      refine fin _ ?_
      simp only [u64w]
      rw [show q * y0 % 18446744073709551616 = q * y0 by omega, show (4294967296 * r % 18446744073709551616 + d) % 18446744073709551616 = 4294967296 * r + d by omega]
      generalize q * y0 = z at *
      by_cases c2 : z ≤ 4294967296 * r + d
      · rw [decide_eq_false (by omega), decide_eq_true (show q < 4294967296 ∧ z ≤ 4294967296 * r + d by omega)]; rfl
      · rw [decide_eq_true (by omega), decide_eq_false (by omega)]; rfl

theorem loop0 {u d y y1 y0 : Int} (nr : Nrm u d y y1 y0) (s un0 : Int) (n : Nat) : ∀ (k : Nat) (q r : Int), 2 * n + 2 ≤ k → Est u d y1 y0 q r → r < 4294967296 → 4294967296 ≤ r + n * 2147483648 →
    ∃ q' k', q' * y ≤ u * 4294967296 + d ∧ u * 4294967296 + d < q' * y + y ∧ 0 ≤ q' ∧ k ≤ k' + 2 * n + 2 ∧
      bits_Div64.l0 k y s y1 y0 u d un0 q r = bits_Div64.j2 k' y s y1 y0 u d un0 q' := by
  induction n with
  | zero => intro k q r _ _ h1 h2; omega
  | succ n ih =>
    intro k q r hk hE hr hn
    obtain ⟨k, rfl⟩ : ∃ m, k = m + 2 := ⟨k - 2, by omega⟩
    have lk := look nr hE
    have q0 := hE.q0; have r0 := hE.r0; have nlo := nr.lo; have nlo' := nr.lo'; have d0 := nr.d0; have db := nr.db; have hi := nr.hi; have hi' := nr.hi'; have qb := hE.qb
    simp only [bits_Div64.l0]
    have fin : ∀ b : Bool, b = !decide (q < 4294967296 ∧ q * y0 ≤ 4294967296 * r + d) → ∃ q' k', q' * y ≤ u * 4294967296 + d ∧ u * 4294967296 + d < q' * y + y ∧ 0 ≤ q' ∧ k + 2 ≤ k' + 2 * (n + 1) + 2 ∧
        bits_Div64.j1 (k + 1) y s y1 y0 u d un0 q r b = bits_Div64.j2 k' y s y1 y0 u d un0 q' := by
      intro b hb
      by_cases c : q < 4294967296 ∧ q * y0 ≤ 4294967296 * r + d
      · rw [decide_eq_true c] at hb
        subst hb
        refine ⟨q, k, (lk.1 c).1, (lk.1 c).2, q0, by omega, ?_⟩
        simp only [bits_Div64.j1, Bool.not_true, Bool.false_eq_true, if_false]
      · rw [decide_eq_false c] at hb
        subst hb
        obtain ⟨hE2, hx⟩ := lk.2 c
        have q02 := hE2.q0
        simp only [bits_Div64.j1, Bool.not_false, if_true]
        rw [u64w (r + y1), u64w (q - 1), show (r + y1) % 18446744073709551616 = r + y1 by omega, show (q - 1) % 18446744073709551616 = q - 1 by omega]
        by_cases c2 : r + y1 ≥ 4294967296
        · refine ⟨q - 1, k, (hx c2).1, (hx c2).2, q02, by omega, ?_⟩
          rw [if_pos c2]
        · rw [if_neg c2]
          obtain ⟨q', k', g1, g2, g3, g4, g5⟩ := ih k (q - 1) (r + y1) (by omega) hE2 (by omega) (by omega)
          exact ⟨q', k', g1, g2, g3, by omega, g5⟩
    by_cases c1 : q ≥ 4294967296
    · rw [if_pos c1]
      exact fin true (by rw [decide_eq_false (by omega)]; rfl)
    · rw [if_neg c1]
      have mb := mulB q0 (by omega) nlo nlo'
      refine fin _ ?_
      simp only [u64w]
      rw [show q * y0 % 18446744073709551616 = q * y0 by omega, show (4294967296 * r % 18446744073709551616 + d) % 18446744073709551616 = 4294967296 * r + d by omega]
      generalize q * y0 = z at *
      by_cases c2 : z ≤ 4294967296 * r + d
      · rw [decide_eq_false (by omega), decide_eq_true (show q < 4294967296 ∧ z ≤ 4294967296 * r + d by omega)]; rfl
      · rw [decide_eq_true (by omega), decide_eq_false (by omega)]; rfl

theorem pow_int (n : Nat) (h : n ≤ 64) : (1 : Int) ≤ 2 ^ n ∧ (2 : Int) ^ n * 2 ^ (64 - n) = 18446744073709551616 := by
  refine ⟨Int.pow_pos (by omega), ?_⟩
  rw [← Int.pow_add, show n + (64 - n) = 64 by omega]
  rfl

/-- Two quotients of one number by one divisor are one. -/
theorem ediv_of {a b q r : Int} (hb : 0 < b) (h : a = q * b + r) (h0 : 0 ≤ r) (h1 : r < b) : a / b = q ∧ a % b = r := by
  subst h
  rw [Int.add_comm, Int.add_mul_ediv_right _ _ (by omega), Int.ediv_eq_zero_of_lt h0 h1, Int.add_mul_emod_self_right, Int.emod_eq_of_lt h0 h1]
  omega

theorem div64_eq {k : Nat} {hi lo y : Int} (hk : 20 ≤ k) (h0 : 0 ≤ hi) (h1 : hi < y) (h2 : 0 ≤ lo) (h3 : lo < 18446744073709551616) (h4 : y < 18446744073709551616) :
    bits_Div64.f k hi lo y = some ((hi * 18446744073709551616 + lo) / y, (hi * 18446744073709551616 + lo) % y) := by
  unfold bits_Div64.f
  rw [if_neg (by omega), if_neg (by omega)]
  by_cases c0 : hi = 0
  · subst c0
    rw [if_pos rfl, Int.tdiv_eq_ediv_of_nonneg h2, Int.tmod_eq_emod_of_nonneg h2, u64w, Int.zero_mul, Int.zero_add]
    have g1 : 0 ≤ lo / y := Int.ediv_nonneg h2 (by omega)
    have g2 : lo / y ≤ lo := Int.ediv_le_self y h2
    congr 2
    omega
  rw [if_neg c0]
  obtain ⟨s, hs, e, l1, l2⟩ := lead y (by omega) h4
  rw [e]
  simp only [Option.bind_some]
  have es : IntKind.u64.wrap (s : Int) = s := by rw [u64w]; omega
  have es' : IntKind.u64.wrap (64 - (s : Int)) = ((64 - s : Nat) : Int) := by rw [u64w]; omega
  rw [es, es', if_pos (by omega), if_pos (by omega)]
  obtain ⟨t1, tt⟩ := pow_int s (by omega)
  -- the shifted words
  have sh : ∀ x : Int, shl .u64 x (s : Int) = x * 2 ^ s % 18446744073709551616 := by
    intro x; unfold shl; rw [u64w, Int.toNat_natCast, Nat.min_eq_left (by simp [IntKind.bits]; omega)]
  have shr' : ∀ x : Int, ∀ j : Nat, j ≤ 64 → shr .u64 x (j : Int) = x / 2 ^ j := by
    intro x j hj; unfold shr; rw [Int.toNat_natCast, Nat.min_eq_left (by simp [IntKind.bits]; omega)]
  have t2 : (1 : Int) ≤ 2 ^ (64 - s) := Int.pow_pos (by omega)
  have hhi : hi * 2 ^ s < y * 2 ^ s := Int.mul_lt_mul_of_pos_right h1 (by omega)
  have hhi0 : 0 ≤ hi * 2 ^ s := Int.mul_nonneg h0 (by omega)
  have hlo2 : lo / 2 ^ (64 - s) < 2 ^ s := Int.ediv_lt_of_lt_mul (by omega) (by omega)
  have hlo0 : 0 ≤ lo / 2 ^ (64 - s) := Int.ediv_nonneg h2 (by omega)
  rw [sh y, sh hi, sh lo, shr' lo (64 - s) (by omega), show y * 2 ^ s % 18446744073709551616 = y * 2 ^ s by omega, show hi * 2 ^ s % 18446744073709551616 = hi * 2 ^ s by omega]
  have p63 : (2 : Int) ^ s ≤ 9223372036854775808 := by
    have h : (2 : Nat) ^ s ≤ 2 ^ 63 := Nat.pow_le_pow_right (by omega) (by omega)
    have p : (2 : Nat) ^ 63 = 9223372036854775808 := by rfl
    have c : ((2 ^ s : Nat) : Int) = 2 ^ s := Int.natCast_pow 2 s
    omega
  have hor : Go.bits .or .u64 (hi * 2 ^ s) (lo / 2 ^ (64 - s)) = hi * 2 ^ s + lo / 2 ^ (64 - s) :=
    bits_join .u64 64 (by decide) (fun n h0 h1 => by rw [u64w]; omega) s _ _ hhi0 (Int.mul_emod_left _ _) (by omega) hlo0 hlo2 (by omega)
  rw [hor, and_mask (by omega) (by omega), and_mask (by omega) (by omega)]
  -- lo's high bits and low bits
  have elo : lo * 2 ^ s = (lo / 2 ^ (64 - s)) * 18446744073709551616 + lo * 2 ^ s % 18446744073709551616 := by
    have h := Int.mul_ediv_add_emod (lo * 2 ^ s) 18446744073709551616
    have h' : lo * 2 ^ s / 18446744073709551616 = lo / 2 ^ (64 - s) := by
      rw [← tt, Int.mul_comm (2 ^ s) (2 ^ (64 - s)), Int.mul_ediv_mul_of_pos_left _ _ (by omega)]
    rw [h'] at h
    omega
  have hlow : 0 ≤ lo * 2 ^ s % 18446744073709551616 ∧ lo * 2 ^ s % 18446744073709551616 < 18446744073709551616 := by omega
  have hU : (hi * 18446744073709551616 + lo) * 2 ^ s = (hi * 2 ^ s + lo / 2 ^ (64 - s)) * 18446744073709551616 + lo * 2 ^ s % 18446744073709551616 := by
    rw [Int.add_mul, Int.add_mul]
    have : hi * 18446744073709551616 * 2 ^ s = hi * 2 ^ s * 18446744073709551616 := by grind
    omega
  have hlt : hi * 2 ^ s + lo / 2 ^ (64 - s) < y * 2 ^ s := by
    have : (hi + 1) * 2 ^ s ≤ y * 2 ^ s := Int.mul_le_mul_of_nonneg_right (by omega) (by omega)
    rw [Int.add_mul, Int.one_mul] at this
    omega
  have hu0 : 0 ≤ hi * 2 ^ s + lo / 2 ^ (64 - s) := by omega
  have hyt : ∀ q r : Int, (hi * 18446744073709551616 + lo) * 2 ^ s = q * (y * 2 ^ s) + r → 0 ≤ r → r < y * 2 ^ s →
      (hi * 18446744073709551616 + lo) / y = q ∧ r / 2 ^ s = (hi * 18446744073709551616 + lo) % y := by
    intro q r he hr0 hr1
    have hr : r = (hi * 18446744073709551616 + lo - q * y) * 2 ^ s := by rw [Int.sub_mul, he]; grind
    have hd : r / 2 ^ s = hi * 18446744073709551616 + lo - q * y := by rw [hr]; exact Int.mul_ediv_cancel _ (by omega)
    generalize hz : hi * 18446744073709551616 + lo - q * y = z at *
    have z0 : 0 ≤ z := by
      rw [← hd]; exact Int.ediv_nonneg hr0 (by omega)
    have z1 : z < y := by
      rw [hr] at hr1; exact Int.lt_of_mul_lt_mul_right hr1 (by omega)
    have := ediv_of (a := hi * 18446744073709551616 + lo) (b := y) (q := q) (r := z) (by omega) (by omega) z0 z1
    exact ⟨this.1, by rw [hd, this.2]⟩
  clear elo hor sh e es es' c0 hlo2 hlo0 hhi hhi0
  generalize lo * 2 ^ s % 18446744073709551616 = un10 at *
  generalize hi * 2 ^ s + lo / 2 ^ (64 - s) = un32 at *
  generalize hY : y * 2 ^ s = Y at *
  generalize hV : hi * 18446744073709551616 + lo = V at *
  have nr1 : Nrm un32 (un10 / 4294967296) Y (Y / 4294967296) (Y % 4294967296) := ⟨by omega, by omega, by omega, by omega, by omega, by omega, by omega, by omega, by omega⟩
  have y1p : 0 < Y / 4294967296 := by omega
  obtain ⟨k, rfl⟩ : ∃ m, k = m + 20 := ⟨k - 20, by omega⟩
  have E1 := first nr1
  have d1 := Int.mul_ediv_add_emod un32 (Y / 4294967296)
  have d1' := Int.emod_lt_of_pos un32 y1p
  have d1'' := Int.emod_nonneg un32 (show Y / 4294967296 ≠ 0 by omega)
  have dle := Int.ediv_le_self (Y / 4294967296) hu0
  have d0 := Int.ediv_nonneg hu0 (show 0 ≤ Y / 4294967296 by omega)
  have w1 : IntKind.u64.wrap (Int.tdiv un32 (Y / 4294967296)) = un32 / (Y / 4294967296) := by
    rw [u64w, Int.tdiv_eq_ediv_of_nonneg hu0]; omega
  have w2 : IntKind.u64.wrap (un32 - IntKind.u64.wrap (un32 / (Y / 4294967296) * (Y / 4294967296))) = un32 % (Y / 4294967296) := by
    rw [u64w, u64w, Int.mul_comm]
    generalize Y / 4294967296 * (un32 / (Y / 4294967296)) = z at *
    omega
  rw [if_neg (by omega), w1, w2]
  obtain ⟨q1, k', g1, g2, g3, g4, g5⟩ := loop0 nr1 (s : Int) (un10 % 4294967296) 2 (k + 20) _ _ (by omega) E1 (by have := nr1.hi'; omega) (by have := nr1.hi; omega)
  rw [g5]
  obtain ⟨k', rfl⟩ : ∃ m, k' = m + 1 := ⟨k' - 1, by omega⟩
  have q1b := digit_lt nr1 g1
  simp only [bits_Div64.j2]
  have w3 : IntKind.u64.wrap (IntKind.u64.wrap (IntKind.u64.wrap (un32 * 4294967296) + un10 / 4294967296) - IntKind.u64.wrap (q1 * Y)) = un32 * 4294967296 + un10 / 4294967296 - q1 * Y := by
    simp only [u64w]
    generalize q1 * Y = z at *
    omega
  rw [w3, if_neg (by omega)]
  generalize hu2 : un32 * 4294967296 + un10 / 4294967296 - q1 * Y = un21 at *
  have nr2 : Nrm un21 (un10 % 4294967296) Y (Y / 4294967296) (Y % 4294967296) := ⟨by omega, by omega, by omega, by omega, by omega, by omega, by omega, by omega, by omega⟩
  have E2 := first nr2
  have hu20 := nr2.u0
  have f1 := Int.mul_ediv_add_emod un21 (Y / 4294967296)
  have f1' := Int.emod_lt_of_pos un21 y1p
  have f1'' := Int.emod_nonneg un21 (show Y / 4294967296 ≠ 0 by omega)
  have fle := Int.ediv_le_self (Y / 4294967296) hu20
  have f0 := Int.ediv_nonneg hu20 (show 0 ≤ Y / 4294967296 by omega)
  have hu2b := nr2.ub
  have w4 : IntKind.u64.wrap (Int.tdiv un21 (Y / 4294967296)) = un21 / (Y / 4294967296) := by
    rw [u64w, Int.tdiv_eq_ediv_of_nonneg hu20]; omega
  have w5 : IntKind.u64.wrap (un21 - IntKind.u64.wrap (un21 / (Y / 4294967296) * (Y / 4294967296))) = un21 % (Y / 4294967296) := by
    rw [u64w, u64w, Int.mul_comm]
    generalize Y / 4294967296 * (un21 / (Y / 4294967296)) = z at *
    omega
  rw [w4, w5]
  obtain ⟨q0, e1, e2, e3, e4⟩ := loop1 nr2 (s : Int) q1 (by omega) 2 k' _ _ (by omega) E2 (by have := nr2.hi'; omega) (by have := nr2.hi; omega)
  have q0b := digit_lt nr2 e1
  rw [e4]
  have w6 : IntKind.u64.wrap (IntKind.u64.wrap (IntKind.u64.wrap (un21 * 4294967296) + un10 % 4294967296) - IntKind.u64.wrap (q0 * Y)) = un21 * 4294967296 + un10 % 4294967296 - q0 * Y := by
    simp only [u64w]
    generalize q0 * Y = z at *
    omega
  have w7 : IntKind.u64.wrap (IntKind.u64.wrap (q1 * 4294967296) + q0) = q1 * 4294967296 + q0 := by
    simp only [u64w]; omega
  rw [w6, w7, shr' _ s (by omega)]
  have hfin := hyt (q1 * 4294967296 + q0) (un21 * 4294967296 + un10 % 4294967296 - q0 * Y) (by
    rw [hU, Int.add_mul, ← hu2]
    have : q1 * 4294967296 * Y = 4294967296 * (q1 * Y) := by grind
    rw [this, Int.sub_mul, Int.add_mul]
    generalize q1 * Y = z at *
    generalize q0 * Y = z0 at *
    omega) (by omega) (by omega)
  rw [hfin.1, hfin.2]
end Go.Proofs.Ytkbcjagkacijnaa.NumLib
