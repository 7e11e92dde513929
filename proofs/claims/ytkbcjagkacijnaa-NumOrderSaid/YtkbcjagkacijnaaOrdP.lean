/- NumOrder: for all numbers the comparison of fractions is turned about when they are, and goes on from one to the next; no condition. -/
import Derived.Test.YtkbcjagkacijnaaPOrdx1
import Derived.Test.YtkbcjagkacijnaaNumE
import Derived.Test.YtkbcjagkacijnaaOpen
import Derived.OpenShut
namespace Go.Proofs.Ytkbcjagkacijnaa.Open
open Go.RowKit Go.Proofs.YtkbcjagkacijnaaW.PrintWords
set_option linter.unusedVariables false
/-- An array of two. -/
theorem Opens.two {α : Type} {P : Program} {T e : TypeId} {k : Kd α} {good : α → Prop} {bulk : α → Nat} (ht : P.underlying T = some (.array 2 e)) (hz : P.cellsOf T = P.cellsOf e + P.cellsOf e) (h : Opens P e k good bulk) :
    Opens P T (Kd.pair k k) (fun x => good x.1 ∧ good x.2) (fun x => bulk x.1 + bulk x.2 + 1) := by
  intro H enc W fuel cs x hx
  obtain ⟨xs, m, _, rfl, hl, hn, hel⟩ := DataW.trod_array ht hx
  match xs, hn with
  | [x, y], _ =>
    have h0 := hel 0 (by omega)
    have h1 := hel 1 (by omega)
    simp only [Nat.zero_mul, List.drop_zero, Nat.one_mul, List.getElem?_cons_zero, List.getElem?_cons_succ] at h0 h1
    obtain ⟨a, a1, a2, a3⟩ := h H enc W m _ x h0
    obtain ⟨b, b1, b2, b3⟩ := h H enc W m _ y h1
    refine ⟨(a, b), ⟨_, _, ?_, a1, b1⟩, ⟨a2, b2⟩, by simp [Rows.uptoBulk, Rows.uptoBulkAll]; omega⟩
    rw [List.take_of_length_le (l := cs.drop _) (by rw [List.length_drop]; omega), List.take_append_drop]
theorem two64 : Opens Try.prog 66 (Kd.pair (Kd.int .i64) (Kd.int .i64)) (fun x => (Lit.int .i64 x.1).wf = true ∧ (Lit.int .i64 x.2).wf = true) (fun _ => 1 + 1 + 1) :=
  Opens.two Try.underlying66 (by kernel_rfl) (Opens.int Try.underlying2)
theorem of_two {W : World} {c : Array Value} {x : Int × Int} (h : (Kd.pair (Kd.int .i64) (Kd.int .i64)).K W x c.toList) : c = #[.int .i64 x.1, .int .i64 x.2] := by
  obtain ⟨d, e, h1, rfl, rfl⟩ := h
  exact Array.toList_inj.mp (by simpa using h1)
end Go.Proofs.Ytkbcjagkacijnaa.Open
namespace Go.Proofs.Ytkbcjagkacijnaa.Pure
set_option linter.unusedVariables false
set_option linter.unusedSimpArgs false
open Go.RowKit Go.Proofs.Ytkbcjagkacijnaa.NumLib Go.Proofs.Ytkbcjagkacijnaa.POrd Go.Proofs.YtkbcjagkacijnaaW.PrintWords Go.Proofs.YtkbcjagkacijnaaW.PrintLast

theorem sgn_turn (x : Int) : wrap64 (-sgn (-x)) = sgn x := by
  rcases Int.lt_trichotomy x 0 with h | h | h
  · rw [sgn_neg h, sgn_pos (by omega), w64_id (by omega)]
  · subst h; rw [Int.neg_zero, sgn_zero rfl, w64_id (by omega)]; rfl
  · rw [sgn_pos h, sgn_neg (by omega), w64_id (by omega)]; rfl
theorem sgn_cases (x : Int) : (x < 0 ∧ sgn x = -1) ∨ (x = 0 ∧ sgn x = 0) ∨ (0 < x ∧ sgn x = 1) := by
  rcases Int.lt_trichotomy x 0 with h | h | h
  · exact .inl ⟨h, sgn_neg h⟩
  · exact .inr (.inl ⟨h, sgn_zero h⟩)
  · exact .inr (.inr ⟨h, sgn_pos h⟩)
theorem order_key {a0 a1 b0 b1 c0 c1 : Int} (ha : 0 < a1) (hb : 0 < b1) (hc : 0 < c1) (h1 : a0 * b1 - b0 * a1 ≤ 0) (h2 : b0 * c1 - c0 * b1 ≤ 0) :
    a0 * c1 - c0 * a1 ≤ 0 ∧ ((a0 * b1 - b0 * a1 = 0 ∧ b0 * c1 - c0 * b1 = 0) ↔ a0 * c1 - c0 * a1 = 0) := by
  have id : (a0 * c1 - c0 * a1) * b1 = (a0 * b1 - b0 * a1) * c1 + (b0 * c1 - c0 * b1) * a1 := by grind
  generalize a0 * c1 - c0 * a1 = V at *
  generalize a0 * b1 - b0 * a1 = X at *
  generalize b0 * c1 - c0 * b1 = Z at *
  have hX : X * c1 ≤ 0 := Int.mul_nonpos_of_nonpos_of_nonneg h1 (by omega)
  have hZ : Z * a1 ≤ 0 := Int.mul_nonpos_of_nonpos_of_nonneg h2 (by omega)
  refine ⟨?_, fun ⟨x, z⟩ => ?_, fun v => ?_⟩
  · rcases Int.lt_or_le 0 V with h | h
    · have := Int.mul_pos h hb
      omega
    · exact h
  · subst x z
    simp only [Int.zero_mul, Int.add_zero] at id
    rcases Int.mul_eq_zero.mp id with h | h <;> omega
  · subst v
    simp only [Int.zero_mul] at id
    constructor
    · rcases Int.mul_eq_zero.mp (show X * c1 = 0 by omega) with h | h <;> omega
    · rcases Int.mul_eq_zero.mp (show Z * a1 = 0 by omega) with h | h <;> omega
theorem NumOrder {a0 a1 b0 b1 c0 c1 : Int} (ha0 : in64 a0) (ha1 : in64 a1) (hb0 : in64 b0) (hb1 : in64 b1) (hc0 : in64 c0) (hc1 : in64 c1) : furlonglaw01_NumOrder.f 9223372036854775830 a0 a1 b0 b1 c0 c1 = some true := by
  have main : ∀ k, 9223372036854775830 ≤ k → furlonglaw01_NumOrder.f k a0 a1 b0 b1 c0 c1 = some true := by
    intro k hk
    unfold furlonglaw01_NumOrder.f
    have aw : POrd.furlonglaw01_awake.f k = some true := awake_eq (by omega)
    rw [aw]
    obtain ⟨k, rfl⟩ : ∃ m, k = m + 4 := ⟨k - 4, by omega⟩
    have cm : ∀ {a b c d : Int}, in64 a → in64 b → in64 c → in64 d → POrd.num_Cmp.f (k + 3) a b c d = some (if b < 1 ∨ d < 1 then (0, 1) else (sgn (a * d - c * b), 0)) := fun h1 h2 h3 h4 => cmp_eq h1 h2 h3 h4
    simp only [Option.bind_some, if_true]
    by_cases h1 : a1 < 1
    · simp only [if_pos h1, furlonglaw01_NumOrder.j0, if_true]
    by_cases h2 : b1 < 1
    · simp only [if_neg h1, if_pos h2, furlonglaw01_NumOrder.j0, if_true]
    rw [if_neg h1, if_neg h2]
    simp only [furlonglaw01_NumOrder.j0]
    by_cases h3 : c1 < 1
    · simp only [h3, decide_true, if_true]
    rw [if_neg (by simpa using h3), cm ha0 ha1 hb0 hb1, cm hb0 hb1 ha0 ha1, cm hb0 hb1 hc0 hc1, cm ha0 ha1 hc0 hc1]
    rw [if_neg (by omega : ¬ (a1 < 1 ∨ b1 < 1)), if_neg (by omega : ¬ (b1 < 1 ∨ a1 < 1)), if_neg (by omega : ¬ (b1 < 1 ∨ c1 < 1)), if_neg (by omega : ¬ (a1 < 1 ∨ c1 < 1))]
    simp only [Option.bind_some, if_true]
    rw [show b0 * a1 - a0 * b1 = -(a0 * b1 - b0 * a1) by omega, sgn_turn, if_pos rfl]
    have key := order_key (a0 := a0) (b0 := b0) (c0 := c0) (a1 := a1) (b1 := b1) (c1 := c1) (by omega) (by omega) (by omega)
    generalize a0 * c1 - c0 * a1 = V at *
    generalize a0 * b1 - b0 * a1 = X at *
    generalize b0 * c1 - c0 * b1 = Z at *
    rcases sgn_cases X with ⟨x1, x2⟩ | ⟨x1, x2⟩ | ⟨x1, x2⟩ <;> rcases sgn_cases Z with ⟨z1, z2⟩ | ⟨z1, z2⟩ | ⟨z1, z2⟩ <;> rcases sgn_cases V with ⟨v1, v2⟩ | ⟨v1, v2⟩ | ⟨v1, v2⟩ <;> rw [x2, z2, v2] <;> first | rfl | (exfalso; have := key (by omega) (by omega); omega)
  exact main _ (Nat.le_refl _)
end Go.Proofs.Ytkbcjagkacijnaa.Pure
namespace Go.Proofs.Ytkbcjagkacijnaa.Walk
open Go.RowKit Go.Proofs.Ytkbcjagkacijnaa.NumLib Go.Proofs.YtkbcjagkacijnaaW.PrintWords
theorem NumOrder (W : World) (a : Array Value) (x : Int × Int) (ha : (Kd.pair (Kd.int .i64) (Kd.int .i64)).K W x a.toList) (ga : (Lit.int .i64 x.1).wf = true ∧ (Lit.int .i64 x.2).wf = true)
    (b : Array Value) (y : Int × Int) (hb : (Kd.pair (Kd.int .i64) (Kd.int .i64)).K W y b.toList) (gb : (Lit.int .i64 y.1).wf = true ∧ (Lit.int .i64 y.2).wf = true)
    (c : Array Value) (z : Int × Int) (hc : (Kd.pair (Kd.int .i64) (Kd.int .i64)).K W z c.toList) (gc : (Lit.int .i64 z.1).wf = true ∧ (Lit.int .i64 z.2).wf = true) :
    Calls Try.prog 19 #[.agg a, .agg b, .agg c] W fun e w' => e = .returned (.bool true) ∧ Below W.heap.size W w' := by
  obtain rfl := Open.of_two ha
  obtain rfl := Open.of_two hb
  obtain rfl := Open.of_two hc
  exact POrd.furlonglaw01_NumOrder.calls _ _ _ _ _ _ _ _ W (Pure.NumOrder (wf64.mp ga.1) (wf64.mp ga.2) (wf64.mp gb.1) (wf64.mp gb.2) (wf64.mp gc.1) (wf64.mp gc.2))
end Go.Proofs.Ytkbcjagkacijnaa.Walk
