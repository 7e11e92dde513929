/- NumTogether, where the lists together have less than 2^44 numbers: a list's sum is the same backwards; of two lists, one behind the other, it is the sum of both sums. -/
import Derived.Test.YtkbcjagkacijnaaPNumx14
import Derived.Test.YtkbcjagkacijnaaSumP
namespace Go.Proofs.Ytkbcjagkacijnaa.Pure
set_option linter.unusedVariables false
set_option linter.unusedSimpArgs false
open Go.RowKit Go.Proofs.Ytkbcjagkacijnaa.PNum Go.Proofs.Ytkbcjagkacijnaa.NumLib Go.Proofs.YtkbcjagkacijnaaW.PrintWords Go.Proofs.YtkbcjagkacijnaaW.PrintLast

theorem sum_rev (l : List Int) : l.reverse.sum = l.sum := by
  induction l with
  | nil => rfl
  | cons x l ih => rw [List.reverse_cons, List.sum_append, ih, List.sum_cons, List.sum_cons, List.sum_nil]; omega

theorem tog_end {l m : List Int} (hl : ∀ x ∈ l, in64 x) (hm : ∀ x ∈ m, in64 x) (hlen : l.length + m.length < 17592186044416) {k : Nat} (hk : l.length + m.length + 2 ≤ k) :
    furlonglaw01_NumTogether.l0 (k + 1) l m l.reverse (-1) = some true := by
  simp only [furlonglaw01_NumTogether.l0]
  have hr : ∀ x ∈ l.reverse, in64 x := fun x h => hl x (List.mem_reverse.mp h)
  have ha : ∀ x ∈ l ++ m, in64 x := fun x h => (List.mem_append.mp h).elim (hl x) (hm x)
  rw [if_neg (by omega), sum_eq hl (by omega) (by omega), sum_eq hr (by rw [List.length_reverse]; omega) (by rw [List.length_reverse]; omega), sum_eq hm (by omega) (by omega), sum_rev]
  simp only [Option.bind_some, List.nil_append, List.length_nil, Nat.zero_add]
  rw [if_pos (by omega), if_pos hlen, sum_eq ha (by rw [List.length_append]; omega) (by rw [List.length_append]; omega), List.sum_append]
  simp only [Option.bind_some, if_true, bne_self_eq_false]
  obtain ⟨k, rfl⟩ : ∃ x, k = x + 1 := ⟨k - 1, by omega⟩
  simp only [furlonglaw01_NumTogether.j1, Bool.false_eq_true, if_false]
  unfold sumA
  by_cases c1 : in64 l.sum
  · by_cases c2 : in64 m.sum
    · rw [if_pos c1, if_pos c2]
      simp only [if_true]
      rw [add_eq c1 c2]
      simp
    · rw [if_neg c2]; simp
  · rw [if_neg c1]; simp

theorem tog_loop {l m : List Int} (hl : ∀ x ∈ l, in64 x) (hm : ∀ x ∈ m, in64 x) (hlen : l.length + m.length < 17592186044416) (n : Nat) : ∀ k, n ≤ l.length → n + l.length + m.length + 3 ≤ k →
    furlonglaw01_NumTogether.l0 k l m (l.drop n).reverse ((n : Int) - 1) = some true := by
  induction n with
  | zero =>
    intro k _ hk
    obtain ⟨k, rfl⟩ : ∃ x, k = x + 1 := ⟨k - 1, by omega⟩
    exact tog_end hl hm hlen (by omega)
  | succ n ih =>
    intro k hn hk
    obtain ⟨k, rfl⟩ : ∃ x, k = x + 1 := ⟨k - 1, by omega⟩
    simp only [furlonglaw01_NumTogether.l0]
    have e : (((n + 1 : Nat) : Int) - 1) = (n : Int) := by omega
    rw [e, if_pos (by omega), if_pos (by omega), if_pos (by omega), if_pos (by rw [List.length_reverse, List.length_drop]; omega), w64_id (by omega)]
    have := ih k (by omega) (by omega)
    rw [rd_drop' (show n < l.length by omega), List.reverse_cons] at this
    exact this

theorem together {l m : List Int} (hl : ∀ x ∈ l, in64 x) (hm : ∀ x ∈ m, in64 x) (hlen : l.length + m.length < 17592186044416) : ∃ k, furlonglaw01_NumTogether.f k l m = some true := by
  have main : ∀ k, 9223372036854775830 + 3 * l.length + 3 * m.length ≤ k → furlonglaw01_NumTogether.f k l m = some true := by
    intro k hk
    unfold furlonglaw01_NumTogether.f
    rw [awake_eq (by omega)]
    simp only [Option.bind_some, if_true]
    rw [w64_id (by omega)]
    have := tog_loop hl hm hlen l.length k (Nat.le_refl _) (by omega)
    rw [List.drop_length] at this
    exact this
  exact ⟨_, main _ (Nat.le_refl _)⟩
end Go.Proofs.Ytkbcjagkacijnaa.Pure
