/- NumSums: the exact sum of every list is the document's, and the list stays; no condition. -/
import Derived.Test.YtkbcjagkacijnaaPSumsx1
import Derived.Test.YtkbcjagkacijnaaNumE
import Derived.Test.YtkbcjagkacijnaaSumP
namespace Go.Proofs.Ytkbcjagkacijnaa.Pure
set_option linter.unusedVariables false
set_option linter.unusedSimpArgs false
open Go.RowKit Go.Proofs.Ytkbcjagkacijnaa.PSums Go.Proofs.Ytkbcjagkacijnaa.NumLib Go.Proofs.YtkbcjagkacijnaaW.PrintWords Go.Proofs.YtkbcjagkacijnaaW.PrintLast

theorem sums_loop {l : List Int} (hlen : l.length ≤ 17592186043904) (x y : Int) (n : Nat) : ∀ (k i : Nat), i + n = l.length → n < k →
    furlonglaw01_NumSums.l0 k l l (l ++ [71]) x y x y l (l.length : Int) (i : Int) = some true := by
  induction n with
  | zero =>
    intro k i hi hk
    obtain ⟨k, rfl⟩ : ∃ x, k = x + 1 := ⟨k - 1, by omega⟩
    simp only [furlonglaw01_NumSums.l0]
    rw [if_neg (by omega), if_pos trivial, if_pos trivial, w64_id (by omega)]
    have e : ((l.length : Int) + 1).toNat = (l ++ [71]).length := by simp
    rw [e, List.take_length, if_pos (by omega), if_pos (by simp), if_pos (by omega), if_pos (by simp; omega)]
    unfold rd
    simp
  | succ n ih =>
    intro k i hi hk
    obtain ⟨k, rfl⟩ : ∃ x, k = x + 1 := ⟨k - 1, by omega⟩
    simp only [furlonglaw01_NumSums.l0]
    rw [if_pos (by omega), if_pos (by omega), if_pos (by omega), if_pos (by omega), if_pos trivial, w64_id (by omega)]
    exact ih k (i + 1) (by omega) (by omega)

theorem NumSums : furlonglaw01_NumSums.Pure := by
  intro l _ hl hw
  have hw' : ∀ x ∈ l, in64 x := fun x h => wf64.mp (hw x h)
  have main : ∀ k, 9223372036854775830 + l.length ≤ k → furlonglaw01_NumSums.f k l = some true := by
    intro k hk
    unfold furlonglaw01_NumSums.f
    have aw : PSums.furlonglaw01_awake.f k = some true := awake_eq (by omega)
    have s1 : PSums.num_Sum.f k l = some (sumA l.sum) := sum_eq hw' (by omega) (by omega)
    have s2 : PSums.furlongref01_Sum.f k l = some (sumA l.sum) := rsum_eq hw' (by omega) (by omega)
    rw [aw]
    simp only [Option.bind_some, if_true, List.nil_append, List.length_nil, Nat.zero_add, List.length_append, List.length_cons]
    rw [if_pos (by omega), if_pos (by omega), if_pos (by omega), if_pos (by omega), show (((l.length : Int)).toNat) = l.length by omega, List.take_append_of_le_length (Nat.le_refl _), List.take_length, s1, s2]
    simp only [Option.bind_some]
    exact sums_loop (by omega) _ _ l.length k 0 (by omega) (by omega)
  exact ⟨_, main _ (Nat.le_refl _)⟩
end Go.Proofs.Ytkbcjagkacijnaa.Pure
