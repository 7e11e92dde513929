/- Plain law of clock's Steady: as many steps, and each is one that a clock may take. -/
import Derived.Test.YtkbcjagkacijnaaClock
import Derived.Test.YtkbcjagkacijnaaPNumx12
namespace Go.Proofs.Ytkbcjagkacijnaa.NumLib
set_option linter.unusedVariables false
set_option linter.unusedSimpArgs false
open Go.RowKit Go.Proofs.Ytkbcjagkacijnaa.PNum Go.Proofs.YtkbcjagkacijnaaW.PrintWords Go.Proofs.YtkbcjagkacijnaaW.PrintLast Go.Proofs.YtkbcjagkacijnaaW.PrintMore

/-- Two lists, step by step. -/
def steadyB (d : Int) : List Int → List Int → Bool
  | x :: l, y :: m => decide (withinP x y d) && steadyB d l m
  | _, _ => true

theorem rd_drop {l : List Int} {i : Nat} (h : i < l.length) : l.drop i = rd l (i : Int) :: l.drop (i + 1) := by
  rw [List.drop_eq_getElem_cons h]
  congr 1
  unfold rd
  rw [Int.toNat_natCast, List.getD_eq_getElem?_getD, List.getElem?_eq_getElem h]
  rfl

theorem steady_loop {l m : List Int} {d : Int} (hlen : l.length = m.length) (hm : l.length * 8 ≤ 140737488351232) (n : Nat) : ∀ (k i : Nat), i + n = l.length → n + 5 < k →
    clock_Steady.l0 k m d l (l.length : Int) (i : Int) = some (steadyB d (l.drop i) (m.drop i)) := by
  induction n with
  | zero =>
    intro k i h hk
    obtain ⟨k, rfl⟩ : ∃ x, k = x + 1 := ⟨k - 1, by omega⟩
    simp only [clock_Steady.l0]
    rw [if_neg (by omega), List.drop_of_length_le (by omega)]
    rfl
  | succ n ih =>
    intro k i h hk
    obtain ⟨k, rfl⟩ : ∃ x, k = x + 4 := ⟨k - 4, by omega⟩
    simp only [clock_Steady.l0]
    rw [if_pos (by omega), if_pos (by omega), if_pos (by omega), if_pos (by omega), within_eq, rd_drop (show i < l.length by omega), rd_drop (show i < m.length by omega)]
    simp only [Option.bind_some, steadyB]
    by_cases c : withinP (rd l i) (rd m i) d
    · rw [decide_eq_true c, if_pos rfl, Bool.true_and, w64_id (by omega), show (i : Int) + 1 = ((i + 1 : Nat) : Int) by omega]
      exact ih (k + 3) (i + 1) (by omega) (by omega)
    · rw [decide_eq_false c, if_neg (by decide), Bool.false_and]

theorem steady_eq {l m : List Int} {d : Int} {k : Nat} (hm : l.length * 8 ≤ 140737488351232) (hk : l.length + 5 < k) :
    clock_Steady.f k l m d = some (decide (l.length = m.length) && steadyB d l m) := by
  unfold clock_Steady.f
  by_cases c : l.length = m.length
  · rw [if_pos (by omega), decide_eq_true c, Bool.true_and]
    exact steady_loop c hm l.length k 0 (by omega) hk
  · rw [if_neg (by omega), decide_eq_false c, Bool.false_and]
end Go.Proofs.Ytkbcjagkacijnaa.NumLib
