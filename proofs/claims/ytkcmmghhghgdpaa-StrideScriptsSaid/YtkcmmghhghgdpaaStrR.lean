/- Plain laws: sums of tickets, the least pass; runs keep groups. -/
import Derived.Test.YtkcmmghhghgdpaaStrQ
namespace Go.Proofs.Ytkcmmghhghgdpaa.Str
set_option linter.unusedVariables false
set_option linter.unusedSimpArgs false
theorem sumT_take (l : List Cl) (i : Nat) (c : Cl) (h : l[i]? = some c) : sumT (l.take (i + 1)) = sumT (l.take i) + c.t := by
  unfold sumT
  rw [List.take_add_one, h]
  simp
theorem sumT_bound : ∀ (l : List Cl), (∀ c ∈ l, 1 ≤ c.t ∧ c.t ≤ 16) → 0 ≤ sumT l ∧ sumT l ≤ 16 * l.length ∧ (l.length : Int) ≤ sumT l
  | [], _ => ⟨by simp [sumT], by simp [sumT], by simp [sumT]⟩
  | c :: l, h => by
    have h1 := h c List.mem_cons_self
    have h2 := sumT_bound l (fun s hs => h s (List.mem_cons_of_mem _ hs))
    have e : sumT (c :: l) = c.t + sumT l := by simp [sumT]
    rw [e, List.length_cons]
    omega
theorem cnt_take (id : Int) (x : List Int) (k : Nat) (z : Int) (h : x[k]? = some z) : cnt id (x.take (k + 1)) = cnt id (x.take k) + (if z = id then 1 else 0) := by
  rw [List.take_add_one, h]
  exact cnt_snoc id z _
/-- The least pass, and m. -/
def minF (m : Int) (l : List Cl) : Int := l.foldl (fun a c => min a c.p) m
theorem minF_take (m : Int) (l : List Cl) (i : Nat) (c : Cl) (h : l[i]? = some c) : minF m (l.take (i + 1)) = min (minF m (l.take i)) c.p := by
  unfold minF
  rw [List.take_add_one, h, List.foldl_append]
  rfl
theorem minF_le : ∀ (l : List Cl) (m : Int), minF m l ≤ m ∧ ∀ c ∈ l, minF m l ≤ c.p
  | [], m => ⟨Int.le_refl _, fun c h => by cases h⟩
  | d :: l, m => by
    obtain ⟨h1, h2⟩ := minF_le l (min m d.p)
    have e : minF m (d :: l) = minF (min m d.p) l := rfl
    refine ⟨by rw [e]; omega, fun c hc => ?_⟩
    rcases List.mem_cons.1 hc with rfl | hc
    · rw [e]; omega
    · rw [e]; exact h2 c hc
theorem minF_ge : ∀ (l : List Cl) (m a : Int), a ≤ m → (∀ c ∈ l, a ≤ c.p) → a ≤ minF m l
  | [], m, a, h, _ => h
  | d :: l, m, a, h, hl => by
    have e : minF m (d :: l) = minF (min m d.p) l := rfl
    rw [e]
    exact minF_ge l _ a (by have := hl d List.mem_cons_self; omega) (fun c hc => hl c (List.mem_cons_of_mem _ hc))
theorem minF_zero {l : List Cl} (h : ∀ c ∈ l, 0 ≤ c.p) (hz : ∃ c ∈ l, c.p = 0) : minF 4611686018427387904 l = 0 := by
  obtain ⟨c, hc, h0⟩ := hz
  have h1 := (minF_le l 4611686018427387904).2 c hc
  have h2 := minF_ge l 4611686018427387904 0 (by omega) h
  omega
theorem run_lev {l : List Cl} (h : Lev l) (n : Nat) : Lev (runL n l).1 := by
  by_cases hn : l = []
  · subst hn
    have := run_len n []
    rw [List.length_eq_zero_iff.1 this]
    exact h
  · exact (run_spec n l h hn).1
theorem run_good' {l : List Cl} (h : GoodG l) : ∀ (n : Nat), GoodG (runL n l).1
  | 0 => h
  | n + 1 => by rw [show n + 1 = n + 1 from rfl, run_app n 1]; exact pick_good (run_good' h n)
end Go.Proofs.Ytkcmmghhghgdpaa.Str
