/- furlongref01.Ints: its contract. -/
import Derived.Test.YtkcmmghhghgdpaaStr12
namespace Go.Proofs.Ytkcmmghhghgdpaa.Str
open Go.RowKit Go.Shelf Go.Maps Go.Proofs.Ytkcmmghhghgdpaa.Iter Go.Proofs.Ytkcmmghhghgdpaa.SeqM Go.Proofs.YtkcmmghhghgdpaaW.PrintWords Go.Proofs.YtkcmmghhghgdpaaW.PrintLast
set_option linter.unusedVariables false
set_option linter.unusedSimpArgs false
/-- A slice of integers reads xs. -/
def ReadsI (W : World) (A : Option Addr) (xs : List Int) : Prop := ∀ j x, xs[j]? = some x → ∃ ad, A = some ad ∧ ad.block < W.heap.size ∧ W.cell? (ad.add j) = some (.int .i64 x)
theorem ReadsI.below {W W' : World} {A : Option Addr} {xs : List Int} (h : ReadsI W A xs) (hb : Below W.heap.size W W') : ReadsI W' A xs := fun j x hx => by
  obtain ⟨ad, rfl, h1, h2⟩ := h j x hx
  exact ⟨ad, rfl, Nat.lt_of_lt_of_le h1 hb.size, (hb.cell (p := ad.add j) (by rw [add_block]; exact h1)).trans h2⟩
theorem ReadsI.mt {W W' : World} {A : Option Addr} {xs : List Int} {G : Nat} {r : Option Nat} (h : ReadsI W A xs) (hb : Mt G r W W') (hn : ∀ ad, A = some ad → ad.block ≠ G ∧ some ad.block ≠ r) : ReadsI W' A xs := fun j x hx => by
  obtain ⟨ad, rfl, h1, h2⟩ := h j x hx
  obtain ⟨n1, n2⟩ := hn ad rfl
  exact ⟨ad, rfl, Nat.lt_of_lt_of_le h1 hb.size, (World.cell?_of_block (by rw [add_block]; exact hb.block _ h1 n1 n2)).trans h2⟩
theorem reads_row {W : World} {base : Nat} {A : Option Addr} {n c : Nat} {xs : List Int} (h : W.ownsRow base 3 1 (.slice A n c) xs.length (xs.map (Value.int .i64))) : ReadsI W A xs ∧ (∀ ad, A = some ad → base ≤ ad.block ∧ ad.block < W.heap.size) ∧ n = xs.length ∧ n ≤ c := by
  rcases h.2 with ⟨h1, h0⟩ | ⟨g, cap, cur, hv, hb, hg, hc, _⟩
  · simp at h1
    obtain ⟨rfl, rfl, rfl⟩ := h1
    refine ⟨fun j x hx => ?_, (fun ad h => by cases h), h0.symm, Nat.le_refl _⟩
    have := (List.getElem?_eq_some_iff.1 hx).1
    omega
  · injection hv with e1 e2 e3
    subst e1
    have hl : g < W.heap.size := (Array.getElem?_eq_some_iff.1 hg).1
    refine ⟨fun j x hx => ⟨_, rfl, hl, ?_⟩, (fun ad h => by obtain rfl := Option.some.inj h; exact ⟨hb, hl⟩), e2, by omega⟩
    rw [Addr.add_lit, Nat.zero_add]
    subst e2
    have hj := (List.getElem?_eq_some_iff.1 hx).1
    rw [h.cellAt j (by omega)]
    simp [hx]

set_option maxRecDepth 100000 in
set_option maxHeartbeats 4000000 in
theorem ints_calls (A0 A1 : Option Addr) (c0 c1 : Nat) (xs ys : List Int) (W : World) (h0 : ReadsI W A0 xs) (h1 : ReadsI W A1 ys) (l0 : xs.length ≤ 4611686018427387904) (k0 : xs.length ≤ c0) (k1 : ys.length ≤ c1) :
    Calls Try.prog 18 #[.slice A0 xs.length c0, .slice A1 ys.length c1] W fun e W' => e = .returned (.bool (decide (xs = ys))) ∧ Below W.heap.size W W' := by
  have h0' := Lib.hid h0
  have h1' := Lib.hid h1
  clear h0 h1
  by_cases hl : xs.length = ys.length
  · have hl2 : ¬ (xs.length : Int) ≠ (ys.length : Int) := by omega
    have hlen := Lib.hid hl
    rw [← hl]
    rw [← hl] at k1
    clear hl hl2
    go_enter Try.func18, Try.ntmps18
    go_wp2
    go_loopw [13] (fun iv wr => ∃ (i : Nat), iv = .int .i64 (i : Int) ∧ i ≤ xs.length ∧ xs.take i = ys.take i ∧ Below W.heap.size W wr)
      (fun iv _ => xs.length - (intOf iv).toNat)
    case atStart => exact ⟨0, rfl, Nat.zero_le _, rfl, Below.refl _ _⟩
    case round =>
      obtain ⟨i, rfl, hi, htk, hbel⟩ := hrel
      have hbel' := Lib.hid hbel
      have htk' := Lib.hid htk
      by_cases hlt : i < xs.length
      · obtain ⟨x, hx⟩ : ∃ x, xs[i]? = some x := ⟨xs[i], List.getElem?_eq_getElem hlt⟩
        obtain ⟨y, hy⟩ : ∃ y, ys[i]? = some y := ⟨ys[i]'(by have := hlen.out; omega), List.getElem?_eq_getElem _⟩
        obtain ⟨a0, rfl, _, q0⟩ := h0'.out.below hbel i x hx
        obtain ⟨a1, rfl, _, q1⟩ := h1'.out.below hbel i y hy
        have hx' := Lib.hid hx
        have hy' := Lib.hid hy
        clear hbel htk hx hy
        by_cases he : x = y
        · subst he
          go_wp2
          go_quiet (fail)
          go_wp2
          go_roundw
          case rel =>
            refine ⟨i + 1, by go_num, by omega, ?_, by first | exact hbel'.out | exact hbel'.out.drew | exact pw_below_drewN hbel'.out _⟩
            rw [List.take_add_one, List.take_add_one, hx'.out, hy'.out, htk'.out]
          case measure => simp [intOf]; omega
        · have hr := Lib.hid (show decide (xs = ys) = false from decide_eq_false (fun e => he (by have h9 := hx'.out; rw [e, hy'.out] at h9; exact (Option.some.inj h9).symm)))
          have he2 : (x == y) = false := beq_eq_false_iff_ne.mpr he
          go_wp2
          go_quiet (fail)
          go_wp2
          go_ret
          exact ⟨by rw [hr.out]; rfl, by first | exact hbel'.out | exact hbel'.out.drew | exact pw_below_drewN hbel'.out _⟩
      · have hi' : i = xs.length := by omega
        subst hi'
        have hr := Lib.hid (show decide (xs = ys) = true from decide_eq_true (by
          have := htk'.out
          rw [List.take_of_length_le (Nat.le_refl _), List.take_of_length_le (by have := hlen.out; omega)] at this
          exact this))
        clear hbel htk
        go_wp2
        go_ret
        exact ⟨by rw [hr.out]; rfl, hbel'.out⟩
  · have hr := Lib.hid (show decide (xs = ys) = false from decide_eq_false (fun e => hl (by rw [e])))
    have hl2 : ¬ (xs.length : Int) = (ys.length : Int) := by omega
    clear hl
    go_enter Try.func18, Try.ntmps18
    go_wp2
    go_ret
    exact ⟨by rw [hr.out]; rfl, Below.refl _ _⟩
end Go.Proofs.Ytkcmmghhghgdpaa.Str
