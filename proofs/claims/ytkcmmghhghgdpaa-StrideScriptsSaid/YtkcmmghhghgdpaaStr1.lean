/- (*Group).first, (*Group).level, Client.stride: their contracts. -/
import Derived.Test.YtkcmmghhghgdpaaGrp0
import Derived.Test.YtkcmmghhghgdpaaParts
import Derived.Test.YtkcmmghhghgdpaaReg
import Derived.Test.YtkcmmghhghgdpaaWMore
import Derived.LoopTactic
import Derived.IntWalk
import Derived.Lib.Hide
namespace Go.Proofs.Ytkcmmghhghgdpaa.Str
open Go.RowKit Go.Shelf Go.Maps Go.Proofs.Ytkcmmghhghgdpaa.Iter Go.Proofs.YtkcmmghhghgdpaaW.PrintWords Go.Proofs.YtkcmmghhghgdpaaW.PrintLast
set_option linter.unusedVariables false
set_option linter.unusedSimpArgs false
abbrev tG : Nat := 100
abbrev tC : Nat := 44
abbrev ptrG (G : Nat) : Value := .pointer (some ⟨G, 0, none⟩)
abbrev encC (c : Cl) : Value := .agg #[.int .i64 c.id, .int .i64 c.t, .int .i64 c.p]
theorem grp_below {B G : Nat} {v : Value} {l : List Cl} {W W' : World} (h : Grp tG tC B G v l W) (hb : Below W.heap.size W W') : Grp tG tC B G v l W' :=
  h.move (hb.block G h.lt) (fun k hk => hb.block k (own_block h.row hk).2.1)

set_option maxRecDepth 100000 in
set_option maxHeartbeats 4000000 in
theorem stride_calls (c : Cl) (W : World) (h1 : 1 ≤ c.t) (h2 : c.t ≤ 16) : Calls Try.prog 79 #[encC c] W fun e W' => e = .returned (.int .i64 (sd c.t)) ∧ W' = W.alloc (.cells #[.int .i64 c.id, .int .i64 c.t, .int .i64 c.p] 44) := by
  have hq : Int.tdiv 720720 c.t = sd c.t := by unfold sd; exact Int.tdiv_eq_ediv_of_nonneg (by omega)
  have hne : (c.t == 0) = false := beq_eq_false_iff_ne.mpr (by omega)
  have hw : IntKind.i64.wrap (sd c.t) = sd c.t := IntWalk.i64_in _ (by have := sd_nonneg h1 h2; omega)
  have h0 : ¬ c.t = 0 := by omega
  go_enter Try.func79, Try.ntmps79
  go_wp2
  go_ret
  exact ⟨rfl, rfl⟩

set_option maxRecDepth 100000 in
set_option maxHeartbeats 4000000 in
theorem first_calls (B G g cap : Nat) (l : List Cl) (W : World) (hn : l ≠ []) (hlen : l.length ≤ 1024) (hg : Grp tG tC B G (.slice (some ⟨g, 0, none⟩) l.length cap) l W) :
    Calls Try.prog 77 #[ptrG G] W fun e W' => e = .returned (.int .i64 (firstL l : Int)) ∧ Below W.heap.size W W' := by
  have hpos : 0 < l.length := by cases l with | nil => exact absurd rfl hn | cons => simp
  have g0 := hg.cellG
  have hg' := Lib.hid hg
  clear hg
  go_enter Try.func77, Try.ntmps77
  go_wp2
  go_loopw [3, 11] (fun bv iv wr => ∃ (best i : Nat), bv = .int .i64 (best : Int) ∧ iv = .int .i64 (i : Int) ∧ i ≤ l.length ∧ best < l.length ∧ firstL l = firstFrom l best i (l.drop i) ∧ Below W.heap.size W wr)
    (fun _ iv _ => l.length - (intOf iv).toNat)
  case atStart => exact ⟨0, 0, rfl, rfl, Nat.zero_le _, hpos, rfl, Below.refl _ _⟩
  case round =>
    obtain ⟨best, i, rfl, rfl, hi, hb, hF, hbel⟩ := hrel
    clear g0
    have hF' := Lib.hid hF
    have hbel' := Lib.hid hbel
    clear hF hbel
    by_cases hlt : i < l.length
    · obtain ⟨c, hc⟩ : ∃ c, l[i]? = some c := ⟨l[i], List.getElem?_eq_getElem hlt⟩
      obtain ⟨d, hd⟩ : ∃ d, l[best]? = some d := ⟨l[best], List.getElem?_eq_getElem hb⟩
      have hgr := grp_below hg'.out hbel'.out
      obtain ⟨q0, q1, q2⟩ := hgr.cellR hc
      have hga := hgr.alloc (.cells #[.int .i64 c.id, .int .i64 c.t, .int .i64 c.p] 44)
      have z0 := hga.cellG
      obtain ⟨_, _, z2⟩ := hga.cellR hd
      have bC := Blk.new wr 44 #[.int .i64 c.id, .int .i64 c.t, .int .i64 c.p]
      have c2 := bC.cell 2
      simp only [List.getElem?_toArray, List.getElem?_cons_zero, List.getElem?_cons_succ] at c2
      have hst : firstL l = firstFrom l (if c.p < d.p then i else best) (i + 1) (l.drop (i + 1)) := by
        rw [hF'.out, firstFrom_drop l best i hlt]
        unfold fstep
        rw [show l.getD i ⟨0, 0, 0⟩ = c by simp [hc], show l.getD best ⟨0, 0, 0⟩ = d by simp [hd]]
      have hst' := Lib.hid hst
      have hL := Lib.hid (hbel'.out.alloc hbel'.out.size (.cells #[.int .i64 c.id, .int .i64 c.t, .int .i64 c.p] 44))
      clear hst hgr hga bC hc hd
      by_cases hp : c.p < d.p
      · have x1 : decide (c.p < d.p) = true := decide_eq_true hp
        go_wp2
        go_quiet (fail)
        go_wp2
        go_roundw
        case rel => exact ⟨i, i + 1, by first | rfl | go_num, by go_num, by omega, by omega, by rw [hst'.out, if_pos hp], by first | exact hL.out | exact hL.out.drew | exact pw_below_drewN hL.out _⟩
        case measure => simp [intOf]; omega
      · have x1 : decide (c.p < d.p) = false := decide_eq_false hp
        go_wp2
        go_quiet (fail)
        go_wp2
        go_roundw
        case rel => exact ⟨best, i + 1, by first | rfl | go_num, by go_num, by omega, by omega, by rw [hst'.out, if_neg (by omega)], by first | exact hL.out | exact hL.out.drew | exact pw_below_drewN hL.out _⟩
        case measure => simp [intOf]; omega
    · have hi' : i = l.length := by omega
      subst hi'
      have hf : firstL l = best := by rw [hF'.out, List.drop_of_length_le (Nat.le_refl _)]; rfl
      have hf' := Lib.hid hf
      clear hf
      go_wp2
      go_ret
      exact ⟨by rw [hf'.out]; rfl, hbel'.out⟩
end Go.Proofs.Ytkcmmghhghgdpaa.Str
