/- The document's Pick (furlongref09): its contract. -/
import Derived.Test.YtkcmmghhghgdpaaStr23
import Derived.Deep.RegionLaw
import Derived.Deep.AppendLies
namespace Go.Proofs.Ytkcmmghhghgdpaa.Str
open Go.RowKit Go.Shelf Go.Maps Go.Proofs.Ytkcmmghhghgdpaa.Iter Go.Proofs.Ytkcmmghhghgdpaa.SeqM Go.Proofs.YtkcmmghhghgdpaaW.PrintWords Go.Proofs.YtkcmmghhghgdpaaW.PrintLast
set_option linter.unusedVariables false
set_option linter.unusedSimpArgs false
theorem levelR_calls2 (B : Nat) (A : Option Addr) (c0 n : Nat) (l : List Cl) (W : World) (hn : n = l.length) (hlen : l.length ≤ 3000) (hb : ∀ c ∈ l, 0 ≤ c.p ∧ c.p ≤ 1500000) (hr : W.ownsRow B tR 3 (.slice A n c0) n (flat l)) :
    Calls Try.prog 83 #[.slice A n c0] W fun e W' => ∃ u, e = .returned u ∧ W'.ownsRow W.heap.size tR 3 u l.length (flat (levelL l)) ∧ Below W.heap.size W W' := by
  subst hn
  exact levelR_calls B A c0 l W hlen hb hr
theorem own_some {W : World} {base e size n : Nat} {v : Value} {xs : List Value} (h : W.ownsRow base e size v n xs) (hn : 0 < n) : ∃ g c, v = .slice (some ⟨g, 0, none⟩) n c := by
  rcases h.2 with ⟨_, h0⟩ | ⟨g, cap, cur, rfl, _⟩
  · omega
  · exact ⟨g, cap, rfl⟩
/-- A copy of a row: append([]Client{}, l...). -/
theorem run_copy_row0 {w : World} {g cap : Nat} {l : List Cl} (hr : w.ownsRow 0 tR 3 (.slice (some ⟨g, 0, none⟩) l.length cap) l.length (flat l)) (hl : l.length ≤ 2000) :
    ∃ v' w', (Builtin.append_ #[slR, slR] slR #[.slice (some ⟨w.heap.size, 0, none⟩) 0 0, .slice (some ⟨g, 0, none⟩) l.length cap]).run Try.prog (w.alloc (.cells #[] tR)) = .ok v' w' ∧ w'.ownsRow w.heap.size tR 3 v' l.length (flat l) ∧ (w.alloc (.cells #[] tR)).grownBy w' (some w.heap.size) := by
  obtain ⟨i0, hif, hz0, hz1, hz2⟩ := info_parts infoR
  have hd := (hr.alloc (.cells #[] tR)).cells (g := g) rfl
  obtain ⟨v', w', h1, h2, h3, _⟩ := run_append_own2 (P := Try.prog) (w.alloc (.cells #[] tR)) w.heap.size slR slR tR i0 (.agg #[.int .i64 0, .int .i64 0, .int .i64 0]) 3 24 Try.underlying33 hif hz0 hz1 hz2 rfl (by decide)
    (.slice (some ⟨w.heap.size, 0, none⟩) 0 0) 0 [] (World.ownsRow_made w #[] 0 (Nat.le_refl _) (Nat.zero_le _) (by simp)) ⟨g, 0, none⟩ l.length cap (flat l) (flat_len l) hd (flat_one l) (by unfold maxLen; omega) (by omega) (by simp)
  refine ⟨v', w', h1, ?_, h3⟩
  rw [Nat.zero_add] at h2
  exact h2

set_option maxRecDepth 100000 in
set_option maxHeartbeats 8000000 in
theorem pickD_calls (A : Option Addr) (c0 : Nat) (l : List Cl) (W : World) (hgood : GoodG l) (hr : RowR W (.slice A l.length c0) l) :
    Calls Try.prog 51 #[.slice A l.length c0] W fun e W' => ∃ u, e = .returned (.tuple #[u, .int .i64 (pickR l).2.1, .int .i64 (pickR l).2.2]) ∧ RowR W' u (pickR l).1 ∧ Below W.heap.size W W' := by
  have hln := good_len hgood
  have hr' := Lib.hid hr
  have hrd := Lib.hid hr.reads
  by_cases hemp : l = []
  · have hl0 : (l.length : Int) = 0 := by rw [hemp]; rfl
    have hj := Lib.hid (show pickR l = (l, 0, 8) from if_pos hemp)
    clear hemp hgood hr
    go_enter Try.func51, Try.ntmps51
    go_wp2
    go_ret3
    exact ⟨_, by rw [hj.out]; rfl, by rw [hj.out]; exact hr'.out, Below.refl _ _⟩
  · have hpos : 0 < l.length := by cases l with | nil => exact absurd rfl hemp | cons => simp
    have hl0 : ((l.length : Int) == 0) = false := beq_eq_false_iff_ne.mpr (by omega)
    have hj := Lib.hid (show pickR l = ((pickL l).1, (pickL l).2, 0) from if_neg hemp)
    have hbb := Lib.hid (bump_bound hgood (firstL l))
    have hok := Lib.hid hgood.1.1
    clear hemp hgood hr
    go_enter Try.func51, Try.ntmps51
    go_wp2
    go_loopw [5, 15] (fun bv iv wr => ∃ (best i : Nat), bv = .int .i64 (best : Int) ∧ iv = .int .i64 (i : Int) ∧ i ≤ l.length ∧ best < l.length ∧ firstL l = firstFrom l best i (l.drop i) ∧ Below W.heap.size W wr)
      (fun _ iv _ => l.length - (intOf iv).toNat)
    case atStart => exact ⟨0, 0, rfl, rfl, Nat.zero_le _, hpos, rfl, Below.refl _ _⟩
    case round =>
      obtain ⟨best, i, rfl, rfl, hi, hb, hF, hbel⟩ := hrel
      have hF' := Lib.hid hF
      clear hF
      by_cases hlt : i < l.length
      · obtain ⟨c, hc⟩ : ∃ c, l[i]? = some c := ⟨l[i], List.getElem?_eq_getElem hlt⟩
        obtain ⟨d, hd⟩ : ∃ d, l[best]? = some d := ⟨l[best], List.getElem?_eq_getElem hb⟩
        have hb2 := Lib.hid (hbel.alloc hbel.size (.cells #[.int .i64 c.id, .int .i64 c.t, .int .i64 c.p] tR))
        obtain ⟨g, rfl, _, q0, q1, q2⟩ := (hrd.out.below hbel) i c hc
        obtain ⟨g2, hg2, _, _, _, z2⟩ := (hrd.out.below hb2.out) best d hd
        injection hg2 with hg2
        injection hg2 with hg2
        subst hg2
        have bC := Blk.new wr tR #[.int .i64 c.id, .int .i64 c.t, .int .i64 c.p]
        have c2 := bC.cell 2
        simp only [List.getElem?_toArray, List.getElem?_cons_zero, List.getElem?_cons_succ] at c2
        have hst := firstFrom_drop l best i hlt
        unfold fstep at hst
        rw [show l.getD i ⟨0, 0, 0⟩ = c by simp [hc], show l.getD best ⟨0, 0, 0⟩ = d by simp [hd]] at hst
        have hst' := Lib.hid (hF'.out.trans hst)
        clear hst bC hc hd hbel
        by_cases hp : c.p < d.p
        · have x1 : decide (c.p < d.p) = true := decide_eq_true hp
          go_wp2
          go_quiet (fail)
          go_wp2
          go_roundw
          case rel => exact ⟨i, i + 1, by first | rfl | go_num, by go_num, by omega, by omega, by rw [hst'.out, if_pos hp], by first | exact hb2.out | exact hb2.out.drew | exact pw_below_drewN hb2.out _⟩
          case measure => simp [intOf]; omega
        · have x1 : decide (c.p < d.p) = false := decide_eq_false hp
          go_wp2
          go_quiet (fail)
          go_wp2
          go_roundw
          case rel => exact ⟨best, i + 1, by first | rfl | go_num, by go_num, by omega, by omega, by rw [hst'.out, if_neg (by omega)], by first | exact hb2.out | exact hb2.out.drew | exact pw_below_drewN hb2.out _⟩
          case measure => simp [intOf]; omega
      · have hi' : i = l.length := by omega
        subst hi'
        have hf : firstL l = best := by rw [hF'.out, List.drop_of_length_le (Nat.le_refl _)]; rfl
        clear hF'
        obtain ⟨d, hd⟩ : ∃ d, l[best]? = some d := ⟨l[best], List.getElem?_eq_getElem hb⟩
        obtain ⟨g, rfl, _, q0, q1, q2⟩ := (hrd.out.below hbel) best d hd
        have hrw := hr'.out.below hbel
        obtain ⟨v9, w9, hrun9, hown9, hgr9⟩ := run_copy_row0 hrw (by omega)
        have hb9 := Lib.hid (below_grown (hbel.alloc hbel.size (.cells #[] tR)) hgr9 (Nat.le_refl _) (fun k hk => by injection hk with hk; have := hbel.size; omega))
        obtain ⟨mg, mc, rfl⟩ := own_some hown9 hpos
        have hpk := Lib.hid (show pickL l = (levelL (l.modify best bump), d.id) by
          unfold pickL
          rw [hf, show l.getD best ⟨0, 0, 0⟩ = d by simp [hd]])
        have hbb := Lib.hid (show ∀ c ∈ l.modify best bump, 0 ≤ c.p ∧ c.p ≤ 1500000 by rw [← hf]; exact hbb.out)
        obtain ⟨k1, k2, k3, k4⟩ := hok.out d (List.mem_of_getElem? hd)
        have hsd := sd_nonneg k1 k2
        have hw : IntKind.i64.wrap (d.p + sd d.t) = d.p + sd d.t := IntWalk.i64_in _ (by omega)
        have p1 := hown9.cellAt (best * 3 + 1) (by omega)
        rw [flat_get l best 1 d (by omega) hd] at p1
        have p2 := hown9.cellAt (best * 3 + 2) (by omega)
        rw [flat_get l best 2 d (by omega) hd] at p2
        simp only [cC, List.getElem?_cons_zero, List.getElem?_cons_succ] at p1 p2
        have f2 := hown9.frozenAt (best * 3 + 2)
        have hstored := (hown9.stored (best * 3 + 2) (.int .i64 (d.p + sd d.t))).1
        rw [flat_setP, modify_bump l best d hd] at hstored
        have hst' := Lib.hid hstored
        have hbs := Lib.hid (hb9.out.setCell (p := ⟨mg, best * 3 + 2, none⟩) (by have := (own_block hown9 (k := mg) rfl).1; have := hbel.size; simp; omega) (.int .i64 (d.p + sd d.t)))
        have hrd9 := Lib.hid (hrd.out.below hbs.out)
        obtain ⟨g2, hg2, _, r0, _, _⟩ := hrd9.out best d hd
        injection hg2 with hg2
        injection hg2 with hg2
        subst hg2
        have hgl := World.block_lt_of_cell? _ _ r0
        have hll : (l.modify best bump).length = l.length := List.length_modify ..
        have hl3 : (l.modify best bump).length ≤ 3000 := by omega
        clear hf hd hrw hown9 hgr9 hbel hstored
        go_upto_region 11 with (at_builtin; refine wpList_append_run _ rfl _ _ _ _ rfl _ _ rfl rfl hrun9 ?_)
        go_wp2_with fail
        go_region_law (first | (go_simp; go_at_call 82; refine (sdR_calls d.t _ k1 k2).mono ?_; rintro e w2 ⟨rfl, rfl⟩))
        all_goals (
          go_wp2
          go_region_held3 (fun w' => w'.cell? ⟨g, best * 3, none⟩ = some (.int .i64 d.id)) (first | go_keep | exact (b10.cell (p := ⟨g, best * 3, none⟩) (by simpa using hgl)).trans (by assumption))
            (first | (go_at_call 83; refine (levelR_calls2 wr.heap.size (some ⟨mg, 0, none⟩) mc l.length (l.modify best bump) _ hll.symm hl3 hbb.out (by exact hst'.out)).mono ?_; rintro e w10 ⟨u, rfl, u10, b10⟩))
          go_wp2
          go_ret3
          refine ⟨_, by rw [hj.out, hpk.out]; rfl, ?_, ?_⟩
          · rw [hj.out, hpk.out]
            show World.ownsRow _ _ _ _ _ _ _
            rw [level_len]
            exact own_lower u10 (Nat.zero_le _)
          · exact hbs.out.trans ((below_drew (below_drew b10)).mono hbs.out.size))
end Go.Proofs.Ytkcmmghhghgdpaa.Str
