/- What the law PlaceApart needs of the seat's contracts and plain laws, several texts one behind the other; no conditions. -/
import Derived.Test.YtkbcjagkacijnaaSPlaceApart0
import Derived.LoopTactic
import Derived.IntWalk
section
-- Written for this claim by this project's own driver over the kit's print: functions and their contracts.
namespace Go.Proofs.Ytkbcjagkacijnaa.PPl
open Go.RowKit Go.Proofs.YtkbcjagkacijnaaW.PrintWords Go.Proofs.YtkbcjagkacijnaaW.PrintLast Go.Proofs.YtkbcjagkacijnaaW.PrintMore
attribute [local go_sem] max2_int min2_int max_two min_two max_three min_three max_four min_four   -- for this text's walks alone
set_option linter.unusedVariables false
set_option linter.unusedSimpArgs false

def furlongref07_Node.l0 : Nat → Int → List (S46) → Int → Int → Option (Int × Int × Int × Int × Int × Bool)
  | 0, _, _, _, _ => none
  | k + 1, x1, x8, x9, x10 => if x10 < x9 then (if 0 ≤ x10 then (if x10 < (x8.length : Int) then (if ((rd_T46 x8 x10).f0) = x1 then (some ((rd_T46 x8 x10).f0, (rd_T46 x8 x10).f1, (rd_T46 x8 x10).f2, (rd_T46 x8 x10).f3, (rd_T46 x8 x10).f4, true)) else (furlongref07_Node.l0 k x1 x8 x9 (wrap64 (x10 + 1)))) else (none)) else (none)) else (some (0, 0, 0, 0, 0, false))
def furlongref07_Node.f (k : Nat) (l0 : List (S46)) (a1 : Int) : Option (Int × Int × Int × Int × Int × Bool) := furlongref07_Node.l0 k a1 l0 (l0.length : Int) 0
theorem furlongref07_Node.mono_l : ∀ k, (∀ y0 y1 y2 y3, LeO (furlongref07_Node.l0 k y0 y1 y2 y3) (furlongref07_Node.l0 (k + 1) y0 y1 y2 y3))
  | 0 => fun _ _ _ _ r h => by simp [furlongref07_Node.l0] at h
  | k + 1 => by
    have ih0 := furlongref07_Node.mono_l k
    · intro y0 y1 y2 y3
      unfold furlongref07_Node.l0
      repeat' first
      | (with_reducible exact ih0 _ _ _ _)
      | (with_reducible exact LeO.refl _)
      | (with_reducible exact LeO.none _)
      | (with_reducible refine LeO.ite ?_ ?_)
      | (with_reducible refine LeO.bind ?_ (fun _ => ?_))
      | exact ih0 _ _ _ _
      | exact LeO.none _
      | refine LeO.ite ?_ ?_
      | refine LeO.bind ?_ (fun _ => ?_)
theorem furlongref07_Node.mono : ∀ a0 a1 k, LeO (furlongref07_Node.f k a0 a1) (furlongref07_Node.f (k + 1) a0 a1) := by
  intro a0 a1 k
  have ih0 := furlongref07_Node.mono_l k
  unfold furlongref07_Node.f
  repeat' first
      | (with_reducible exact ih0 _ _ _ _)
      | (with_reducible exact LeO.refl _)
      | (with_reducible exact LeO.none _)
      | (with_reducible refine LeO.ite ?_ ?_)
      | (with_reducible refine LeO.bind ?_ (fun _ => ?_))
      | exact ih0 _ _ _ _
      | exact LeO.none _
      | refine LeO.ite ?_ ?_
      | refine LeO.bind ?_ (fun _ => ?_)
set_option maxHeartbeats 8000000 in
set_option maxRecDepth 100000 in
theorem furlongref07_Node.calls (k : Nat) (A0 : Option Addr) (c0 : Nat) (l0 : List (S46)) (a1 : Int) (r1 : Int) (r2 : Int) (r3 : Int) (r4 : Int) (r5 : Int) (r6 : Bool) (w : World) (hr0 : Kd.C k46 w A0 l0.length l0) (hc0 : l0.length ≤ c0) (h : furlongref07_Node.f k l0 a1 = some (r1, r2, r3, r4, r5, r6)) :
    Calls Try.prog 95 #[.slice A0 l0.length c0, .int .i64 a1] w fun e w' => e = .returned (.tuple #[.agg #[.int .i64 r1, .int .i64 r2, .int .i64 r3, .int .i64 r4, .int .i64 r5], .bool r6]) ∧ Below w.heap.size w w' := by
  have hu46 := Try.underlying46
  have HR0 := Aside0.mk hr0
  have HC0 := Aside0.mk hc0
  clear hr0 hc0
  have HB := Aside0.mk (Below.refl w.heap.size w)
  have H : (furlongref07_Node.l0 k a1 l0 (l0.length : Int) 0) = some (r1, r2, r3, r4, r5, r6) := h
  clear h
  have H' := Aside0.mk H
  clear H
  go_enter Try.func95, Try.ntmps95
  go_wp2_with (first | ((with_reducible refine gate_dst (N := 4) rfl ?_); refine box_event ?hg (N := 4) ?hd (cs := #[.int .i64 0, .int .i64 0, .int .i64 0, .int .i64 0, .int .i64 0]) (t := 46) ?hr ?_; (case hd => rfl); (case hg => rfl); (case hr => first | (go_simp; done) | (go_simp; rfl)); intro gb232 hg w3 hbox hb; have n0_ := Aside0.mk (below_step (by repeat (first | (with_reducible first | exact HB.out | apply below_alloc | apply pw_below_drewN | apply below_drew1) | exact HB.out)) hb); have n1_ := Aside0.mk (hbox); have n2_ := Aside0.mk ((by rw [hg]; exact (below_size (by repeat (first | (with_reducible first | exact HB.out | apply below_alloc | apply pw_below_drewN | apply below_drew1) | exact HB.out))) : w.heap.size ≤ gb232)); have n3_ := Aside0.mk ((by rw [hg]; exact (below_size (by repeat (first | (with_reducible first | exact HB.out | apply below_alloc | apply pw_below_drewN | apply below_drew1) | exact HB.out))) : w.heap.size ≤ gb232)); clear HB; have HB := n0_; have BK232 := n1_; have GW232 := n2_; have GE232 := n3_; clear n0_ n1_ n2_ n3_; clear hb hbox hg))
  go_loopg [10] k (fun kq v10 w' => ∃ (x10_1 : Int) (x233000_1 : Int) (x233001_1 : Int) (x233002_1 : Int) (x233003_1 : Int) (x233004_1 : Int), v10 = .int .i64 x10_1 ∧ Aside0 (furlongref07_Node.l0 kq a1 l0 (l0.length : Int) x10_1 = some (r1, r2, r3, r4, r5, r6)) ∧ Aside0 (kq ≤ k) ∧ Aside0 (w'.heap[gb232]? = some (.cells #[.int .i64 x233000_1, .int .i64 x233001_1, .int .i64 x233002_1, .int .i64 x233003_1, .int .i64 x233004_1] 46 (0, 0))) ∧ Aside0 (Below w.heap.size w w'))
  case atStart => exact ⟨(0), (0), (0), (0), (0), (0), (by first | rfl | (simp; done) | (simp [*]; done)), H', ⟨Nat.le_refl _⟩, ⟨by (with_reducible repeat (first | refine blk_drewN ?_ _ | refine blk_drew ?_ | refine blk_alloc ?_ _)); exact BK232.out⟩, ⟨by repeat (first | (with_reducible first | exact HB.out | apply below_alloc | apply pw_below_drewN | apply below_drew1 | refine below_set ?_ GE232.out) | exact HB.out)⟩⟩
  case round =>
    clear H'
    try clear p2
    obtain ⟨x10_1, x233000_1, x233001_1, x233002_1, x233003_1, x233004_1, rfl, HA, HK1, BK232, HB⟩ := hrel
    cases gk with
    | zero => exact absurd HA.out (by simp [furlongref07_Node.l0])
    | succ k1 =>
      have H := HA.out
      clear HA
      simp only [furlongref07_Node.l0] at H
      by_cases c4 : x10_1 < (l0.length : Int)
      · rw [if_pos c4] at H
        have c4b0 : decide (x10_1 < (l0.length : Int)) = true := decide_eq_true c4
        clear c4
        by_cases c5 : 0 ≤ x10_1
        · rw [if_pos c5] at H
          have c5b0 : decide (0 ≤ x10_1) = true := decide_eq_true c5
          clear c5
          by_cases c6 : x10_1 < (l0.length : Int)
          · rw [if_pos c6] at H
            have c6b0 : decide (x10_1 < (l0.length : Int)) = true := decide_eq_true c6
            clear c6
            by_cases c7 : ((rd_T46 l0 x10_1).f0) = a1
            · rw [if_pos c7] at H
              have c7b0 : (((rd_T46 l0 x10_1).f0) == a1) = true := beq_iff_eq.mpr c7
              have c7b1 : (((rd_T46 l0 x10_1).f0) != a1) = false := bne_eq_false_iff_eq.mpr c7
              clear c7
              simp only [Option.some.injEq, Prod.mk.injEq] at H
              obtain ⟨rfl, rfl, rfl, rfl, rfl, rfl⟩ := H
              have p233 : 0 ≤ (x10_1 : Int) := of_decide_eq_true (by first | (with_reducible assumption) | assumption)
              have q233 : x10_1 < (l0.length : Int) := of_decide_eq_true (by first | (with_reducible assumption) | assumption)
              obtain ⟨ad233, e233, hx233_0, hx233_1, hx233_2, hx233_3, hx233_4⟩ := at_T46 HR0.out x10_1 p233 q233
              cases e233
              (try (replace hx233_0 := (HB.out.cell (World.block_lt_of_cell? w _ hx233_0)).trans hx233_0))
              (try (replace hx233_1 := (HB.out.cell (World.block_lt_of_cell? w _ hx233_1)).trans hx233_1))
              (try (replace hx233_2 := (HB.out.cell (World.block_lt_of_cell? w _ hx233_2)).trans hx233_2))
              (try (replace hx233_3 := (HB.out.cell (World.block_lt_of_cell? w _ hx233_3)).trans hx233_3))
              (try (replace hx233_4 := (HB.out.cell (World.block_lt_of_cell? w _ hx233_4)).trans hx233_4))
              replace p233 := eq_true p233
              replace q233 := eq_true q233
              go_wp2_with (first | ((with_reducible refine gate_dst (N := 7) rfl ?_); refine box_event ?hg (N := 7) ?hd (cs := #[.int .i64 0, .int .i64 0, .int .i64 0, .int .i64 0, .int .i64 0]) (t := 46) ?hr ?_; (case hd => rfl); (case hg => rfl); (case hr => first | (go_simp; done) | (go_simp; rfl)); intro gb234 hg w8 hbox hb; have n0_ := Aside0.mk (blk_below (g := gb232) (o := .cells #[.int .i64 x233000_1, .int .i64 x233001_1, .int .i64 x233002_1, .int .i64 x233003_1, .int .i64 x233004_1] 46 (0, 0)) (by (with_reducible repeat (first | refine blk_drewN ?_ _ | refine blk_drew ?_ | refine blk_alloc ?_ _)); exact BK232.out) hb); have n1_ := Aside0.mk (below_step (by repeat (first | (with_reducible first | exact HB.out | apply below_alloc | apply pw_below_drewN | apply below_drew1 | refine below_set ?_ GE232.out) | exact HB.out)) hb); have n2_ := Aside0.mk (hbox); have n3_ := Aside0.mk ((by rw [hg]; exact (below_size (by repeat (first | (with_reducible first | exact HB.out | apply below_alloc | apply pw_below_drewN | apply below_drew1 | refine below_set ?_ GE232.out) | exact HB.out))) : w.heap.size ≤ gb234)); have n4_ := Aside0.mk ((by rw [hg]; exact (below_size (by repeat (first | (with_reducible first | exact HB.out | apply below_alloc | apply pw_below_drewN | apply below_drew1 | refine below_set ?_ GE232.out) | exact HB.out))) : w.heap.size ≤ gb234)); have n5_ := Aside0.mk ((by rw [hg]; exact Nat.ne_of_lt (blk_lt (g := gb232) (o := .cells #[.int .i64 x233000_1, .int .i64 x233001_1, .int .i64 x233002_1, .int .i64 x233003_1, .int .i64 x233004_1] 46 (0, 0)) (by (with_reducible repeat (first | refine blk_drewN ?_ _ | refine blk_drew ?_ | refine blk_alloc ?_ _)); exact BK232.out)) : gb232 ≠ gb234)); have n6_ := Aside0.mk ((by rw [hg]; exact Nat.ne_of_gt (blk_lt (g := gb232) (o := .cells #[.int .i64 x233000_1, .int .i64 x233001_1, .int .i64 x233002_1, .int .i64 x233003_1, .int .i64 x233004_1] 46 (0, 0)) (by (with_reducible repeat (first | refine blk_drewN ?_ _ | refine blk_drew ?_ | refine blk_alloc ?_ _)); exact BK232.out)) : gb234 ≠ gb232)); clear BK232; clear HB; have BK232 := n0_; have HB := n1_; have BK234 := n2_; have GW234 := n3_; have GE234 := n4_; have NB232_234 := n5_; have NB234_232 := n6_; clear n0_ n1_ n2_ n3_ n4_ n5_ n6_; clear hb hbox hg; have hnb9 := NB234_232.out; have hnc9 := NB232_234.out; have hcz10_0 : w8.cell? ⟨gb234, 0, none⟩ = some (.int .i64 0) := (blk_cell BK234.out 0).trans rfl; have hcz10_1 : w8.cell? ⟨gb234, 1, none⟩ = some (.int .i64 0) := (blk_cell BK234.out 1).trans rfl; have hcz10_2 : w8.cell? ⟨gb234, 2, none⟩ = some (.int .i64 0) := (blk_cell BK234.out 2).trans rfl; have hcz10_3 : w8.cell? ⟨gb234, 3, none⟩ = some (.int .i64 0) := (blk_cell BK234.out 3).trans rfl; have hcz10_4 : w8.cell? ⟨gb234, 4, none⟩ = some (.int .i64 0) := (blk_cell BK234.out 4).trans rfl; have hfz10_0 := blk_frozen BK234.out 0; have hfz10_1 := blk_frozen BK234.out 1; have hfz10_2 := blk_frozen BK234.out 2; have hfz10_3 := blk_frozen BK234.out 3; have hfz10_4 := blk_frozen BK234.out 4; have hcz11_0 : w8.cell? ⟨gb232, 0, none⟩ = some (.int .i64 x233000_1) := (blk_cell BK232.out 0).trans rfl; have hcz11_1 : w8.cell? ⟨gb232, 1, none⟩ = some (.int .i64 x233001_1) := (blk_cell BK232.out 1).trans rfl; have hcz11_2 : w8.cell? ⟨gb232, 2, none⟩ = some (.int .i64 x233002_1) := (blk_cell BK232.out 2).trans rfl; have hcz11_3 : w8.cell? ⟨gb232, 3, none⟩ = some (.int .i64 x233003_1) := (blk_cell BK232.out 3).trans rfl; have hcz11_4 : w8.cell? ⟨gb232, 4, none⟩ = some (.int .i64 x233004_1) := (blk_cell BK232.out 4).trans rfl; have hfz11_0 := blk_frozen BK232.out 0; have hfz11_1 := blk_frozen BK232.out 1; have hfz11_2 := blk_frozen BK232.out 2; have hfz11_3 := blk_frozen BK232.out 3; have hfz11_4 := blk_frozen BK232.out 4))
              refine bodyPost_ret (results_ct rfl _ _ gb232 46 #[.int .i64 ((rd_T46 l0 x10_1).f0), .int .i64 ((rd_T46 l0 x10_1).f1), .int .i64 ((rd_T46 l0 x10_1).f2), .int .i64 ((rd_T46 l0 x10_1).f3), .int .i64 ((rd_T46 l0 x10_1).f4)] (0, 0) _ rfl (by (with_reducible repeat (first | refine blk_drewN ?_ _ | refine blk_drew ?_ | refine blk_alloc ?_ _)); refine blk_put (cs := #[.int .i64 ((rd_T46 l0 x10_1).f0), .int .i64 ((rd_T46 l0 x10_1).f1), .int .i64 ((rd_T46 l0 x10_1).f2), .int .i64 ((rd_T46 l0 x10_1).f3), .int .i64 x233004_1]) ?_ 4 _ rfl; (with_reducible repeat (first | refine blk_drewN ?_ _ | refine blk_drew ?_ | refine blk_alloc ?_ _)); refine blk_put (cs := #[.int .i64 ((rd_T46 l0 x10_1).f0), .int .i64 ((rd_T46 l0 x10_1).f1), .int .i64 ((rd_T46 l0 x10_1).f2), .int .i64 x233003_1, .int .i64 x233004_1]) ?_ 3 _ rfl; (with_reducible repeat (first | refine blk_drewN ?_ _ | refine blk_drew ?_ | refine blk_alloc ?_ _)); refine blk_put (cs := #[.int .i64 ((rd_T46 l0 x10_1).f0), .int .i64 ((rd_T46 l0 x10_1).f1), .int .i64 x233002_1, .int .i64 x233003_1, .int .i64 x233004_1]) ?_ 2 _ rfl; (with_reducible repeat (first | refine blk_drewN ?_ _ | refine blk_drew ?_ | refine blk_alloc ?_ _)); refine blk_put (cs := #[.int .i64 ((rd_T46 l0 x10_1).f0), .int .i64 x233001_1, .int .i64 x233002_1, .int .i64 x233003_1, .int .i64 x233004_1]) ?_ 1 _ rfl; (with_reducible repeat (first | refine blk_drewN ?_ _ | refine blk_drew ?_ | refine blk_alloc ?_ _)); refine blk_put (cs := #[.int .i64 x233000_1, .int .i64 x233001_1, .int .i64 x233002_1, .int .i64 x233003_1, .int .i64 x233004_1]) ?_ 0 _ rfl; (with_reducible repeat (first | refine blk_drewN ?_ _ | refine blk_drew ?_ | refine blk_alloc ?_ _)); refine blk_far ?_ NB232_234.out _; (with_reducible repeat (first | refine blk_drewN ?_ _ | refine blk_drew ?_ | refine blk_alloc ?_ _)); refine blk_far ?_ NB232_234.out _; (with_reducible repeat (first | refine blk_drewN ?_ _ | refine blk_drew ?_ | refine blk_alloc ?_ _)); refine blk_far ?_ NB232_234.out _; (with_reducible repeat (first | refine blk_drewN ?_ _ | refine blk_drew ?_ | refine blk_alloc ?_ _)); refine blk_far ?_ NB232_234.out _; (with_reducible repeat (first | refine blk_drewN ?_ _ | refine blk_drew ?_ | refine blk_alloc ?_ _)); refine blk_far ?_ NB232_234.out _; (with_reducible repeat (first | refine blk_drewN ?_ _ | refine blk_drew ?_ | refine blk_alloc ?_ _)); exact BK232.out) Try.underlying46 rfl (by kernel_rfl)) rfl ?_
              exact ⟨by first | rfl | (simp [errW_none, errW_some] <;> rfl) | (simp [*, errW_none, errW_some] <;> rfl), by repeat (first | (with_reducible first | exact HB.out | apply below_alloc | apply pw_below_drewN | apply below_drew1 | refine below_set ?_ GE232.out | refine below_set ?_ GE234.out) | exact HB.out)⟩
            · rw [if_neg c7] at H
              have c7b0 : (((rd_T46 l0 x10_1).f0) == a1) = false := beq_eq_false_iff_ne.mpr c7
              have c7b1 : (((rd_T46 l0 x10_1).f0) != a1) = true := bne_iff_ne.mpr c7
              have H' := Aside0.mk H
              clear H
              have p233 : 0 ≤ (x10_1 : Int) := of_decide_eq_true (by first | (with_reducible assumption) | assumption)
              have q233 : x10_1 < (l0.length : Int) := of_decide_eq_true (by first | (with_reducible assumption) | assumption)
              obtain ⟨ad233, e233, hx233_0, hx233_1, hx233_2, hx233_3, hx233_4⟩ := at_T46 HR0.out x10_1 p233 q233
              cases e233
              (try (replace hx233_0 := (HB.out.cell (World.block_lt_of_cell? w _ hx233_0)).trans hx233_0))
              (try (replace hx233_1 := (HB.out.cell (World.block_lt_of_cell? w _ hx233_1)).trans hx233_1))
              (try (replace hx233_2 := (HB.out.cell (World.block_lt_of_cell? w _ hx233_2)).trans hx233_2))
              (try (replace hx233_3 := (HB.out.cell (World.block_lt_of_cell? w _ hx233_3)).trans hx233_3))
              (try (replace hx233_4 := (HB.out.cell (World.block_lt_of_cell? w _ hx233_4)).trans hx233_4))
              replace p233 := eq_true p233
              replace q233 := eq_true q233
              go_wp2_with (first | ((with_reducible refine gate_dst (N := 7) rfl ?_); refine box_event ?hg (N := 7) ?hd (cs := #[.int .i64 0, .int .i64 0, .int .i64 0, .int .i64 0, .int .i64 0]) (t := 46) ?hr ?_; (case hd => rfl); (case hg => rfl); (case hr => first | (go_simp; done) | (go_simp; rfl)); intro gb234 hg w12 hbox hb; have n0_ := Aside0.mk (blk_below (g := gb232) (o := .cells #[.int .i64 x233000_1, .int .i64 x233001_1, .int .i64 x233002_1, .int .i64 x233003_1, .int .i64 x233004_1] 46 (0, 0)) (by (with_reducible repeat (first | refine blk_drewN ?_ _ | refine blk_drew ?_ | refine blk_alloc ?_ _)); exact BK232.out) hb); have n1_ := Aside0.mk (below_step (by repeat (first | (with_reducible first | exact HB.out | apply below_alloc | apply pw_below_drewN | apply below_drew1 | refine below_set ?_ GE232.out) | exact HB.out)) hb); have n2_ := Aside0.mk (hbox); have n3_ := Aside0.mk ((by rw [hg]; exact (below_size (by repeat (first | (with_reducible first | exact HB.out | apply below_alloc | apply pw_below_drewN | apply below_drew1 | refine below_set ?_ GE232.out) | exact HB.out))) : w.heap.size ≤ gb234)); have n4_ := Aside0.mk ((by rw [hg]; exact (below_size (by repeat (first | (with_reducible first | exact HB.out | apply below_alloc | apply pw_below_drewN | apply below_drew1 | refine below_set ?_ GE232.out) | exact HB.out))) : w.heap.size ≤ gb234)); have n5_ := Aside0.mk ((by rw [hg]; exact Nat.ne_of_lt (blk_lt (g := gb232) (o := .cells #[.int .i64 x233000_1, .int .i64 x233001_1, .int .i64 x233002_1, .int .i64 x233003_1, .int .i64 x233004_1] 46 (0, 0)) (by (with_reducible repeat (first | refine blk_drewN ?_ _ | refine blk_drew ?_ | refine blk_alloc ?_ _)); exact BK232.out)) : gb232 ≠ gb234)); have n6_ := Aside0.mk ((by rw [hg]; exact Nat.ne_of_gt (blk_lt (g := gb232) (o := .cells #[.int .i64 x233000_1, .int .i64 x233001_1, .int .i64 x233002_1, .int .i64 x233003_1, .int .i64 x233004_1] 46 (0, 0)) (by (with_reducible repeat (first | refine blk_drewN ?_ _ | refine blk_drew ?_ | refine blk_alloc ?_ _)); exact BK232.out)) : gb234 ≠ gb232)); clear BK232; clear HB; have BK232 := n0_; have HB := n1_; have BK234 := n2_; have GW234 := n3_; have GE234 := n4_; have NB232_234 := n5_; have NB234_232 := n6_; clear n0_ n1_ n2_ n3_ n4_ n5_ n6_; clear hb hbox hg; have hnb13 := NB234_232.out; have hnc13 := NB232_234.out; have hcz14_0 : w12.cell? ⟨gb234, 0, none⟩ = some (.int .i64 0) := (blk_cell BK234.out 0).trans rfl; have hcz14_1 : w12.cell? ⟨gb234, 1, none⟩ = some (.int .i64 0) := (blk_cell BK234.out 1).trans rfl; have hcz14_2 : w12.cell? ⟨gb234, 2, none⟩ = some (.int .i64 0) := (blk_cell BK234.out 2).trans rfl; have hcz14_3 : w12.cell? ⟨gb234, 3, none⟩ = some (.int .i64 0) := (blk_cell BK234.out 3).trans rfl; have hcz14_4 : w12.cell? ⟨gb234, 4, none⟩ = some (.int .i64 0) := (blk_cell BK234.out 4).trans rfl; have hfz14_0 := blk_frozen BK234.out 0; have hfz14_1 := blk_frozen BK234.out 1; have hfz14_2 := blk_frozen BK234.out 2; have hfz14_3 := blk_frozen BK234.out 3; have hfz14_4 := blk_frozen BK234.out 4))
              go_roundg k1
              case measure => have := HK1.out; omega
              case rel => exact ⟨(wrap64 (x10_1 + 1)), (x233000_1), (x233001_1), (x233002_1), (x233003_1), (x233004_1), (by first | rfl | (simp; done) | (simp [*]; done)), H', ⟨by have := HK1.out; omega⟩, ⟨by (with_reducible repeat (first | refine blk_drewN ?_ _ | refine blk_drew ?_ | refine blk_alloc ?_ _)); refine blk_far ?_ NB232_234.out _; (with_reducible repeat (first | refine blk_drewN ?_ _ | refine blk_drew ?_ | refine blk_alloc ?_ _)); refine blk_far ?_ NB232_234.out _; (with_reducible repeat (first | refine blk_drewN ?_ _ | refine blk_drew ?_ | refine blk_alloc ?_ _)); refine blk_far ?_ NB232_234.out _; (with_reducible repeat (first | refine blk_drewN ?_ _ | refine blk_drew ?_ | refine blk_alloc ?_ _)); refine blk_far ?_ NB232_234.out _; (with_reducible repeat (first | refine blk_drewN ?_ _ | refine blk_drew ?_ | refine blk_alloc ?_ _)); refine blk_far ?_ NB232_234.out _; (with_reducible repeat (first | refine blk_drewN ?_ _ | refine blk_drew ?_ | refine blk_alloc ?_ _)); exact BK232.out⟩, ⟨by repeat (first | (with_reducible first | exact HB.out | apply below_alloc | apply pw_below_drewN | apply below_drew1 | refine below_set ?_ GE232.out | refine below_set ?_ GE234.out) | exact HB.out)⟩⟩
          · rw [if_neg c6] at H
            exact absurd H (by simp)
        · rw [if_neg c5] at H
          exact absurd H (by simp)
      · rw [if_neg c4] at H
        have c4b0 : decide (x10_1 < (l0.length : Int)) = false := decide_eq_false c4
        clear c4
        simp only [Option.some.injEq, Prod.mk.injEq] at H
        obtain ⟨rfl, rfl, rfl, rfl, rfl, rfl⟩ := H
        have hcz15_0 : wr.cell? ⟨gb232, 0, none⟩ = some (.int .i64 x233000_1) := (blk_cell BK232.out 0).trans rfl
        have hcz15_1 : wr.cell? ⟨gb232, 1, none⟩ = some (.int .i64 x233001_1) := (blk_cell BK232.out 1).trans rfl
        have hcz15_2 : wr.cell? ⟨gb232, 2, none⟩ = some (.int .i64 x233002_1) := (blk_cell BK232.out 2).trans rfl
        have hcz15_3 : wr.cell? ⟨gb232, 3, none⟩ = some (.int .i64 x233003_1) := (blk_cell BK232.out 3).trans rfl
        have hcz15_4 : wr.cell? ⟨gb232, 4, none⟩ = some (.int .i64 x233004_1) := (blk_cell BK232.out 4).trans rfl
        have hfz15_0 := blk_frozen BK232.out 0
        have hfz15_1 := blk_frozen BK232.out 1
        have hfz15_2 := blk_frozen BK232.out 2
        have hfz15_3 := blk_frozen BK232.out 3
        have hfz15_4 := blk_frozen BK232.out 4
        go_wp2
        refine bodyPost_ret (results_ct rfl _ _ gb232 46 #[.int .i64 0, .int .i64 0, .int .i64 0, .int .i64 0, .int .i64 0] (0, 0) _ rfl (by (with_reducible repeat (first | refine blk_drewN ?_ _ | refine blk_drew ?_ | refine blk_alloc ?_ _)); refine blk_put (cs := #[.int .i64 0, .int .i64 0, .int .i64 0, .int .i64 0, .int .i64 x233004_1]) ?_ 4 _ rfl; (with_reducible repeat (first | refine blk_drewN ?_ _ | refine blk_drew ?_ | refine blk_alloc ?_ _)); refine blk_put (cs := #[.int .i64 0, .int .i64 0, .int .i64 0, .int .i64 x233003_1, .int .i64 x233004_1]) ?_ 3 _ rfl; (with_reducible repeat (first | refine blk_drewN ?_ _ | refine blk_drew ?_ | refine blk_alloc ?_ _)); refine blk_put (cs := #[.int .i64 0, .int .i64 0, .int .i64 x233002_1, .int .i64 x233003_1, .int .i64 x233004_1]) ?_ 2 _ rfl; (with_reducible repeat (first | refine blk_drewN ?_ _ | refine blk_drew ?_ | refine blk_alloc ?_ _)); refine blk_put (cs := #[.int .i64 0, .int .i64 x233001_1, .int .i64 x233002_1, .int .i64 x233003_1, .int .i64 x233004_1]) ?_ 1 _ rfl; (with_reducible repeat (first | refine blk_drewN ?_ _ | refine blk_drew ?_ | refine blk_alloc ?_ _)); refine blk_put (cs := #[.int .i64 x233000_1, .int .i64 x233001_1, .int .i64 x233002_1, .int .i64 x233003_1, .int .i64 x233004_1]) ?_ 0 _ rfl; (with_reducible repeat (first | refine blk_drewN ?_ _ | refine blk_drew ?_ | refine blk_alloc ?_ _)); exact BK232.out) Try.underlying46 rfl (by kernel_rfl)) rfl ?_
        exact ⟨by first | rfl | (simp [errW_none, errW_some] <;> rfl) | (simp [*, errW_none, errW_some] <;> rfl), by repeat (first | (with_reducible first | exact HB.out | apply below_alloc | apply pw_below_drewN | apply below_drew1 | refine below_set ?_ GE232.out) | exact HB.out)⟩

end Go.Proofs.Ytkbcjagkacijnaa.PPl
end
section
-- Written for this claim by this project's own driver over the kit's print: functions and their contracts.
namespace Go.Proofs.Ytkbcjagkacijnaa.PPl
open Go.RowKit Go.Proofs.YtkbcjagkacijnaaW.PrintWords Go.Proofs.YtkbcjagkacijnaaW.PrintLast Go.Proofs.YtkbcjagkacijnaaW.PrintMore
attribute [local go_sem] max2_int min2_int max_two min_two max_three min_three max_four min_four   -- for this text's walks alone
set_option linter.unusedVariables false
set_option linter.unusedSimpArgs false

def furlongref01_Rises.l0 : Nat → List Int → Int → Int → Option (Bool)
  | 0, _, _, _ => none
  | k + 1, x0, x5, x6 => if x6 < x5 then (if x6 > 0 then (if 0 ≤ (wrap64 (x6 - 1)) then (if (wrap64 (x6 - 1)) < (x0.length : Int) then (if 0 ≤ x6 then (if x6 < (x0.length : Int) then (if (rd x0 (wrap64 (x6 - 1))) ≥ (rd x0 x6) then (some false) else (furlongref01_Rises.l0 k x0 x5 (wrap64 (x6 + 1)))) else (none)) else (none)) else (none)) else (none)) else (furlongref01_Rises.l0 k x0 x5 (wrap64 (x6 + 1)))) else (some true)
def furlongref01_Rises.f (k : Nat) (l0 : List Int) : Option (Bool) := furlongref01_Rises.l0 k l0 (l0.length : Int) 0
theorem furlongref01_Rises.mono_l : ∀ k, (∀ y0 y1 y2, LeO (furlongref01_Rises.l0 k y0 y1 y2) (furlongref01_Rises.l0 (k + 1) y0 y1 y2))
  | 0 => fun _ _ _ r h => by simp [furlongref01_Rises.l0] at h
  | k + 1 => by
    have ih0 := furlongref01_Rises.mono_l k
    · intro y0 y1 y2
      unfold furlongref01_Rises.l0
      repeat' first
      | (with_reducible exact ih0 _ _ _)
      | (with_reducible exact LeO.refl _)
      | (with_reducible exact LeO.none _)
      | (with_reducible refine LeO.ite ?_ ?_)
      | (with_reducible refine LeO.bind ?_ (fun _ => ?_))
      | exact ih0 _ _ _
      | exact LeO.none _
      | refine LeO.ite ?_ ?_
      | refine LeO.bind ?_ (fun _ => ?_)
theorem furlongref01_Rises.mono : ∀ a0 k, LeO (furlongref01_Rises.f k a0) (furlongref01_Rises.f (k + 1) a0) := by
  intro a0 k
  have ih0 := furlongref01_Rises.mono_l k
  unfold furlongref01_Rises.f
  repeat' first
      | (with_reducible exact ih0 _ _ _)
      | (with_reducible exact LeO.refl _)
      | (with_reducible exact LeO.none _)
      | (with_reducible refine LeO.ite ?_ ?_)
      | (with_reducible refine LeO.bind ?_ (fun _ => ?_))
      | exact ih0 _ _ _
      | exact LeO.none _
      | refine LeO.ite ?_ ?_
      | refine LeO.bind ?_ (fun _ => ?_)
set_option maxHeartbeats 8000000 in
set_option maxRecDepth 100000 in
theorem furlongref01_Rises.calls (k : Nat) (A0 : Option Addr) (c0 : Nat) (l0 : List Int) (r : Bool) (w : World) (hr0 : Kd.C (Kd.int .i64) w A0 l0.length l0) (hc0 : l0.length ≤ c0) (h : furlongref01_Rises.f k l0 = some r) :
    Calls Try.prog 128 #[.slice A0 l0.length c0] w fun e w' => e = .returned (.bool r) ∧ Drawn0 w w' := by
  have HR0 := Aside0.mk hr0
  have HC0 := Aside0.mk hc0
  clear hr0 hc0
  have H : (furlongref01_Rises.l0 k l0 (l0.length : Int) 0) = some r := h
  clear h
  have H' := Aside0.mk H
  clear H
  go_enter Try.func128, Try.ntmps128
  go_wp2
  repeat (go_quiet (fail); try go_wp2)
  go_loopg [6] k (fun kq v6 w' => ∃ (x6_1 : Int), v6 = .int .i64 x6_1 ∧ Aside0 (furlongref01_Rises.l0 kq l0 (l0.length : Int) x6_1 = some r) ∧ Aside0 (kq ≤ k) ∧ Drawn0 w w')
  case atStart => exact ⟨(0), (by first | rfl | (simp; done) | (simp [*]; done)), H', ⟨Nat.le_refl _⟩, by repeat (first | exact Drawn0.refl _ | apply Drawn0.step)⟩
  case round =>
    clear H'
    try clear c1
    obtain ⟨x6_1, rfl, HA, HK1, ⟨m1, rfl⟩⟩ := hrel
    cases gk with
    | zero => exact absurd HA.out (by simp [furlongref01_Rises.l0])
    | succ k1 =>
      have H := HA.out
      clear HA
      simp only [furlongref01_Rises.l0] at H
      by_cases c2 : x6_1 < (l0.length : Int)
      · rw [if_pos c2] at H
        have c2b0 : decide (x6_1 < (l0.length : Int)) = true := decide_eq_true c2
        clear c2
        by_cases c3 : x6_1 > 0
        · rw [if_pos c3] at H
          have c3b0 : decide (0 < x6_1) = true := decide_eq_true c3
          clear c3
          obtain ⟨ji4, hji4⟩ : ∃ j_ : Int, (wrap64 (x6_1 - 1)) = j_ := ⟨_, rfl⟩
          replace H : (if 0 ≤ (ji4) then (if (ji4) < (l0.length : Int) then (if 0 ≤ x6_1 then (if x6_1 < (l0.length : Int) then (if (rd l0 (ji4)) ≥ (rd l0 x6_1) then (some false) else (furlongref01_Rises.l0 k1 l0 (l0.length : Int) (wrap64 (x6_1 + 1)))) else (none)) else (none)) else (none)) else (none)) = some r := by first | (rw [hji4] at H; exact H) | (simp only [hji4] at H ⊢; exact H)
          have hji4w : (IntKind.i64.wrap (x6_1 - 1)) = ji4 := (i64_w _).trans hji4
          by_cases c5 : 0 ≤ (ji4)
          · rw [if_pos c5] at H
            have c5b0 : decide (0 ≤ (ji4)) = true := decide_eq_true c5
            clear c5
            by_cases c6 : (ji4) < (l0.length : Int)
            · rw [if_pos c6] at H
              have c6b0 : decide ((ji4) < (l0.length : Int)) = true := decide_eq_true c6
              clear c6
              by_cases c7 : 0 ≤ x6_1
              · rw [if_pos c7] at H
                have c7b0 : decide (0 ≤ x6_1) = true := decide_eq_true c7
                clear c7
                by_cases c8 : x6_1 < (l0.length : Int)
                · rw [if_pos c8] at H
                  have c8b0 : decide (x6_1 < (l0.length : Int)) = true := decide_eq_true c8
                  clear c8
                  by_cases c9 : (rd l0 (ji4)) ≥ (rd l0 x6_1)
                  · rw [if_pos c9] at H
                    have c9b0 : decide ((rd l0 x6_1) ≤ (rd l0 (ji4))) = true := decide_eq_true c9
                    clear c9
                    obtain rfl := Option.some.inj H
                    have p333 : 0 ≤ ((ji4) : Int) := of_decide_eq_true (by first | (with_reducible assumption) | assumption)
                    have q333 : (ji4) < (l0.length : Int) := of_decide_eq_true (by first | (with_reducible assumption) | assumption)
                    obtain ⟨ad333, e333, hx333_0⟩ := Kd.at_int HR0.out (ji4) p333 q333
                    cases e333
                    replace p333 := eq_true p333
                    replace q333 := eq_true q333
                    have p334 : 0 ≤ (x6_1 : Int) := of_decide_eq_true (by first | (with_reducible assumption) | assumption)
                    have q334 : x6_1 < (l0.length : Int) := of_decide_eq_true (by first | (with_reducible assumption) | assumption)
                    obtain ⟨ad334, e334, hx334_0⟩ := Kd.at_int HR0.out x6_1 p334 q334
                    obtain rfl : ad333 = ad334 := (by injection e334)
                    replace p334 := eq_true p334
                    replace q334 := eq_true q334
                    go_wp2
                    repeat (go_quiet (fail); try go_wp2)
                    go_ret
                    exact ⟨by first | rfl | (simp; done) | (simp only [← hji4] <;> (first | rfl | simp)) | (simp [*]; done), by repeat (first | exact Drawn0.refl _ | apply Drawn0.step)⟩
                  · rw [if_neg c9] at H
                    have c9b0 : decide ((rd l0 x6_1) ≤ (rd l0 (ji4))) = false := decide_eq_false c9
                    clear c9
                    have H' := Aside0.mk H
                    clear H
                    have p333 : 0 ≤ ((ji4) : Int) := of_decide_eq_true (by first | (with_reducible assumption) | assumption)
                    have q333 : (ji4) < (l0.length : Int) := of_decide_eq_true (by first | (with_reducible assumption) | assumption)
                    obtain ⟨ad333, e333, hx333_0⟩ := Kd.at_int HR0.out (ji4) p333 q333
                    cases e333
                    replace p333 := eq_true p333
                    replace q333 := eq_true q333
                    have p334 : 0 ≤ (x6_1 : Int) := of_decide_eq_true (by first | (with_reducible assumption) | assumption)
                    have q334 : x6_1 < (l0.length : Int) := of_decide_eq_true (by first | (with_reducible assumption) | assumption)
                    obtain ⟨ad334, e334, hx334_0⟩ := Kd.at_int HR0.out x6_1 p334 q334
                    obtain rfl : ad333 = ad334 := (by injection e334)
                    replace p334 := eq_true p334
                    replace q334 := eq_true q334
                    go_wp2
                    repeat (go_quiet (fail); try go_wp2)
                    go_roundg k1
                    case measure => have := HK1.out; omega
                    case rel => exact ⟨(wrap64 (x6_1 + 1)), (by first | rfl | (simp; done) | (simp [*]; done)), H', ⟨by have := HK1.out; omega⟩, by repeat (first | exact Drawn0.refl _ | apply Drawn0.step)⟩
                · rw [if_neg c8] at H
                  exact absurd H (by simp)
              · rw [if_neg c7] at H
                exact absurd H (by simp)
            · rw [if_neg c6] at H
              exact absurd H (by simp)
          · rw [if_neg c5] at H
            exact absurd H (by simp)
        · rw [if_neg c3] at H
          have c3b0 : decide (0 < x6_1) = false := decide_eq_false c3
          clear c3
          have H' := Aside0.mk H
          clear H
          go_wp2
          repeat (go_quiet (fail); try go_wp2)
          go_roundg k1
          case measure => have := HK1.out; omega
          case rel => exact ⟨(wrap64 (x6_1 + 1)), (by first | rfl | (simp; done) | (simp [*]; done)), H', ⟨by have := HK1.out; omega⟩, by repeat (first | exact Drawn0.refl _ | apply Drawn0.step)⟩
      · rw [if_neg c2] at H
        have c2b0 : decide (x6_1 < (l0.length : Int)) = false := decide_eq_false c2
        clear c2
        obtain rfl := Option.some.inj H
        go_wp2
        repeat (go_quiet (fail); try go_wp2)
        go_ret
        exact ⟨by first | rfl | (simp; done) | (simp [*]; done), by repeat (first | exact Drawn0.refl _ | apply Drawn0.step)⟩

end Go.Proofs.Ytkbcjagkacijnaa.PPl
end
section
-- Written for this claim by this project's own driver over the kit's print: functions and their contracts.
namespace Go.Proofs.Ytkbcjagkacijnaa.PPl
open Go.RowKit Go.Proofs.YtkbcjagkacijnaaW.PrintWords Go.Proofs.YtkbcjagkacijnaaW.PrintLast Go.Proofs.YtkbcjagkacijnaaW.PrintMore
attribute [local go_sem] max2_int min2_int max_two min_two max_three min_three max_four min_four   -- for this text's walks alone
set_option linter.unusedVariables false
set_option linter.unusedSimpArgs false

def furlongref07_cores.l0 : Nat → List Int → List Int → Int → Int → Int → Int → Int → Int → Int → Option (Bool)
  | 0, _, _, _, _, _, _, _, _, _ => none
  | k + 1, x0, x7, x8, x9, x336000, x336001, x336002, x336003, x336004 => if x9 < x8 then (if 0 ≤ x9 then (if x9 < (x7.length : Int) then (if (rd x7 x9) < 0 then (some false) else (if (rd x7 x9) ≥ x336001 then (some false) else (furlongref07_cores.l0 k x0 x7 x8 (wrap64 (x9 + 1)) x336000 x336001 x336002 x336003 x336004))) else (none)) else (none)) else ((furlongref01_Rises.f k x0).bind fun t337 => (some t337))
def furlongref07_cores.f (k : Nat) (l0 : List Int) (a1_0 : Int) (a1_1 : Int) (a1_2 : Int) (a1_3 : Int) (a1_4 : Int) : Option (Bool) := furlongref07_cores.l0 k l0 l0 (l0.length : Int) 0 a1_0 a1_1 a1_2 a1_3 a1_4
theorem furlongref07_cores.mono_l : ∀ k, (∀ y0 y1 y2 y3 y4 y5 y6 y7 y8, LeO (furlongref07_cores.l0 k y0 y1 y2 y3 y4 y5 y6 y7 y8) (furlongref07_cores.l0 (k + 1) y0 y1 y2 y3 y4 y5 y6 y7 y8))
  | 0 => fun _ _ _ _ _ _ _ _ _ r h => by simp [furlongref07_cores.l0] at h
  | k + 1 => by
    have ih0 := furlongref07_cores.mono_l k
    · intro y0 y1 y2 y3 y4 y5 y6 y7 y8
      unfold furlongref07_cores.l0
      repeat' first
      | (with_reducible exact ih0 _ _ _ _ _ _ _ _ _)
      | (with_reducible exact furlongref01_Rises.mono _ _)
      | (with_reducible exact LeO.refl _)
      | (with_reducible exact LeO.none _)
      | (with_reducible refine LeO.ite ?_ ?_)
      | (with_reducible refine LeO.bind ?_ (fun _ => ?_))
      | exact ih0 _ _ _ _ _ _ _ _ _
      | exact furlongref01_Rises.mono _ _
      | exact LeO.none _
      | refine LeO.ite ?_ ?_
      | refine LeO.bind ?_ (fun _ => ?_)
theorem furlongref07_cores.mono : ∀ a0 a1 a2 a3 a4 a5 k, LeO (furlongref07_cores.f k a0 a1 a2 a3 a4 a5) (furlongref07_cores.f (k + 1) a0 a1 a2 a3 a4 a5) := by
  intro a0 a1 a2 a3 a4 a5 k
  have ih0 := furlongref07_cores.mono_l k
  unfold furlongref07_cores.f
  repeat' first
      | (with_reducible exact ih0 _ _ _ _ _ _ _ _ _)
      | (with_reducible exact furlongref01_Rises.mono _ _)
      | (with_reducible exact LeO.refl _)
      | (with_reducible exact LeO.none _)
      | (with_reducible refine LeO.ite ?_ ?_)
      | (with_reducible refine LeO.bind ?_ (fun _ => ?_))
      | exact ih0 _ _ _ _ _ _ _ _ _
      | exact furlongref01_Rises.mono _ _
      | exact LeO.none _
      | refine LeO.ite ?_ ?_
      | refine LeO.bind ?_ (fun _ => ?_)
set_option maxHeartbeats 8000000 in
set_option maxRecDepth 100000 in
theorem furlongref07_cores.calls (k : Nat) (A0 : Option Addr) (c0 : Nat) (l0 : List Int) (a1_0 : Int) (a1_1 : Int) (a1_2 : Int) (a1_3 : Int) (a1_4 : Int) (r : Bool) (w : World) (hr0 : Kd.C (Kd.int .i64) w A0 l0.length l0) (hc0 : l0.length ≤ c0) (h : furlongref07_cores.f k l0 a1_0 a1_1 a1_2 a1_3 a1_4 = some r) :
    Calls Try.prog 126 #[.slice A0 l0.length c0, .agg #[.int .i64 a1_0, .int .i64 a1_1, .int .i64 a1_2, .int .i64 a1_3, .int .i64 a1_4]] w fun e w' => e = .returned (.bool r) ∧ Below w.heap.size w w' := by
  have hu46 := Try.underlying46
  have HR0 := Aside0.mk hr0
  have HC0 := Aside0.mk hc0
  clear hr0 hc0
  have HB := Aside0.mk (Below.refl w.heap.size w)
  have H : (furlongref07_cores.l0 k l0 l0 (l0.length : Int) 0 a1_0 a1_1 a1_2 a1_3 a1_4) = some r := h
  clear h
  have H' := Aside0.mk H
  clear H
  go_enter Try.func126, Try.ntmps126
  go_wp2_with (first | ((with_reducible refine gate_dst (N := 3) rfl ?_); refine box_event ?hg (N := 3) ?hd (cs := #[.int .i64 a1_0, .int .i64 a1_1, .int .i64 a1_2, .int .i64 a1_3, .int .i64 a1_4]) (t := 46) ?hr ?_; (case hd => rfl); (case hg => rfl); (case hr => first | (go_simp; done) | (go_simp; rfl)); intro gb335 hg w3 hbox hb; have n0_ := Aside0.mk (below_step (by repeat (first | (with_reducible first | exact HB.out | apply below_alloc | apply pw_below_drewN | apply below_drew1) | exact HB.out)) hb); have n1_ := Aside0.mk (hbox); have n2_ := Aside0.mk ((by rw [hg]; exact (below_size (by repeat (first | (with_reducible first | exact HB.out | apply below_alloc | apply pw_below_drewN | apply below_drew1) | exact HB.out))) : w.heap.size ≤ gb335)); have n3_ := Aside0.mk ((by rw [hg]; exact (below_size (by repeat (first | (with_reducible first | exact HB.out | apply below_alloc | apply pw_below_drewN | apply below_drew1) | exact HB.out))) : w.heap.size ≤ gb335)); clear HB; have HB := n0_; have BK335 := n1_; have GW335 := n2_; have GE335 := n3_; clear n0_ n1_ n2_ n3_; clear hb hbox hg))
  go_loopg [9] k (fun kq v9 w' => ∃ (x9_1 : Int), v9 = .int .i64 x9_1 ∧ Aside0 (furlongref07_cores.l0 kq l0 l0 (l0.length : Int) x9_1 a1_0 a1_1 a1_2 a1_3 a1_4 = some r) ∧ Aside0 (kq ≤ k) ∧ Aside0 (w'.heap[gb335]? = some (.cells #[.int .i64 a1_0, .int .i64 a1_1, .int .i64 a1_2, .int .i64 a1_3, .int .i64 a1_4] 46 (0, 0))) ∧ Aside0 (Below w.heap.size w w'))
  case atStart => exact ⟨(0), (by first | rfl | (simp; done) | (simp [*]; done)), H', ⟨Nat.le_refl _⟩, ⟨by (with_reducible repeat (first | refine blk_drewN ?_ _ | refine blk_drew ?_ | refine blk_alloc ?_ _)); exact BK335.out⟩, ⟨by repeat (first | (with_reducible first | exact HB.out | apply below_alloc | apply pw_below_drewN | apply below_drew1 | refine below_set ?_ GE335.out) | exact HB.out)⟩⟩
  case round =>
    clear H'
    try clear c1
    try clear p2
    obtain ⟨x9_1, rfl, HA, HK1, BK335, HB⟩ := hrel
    cases gk with
    | zero => exact absurd HA.out (by simp [furlongref07_cores.l0])
    | succ k1 =>
      have H := HA.out
      clear HA
      simp only [furlongref07_cores.l0] at H
      by_cases c4 : x9_1 < (l0.length : Int)
      · rw [if_pos c4] at H
        have c4b0 : decide (x9_1 < (l0.length : Int)) = true := decide_eq_true c4
        clear c4
        by_cases c5 : 0 ≤ x9_1
        · rw [if_pos c5] at H
          have c5b0 : decide (0 ≤ x9_1) = true := decide_eq_true c5
          clear c5
          by_cases c6 : x9_1 < (l0.length : Int)
          · rw [if_pos c6] at H
            have c6b0 : decide (x9_1 < (l0.length : Int)) = true := decide_eq_true c6
            clear c6
            by_cases c7 : (rd l0 x9_1) < 0
            · rw [if_pos c7] at H
              have c7b0 : decide ((rd l0 x9_1) < 0) = true := decide_eq_true c7
              clear c7
              obtain rfl := Option.some.inj H
              have p336 : 0 ≤ (x9_1 : Int) := of_decide_eq_true (by first | (with_reducible assumption) | assumption)
              have q336 : x9_1 < (l0.length : Int) := of_decide_eq_true (by first | (with_reducible assumption) | assumption)
              obtain ⟨ad336, e336, hx336_0⟩ := Kd.at_int HR0.out x9_1 p336 q336
              cases e336
              (try (replace hx336_0 := (HB.out.cell (World.block_lt_of_cell? w _ hx336_0)).trans hx336_0))
              replace p336 := eq_true p336
              replace q336 := eq_true q336
              go_wp2
              go_ret
              exact ⟨by first | rfl | (simp [errW_none, errW_some] <;> rfl) | (simp [*, errW_none, errW_some] <;> rfl), by repeat (first | (with_reducible first | exact HB.out | apply below_alloc | apply pw_below_drewN | apply below_drew1 | refine below_set ?_ GE335.out) | exact HB.out)⟩
            · rw [if_neg c7] at H
              have c7b0 : decide ((rd l0 x9_1) < 0) = false := decide_eq_false c7
              clear c7
              by_cases c8 : (rd l0 x9_1) ≥ a1_1
              · rw [if_pos c8] at H
                have c8b0 : decide (a1_1 ≤ (rd l0 x9_1)) = true := decide_eq_true c8
                clear c8
                obtain rfl := Option.some.inj H
                have p336 : 0 ≤ (x9_1 : Int) := of_decide_eq_true (by first | (with_reducible assumption) | assumption)
                have q336 : x9_1 < (l0.length : Int) := of_decide_eq_true (by first | (with_reducible assumption) | assumption)
                obtain ⟨ad336, e336, hx336_0⟩ := Kd.at_int HR0.out x9_1 p336 q336
                cases e336
                (try (replace hx336_0 := (HB.out.cell (World.block_lt_of_cell? w _ hx336_0)).trans hx336_0))
                replace p336 := eq_true p336
                replace q336 := eq_true q336
                have hcz9_0 : wr.cell? ⟨gb335, 0, none⟩ = some (.int .i64 a1_0) := (blk_cell BK335.out 0).trans rfl
                have hcz9_1 : wr.cell? ⟨gb335, 1, none⟩ = some (.int .i64 a1_1) := (blk_cell BK335.out 1).trans rfl
                have hcz9_2 : wr.cell? ⟨gb335, 2, none⟩ = some (.int .i64 a1_2) := (blk_cell BK335.out 2).trans rfl
                have hcz9_3 : wr.cell? ⟨gb335, 3, none⟩ = some (.int .i64 a1_3) := (blk_cell BK335.out 3).trans rfl
                have hcz9_4 : wr.cell? ⟨gb335, 4, none⟩ = some (.int .i64 a1_4) := (blk_cell BK335.out 4).trans rfl
                have hfz9_0 := blk_frozen BK335.out 0
                have hfz9_1 := blk_frozen BK335.out 1
                have hfz9_2 := blk_frozen BK335.out 2
                have hfz9_3 := blk_frozen BK335.out 3
                have hfz9_4 := blk_frozen BK335.out 4
                go_wp2
                go_ret
                exact ⟨by first | rfl | (simp [errW_none, errW_some] <;> rfl) | (simp [*, errW_none, errW_some] <;> rfl), by repeat (first | (with_reducible first | exact HB.out | apply below_alloc | apply pw_below_drewN | apply below_drew1 | refine below_set ?_ GE335.out) | exact HB.out)⟩
              · rw [if_neg c8] at H
                have c8b0 : decide (a1_1 ≤ (rd l0 x9_1)) = false := decide_eq_false c8
                clear c8
                have H' := Aside0.mk H
                clear H
                have p336 : 0 ≤ (x9_1 : Int) := of_decide_eq_true (by first | (with_reducible assumption) | assumption)
                have q336 : x9_1 < (l0.length : Int) := of_decide_eq_true (by first | (with_reducible assumption) | assumption)
                obtain ⟨ad336, e336, hx336_0⟩ := Kd.at_int HR0.out x9_1 p336 q336
                cases e336
                (try (replace hx336_0 := (HB.out.cell (World.block_lt_of_cell? w _ hx336_0)).trans hx336_0))
                replace p336 := eq_true p336
                replace q336 := eq_true q336
                have hcz10_0 : wr.cell? ⟨gb335, 0, none⟩ = some (.int .i64 a1_0) := (blk_cell BK335.out 0).trans rfl
                have hcz10_1 : wr.cell? ⟨gb335, 1, none⟩ = some (.int .i64 a1_1) := (blk_cell BK335.out 1).trans rfl
                have hcz10_2 : wr.cell? ⟨gb335, 2, none⟩ = some (.int .i64 a1_2) := (blk_cell BK335.out 2).trans rfl
                have hcz10_3 : wr.cell? ⟨gb335, 3, none⟩ = some (.int .i64 a1_3) := (blk_cell BK335.out 3).trans rfl
                have hcz10_4 : wr.cell? ⟨gb335, 4, none⟩ = some (.int .i64 a1_4) := (blk_cell BK335.out 4).trans rfl
                have hfz10_0 := blk_frozen BK335.out 0
                have hfz10_1 := blk_frozen BK335.out 1
                have hfz10_2 := blk_frozen BK335.out 2
                have hfz10_3 := blk_frozen BK335.out 3
                have hfz10_4 := blk_frozen BK335.out 4
                go_wp2
                go_roundg k1
                case measure => have := HK1.out; omega
                case rel => exact ⟨(wrap64 (x9_1 + 1)), (by first | rfl | (simp; done) | (simp [*]; done)), H', ⟨by have := HK1.out; omega⟩, ⟨by (with_reducible repeat (first | refine blk_drewN ?_ _ | refine blk_drew ?_ | refine blk_alloc ?_ _)); exact BK335.out⟩, ⟨by repeat (first | (with_reducible first | exact HB.out | apply below_alloc | apply pw_below_drewN | apply below_drew1 | refine below_set ?_ GE335.out) | exact HB.out)⟩⟩
          · rw [if_neg c6] at H
            exact absurd H (by simp)
        · rw [if_neg c5] at H
          exact absurd H (by simp)
      · rw [if_neg c4] at H
        have c4b0 : decide (x9_1 < (l0.length : Int)) = false := decide_eq_false c4
        clear c4
        replace H := Option.bind_eq_some_iff.mp H
        obtain ⟨t337, A110, H⟩ := H
        replace H : (some t337) = some r := H
        have A11 := Aside0.mk A110
        clear A110
        obtain rfl := Option.some.inj H
        go_wp2_with (first | ((with_reducible refine gate_callee (f := 128) rfl ?_); refine goesL_ (some 23) rfl rfl Try.func128 (by kernel_rfl) rfl #[.slice A0 l0.length c0] rfl (by (try simp only [List.map_toArray, List.map_cons, List.map_nil]); first | done | rfl | (simp only [List.length_drop, List.length_take]; rfl)) ?_; (with_reducible refine (furlongref01_Rises.calls k1 _ _ l0 t337 _ ?side1 ?side2 A11.out).mono ?_); (case side1 => repeat (first | exact (Kd.C_below HR0.out HB.out) | (with_reducible refine Kd.C_alloc ?_ _) | (with_reducible refine Kd.C_drewN ?_ _) | (with_reducible refine Kd.C_drew ?_))); (case side2 => exact HC0.out); rintro e w' ⟨rfl, ⟨nd, rfl⟩⟩; refine ⟨_, rfl, ?_⟩))
        go_ret
        exact ⟨by first | rfl | (simp [errW_none, errW_some] <;> rfl) | (simp [*, errW_none, errW_some] <;> rfl), by repeat (first | (with_reducible first | exact HB.out | apply below_alloc | apply pw_below_drewN | apply below_drew1 | refine below_set ?_ GE335.out) | exact HB.out)⟩

end Go.Proofs.Ytkbcjagkacijnaa.PPl
end
section
-- Written for this claim by this project's own driver over the kit's print: functions and their contracts.
namespace Go.Proofs.Ytkbcjagkacijnaa.PPl
open Go.RowKit Go.Proofs.YtkbcjagkacijnaaW.PrintWords Go.Proofs.YtkbcjagkacijnaaW.PrintLast Go.Proofs.YtkbcjagkacijnaaW.PrintMore
attribute [local go_sem] max2_int min2_int max_two min_two max_three min_three max_four min_four   -- for this text's walks alone
set_option linter.unusedVariables false
set_option linter.unusedSimpArgs false

def furlongref01_Has.l0 : Nat → Int → List Int → Int → Int → Option (Bool)
  | 0, _, _, _, _ => none
  | k + 1, x1, x7, x8, x9 => if x9 < x8 then (if 0 ≤ x9 then (if x9 < (x7.length : Int) then (if (rd x7 x9) = x1 then (some true) else (furlongref01_Has.l0 k x1 x7 x8 (wrap64 (x9 + 1)))) else (none)) else (none)) else (some false)
def furlongref01_Has.f (k : Nat) (l0 : List Int) (a1 : Int) : Option (Bool) := furlongref01_Has.l0 k a1 l0 (l0.length : Int) 0
theorem furlongref01_Has.mono_l : ∀ k, (∀ y0 y1 y2 y3, LeO (furlongref01_Has.l0 k y0 y1 y2 y3) (furlongref01_Has.l0 (k + 1) y0 y1 y2 y3))
  | 0 => fun _ _ _ _ r h => by simp [furlongref01_Has.l0] at h
  | k + 1 => by
    have ih0 := furlongref01_Has.mono_l k
    · intro y0 y1 y2 y3
      unfold furlongref01_Has.l0
      repeat' first
      | (with_reducible exact ih0 _ _ _ _)
      | (with_reducible exact LeO.refl _)
      | (with_reducible exact LeO.none _)
      | (with_reducible refine LeO.ite ?_ ?_)
      | (with_reducible refine LeO.bind ?_ (fun _ => ?_))
      | exact ih0 _ _ _ _
      | exact LeO.none _
      | refine LeO.ite ?_ ?_
      | refine LeO.bind ?_ (fun _ => ?_)
theorem furlongref01_Has.mono : ∀ a0 a1 k, LeO (furlongref01_Has.f k a0 a1) (furlongref01_Has.f (k + 1) a0 a1) := by
  intro a0 a1 k
  have ih0 := furlongref01_Has.mono_l k
  unfold furlongref01_Has.f
  repeat' first
      | (with_reducible exact ih0 _ _ _ _)
      | (with_reducible exact LeO.refl _)
      | (with_reducible exact LeO.none _)
      | (with_reducible refine LeO.ite ?_ ?_)
      | (with_reducible refine LeO.bind ?_ (fun _ => ?_))
      | exact ih0 _ _ _ _
      | exact LeO.none _
      | refine LeO.ite ?_ ?_
      | refine LeO.bind ?_ (fun _ => ?_)
set_option maxHeartbeats 8000000 in
set_option maxRecDepth 100000 in
theorem furlongref01_Has.calls (k : Nat) (A0 : Option Addr) (c0 : Nat) (l0 : List Int) (a1 : Int) (r : Bool) (w : World) (hr0 : Kd.C (Kd.int .i64) w A0 l0.length l0) (hc0 : l0.length ≤ c0) (h : furlongref01_Has.f k l0 a1 = some r) :
    Calls Try.prog 117 #[.slice A0 l0.length c0, .int .i64 a1] w fun e w' => e = .returned (.bool r) ∧ Drawn0 w w' := by
  have HR0 := Aside0.mk hr0
  have HC0 := Aside0.mk hc0
  clear hr0 hc0
  have H : (furlongref01_Has.l0 k a1 l0 (l0.length : Int) 0) = some r := h
  clear h
  have H' := Aside0.mk H
  clear H
  go_enter Try.func117, Try.ntmps117
  go_wp2
  go_loopg [9] k (fun kq v9 w' => ∃ (x9_1 : Int), v9 = .int .i64 x9_1 ∧ Aside0 (furlongref01_Has.l0 kq a1 l0 (l0.length : Int) x9_1 = some r) ∧ Aside0 (kq ≤ k) ∧ Drawn0 w w')
  case atStart => exact ⟨(0), (by first | rfl | (simp; done) | (simp [*]; done)), H', ⟨Nat.le_refl _⟩, by repeat (first | exact Drawn0.refl _ | apply Drawn0.step)⟩
  case round =>
    clear H'
    try clear c1
    try clear p2
    obtain ⟨x9_1, rfl, HA, HK1, ⟨m1, rfl⟩⟩ := hrel
    cases gk with
    | zero => exact absurd HA.out (by simp [furlongref01_Has.l0])
    | succ k1 =>
      have H := HA.out
      clear HA
      simp only [furlongref01_Has.l0] at H
      by_cases c3 : x9_1 < (l0.length : Int)
      · rw [if_pos c3] at H
        have c3b0 : decide (x9_1 < (l0.length : Int)) = true := decide_eq_true c3
        clear c3
        by_cases c4 : 0 ≤ x9_1
        · rw [if_pos c4] at H
          have c4b0 : decide (0 ≤ x9_1) = true := decide_eq_true c4
          clear c4
          by_cases c5 : x9_1 < (l0.length : Int)
          · rw [if_pos c5] at H
            have c5b0 : decide (x9_1 < (l0.length : Int)) = true := decide_eq_true c5
            clear c5
            by_cases c6 : (rd l0 x9_1) = a1
            · rw [if_pos c6] at H
              have c6b0 : ((rd l0 x9_1) == a1) = true := beq_iff_eq.mpr c6
              have c6b1 : ((rd l0 x9_1) != a1) = false := bne_eq_false_iff_eq.mpr c6
              clear c6
              obtain rfl := Option.some.inj H
              have p134 : 0 ≤ (x9_1 : Int) := of_decide_eq_true (by first | (with_reducible assumption) | assumption)
              have q134 : x9_1 < (l0.length : Int) := of_decide_eq_true (by first | (with_reducible assumption) | assumption)
              obtain ⟨ad134, e134, hx134_0⟩ := Kd.at_int HR0.out x9_1 p134 q134
              cases e134
              replace p134 := eq_true p134
              replace q134 := eq_true q134
              go_wp2
              go_ret
              exact ⟨by first | rfl | (simp; done) | (simp [*]; done), by repeat (first | exact Drawn0.refl _ | apply Drawn0.step)⟩
            · rw [if_neg c6] at H
              have c6b0 : ((rd l0 x9_1) == a1) = false := beq_eq_false_iff_ne.mpr c6
              have c6b1 : ((rd l0 x9_1) != a1) = true := bne_iff_ne.mpr c6
              have H' := Aside0.mk H
              clear H
              have p134 : 0 ≤ (x9_1 : Int) := of_decide_eq_true (by first | (with_reducible assumption) | assumption)
              have q134 : x9_1 < (l0.length : Int) := of_decide_eq_true (by first | (with_reducible assumption) | assumption)
              obtain ⟨ad134, e134, hx134_0⟩ := Kd.at_int HR0.out x9_1 p134 q134
              cases e134
              replace p134 := eq_true p134
              replace q134 := eq_true q134
              go_wp2
              go_roundg k1
              case measure => have := HK1.out; omega
              case rel => exact ⟨(wrap64 (x9_1 + 1)), (by first | rfl | (simp; done) | (simp [*]; done)), H', ⟨by have := HK1.out; omega⟩, by repeat (first | exact Drawn0.refl _ | apply Drawn0.step)⟩
          · rw [if_neg c5] at H
            exact absurd H (by simp)
        · rw [if_neg c4] at H
          exact absurd H (by simp)
      · rw [if_neg c3] at H
        have c3b0 : decide (x9_1 < (l0.length : Int)) = false := decide_eq_false c3
        clear c3
        obtain rfl := Option.some.inj H
        go_wp2
        go_ret
        exact ⟨by first | rfl | (simp; done) | (simp [*]; done), by repeat (first | exact Drawn0.refl _ | apply Drawn0.step)⟩

end Go.Proofs.Ytkbcjagkacijnaa.PPl
end
section
namespace Go.Proofs.Ytkbcjagkacijnaa.PPl
open Go.RowKit Go.Proofs.YtkbcjagkacijnaaW.PrintWords Go.Proofs.YtkbcjagkacijnaaW.PrintLast
set_option linter.unusedVariables false
set_option linter.unusedSimpArgs false
theorem has_ev (c : Int) (l : List Int) (hl : l.length < 4611686018427387904) : Ev (fun k => furlongref01_Has.f k l c) (l.contains c) := by
  have key : ∀ (n i : Nat), i + n = l.length → Ev (fun k => furlongref01_Has.l0 k c l (l.length : Int) (i : Int)) ((l.drop i).contains c) := by
    intro n
    induction n with
    | zero =>
      intro i hi
      refine Ev.step (h := fun _ => some false) (fun k => ?_) ((Ev.of fun _ => rfl).eq ?_)
      · simp only [furlongref01_Has.l0]
        rw [if_neg (by omega)]
      · rw [List.drop_of_length_le (by omega)]; rfl
    | succ n ih =>
      intro i hi
      have hlt : i < l.length := by omega
      have hd : l.drop i = l[i] :: l.drop (i + 1) := List.drop_eq_getElem_cons hlt
      by_cases e : l[i] = c
      · refine Ev.step (h := fun _ => some true) (fun k => ?_) ((Ev.of fun _ => rfl).eq ?_)
        · simp only [furlongref01_Has.l0]
          rw [if_pos (by omega), if_pos (by omega), if_pos (by omega), rdI_get hlt, if_pos e]
        · rw [hd, List.contains_cons, e]; simp
      · refine Ev.step (h := fun k => furlongref01_Has.l0 k c l (l.length : Int) ((i + 1 : Nat) : Int)) (fun k => ?_) ((ih (i + 1) (by omega)).eq ?_)
        · simp only [furlongref01_Has.l0]
          rw [if_pos (by omega), if_pos (by omega), if_pos (by omega), rdI_get hlt, if_neg e, w_succ (by omega)]
        · rw [hd, List.contains_cons]
          have : (c == l[i]) = false := by simp; exact fun h => e h.symm
          rw [this, Bool.false_or]
  have := key l.length 0 (by omega)
  simpa [furlongref01_Has.f] using this
def riseB : List Int → Bool
  | [] => true
  | c :: cs => risesFrom c cs
theorem rises_ev (l : List Int) (hl : l.length < 4611686018427387904) : Ev (fun k => furlongref01_Rises.f k l) (riseB l) := by
  have key : ∀ (n i : Nat), i + 1 + n = l.length → Ev (fun k => furlongref01_Rises.l0 k l (l.length : Int) ((i + 1 : Nat) : Int)) (risesFrom (l.getD i 0) (l.drop (i + 1))) := by
    intro n
    induction n with
    | zero =>
      intro i hi
      refine Ev.step (h := fun _ => some true) (fun k => ?_) ((Ev.of fun _ => rfl).eq ?_)
      · simp only [furlongref01_Rises.l0]
        rw [if_neg (by omega)]
      · rw [List.drop_of_length_le (by omega)]; rfl
    | succ n ih =>
      intro i hi
      have hlt : i + 1 < l.length := by omega
      have hd : l.drop (i + 1) = l[i + 1] :: l.drop (i + 2) := List.drop_eq_getElem_cons hlt
      have hw : wrap64 (((i + 1 : Nat) : Int) - 1) = (i : Int) := by rw [w64_id (by omega)]; omega
      have hg : l.getD i 0 = l[i] := by simp [show i < l.length by omega]
      by_cases e : l[i] ≥ l[i + 1]
      · refine Ev.step (h := fun _ => some false) (fun k => ?_) ((Ev.of fun _ => rfl).eq ?_)
        · simp only [furlongref01_Rises.l0, hw]
          rw [if_pos (by omega), if_pos (by omega), if_pos (by omega), if_pos (by omega), if_pos (by omega), if_pos (by omega), rdI_get hlt, rdI_get (show i < l.length by omega), if_pos e]
        · rw [hd, risesFrom, hg, decide_eq_false (by omega)]; rfl
      · refine Ev.step (h := fun k => furlongref01_Rises.l0 k l (l.length : Int) ((i + 1 + 1 : Nat) : Int)) (fun k => ?_) ((ih (i + 1) (by omega)).eq ?_)
        · simp only [furlongref01_Rises.l0, hw]
          rw [if_pos (by omega), if_pos (by omega), if_pos (by omega), if_pos (by omega), if_pos (by omega), if_pos (by omega), rdI_get hlt, rdI_get (show i < l.length by omega), if_neg e, w_succ (by omega)]
        · rw [hd, risesFrom, hg, decide_eq_true (show l[i] < l[i + 1] by omega), Bool.true_and]
          simp [hlt]
  cases l with
  | nil =>
    refine Ev.step (h := fun _ => some true) (fun k => ?_) (Ev.of fun _ => rfl)
    simp only [furlongref01_Rises.f, furlongref01_Rises.l0]
    rfl
  | cons c cs =>
    refine Ev.step (h := fun k => furlongref01_Rises.l0 k (c :: cs) ((c :: cs).length : Int) ((0 + 1 : Nat) : Int)) (fun k => ?_) ((key cs.length 0 (by simp; omega)).eq (by simp [riseB]))
    simp only [furlongref01_Rises.f, furlongref01_Rises.l0]
    rw [if_pos (by simp), if_neg (by omega), w64_id (by omega)]
    rfl
theorem node_ev (id : Int) (l : List S46) (hl : l.length < 4611686018427387904) : Ev (fun k => furlongref07_Node.f k l id) (match l.find? (fun n => n.f0 == id) with
    | none => (0, 0, 0, 0, 0, false)
    | some n => (n.f0, n.f1, n.f2, n.f3, n.f4, true)) := by
  have key : ∀ (n i : Nat), i + n = l.length → Ev (fun k => furlongref07_Node.l0 k id l (l.length : Int) (i : Int)) (match (l.drop i).find? (fun n => n.f0 == id) with
    | none => (0, 0, 0, 0, 0, false)
    | some n => (n.f0, n.f1, n.f2, n.f3, n.f4, true)) := by
    intro n
    induction n with
    | zero =>
      intro i hi
      refine Ev.step (h := fun _ => some (0, 0, 0, 0, 0, false)) (fun k => ?_) ((Ev.of fun _ => rfl).eq ?_)
      · simp only [furlongref07_Node.l0]
        rw [if_neg (by omega)]
      · rw [List.drop_of_length_le (by omega)]; rfl
    | succ n ih =>
      intro i hi
      have hlt : i < l.length := by omega
      have hd : l.drop i = l[i] :: l.drop (i + 1) := List.drop_eq_getElem_cons hlt
      by_cases e : l[i].f0 = id
      · refine Ev.step (h := fun _ => some (l[i].f0, l[i].f1, l[i].f2, l[i].f3, l[i].f4, true)) (fun k => ?_) ((Ev.of fun _ => rfl).eq ?_)
        · simp only [furlongref07_Node.l0]
          rw [if_pos (by omega), if_pos (by omega), if_pos (by omega), rd46_get hlt, if_pos e]
        · rw [hd, List.find?_cons_of_pos (by simpa using e)]
      · refine Ev.step (h := fun k => furlongref07_Node.l0 k id l (l.length : Int) ((i + 1 : Nat) : Int)) (fun k => ?_) ((ih (i + 1) (by omega)).eq ?_)
        · simp only [furlongref07_Node.l0]
          rw [if_pos (by omega), if_pos (by omega), if_pos (by omega), rd46_get hlt, if_neg e, w_succ (by omega)]
        · rw [hd, List.find?_cons_of_neg (by simpa using e)]
  have := key l.length 0 (by omega)
  simpa [furlongref07_Node.f] using this
theorem cores_ev (l : List Int) (a0 a1 a2 a3 a4 : Int) (hl : l.length < 4611686018427387904) : Ev (fun k => furlongref07_cores.f k l a0 a1 a2 a3 a4) (l.all (fun c => decide (0 ≤ c) && decide (c < a1)) && riseB l) := by
  have key : ∀ (n i : Nat), i + n = l.length → Ev (fun k => furlongref07_cores.l0 k l l (l.length : Int) (i : Int) a0 a1 a2 a3 a4) ((l.drop i).all (fun c => decide (0 ≤ c) && decide (c < a1)) && riseB l) := by
    intro n
    induction n with
    | zero =>
      intro i hi
      refine Ev.step (h := fun k => (furlongref01_Rises.f k l).bind fun t140 => some t140) (fun k => ?_) ?_
      · simp only [furlongref07_cores.l0]
        rw [if_neg (by omega)]
      · refine Ev.bind (rises_ev l hl) ((Ev.of fun _ => rfl).eq ?_)
        rw [List.drop_of_length_le (by omega)]; simp
    | succ n ih =>
      intro i hi
      have hlt : i < l.length := by omega
      have hd : l.drop i = l[i] :: l.drop (i + 1) := List.drop_eq_getElem_cons hlt
      by_cases e : 0 ≤ l[i] ∧ l[i] < a1
      · refine Ev.step (h := fun k => furlongref07_cores.l0 k l l (l.length : Int) ((i + 1 : Nat) : Int) a0 a1 a2 a3 a4) (fun k => ?_) ((ih (i + 1) (by omega)).eq ?_)
        · simp only [furlongref07_cores.l0]
          rw [if_pos (by omega), if_pos (by omega), if_pos (by omega), rdI_get hlt, if_neg (by omega), if_neg (by omega), w_succ (by omega)]
        · rw [hd, List.all_cons, decide_eq_true e.1, decide_eq_true e.2]; rfl
      · refine Ev.step (h := fun _ => some false) (fun k => ?_) ((Ev.of fun _ => rfl).eq ?_)
        · simp only [furlongref07_cores.l0]
          rw [if_pos (by omega), if_pos (by omega), if_pos (by omega), rdI_get hlt]
          by_cases e1 : l[i] < 0
          · rw [if_pos e1]
          · rw [if_neg e1, if_pos (by omega)]
        · rw [hd, List.all_cons]
          have : (decide (0 ≤ l[i]) && decide (l[i] < a1)) = false := by simpa using e
          rw [this]; rfl
  have := key l.length 0 (by omega)
  simpa [furlongref07_cores.f] using this
theorem cores_rise (a1 : Int) : ∀ (l : List Int), (l.all (fun c => decide (0 ≤ c) && decide (c < a1)) && riseB l) = (risesFrom (-1) l && l.all (fun c => decide (c < a1)))
  | [] => rfl
  | c :: cs => by
    rw [Bool.eq_iff_iff]
    simp only [riseB, risesFrom, List.all_cons, Bool.and_eq_true, decide_eq_true_eq, List.all_eq_true]
    constructor
    · rintro ⟨⟨⟨h1, h2⟩, h3⟩, h4⟩
      exact ⟨⟨by omega, h4⟩, h2, fun x hx => (h3 x hx).2⟩
    · rintro ⟨⟨h1, h4⟩, h2, h3⟩
      exact ⟨⟨⟨by omega, h2⟩, fun x hx => ⟨by have := rises_gt h4 x hx; omega, h3 x hx⟩⟩, h4⟩
section
variable (nodes : List S46) (leases : List S50)
/-- The inner loops of form: no core of an earlier lease of this node, and not too much memory. -/
def freeOf (x : S50) (pre : List S50) : Bool := ((pre.filter fun y => y.f2 == x.f2).all fun y => y.f3.all fun c => !x.f3.contains c)
end
section
variable (nodes : List S46) (leases : List S50)
theorem freeOf_taken (x : S50) (pre : List S50) : freeOf x pre = x.f3.all (fun c => !(takenOf x.f2 pre).contains c) := by
  rw [Bool.eq_iff_iff]
  simp only [freeOf, takenOf, List.all_eq_true, Bool.not_eq_true', List.contains_eq_mem, decide_eq_false_iff_not, List.mem_flatMap]
  constructor
  · rintro h c hc ⟨y, hy, hcy⟩
    exact h y hy c hcy hc
  · intro h y hy c hcy hc
    exact h c hc ⟨y, hy, hcy⟩
end
section
variable (nodes : List S46) (leases : List S50)
theorem freeOf_cons_same {x y : S50} {l : List S50} (h : y.f2 = x.f2) : freeOf x (y :: l) = (y.f3.all (fun c => !x.f3.contains c) && freeOf x l) := by simp [freeOf, h]
end
section
variable (nodes : List S46) (leases : List S50)
theorem freeOf_cons_other {x y : S50} {l : List S50} (h : y.f2 ≠ x.f2) : freeOf x (y :: l) = freeOf x l := by simp [freeOf, h]
end
section
variable (nodes : List S46) (leases : List S50)
theorem freeOf_app (x : S50) (l r : List S50) : freeOf x (l ++ r) = (freeOf x l && freeOf x r) := by simp [freeOf, List.filter_append]
end
section
variable (nodes : List S46) (leases : List S50)
theorem okLease_eq {n : S46} {pre : List S50} {x : S50} (hn : x.f2 = n.f0) (hm : 0 ≤ memOf n.f0 pre) (h2 : n.f2 ≤ 1099511627776) :
    okLease n pre x = (x.f3.all (fun c => decide (0 ≤ c) && decide (c < n.f1)) && riseB x.f3 && (decide (0 ≤ x.f4) && decide (x.f4 ≤ 1099511627776)) && (freeOf x pre && decide (x.f4 + memOf x.f2 pre ≤ n.f2))) := by
  rw [cores_rise, freeOf_taken, hn, Bool.eq_iff_iff]
  unfold okLease
  simp only [Bool.and_eq_true, decide_eq_true_eq, List.all_eq_true]
  constructor
  · rintro ⟨⟨⟨h1, h2⟩, h3⟩, h4⟩
    exact ⟨⟨⟨h3, fun c hc => (h4 c hc).1⟩, h1, by omega⟩, fun c hc => (h4 c hc).2, by omega⟩
  · rintro ⟨⟨⟨h1, h2⟩, h3, h4⟩, h5, h6⟩
    exact ⟨⟨⟨h3, by omega⟩, h1⟩, fun c hc => ⟨h2 c hc, h5 c hc⟩⟩
end
end Go.Proofs.Ytkbcjagkacijnaa.PPl
end
section
namespace Go.Proofs.Ytkbcjagkacijnaa.PPl
open Go.RowKit Go.Shelf Go.Maps Go.Proofs.Ytkbcjagkacijnaa.Iter Go.Proofs.YtkbcjagkacijnaaW.PrintWords Go.Proofs.YtkbcjagkacijnaaW.PrintLast
set_option linter.unusedVariables false
set_option linter.unusedSimpArgs false
def smallB (l0 : List S46) (l1 : List S50) : Bool := decide (l0.length < 4611686018427387904) && decide (l1.length < 4611686018427387904) && l1.all (fun y => decide (y.f3.length < 4611686018427387904))
def furlongref07_form.f (l0 : List S46) (l1 : List S50) : Option Bool := if smallB l0 l1 = true then some (formB l0 l1) else none
theorem valid_bad {nodes : List S46} {pre l : List S50} {x : S50} (h : (match nodes.find? (fun n => n.f0 == x.f2) with
    | none => false
    | some n => okLease n pre x) = false) : validFrom nodes pre (x :: l) = false := by
  rw [validFrom]
  cases hf : nodes.find? (fun n => n.f0 == x.f2) with
  | none => rfl
  | some n => rw [hf] at h; simp only at h ⊢; rw [h]; rfl
theorem valid_good {nodes : List S46} {pre l : List S50} {x : S50} {n : S46} (hf : nodes.find? (fun n => n.f0 == x.f2) = some n) (h : okLease n pre x = true) : validFrom nodes pre (x :: l) = validFrom nodes (pre ++ [x]) l := by
  rw [validFrom, hf]
  simp only
  rw [h]; rfl
theorem all_snoc (l : List Int) (m : Nat) (p : Int → Bool) (h : m < l.length) : (l.take (m + 1)).all p = ((l.take m).all p && p l[m]) := by
  rw [List.take_succ_eq_append_getElem h, List.all_append]; simp

set_option maxRecDepth 100000 in
set_option maxHeartbeats 8000000 in
theorem furlongref07_form.calls (A0 : Option Addr) (c0 : Nat) (l0 : List S46) (A1 : Option Addr) (c1 : Nat) (l1 : List S50) (r : Bool) (w : World) (hr0 : Kd.C k46 w A0 l0.length l0) (hc0 : l0.length ≤ c0) (hr1 : Kd.C k50 w A1 l1.length l1) (hc1 : l1.length ≤ c1) (h : furlongref07_form.f l0 l1 = some r) :
    Calls Try.prog 116 #[.slice A0 l0.length c0, .slice A1 l1.length c1] w fun e w' => e = .returned (.bool r) ∧ Below w.heap.size w w' := by
  unfold furlongref07_form.f at h
  split at h
  rotate_left
  · cases h
  rename_i hsm
  obtain rfl := Option.some.inj h
  clear h
  unfold smallB at hsm
  rw [Bool.and_eq_true, Bool.and_eq_true, decide_eq_true_eq, decide_eq_true_eq, List.all_eq_true] at hsm
  obtain ⟨⟨s0, s1⟩, s2⟩ := hsm
  have s2' := Lib.hid s2
  clear s2
  have hF' := Lib.hid (show formB l0 l1 = formB l0 l1 from rfl)
  generalize hr : formB l0 l1 = r at *
  have hFr := Lib.hid hr
  clear hr hF'
  go_enter Try.func116, Try.ntmps116
  go_wp2
  go_loopw [18] (fun iv wr => ∃ (k : Nat), iv = .int .i64 k ∧ k ≤ l0.length ∧ ndsOK (-1) (l0.take k) = true ∧ Below w.heap.size w wr)
    (fun iv _ => l0.length - (intOf iv).toNat)
  case atStart => exact ⟨0, rfl, Nat.zero_le _, rfl, Below.refl _ _⟩
  case round => as_aux_lemma =>
    obtain ⟨k, rfl, hk, hnd, hbel⟩ := hrel
    by_cases hlt : k < l0.length
    · obtain ⟨nd, hndv⟩ : ∃ nd, rd_T46 l0 (k : Int) = nd := ⟨_, rfl⟩
      obtain ⟨ad, hA, q0, q1, q2, q3, q4⟩ := at_T46 hr0 (k : Int) (by omega) (by omega)
      subst hA
      rw [hndv, Int.toNat_natCast] at q0 q1 q2 q3 q4
      have hst := nds_step hlt
      rw [hnd, Bool.true_and, hndv] at hst
      have adl : (ad.add (k * 5)).block < w.heap.size := World.block_lt_of_cell? w _ q0
      replace q0 := (hbel.cell adl).trans q0
      replace q1 := (hbel.cell (p := ⟨(ad.add (k * 5)).block, (ad.add (k * 5)).off + 1, none⟩) adl).trans q1
      replace q2 := (hbel.cell (p := ⟨(ad.add (k * 5)).block, (ad.add (k * 5)).off + 2, none⟩) adl).trans q2
      replace q3 := (hbel.cell (p := ⟨(ad.add (k * 5)).block, (ad.add (k * 5)).off + 3, none⟩) adl).trans q3
      replace q4 := (hbel.cell (p := ⟨(ad.add (k * 5)).block, (ad.add (k * 5)).off + 4, none⟩) adl).trans q4
      have hbel' := Lib.hid hbel
      cases hok : ndOK (pvId l0 k) nd
      · obtain rfl : r = false := by
          rw [← hFr.out, formB, Bool.and_eq_false_iff]
          left
          cases hq : ndsOK (-1) l0
          · rfl
          · have := nds_take l0 (-1) (k + 1) hq
            rw [hst, hok] at this
            cases this
        simp only [ndOK, Bool.and_eq_false_iff, decide_eq_false_iff_not] at hok
        have hok' := Lib.hid hok
        clear hok hst hnd hndv hr1
        by_cases c1 : nd.f0 < 0
        · have d1 : decide (nd.f0 < 0) = true := decide_eq_true c1
          go_wp2
          go_quiet (fail)
          go_wp2
          go_ret
          exact ⟨rfl, by first | exact pw_below_drewN (hbel'.out.alloc hbel'.out.size _) _ | exact (hbel'.out.alloc hbel'.out.size _).drew | exact hbel'.out.alloc hbel'.out.size _⟩
        · have d1 : decide (nd.f0 < 0) = false := decide_eq_false c1
          rcases Nat.eq_zero_or_pos k with hk0 | hk0
          · have d2 : decide (0 < k) = false := decide_eq_false (by omega)
            have hk0' := Lib.hid hk0
            clear hk0
            by_cases c3 : nd.f1 < 1
            · have d3 : decide (nd.f1 < 1) = true := decide_eq_true c3
              go_wp2
              go_quiet (fail)
              go_wp2
              go_ret
              exact ⟨rfl, by first | exact pw_below_drewN (hbel'.out.alloc hbel'.out.size _) _ | exact (hbel'.out.alloc hbel'.out.size _).drew | exact hbel'.out.alloc hbel'.out.size _⟩
            · have d3 : decide (nd.f1 < 1) = false := decide_eq_false c3
              by_cases c4 : 64 < nd.f1
              · have d4 : decide (64 < nd.f1) = true := decide_eq_true c4
                go_wp2
                go_quiet (fail)
                go_wp2
                go_ret
                exact ⟨rfl, by first | exact pw_below_drewN (hbel'.out.alloc hbel'.out.size _) _ | exact (hbel'.out.alloc hbel'.out.size _).drew | exact hbel'.out.alloc hbel'.out.size _⟩
              · have d4 : decide (64 < nd.f1) = false := decide_eq_false c4
                by_cases c5 : nd.f2 < 0
                · have d5 : decide (nd.f2 < 0) = true := decide_eq_true c5
                  go_wp2
                  go_quiet (fail)
                  go_wp2
                  go_ret
                  exact ⟨rfl, by first | exact pw_below_drewN (hbel'.out.alloc hbel'.out.size _) _ | exact (hbel'.out.alloc hbel'.out.size _).drew | exact hbel'.out.alloc hbel'.out.size _⟩
                · have d5 : decide (nd.f2 < 0) = false := decide_eq_false c5
                  by_cases c6 : 1099511627776 < nd.f2
                  · have d6 : decide (1099511627776 < nd.f2) = true := decide_eq_true c6
                    go_wp2
                    go_quiet (fail)
                    go_wp2
                    go_ret
                    exact ⟨rfl, by first | exact pw_below_drewN (hbel'.out.alloc hbel'.out.size _) _ | exact (hbel'.out.alloc hbel'.out.size _).drew | exact hbel'.out.alloc hbel'.out.size _⟩
                  · have d6 : decide (1099511627776 < nd.f2) = false := decide_eq_false c6
                    exfalso
                    have hp : pvId l0 k = -1 := by rw [hk0'.out]; rfl
                    have := hok'.out
                    omega
          · have hz_ : True := trivial
            have d2 : decide (0 < k) = true := decide_eq_true (by omega)
            obtain ⟨ad2, hA2, z0, z1, z2, z3, z4⟩ := at_T46 hr0 ((k : Int) - 1) (by omega) (by omega)
            obtain rfl := Option.some.inj hA2
            have adl2 := World.block_lt_of_cell? w _ z0
            replace z0 := (hbel.cell adl2).trans z0
            have hpv : (rd_T46 l0 ((k : Int) - 1)).f0 = pvId l0 k := by
              obtain ⟨m, rfl⟩ : ∃ m, k = m + 1 := ⟨k - 1, by omega⟩
              show (rd_T46 l0 (((m + 1 : Nat) : Int) - 1)).f0 = (rd_T46 l0 (m : Int)).f0
              rw [show ((m + 1 : Nat) : Int) - 1 = (m : Int) by omega]
            rw [hpv, show ((k : Int) - 1).toNat = k - 1 by omega] at z0
            have hsz2 := hbel.size
            have z5 : (wr.alloc (.cells #[.int .i64 nd.f0, .int .i64 nd.f1, .int .i64 nd.f2, .int .i64 nd.f3, .int .i64 nd.f4] 46)).cell? (ad.add ((k - 1) * 5)) = some (.int .i64 (pvId l0 k)) := by
              rw [World.cell?_alloc_lt _ _ _ (by rw [add_block] at adl2 ⊢; omega)]
              exact z0
            clear z0 z1 z2 z3 z4 hpv hA2 hsz2
            have hwr : IntKind.i64.wrap ((k : Int) - 1) = ((k - 1 : Nat) : Int) := by rw [IntWalk.i64_in _ (by omega)]; omega
            have hk1 : k - 1 < l0.length := by omega
            by_cases c7 : nd.f0 ≤ pvId l0 k
            · have d7 : decide (nd.f0 ≤ pvId l0 k) = true := decide_eq_true c7
              go_wp2
              go_quiet (fail)
              go_wp2
              go_ret
              exact ⟨rfl, by first | exact pw_below_drewN (hbel'.out.alloc hbel'.out.size _) _ | exact (hbel'.out.alloc hbel'.out.size _).drew | exact hbel'.out.alloc hbel'.out.size _⟩
            · have d7 : decide (nd.f0 ≤ pvId l0 k) = false := decide_eq_false c7
              by_cases c3 : nd.f1 < 1
              · have d3 : decide (nd.f1 < 1) = true := decide_eq_true c3
                go_wp2
                go_quiet (fail)
                go_wp2
                go_ret
                exact ⟨rfl, by first | exact pw_below_drewN (hbel'.out.alloc hbel'.out.size _) _ | exact (hbel'.out.alloc hbel'.out.size _).drew | exact hbel'.out.alloc hbel'.out.size _⟩
              · have d3 : decide (nd.f1 < 1) = false := decide_eq_false c3
                by_cases c4 : 64 < nd.f1
                · have d4 : decide (64 < nd.f1) = true := decide_eq_true c4
                  go_wp2
                  go_quiet (fail)
                  go_wp2
                  go_ret
                  exact ⟨rfl, by first | exact pw_below_drewN (hbel'.out.alloc hbel'.out.size _) _ | exact (hbel'.out.alloc hbel'.out.size _).drew | exact hbel'.out.alloc hbel'.out.size _⟩
                · have d4 : decide (64 < nd.f1) = false := decide_eq_false c4
                  by_cases c5 : nd.f2 < 0
                  · have d5 : decide (nd.f2 < 0) = true := decide_eq_true c5
                    go_wp2
                    go_quiet (fail)
                    go_wp2
                    go_ret
                    exact ⟨rfl, by first | exact pw_below_drewN (hbel'.out.alloc hbel'.out.size _) _ | exact (hbel'.out.alloc hbel'.out.size _).drew | exact hbel'.out.alloc hbel'.out.size _⟩
                  · have d5 : decide (nd.f2 < 0) = false := decide_eq_false c5
                    by_cases c6 : 1099511627776 < nd.f2
                    · have d6 : decide (1099511627776 < nd.f2) = true := decide_eq_true c6
                      go_wp2
                      go_quiet (fail)
                      go_wp2
                      go_ret
                      exact ⟨rfl, by first | exact pw_below_drewN (hbel'.out.alloc hbel'.out.size _) _ | exact (hbel'.out.alloc hbel'.out.size _).drew | exact hbel'.out.alloc hbel'.out.size _⟩
                    · have d6 : decide (1099511627776 < nd.f2) = false := decide_eq_false c6
                      exfalso
                      have := hok'.out
                      omega
      · rw [hok] at hst
        simp only [ndOK, Bool.and_eq_true, decide_eq_true_eq] at hok
        obtain ⟨⟨⟨⟨⟨o1, o2⟩, o3⟩, o4⟩, o5⟩, o6⟩ := hok
        have d1 : decide (nd.f0 < 0) = false := decide_eq_false (by omega)
        have d3 : decide (nd.f1 < 1) = false := decide_eq_false (by omega)
        have d4 : decide (64 < nd.f1) = false := decide_eq_false (by omega)
        have d5 : decide (nd.f2 < 0) = false := decide_eq_false (by omega)
        have d6 : decide (1099511627776 < nd.f2) = false := decide_eq_false (by omega)
        have hst' := Lib.hid hst
        clear hst hnd hndv hr1
        rcases Nat.eq_zero_or_pos k with hk0 | hk0
        · have d2 : decide (0 < k) = false := decide_eq_false (by omega)
          have hk0' := Lib.hid hk0
          clear hk0
          go_wp2
          go_quiet (fail)
          go_wp2
          go_roundw
          case rel => exact ⟨k + 1, by go_num, by omega, hst'.out, by first | exact pw_below_drewN (hbel'.out.alloc hbel'.out.size _) _ | exact (hbel'.out.alloc hbel'.out.size _).drew | exact hbel'.out.alloc hbel'.out.size _⟩
          case measure => simp [intOf]; omega
        · have hz_ : True := trivial
          have d2 : decide (0 < k) = true := decide_eq_true (by omega)
          obtain ⟨ad2, hA2, z0, z1, z2, z3, z4⟩ := at_T46 hr0 ((k : Int) - 1) (by omega) (by omega)
          obtain rfl := Option.some.inj hA2
          have adl2 := World.block_lt_of_cell? w _ z0
          replace z0 := (hbel.cell adl2).trans z0
          have hpv : (rd_T46 l0 ((k : Int) - 1)).f0 = pvId l0 k := by
            obtain ⟨m, rfl⟩ : ∃ m, k = m + 1 := ⟨k - 1, by omega⟩
            show (rd_T46 l0 (((m + 1 : Nat) : Int) - 1)).f0 = (rd_T46 l0 (m : Int)).f0
            rw [show ((m + 1 : Nat) : Int) - 1 = (m : Int) by omega]
          rw [hpv, show ((k : Int) - 1).toNat = k - 1 by omega] at z0
          have hsz2 := hbel.size
          have z5 : (wr.alloc (.cells #[.int .i64 nd.f0, .int .i64 nd.f1, .int .i64 nd.f2, .int .i64 nd.f3, .int .i64 nd.f4] 46)).cell? (ad.add ((k - 1) * 5)) = some (.int .i64 (pvId l0 k)) := by
            rw [World.cell?_alloc_lt _ _ _ (by rw [add_block] at adl2 ⊢; omega)]
            exact z0
          clear z0 z1 z2 z3 z4 hpv hA2 hsz2
          have hwr : IntKind.i64.wrap ((k : Int) - 1) = ((k - 1 : Nat) : Int) := by rw [IntWalk.i64_in _ (by omega)]; omega
          have hk1 : k - 1 < l0.length := by omega
          have d7 : decide (nd.f0 ≤ pvId l0 k) = false := decide_eq_false (by omega)
          go_wp2
          go_quiet (fail)
          go_wp2
          go_roundw
          case rel => exact ⟨k + 1, by go_num, by omega, hst'.out, by first | exact pw_below_drewN (hbel'.out.alloc hbel'.out.size _) _ | exact (hbel'.out.alloc hbel'.out.size _).drew | exact hbel'.out.alloc hbel'.out.size _⟩
          case measure => simp [intOf]; omega
    · have hk' : k = l0.length := by omega
      subst hk'
      rw [List.take_length] at hnd
      obtain ⟨hrise, hbd⟩ := nds_all hnd
      have hFv : validFrom l0 [] l1 = r := by rw [← hFr.out, formB, hnd]; rfl
      have hbig : l1.length ≤ 9223372036854775807 := hr1.2.1
      have m0 : memsOK l0 (l1.take 0) := fun n hn => by have := hbd n hn; show 0 ≤ (0 : Int) ∧ (0 : Int) ≤ n.f2; omega
      have hbd' := Lib.hid hbd
      have hrise' := Lib.hid hrise
      have hFv' := Lib.hid hFv
      clear hbd hrise hFv hnd hFr
      go_wp2
      go_loopw [64] (fun iv wq => ∃ (j : Nat), iv = .int .i64 j ∧ j ≤ l1.length ∧ validFrom l0 (l1.take j) (l1.drop j) = r ∧ (∀ i, i ≤ j → memsOK l0 (l1.take i)) ∧ Below w.heap.size w wq)
        (fun iv _ => l1.length - (intOf iv).toNat)
      case atStart => exact ⟨0, rfl, Nat.zero_le _, by simpa using hFv'.out, (fun i hi => by rw [(by omega : i = 0)]; exact m0), hbel⟩
      case round => as_aux_lemma =>
        clear hbel m0
        obtain ⟨j, rfl, hj, hV, hms, hbel⟩ := hrel
        by_cases hlt2 : j < l1.length
        · have hj1 := hlt2
          obtain ⟨x, hxv⟩ : ∃ x, rd_T50 l1 (j : Int) = x := ⟨_, rfl⟩
          obtain ⟨ad, A3, c3, hA2, q0, q1, q2, q3, q4, q5, q6, q7, l3_, g3_⟩ := at_T50 hr1 (j : Int) (by omega) (by omega)
          subst hA2
          rw [hxv, Int.toNat_natCast] at q0 q1 q2 q3 q4 q5 q6 q7
          rw [hxv] at l3_ g3_
          have hxe : l1[j] = x := by rw [← hxv, rd50_get hlt2]
          have hxs := s2'.out x (hxe ▸ List.getElem_mem hlt2)
          rw [decide_eq_true_eq] at hxs
          have hd : l1.drop j = x :: l1.drop (j + 1) := by rw [List.drop_eq_getElem_cons hlt2, hxe]
          have ht : l1.take (j + 1) = l1.take j ++ [x] := by rw [List.take_succ_eq_append_getElem hlt2, hxe]
          rw [hd] at hV
          have adl : (ad.add (j * 8)).block < w.heap.size := World.block_lt_of_cell? w _ q0
          replace q0 := (hbel.cell adl).trans q0
          replace q1 := (hbel.cell (p := ⟨(ad.add (j * 8)).block, (ad.add (j * 8)).off + 1, none⟩) adl).trans q1
          replace q2 := (hbel.cell (p := ⟨(ad.add (j * 8)).block, (ad.add (j * 8)).off + 2, none⟩) adl).trans q2
          replace q3 := (hbel.cell (p := ⟨(ad.add (j * 8)).block, (ad.add (j * 8)).off + 3, none⟩) adl).trans q3
          replace q4 := (hbel.cell (p := ⟨(ad.add (j * 8)).block, (ad.add (j * 8)).off + 4, none⟩) adl).trans q4
          replace q5 := (hbel.cell (p := ⟨(ad.add (j * 8)).block, (ad.add (j * 8)).off + 5, none⟩) adl).trans q5
          replace q6 := (hbel.cell (p := ⟨(ad.add (j * 8)).block, (ad.add (j * 8)).off + 6, none⟩) adl).trans q6
          replace q7 := (hbel.cell (p := ⟨(ad.add (j * 8)).block, (ad.add (j * 8)).off + 7, none⟩) adl).trans q7
          have bX := Blk.new wr 50 #[.int .i64 x.f0, .int .i64 x.f1, .int .i64 x.f2, .slice A3 x.f3.length c3, .int .i64 x.f4, .int .i64 x.f5, .int .i64 x.f6, .bool x.f7]
          have p2 := bX.cell 2
          simp only [List.getElem?_toArray, List.getElem?_cons_zero, List.getElem?_cons_succ] at p2
          have L1 : Below w.heap.size w (wr.alloc (.cells #[.int .i64 x.f0, .int .i64 x.f1, .int .i64 x.f2, .slice A3 x.f3.length c3, .int .i64 x.f4, .int .i64 x.f5, .int .i64 x.f6, .bool x.f7] 50)) := hbel.alloc hbel.size _
          obtain ⟨kN, hN⟩ := node_ev x.f2 l0 s0
          have hNk := hN kN (Nat.le_refl _)
          clear hN hxv
          have hV' := Lib.hid hV
          have hms' := Lib.hid hms
          have bX' := Lib.hid bX
          have L1' := Lib.hid L1
          have ht' := Lib.hid ht
          have g3' := Lib.hid g3_
          have hxs' := Lib.hid hxs
          have hsw := hbel.size
          have hbel' := Lib.hid hbel
          clear hV hms bX L1 ht g3_ hxs hd hxe hbel
          cases hf : l0.find? (fun n => n.f0 == x.f2) with
          | none =>
            rw [hf] at hNk
            obtain rfl : r = false := by rw [← hV'.out]; exact valid_bad (by rw [hf])
            have hf' := Lib.hid hf
            clear hf
            go_wp2_with (((with_reducible refine gate_callee (f := 95) rfl ?_); refine goesL_ (some 73) rfl rfl Try.func95 (by kernel_rfl) rfl #[.slice A0 l0.length c0, .int .i64 x.f2] rfl (by (try simp only [List.map_toArray, List.map_cons, List.map_nil]); first | done | rfl) ?_; (with_reducible refine (furlongref07_Node.calls kN A0 c0 l0 x.f2 0 0 0 0 0 false _ (Kd.C_below hr0 L1'.out) hc0 hNk).mono ?_); rintro e w10 ⟨rfl, hb⟩; refine ⟨_, rfl, ?_⟩; have L2' := Lib.hid (L1'.out.trans (hb.mono L1'.out.size)); have bX2' := Lib.hid (bX'.out.below hb bX'.out.lt); clear hb; skip))
            go_ret
            exact ⟨rfl, by first | exact L2'.out.alloc (by have := L2'.out.size; exact this) _ | exact (L2'.out.alloc (by have := L2'.out.size; exact this) _).drew | exact pw_below_drewN (L2'.out.alloc (by have := L2'.out.size; exact this) _) _⟩
          | some n =>
            rw [hf] at hNk
            have hnm := List.mem_of_find?_eq_some hf
            have hnx : x.f2 = n.f0 := by have := List.find?_some hf; simp at this; omega
            have hb0 := hbd'.out n hnm
            have hm0 := hms'.out j (Nat.le_refl _) n hnm
            have hok := okLease_eq hnx hm0.1 (by omega : n.f2 ≤ 1099511627776)
            have hbadl : okLease n (l1.take j) x = false → r = false := fun h => by rw [← hV'.out]; exact valid_bad (by rw [hf]; exact h)
            have hgood : okLease n (l1.take j) x = true → validFrom l0 (l1.take (j + 1)) (l1.drop (j + 1)) = r ∧ ∀ i, i ≤ j + 1 → memsOK l0 (l1.take i) := fun h => by
              refine ⟨?_, fun i hi => ?_⟩
              · rw [← hV'.out, valid_good hf h, ht'.out]
              · by_cases e : i = j + 1
                · rw [e, ht'.out]; exact mems_snoc l0 hrise'.out hnm hnx (hms'.out j (Nat.le_refl _)) h
                · exact hms'.out i (by omega)
            obtain ⟨kc, hcv⟩ := cores_ev x.f3 n.f0 n.f1 n.f2 n.f3 n.f4 hxs'.out
            have hck := hcv kc (Nat.le_refl _)
            have hok' := Lib.hid hok
            have hbadl' := Lib.hid hbadl
            have hgood' := Lib.hid hgood
            have hm0' := Lib.hid hm0
            have hb0' := Lib.hid hb0
            have hnm' := Lib.hid hnm
            have hnx' := Lib.hid hnx
            have hf' := Lib.hid hf
            clear hcv hok hbadl hgood hm0 hb0 hnm hnx hf
            cases hcb : (x.f3.all (fun c => decide (0 ≤ c) && decide (c < n.f1)) && riseB x.f3)
            · rw [hcb] at hck
              obtain rfl : r = false := hbadl'.out (by rw [hok'.out, hcb]; rfl)
              clear hcb
              go_wp2_with (first | (((with_reducible refine gate_callee (f := 95) rfl ?_); refine goesL_ (some 73) rfl rfl Try.func95 (by kernel_rfl) rfl #[.slice A0 l0.length c0, .int .i64 x.f2] rfl (by (try simp only [List.map_toArray, List.map_cons, List.map_nil]); first | done | rfl) ?_; (with_reducible refine (furlongref07_Node.calls kN A0 c0 l0 x.f2 n.f0 n.f1 n.f2 n.f3 n.f4 true _ (Kd.C_below hr0 L1'.out) hc0 hNk).mono ?_); rintro e w10 ⟨rfl, hb⟩; refine ⟨_, rfl, ?_⟩; have L2' := Lib.hid (L1'.out.trans (hb.mono L1'.out.size)); have bX2' := Lib.hid (bX'.out.below hb bX'.out.lt); clear hb; have bN := Blk.new w10 46 #[.int .i64 n.f0, .int .i64 n.f1, .int .i64 n.f2, .int .i64 n.f3, .int .i64 n.f4]; have bX3 := bX2'.out.alloc (.cells #[.int .i64 n.f0, .int .i64 n.f1, .int .i64 n.f2, .int .i64 n.f3, .int .i64 n.f4] 46); have p3 := bX3.cell 3; have p4 := bX3.cell 4; have v0 := bN.cell 0; have v1 := bN.cell 1; have v2 := bN.cell 2; have v3 := bN.cell 3; have v4 := bN.cell 4; simp only [List.getElem?_toArray, List.getElem?_cons_zero, List.getElem?_cons_succ] at p3 p4 v0 v1 v2 v3 v4; have bN' := Lib.hid bN; have bX3' := Lib.hid bX3; have L3' := Lib.hid (L2'.out.alloc (by have := L2'.out.size; exact this) (.cells #[.int .i64 n.f0, .int .i64 n.f1, .int .i64 n.f2, .int .i64 n.f3, .int .i64 n.f4] 46)); clear bN bX3)) | (go_at_call 126; refine (furlongref07_cores.calls kc A3 c3 x.f3 n.f0 n.f1 n.f2 n.f3 n.f4 false _ (Kd.C_below g3'.out L3'.out) l3_ hck).mono ?_; rintro e w11 ⟨rfl, hb⟩; have L4' := Lib.hid (L3'.out.trans (hb.mono L3'.out.size)); have bX4 := bX3'.out.below hb bX3'.out.lt; have bN4 := bN'.out.below hb bN'.out.lt; clear hb p2 p3 p4 v0 v1 v2 v3 v4; have p4 := bX4.cell 4; simp only [List.getElem?_toArray, List.getElem?_cons_zero, List.getElem?_cons_succ] at p4; have bX4' := Lib.hid bX4; have bN4' := Lib.hid bN4; clear bX4 bN4))
              go_ret
              exact ⟨rfl, by first | exact L4'.out | exact L4'.out.drew | exact pw_below_drewN L4'.out _⟩
            · rw [hcb] at hck
              by_cases k1 : x.f4 < 0
              · have d1 : decide (x.f4 < 0) = true := decide_eq_true k1
                obtain rfl : r = false := hbadl'.out (by rw [hok'.out, hcb]; simp; omega)
                clear hcb
                go_wp2_with (first | (((with_reducible refine gate_callee (f := 95) rfl ?_); refine goesL_ (some 73) rfl rfl Try.func95 (by kernel_rfl) rfl #[.slice A0 l0.length c0, .int .i64 x.f2] rfl (by (try simp only [List.map_toArray, List.map_cons, List.map_nil]); first | done | rfl) ?_; (with_reducible refine (furlongref07_Node.calls kN A0 c0 l0 x.f2 n.f0 n.f1 n.f2 n.f3 n.f4 true _ (Kd.C_below hr0 L1'.out) hc0 hNk).mono ?_); rintro e w10 ⟨rfl, hb⟩; refine ⟨_, rfl, ?_⟩; have L2' := Lib.hid (L1'.out.trans (hb.mono L1'.out.size)); have bX2' := Lib.hid (bX'.out.below hb bX'.out.lt); clear hb; have bN := Blk.new w10 46 #[.int .i64 n.f0, .int .i64 n.f1, .int .i64 n.f2, .int .i64 n.f3, .int .i64 n.f4]; have bX3 := bX2'.out.alloc (.cells #[.int .i64 n.f0, .int .i64 n.f1, .int .i64 n.f2, .int .i64 n.f3, .int .i64 n.f4] 46); have p3 := bX3.cell 3; have p4 := bX3.cell 4; have v0 := bN.cell 0; have v1 := bN.cell 1; have v2 := bN.cell 2; have v3 := bN.cell 3; have v4 := bN.cell 4; simp only [List.getElem?_toArray, List.getElem?_cons_zero, List.getElem?_cons_succ] at p3 p4 v0 v1 v2 v3 v4; have bN' := Lib.hid bN; have bX3' := Lib.hid bX3; have L3' := Lib.hid (L2'.out.alloc (by have := L2'.out.size; exact this) (.cells #[.int .i64 n.f0, .int .i64 n.f1, .int .i64 n.f2, .int .i64 n.f3, .int .i64 n.f4] 46)); clear bN bX3)) | (go_at_call 126; refine (furlongref07_cores.calls kc A3 c3 x.f3 n.f0 n.f1 n.f2 n.f3 n.f4 true _ (Kd.C_below g3'.out L3'.out) l3_ hck).mono ?_; rintro e w11 ⟨rfl, hb⟩; have L4' := Lib.hid (L3'.out.trans (hb.mono L3'.out.size)); have bX4 := bX3'.out.below hb bX3'.out.lt; have bN4 := bN'.out.below hb bN'.out.lt; clear hb p2 p3 p4 v0 v1 v2 v3 v4; have p4 := bX4.cell 4; simp only [List.getElem?_toArray, List.getElem?_cons_zero, List.getElem?_cons_succ] at p4; have bX4' := Lib.hid bX4; have bN4' := Lib.hid bN4; clear bX4 bN4))
                go_ret
                exact ⟨rfl, by first | exact L4'.out | exact L4'.out.drew | exact pw_below_drewN L4'.out _⟩
              · have d1 : decide (x.f4 < 0) = false := decide_eq_false k1
                by_cases k2 : 1099511627776 < x.f4
                · have d2 : decide (1099511627776 < x.f4) = true := decide_eq_true k2
                  obtain rfl : r = false := hbadl'.out (by rw [hok'.out, hcb]; simp; omega)
                  clear hcb
                  go_wp2_with (first | (((with_reducible refine gate_callee (f := 95) rfl ?_); refine goesL_ (some 73) rfl rfl Try.func95 (by kernel_rfl) rfl #[.slice A0 l0.length c0, .int .i64 x.f2] rfl (by (try simp only [List.map_toArray, List.map_cons, List.map_nil]); first | done | rfl) ?_; (with_reducible refine (furlongref07_Node.calls kN A0 c0 l0 x.f2 n.f0 n.f1 n.f2 n.f3 n.f4 true _ (Kd.C_below hr0 L1'.out) hc0 hNk).mono ?_); rintro e w10 ⟨rfl, hb⟩; refine ⟨_, rfl, ?_⟩; have L2' := Lib.hid (L1'.out.trans (hb.mono L1'.out.size)); have bX2' := Lib.hid (bX'.out.below hb bX'.out.lt); clear hb; have bN := Blk.new w10 46 #[.int .i64 n.f0, .int .i64 n.f1, .int .i64 n.f2, .int .i64 n.f3, .int .i64 n.f4]; have bX3 := bX2'.out.alloc (.cells #[.int .i64 n.f0, .int .i64 n.f1, .int .i64 n.f2, .int .i64 n.f3, .int .i64 n.f4] 46); have p3 := bX3.cell 3; have p4 := bX3.cell 4; have v0 := bN.cell 0; have v1 := bN.cell 1; have v2 := bN.cell 2; have v3 := bN.cell 3; have v4 := bN.cell 4; simp only [List.getElem?_toArray, List.getElem?_cons_zero, List.getElem?_cons_succ] at p3 p4 v0 v1 v2 v3 v4; have bN' := Lib.hid bN; have bX3' := Lib.hid bX3; have L3' := Lib.hid (L2'.out.alloc (by have := L2'.out.size; exact this) (.cells #[.int .i64 n.f0, .int .i64 n.f1, .int .i64 n.f2, .int .i64 n.f3, .int .i64 n.f4] 46)); clear bN bX3)) | (go_at_call 126; refine (furlongref07_cores.calls kc A3 c3 x.f3 n.f0 n.f1 n.f2 n.f3 n.f4 true _ (Kd.C_below g3'.out L3'.out) l3_ hck).mono ?_; rintro e w11 ⟨rfl, hb⟩; have L4' := Lib.hid (L3'.out.trans (hb.mono L3'.out.size)); have bX4 := bX3'.out.below hb bX3'.out.lt; have bN4 := bN'.out.below hb bN'.out.lt; clear hb p2 p3 p4 v0 v1 v2 v3 v4; have p4 := bX4.cell 4; simp only [List.getElem?_toArray, List.getElem?_cons_zero, List.getElem?_cons_succ] at p4; have bX4' := Lib.hid bX4; have bN4' := Lib.hid bN4; clear bX4 bN4))
                  go_ret
                  exact ⟨rfl, by first | exact L4'.out | exact L4'.out.drew | exact pw_below_drewN L4'.out _⟩
                · have d2 : decide (1099511627776 < x.f4) = false := decide_eq_false k2
                  have hjc : (j : Int) ≤ (c1 : Int) := by omega
                  have hok2 : okLease n (l1.take j) x = (freeOf x (l1.take j) && decide (x.f4 + memOf x.f2 (l1.take j) ≤ n.f2)) := by
                    rw [hok'.out, hcb, decide_eq_true (show 0 ≤ x.f4 by omega), decide_eq_true (show x.f4 ≤ 1099511627776 by omega)]; rfl
                  have hok2' := Lib.hid hok2
                  clear hcb hok2
                  go_wp2_with (first | (((with_reducible refine gate_callee (f := 95) rfl ?_); refine goesL_ (some 73) rfl rfl Try.func95 (by kernel_rfl) rfl #[.slice A0 l0.length c0, .int .i64 x.f2] rfl (by (try simp only [List.map_toArray, List.map_cons, List.map_nil]); first | done | rfl) ?_; (with_reducible refine (furlongref07_Node.calls kN A0 c0 l0 x.f2 n.f0 n.f1 n.f2 n.f3 n.f4 true _ (Kd.C_below hr0 L1'.out) hc0 hNk).mono ?_); rintro e w10 ⟨rfl, hb⟩; refine ⟨_, rfl, ?_⟩; have L2' := Lib.hid (L1'.out.trans (hb.mono L1'.out.size)); have bX2' := Lib.hid (bX'.out.below hb bX'.out.lt); clear hb; have bN := Blk.new w10 46 #[.int .i64 n.f0, .int .i64 n.f1, .int .i64 n.f2, .int .i64 n.f3, .int .i64 n.f4]; have bX3 := bX2'.out.alloc (.cells #[.int .i64 n.f0, .int .i64 n.f1, .int .i64 n.f2, .int .i64 n.f3, .int .i64 n.f4] 46); have p3 := bX3.cell 3; have p4 := bX3.cell 4; have v0 := bN.cell 0; have v1 := bN.cell 1; have v2 := bN.cell 2; have v3 := bN.cell 3; have v4 := bN.cell 4; simp only [List.getElem?_toArray, List.getElem?_cons_zero, List.getElem?_cons_succ] at p3 p4 v0 v1 v2 v3 v4; have bN' := Lib.hid bN; have bX3' := Lib.hid bX3; have L3' := Lib.hid (L2'.out.alloc (by have := L2'.out.size; exact this) (.cells #[.int .i64 n.f0, .int .i64 n.f1, .int .i64 n.f2, .int .i64 n.f3, .int .i64 n.f4] 46)); clear bN bX3)) | (go_at_call 126; refine (furlongref07_cores.calls kc A3 c3 x.f3 n.f0 n.f1 n.f2 n.f3 n.f4 true _ (Kd.C_below g3'.out L3'.out) l3_ hck).mono ?_; rintro e w11 ⟨rfl, hb⟩; have L4' := Lib.hid (L3'.out.trans (hb.mono L3'.out.size)); have bX4 := bX3'.out.below hb bX3'.out.lt; have bN4 := bN'.out.below hb bN'.out.lt; clear hb p2 p3 p4 v0 v1 v2 v3 v4; have p4 := bX4.cell 4; simp only [List.getElem?_toArray, List.getElem?_cons_zero, List.getElem?_cons_succ] at p4; have bX4' := Lib.hid bX4; have bN4' := Lib.hid bN4; clear bX4 bN4))
                  generalize hXBe : wr.heap.size = XB at *
                  clear hXBe
                  have hXB : XB < w11.heap.size := bX4'.out.lt
                  have hNB : w10.heap.size < w11.heap.size := bN4'.out.lt
                  go_loopw [11, 101] (fun mv iv ws => ∃ (i : Nat), mv = .int .i64 (x.f4 + memOf x.f2 (l1.take i)) ∧ iv = .int .i64 i ∧ i ≤ j ∧ freeOf x (l1.take i) = true ∧ Blk ws XB 50 #[.int .i64 x.f0, .int .i64 x.f1, .int .i64 x.f2, .slice A3 x.f3.length c3, .int .i64 x.f4, .int .i64 x.f5, .int .i64 x.f6, .bool x.f7] ∧ Blk ws w10.heap.size 46 #[.int .i64 n.f0, .int .i64 n.f1, .int .i64 n.f2, .int .i64 n.f3, .int .i64 n.f4] ∧ Below w.heap.size w ws)
                    (fun _ iv _ => j - (intOf iv).toNat)
                  case atStart => exact ⟨0, by first | (simp [memOf]; done) | rfl, rfl, Nat.zero_le _, rfl, bX4'.out, bN4'.out, L4'.out⟩
                  case round => as_aux_lemma =>
                    obtain ⟨i, rfl, rfl, hij, hfr, bX5, bN5, hbel5⟩ := hrel
                    clear p4
                    have hm1 := hms'.out
                    by_cases hlt3 : i < j
                    · have hil : i < l1.length := by omega
                      obtain ⟨y, hyv⟩ : ∃ y, rd_T50 l1 (i : Int) = y := ⟨_, rfl⟩
                      obtain ⟨ad4, A4, c4, hA4, z0, z1, z2, z3, z4, z5, z6, z7, l4, g4⟩ := at_T50 hr1 (i : Int) (by omega) (by omega)
                      obtain rfl := Option.some.inj hA4
                      rw [hyv, Int.toNat_natCast] at z0 z1 z2 z3 z4 z5 z6 z7
                      rw [hyv] at l4 g4
                      have hye : l1[i] = y := by rw [← hyv, rd50_get hil]
                      have hys := s2'.out y (hye ▸ List.getElem_mem hil)
                      rw [decide_eq_true_eq] at hys
                      have ht4 : l1.take (i + 1) = l1.take i ++ [y] := by rw [List.take_succ_eq_append_getElem hil, hye]
                      have adl4 : (ad.add (i * 8)).block < w.heap.size := World.block_lt_of_cell? w _ z0
                      replace z0 := (hbel5.cell adl4).trans z0
                      replace z1 := (hbel5.cell (p := ⟨(ad.add (i * 8)).block, (ad.add (i * 8)).off + 1, none⟩) adl4).trans z1
                      replace z2 := (hbel5.cell (p := ⟨(ad.add (i * 8)).block, (ad.add (i * 8)).off + 2, none⟩) adl4).trans z2
                      replace z3 := (hbel5.cell (p := ⟨(ad.add (i * 8)).block, (ad.add (i * 8)).off + 3, none⟩) adl4).trans z3
                      replace z4 := (hbel5.cell (p := ⟨(ad.add (i * 8)).block, (ad.add (i * 8)).off + 4, none⟩) adl4).trans z4
                      replace z5 := (hbel5.cell (p := ⟨(ad.add (i * 8)).block, (ad.add (i * 8)).off + 5, none⟩) adl4).trans z5
                      replace z6 := (hbel5.cell (p := ⟨(ad.add (i * 8)).block, (ad.add (i * 8)).off + 6, none⟩) adl4).trans z6
                      replace z7 := (hbel5.cell (p := ⟨(ad.add (i * 8)).block, (ad.add (i * 8)).off + 7, none⟩) adl4).trans z7
                      have mI := hm1 i (by omega) n hnm'.out
                      have mI1 := hm1 (i + 1) (by omega) n hnm'.out
                      rw [← hnx'.out] at mI mI1
                      have hb0 := hb0'.out
                      have bX6 := bX5.alloc (.cells #[.int .i64 y.f0, .int .i64 y.f1, .int .i64 y.f2, .slice A4 y.f3.length c4, .int .i64 y.f4, .int .i64 y.f5, .int .i64 y.f6, .bool y.f7] 50)
                      have bN6 := bN5.alloc (.cells #[.int .i64 y.f0, .int .i64 y.f1, .int .i64 y.f2, .slice A4 y.f3.length c4, .int .i64 y.f4, .int .i64 y.f5, .int .i64 y.f6, .bool y.f7] 50)
                      have bY := Blk.new wr 50 #[.int .i64 y.f0, .int .i64 y.f1, .int .i64 y.f2, .slice A4 y.f3.length c4, .int .i64 y.f4, .int .i64 y.f5, .int .i64 y.f6, .bool y.f7]
                      have x2 := bX6.cell 2
                      have x3 := bX6.cell 3
                      have y2 := bY.cell 2
                      have y3 := bY.cell 3
                      have y4 := bY.cell 4
                      simp only [List.getElem?_toArray, List.getElem?_cons_zero, List.getElem?_cons_succ] at x2 x3 y2 y3 y4
                      have L6 : Below w.heap.size w (wr.alloc (.cells #[.int .i64 y.f0, .int .i64 y.f1, .int .i64 y.f2, .slice A4 y.f3.length c4, .int .i64 y.f4, .int .i64 y.f5, .int .i64 y.f6, .bool y.f7] 50)) := hbel5.alloc hbel5.size _
                      have bX6' := Lib.hid bX6
                      have bN6' := Lib.hid bN6
                      have L6' := Lib.hid L6
                      have ht4' := Lib.hid ht4
                      have g4' := Lib.hid g4
                      have hfr' := Lib.hid hfr
                      have hys' := Lib.hid hys
                      have hm1' := Lib.hid hm1
                      clear bX5 bN5 hbel5 bX6 bN6 bY L6 ht4 g4 hfr hys hyv hye hm1
                      by_cases e : y.f2 = x.f2
                      · have e1 : (y.f2 == x.f2) = true := beq_iff_eq.mpr e
                        have e2 : (y.f2 != x.f2) = false := bne_eq_false_iff_eq.mpr e
                        have e3 : decide (y.f2 = x.f2) = true := decide_eq_true e
                        have hmm : memOf x.f2 (l1.take (i + 1)) = memOf x.f2 (l1.take i) + y.f4 := by rw [ht4'.out, memOf_snoc_same e]
                        rw [hmm] at mI1
                        have hwp : IntKind.i64.wrap (x.f4 + memOf x.f2 (l1.take i) + y.f4) = x.f4 + memOf x.f2 (l1.take (i + 1)) := by rw [IntWalk.i64_in _ (by omega), hmm]; omega
                        have hfs : ∀ b, y.f3.all (fun c => !x.f3.contains c) = b → freeOf x (l1.take (i + 1)) = b := fun b hb => by rw [ht4'.out, freeOf_app, hfr'.out, freeOf_cons_same e, hb]; simp [freeOf]
                        have hfs' := Lib.hid hfs
                        have hmm' := Lib.hid hmm
                        have e' := Lib.hid e
                        clear hfs hmm e
                        go_wp2
                        go_loopw [117] (fun iv wt => ∃ (m : Nat), iv = .int .i64 m ∧ m ≤ y.f3.length ∧ (y.f3.take m).all (fun c => !x.f3.contains c) = true ∧ Blk wt XB 50 #[.int .i64 x.f0, .int .i64 x.f1, .int .i64 x.f2, .slice A3 x.f3.length c3, .int .i64 x.f4, .int .i64 x.f5, .int .i64 x.f6, .bool x.f7] ∧ Blk wt w10.heap.size 46 #[.int .i64 n.f0, .int .i64 n.f1, .int .i64 n.f2, .int .i64 n.f3, .int .i64 n.f4] ∧ Below w.heap.size w wt)
                          (fun iv _ => y.f3.length - (intOf iv).toNat)
                        case atStart => exact ⟨0, rfl, Nat.zero_le _, rfl, bX6'.out, bN6'.out, L6'.out⟩
                        case round => as_aux_lemma =>
                          clear x2 x3 y2 y3 y4
                          obtain ⟨m, rfl, hmy, hal, bX7, bN7, hbel7⟩ := hrel
                          have x3 := bX7.cell 3
                          simp only [List.getElem?_toArray, List.getElem?_cons_zero, List.getElem?_cons_succ] at x3
                          by_cases hlt4 : m < y.f3.length
                          · obtain ⟨cv, hcv⟩ : ∃ cv, rd y.f3 (m : Int) = cv := ⟨_, rfl⟩
                            obtain ⟨ad7, hA7, hcell⟩ := Kd.at_int g4'.out (m : Int) (by omega) (by omega)
                            obtain rfl := hA7
                            rw [hcv, Int.toNat_natCast] at hcell
                            have hcw := (hbel7.cell (World.block_lt_of_cell? w _ hcell)).trans hcell
                            have hce : y.f3[m] = cv := by rw [← hcv, rdI_get hlt4]
                            have hstep := all_snoc y.f3 m (fun c => !x.f3.contains c) hlt4
                            rw [hal, Bool.true_and, hce] at hstep
                            obtain ⟨kh, hh⟩ := has_ev cv x.f3 hxs'.out
                            have hhk := hh kh (Nat.le_refl _)
                            have bX7' := Lib.hid bX7
                            have bN7' := Lib.hid bN7
                            have hbel7' := Lib.hid hbel7
                            have hstep' := Lib.hid hstep
                            have hce' := Lib.hid hce
                            clear hh hcv hcell hce hstep bX7 bN7 hbel7 hal
                            cases hc : x.f3.contains cv
                            · rw [hc] at hhk
                              have hc' := Lib.hid hc
                              clear hc
                              have hyb : y.f3.length < 4611686018427387904 := hys'.out
                              go_wp2_with (((with_reducible refine gate_callee (f := 117) rfl ?_); refine goesL_ (some 124) rfl rfl Try.func117 (by kernel_rfl) rfl #[.slice A3 x.f3.length c3, .int .i64 cv] rfl (by (try simp only [List.map_toArray, List.map_cons, List.map_nil]); first | done | rfl) ?_; (with_reducible refine (furlongref01_Has.calls kh A3 c3 x.f3 cv false _ (Kd.C_below g3'.out hbel7'.out) l3_ hhk).mono ?_); rintro e w12 ⟨rfl, ⟨nd_, rfl⟩⟩; refine ⟨_, rfl, ?_⟩))
                              go_roundw
                              case rel => exact ⟨m + 1, by go_num, by omega, by rw [hstep'.out, hc'.out]; rfl, bX7'.out, bN7'.out, by first | exact hbel7'.out | exact pw_below_drewN hbel7'.out _ | exact hbel7'.out.drew⟩
                              case measure => simp [intOf]; omega
                            · rw [hc] at hhk
                              obtain rfl : r = false := by
                                refine hbadl'.out ?_
                                rw [hok2'.out, Bool.and_eq_false_iff]
                                left
                                rw [show l1.take j = l1.take (i + 1) ++ (l1.take j).drop (i + 1) by rw [← List.take_append_drop (i + 1) (l1.take j), List.take_take, show min (i + 1) j = i + 1 by omega, List.drop_append_of_le_length (by simp; omega)]; simp, freeOf_app, hfs'.out false ?_]
                                · rfl
                                · rw [List.all_eq_false]
                                  exact ⟨cv, by rw [← hce'.out]; exact List.getElem_mem hlt4, by simp only [hc]; decide⟩
                              have hc' := Lib.hid hc
                              clear hc
                              go_wp2_with (((with_reducible refine gate_callee (f := 117) rfl ?_); refine goesL_ (some 124) rfl rfl Try.func117 (by kernel_rfl) rfl #[.slice A3 x.f3.length c3, .int .i64 cv] rfl (by (try simp only [List.map_toArray, List.map_cons, List.map_nil]); first | done | rfl) ?_; (with_reducible refine (furlongref01_Has.calls kh A3 c3 x.f3 cv true _ (Kd.C_below g3'.out hbel7'.out) l3_ hhk).mono ?_); rintro e w12 ⟨rfl, ⟨nd_, rfl⟩⟩; refine ⟨_, rfl, ?_⟩))
                              go_ret
                              exact ⟨rfl, by first | exact hbel7'.out | exact pw_below_drewN hbel7'.out _ | exact hbel7'.out.drew⟩
                          · have hmy' : m = y.f3.length := by omega
                            subst hmy'
                            rw [List.take_length] at hal
                            have hfin := hfs'.out true hal
                            have hfin' := Lib.hid hfin
                            have bX7' := Lib.hid bX7
                            have bN7' := Lib.hid bN7
                            have hbel7' := Lib.hid hbel7
                            clear hfin bX7 bN7 hbel7 hal
                            go_wp2
                            go_roundw
                            case rel => exact ⟨i + 1, by first | rfl | (rw [hwp]) | go_num, by go_num, by omega, hfin'.out, bX7'.out, bN7'.out, by first | exact hbel7'.out | exact pw_below_drewN hbel7'.out _ | exact hbel7'.out.drew⟩
                            case measure => simp [intOf]; omega
                      · have e1 : (y.f2 == x.f2) = false := beq_eq_false_iff_ne.mpr e
                        have e2 : (y.f2 != x.f2) = true := bne_iff_ne.mpr e
                        have e3 : decide (y.f2 = x.f2) = false := decide_eq_false e
                        have hmm : memOf x.f2 (l1.take (i + 1)) = memOf x.f2 (l1.take i) := by rw [ht4'.out, memOf_snoc_other e]
                        have hff : freeOf x (l1.take (i + 1)) = true := by rw [ht4'.out, freeOf_app, hfr'.out, freeOf_cons_other e]; rfl
                        have hmm' := Lib.hid hmm
                        have hff' := Lib.hid hff
                        clear hmm hff
                        go_wp2
                        go_roundw
                        case rel => exact ⟨i + 1, by rw [hmm'.out], by go_num, by omega, hff'.out, bX6'.out, bN6'.out, L6'.out⟩
                        case measure => simp [intOf]; omega
                    · have hij' : i = j := by omega
                      subst hij'
                      have n2 := bN5.cell 2
                      simp only [List.getElem?_toArray, List.getElem?_cons_zero, List.getElem?_cons_succ] at n2
                      have hbel5' := Lib.hid hbel5
                      have hfr' := Lib.hid hfr
                      have hm1' := Lib.hid hm1
                      clear hbel5 hfr hm1 bX5 bN5
                      by_cases c9 : n.f2 < x.f4 + memOf x.f2 (l1.take i)
                      · have d9 : decide (n.f2 < x.f4 + memOf x.f2 (l1.take i)) = true := decide_eq_true c9
                        obtain rfl : r = false := hbadl'.out (by rw [hok2'.out, decide_eq_false (by omega)]; simp)
                        go_wp2
                        go_ret
                        exact ⟨rfl, by first | exact hbel5'.out | exact hbel5'.out.drew⟩
                      · have d9 : decide (n.f2 < x.f4 + memOf x.f2 (l1.take i)) = false := decide_eq_false c9
                        have hg := hgood'.out (by rw [hok2'.out, hfr'.out, decide_eq_true (by omega)]; rfl)
                        have hg' := Lib.hid hg
                        clear hg c9
                        go_wp2
                        go_roundw
                        case rel => exact ⟨i + 1, by go_num, by omega, hg'.out.1, hg'.out.2, hbel5'.out⟩
                        case measure => simp [intOf]; omega
        · have hj' : j = l1.length := by omega
          subst hj'
          obtain rfl : r = true := by rw [← hV, List.drop_of_length_le (Nat.le_refl _)]; rfl
          clear hV hms
          go_wp2
          go_ret
          exact ⟨rfl, by first | exact hbel | exact hbel.drew⟩
end Go.Proofs.Ytkbcjagkacijnaa.PPl
end
section
-- Written for this claim by this project's own driver over the kit's print: functions and their contracts.
namespace Go.Proofs.Ytkbcjagkacijnaa.PPl
open Go.RowKit Go.Proofs.YtkbcjagkacijnaaW.PrintWords Go.Proofs.YtkbcjagkacijnaaW.PrintLast Go.Proofs.YtkbcjagkacijnaaW.PrintMore
attribute [local go_sem] max2_int min2_int max_two min_two max_three min_three max_four min_four   -- for this text's walks alone
set_option linter.unusedVariables false
set_option linter.unusedSimpArgs false

def furlongref07_Check.f (l0 : List (S46)) (l1 : List (S50)) : Option (Int) := if (l0.length : Int) > 64 then (some 3) else ((furlongref07_form.f l0 l1).bind fun t132 => (if t132 = true then (some 0) else (some 4)))
set_option maxHeartbeats 8000000 in
set_option maxRecDepth 100000 in
theorem furlongref07_Check.calls (A0 : Option Addr) (c0 : Nat) (l0 : List (S46)) (A1 : Option Addr) (c1 : Nat) (l1 : List (S50)) (r : Int) (w : World) (hr0 : Kd.C k46 w A0 l0.length l0) (hc0 : l0.length ≤ c0) (hr1 : Kd.C k50 w A1 l1.length l1) (hc1 : l1.length ≤ c1) (h : furlongref07_Check.f l0 l1 = some r) :
    Calls Try.prog 84 #[.slice A0 l0.length c0, .slice A1 l1.length c1] w fun e w' => e = .returned (.int .i64 r) ∧ Below w.heap.size w w' := by
  have HR0 := Aside0.mk hr0
  have HC0 := Aside0.mk hc0
  clear hr0 hc0
  have HR1 := Aside0.mk hr1
  have HC1 := Aside0.mk hc1
  clear hr1 hc1
  have HB := Aside0.mk (Below.refl w.heap.size w)
  have H : (if (l0.length : Int) > 64 then (some 3) else ((furlongref07_form.f l0 l1).bind fun t132 => (if t132 = true then (some 0) else (some 4)))) = some r := h
  clear h
  by_cases c3 : (l0.length : Int) > 64
  · rw [if_pos c3] at H
    have c3b0 : decide (64 < (l0.length : Int)) = true := decide_eq_true c3
    have c3b1 : decide (64 < l0.length) = true := decide_eq_true (by omega)
    clear c3
    obtain rfl := Option.some.inj H
    go_enter Try.func84, Try.ntmps84
    go_wp2
    go_ret
    exact ⟨by first | rfl | (simp [errW_none, errW_some] <;> rfl) | (simp [*, errW_none, errW_some] <;> rfl), by repeat (first | (with_reducible first | exact HB.out | apply below_alloc | apply pw_below_drewN | apply below_drew1) | exact HB.out)⟩
  · rw [if_neg c3] at H
    have c3b0 : decide (64 < (l0.length : Int)) = false := decide_eq_false c3
    have c3b1 : decide (64 < l0.length) = false := decide_eq_false (by omega)
    clear c3
    replace H := Option.bind_eq_some_iff.mp H
    obtain ⟨t132, A40, H⟩ := H
    replace H : (if t132 = true then (some 0) else (some 4)) = some r := H
    have A4 := Aside0.mk A40
    clear A40
    by_cases c5 : t132 = true
    · subst c5
      have H1 : (some 0) = some r := by rw [if_pos rfl] at H; exact H
      clear H
      have H := H1
      clear H1
      obtain rfl := Option.some.inj H
      go_enter Try.func84, Try.ntmps84
      go_wp2_with (first | ((with_reducible refine gate_callee (f := 116) rfl ?_); refine goesL_ (some 12) rfl rfl Try.func116 (by kernel_rfl) rfl #[.slice A0 l0.length c0, .slice A1 l1.length c1] rfl (by (try simp only [List.map_toArray, List.map_cons, List.map_nil]); first | done | rfl | (simp only [List.length_drop, List.length_take]; rfl)) ?_; (with_reducible refine (furlongref07_form.calls _ _ l0 _ _ l1 true _ ?side1 ?side2 ?side3 ?side4 A4.out).mono ?_); (case side1 => repeat (first | exact HR0.out | (with_reducible refine Kd.C_alloc ?_ _) | (with_reducible refine Kd.C_drewN ?_ _) | (with_reducible refine Kd.C_drew ?_))); (case side2 => exact HC0.out); (case side3 => repeat (first | exact HR1.out | (with_reducible refine Kd.C_alloc ?_ _) | (with_reducible refine Kd.C_drewN ?_ _) | (with_reducible refine Kd.C_drew ?_))); (case side4 => exact HC1.out); rintro e w6 ⟨rfl, hb⟩; refine ⟨_, rfl, ?_⟩; have n0_ := Aside0.mk (below_step (by repeat (first | (with_reducible first | exact HB.out | apply below_alloc | apply pw_below_drewN | apply below_drew1) | exact HB.out)) hb); clear HB; have HB := n0_; clear n0_; (try clear hb); (try clear hb2); (try clear hk); (try clear hi)))
      go_ret
      exact ⟨by first | rfl | (simp [errW_none, errW_some] <;> rfl) | (simp [*, errW_none, errW_some] <;> rfl), by repeat (first | (with_reducible first | exact HB.out | apply below_alloc | apply pw_below_drewN | apply below_drew1) | exact HB.out)⟩
    · replace c5 := Bool.eq_false_iff.mpr c5
      subst c5
      have H1 : (some 4) = some r := by rw [if_neg (show ¬ (false = true) by decide)] at H; exact H
      clear H
      have H := H1
      clear H1
      obtain rfl := Option.some.inj H
      go_enter Try.func84, Try.ntmps84
      go_wp2_with (first | ((with_reducible refine gate_callee (f := 116) rfl ?_); refine goesL_ (some 12) rfl rfl Try.func116 (by kernel_rfl) rfl #[.slice A0 l0.length c0, .slice A1 l1.length c1] rfl (by (try simp only [List.map_toArray, List.map_cons, List.map_nil]); first | done | rfl | (simp only [List.length_drop, List.length_take]; rfl)) ?_; (with_reducible refine (furlongref07_form.calls _ _ l0 _ _ l1 false _ ?side1 ?side2 ?side3 ?side4 A4.out).mono ?_); (case side1 => repeat (first | exact HR0.out | (with_reducible refine Kd.C_alloc ?_ _) | (with_reducible refine Kd.C_drewN ?_ _) | (with_reducible refine Kd.C_drew ?_))); (case side2 => exact HC0.out); (case side3 => repeat (first | exact HR1.out | (with_reducible refine Kd.C_alloc ?_ _) | (with_reducible refine Kd.C_drewN ?_ _) | (with_reducible refine Kd.C_drew ?_))); (case side4 => exact HC1.out); rintro e w7 ⟨rfl, hb⟩; refine ⟨_, rfl, ?_⟩; have n0_ := Aside0.mk (below_step (by repeat (first | (with_reducible first | exact HB.out | apply below_alloc | apply pw_below_drewN | apply below_drew1) | exact HB.out)) hb); clear HB; have HB := n0_; clear n0_; (try clear hb); (try clear hb2); (try clear hk); (try clear hi)))
      go_ret
      exact ⟨by first | rfl | (simp [errW_none, errW_some] <;> rfl) | (simp [*, errW_none, errW_some] <;> rfl), by repeat (first | (with_reducible first | exact HB.out | apply below_alloc | apply pw_below_drewN | apply below_drew1) | exact HB.out)⟩

def furlongref02_Good.f (a0_0 : Int) (a0_1 : Int) : Option (Bool) := if a0_0 ≥ 0 then (if a0_0 ≤ 1099511627776 then (if a0_1 ≥ 0 then (some (decide (a0_1 ≤ 1099511627776))) else (some false)) else (some false)) else (some false)
set_option maxHeartbeats 8000000 in
set_option maxRecDepth 100000 in
theorem furlongref02_Good.calls (a0_0 : Int) (a0_1 : Int) (r : Bool) (w : World) (h : furlongref02_Good.f a0_0 a0_1 = some r) :
    Calls Try.prog 85 #[.agg #[.int .i64 a0_0, .int .i64 a0_1]] w fun e w' => e = .returned (.bool r) ∧ Below w.heap.size w w' := by
  have hu25 := Try.underlying25
  have HB := Aside0.mk (Below.refl w.heap.size w)
  have H : (if a0_0 ≥ 0 then (if a0_0 ≤ 1099511627776 then (if a0_1 ≥ 0 then (some (decide (a0_1 ≤ 1099511627776))) else (some false)) else (some false)) else (some false)) = some r := h
  clear h
  by_cases c2 : a0_0 ≥ 0
  · rw [if_pos c2] at H
    have c2b0 : decide (0 ≤ a0_0) = true := decide_eq_true c2
    clear c2
    by_cases c3 : a0_0 ≤ 1099511627776
    · rw [if_pos c3] at H
      have c3b0 : decide (a0_0 ≤ 1099511627776) = true := decide_eq_true c3
      clear c3
      by_cases c4 : a0_1 ≥ 0
      · rw [if_pos c4] at H
        have c4b0 : decide (0 ≤ a0_1) = true := decide_eq_true c4
        clear c4
        obtain rfl := Option.some.inj H
        go_enter Try.func85, Try.ntmps85
        go_wp2_with (first | ((with_reducible refine gate_dst (N := 1) rfl ?_); refine box_event ?hg (N := 1) ?hd (cs := #[.int .i64 a0_0, .int .i64 a0_1]) (t := 25) ?hr ?_; (case hd => rfl); (case hg => rfl); (case hr => first | (go_simp; done) | (go_simp; rfl)); intro gb133 hg w5 hbox hb; have n0_ := Aside0.mk (below_step (by repeat (first | (with_reducible first | exact HB.out | apply below_alloc | apply pw_below_drewN | apply below_drew1) | exact HB.out)) hb); have n1_ := Aside0.mk (hbox); have n2_ := Aside0.mk ((by rw [hg]; exact (below_size (by repeat (first | (with_reducible first | exact HB.out | apply below_alloc | apply pw_below_drewN | apply below_drew1) | exact HB.out))) : w.heap.size ≤ gb133)); have n3_ := Aside0.mk ((by rw [hg]; exact (below_size (by repeat (first | (with_reducible first | exact HB.out | apply below_alloc | apply pw_below_drewN | apply below_drew1) | exact HB.out))) : w.heap.size ≤ gb133)); clear HB; have HB := n0_; have BK133 := n1_; have GW133 := n2_; have GE133 := n3_; clear n0_ n1_ n2_ n3_; clear hb hbox hg; have hcz6_0 : w5.cell? ⟨gb133, 0, none⟩ = some (.int .i64 a0_0) := (blk_cell BK133.out 0).trans rfl; have hcz6_1 : w5.cell? ⟨gb133, 1, none⟩ = some (.int .i64 a0_1) := (blk_cell BK133.out 1).trans rfl; have hfz6_0 := blk_frozen BK133.out 0; have hfz6_1 := blk_frozen BK133.out 1))
        go_ret
        exact ⟨by first | rfl | (simp [errW_none, errW_some] <;> rfl) | (simp [*, errW_none, errW_some] <;> rfl), by repeat (first | (with_reducible first | exact HB.out | apply below_alloc | apply pw_below_drewN | apply below_drew1 | refine below_set ?_ GE133.out) | exact HB.out)⟩
      · rw [if_neg c4] at H
        have c4b0 : decide (0 ≤ a0_1) = false := decide_eq_false c4
        clear c4
        obtain rfl := Option.some.inj H
        go_enter Try.func85, Try.ntmps85
        go_wp2_with (first | ((with_reducible refine gate_dst (N := 1) rfl ?_); refine box_event ?hg (N := 1) ?hd (cs := #[.int .i64 a0_0, .int .i64 a0_1]) (t := 25) ?hr ?_; (case hd => rfl); (case hg => rfl); (case hr => first | (go_simp; done) | (go_simp; rfl)); intro gb133 hg w7 hbox hb; have n0_ := Aside0.mk (below_step (by repeat (first | (with_reducible first | exact HB.out | apply below_alloc | apply pw_below_drewN | apply below_drew1) | exact HB.out)) hb); have n1_ := Aside0.mk (hbox); have n2_ := Aside0.mk ((by rw [hg]; exact (below_size (by repeat (first | (with_reducible first | exact HB.out | apply below_alloc | apply pw_below_drewN | apply below_drew1) | exact HB.out))) : w.heap.size ≤ gb133)); have n3_ := Aside0.mk ((by rw [hg]; exact (below_size (by repeat (first | (with_reducible first | exact HB.out | apply below_alloc | apply pw_below_drewN | apply below_drew1) | exact HB.out))) : w.heap.size ≤ gb133)); clear HB; have HB := n0_; have BK133 := n1_; have GW133 := n2_; have GE133 := n3_; clear n0_ n1_ n2_ n3_; clear hb hbox hg; have hcz8_0 : w7.cell? ⟨gb133, 0, none⟩ = some (.int .i64 a0_0) := (blk_cell BK133.out 0).trans rfl; have hcz8_1 : w7.cell? ⟨gb133, 1, none⟩ = some (.int .i64 a0_1) := (blk_cell BK133.out 1).trans rfl; have hfz8_0 := blk_frozen BK133.out 0; have hfz8_1 := blk_frozen BK133.out 1))
        go_ret
        exact ⟨by first | rfl | (simp [errW_none, errW_some] <;> rfl) | (simp [*, errW_none, errW_some] <;> rfl), by repeat (first | (with_reducible first | exact HB.out | apply below_alloc | apply pw_below_drewN | apply below_drew1 | refine below_set ?_ GE133.out) | exact HB.out)⟩
    · rw [if_neg c3] at H
      have c3b0 : decide (a0_0 ≤ 1099511627776) = false := decide_eq_false c3
      clear c3
      obtain rfl := Option.some.inj H
      go_enter Try.func85, Try.ntmps85
      go_wp2_with (first | ((with_reducible refine gate_dst (N := 1) rfl ?_); refine box_event ?hg (N := 1) ?hd (cs := #[.int .i64 a0_0, .int .i64 a0_1]) (t := 25) ?hr ?_; (case hd => rfl); (case hg => rfl); (case hr => first | (go_simp; done) | (go_simp; rfl)); intro gb133 hg w9 hbox hb; have n0_ := Aside0.mk (below_step (by repeat (first | (with_reducible first | exact HB.out | apply below_alloc | apply pw_below_drewN | apply below_drew1) | exact HB.out)) hb); have n1_ := Aside0.mk (hbox); have n2_ := Aside0.mk ((by rw [hg]; exact (below_size (by repeat (first | (with_reducible first | exact HB.out | apply below_alloc | apply pw_below_drewN | apply below_drew1) | exact HB.out))) : w.heap.size ≤ gb133)); have n3_ := Aside0.mk ((by rw [hg]; exact (below_size (by repeat (first | (with_reducible first | exact HB.out | apply below_alloc | apply pw_below_drewN | apply below_drew1) | exact HB.out))) : w.heap.size ≤ gb133)); clear HB; have HB := n0_; have BK133 := n1_; have GW133 := n2_; have GE133 := n3_; clear n0_ n1_ n2_ n3_; clear hb hbox hg; have hcz10_0 : w9.cell? ⟨gb133, 0, none⟩ = some (.int .i64 a0_0) := (blk_cell BK133.out 0).trans rfl; have hcz10_1 : w9.cell? ⟨gb133, 1, none⟩ = some (.int .i64 a0_1) := (blk_cell BK133.out 1).trans rfl; have hfz10_0 := blk_frozen BK133.out 0; have hfz10_1 := blk_frozen BK133.out 1))
      go_ret
      exact ⟨by first | rfl | (simp [errW_none, errW_some] <;> rfl) | (simp [*, errW_none, errW_some] <;> rfl), by repeat (first | (with_reducible first | exact HB.out | apply below_alloc | apply pw_below_drewN | apply below_drew1 | refine below_set ?_ GE133.out) | exact HB.out)⟩
  · rw [if_neg c2] at H
    have c2b0 : decide (0 ≤ a0_0) = false := decide_eq_false c2
    clear c2
    obtain rfl := Option.some.inj H
    go_enter Try.func85, Try.ntmps85
    go_wp2_with (first | ((with_reducible refine gate_dst (N := 1) rfl ?_); refine box_event ?hg (N := 1) ?hd (cs := #[.int .i64 a0_0, .int .i64 a0_1]) (t := 25) ?hr ?_; (case hd => rfl); (case hg => rfl); (case hr => first | (go_simp; done) | (go_simp; rfl)); intro gb133 hg w11 hbox hb; have n0_ := Aside0.mk (below_step (by repeat (first | (with_reducible first | exact HB.out | apply below_alloc | apply pw_below_drewN | apply below_drew1) | exact HB.out)) hb); have n1_ := Aside0.mk (hbox); have n2_ := Aside0.mk ((by rw [hg]; exact (below_size (by repeat (first | (with_reducible first | exact HB.out | apply below_alloc | apply pw_below_drewN | apply below_drew1) | exact HB.out))) : w.heap.size ≤ gb133)); have n3_ := Aside0.mk ((by rw [hg]; exact (below_size (by repeat (first | (with_reducible first | exact HB.out | apply below_alloc | apply pw_below_drewN | apply below_drew1) | exact HB.out))) : w.heap.size ≤ gb133)); clear HB; have HB := n0_; have BK133 := n1_; have GW133 := n2_; have GE133 := n3_; clear n0_ n1_ n2_ n3_; clear hb hbox hg; have hcz12_0 : w11.cell? ⟨gb133, 0, none⟩ = some (.int .i64 a0_0) := (blk_cell BK133.out 0).trans rfl; have hcz12_1 : w11.cell? ⟨gb133, 1, none⟩ = some (.int .i64 a0_1) := (blk_cell BK133.out 1).trans rfl; have hfz12_0 := blk_frozen BK133.out 0; have hfz12_1 := blk_frozen BK133.out 1))
    go_ret
    exact ⟨by first | rfl | (simp [errW_none, errW_some] <;> rfl) | (simp [*, errW_none, errW_some] <;> rfl), by repeat (first | (with_reducible first | exact HB.out | apply below_alloc | apply pw_below_drewN | apply below_drew1 | refine below_set ?_ GE133.out) | exact HB.out)⟩

end Go.Proofs.Ytkbcjagkacijnaa.PPl
end
section
-- Written for this claim by this project's own driver over the kit's print: functions and their contracts.
namespace Go.Proofs.Ytkbcjagkacijnaa.PPl
open Go.RowKit Go.Proofs.YtkbcjagkacijnaaW.PrintWords Go.Proofs.YtkbcjagkacijnaaW.PrintLast Go.Proofs.YtkbcjagkacijnaaW.PrintMore
attribute [local go_sem] max2_int min2_int max_two min_two max_three min_three max_four min_four   -- for this text's walks alone
set_option linter.unusedVariables false
set_option linter.unusedSimpArgs false

mutual
def furlongref07_free.l0 : Nat → Int → List Int → List (S50) → Int → Int → Int → Int → Int → Int → Int → Option (List Int × Int)
  | 0, _, _, _, _, _, _, _, _, _, _ => none
  | k + 1, x6, x7, x14, x15, x16, x136000, x136001, x136002, x136003, x136004 => if x16 < x15 then (if 0 ≤ x16 then (if x16 < (x14.length : Int) then (if ((rd_T50 x14 x16).f2) = x136000 then (if x7.length + ((rd_T50 x14 x16).f3).length < 17592186044416 then (furlongref07_free.l0 k (wrap64 (x6 - ((rd_T50 x14 x16).f4))) (x7 ++ ((rd_T50 x14 x16).f3)) x14 x15 (wrap64 (x16 + 1)) x136000 x136001 x136002 x136003 x136004) else (none)) else (furlongref07_free.l0 k x6 x7 x14 x15 (wrap64 (x16 + 1)) x136000 x136001 x136002 x136003 x136004)) else (none)) else (none)) else (furlongref07_free.l1 k x6 x7 ([] : List Int) x136001 0)
def furlongref07_free.l1 : Nat → Int → List Int → List Int → Int → Int → Option (List Int × Int)
  | 0, _, _, _, _, _ => none
  | k + 1, x6, x7, x10, x35, x36 => if x36 < x35 then ((furlongref01_Has.f k x7 x36).bind fun t141 => (if t141 = true then (furlongref07_free.l1 k x6 x7 x10 x35 (wrap64 (x36 + 1))) else (if x10.length < 17592186044416 then (furlongref07_free.l1 k x6 x7 (x10 ++ [x36]) x35 (wrap64 (x36 + 1))) else (none)))) else (some (x10, x6))
end
def furlongref07_free.f (k : Nat) (a0_0 : Int) (a0_1 : Int) (a0_2 : Int) (a0_3 : Int) (a0_4 : Int) (l1 : List (S50)) : Option (List Int × Int) := furlongref07_free.l0 k a0_2 ([] : List Int) l1 (l1.length : Int) 0 a0_0 a0_1 a0_2 a0_3 a0_4
theorem furlongref07_free.mono_l : ∀ k, (∀ y0 y1 y2 y3 y4 y5 y6 y7 y8 y9, LeO (furlongref07_free.l0 k y0 y1 y2 y3 y4 y5 y6 y7 y8 y9) (furlongref07_free.l0 (k + 1) y0 y1 y2 y3 y4 y5 y6 y7 y8 y9)) ∧ (∀ y0 y1 y2 y3 y4, LeO (furlongref07_free.l1 k y0 y1 y2 y3 y4) (furlongref07_free.l1 (k + 1) y0 y1 y2 y3 y4))
  | 0 => ⟨fun _ _ _ _ _ _ _ _ _ _ r h => by simp [furlongref07_free.l0] at h, fun _ _ _ _ _ r h => by simp [furlongref07_free.l1] at h⟩
  | k + 1 => by
    obtain ⟨ih0, ih1⟩ := furlongref07_free.mono_l k
    refine ⟨?_, ?_⟩
    · intro y0 y1 y2 y3 y4 y5 y6 y7 y8 y9
      unfold furlongref07_free.l0
      repeat' first
      | (with_reducible exact ih0 _ _ _ _ _ _ _ _ _ _)
      | (with_reducible exact ih1 _ _ _ _ _)
      | (with_reducible exact furlongref01_Has.mono _ _ _)
      | (with_reducible exact LeO.refl _)
      | (with_reducible exact LeO.none _)
      | (with_reducible refine LeO.ite ?_ ?_)
      | (with_reducible refine LeO.bind ?_ (fun _ => ?_))
      | exact ih0 _ _ _ _ _ _ _ _ _ _
      | exact ih1 _ _ _ _ _
      | exact furlongref01_Has.mono _ _ _
      | exact LeO.none _
      | refine LeO.ite ?_ ?_
      | refine LeO.bind ?_ (fun _ => ?_)
    · intro y0 y1 y2 y3 y4
      unfold furlongref07_free.l1
      repeat' first
      | (with_reducible exact ih0 _ _ _ _ _ _ _ _ _ _)
      | (with_reducible exact ih1 _ _ _ _ _)
      | (with_reducible exact furlongref01_Has.mono _ _ _)
      | (with_reducible exact LeO.refl _)
      | (with_reducible exact LeO.none _)
      | (with_reducible refine LeO.ite ?_ ?_)
      | (with_reducible refine LeO.bind ?_ (fun _ => ?_))
      | exact ih0 _ _ _ _ _ _ _ _ _ _
      | exact ih1 _ _ _ _ _
      | exact furlongref01_Has.mono _ _ _
      | exact LeO.none _
      | refine LeO.ite ?_ ?_
      | refine LeO.bind ?_ (fun _ => ?_)
theorem furlongref07_free.mono : ∀ a0 a1 a2 a3 a4 a5 k, LeO (furlongref07_free.f k a0 a1 a2 a3 a4 a5) (furlongref07_free.f (k + 1) a0 a1 a2 a3 a4 a5) := by
  intro a0 a1 a2 a3 a4 a5 k
  obtain ⟨ih0, ih1⟩ := furlongref07_free.mono_l k
  unfold furlongref07_free.f
  repeat' first
      | (with_reducible exact ih0 _ _ _ _ _ _ _ _ _ _)
      | (with_reducible exact ih1 _ _ _ _ _)
      | (with_reducible exact furlongref01_Has.mono _ _ _)
      | (with_reducible exact LeO.refl _)
      | (with_reducible exact LeO.none _)
      | (with_reducible refine LeO.ite ?_ ?_)
      | (with_reducible refine LeO.bind ?_ (fun _ => ?_))
      | exact ih0 _ _ _ _ _ _ _ _ _ _
      | exact ih1 _ _ _ _ _
      | exact furlongref01_Has.mono _ _ _
      | exact LeO.none _
      | refine LeO.ite ?_ ?_
      | refine LeO.bind ?_ (fun _ => ?_)
set_option maxHeartbeats 8000000 in
set_option maxRecDepth 100000 in
theorem furlongref07_free.calls (k : Nat) (a0_0 : Int) (a0_1 : Int) (a0_2 : Int) (a0_3 : Int) (a0_4 : Int) (A1 : Option Addr) (c1 : Nat) (l1 : List (S50)) (r1 : List Int) (r2 : Int) (w : World) (hr1 : Kd.C k50 w A1 l1.length l1) (hc1 : l1.length ≤ c1) (h : furlongref07_free.f k a0_0 a0_1 a0_2 a0_3 a0_4 l1 = some (r1, r2)) :
  Calls Try.prog 86 #[.agg #[.int .i64 a0_0, .int .i64 a0_1, .int .i64 a0_2, .int .i64 a0_3, .int .i64 a0_4], .slice A1 l1.length c1] w fun e w' => ∃ v0_ : Value, e = .returned (.tuple #[v0_, .int .i64 r2]) ∧ Kd.R (Kd.int .i64) 3 w' w.heap.size (fun _ => True) v0_ r1 ∧ Below w.heap.size w w' := by
 have hu46 := Try.underlying46
 have hu50 := Try.underlying50
 have HR1 := Aside0.mk hr1
 have HC1 := Aside0.mk hc1
 clear hr1 hc1
 have HB := Aside0.mk (Below.refl w.heap.size w)
 have H : (furlongref07_free.l0 k a0_2 ([] : List Int) l1 (l1.length : Int) 0 a0_0 a0_1 a0_2 a0_3 a0_4) = some (r1, r2) := h
 clear h
 have H' := Aside0.mk H
 clear H
 go_enter Try.func86, Try.ntmps86
 go_wp2_with (first | ((with_reducible refine gate_dst (N := 2) rfl ?_); refine box_event ?hg (N := 2) ?hd (cs := #[.int .i64 a0_0, .int .i64 a0_1, .int .i64 a0_2, .int .i64 a0_3, .int .i64 a0_4]) (t := 46) ?hr ?_; (case hd => rfl); (case hg => rfl); (case hr => first | (go_simp; done) | (go_simp; rfl)); intro gb135 hg w3 hbox hb; have n0_ := Aside0.mk (below_step (by repeat (first | (with_reducible first | exact HB.out | apply below_alloc | apply pw_below_drewN | apply below_drew1) | exact HB.out)) hb); have n1_ := Aside0.mk (hbox); have n2_ := Aside0.mk ((by rw [hg]; exact (below_size (by repeat (first | (with_reducible first | exact HB.out | apply below_alloc | apply pw_below_drewN | apply below_drew1) | exact HB.out))) : w.heap.size ≤ gb135)); have n3_ := Aside0.mk ((by rw [hg]; exact (below_size (by repeat (first | (with_reducible first | exact HB.out | apply below_alloc | apply pw_below_drewN | apply below_drew1) | exact HB.out))) : w.heap.size ≤ gb135)); clear HB; have HB := n0_; have BK135 := n1_; have GW135 := n2_; have GE135 := n3_; clear n0_ n1_ n2_ n3_; clear hb hbox hg; have hcz4_0 : w3.cell? ⟨gb135, 0, none⟩ = some (.int .i64 a0_0) := (blk_cell BK135.out 0).trans rfl; have hcz4_1 : w3.cell? ⟨gb135, 1, none⟩ = some (.int .i64 a0_1) := (blk_cell BK135.out 1).trans rfl; have hcz4_2 : w3.cell? ⟨gb135, 2, none⟩ = some (.int .i64 a0_2) := (blk_cell BK135.out 2).trans rfl; have hcz4_3 : w3.cell? ⟨gb135, 3, none⟩ = some (.int .i64 a0_3) := (blk_cell BK135.out 3).trans rfl; have hcz4_4 : w3.cell? ⟨gb135, 4, none⟩ = some (.int .i64 a0_4) := (blk_cell BK135.out 4).trans rfl; have hfz4_0 := blk_frozen BK135.out 0; have hfz4_1 := blk_frozen BK135.out 1; have hfz4_2 := blk_frozen BK135.out 2; have hfz4_3 := blk_frozen BK135.out 3; have hfz4_4 := blk_frozen BK135.out 4))
 go_loopg [6, 7, 16] k (fun kq v6 v7 v16 w' => ∃ (x6_1 : Int) (x7_1 : List Int) (x16_1 : Int), v6 = .int .i64 x6_1 ∧ v16 = .int .i64 x16_1 ∧ Aside0 (furlongref07_free.l0 kq x6_1 x7_1 l1 (l1.length : Int) x16_1 a0_0 a0_1 a0_2 a0_3 a0_4 = some (r1, r2)) ∧ Aside0 (kq ≤ k) ∧ Aside0 (Kd.R (Kd.int .i64) 3 w' w.heap.size (fun _ => True) v7 x7_1) ∧ Aside0 (w'.heap[gb135]? = some (.cells #[.int .i64 a0_0, .int .i64 a0_1, .int .i64 a0_2, .int .i64 a0_3, .int .i64 a0_4] 46 (0, 0))) ∧ Aside0 (Below w.heap.size w w'))
 case atStart => exact ⟨(a0_2), (([] : List Int)), (0), (by first | rfl | (simp; done) | (simp [*]; done)), (by first | rfl | (simp; done) | (simp [*]; done)), H', ⟨Nat.le_refl _⟩, ⟨by first | exact Kd.R_nil _ _ _ _ _ | exact Kd.N_nil _ _ _ _ _ | exact Kd.V_nil _ _ _ _ _ | exact Kd.Q_nil _ _ _ _ _ | exact Kd.S_nil _ _ _ _ _⟩, ⟨by (with_reducible repeat (first | refine blk_drewN ?_ _ | refine blk_drew ?_ | refine blk_alloc ?_ _)); exact BK135.out⟩, ⟨by repeat (first | (with_reducible first | exact HB.out | apply below_alloc | apply pw_below_drewN | apply below_drew1 | refine below_set ?_ GE135.out) | exact HB.out)⟩⟩
 case round =>
  clear H'
  (try clear c1); (try clear p2); (try clear hcz4_0); (try clear hcz4_1); (try clear hcz4_2); (try clear hcz4_3); (try clear hcz4_4); (try clear hfz4_0); (try clear hfz4_1); (try clear hfz4_2); (try clear hfz4_3); (try clear hfz4_4)
  obtain ⟨x6_1, x7_1, x16_1, rfl, rfl, HA, HK1, HO_7, BK135, HB⟩ := hrel
  cases gk with
  | zero => exact absurd HA.out (by simp [furlongref07_free.l0])
  | succ k1 =>
   have H := HA.out
   clear HA
   simp only [furlongref07_free.l0] at H
   by_cases c5 : x16_1 < (l1.length : Int)
   ·
    rw [if_pos c5] at H
    have c5b0 : decide (x16_1 < (l1.length : Int)) = true := decide_eq_true c5
    clear c5
    by_cases c6 : 0 ≤ x16_1
    ·
     rw [if_pos c6] at H
     have c6b0 : decide (0 ≤ x16_1) = true := decide_eq_true c6
     clear c6
     by_cases c7 : x16_1 < (l1.length : Int)
     ·
      rw [if_pos c7] at H
      have c7b0 : decide (x16_1 < (l1.length : Int)) = true := decide_eq_true c7
      clear c7
      by_cases c8 : ((rd_T50 l1 x16_1).f2) = a0_0
      ·
       rw [if_pos c8] at H
       have c8b0 : (((rd_T50 l1 x16_1).f2) == a0_0) = true := beq_iff_eq.mpr c8
       have c8b1 : (((rd_T50 l1 x16_1).f2) != a0_0) = false := bne_eq_false_iff_eq.mpr c8
       clear c8
       by_cases c9 : x7_1.length + ((rd_T50 l1 x16_1).f3).length < 17592186044416
       ·
        rw [if_pos c9] at H
        have LMc9 := Aside0.mk c9
        clear c9
        obtain ⟨y138, hy138⟩ : ∃ y_ : List Int, y_ = (x7_1 ++ ((rd_T50 l1 x16_1).f3)) := ⟨_, rfl⟩
        replace H : (furlongref07_free.l0 k1 (wrap64 (x6_1 - ((rd_T50 l1 x16_1).f4))) y138 l1 (l1.length : Int) (wrap64 (x16_1 + 1)) a0_0 a0_1 a0_2 a0_3 a0_4) = some (r1, r2) := by first | (rw [hy138]; with_reducible exact H) | (have H2_ := (Option.bind_some _ _).symm.trans H; rw [hy138]; with_reducible exact H2_) | (have H2_ := (Option.bind_some _ _).symm.trans H; with_reducible exact H2_) | with_reducible exact H | (rw [hy138]; exact H) | exact H
        have Ny138 := Aside0.mk hy138
        clear hy138
        have H' := Aside0.mk H
        clear H
        have p136 : 0 ≤ (x16_1 : Int) := of_decide_eq_true (by first | (with_reducible assumption) | assumption)
        have q136 : x16_1 < (l1.length : Int) := of_decide_eq_true (by first | (with_reducible assumption) | assumption)
        obtain ⟨ad136, A136_3, c136_3, e136, hx136_0, hx136_1, hx136_2, hx136_3, hx136_4, hx136_5, hx136_6, hx136_7, hl136_3, hi136_3⟩ := at_T50 HR1.out x16_1 p136 q136
        cases e136
        (try (replace hx136_0 := (HB.out.cell (World.block_lt_of_cell? w _ hx136_0)).trans hx136_0))
        (try (replace hx136_1 := (HB.out.cell (World.block_lt_of_cell? w _ hx136_1)).trans hx136_1))
        (try (replace hx136_2 := (HB.out.cell (World.block_lt_of_cell? w _ hx136_2)).trans hx136_2))
        (try (replace hx136_3 := (HB.out.cell (World.block_lt_of_cell? w _ hx136_3)).trans hx136_3))
        (try (replace hx136_4 := (HB.out.cell (World.block_lt_of_cell? w _ hx136_4)).trans hx136_4))
        (try (replace hx136_5 := (HB.out.cell (World.block_lt_of_cell? w _ hx136_5)).trans hx136_5))
        (try (replace hx136_6 := (HB.out.cell (World.block_lt_of_cell? w _ hx136_6)).trans hx136_6))
        (try (replace hx136_7 := (HB.out.cell (World.block_lt_of_cell? w _ hx136_7)).trans hx136_7))
        have HR136_3 := Aside0.mk hi136_3
        have HC136_3 := Aside0.mk hl136_3
        clear hi136_3 hl136_3
        replace p136 := eq_true p136
        replace q136 := eq_true q136
        go_wp2_with (first | ((with_reducible refine gate_dst (N := 9) rfl ?_); refine box_event ?hg (N := 9) ?hd (cs := #[.int .i64 0, .int .i64 0, .int .i64 0, .slice none 0 0, .int .i64 0, .int .i64 0, .int .i64 0, .bool false]) (t := 50) ?hr ?_; (case hd => rfl); (case hg => rfl); (case hr => first | (go_simp; done) | (go_simp; rfl)); intro gb137 hg w10 hbox hb; have n0_ := Aside0.mk (Kd.R_below (by (with_reducible repeat (first | apply Kd.R_alloc | apply Kd.R_drewN | apply Kd.R_drew)); exact HO_7.out) hb); have n1_ := Aside0.mk (blk_below (g := gb135) (o := .cells #[.int .i64 a0_0, .int .i64 a0_1, .int .i64 a0_2, .int .i64 a0_3, .int .i64 a0_4] 46 (0, 0)) (by (with_reducible repeat (first | refine blk_drewN ?_ _ | refine blk_drew ?_ | refine blk_alloc ?_ _)); exact BK135.out) hb); have n2_ := Aside0.mk (below_step (by repeat (first | (with_reducible first | exact HB.out | apply below_alloc | apply pw_below_drewN | apply below_drew1 | refine below_set ?_ GE135.out) | exact HB.out)) hb); have n3_ := Aside0.mk (hbox); have n4_ := Aside0.mk ((by rw [hg]; exact (below_size (by repeat (first | (with_reducible first | exact HB.out | apply below_alloc | apply pw_below_drewN | apply below_drew1 | refine below_set ?_ GE135.out) | exact HB.out))) : w.heap.size ≤ gb137)); have n5_ := Aside0.mk ((by rw [hg]; exact (below_size (by repeat (first | (with_reducible first | exact HB.out | apply below_alloc | apply pw_below_drewN | apply below_drew1 | refine below_set ?_ GE135.out) | exact HB.out))) : w.heap.size ≤ gb137)); have n6_ := Aside0.mk ((by rw [hg]; exact Nat.ne_of_lt (blk_lt (g := gb135) (o := .cells #[.int .i64 a0_0, .int .i64 a0_1, .int .i64 a0_2, .int .i64 a0_3, .int .i64 a0_4] 46 (0, 0)) (by (with_reducible repeat (first | refine blk_drewN ?_ _ | refine blk_drew ?_ | refine blk_alloc ?_ _)); exact BK135.out)) : gb135 ≠ gb137)); have n7_ := Aside0.mk ((by rw [hg]; exact Nat.ne_of_gt (blk_lt (g := gb135) (o := .cells #[.int .i64 a0_0, .int .i64 a0_1, .int .i64 a0_2, .int .i64 a0_3, .int .i64 a0_4] 46 (0, 0)) (by (with_reducible repeat (first | refine blk_drewN ?_ _ | refine blk_drew ?_ | refine blk_alloc ?_ _)); exact BK135.out)) : gb137 ≠ gb135)); clear HO_7; clear BK135; clear HB; have HO_7 := n0_; have BK135 := n1_; have HB := n2_; have BK137 := n3_; have GW137 := n4_; have GE137 := n5_; have NB135_137 := n6_; have NB137_135 := n7_; clear n0_ n1_ n2_ n3_ n4_ n5_ n6_ n7_; clear hb hbox hg; have hnb11 := NB137_135.out; have hnc11 := NB135_137.out; have hcz12_0 : w10.cell? ⟨gb137, 0, none⟩ = some (.int .i64 0) := (blk_cell BK137.out 0).trans rfl; have hcz12_1 : w10.cell? ⟨gb137, 1, none⟩ = some (.int .i64 0) := (blk_cell BK137.out 1).trans rfl; have hcz12_2 : w10.cell? ⟨gb137, 2, none⟩ = some (.int .i64 0) := (blk_cell BK137.out 2).trans rfl; have hcz12_3 : w10.cell? ⟨gb137, 3, none⟩ = some (.slice none 0 0) := (blk_cell BK137.out 3).trans rfl; have hcz12_4 : w10.cell? ⟨gb137, 4, none⟩ = some (.int .i64 0) := (blk_cell BK137.out 4).trans rfl; have hcz12_5 : w10.cell? ⟨gb137, 5, none⟩ = some (.int .i64 0) := (blk_cell BK137.out 5).trans rfl; have hcz12_6 : w10.cell? ⟨gb137, 6, none⟩ = some (.int .i64 0) := (blk_cell BK137.out 6).trans rfl; have hcz12_7 : w10.cell? ⟨gb137, 7, none⟩ = some (.bool false) := (blk_cell BK137.out 7).trans rfl; have hfz12_0 := blk_frozen BK137.out 0; have hfz12_1 := blk_frozen BK137.out 1; have hfz12_2 := blk_frozen BK137.out 2; have hfz12_3 := blk_frozen BK137.out 3; have hfz12_4 := blk_frozen BK137.out 4; have hfz12_5 := blk_frozen BK137.out 5; have hfz12_6 := blk_frozen BK137.out 6; have hfz12_7 := blk_frozen BK137.out 7; have hcz13_0 : w10.cell? ⟨gb135, 0, none⟩ = some (.int .i64 a0_0) := (blk_cell BK135.out 0).trans rfl; have hcz13_1 : w10.cell? ⟨gb135, 1, none⟩ = some (.int .i64 a0_1) := (blk_cell BK135.out 1).trans rfl; have hcz13_2 : w10.cell? ⟨gb135, 2, none⟩ = some (.int .i64 a0_2) := (blk_cell BK135.out 2).trans rfl; have hcz13_3 : w10.cell? ⟨gb135, 3, none⟩ = some (.int .i64 a0_3) := (blk_cell BK135.out 3).trans rfl; have hcz13_4 : w10.cell? ⟨gb135, 4, none⟩ = some (.int .i64 a0_4) := (blk_cell BK135.out 4).trans rfl; have hfz13_0 := blk_frozen BK135.out 0; have hfz13_1 := blk_frozen BK135.out 1; have hfz13_2 := blk_frozen BK135.out 2; have hfz13_3 := blk_frozen BK135.out 3; have hfz13_4 := blk_frozen BK135.out 4) | ((with_reducible refine gate_builtin (b := .append) (xs := #[.tmp 29, .tmp 31]) rfl ?_); at_builtin; refine Kd.R_append_rows (Kd.int .i64) (w0 := w) w.heap.size rfl (.tmp 29) (.tmp 31) 28 3 (.int .i64 0) 8 rfl Try.underlying28 info3 rfl (by decide) (by omega) u7 x7_1 ((rd_T50 l1 x16_1).f3) _ _ _ (fun _ => True) (fun _ => False) rfl rfl ?aO ?aR (fun _ _ h => h) (fun _ h => h.elim) ?aF ?aB ?aS ?aL ?_; (case aR => exact Kd.C_below HR136_3.out (by repeat (first | (with_reducible first | exact HB.out | apply below_alloc | apply pw_below_drewN | apply below_drew1 | refine below_set ?_ GE135.out | refine below_set ?_ GE137.out) | exact HB.out))); (case aB => exact (by repeat (first | (with_reducible first | exact HB.out | apply below_alloc | apply pw_below_drewN | apply below_drew1 | refine below_set ?_ GE135.out | refine below_set ?_ GE137.out) | exact HB.out))); (case aF => exact (fun _ _ => trivial)); (case aO => exact (by (with_reducible repeat (first | apply Kd.R_alloc | apply Kd.R_drewN | apply Kd.R_drew)); exact Kd.R_mono (Kd.R_far (p := ⟨gb137, 7, none⟩) (Kd.R_far (p := ⟨gb137, 6, none⟩) (Kd.R_far (p := ⟨gb137, 5, none⟩) (Kd.R_far (p := ⟨gb137, 4, none⟩) (Kd.R_far (p := ⟨gb137, 3, none⟩) (Kd.R_far (p := ⟨gb137, 2, none⟩) (Kd.R_far (p := ⟨gb137, 1, none⟩) (Kd.R_far (p := ⟨gb137, 0, none⟩) (Kd.R_types HO_7.out BK137.out (by decide)) (fun _ hk => hk.2) (.int .i64 ((rd_T50 l1 x16_1).f0))) (fun _ hk => hk.2) (.int .i64 ((rd_T50 l1 x16_1).f1))) (fun _ hk => hk.2) (.int .i64 ((rd_T50 l1 x16_1).f2))) (fun _ hk => hk.2) (.slice A136_3 ((rd_T50 l1 x16_1).f3).length c136_3)) (fun _ hk => hk.2) (.int .i64 ((rd_T50 l1 x16_1).f4))) (fun _ hk => hk.2) (.int .i64 ((rd_T50 l1 x16_1).f5))) (fun _ hk => hk.2) (.int .i64 ((rd_T50 l1 x16_1).f6))) (fun _ hk => hk.2) (.bool ((rd_T50 l1 x16_1).f7))) (fun _ hk => trivial))); (case aS => exact (below_size (by repeat (first | (with_reducible first | exact HB.out | apply below_alloc | apply pw_below_drewN | apply below_drew1 | refine below_set ?_ GE135.out | refine below_set ?_ GE137.out) | exact HB.out)))); (case aL => have := LMc9.out; omega); intro v139 w14 ho hb hg hat; rw [← Ny138.out] at ho; have n0_ := Aside0.mk (blk_grown (g := gb135) (o := .cells #[.int .i64 a0_0, .int .i64 a0_1, .int .i64 a0_2, .int .i64 a0_3, .int .i64 a0_4] 46 (0, 0)) (by (with_reducible repeat (first | refine blk_drewN ?_ _ | refine blk_drew ?_ | refine blk_alloc ?_ _)); refine blk_far ?_ NB135_137.out _; (with_reducible repeat (first | refine blk_drewN ?_ _ | refine blk_drew ?_ | refine blk_alloc ?_ _)); refine blk_far ?_ NB135_137.out _; (with_reducible repeat (first | refine blk_drewN ?_ _ | refine blk_drew ?_ | refine blk_alloc ?_ _)); refine blk_far ?_ NB135_137.out _; (with_reducible repeat (first | refine blk_drewN ?_ _ | refine blk_drew ?_ | refine blk_alloc ?_ _)); refine blk_far ?_ NB135_137.out _; (with_reducible repeat (first | refine blk_drewN ?_ _ | refine blk_drew ?_ | refine blk_alloc ?_ _)); refine blk_far ?_ NB135_137.out _; (with_reducible repeat (first | refine blk_drewN ?_ _ | refine blk_drew ?_ | refine blk_alloc ?_ _)); refine blk_far ?_ NB135_137.out _; (with_reducible repeat (first | refine blk_drewN ?_ _ | refine blk_drew ?_ | refine blk_alloc ?_ _)); refine blk_far ?_ NB135_137.out _; (with_reducible repeat (first | refine blk_drewN ?_ _ | refine blk_drew ?_ | refine blk_alloc ?_ _)); refine blk_far ?_ NB135_137.out _; (with_reducible repeat (first | refine blk_drewN ?_ _ | refine blk_drew ?_ | refine blk_alloc ?_ _)); exact BK135.out) hg (Kd.R_ne HO_7.out BK135.out (by decide))); have n1_ := Aside0.mk (blk_grown (g := gb137) (o := .cells #[.int .i64 ((rd_T50 l1 x16_1).f0), .int .i64 ((rd_T50 l1 x16_1).f1), .int .i64 ((rd_T50 l1 x16_1).f2), .slice A136_3 ((rd_T50 l1 x16_1).f3).length c136_3, .int .i64 ((rd_T50 l1 x16_1).f4), .int .i64 ((rd_T50 l1 x16_1).f5), .int .i64 ((rd_T50 l1 x16_1).f6), .bool ((rd_T50 l1 x16_1).f7)] 50 (0, 0)) (by (with_reducible repeat (first | refine blk_drewN ?_ _ | refine blk_drew ?_ | refine blk_alloc ?_ _)); refine blk_put (cs := #[.int .i64 ((rd_T50 l1 x16_1).f0), .int .i64 ((rd_T50 l1 x16_1).f1), .int .i64 ((rd_T50 l1 x16_1).f2), .slice A136_3 ((rd_T50 l1 x16_1).f3).length c136_3, .int .i64 ((rd_T50 l1 x16_1).f4), .int .i64 ((rd_T50 l1 x16_1).f5), .int .i64 ((rd_T50 l1 x16_1).f6), .bool false]) ?_ 7 _ rfl; (with_reducible repeat (first | refine blk_drewN ?_ _ | refine blk_drew ?_ | refine blk_alloc ?_ _)); refine blk_put (cs := #[.int .i64 ((rd_T50 l1 x16_1).f0), .int .i64 ((rd_T50 l1 x16_1).f1), .int .i64 ((rd_T50 l1 x16_1).f2), .slice A136_3 ((rd_T50 l1 x16_1).f3).length c136_3, .int .i64 ((rd_T50 l1 x16_1).f4), .int .i64 ((rd_T50 l1 x16_1).f5), .int .i64 0, .bool false]) ?_ 6 _ rfl; (with_reducible repeat (first | refine blk_drewN ?_ _ | refine blk_drew ?_ | refine blk_alloc ?_ _)); refine blk_put (cs := #[.int .i64 ((rd_T50 l1 x16_1).f0), .int .i64 ((rd_T50 l1 x16_1).f1), .int .i64 ((rd_T50 l1 x16_1).f2), .slice A136_3 ((rd_T50 l1 x16_1).f3).length c136_3, .int .i64 ((rd_T50 l1 x16_1).f4), .int .i64 0, .int .i64 0, .bool false]) ?_ 5 _ rfl; (with_reducible repeat (first | refine blk_drewN ?_ _ | refine blk_drew ?_ | refine blk_alloc ?_ _)); refine blk_put (cs := #[.int .i64 ((rd_T50 l1 x16_1).f0), .int .i64 ((rd_T50 l1 x16_1).f1), .int .i64 ((rd_T50 l1 x16_1).f2), .slice A136_3 ((rd_T50 l1 x16_1).f3).length c136_3, .int .i64 0, .int .i64 0, .int .i64 0, .bool false]) ?_ 4 _ rfl; (with_reducible repeat (first | refine blk_drewN ?_ _ | refine blk_drew ?_ | refine blk_alloc ?_ _)); refine blk_put (cs := #[.int .i64 ((rd_T50 l1 x16_1).f0), .int .i64 ((rd_T50 l1 x16_1).f1), .int .i64 ((rd_T50 l1 x16_1).f2), .slice none 0 0, .int .i64 0, .int .i64 0, .int .i64 0, .bool false]) ?_ 3 _ rfl; (with_reducible repeat (first | refine blk_drewN ?_ _ | refine blk_drew ?_ | refine blk_alloc ?_ _)); refine blk_put (cs := #[.int .i64 ((rd_T50 l1 x16_1).f0), .int .i64 ((rd_T50 l1 x16_1).f1), .int .i64 0, .slice none 0 0, .int .i64 0, .int .i64 0, .int .i64 0, .bool false]) ?_ 2 _ rfl; (with_reducible repeat (first | refine blk_drewN ?_ _ | refine blk_drew ?_ | refine blk_alloc ?_ _)); refine blk_put (cs := #[.int .i64 ((rd_T50 l1 x16_1).f0), .int .i64 0, .int .i64 0, .slice none 0 0, .int .i64 0, .int .i64 0, .int .i64 0, .bool false]) ?_ 1 _ rfl; (with_reducible repeat (first | refine blk_drewN ?_ _ | refine blk_drew ?_ | refine blk_alloc ?_ _)); refine blk_put (cs := #[.int .i64 0, .int .i64 0, .int .i64 0, .slice none 0 0, .int .i64 0, .int .i64 0, .int .i64 0, .bool false]) ?_ 0 _ rfl; (with_reducible repeat (first | refine blk_drewN ?_ _ | refine blk_drew ?_ | refine blk_alloc ?_ _)); exact BK137.out) hg (Kd.R_ne HO_7.out BK137.out (by decide))); have n2_ := Aside0.mk (hb); have n3_ := Aside0.mk (ho); clear BK135; clear BK137; clear HB; clear HO_7; have BK135 := n0_; have BK137 := n1_; have HB := n2_; have HO140 := n3_; clear n0_ n1_ n2_ n3_; clear ho hb hg hat))
        go_roundg k1
        case measure => have := HK1.out; omega
        case rel => exact ⟨(wrap64 (x6_1 - ((rd_T50 l1 x16_1).f4))), (y138), (wrap64 (x16_1 + 1)), (by first | rfl | (simp; done) | (simp [*]; done)), (by first | rfl | (simp; done) | (simp [*]; done)), H', ⟨by have := HK1.out; omega⟩, ⟨by (with_reducible repeat (first | apply Kd.R_alloc | apply Kd.R_drewN | apply Kd.R_drew)); exact HO140.out⟩, ⟨by (with_reducible repeat (first | refine blk_drewN ?_ _ | refine blk_drew ?_ | refine blk_alloc ?_ _)); exact BK135.out⟩, ⟨by repeat (first | (with_reducible first | exact HB.out | apply below_alloc | apply pw_below_drewN | apply below_drew1 | refine below_set ?_ GE135.out | refine below_set ?_ GE137.out) | exact HB.out)⟩⟩
       ·
        rw [if_neg c9] at H
        exact absurd H (by simp)
      ·
       rw [if_neg c8] at H
       have c8b0 : (((rd_T50 l1 x16_1).f2) == a0_0) = false := beq_eq_false_iff_ne.mpr c8
       have c8b1 : (((rd_T50 l1 x16_1).f2) != a0_0) = true := bne_iff_ne.mpr c8
       have H' := Aside0.mk H
       clear H
       have p136 : 0 ≤ (x16_1 : Int) := of_decide_eq_true (by first | (with_reducible assumption) | assumption)
       have q136 : x16_1 < (l1.length : Int) := of_decide_eq_true (by first | (with_reducible assumption) | assumption)
       obtain ⟨ad136, A136_3, c136_3, e136, hx136_0, hx136_1, hx136_2, hx136_3, hx136_4, hx136_5, hx136_6, hx136_7, hl136_3, hi136_3⟩ := at_T50 HR1.out x16_1 p136 q136
       cases e136
       (try (replace hx136_0 := (HB.out.cell (World.block_lt_of_cell? w _ hx136_0)).trans hx136_0))
       (try (replace hx136_1 := (HB.out.cell (World.block_lt_of_cell? w _ hx136_1)).trans hx136_1))
       (try (replace hx136_2 := (HB.out.cell (World.block_lt_of_cell? w _ hx136_2)).trans hx136_2))
       (try (replace hx136_3 := (HB.out.cell (World.block_lt_of_cell? w _ hx136_3)).trans hx136_3))
       (try (replace hx136_4 := (HB.out.cell (World.block_lt_of_cell? w _ hx136_4)).trans hx136_4))
       (try (replace hx136_5 := (HB.out.cell (World.block_lt_of_cell? w _ hx136_5)).trans hx136_5))
       (try (replace hx136_6 := (HB.out.cell (World.block_lt_of_cell? w _ hx136_6)).trans hx136_6))
       (try (replace hx136_7 := (HB.out.cell (World.block_lt_of_cell? w _ hx136_7)).trans hx136_7))
       have HR136_3 := Aside0.mk hi136_3
       have HC136_3 := Aside0.mk hl136_3
       clear hi136_3 hl136_3
       replace p136 := eq_true p136
       replace q136 := eq_true q136
       go_wp2_with (first | ((with_reducible refine gate_dst (N := 9) rfl ?_); refine box_event ?hg (N := 9) ?hd (cs := #[.int .i64 0, .int .i64 0, .int .i64 0, .slice none 0 0, .int .i64 0, .int .i64 0, .int .i64 0, .bool false]) (t := 50) ?hr ?_; (case hd => rfl); (case hg => rfl); (case hr => first | (go_simp; done) | (go_simp; rfl)); intro gb137 hg w15 hbox hb; have n0_ := Aside0.mk (Kd.R_below (by (with_reducible repeat (first | apply Kd.R_alloc | apply Kd.R_drewN | apply Kd.R_drew)); exact HO_7.out) hb); have n1_ := Aside0.mk (blk_below (g := gb135) (o := .cells #[.int .i64 a0_0, .int .i64 a0_1, .int .i64 a0_2, .int .i64 a0_3, .int .i64 a0_4] 46 (0, 0)) (by (with_reducible repeat (first | refine blk_drewN ?_ _ | refine blk_drew ?_ | refine blk_alloc ?_ _)); exact BK135.out) hb); have n2_ := Aside0.mk (below_step (by repeat (first | (with_reducible first | exact HB.out | apply below_alloc | apply pw_below_drewN | apply below_drew1 | refine below_set ?_ GE135.out) | exact HB.out)) hb); have n3_ := Aside0.mk (hbox); have n4_ := Aside0.mk ((by rw [hg]; exact (below_size (by repeat (first | (with_reducible first | exact HB.out | apply below_alloc | apply pw_below_drewN | apply below_drew1 | refine below_set ?_ GE135.out) | exact HB.out))) : w.heap.size ≤ gb137)); have n5_ := Aside0.mk ((by rw [hg]; exact (below_size (by repeat (first | (with_reducible first | exact HB.out | apply below_alloc | apply pw_below_drewN | apply below_drew1 | refine below_set ?_ GE135.out) | exact HB.out))) : w.heap.size ≤ gb137)); have n6_ := Aside0.mk ((by rw [hg]; exact Nat.ne_of_lt (blk_lt (g := gb135) (o := .cells #[.int .i64 a0_0, .int .i64 a0_1, .int .i64 a0_2, .int .i64 a0_3, .int .i64 a0_4] 46 (0, 0)) (by (with_reducible repeat (first | refine blk_drewN ?_ _ | refine blk_drew ?_ | refine blk_alloc ?_ _)); exact BK135.out)) : gb135 ≠ gb137)); have n7_ := Aside0.mk ((by rw [hg]; exact Nat.ne_of_gt (blk_lt (g := gb135) (o := .cells #[.int .i64 a0_0, .int .i64 a0_1, .int .i64 a0_2, .int .i64 a0_3, .int .i64 a0_4] 46 (0, 0)) (by (with_reducible repeat (first | refine blk_drewN ?_ _ | refine blk_drew ?_ | refine blk_alloc ?_ _)); exact BK135.out)) : gb137 ≠ gb135)); clear HO_7; clear BK135; clear HB; have HO_7 := n0_; have BK135 := n1_; have HB := n2_; have BK137 := n3_; have GW137 := n4_; have GE137 := n5_; have NB135_137 := n6_; have NB137_135 := n7_; clear n0_ n1_ n2_ n3_ n4_ n5_ n6_ n7_; clear hb hbox hg; have hnb16 := NB137_135.out; have hnc16 := NB135_137.out; have hcz17_0 : w15.cell? ⟨gb137, 0, none⟩ = some (.int .i64 0) := (blk_cell BK137.out 0).trans rfl; have hcz17_1 : w15.cell? ⟨gb137, 1, none⟩ = some (.int .i64 0) := (blk_cell BK137.out 1).trans rfl; have hcz17_2 : w15.cell? ⟨gb137, 2, none⟩ = some (.int .i64 0) := (blk_cell BK137.out 2).trans rfl; have hcz17_3 : w15.cell? ⟨gb137, 3, none⟩ = some (.slice none 0 0) := (blk_cell BK137.out 3).trans rfl; have hcz17_4 : w15.cell? ⟨gb137, 4, none⟩ = some (.int .i64 0) := (blk_cell BK137.out 4).trans rfl; have hcz17_5 : w15.cell? ⟨gb137, 5, none⟩ = some (.int .i64 0) := (blk_cell BK137.out 5).trans rfl; have hcz17_6 : w15.cell? ⟨gb137, 6, none⟩ = some (.int .i64 0) := (blk_cell BK137.out 6).trans rfl; have hcz17_7 : w15.cell? ⟨gb137, 7, none⟩ = some (.bool false) := (blk_cell BK137.out 7).trans rfl; have hfz17_0 := blk_frozen BK137.out 0; have hfz17_1 := blk_frozen BK137.out 1; have hfz17_2 := blk_frozen BK137.out 2; have hfz17_3 := blk_frozen BK137.out 3; have hfz17_4 := blk_frozen BK137.out 4; have hfz17_5 := blk_frozen BK137.out 5; have hfz17_6 := blk_frozen BK137.out 6; have hfz17_7 := blk_frozen BK137.out 7; have hcz18_0 : w15.cell? ⟨gb135, 0, none⟩ = some (.int .i64 a0_0) := (blk_cell BK135.out 0).trans rfl; have hcz18_1 : w15.cell? ⟨gb135, 1, none⟩ = some (.int .i64 a0_1) := (blk_cell BK135.out 1).trans rfl; have hcz18_2 : w15.cell? ⟨gb135, 2, none⟩ = some (.int .i64 a0_2) := (blk_cell BK135.out 2).trans rfl; have hcz18_3 : w15.cell? ⟨gb135, 3, none⟩ = some (.int .i64 a0_3) := (blk_cell BK135.out 3).trans rfl; have hcz18_4 : w15.cell? ⟨gb135, 4, none⟩ = some (.int .i64 a0_4) := (blk_cell BK135.out 4).trans rfl; have hfz18_0 := blk_frozen BK135.out 0; have hfz18_1 := blk_frozen BK135.out 1; have hfz18_2 := blk_frozen BK135.out 2; have hfz18_3 := blk_frozen BK135.out 3; have hfz18_4 := blk_frozen BK135.out 4))
       go_roundg k1
       case measure => have := HK1.out; omega
       case rel => exact ⟨(x6_1), (x7_1), (wrap64 (x16_1 + 1)), (by first | rfl | (simp; done) | (simp [*]; done)), (by first | rfl | (simp; done) | (simp [*]; done)), H', ⟨by have := HK1.out; omega⟩, ⟨by (with_reducible repeat (first | apply Kd.R_alloc | apply Kd.R_drewN | apply Kd.R_drew)); exact Kd.R_mono (Kd.R_far (p := ⟨gb137, 7, none⟩) (Kd.R_far (p := ⟨gb137, 6, none⟩) (Kd.R_far (p := ⟨gb137, 5, none⟩) (Kd.R_far (p := ⟨gb137, 4, none⟩) (Kd.R_far (p := ⟨gb137, 3, none⟩) (Kd.R_far (p := ⟨gb137, 2, none⟩) (Kd.R_far (p := ⟨gb137, 1, none⟩) (Kd.R_far (p := ⟨gb137, 0, none⟩) (Kd.R_types HO_7.out BK137.out (by decide)) (fun _ hk => hk.2) (.int .i64 ((rd_T50 l1 x16_1).f0))) (fun _ hk => hk.2) (.int .i64 ((rd_T50 l1 x16_1).f1))) (fun _ hk => hk.2) (.int .i64 ((rd_T50 l1 x16_1).f2))) (fun _ hk => hk.2) (.slice A136_3 ((rd_T50 l1 x16_1).f3).length c136_3)) (fun _ hk => hk.2) (.int .i64 ((rd_T50 l1 x16_1).f4))) (fun _ hk => hk.2) (.int .i64 ((rd_T50 l1 x16_1).f5))) (fun _ hk => hk.2) (.int .i64 ((rd_T50 l1 x16_1).f6))) (fun _ hk => hk.2) (.bool ((rd_T50 l1 x16_1).f7))) (fun _ hk => trivial)⟩, ⟨by (with_reducible repeat (first | refine blk_drewN ?_ _ | refine blk_drew ?_ | refine blk_alloc ?_ _)); refine blk_far ?_ NB135_137.out _; (with_reducible repeat (first | refine blk_drewN ?_ _ | refine blk_drew ?_ | refine blk_alloc ?_ _)); refine blk_far ?_ NB135_137.out _; (with_reducible repeat (first | refine blk_drewN ?_ _ | refine blk_drew ?_ | refine blk_alloc ?_ _)); refine blk_far ?_ NB135_137.out _; (with_reducible repeat (first | refine blk_drewN ?_ _ | refine blk_drew ?_ | refine blk_alloc ?_ _)); refine blk_far ?_ NB135_137.out _; (with_reducible repeat (first | refine blk_drewN ?_ _ | refine blk_drew ?_ | refine blk_alloc ?_ _)); refine blk_far ?_ NB135_137.out _; (with_reducible repeat (first | refine blk_drewN ?_ _ | refine blk_drew ?_ | refine blk_alloc ?_ _)); refine blk_far ?_ NB135_137.out _; (with_reducible repeat (first | refine blk_drewN ?_ _ | refine blk_drew ?_ | refine blk_alloc ?_ _)); refine blk_far ?_ NB135_137.out _; (with_reducible repeat (first | refine blk_drewN ?_ _ | refine blk_drew ?_ | refine blk_alloc ?_ _)); refine blk_far ?_ NB135_137.out _; (with_reducible repeat (first | refine blk_drewN ?_ _ | refine blk_drew ?_ | refine blk_alloc ?_ _)); exact BK135.out⟩, ⟨by repeat (first | (with_reducible first | exact HB.out | apply below_alloc | apply pw_below_drewN | apply below_drew1 | refine below_set ?_ GE135.out | refine below_set ?_ GE137.out) | exact HB.out)⟩⟩
     ·
      rw [if_neg c7] at H
      exact absurd H (by simp)
    ·
     rw [if_neg c6] at H
     exact absurd H (by simp)
   ·
    rw [if_neg c5] at H
    have c5b0 : decide (x16_1 < (l1.length : Int)) = false := decide_eq_false c5
    clear c5
    have H' := Aside0.mk H
    clear H
    have hcz19_0 : wr.cell? ⟨gb135, 0, none⟩ = some (.int .i64 a0_0) := (blk_cell BK135.out 0).trans rfl
    have hcz19_1 : wr.cell? ⟨gb135, 1, none⟩ = some (.int .i64 a0_1) := (blk_cell BK135.out 1).trans rfl
    have hcz19_2 : wr.cell? ⟨gb135, 2, none⟩ = some (.int .i64 a0_2) := (blk_cell BK135.out 2).trans rfl
    have hcz19_3 : wr.cell? ⟨gb135, 3, none⟩ = some (.int .i64 a0_3) := (blk_cell BK135.out 3).trans rfl
    have hcz19_4 : wr.cell? ⟨gb135, 4, none⟩ = some (.int .i64 a0_4) := (blk_cell BK135.out 4).trans rfl
    have hfz19_0 := blk_frozen BK135.out 0
    have hfz19_1 := blk_frozen BK135.out 1
    have hfz19_2 := blk_frozen BK135.out 2
    have hfz19_3 := blk_frozen BK135.out 3
    have hfz19_4 := blk_frozen BK135.out 4
    go_wp2
    go_loopg [10, 36] k1 (fun kq v10 v36 w' => ∃ (x10_2 : List Int) (x36_2 : Int), v36 = .int .i64 x36_2 ∧ Aside0 (furlongref07_free.l1 kq x6_1 x7_1 x10_2 a0_1 x36_2 = some (r1, r2)) ∧ Aside0 (kq ≤ k1) ∧ Aside0 (Kd.R (Kd.int .i64) 3 w' w.heap.size (fun k_ => some k_ ≠ (v10 : Value).ownBlock) u7 x7_1) ∧ Aside0 (Kd.R (Kd.int .i64) 3 w' w.heap.size (fun k_ => some k_ ≠ (u7 : Value).ownBlock) v10 x10_2) ∧ Aside0 (w'.heap[gb135]? = some (.cells #[.int .i64 a0_0, .int .i64 a0_1, .int .i64 a0_2, .int .i64 a0_3, .int .i64 a0_4] 46 (0, 0))) ∧ Aside0 (Below w.heap.size w w'))
    case atStart => exact ⟨(([] : List Int)), (0), (by first | rfl | (simp; done) | (simp [*]; done)), H', ⟨Nat.le_refl _⟩, ⟨by (with_reducible repeat (first | apply Kd.R_alloc | apply Kd.R_drewN | apply Kd.R_drew)); exact Kd.R_mono HO_7.out (fun _ hk => (by simp [Value.ownBlock]))⟩, ⟨by first | exact Kd.R_nil _ _ _ _ _ | exact Kd.N_nil _ _ _ _ _ | exact Kd.V_nil _ _ _ _ _ | exact Kd.Q_nil _ _ _ _ _ | exact Kd.S_nil _ _ _ _ _⟩, ⟨by (with_reducible repeat (first | refine blk_drewN ?_ _ | refine blk_drew ?_ | refine blk_alloc ?_ _)); exact BK135.out⟩, ⟨by repeat (first | (with_reducible first | exact HB.out | apply below_alloc | apply pw_below_drewN | apply below_drew1 | refine below_set ?_ GE135.out) | exact HB.out)⟩⟩
    case round =>
     clear H'
     (try clear c1); (try clear p1); (try clear q1); (try clear hx1); (try clear p2); (try clear c5); (try clear c5b0); (try clear c6); (try clear c6b0); (try clear p6); (try clear c7); (try clear c7b0); (try clear c8); (try clear c8b0); (try clear c8b1); (try clear c9); (try clear c11); (try clear c13); (try clear p13); (try clear q13); (try clear hx13); (try clear c16); (try clear hcz12_0); (try clear hcz12_1); (try clear hcz12_2); (try clear hcz12_3); (try clear hcz12_4); (try clear hcz12_5); (try clear hcz12_6); (try clear hcz12_7); (try clear hcz13_0); (try clear hcz13_1); (try clear hcz13_2); (try clear hcz13_3); (try clear hcz13_4); (try clear hcz17_0); (try clear hcz17_1); (try clear hcz17_2); (try clear hcz17_3); (try clear hcz17_4); (try clear hcz17_5); (try clear hcz17_6); (try clear hcz17_7); (try clear hcz18_0); (try clear hcz18_1); (try clear hcz18_2); (try clear hcz18_3); (try clear hcz18_4); (try clear hcz19_0); (try clear hcz19_1); (try clear hcz19_2); (try clear hcz19_3); (try clear hcz19_4); (try clear hcz4_0); (try clear hcz4_1); (try clear hcz4_2); (try clear hcz4_3); (try clear hcz4_4); (try clear hfz12_0); (try clear hfz12_1); (try clear hfz12_2); (try clear hfz12_3); (try clear hfz12_4); (try clear hfz12_5); (try clear hfz12_6); (try clear hfz12_7); (try clear hfz13_0); (try clear hfz13_1); (try clear hfz13_2); (try clear hfz13_3); (try clear hfz13_4); (try clear hfz17_0); (try clear hfz17_1); (try clear hfz17_2); (try clear hfz17_3); (try clear hfz17_4); (try clear hfz17_5); (try clear hfz17_6); (try clear hfz17_7); (try clear hfz18_0); (try clear hfz18_1); (try clear hfz18_2); (try clear hfz18_3); (try clear hfz18_4); (try clear hfz19_0); (try clear hfz19_1); (try clear hfz19_2); (try clear hfz19_3); (try clear hfz19_4); (try clear hfz4_0); (try clear hfz4_1); (try clear hfz4_2); (try clear hfz4_3); (try clear hfz4_4); (try clear hx136_0); (try clear hx136_1); (try clear hx136_2); (try clear hx136_3); (try clear hx136_4); (try clear hx136_5); (try clear hx136_6); (try clear hx136_7); (try clear p136); (try clear p2); (try clear q136)
     obtain ⟨x10_2, x36_2, rfl, HA, HK2, HO_7, HO_10, BK135, HB⟩ := hrel
     cases gk with
     | zero => exact absurd HA.out (by simp [furlongref07_free.l1])
     | succ k2 =>
      have H := HA.out
      clear HA
      simp only [furlongref07_free.l1] at H
      by_cases c20 : x36_2 < a0_1
      ·
       rw [if_pos c20] at H
       have c20b0 : decide (x36_2 < a0_1) = true := decide_eq_true c20
       clear c20
       replace H := Option.bind_eq_some_iff.mp H
       obtain ⟨t141, A210, H⟩ := H
       replace H : (if t141 = true then (furlongref07_free.l1 k2 x6_1 x7_1 x10_2 a0_1 (wrap64 (x36_2 + 1))) else (if x10_2.length < 17592186044416 then (furlongref07_free.l1 k2 x6_1 x7_1 (x10_2 ++ [x36_2]) a0_1 (wrap64 (x36_2 + 1))) else (none))) = some (r1, r2) := H
       have A21 := Aside0.mk A210
       clear A210
       by_cases c22 : t141 = true
       ·
        subst c22
        have H1 : (furlongref07_free.l1 k2 x6_1 x7_1 x10_2 a0_1 (wrap64 (x36_2 + 1))) = some (r1, r2) := by rw [if_pos rfl] at H; exact H
        clear H
        have H := H1
        clear H1
        have H' := Aside0.mk H
        clear H
        obtain ⟨Ao23, co23, eo23⟩ := Kd.R_slice HO_7.out
        subst eo23
        go_wp2_with (first | ((with_reducible refine gate_callee (f := 117) rfl ?_); refine goesL_ (some 41) rfl rfl Try.func117 (by kernel_rfl) rfl #[.slice Ao23 x7_1.length co23, .int .i64 x36_2] rfl (by (try simp only [List.map_toArray, List.map_cons, List.map_nil]); first | done | rfl | (simp only [List.length_drop, List.length_take]; rfl)) ?_; (with_reducible refine (furlongref01_Has.calls k2 _ _ x7_1 x36_2 true _ ?side1 ?side2 A21.out).mono ?_); (case side1 => repeat (first | exact (Kd.R_reads' HO_7.out).2.2 | (with_reducible refine Kd.C_alloc ?_ _) | (with_reducible refine Kd.C_drewN ?_ _) | (with_reducible refine Kd.C_drew ?_))); (case side2 => exact (Kd.R_reads' HO_7.out).2.1); rintro e w' ⟨rfl, ⟨nd, rfl⟩⟩; refine ⟨_, rfl, ?_⟩))
        go_roundg k2
        case measure => have := HK1.out; have := HK2.out; omega
        case rel => exact ⟨(x10_2), (wrap64 (x36_2 + 1)), (by first | rfl | (simp; done) | (simp [*]; done)), H', ⟨by have := HK1.out; have := HK2.out; omega⟩, ⟨by (with_reducible repeat (first | apply Kd.R_alloc | apply Kd.R_drewN | apply Kd.R_drew)); exact HO_7.out⟩, ⟨by (with_reducible repeat (first | apply Kd.R_alloc | apply Kd.R_drewN | apply Kd.R_drew)); exact HO_10.out⟩, ⟨by (with_reducible repeat (first | refine blk_drewN ?_ _ | refine blk_drew ?_ | refine blk_alloc ?_ _)); exact BK135.out⟩, ⟨by repeat (first | (with_reducible first | exact HB.out | apply below_alloc | apply pw_below_drewN | apply below_drew1 | refine below_set ?_ GE135.out) | exact HB.out)⟩⟩
       ·
        replace c22 := Bool.eq_false_iff.mpr c22
        subst c22
        have H1 : (if x10_2.length < 17592186044416 then (furlongref07_free.l1 k2 x6_1 x7_1 (x10_2 ++ [x36_2]) a0_1 (wrap64 (x36_2 + 1))) else (none)) = some (r1, r2) := by rw [if_neg (show ¬ (false = true) by decide)] at H; exact H
        clear H
        have H := H1
        clear H1
        by_cases c24 : x10_2.length < 17592186044416
        ·
         rw [if_pos c24] at H
         have LMc24 := Aside0.mk c24
         clear c24
         obtain ⟨y142, hy142⟩ : ∃ y_ : List Int, y_ = (x10_2 ++ [x36_2]) := ⟨_, rfl⟩
         replace H : (furlongref07_free.l1 k2 x6_1 x7_1 y142 a0_1 (wrap64 (x36_2 + 1))) = some (r1, r2) := by first | (rw [hy142]; with_reducible exact H) | (have H2_ := (Option.bind_some _ _).symm.trans H; rw [hy142]; with_reducible exact H2_) | (have H2_ := (Option.bind_some _ _).symm.trans H; with_reducible exact H2_) | with_reducible exact H | (rw [hy142]; exact H) | exact H
         have Ny142 := Aside0.mk hy142
         clear hy142
         have H' := Aside0.mk H
         clear H
         obtain ⟨Ao25, co25, eo25⟩ := Kd.R_slice HO_7.out
         subst eo25
         go_wp2_with (first | ((with_reducible refine gate_callee (f := 117) rfl ?_); refine goesL_ (some 41) rfl rfl Try.func117 (by kernel_rfl) rfl #[.slice Ao25 x7_1.length co25, .int .i64 x36_2] rfl (by (try simp only [List.map_toArray, List.map_cons, List.map_nil]); first | done | rfl | (simp only [List.length_drop, List.length_take]; rfl)) ?_; (with_reducible refine (furlongref01_Has.calls k2 _ _ x7_1 x36_2 false _ ?side1 ?side2 A21.out).mono ?_); (case side1 => repeat (first | exact (Kd.R_reads' HO_7.out).2.2 | (with_reducible refine Kd.C_alloc ?_ _) | (with_reducible refine Kd.C_drewN ?_ _) | (with_reducible refine Kd.C_drew ?_))); (case side2 => exact (Kd.R_reads' HO_7.out).2.1); rintro e w' ⟨rfl, ⟨nd, rfl⟩⟩; refine ⟨_, rfl, ?_⟩) | ((with_reducible refine gate_builtin (b := .append) (xs := #[.tmp 43, .tmp 45]) rfl ?_); at_builtin; refine Kd.R_append (Kd.int .i64) (w0 := w) w.heap.size rfl (.tmp 43) (.tmp 45) 28 3 (.int .i64 0) 8 rfl Try.underlying28 info3 rfl (by decide) (by omega) u10 x10_2 x36_2 [.int .i64 x36_2] (fun k_ => some k_ ≠ (.slice Ao25 x7_1.length co25 : Value).ownBlock) (fun _ => False) rfl rfl ?aP (fun _ hk => hk.elim) ?aF ?aO ?aB ?aS ?aL ?_; (case aP => exact rfl); (case aB => exact (by repeat (first | (with_reducible first | exact HB.out | apply below_alloc | apply pw_below_drewN | apply below_drew1 | refine below_set ?_ GE135.out) | exact HB.out))); (case aF => exact (fun k_ hk => Kd.fresh' (Kd.R_lt (by (with_reducible repeat (first | apply Kd.R_alloc | apply Kd.R_drewN | apply Kd.R_drew)); exact HO_7.out)) k_ hk)); (case aO => exact (by (with_reducible repeat (first | apply Kd.R_alloc | apply Kd.R_drewN | apply Kd.R_drew)); exact HO_10.out)); (case aS => exact (below_size (by repeat (first | (with_reducible first | exact HB.out | apply below_alloc | apply pw_below_drewN | apply below_drew1 | refine below_set ?_ GE135.out) | exact HB.out)))); (case aL => have := LMc24.out; omega); intro v143 w26 ho hb hg hat; rw [← Ny142.out] at ho; have n0_ := Aside0.mk (Kd.R_after (ok := (fun _ => True)) (by (with_reducible repeat (first | apply Kd.R_alloc | apply Kd.R_drewN | apply Kd.R_drew)); exact Kd.R_mono HO_7.out (fun _ hk => ⟨trivial, hk⟩)) hg hat); have n1_ := Aside0.mk (blk_grown (g := gb135) (o := .cells #[.int .i64 a0_0, .int .i64 a0_1, .int .i64 a0_2, .int .i64 a0_3, .int .i64 a0_4] 46 (0, 0)) (by (with_reducible repeat (first | refine blk_drewN ?_ _ | refine blk_drew ?_ | refine blk_alloc ?_ _)); exact BK135.out) hg (Kd.R_ne HO_10.out BK135.out (by decide))); have n2_ := Aside0.mk (hb); have n3_ := Aside0.mk (ho); clear HO_7; clear BK135; clear HB; clear HO_10; have HO_7 := n0_; have BK135 := n1_; have HB := n2_; have HO144 := n3_; clear n0_ n1_ n2_ n3_; clear ho hb hg hat))
         go_roundg k2
         case measure => have := HK1.out; have := HK2.out; omega
         case rel => exact ⟨(y142), (wrap64 (x36_2 + 1)), (by first | rfl | (simp; done) | (simp [*]; done)), H', ⟨by have := HK1.out; have := HK2.out; omega⟩, ⟨by (with_reducible repeat (first | apply Kd.R_alloc | apply Kd.R_drewN | apply Kd.R_drew)); exact Kd.R_mono HO_7.out (fun _ hk => hk.2)⟩, ⟨by (with_reducible repeat (first | apply Kd.R_alloc | apply Kd.R_drewN | apply Kd.R_drew)); exact HO144.out⟩, ⟨by (with_reducible repeat (first | refine blk_drewN ?_ _ | refine blk_drew ?_ | refine blk_alloc ?_ _)); exact BK135.out⟩, ⟨by repeat (first | (with_reducible first | exact HB.out | apply below_alloc | apply pw_below_drewN | apply below_drew1 | refine below_set ?_ GE135.out) | exact HB.out)⟩⟩
        ·
         rw [if_neg c24] at H
         exact absurd H (by simp)
      ·
       rw [if_neg c20] at H
       have c20b0 : decide (x36_2 < a0_1) = false := decide_eq_false c20
       clear c20
       simp only [Option.some.injEq, Prod.mk.injEq] at H
       obtain ⟨rfl, rfl⟩ := H
       go_wp2
       go_ret2
       exact ⟨_, by first | rfl | (simp [errW_none, errW_some] <;> rfl) | (simp [*, errW_none, errW_some] <;> rfl), by (with_reducible repeat (first | apply Kd.R_alloc | apply Kd.R_drewN | apply Kd.R_drew)); exact Kd.R_mono HO_10.out (fun _ hk => trivial), by repeat (first | (with_reducible first | exact HB.out | apply below_alloc | apply pw_below_drewN | apply below_drew1 | refine below_set ?_ GE135.out) | exact HB.out)⟩

end Go.Proofs.Ytkbcjagkacijnaa.PPl
end
section
namespace Go.Proofs.Ytkbcjagkacijnaa.PPl
open Go.RowKit Go.Proofs.YtkbcjagkacijnaaW.PrintWords Go.Proofs.YtkbcjagkacijnaaW.PrintLast
set_option linter.unusedVariables false
set_option linter.unusedSimpArgs false
section
variable (nodes : List S46) (leases : List S50)
theorem check_ev (hN : nodes.length < 4611686018427387904) (hL : leases.length < 4611686018427387904) (hS : ∀ y ∈ leases, y.f3.length < 4611686018427387904) : furlongref07_Check.f nodes leases = some (chk nodes leases) := by
  have hs : smallB nodes leases = true := by
    unfold smallB
    rw [decide_eq_true hN, decide_eq_true hL, Bool.and_self, Bool.true_and, List.all_eq_true]
    exact fun y hy => decide_eq_true (hS y hy)
  unfold chk furlongref07_Check.f
  by_cases h : 64 < nodes.length
  · rw [if_pos h, if_pos (by omega)]
  · rw [if_neg h, if_neg (by omega), furlongref07_form.f, if_pos hs]
    simp only [Option.bind_some]
    cases formB nodes leases <;> rfl
end
section
variable (leases : List S50)
theorem free_l1 {mem : Int} (tk : List Int) (htk : tk.length < 4611686018427387904) (N : Nat) (hN : N ≤ 64) : ∀ (m i : Nat), i + m = N → ∀ acc : List Int, acc.length ≤ i →
    Ev (fun k => furlongref07_free.l1 k mem tk acc (N : Int) (i : Int)) (acc ++ ((List.range' i m).map (fun (c : Nat) => (c : Int))).filter (fun c => !tk.contains c), mem) := by
  intro m
  induction m with
  | zero =>
    intro i hi acc ha
    refine Ev.step (h := fun _ => some (acc, mem)) (fun k => ?_) ((Ev.of fun _ => rfl).eq (by simp))
    simp only [furlongref07_free.l1]
    rw [if_neg (by omega)]
  | succ m ih =>
    intro i hi acc ha
    refine Ev.step (h := fun k => (furlongref01_Has.f k tk (i : Int)).bind fun t170 => (if t170 = true then (furlongref07_free.l1 k mem tk acc (N : Int) ((i + 1 : Nat) : Int)) else (furlongref07_free.l1 k mem tk (acc ++ [(i : Int)]) (N : Int) ((i + 1 : Nat) : Int)))) (fun k => ?_) ?_
    · simp only [furlongref07_free.l1]
      rw [if_pos (by omega), if_pos (by omega), w_succ (by omega)]
    · refine Ev.bind (has_ev _ _ htk) ?_
      rw [List.range'_succ, List.map_cons, List.filter_cons]
      cases tk.contains (i : Int)
      · refine (ih (i + 1) (by omega) (acc ++ [(i : Int)]) (by simp; omega)).eq ?_
        simp
      · refine (ih (i + 1) (by omega) acc (by omega)).eq ?_
        simp
end
section
variable (leases : List S50)
theorem free_ev (n : S46) (hn : 0 ≤ n.f1 ∧ n.f1 ≤ 64) (hL : leases.length < 4611686018427387904) (hsz : sizes leases ≤ 1048576) (hm : ∀ j, j ≤ leases.length → -4611686018427387904 ≤ memOf n.f0 (leases.take j) ∧ memOf n.f0 (leases.take j) ≤ 4611686018427387904) (h2 : 0 ≤ n.f2 ∧ n.f2 ≤ 1099511627776) (b3 b4 : Int) :
    Ev (fun k => furlongref07_free.f k n.f0 n.f1 n.f2 b3 b4 leases) (freeCores leases n, n.f2 - memOf n.f0 leases) := by
  have tl : ∀ l : List S50, (takenOf n.f0 l).length ≤ sizes l := by
    intro l
    induction l with
    | nil => simp [takenOf]
    | cons x l ih =>
      simp only [takenOf, sizes, List.map_cons, List.sum_cons, List.filter_cons] at ih ⊢
      split
      · simp only [List.flatMap_cons, List.length_append]; omega
      · omega
  have st : ∀ (l : List S50) (j : Nat), sizes (l.take j) + sizes (l.drop j) = sizes l := by
    intro l j
    have : ∀ a b : List S50, sizes (a ++ b) = sizes a + sizes b := fun a b => by simp [sizes]
    rw [← this, List.take_append_drop]
  have key : ∀ (m i : Nat), i + m = leases.length → Ev (fun k => furlongref07_free.l0 k (n.f2 - memOf n.f0 (leases.take i)) (takenOf n.f0 (leases.take i)) leases (leases.length : Int) (i : Int) n.f0 n.f1 n.f2 b3 b4) (freeCores leases n, n.f2 - memOf n.f0 leases) := by
    intro m
    induction m with
    | zero =>
      intro i hi
      rw [List.take_of_length_le (by omega)]
      refine Ev.step (h := fun k => furlongref07_free.l1 k (n.f2 - memOf n.f0 leases) (takenOf n.f0 leases) [] ((n.f1.toNat : Nat) : Int) ((0 : Nat) : Int)) (fun k => ?_) ((free_l1 _ (by have := tl leases; omega) n.f1.toNat (by omega) n.f1.toNat 0 (by omega) [] (by simp)).eq ?_)
      · simp only [furlongref07_free.l0]
        rw [if_neg (by omega), show ((n.f1.toNat : Nat) : Int) = n.f1 by omega]
        rfl
      · simp [freeCores, List.range_eq_range']
    | succ m ih =>
      intro i hi
      have hlt : i < leases.length := by omega
      have ht : leases.take (i + 1) = leases.take i ++ [leases[i]] := List.take_succ_eq_append_getElem hlt
      have h1 := ih (i + 1) (by omega)
      have m0 := hm i (by omega)
      have m1 := hm (i + 1) (by omega)
      have s0 := tl (leases.take i)
      have s1 := st leases i
      have s2 : leases[i].f3.length ≤ sizes (leases.drop i) := sizes_mem (by rw [List.drop_eq_getElem_cons hlt]; exact List.mem_cons_self)
      by_cases e : leases[i].f2 = n.f0
      · rw [ht, memOf_snoc_same e] at m1
        rw [ht, memOf_snoc_same e, takenOf_snoc_same e] at h1
        refine Ev.step (fun k => ?_) h1
        simp only [furlongref07_free.l0]
        rw [if_pos (by omega), if_pos (by omega), if_pos (by omega), rd50_get hlt, if_pos e, if_pos (by omega), w_succ (by omega), w64_id (by omega), show n.f2 - memOf n.f0 (leases.take i) - leases[i].f4 = n.f2 - (memOf n.f0 (leases.take i) + leases[i].f4) by omega]
      · rw [ht, memOf_snoc_other e, takenOf_snoc_other e] at h1
        refine Ev.step (fun k => ?_) h1
        simp only [furlongref07_free.l0]
        rw [if_pos (by omega), if_pos (by omega), if_pos (by omega), rd50_get hlt, if_neg e, w_succ (by omega)]
  have := key leases.length 0 (by omega)
  have e : (fun k => furlongref07_free.f k n.f0 n.f1 n.f2 b3 b4 leases) = fun k => furlongref07_free.l0 k (n.f2 - memOf n.f0 (leases.take 0)) (takenOf n.f0 (leases.take 0)) leases (leases.length : Int) ((0 : Nat) : Int) n.f0 n.f1 n.f2 b3 b4 := by
    funext k
    simp [furlongref07_free.f, memOf, takenOf]
  rw [e]
  exact this
end
end Go.Proofs.Ytkbcjagkacijnaa.PPl
end
