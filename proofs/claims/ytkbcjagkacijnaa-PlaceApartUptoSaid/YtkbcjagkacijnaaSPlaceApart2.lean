/- What the law PlaceApart needs of the seat's contracts and plain laws, several texts one behind the other; no conditions. -/
import Derived.Test.YtkbcjagkacijnaaSPlaceApart0
import Derived.Test.YtkbcjagkacijnaaSPlaceApart1
import Derived.Test.YtkbcjagkacijnaaWMore
import Derived.BigQuiet
import Derived.Lib.Hide
import Derived.ArgAppend
section
-- Written for this claim by this project's own driver over the kit's print: functions and their contracts.
namespace Go.Proofs.Ytkbcjagkacijnaa.PPl
open Go.RowKit Go.Proofs.YtkbcjagkacijnaaW.PrintWords Go.Proofs.YtkbcjagkacijnaaW.PrintLast Go.Proofs.YtkbcjagkacijnaaW.PrintMore
attribute [local go_sem] max2_int min2_int max_two min_two max_three min_three max_four min_four   -- for this text's walks alone
set_option linter.unusedVariables false
set_option linter.unusedSimpArgs false

mutual
def furlongref07_Find.j0 : Nat → List (S46) → List (S50) → Int → Bool → Int → Int → Option (Int × List Int × Int)
  | 0, _, _, _, _, _, _ => none
  | k + 1, x0, x1, x9, x35, x146000, x146001 => if x35 = true then (furlongref07_Find.j1 k x0 x1 1 x146000 x146001) else (furlongref07_Find.j1 k x0 x1 x9 x146000 x146001)
def furlongref07_Find.j1 : Nat → List (S46) → List (S50) → Int → Int → Int → Option (Int × List Int × Int)
  | 0, _, _, _, _, _ => none
  | k + 1, x0, x1, x9, x146000, x146001 => if x9 = 0 then (furlongref07_Find.l0 k x1 x9 (-1) ([] : List Int) x0 (x0.length : Int) 0 x146000 x146001) else (some (0, ([] : List Int), x9))
def furlongref07_Find.l0 : Nat → List (S50) → Int → Int → List Int → List (S46) → Int → Int → Int → Int → Option (Int × List Int × Int)
  | 0, _, _, _, _, _, _, _, _, _ => none
  | k + 1, x1, x9, x10, x11, x39, x40, x41, x146000, x146001 => if x41 < x40 then (if 0 ≤ x41 then (if x41 < (x39.length : Int) then ((furlongref07_free.f k ((rd_T46 x39 x41).f0) ((rd_T46 x39 x41).f1) ((rd_T46 x39 x41).f2) ((rd_T46 x39 x41).f3) ((rd_T46 x39 x41).f4) x1).bind fun bt150 => (if (bt150.1.length : Int) ≥ x146000 then (if bt150.2 ≥ x146001 then (if x10 < 0 then (furlongref07_Find.l0 k x1 x9 ((rd_T46 x39 x41).f0) bt150.1 x39 x40 (wrap64 (x41 + 1)) x146000 x146001) else (if (bt150.1.length : Int) < (x11.length : Int) then (furlongref07_Find.l0 k x1 x9 ((rd_T46 x39 x41).f0) bt150.1 x39 x40 (wrap64 (x41 + 1)) x146000 x146001) else (furlongref07_Find.l0 k x1 x9 x10 x11 x39 x40 (wrap64 (x41 + 1)) x146000 x146001))) else (furlongref07_Find.l0 k x1 x9 x10 x11 x39 x40 (wrap64 (x41 + 1)) x146000 x146001)) else (furlongref07_Find.l0 k x1 x9 x10 x11 x39 x40 (wrap64 (x41 + 1)) x146000 x146001))) else (none)) else (none)) else (if x10 < 0 then (some (0, ([] : List Int), 10)) else (if 0 ≤ x146000 then (if x146000 ≤ (x11.length : Int) then (some (x10, (x11.take (x146000 : Int).toNat), x9)) else (none)) else (none)))
end
def furlongref07_Find.f (k : Nat) (l0 : List (S46)) (l1 : List (S50)) (a2_0 : Int) (a2_1 : Int) : Option (Int × List Int × Int) := (furlongref07_Check.f l0 l1).bind fun t146 => (if t146 = 0 then (if a2_0 < 1 then (furlongref07_Find.j0 k l0 l1 t146 true a2_0 a2_1) else (if a2_0 > 64 then (furlongref07_Find.j0 k l0 l1 t146 true a2_0 a2_1) else ((furlongref02_Good.f a2_0 a2_1).bind fun t147 => (furlongref07_Find.j0 k l0 l1 t146 (!t147) a2_0 a2_1)))) else (furlongref07_Find.j0 k l0 l1 t146 false a2_0 a2_1))
theorem furlongref07_Find.mono_l : ∀ k, (∀ y0 y1 y2 y3 y4 y5, LeO (furlongref07_Find.j0 k y0 y1 y2 y3 y4 y5) (furlongref07_Find.j0 (k + 1) y0 y1 y2 y3 y4 y5)) ∧ (∀ y0 y1 y2 y3 y4, LeO (furlongref07_Find.j1 k y0 y1 y2 y3 y4) (furlongref07_Find.j1 (k + 1) y0 y1 y2 y3 y4)) ∧ (∀ y0 y1 y2 y3 y4 y5 y6 y7 y8, LeO (furlongref07_Find.l0 k y0 y1 y2 y3 y4 y5 y6 y7 y8) (furlongref07_Find.l0 (k + 1) y0 y1 y2 y3 y4 y5 y6 y7 y8))
  | 0 => ⟨fun _ _ _ _ _ _ r h => by simp [furlongref07_Find.j0] at h, fun _ _ _ _ _ r h => by simp [furlongref07_Find.j1] at h, fun _ _ _ _ _ _ _ _ _ r h => by simp [furlongref07_Find.l0] at h⟩
  | k + 1 => by
    obtain ⟨ih0, ih1, ih2⟩ := furlongref07_Find.mono_l k
    refine ⟨?_, ?_, ?_⟩
    · intro y0 y1 y2 y3 y4 y5
      unfold furlongref07_Find.j0
      repeat' first
      | (with_reducible exact ih0 _ _ _ _ _ _)
      | (with_reducible exact ih1 _ _ _ _ _)
      | (with_reducible exact ih2 _ _ _ _ _ _ _ _ _)
      | (with_reducible exact furlongref07_free.mono _ _ _ _ _ _ _)
      | (with_reducible exact LeO.refl _)
      | (with_reducible exact LeO.none _)
      | (with_reducible refine LeO.ite ?_ ?_)
      | (with_reducible refine LeO.bind ?_ (fun _ => ?_))
      | exact ih0 _ _ _ _ _ _
      | exact ih1 _ _ _ _ _
      | exact ih2 _ _ _ _ _ _ _ _ _
      | exact furlongref07_free.mono _ _ _ _ _ _ _
      | exact LeO.none _
      | refine LeO.ite ?_ ?_
      | refine LeO.bind ?_ (fun _ => ?_)
    · intro y0 y1 y2 y3 y4
      unfold furlongref07_Find.j1
      repeat' first
      | (with_reducible exact ih0 _ _ _ _ _ _)
      | (with_reducible exact ih1 _ _ _ _ _)
      | (with_reducible exact ih2 _ _ _ _ _ _ _ _ _)
      | (with_reducible exact furlongref07_free.mono _ _ _ _ _ _ _)
      | (with_reducible exact LeO.refl _)
      | (with_reducible exact LeO.none _)
      | (with_reducible refine LeO.ite ?_ ?_)
      | (with_reducible refine LeO.bind ?_ (fun _ => ?_))
      | exact ih0 _ _ _ _ _ _
      | exact ih1 _ _ _ _ _
      | exact ih2 _ _ _ _ _ _ _ _ _
      | exact furlongref07_free.mono _ _ _ _ _ _ _
      | exact LeO.none _
      | refine LeO.ite ?_ ?_
      | refine LeO.bind ?_ (fun _ => ?_)
    · intro y0 y1 y2 y3 y4 y5 y6 y7 y8
      unfold furlongref07_Find.l0
      repeat' first
      | (with_reducible exact ih0 _ _ _ _ _ _)
      | (with_reducible exact ih1 _ _ _ _ _)
      | (with_reducible exact ih2 _ _ _ _ _ _ _ _ _)
      | (with_reducible exact furlongref07_free.mono _ _ _ _ _ _ _)
      | (with_reducible exact LeO.refl _)
      | (with_reducible exact LeO.none _)
      | (with_reducible refine LeO.ite ?_ ?_)
      | (with_reducible refine LeO.bind ?_ (fun _ => ?_))
      | exact ih0 _ _ _ _ _ _
      | exact ih1 _ _ _ _ _
      | exact ih2 _ _ _ _ _ _ _ _ _
      | exact furlongref07_free.mono _ _ _ _ _ _ _
      | exact LeO.none _
      | refine LeO.ite ?_ ?_
      | refine LeO.bind ?_ (fun _ => ?_)
theorem furlongref07_Find.mono : ∀ a0 a1 a2 a3 k, LeO (furlongref07_Find.f k a0 a1 a2 a3) (furlongref07_Find.f (k + 1) a0 a1 a2 a3) := by
  intro a0 a1 a2 a3 k
  obtain ⟨ih0, ih1, ih2⟩ := furlongref07_Find.mono_l k
  unfold furlongref07_Find.f
  repeat' first
      | (with_reducible exact ih0 _ _ _ _ _ _)
      | (with_reducible exact ih1 _ _ _ _ _)
      | (with_reducible exact ih2 _ _ _ _ _ _ _ _ _)
      | (with_reducible exact furlongref07_free.mono _ _ _ _ _ _ _)
      | (with_reducible exact LeO.refl _)
      | (with_reducible exact LeO.none _)
      | (with_reducible refine LeO.ite ?_ ?_)
      | (with_reducible refine LeO.bind ?_ (fun _ => ?_))
      | exact ih0 _ _ _ _ _ _
      | exact ih1 _ _ _ _ _
      | exact ih2 _ _ _ _ _ _ _ _ _
      | exact furlongref07_free.mono _ _ _ _ _ _ _
      | exact LeO.none _
      | refine LeO.ite ?_ ?_
      | refine LeO.bind ?_ (fun _ => ?_)
set_option maxHeartbeats 8000000 in
set_option maxRecDepth 100000 in
theorem furlongref07_Find.calls (k : Nat) (A0 : Option Addr) (c0 : Nat) (l0 : List (S46)) (A1 : Option Addr) (c1 : Nat) (l1 : List (S50)) (a2_0 : Int) (a2_1 : Int) (r1 : Int) (r2 : List Int) (r3 : Int) (w : World) (hr0 : Kd.C k46 w A0 l0.length l0) (hc0 : l0.length ≤ c0) (hr1 : Kd.C k50 w A1 l1.length l1) (hc1 : l1.length ≤ c1) (h : furlongref07_Find.f k l0 l1 a2_0 a2_1 = some (r1, r2, r3)) :
  Calls Try.prog 34 #[.slice A0 l0.length c0, .slice A1 l1.length c1, .agg #[.int .i64 a2_0, .int .i64 a2_1]] w fun e w' => ∃ v1_ : Value, e = .returned (.tuple #[.int .i64 r1, v1_, .int .i64 r3]) ∧ Kd.R (Kd.int .i64) 3 w' w.heap.size (fun _ => True) v1_ r2 ∧ Below w.heap.size w w' := by
 have hu25 := Try.underlying25
 have hu46 := Try.underlying46
 have HR0 := Aside0.mk hr0
 have HC0 := Aside0.mk hc0
 clear hr0 hc0
 have HR1 := Aside0.mk hr1
 have HC1 := Aside0.mk hc1
 clear hr1 hc1
 have HB := Aside0.mk (Below.refl w.heap.size w)
 have H : ((furlongref07_Check.f l0 l1).bind fun t146 => (if t146 = 0 then (if a2_0 < 1 then (furlongref07_Find.j0 k l0 l1 t146 true a2_0 a2_1) else (if a2_0 > 64 then (furlongref07_Find.j0 k l0 l1 t146 true a2_0 a2_1) else ((furlongref02_Good.f a2_0 a2_1).bind fun t147 => (furlongref07_Find.j0 k l0 l1 t146 (!t147) a2_0 a2_1)))) else (furlongref07_Find.j0 k l0 l1 t146 false a2_0 a2_1))) = some (r1, r2, r3) := h
 clear h
 replace H := Option.bind_eq_some_iff.mp H
 obtain ⟨t146, A40, H⟩ := H
 replace H : (if t146 = 0 then (if a2_0 < 1 then (furlongref07_Find.j0 k l0 l1 t146 true a2_0 a2_1) else (if a2_0 > 64 then (furlongref07_Find.j0 k l0 l1 t146 true a2_0 a2_1) else ((furlongref02_Good.f a2_0 a2_1).bind fun t147 => (furlongref07_Find.j0 k l0 l1 t146 (!t147) a2_0 a2_1)))) else (furlongref07_Find.j0 k l0 l1 t146 false a2_0 a2_1)) = some (r1, r2, r3) := H
 have A4 := Aside0.mk A40
 clear A40
 have HC5 := Aside0.mk H
 clear H
 go_enter Try.func34, Try.ntmps34
 go_upto_region 2 with (first | ((with_reducible refine gate_dst (N := 5) rfl ?_); (try (refine gate_guard (by rfl) ?_; dsimp only)); refine box_event ?hg (N := 5) ?hd (cs := #[.int .i64 a2_0, .int .i64 a2_1]) (t := 25) ?hr ?_; (case hd => rfl); (case hg => rfl); (case hr => first | (go_simp; done) | (go_simp; rfl)); intro gb145 hg w6 hbox hb; have n0_ := Aside0.mk (below_step (by repeat (first | (with_reducible first | exact HB.out | apply below_alloc | apply pw_below_drewN | apply below_drew1) | exact HB.out)) hb); have n1_ := Aside0.mk (hbox); have n2_ := Aside0.mk ((by rw [hg]; exact (below_size (by repeat (first | (with_reducible first | exact HB.out | apply below_alloc | apply pw_below_drewN | apply below_drew1) | exact HB.out))) : w.heap.size ≤ gb145)); have n3_ := Aside0.mk ((by rw [hg]; exact (below_size (by repeat (first | (with_reducible first | exact HB.out | apply below_alloc | apply pw_below_drewN | apply below_drew1) | exact HB.out))) : w.heap.size ≤ gb145)); clear HB; have HB := n0_; have BK145 := n1_; have GW145 := n2_; have GE145 := n3_; clear n0_ n1_ n2_ n3_; clear hb hbox hg) | (go_at_call 84; (with_reducible refine (furlongref07_Check.calls _ _ l0 _ _ l1 t146 _ ?side1 ?side2 ?side3 ?side4 A4.out).mono ?_); (case side1 => repeat (first | exact (Kd.C_below HR0.out HB.out) | (with_reducible refine Kd.C_alloc ?_ _) | (with_reducible refine Kd.C_drewN ?_ _) | (with_reducible refine Kd.C_drew ?_))); (case side2 => exact HC0.out); (case side3 => repeat (first | exact (Kd.C_below HR1.out HB.out) | (with_reducible refine Kd.C_alloc ?_ _) | (with_reducible refine Kd.C_drewN ?_ _) | (with_reducible refine Kd.C_drew ?_))); (case side4 => exact HC1.out); rintro e w7 ⟨rfl, hb⟩; have n0_ := Aside0.mk (blk_below (g := gb145) (o := .cells #[.int .i64 a2_0, .int .i64 a2_1] 25 (0, 0)) (by (with_reducible repeat (first | refine blk_drewN ?_ _ | refine blk_drew ?_ | refine blk_alloc ?_ _)); exact BK145.out) hb); have n1_ := Aside0.mk (below_step (by repeat (first | (with_reducible first | exact HB.out | apply below_alloc | apply pw_below_drewN | apply below_drew1 | refine below_set ?_ GE145.out) | exact HB.out)) hb); clear BK145; clear HB; have BK145 := n0_; have HB := n1_; clear n0_ n1_; (try clear hb); (try clear hb2); (try clear hk); (try clear hi)))
 repeat (go_quiet (first | (go_at_call 84; (with_reducible refine (furlongref07_Check.calls _ _ l0 _ _ l1 t146 _ ?side1 ?side2 ?side3 ?side4 A4.out).mono ?_); (case side1 => repeat (first | exact (Kd.C_below HR0.out HB.out) | (with_reducible refine Kd.C_alloc ?_ _) | (with_reducible refine Kd.C_drewN ?_ _) | (with_reducible refine Kd.C_drew ?_))); (case side2 => exact HC0.out); (case side3 => repeat (first | exact (Kd.C_below HR1.out HB.out) | (with_reducible refine Kd.C_alloc ?_ _) | (with_reducible refine Kd.C_drewN ?_ _) | (with_reducible refine Kd.C_drew ?_))); (case side4 => exact HC1.out); rintro e w7 ⟨rfl, hb⟩; have n0_ := Aside0.mk (blk_below (g := gb145) (o := .cells #[.int .i64 a2_0, .int .i64 a2_1] 25 (0, 0)) (by (with_reducible repeat (first | refine blk_drewN ?_ _ | refine blk_drew ?_ | refine blk_alloc ?_ _)); exact BK145.out) hb); have n1_ := Aside0.mk (below_step (by repeat (first | (with_reducible first | exact HB.out | apply below_alloc | apply pw_below_drewN | apply below_drew1 | refine below_set ?_ GE145.out) | exact HB.out)) hb); clear BK145; clear HB; have BK145 := n0_; have HB := n1_; clear n0_ n1_; (try clear hb); (try clear hb2); (try clear hk); (try clear hi))); go_upto_region 2 with (first | ((with_reducible refine gate_dst (N := 5) rfl ?_); (try (refine gate_guard (by rfl) ?_; dsimp only)); refine box_event ?hg (N := 5) ?hd (cs := #[.int .i64 a2_0, .int .i64 a2_1]) (t := 25) ?hr ?_; (case hd => rfl); (case hg => rfl); (case hr => first | (go_simp; done) | (go_simp; rfl)); intro gb145 hg w6 hbox hb; have n0_ := Aside0.mk (below_step (by repeat (first | (with_reducible first | exact HB.out | apply below_alloc | apply pw_below_drewN | apply below_drew1) | exact HB.out)) hb); have n1_ := Aside0.mk (hbox); have n2_ := Aside0.mk ((by rw [hg]; exact (below_size (by repeat (first | (with_reducible first | exact HB.out | apply below_alloc | apply pw_below_drewN | apply below_drew1) | exact HB.out))) : w.heap.size ≤ gb145)); have n3_ := Aside0.mk ((by rw [hg]; exact (below_size (by repeat (first | (with_reducible first | exact HB.out | apply below_alloc | apply pw_below_drewN | apply below_drew1) | exact HB.out))) : w.heap.size ≤ gb145)); clear HB; have HB := n0_; have BK145 := n1_; have GW145 := n2_; have GE145 := n3_; clear n0_ n1_ n2_ n3_; clear hb hbox hg) | (go_at_call 84; (with_reducible refine (furlongref07_Check.calls _ _ l0 _ _ l1 t146 _ ?side1 ?side2 ?side3 ?side4 A4.out).mono ?_); (case side1 => repeat (first | exact (Kd.C_below HR0.out HB.out) | (with_reducible refine Kd.C_alloc ?_ _) | (with_reducible refine Kd.C_drewN ?_ _) | (with_reducible refine Kd.C_drew ?_))); (case side2 => exact HC0.out); (case side3 => repeat (first | exact (Kd.C_below HR1.out HB.out) | (with_reducible refine Kd.C_alloc ?_ _) | (with_reducible refine Kd.C_drewN ?_ _) | (with_reducible refine Kd.C_drew ?_))); (case side4 => exact HC1.out); rintro e w7 ⟨rfl, hb⟩; have n0_ := Aside0.mk (blk_below (g := gb145) (o := .cells #[.int .i64 a2_0, .int .i64 a2_1] 25 (0, 0)) (by (with_reducible repeat (first | refine blk_drewN ?_ _ | refine blk_drew ?_ | refine blk_alloc ?_ _)); exact BK145.out) hb); have n1_ := Aside0.mk (below_step (by repeat (first | (with_reducible first | exact HB.out | apply below_alloc | apply pw_below_drewN | apply below_drew1 | refine below_set ?_ GE145.out) | exact HB.out)) hb); clear BK145; clear HB; have BK145 := n0_; have HB := n1_; clear n0_ n1_; (try clear hb); (try clear hb2); (try clear hk); (try clear hi))))
 (try simp only [Act.put, List.setIfInBounds_toArray, List.set_cons_zero, List.set_cons_succ])
 go_cut [35] (fun v35 wc => ∃ (kq : Nat) (x35_4 : Bool), v35 = .bool x35_4 ∧ Aside0 (furlongref07_Find.j0 kq l0 l1 t146 x35_4 a2_0 a2_1 = some (r1, r2, r3)) ∧ Aside0 (kq ≤ k) ∧ Aside0 (wc.heap[gb145]? = some (.cells #[.int .i64 a2_0, .int .i64 a2_1] 25 (0, 0))) ∧ Aside0 (Below w.heap.size w wc))
 case first =>
  have H := HC5.out
  clear HC5
  by_cases c8 : t146 = 0
  ·
   rw [if_pos c8] at H
   have c8b0 : (t146 == 0) = true := beq_iff_eq.mpr c8
   have c8b1 : (t146 != 0) = false := bne_eq_false_iff_eq.mpr c8
   clear c8
   (first | rw [c8b0] | (simp only [i64_w, i32_w]; rw [c8b0]) | skip)
   by_cases c9 : a2_0 < 1
   ·
    rw [if_pos c9] at H
    have c9b0 : decide (a2_0 < 1) = true := decide_eq_true c9
    clear c9
    have H' := Aside0.mk H
    clear H
    have hcz10_0 : w7.cell? ⟨gb145, 0, none⟩ = some (.int .i64 a2_0) := (blk_cell BK145.out 0).trans rfl
    have hcz10_1 : w7.cell? ⟨gb145, 1, none⟩ = some (.int .i64 a2_1) := (blk_cell BK145.out 1).trans rfl
    have hfz10_0 := blk_frozen BK145.out 0
    have hfz10_1 := blk_frozen BK145.out 1
    go_wp2
    repeat (go_quiet (fail); try go_wp2)
    go_meet
    case rel => exact ⟨_, (true), (by first | rfl | (simp; done) | (simp [*]; done)), H', ⟨by first | omega | exact Nat.le_refl _⟩, ⟨by (with_reducible repeat (first | refine blk_drewN ?_ _ | refine blk_drew ?_ | refine blk_alloc ?_ _)); exact BK145.out⟩, ⟨by repeat (first | (with_reducible first | exact HB.out | apply below_alloc | apply pw_below_drewN | apply below_drew1 | refine below_set ?_ GE145.out) | exact HB.out)⟩⟩
   ·
    rw [if_neg c9] at H
    have c9b0 : decide (a2_0 < 1) = false := decide_eq_false c9
    clear c9
    by_cases c11 : a2_0 > 64
    ·
     rw [if_pos c11] at H
     have c11b0 : decide (64 < a2_0) = true := decide_eq_true c11
     clear c11
     have H' := Aside0.mk H
     clear H
     have hcz12_0 : w7.cell? ⟨gb145, 0, none⟩ = some (.int .i64 a2_0) := (blk_cell BK145.out 0).trans rfl
     have hcz12_1 : w7.cell? ⟨gb145, 1, none⟩ = some (.int .i64 a2_1) := (blk_cell BK145.out 1).trans rfl
     have hfz12_0 := blk_frozen BK145.out 0
     have hfz12_1 := blk_frozen BK145.out 1
     go_wp2
     repeat (go_quiet (fail); try go_wp2)
     go_meet
     case rel => exact ⟨_, (true), (by first | rfl | (simp; done) | (simp [*]; done)), H', ⟨by first | omega | exact Nat.le_refl _⟩, ⟨by (with_reducible repeat (first | refine blk_drewN ?_ _ | refine blk_drew ?_ | refine blk_alloc ?_ _)); exact BK145.out⟩, ⟨by repeat (first | (with_reducible first | exact HB.out | apply below_alloc | apply pw_below_drewN | apply below_drew1 | refine below_set ?_ GE145.out) | exact HB.out)⟩⟩
    ·
     rw [if_neg c11] at H
     have c11b0 : decide (64 < a2_0) = false := decide_eq_false c11
     clear c11
     replace H := Option.bind_eq_some_iff.mp H
     obtain ⟨t147, A130, H⟩ := H
     replace H : (furlongref07_Find.j0 k l0 l1 t146 (!t147) a2_0 a2_1) = some (r1, r2, r3) := H
     have A13 := Aside0.mk A130
     clear A130
     have H' := Aside0.mk H
     clear H
     have hcz14_0 : w7.cell? ⟨gb145, 0, none⟩ = some (.int .i64 a2_0) := (blk_cell BK145.out 0).trans rfl
     have hcz14_1 : w7.cell? ⟨gb145, 1, none⟩ = some (.int .i64 a2_1) := (blk_cell BK145.out 1).trans rfl
     have hfz14_0 := blk_frozen BK145.out 0
     have hfz14_1 := blk_frozen BK145.out 1
     go_wp2_with (first | (go_at_call 85; (with_reducible refine (furlongref02_Good.calls a2_0 a2_1 t147 _ A13.out).mono ?_); rintro e w15 ⟨rfl, hb⟩; have n0_ := Aside0.mk (blk_below (g := gb145) (o := .cells #[.int .i64 a2_0, .int .i64 a2_1] 25 (0, 0)) (by (with_reducible repeat (first | refine blk_drewN ?_ _ | refine blk_drew ?_ | refine blk_alloc ?_ _)); exact BK145.out) hb); have n1_ := Aside0.mk (below_step (by repeat (first | (with_reducible first | exact HB.out | apply below_alloc | apply pw_below_drewN | apply below_drew1 | refine below_set ?_ GE145.out) | exact HB.out)) hb); clear BK145; clear HB; have BK145 := n0_; have HB := n1_; clear n0_ n1_; (try clear hb); (try clear hb2); (try clear hk); (try clear hi)))
     repeat (go_quiet (first | (go_at_call 85; (with_reducible refine (furlongref02_Good.calls a2_0 a2_1 t147 _ A13.out).mono ?_); rintro e w15 ⟨rfl, hb⟩; have n0_ := Aside0.mk (blk_below (g := gb145) (o := .cells #[.int .i64 a2_0, .int .i64 a2_1] 25 (0, 0)) (by (with_reducible repeat (first | refine blk_drewN ?_ _ | refine blk_drew ?_ | refine blk_alloc ?_ _)); exact BK145.out) hb); have n1_ := Aside0.mk (below_step (by repeat (first | (with_reducible first | exact HB.out | apply below_alloc | apply pw_below_drewN | apply below_drew1 | refine below_set ?_ GE145.out) | exact HB.out)) hb); clear BK145; clear HB; have BK145 := n0_; have HB := n1_; clear n0_ n1_; (try clear hb); (try clear hb2); (try clear hk); (try clear hi))); try go_wp2_with (first | (go_at_call 85; (with_reducible refine (furlongref02_Good.calls a2_0 a2_1 t147 _ A13.out).mono ?_); rintro e w15 ⟨rfl, hb⟩; have n0_ := Aside0.mk (blk_below (g := gb145) (o := .cells #[.int .i64 a2_0, .int .i64 a2_1] 25 (0, 0)) (by (with_reducible repeat (first | refine blk_drewN ?_ _ | refine blk_drew ?_ | refine blk_alloc ?_ _)); exact BK145.out) hb); have n1_ := Aside0.mk (below_step (by repeat (first | (with_reducible first | exact HB.out | apply below_alloc | apply pw_below_drewN | apply below_drew1 | refine below_set ?_ GE145.out) | exact HB.out)) hb); clear BK145; clear HB; have BK145 := n0_; have HB := n1_; clear n0_ n1_; (try clear hb); (try clear hb2); (try clear hk); (try clear hi))))
     go_meet
     case rel => exact ⟨_, (!t147), (by first | rfl | (simp; done) | (simp [*]; done)), H', ⟨by first | omega | exact Nat.le_refl _⟩, ⟨by (with_reducible repeat (first | refine blk_drewN ?_ _ | refine blk_drew ?_ | refine blk_alloc ?_ _)); exact BK145.out⟩, ⟨by repeat (first | (with_reducible first | exact HB.out | apply below_alloc | apply pw_below_drewN | apply below_drew1 | refine below_set ?_ GE145.out) | exact HB.out)⟩⟩
  ·
   rw [if_neg c8] at H
   have c8b0 : (t146 == 0) = false := beq_eq_false_iff_ne.mpr c8
   have c8b1 : (t146 != 0) = true := bne_iff_ne.mpr c8
   (first | rw [c8b0] | (simp only [i64_w, i32_w]; rw [c8b0]) | skip)
   have H' := Aside0.mk H
   clear H
   go_wp2
   repeat (go_quiet (fail); try go_wp2)
   go_meet
   case rel => exact ⟨_, (false), (by first | rfl | (simp; done) | (simp [*]; done)), H', ⟨by first | omega | exact Nat.le_refl _⟩, ⟨by (with_reducible repeat (first | refine blk_drewN ?_ _ | refine blk_drew ?_ | refine blk_alloc ?_ _)); exact BK145.out⟩, ⟨by repeat (first | (with_reducible first | exact HB.out | apply below_alloc | apply pw_below_drewN | apply below_drew1 | refine below_set ?_ GE145.out) | exact HB.out)⟩⟩
 case rest =>
  clear HC5
  (try clear c1); (try clear p2); (try clear c3); (try clear c8); (try clear c8b0); (try clear c8b1); (try clear c9); (try clear c9b0); (try clear c11); (try clear c11b0); (try clear hcz10_0); (try clear hcz10_1); (try clear hcz12_0); (try clear hcz12_1); (try clear hcz14_0); (try clear hcz14_1); (try clear hfz10_0); (try clear hfz10_1); (try clear hfz12_0); (try clear hfz12_1); (try clear hfz14_0); (try clear hfz14_1)
  obtain ⟨kq, x35_4, rfl, HA, HJ4, BK145, HB⟩ := hcut
  cases kq with
  | zero => exact absurd HA.out (by simp [furlongref07_Find.j0])
  | succ kj4 =>
   have H := HA.out
   clear HA
   simp only [furlongref07_Find.j0] at H
   have HC16 := Aside0.mk H
   clear H
   go_upto_if 35 with (fail)
   repeat (go_quiet (fail); go_upto_if 35 with (fail))
   go_cut [9] (fun v9 wc => ∃ (kq : Nat) (x9_15 : Int), v9 = .int .i64 x9_15 ∧ Aside0 (furlongref07_Find.j1 kq l0 l1 x9_15 a2_0 a2_1 = some (r1, r2, r3)) ∧ Aside0 (kq ≤ kj4) ∧ Aside0 (wc.heap[gb145]? = some (.cells #[.int .i64 a2_0, .int .i64 a2_1] 25 (0, 0))) ∧ Aside0 (Below w.heap.size w wc))
   case first =>
    have H := HC16.out
    clear HC16
    by_cases c17 : x35_4 = true
    ·
     subst c17
     have H1 : (furlongref07_Find.j1 kj4 l0 l1 1 a2_0 a2_1) = some (r1, r2, r3) := by rw [if_pos rfl] at H; exact H
     clear H
     have H := H1
     clear H1
     have H' := Aside0.mk H
     clear H
     go_wp2
     repeat (go_quiet (fail); try go_wp2)
     go_meet
     case rel => exact ⟨_, (1), (by first | rfl | (simp; done) | (simp [*]; done)), H', ⟨by have := HJ4.out; first | omega | exact Nat.le_refl _⟩, ⟨by (with_reducible repeat (first | refine blk_drewN ?_ _ | refine blk_drew ?_ | refine blk_alloc ?_ _)); exact BK145.out⟩, ⟨by repeat (first | (with_reducible first | exact HB.out | apply below_alloc | apply pw_below_drewN | apply below_drew1 | refine below_set ?_ GE145.out) | exact HB.out)⟩⟩
    ·
     replace c17 := Bool.eq_false_iff.mpr c17
     subst c17
     have H1 : (furlongref07_Find.j1 kj4 l0 l1 t146 a2_0 a2_1) = some (r1, r2, r3) := by rw [if_neg (show ¬ (false = true) by decide)] at H; exact H
     clear H
     have H := H1
     clear H1
     have H' := Aside0.mk H
     clear H
     go_wp2
     repeat (go_quiet (fail); try go_wp2)
     go_meet
     case rel => exact ⟨_, (t146), (by first | rfl | (simp; done) | (simp [*]; done)), H', ⟨by have := HJ4.out; first | omega | exact Nat.le_refl _⟩, ⟨by (with_reducible repeat (first | refine blk_drewN ?_ _ | refine blk_drew ?_ | refine blk_alloc ?_ _)); exact BK145.out⟩, ⟨by repeat (first | (with_reducible first | exact HB.out | apply below_alloc | apply pw_below_drewN | apply below_drew1 | refine below_set ?_ GE145.out) | exact HB.out)⟩⟩
   case rest =>
    clear HC16
    (try clear c1); (try clear p2); (try clear c3); (try clear c8); (try clear c8b0); (try clear c8b1); (try clear c9); (try clear c9b0); (try clear c11); (try clear c11b0); (try clear c17); (try clear hcz10_0); (try clear hcz10_1); (try clear hcz12_0); (try clear hcz12_1); (try clear hcz14_0); (try clear hcz14_1); (try clear hfz10_0); (try clear hfz10_1); (try clear hfz12_0); (try clear hfz12_1); (try clear hfz14_0); (try clear hfz14_1); (try clear p2)
    obtain ⟨kq, x9_15, rfl, HA, HJ15, BK145, HB⟩ := hcut
    cases kq with
    | zero => exact absurd HA.out (by simp [furlongref07_Find.j1])
    | succ kj15 =>
     have H := HA.out
     clear HA
     simp only [furlongref07_Find.j1] at H
     by_cases c18 : x9_15 = 0
     ·
      rw [if_pos c18] at H
      have c18b0 : (x9_15 == 0) = true := beq_iff_eq.mpr c18
      have c18b1 : (x9_15 != 0) = false := bne_eq_false_iff_eq.mpr c18
      clear c18
      have H' := Aside0.mk H
      clear H
      go_wp2
      repeat (go_quiet (fail); try go_wp2)
      go_loopg [10, 11, 41] kj15 (fun kq v10 v11 v41 w' => ∃ (x10_3 : Int) (x11_3 : List Int) (x41_3 : Int), v10 = .int .i64 x10_3 ∧ v41 = .int .i64 x41_3 ∧ Aside0 (furlongref07_Find.l0 kq l1 x9_15 x10_3 x11_3 l0 (l0.length : Int) x41_3 a2_0 a2_1 = some (r1, r2, r3)) ∧ Aside0 (kq ≤ kj15) ∧ Aside0 (Kd.R (Kd.int .i64) 3 w' w.heap.size (fun _ => True) v11 x11_3) ∧ Aside0 (w'.heap[gb145]? = some (.cells #[.int .i64 a2_0, .int .i64 a2_1] 25 (0, 0))) ∧ Aside0 (Below w.heap.size w w'))
      case atStart => exact ⟨((-1)), (([] : List Int)), (0), (by first | rfl | (simp; done) | (simp [*]; done)), (by first | rfl | (simp; done) | (simp [*]; done)), H', ⟨Nat.le_refl _⟩, ⟨by first | exact Kd.R_nil _ _ _ _ _ | exact Kd.N_nil _ _ _ _ _ | exact Kd.V_nil _ _ _ _ _ | exact Kd.Q_nil _ _ _ _ _ | exact Kd.S_nil _ _ _ _ _⟩, ⟨by (with_reducible repeat (first | refine blk_drewN ?_ _ | refine blk_drew ?_ | refine blk_alloc ?_ _)); exact BK145.out⟩, ⟨by repeat (first | (with_reducible first | exact HB.out | apply below_alloc | apply pw_below_drewN | apply below_drew1 | refine below_set ?_ GE145.out) | exact HB.out)⟩⟩
      case round =>
       clear H'
       (try clear c1); (try clear p2); (try clear c3); (try clear c8); (try clear c8b0); (try clear c8b1); (try clear c9); (try clear c9b0); (try clear c11); (try clear c11b0); (try clear c17); (try clear c18); (try clear c18b0); (try clear c18b1); (try clear hcz10_0); (try clear hcz10_1); (try clear hcz12_0); (try clear hcz12_1); (try clear hcz14_0); (try clear hcz14_1); (try clear hfz10_0); (try clear hfz10_1); (try clear hfz12_0); (try clear hfz12_1); (try clear hfz14_0); (try clear hfz14_1); (try clear p2)
       obtain ⟨x10_3, x11_3, x41_3, rfl, rfl, HA, HK3, HO_11, BK145, HB⟩ := hrel
       cases gk with
       | zero => exact absurd HA.out (by simp [furlongref07_Find.l0])
       | succ k3 =>
        have H := HA.out
        clear HA
        simp only [furlongref07_Find.l0] at H
        by_cases c19 : x41_3 < (l0.length : Int)
        ·
         rw [if_pos c19] at H
         have c19b0 : decide (x41_3 < (l0.length : Int)) = true := decide_eq_true c19
         clear c19
         by_cases c20 : 0 ≤ x41_3
         ·
          rw [if_pos c20] at H
          have c20b0 : decide (0 ≤ x41_3) = true := decide_eq_true c20
          clear c20
          by_cases c21 : x41_3 < (l0.length : Int)
          ·
           rw [if_pos c21] at H
           have c21b0 : decide (x41_3 < (l0.length : Int)) = true := decide_eq_true c21
           clear c21
           replace H := Option.bind_eq_some_iff.mp H
           obtain ⟨⟨t150, t153⟩, A220, H⟩ := H
           replace H : (if (t150.length : Int) ≥ a2_0 then (if t153 ≥ a2_1 then (if x10_3 < 0 then (furlongref07_Find.l0 k3 l1 x9_15 ((rd_T46 l0 x41_3).f0) t150 l0 (l0.length : Int) (wrap64 (x41_3 + 1)) a2_0 a2_1) else (if (t150.length : Int) < (x11_3.length : Int) then (furlongref07_Find.l0 k3 l1 x9_15 ((rd_T46 l0 x41_3).f0) t150 l0 (l0.length : Int) (wrap64 (x41_3 + 1)) a2_0 a2_1) else (furlongref07_Find.l0 k3 l1 x9_15 x10_3 x11_3 l0 (l0.length : Int) (wrap64 (x41_3 + 1)) a2_0 a2_1))) else (furlongref07_Find.l0 k3 l1 x9_15 x10_3 x11_3 l0 (l0.length : Int) (wrap64 (x41_3 + 1)) a2_0 a2_1)) else (furlongref07_Find.l0 k3 l1 x9_15 x10_3 x11_3 l0 (l0.length : Int) (wrap64 (x41_3 + 1)) a2_0 a2_1)) = some (r1, r2, r3) := H
           have A22 := Aside0.mk A220
           clear A220
           by_cases c23 : (t150.length : Int) ≥ a2_0
           ·
            rw [if_pos c23] at H
            have c23b0 : decide (a2_0 ≤ (t150.length : Int)) = true := decide_eq_true c23
            clear c23
            by_cases c24 : t153 ≥ a2_1
            ·
             rw [if_pos c24] at H
             have c24b0 : decide (a2_1 ≤ t153) = true := decide_eq_true c24
             clear c24
             by_cases c25 : x10_3 < 0
             ·
              rw [if_pos c25] at H
              have c25b0 : decide (x10_3 < 0) = true := decide_eq_true c25
              clear c25
              have H' := Aside0.mk H
              clear H
              have p148 : 0 ≤ (x41_3 : Int) := of_decide_eq_true (by first | (with_reducible assumption) | assumption)
              have q148 : x41_3 < (l0.length : Int) := of_decide_eq_true (by first | (with_reducible assumption) | assumption)
              obtain ⟨ad148, e148, hx148_0, hx148_1, hx148_2, hx148_3, hx148_4⟩ := at_T46 HR0.out x41_3 p148 q148
              cases e148
              (try (replace hx148_0 := (HB.out.cell (World.block_lt_of_cell? w _ hx148_0)).trans hx148_0))
              (try (replace hx148_1 := (HB.out.cell (World.block_lt_of_cell? w _ hx148_1)).trans hx148_1))
              (try (replace hx148_2 := (HB.out.cell (World.block_lt_of_cell? w _ hx148_2)).trans hx148_2))
              (try (replace hx148_3 := (HB.out.cell (World.block_lt_of_cell? w _ hx148_3)).trans hx148_3))
              (try (replace hx148_4 := (HB.out.cell (World.block_lt_of_cell? w _ hx148_4)).trans hx148_4))
              replace p148 := eq_true p148
              replace q148 := eq_true q148
              go_wp2_with (first | ((with_reducible refine gate_dst (N := 13) rfl ?_); (try (refine gate_guard (by rfl) ?_; dsimp only)); refine box_event ?hg (N := 13) ?hd (cs := #[.int .i64 0, .int .i64 0, .int .i64 0, .int .i64 0, .int .i64 0]) (t := 46) ?hr ?_; (case hd => rfl); (case hg => rfl); (case hr => first | (go_simp; done) | (go_simp; rfl)); intro gb149 hg w26 hbox hb; have n0_ := Aside0.mk (Kd.R_below (by (with_reducible repeat (first | apply Kd.R_alloc | apply Kd.R_drewN | apply Kd.R_drew)); exact HO_11.out) hb); have n1_ := Aside0.mk (blk_below (g := gb145) (o := .cells #[.int .i64 a2_0, .int .i64 a2_1] 25 (0, 0)) (by (with_reducible repeat (first | refine blk_drewN ?_ _ | refine blk_drew ?_ | refine blk_alloc ?_ _)); exact BK145.out) hb); have n2_ := Aside0.mk (below_step (by repeat (first | (with_reducible first | exact HB.out | apply below_alloc | apply pw_below_drewN | apply below_drew1 | refine below_set ?_ GE145.out) | exact HB.out)) hb); have n3_ := Aside0.mk (hbox); have n4_ := Aside0.mk ((by rw [hg]; exact (below_size (by repeat (first | (with_reducible first | exact HB.out | apply below_alloc | apply pw_below_drewN | apply below_drew1 | refine below_set ?_ GE145.out) | exact HB.out))) : w.heap.size ≤ gb149)); have n5_ := Aside0.mk ((by rw [hg]; exact (below_size (by repeat (first | (with_reducible first | exact HB.out | apply below_alloc | apply pw_below_drewN | apply below_drew1 | refine below_set ?_ GE145.out) | exact HB.out))) : w.heap.size ≤ gb149)); have n6_ := Aside0.mk ((by rw [hg]; exact Nat.ne_of_lt (blk_lt (g := gb145) (o := .cells #[.int .i64 a2_0, .int .i64 a2_1] 25 (0, 0)) (by (with_reducible repeat (first | refine blk_drewN ?_ _ | refine blk_drew ?_ | refine blk_alloc ?_ _)); exact BK145.out)) : gb145 ≠ gb149)); have n7_ := Aside0.mk ((by rw [hg]; exact Nat.ne_of_gt (blk_lt (g := gb145) (o := .cells #[.int .i64 a2_0, .int .i64 a2_1] 25 (0, 0)) (by (with_reducible repeat (first | refine blk_drewN ?_ _ | refine blk_drew ?_ | refine blk_alloc ?_ _)); exact BK145.out)) : gb149 ≠ gb145)); clear HO_11; clear BK145; clear HB; have HO_11 := n0_; have BK145 := n1_; have HB := n2_; have BK149 := n3_; have GW149 := n4_; have GE149 := n5_; have NB145_149 := n6_; have NB149_145 := n7_; clear n0_ n1_ n2_ n3_ n4_ n5_ n6_ n7_; clear hb hbox hg; have hnb27 := NB149_145.out; have hnc27 := NB145_149.out; have hcz28_0 : w26.cell? ⟨gb149, 0, none⟩ = some (.int .i64 0) := (blk_cell BK149.out 0).trans rfl; have hcz28_1 : w26.cell? ⟨gb149, 1, none⟩ = some (.int .i64 0) := (blk_cell BK149.out 1).trans rfl; have hcz28_2 : w26.cell? ⟨gb149, 2, none⟩ = some (.int .i64 0) := (blk_cell BK149.out 2).trans rfl; have hcz28_3 : w26.cell? ⟨gb149, 3, none⟩ = some (.int .i64 0) := (blk_cell BK149.out 3).trans rfl; have hcz28_4 : w26.cell? ⟨gb149, 4, none⟩ = some (.int .i64 0) := (blk_cell BK149.out 4).trans rfl; have hfz28_0 := blk_frozen BK149.out 0; have hfz28_1 := blk_frozen BK149.out 1; have hfz28_2 := blk_frozen BK149.out 2; have hfz28_3 := blk_frozen BK149.out 3; have hfz28_4 := blk_frozen BK149.out 4) | (go_at_call 86; (with_reducible refine (furlongref07_free.calls k3 ((rd_T46 l0 x41_3).f0) ((rd_T46 l0 x41_3).f1) ((rd_T46 l0 x41_3).f2) ((rd_T46 l0 x41_3).f3) ((rd_T46 l0 x41_3).f4) _ _ l1 t150 t153 _ ?side1 ?side2 A22.out).mono ?_); (case side1 => exact Kd.C_below HR1.out (by repeat (first | (with_reducible first | exact HB.out | apply below_alloc | apply pw_below_drewN | apply below_drew1 | refine below_set ?_ GE145.out | refine below_set ?_ GE149.out) | exact HB.out))); (case side2 => exact HC1.out); rintro e w29 ⟨v151, rfl, ho0, hb⟩; have n0_ := Aside0.mk (Kd.R_elder' (by (with_reducible repeat (first | apply Kd.R_alloc | apply Kd.R_drewN | apply Kd.R_drew)); exact (Kd.R_mono (Kd.R_far (p := ⟨gb149, 4, none⟩) (Kd.R_far (p := ⟨gb149, 3, none⟩) (Kd.R_far (p := ⟨gb149, 2, none⟩) (Kd.R_far (p := ⟨gb149, 1, none⟩) (Kd.R_far (p := ⟨gb149, 0, none⟩) (Kd.R_types HO_11.out BK149.out (by decide)) (fun _ hk => hk.2) (.int .i64 ((rd_T46 l0 x41_3).f0))) (fun _ hk => hk.2) (.int .i64 ((rd_T46 l0 x41_3).f1))) (fun _ hk => hk.2) (.int .i64 ((rd_T46 l0 x41_3).f2))) (fun _ hk => hk.2) (.int .i64 ((rd_T46 l0 x41_3).f3))) (fun _ hk => hk.2) (.int .i64 ((rd_T46 l0 x41_3).f4))) (fun _ h_ => h_.1))) (Kd.R_base ho0) hb); have n1_ := Aside0.mk (Kd.R_lower (Kd.R_new' ho0 (Kd.R_lt (by (with_reducible repeat (first | apply Kd.R_alloc | apply Kd.R_drewN | apply Kd.R_drew)); exact (Kd.R_mono (Kd.R_far (p := ⟨gb149, 4, none⟩) (Kd.R_far (p := ⟨gb149, 3, none⟩) (Kd.R_far (p := ⟨gb149, 2, none⟩) (Kd.R_far (p := ⟨gb149, 1, none⟩) (Kd.R_far (p := ⟨gb149, 0, none⟩) (Kd.R_types HO_11.out BK149.out (by decide)) (fun _ hk => hk.2) (.int .i64 ((rd_T46 l0 x41_3).f0))) (fun _ hk => hk.2) (.int .i64 ((rd_T46 l0 x41_3).f1))) (fun _ hk => hk.2) (.int .i64 ((rd_T46 l0 x41_3).f2))) (fun _ hk => hk.2) (.int .i64 ((rd_T46 l0 x41_3).f3))) (fun _ hk => hk.2) (.int .i64 ((rd_T46 l0 x41_3).f4))) (fun _ h_ => h_.1))))) (below_size (by repeat (first | (with_reducible first | exact HB.out | apply below_alloc | apply pw_below_drewN | apply below_drew1 | refine below_set ?_ GE145.out | refine below_set ?_ GE149.out) | exact HB.out)))); have n2_ := Aside0.mk (blk_below (g := gb145) (o := .cells #[.int .i64 a2_0, .int .i64 a2_1] 25 (0, 0)) (by (with_reducible repeat (first | refine blk_drewN ?_ _ | refine blk_drew ?_ | refine blk_alloc ?_ _)); refine blk_far ?_ NB145_149.out _; (with_reducible repeat (first | refine blk_drewN ?_ _ | refine blk_drew ?_ | refine blk_alloc ?_ _)); refine blk_far ?_ NB145_149.out _; (with_reducible repeat (first | refine blk_drewN ?_ _ | refine blk_drew ?_ | refine blk_alloc ?_ _)); refine blk_far ?_ NB145_149.out _; (with_reducible repeat (first | refine blk_drewN ?_ _ | refine blk_drew ?_ | refine blk_alloc ?_ _)); refine blk_far ?_ NB145_149.out _; (with_reducible repeat (first | refine blk_drewN ?_ _ | refine blk_drew ?_ | refine blk_alloc ?_ _)); refine blk_far ?_ NB145_149.out _; (with_reducible repeat (first | refine blk_drewN ?_ _ | refine blk_drew ?_ | refine blk_alloc ?_ _)); exact BK145.out) hb); have n3_ := Aside0.mk (blk_below (g := gb149) (o := .cells #[.int .i64 ((rd_T46 l0 x41_3).f0), .int .i64 ((rd_T46 l0 x41_3).f1), .int .i64 ((rd_T46 l0 x41_3).f2), .int .i64 ((rd_T46 l0 x41_3).f3), .int .i64 ((rd_T46 l0 x41_3).f4)] 46 (0, 0)) (by (with_reducible repeat (first | refine blk_drewN ?_ _ | refine blk_drew ?_ | refine blk_alloc ?_ _)); refine blk_put (cs := #[.int .i64 ((rd_T46 l0 x41_3).f0), .int .i64 ((rd_T46 l0 x41_3).f1), .int .i64 ((rd_T46 l0 x41_3).f2), .int .i64 ((rd_T46 l0 x41_3).f3), .int .i64 0]) ?_ 4 _ rfl; (with_reducible repeat (first | refine blk_drewN ?_ _ | refine blk_drew ?_ | refine blk_alloc ?_ _)); refine blk_put (cs := #[.int .i64 ((rd_T46 l0 x41_3).f0), .int .i64 ((rd_T46 l0 x41_3).f1), .int .i64 ((rd_T46 l0 x41_3).f2), .int .i64 0, .int .i64 0]) ?_ 3 _ rfl; (with_reducible repeat (first | refine blk_drewN ?_ _ | refine blk_drew ?_ | refine blk_alloc ?_ _)); refine blk_put (cs := #[.int .i64 ((rd_T46 l0 x41_3).f0), .int .i64 ((rd_T46 l0 x41_3).f1), .int .i64 0, .int .i64 0, .int .i64 0]) ?_ 2 _ rfl; (with_reducible repeat (first | refine blk_drewN ?_ _ | refine blk_drew ?_ | refine blk_alloc ?_ _)); refine blk_put (cs := #[.int .i64 ((rd_T46 l0 x41_3).f0), .int .i64 0, .int .i64 0, .int .i64 0, .int .i64 0]) ?_ 1 _ rfl; (with_reducible repeat (first | refine blk_drewN ?_ _ | refine blk_drew ?_ | refine blk_alloc ?_ _)); refine blk_put (cs := #[.int .i64 0, .int .i64 0, .int .i64 0, .int .i64 0, .int .i64 0]) ?_ 0 _ rfl; (with_reducible repeat (first | refine blk_drewN ?_ _ | refine blk_drew ?_ | refine blk_alloc ?_ _)); exact BK149.out) hb); have n4_ := Aside0.mk (below_step (by repeat (first | (with_reducible first | exact HB.out | apply below_alloc | apply pw_below_drewN | apply below_drew1 | refine below_set ?_ GE145.out | refine below_set ?_ GE149.out) | exact HB.out)) hb); clear HO_11; clear BK145; clear BK149; clear HB; have HO_11 := n0_; have HO152 := n1_; have BK145 := n2_; have BK149 := n3_; have HB := n4_; clear n0_ n1_ n2_ n3_ n4_; (try clear hb); (try clear hb2); (try clear hk); (try clear hi); (try clear ho0); obtain ⟨Ao30, co30, eo30⟩ := Kd.R_slice HO152.out; subst eo30; have hcz31_0 : w29.cell? ⟨gb145, 0, none⟩ = some (.int .i64 a2_0) := (blk_cell BK145.out 0).trans rfl; have hcz31_1 : w29.cell? ⟨gb145, 1, none⟩ = some (.int .i64 a2_1) := (blk_cell BK145.out 1).trans rfl; have hfz31_0 := blk_frozen BK145.out 0; have hfz31_1 := blk_frozen BK145.out 1; have hcz32_0 : w29.cell? ⟨gb149, 0, none⟩ = some (.int .i64 ((rd_T46 l0 x41_3).f0)) := (blk_cell BK149.out 0).trans rfl; have hcz32_1 : w29.cell? ⟨gb149, 1, none⟩ = some (.int .i64 ((rd_T46 l0 x41_3).f1)) := (blk_cell BK149.out 1).trans rfl; have hcz32_2 : w29.cell? ⟨gb149, 2, none⟩ = some (.int .i64 ((rd_T46 l0 x41_3).f2)) := (blk_cell BK149.out 2).trans rfl; have hcz32_3 : w29.cell? ⟨gb149, 3, none⟩ = some (.int .i64 ((rd_T46 l0 x41_3).f3)) := (blk_cell BK149.out 3).trans rfl; have hcz32_4 : w29.cell? ⟨gb149, 4, none⟩ = some (.int .i64 ((rd_T46 l0 x41_3).f4)) := (blk_cell BK149.out 4).trans rfl; have hfz32_0 := blk_frozen BK149.out 0; have hfz32_1 := blk_frozen BK149.out 1; have hfz32_2 := blk_frozen BK149.out 2; have hfz32_3 := blk_frozen BK149.out 3; have hfz32_4 := blk_frozen BK149.out 4))
              repeat (go_quiet (first | (go_at_call 86; (with_reducible refine (furlongref07_free.calls k3 ((rd_T46 l0 x41_3).f0) ((rd_T46 l0 x41_3).f1) ((rd_T46 l0 x41_3).f2) ((rd_T46 l0 x41_3).f3) ((rd_T46 l0 x41_3).f4) _ _ l1 t150 t153 _ ?side1 ?side2 A22.out).mono ?_); (case side1 => exact Kd.C_below HR1.out (by repeat (first | (with_reducible first | exact HB.out | apply below_alloc | apply pw_below_drewN | apply below_drew1 | refine below_set ?_ GE145.out | refine below_set ?_ GE149.out) | exact HB.out))); (case side2 => exact HC1.out); rintro e w29 ⟨v151, rfl, ho0, hb⟩; have n0_ := Aside0.mk (Kd.R_elder' (by (with_reducible repeat (first | apply Kd.R_alloc | apply Kd.R_drewN | apply Kd.R_drew)); exact (Kd.R_mono (Kd.R_far (p := ⟨gb149, 4, none⟩) (Kd.R_far (p := ⟨gb149, 3, none⟩) (Kd.R_far (p := ⟨gb149, 2, none⟩) (Kd.R_far (p := ⟨gb149, 1, none⟩) (Kd.R_far (p := ⟨gb149, 0, none⟩) (Kd.R_types HO_11.out BK149.out (by decide)) (fun _ hk => hk.2) (.int .i64 ((rd_T46 l0 x41_3).f0))) (fun _ hk => hk.2) (.int .i64 ((rd_T46 l0 x41_3).f1))) (fun _ hk => hk.2) (.int .i64 ((rd_T46 l0 x41_3).f2))) (fun _ hk => hk.2) (.int .i64 ((rd_T46 l0 x41_3).f3))) (fun _ hk => hk.2) (.int .i64 ((rd_T46 l0 x41_3).f4))) (fun _ h_ => h_.1))) (Kd.R_base ho0) hb); have n1_ := Aside0.mk (Kd.R_lower (Kd.R_new' ho0 (Kd.R_lt (by (with_reducible repeat (first | apply Kd.R_alloc | apply Kd.R_drewN | apply Kd.R_drew)); exact (Kd.R_mono (Kd.R_far (p := ⟨gb149, 4, none⟩) (Kd.R_far (p := ⟨gb149, 3, none⟩) (Kd.R_far (p := ⟨gb149, 2, none⟩) (Kd.R_far (p := ⟨gb149, 1, none⟩) (Kd.R_far (p := ⟨gb149, 0, none⟩) (Kd.R_types HO_11.out BK149.out (by decide)) (fun _ hk => hk.2) (.int .i64 ((rd_T46 l0 x41_3).f0))) (fun _ hk => hk.2) (.int .i64 ((rd_T46 l0 x41_3).f1))) (fun _ hk => hk.2) (.int .i64 ((rd_T46 l0 x41_3).f2))) (fun _ hk => hk.2) (.int .i64 ((rd_T46 l0 x41_3).f3))) (fun _ hk => hk.2) (.int .i64 ((rd_T46 l0 x41_3).f4))) (fun _ h_ => h_.1))))) (below_size (by repeat (first | (with_reducible first | exact HB.out | apply below_alloc | apply pw_below_drewN | apply below_drew1 | refine below_set ?_ GE145.out | refine below_set ?_ GE149.out) | exact HB.out)))); have n2_ := Aside0.mk (blk_below (g := gb145) (o := .cells #[.int .i64 a2_0, .int .i64 a2_1] 25 (0, 0)) (by (with_reducible repeat (first | refine blk_drewN ?_ _ | refine blk_drew ?_ | refine blk_alloc ?_ _)); refine blk_far ?_ NB145_149.out _; (with_reducible repeat (first | refine blk_drewN ?_ _ | refine blk_drew ?_ | refine blk_alloc ?_ _)); refine blk_far ?_ NB145_149.out _; (with_reducible repeat (first | refine blk_drewN ?_ _ | refine blk_drew ?_ | refine blk_alloc ?_ _)); refine blk_far ?_ NB145_149.out _; (with_reducible repeat (first | refine blk_drewN ?_ _ | refine blk_drew ?_ | refine blk_alloc ?_ _)); refine blk_far ?_ NB145_149.out _; (with_reducible repeat (first | refine blk_drewN ?_ _ | refine blk_drew ?_ | refine blk_alloc ?_ _)); refine blk_far ?_ NB145_149.out _; (with_reducible repeat (first | refine blk_drewN ?_ _ | refine blk_drew ?_ | refine blk_alloc ?_ _)); exact BK145.out) hb); have n3_ := Aside0.mk (blk_below (g := gb149) (o := .cells #[.int .i64 ((rd_T46 l0 x41_3).f0), .int .i64 ((rd_T46 l0 x41_3).f1), .int .i64 ((rd_T46 l0 x41_3).f2), .int .i64 ((rd_T46 l0 x41_3).f3), .int .i64 ((rd_T46 l0 x41_3).f4)] 46 (0, 0)) (by (with_reducible repeat (first | refine blk_drewN ?_ _ | refine blk_drew ?_ | refine blk_alloc ?_ _)); refine blk_put (cs := #[.int .i64 ((rd_T46 l0 x41_3).f0), .int .i64 ((rd_T46 l0 x41_3).f1), .int .i64 ((rd_T46 l0 x41_3).f2), .int .i64 ((rd_T46 l0 x41_3).f3), .int .i64 0]) ?_ 4 _ rfl; (with_reducible repeat (first | refine blk_drewN ?_ _ | refine blk_drew ?_ | refine blk_alloc ?_ _)); refine blk_put (cs := #[.int .i64 ((rd_T46 l0 x41_3).f0), .int .i64 ((rd_T46 l0 x41_3).f1), .int .i64 ((rd_T46 l0 x41_3).f2), .int .i64 0, .int .i64 0]) ?_ 3 _ rfl; (with_reducible repeat (first | refine blk_drewN ?_ _ | refine blk_drew ?_ | refine blk_alloc ?_ _)); refine blk_put (cs := #[.int .i64 ((rd_T46 l0 x41_3).f0), .int .i64 ((rd_T46 l0 x41_3).f1), .int .i64 0, .int .i64 0, .int .i64 0]) ?_ 2 _ rfl; (with_reducible repeat (first | refine blk_drewN ?_ _ | refine blk_drew ?_ | refine blk_alloc ?_ _)); refine blk_put (cs := #[.int .i64 ((rd_T46 l0 x41_3).f0), .int .i64 0, .int .i64 0, .int .i64 0, .int .i64 0]) ?_ 1 _ rfl; (with_reducible repeat (first | refine blk_drewN ?_ _ | refine blk_drew ?_ | refine blk_alloc ?_ _)); refine blk_put (cs := #[.int .i64 0, .int .i64 0, .int .i64 0, .int .i64 0, .int .i64 0]) ?_ 0 _ rfl; (with_reducible repeat (first | refine blk_drewN ?_ _ | refine blk_drew ?_ | refine blk_alloc ?_ _)); exact BK149.out) hb); have n4_ := Aside0.mk (below_step (by repeat (first | (with_reducible first | exact HB.out | apply below_alloc | apply pw_below_drewN | apply below_drew1 | refine below_set ?_ GE145.out | refine below_set ?_ GE149.out) | exact HB.out)) hb); clear HO_11; clear BK145; clear BK149; clear HB; have HO_11 := n0_; have HO152 := n1_; have BK145 := n2_; have BK149 := n3_; have HB := n4_; clear n0_ n1_ n2_ n3_ n4_; (try clear hb); (try clear hb2); (try clear hk); (try clear hi); (try clear ho0); obtain ⟨Ao30, co30, eo30⟩ := Kd.R_slice HO152.out; subst eo30; have hcz31_0 : w29.cell? ⟨gb145, 0, none⟩ = some (.int .i64 a2_0) := (blk_cell BK145.out 0).trans rfl; have hcz31_1 : w29.cell? ⟨gb145, 1, none⟩ = some (.int .i64 a2_1) := (blk_cell BK145.out 1).trans rfl; have hfz31_0 := blk_frozen BK145.out 0; have hfz31_1 := blk_frozen BK145.out 1; have hcz32_0 : w29.cell? ⟨gb149, 0, none⟩ = some (.int .i64 ((rd_T46 l0 x41_3).f0)) := (blk_cell BK149.out 0).trans rfl; have hcz32_1 : w29.cell? ⟨gb149, 1, none⟩ = some (.int .i64 ((rd_T46 l0 x41_3).f1)) := (blk_cell BK149.out 1).trans rfl; have hcz32_2 : w29.cell? ⟨gb149, 2, none⟩ = some (.int .i64 ((rd_T46 l0 x41_3).f2)) := (blk_cell BK149.out 2).trans rfl; have hcz32_3 : w29.cell? ⟨gb149, 3, none⟩ = some (.int .i64 ((rd_T46 l0 x41_3).f3)) := (blk_cell BK149.out 3).trans rfl; have hcz32_4 : w29.cell? ⟨gb149, 4, none⟩ = some (.int .i64 ((rd_T46 l0 x41_3).f4)) := (blk_cell BK149.out 4).trans rfl; have hfz32_0 := blk_frozen BK149.out 0; have hfz32_1 := blk_frozen BK149.out 1; have hfz32_2 := blk_frozen BK149.out 2; have hfz32_3 := blk_frozen BK149.out 3; have hfz32_4 := blk_frozen BK149.out 4)); try go_wp2_with (first | (go_at_call 86; (with_reducible refine (furlongref07_free.calls k3 ((rd_T46 l0 x41_3).f0) ((rd_T46 l0 x41_3).f1) ((rd_T46 l0 x41_3).f2) ((rd_T46 l0 x41_3).f3) ((rd_T46 l0 x41_3).f4) _ _ l1 t150 t153 _ ?side1 ?side2 A22.out).mono ?_); (case side1 => exact Kd.C_below HR1.out (by repeat (first | (with_reducible first | exact HB.out | apply below_alloc | apply pw_below_drewN | apply below_drew1 | refine below_set ?_ GE145.out | refine below_set ?_ GE149.out) | exact HB.out))); (case side2 => exact HC1.out); rintro e w29 ⟨v151, rfl, ho0, hb⟩; have n0_ := Aside0.mk (Kd.R_elder' (by (with_reducible repeat (first | apply Kd.R_alloc | apply Kd.R_drewN | apply Kd.R_drew)); exact (Kd.R_mono (Kd.R_far (p := ⟨gb149, 4, none⟩) (Kd.R_far (p := ⟨gb149, 3, none⟩) (Kd.R_far (p := ⟨gb149, 2, none⟩) (Kd.R_far (p := ⟨gb149, 1, none⟩) (Kd.R_far (p := ⟨gb149, 0, none⟩) (Kd.R_types HO_11.out BK149.out (by decide)) (fun _ hk => hk.2) (.int .i64 ((rd_T46 l0 x41_3).f0))) (fun _ hk => hk.2) (.int .i64 ((rd_T46 l0 x41_3).f1))) (fun _ hk => hk.2) (.int .i64 ((rd_T46 l0 x41_3).f2))) (fun _ hk => hk.2) (.int .i64 ((rd_T46 l0 x41_3).f3))) (fun _ hk => hk.2) (.int .i64 ((rd_T46 l0 x41_3).f4))) (fun _ h_ => h_.1))) (Kd.R_base ho0) hb); have n1_ := Aside0.mk (Kd.R_lower (Kd.R_new' ho0 (Kd.R_lt (by (with_reducible repeat (first | apply Kd.R_alloc | apply Kd.R_drewN | apply Kd.R_drew)); exact (Kd.R_mono (Kd.R_far (p := ⟨gb149, 4, none⟩) (Kd.R_far (p := ⟨gb149, 3, none⟩) (Kd.R_far (p := ⟨gb149, 2, none⟩) (Kd.R_far (p := ⟨gb149, 1, none⟩) (Kd.R_far (p := ⟨gb149, 0, none⟩) (Kd.R_types HO_11.out BK149.out (by decide)) (fun _ hk => hk.2) (.int .i64 ((rd_T46 l0 x41_3).f0))) (fun _ hk => hk.2) (.int .i64 ((rd_T46 l0 x41_3).f1))) (fun _ hk => hk.2) (.int .i64 ((rd_T46 l0 x41_3).f2))) (fun _ hk => hk.2) (.int .i64 ((rd_T46 l0 x41_3).f3))) (fun _ hk => hk.2) (.int .i64 ((rd_T46 l0 x41_3).f4))) (fun _ h_ => h_.1))))) (below_size (by repeat (first | (with_reducible first | exact HB.out | apply below_alloc | apply pw_below_drewN | apply below_drew1 | refine below_set ?_ GE145.out | refine below_set ?_ GE149.out) | exact HB.out)))); have n2_ := Aside0.mk (blk_below (g := gb145) (o := .cells #[.int .i64 a2_0, .int .i64 a2_1] 25 (0, 0)) (by (with_reducible repeat (first | refine blk_drewN ?_ _ | refine blk_drew ?_ | refine blk_alloc ?_ _)); refine blk_far ?_ NB145_149.out _; (with_reducible repeat (first | refine blk_drewN ?_ _ | refine blk_drew ?_ | refine blk_alloc ?_ _)); refine blk_far ?_ NB145_149.out _; (with_reducible repeat (first | refine blk_drewN ?_ _ | refine blk_drew ?_ | refine blk_alloc ?_ _)); refine blk_far ?_ NB145_149.out _; (with_reducible repeat (first | refine blk_drewN ?_ _ | refine blk_drew ?_ | refine blk_alloc ?_ _)); refine blk_far ?_ NB145_149.out _; (with_reducible repeat (first | refine blk_drewN ?_ _ | refine blk_drew ?_ | refine blk_alloc ?_ _)); refine blk_far ?_ NB145_149.out _; (with_reducible repeat (first | refine blk_drewN ?_ _ | refine blk_drew ?_ | refine blk_alloc ?_ _)); exact BK145.out) hb); have n3_ := Aside0.mk (blk_below (g := gb149) (o := .cells #[.int .i64 ((rd_T46 l0 x41_3).f0), .int .i64 ((rd_T46 l0 x41_3).f1), .int .i64 ((rd_T46 l0 x41_3).f2), .int .i64 ((rd_T46 l0 x41_3).f3), .int .i64 ((rd_T46 l0 x41_3).f4)] 46 (0, 0)) (by (with_reducible repeat (first | refine blk_drewN ?_ _ | refine blk_drew ?_ | refine blk_alloc ?_ _)); refine blk_put (cs := #[.int .i64 ((rd_T46 l0 x41_3).f0), .int .i64 ((rd_T46 l0 x41_3).f1), .int .i64 ((rd_T46 l0 x41_3).f2), .int .i64 ((rd_T46 l0 x41_3).f3), .int .i64 0]) ?_ 4 _ rfl; (with_reducible repeat (first | refine blk_drewN ?_ _ | refine blk_drew ?_ | refine blk_alloc ?_ _)); refine blk_put (cs := #[.int .i64 ((rd_T46 l0 x41_3).f0), .int .i64 ((rd_T46 l0 x41_3).f1), .int .i64 ((rd_T46 l0 x41_3).f2), .int .i64 0, .int .i64 0]) ?_ 3 _ rfl; (with_reducible repeat (first | refine blk_drewN ?_ _ | refine blk_drew ?_ | refine blk_alloc ?_ _)); refine blk_put (cs := #[.int .i64 ((rd_T46 l0 x41_3).f0), .int .i64 ((rd_T46 l0 x41_3).f1), .int .i64 0, .int .i64 0, .int .i64 0]) ?_ 2 _ rfl; (with_reducible repeat (first | refine blk_drewN ?_ _ | refine blk_drew ?_ | refine blk_alloc ?_ _)); refine blk_put (cs := #[.int .i64 ((rd_T46 l0 x41_3).f0), .int .i64 0, .int .i64 0, .int .i64 0, .int .i64 0]) ?_ 1 _ rfl; (with_reducible repeat (first | refine blk_drewN ?_ _ | refine blk_drew ?_ | refine blk_alloc ?_ _)); refine blk_put (cs := #[.int .i64 0, .int .i64 0, .int .i64 0, .int .i64 0, .int .i64 0]) ?_ 0 _ rfl; (with_reducible repeat (first | refine blk_drewN ?_ _ | refine blk_drew ?_ | refine blk_alloc ?_ _)); exact BK149.out) hb); have n4_ := Aside0.mk (below_step (by repeat (first | (with_reducible first | exact HB.out | apply below_alloc | apply pw_below_drewN | apply below_drew1 | refine below_set ?_ GE145.out | refine below_set ?_ GE149.out) | exact HB.out)) hb); clear HO_11; clear BK145; clear BK149; clear HB; have HO_11 := n0_; have HO152 := n1_; have BK145 := n2_; have BK149 := n3_; have HB := n4_; clear n0_ n1_ n2_ n3_ n4_; (try clear hb); (try clear hb2); (try clear hk); (try clear hi); (try clear ho0); obtain ⟨Ao30, co30, eo30⟩ := Kd.R_slice HO152.out; subst eo30; have hcz31_0 : w29.cell? ⟨gb145, 0, none⟩ = some (.int .i64 a2_0) := (blk_cell BK145.out 0).trans rfl; have hcz31_1 : w29.cell? ⟨gb145, 1, none⟩ = some (.int .i64 a2_1) := (blk_cell BK145.out 1).trans rfl; have hfz31_0 := blk_frozen BK145.out 0; have hfz31_1 := blk_frozen BK145.out 1; have hcz32_0 : w29.cell? ⟨gb149, 0, none⟩ = some (.int .i64 ((rd_T46 l0 x41_3).f0)) := (blk_cell BK149.out 0).trans rfl; have hcz32_1 : w29.cell? ⟨gb149, 1, none⟩ = some (.int .i64 ((rd_T46 l0 x41_3).f1)) := (blk_cell BK149.out 1).trans rfl; have hcz32_2 : w29.cell? ⟨gb149, 2, none⟩ = some (.int .i64 ((rd_T46 l0 x41_3).f2)) := (blk_cell BK149.out 2).trans rfl; have hcz32_3 : w29.cell? ⟨gb149, 3, none⟩ = some (.int .i64 ((rd_T46 l0 x41_3).f3)) := (blk_cell BK149.out 3).trans rfl; have hcz32_4 : w29.cell? ⟨gb149, 4, none⟩ = some (.int .i64 ((rd_T46 l0 x41_3).f4)) := (blk_cell BK149.out 4).trans rfl; have hfz32_0 := blk_frozen BK149.out 0; have hfz32_1 := blk_frozen BK149.out 1; have hfz32_2 := blk_frozen BK149.out 2; have hfz32_3 := blk_frozen BK149.out 3; have hfz32_4 := blk_frozen BK149.out 4)))
              go_roundg k3
              case measure => have := HJ4.out; have := HJ15.out; have := HK3.out; omega
              case rel => exact ⟨((rd_T46 l0 x41_3).f0), (t150), (wrap64 (x41_3 + 1)), (by first | rfl | (simp; done) | (simp [*]; done)), (by first | rfl | (simp; done) | (simp [*]; done)), H', ⟨by have := HJ4.out; have := HJ15.out; have := HK3.out; omega⟩, ⟨by (with_reducible repeat (first | apply Kd.R_alloc | apply Kd.R_drewN | apply Kd.R_drew)); exact Kd.R_mono HO152.out (fun _ hk => trivial)⟩, ⟨by (with_reducible repeat (first | refine blk_drewN ?_ _ | refine blk_drew ?_ | refine blk_alloc ?_ _)); exact BK145.out⟩, ⟨by repeat (first | (with_reducible first | exact HB.out | apply below_alloc | apply pw_below_drewN | apply below_drew1 | refine below_set ?_ GE145.out | refine below_set ?_ GE149.out) | exact HB.out)⟩⟩
             ·
              rw [if_neg c25] at H
              have c25b0 : decide (x10_3 < 0) = false := decide_eq_false c25
              clear c25
              by_cases c33 : (t150.length : Int) < (x11_3.length : Int)
              ·
               rw [if_pos c33] at H
               have c33b0 : decide ((t150.length : Int) < (x11_3.length : Int)) = true := decide_eq_true c33
               have c33b1 : decide (t150.length < x11_3.length) = true := decide_eq_true (Int.ofNat_lt.mp c33)
               clear c33
               have H' := Aside0.mk H
               clear H
               have p148 : 0 ≤ (x41_3 : Int) := of_decide_eq_true (by first | (with_reducible assumption) | assumption)
               have q148 : x41_3 < (l0.length : Int) := of_decide_eq_true (by first | (with_reducible assumption) | assumption)
               obtain ⟨ad148, e148, hx148_0, hx148_1, hx148_2, hx148_3, hx148_4⟩ := at_T46 HR0.out x41_3 p148 q148
               cases e148
               (try (replace hx148_0 := (HB.out.cell (World.block_lt_of_cell? w _ hx148_0)).trans hx148_0))
               (try (replace hx148_1 := (HB.out.cell (World.block_lt_of_cell? w _ hx148_1)).trans hx148_1))
               (try (replace hx148_2 := (HB.out.cell (World.block_lt_of_cell? w _ hx148_2)).trans hx148_2))
               (try (replace hx148_3 := (HB.out.cell (World.block_lt_of_cell? w _ hx148_3)).trans hx148_3))
               (try (replace hx148_4 := (HB.out.cell (World.block_lt_of_cell? w _ hx148_4)).trans hx148_4))
               replace p148 := eq_true p148
               replace q148 := eq_true q148
               go_wp2_with (first | ((with_reducible refine gate_dst (N := 13) rfl ?_); (try (refine gate_guard (by rfl) ?_; dsimp only)); refine box_event ?hg (N := 13) ?hd (cs := #[.int .i64 0, .int .i64 0, .int .i64 0, .int .i64 0, .int .i64 0]) (t := 46) ?hr ?_; (case hd => rfl); (case hg => rfl); (case hr => first | (go_simp; done) | (go_simp; rfl)); intro gb149 hg w34 hbox hb; have n0_ := Aside0.mk (Kd.R_below (by (with_reducible repeat (first | apply Kd.R_alloc | apply Kd.R_drewN | apply Kd.R_drew)); exact HO_11.out) hb); have n1_ := Aside0.mk (blk_below (g := gb145) (o := .cells #[.int .i64 a2_0, .int .i64 a2_1] 25 (0, 0)) (by (with_reducible repeat (first | refine blk_drewN ?_ _ | refine blk_drew ?_ | refine blk_alloc ?_ _)); exact BK145.out) hb); have n2_ := Aside0.mk (below_step (by repeat (first | (with_reducible first | exact HB.out | apply below_alloc | apply pw_below_drewN | apply below_drew1 | refine below_set ?_ GE145.out) | exact HB.out)) hb); have n3_ := Aside0.mk (hbox); have n4_ := Aside0.mk ((by rw [hg]; exact (below_size (by repeat (first | (with_reducible first | exact HB.out | apply below_alloc | apply pw_below_drewN | apply below_drew1 | refine below_set ?_ GE145.out) | exact HB.out))) : w.heap.size ≤ gb149)); have n5_ := Aside0.mk ((by rw [hg]; exact (below_size (by repeat (first | (with_reducible first | exact HB.out | apply below_alloc | apply pw_below_drewN | apply below_drew1 | refine below_set ?_ GE145.out) | exact HB.out))) : w.heap.size ≤ gb149)); have n6_ := Aside0.mk ((by rw [hg]; exact Nat.ne_of_lt (blk_lt (g := gb145) (o := .cells #[.int .i64 a2_0, .int .i64 a2_1] 25 (0, 0)) (by (with_reducible repeat (first | refine blk_drewN ?_ _ | refine blk_drew ?_ | refine blk_alloc ?_ _)); exact BK145.out)) : gb145 ≠ gb149)); have n7_ := Aside0.mk ((by rw [hg]; exact Nat.ne_of_gt (blk_lt (g := gb145) (o := .cells #[.int .i64 a2_0, .int .i64 a2_1] 25 (0, 0)) (by (with_reducible repeat (first | refine blk_drewN ?_ _ | refine blk_drew ?_ | refine blk_alloc ?_ _)); exact BK145.out)) : gb149 ≠ gb145)); clear HO_11; clear BK145; clear HB; have HO_11 := n0_; have BK145 := n1_; have HB := n2_; have BK149 := n3_; have GW149 := n4_; have GE149 := n5_; have NB145_149 := n6_; have NB149_145 := n7_; clear n0_ n1_ n2_ n3_ n4_ n5_ n6_ n7_; clear hb hbox hg; have hnb35 := NB149_145.out; have hnc35 := NB145_149.out; have hcz36_0 : w34.cell? ⟨gb149, 0, none⟩ = some (.int .i64 0) := (blk_cell BK149.out 0).trans rfl; have hcz36_1 : w34.cell? ⟨gb149, 1, none⟩ = some (.int .i64 0) := (blk_cell BK149.out 1).trans rfl; have hcz36_2 : w34.cell? ⟨gb149, 2, none⟩ = some (.int .i64 0) := (blk_cell BK149.out 2).trans rfl; have hcz36_3 : w34.cell? ⟨gb149, 3, none⟩ = some (.int .i64 0) := (blk_cell BK149.out 3).trans rfl; have hcz36_4 : w34.cell? ⟨gb149, 4, none⟩ = some (.int .i64 0) := (blk_cell BK149.out 4).trans rfl; have hfz36_0 := blk_frozen BK149.out 0; have hfz36_1 := blk_frozen BK149.out 1; have hfz36_2 := blk_frozen BK149.out 2; have hfz36_3 := blk_frozen BK149.out 3; have hfz36_4 := blk_frozen BK149.out 4) | (go_at_call 86; (with_reducible refine (furlongref07_free.calls k3 ((rd_T46 l0 x41_3).f0) ((rd_T46 l0 x41_3).f1) ((rd_T46 l0 x41_3).f2) ((rd_T46 l0 x41_3).f3) ((rd_T46 l0 x41_3).f4) _ _ l1 t150 t153 _ ?side1 ?side2 A22.out).mono ?_); (case side1 => exact Kd.C_below HR1.out (by repeat (first | (with_reducible first | exact HB.out | apply below_alloc | apply pw_below_drewN | apply below_drew1 | refine below_set ?_ GE145.out | refine below_set ?_ GE149.out) | exact HB.out))); (case side2 => exact HC1.out); rintro e w37 ⟨v151, rfl, ho0, hb⟩; have n0_ := Aside0.mk (Kd.R_elder' (by (with_reducible repeat (first | apply Kd.R_alloc | apply Kd.R_drewN | apply Kd.R_drew)); exact (Kd.R_mono (Kd.R_far (p := ⟨gb149, 4, none⟩) (Kd.R_far (p := ⟨gb149, 3, none⟩) (Kd.R_far (p := ⟨gb149, 2, none⟩) (Kd.R_far (p := ⟨gb149, 1, none⟩) (Kd.R_far (p := ⟨gb149, 0, none⟩) (Kd.R_types HO_11.out BK149.out (by decide)) (fun _ hk => hk.2) (.int .i64 ((rd_T46 l0 x41_3).f0))) (fun _ hk => hk.2) (.int .i64 ((rd_T46 l0 x41_3).f1))) (fun _ hk => hk.2) (.int .i64 ((rd_T46 l0 x41_3).f2))) (fun _ hk => hk.2) (.int .i64 ((rd_T46 l0 x41_3).f3))) (fun _ hk => hk.2) (.int .i64 ((rd_T46 l0 x41_3).f4))) (fun _ h_ => h_.1))) (Kd.R_base ho0) hb); have n1_ := Aside0.mk (Kd.R_lower (Kd.R_new' ho0 (Kd.R_lt (by (with_reducible repeat (first | apply Kd.R_alloc | apply Kd.R_drewN | apply Kd.R_drew)); exact (Kd.R_mono (Kd.R_far (p := ⟨gb149, 4, none⟩) (Kd.R_far (p := ⟨gb149, 3, none⟩) (Kd.R_far (p := ⟨gb149, 2, none⟩) (Kd.R_far (p := ⟨gb149, 1, none⟩) (Kd.R_far (p := ⟨gb149, 0, none⟩) (Kd.R_types HO_11.out BK149.out (by decide)) (fun _ hk => hk.2) (.int .i64 ((rd_T46 l0 x41_3).f0))) (fun _ hk => hk.2) (.int .i64 ((rd_T46 l0 x41_3).f1))) (fun _ hk => hk.2) (.int .i64 ((rd_T46 l0 x41_3).f2))) (fun _ hk => hk.2) (.int .i64 ((rd_T46 l0 x41_3).f3))) (fun _ hk => hk.2) (.int .i64 ((rd_T46 l0 x41_3).f4))) (fun _ h_ => h_.1))))) (below_size (by repeat (first | (with_reducible first | exact HB.out | apply below_alloc | apply pw_below_drewN | apply below_drew1 | refine below_set ?_ GE145.out | refine below_set ?_ GE149.out) | exact HB.out)))); have n2_ := Aside0.mk (blk_below (g := gb145) (o := .cells #[.int .i64 a2_0, .int .i64 a2_1] 25 (0, 0)) (by (with_reducible repeat (first | refine blk_drewN ?_ _ | refine blk_drew ?_ | refine blk_alloc ?_ _)); refine blk_far ?_ NB145_149.out _; (with_reducible repeat (first | refine blk_drewN ?_ _ | refine blk_drew ?_ | refine blk_alloc ?_ _)); refine blk_far ?_ NB145_149.out _; (with_reducible repeat (first | refine blk_drewN ?_ _ | refine blk_drew ?_ | refine blk_alloc ?_ _)); refine blk_far ?_ NB145_149.out _; (with_reducible repeat (first | refine blk_drewN ?_ _ | refine blk_drew ?_ | refine blk_alloc ?_ _)); refine blk_far ?_ NB145_149.out _; (with_reducible repeat (first | refine blk_drewN ?_ _ | refine blk_drew ?_ | refine blk_alloc ?_ _)); refine blk_far ?_ NB145_149.out _; (with_reducible repeat (first | refine blk_drewN ?_ _ | refine blk_drew ?_ | refine blk_alloc ?_ _)); exact BK145.out) hb); have n3_ := Aside0.mk (blk_below (g := gb149) (o := .cells #[.int .i64 ((rd_T46 l0 x41_3).f0), .int .i64 ((rd_T46 l0 x41_3).f1), .int .i64 ((rd_T46 l0 x41_3).f2), .int .i64 ((rd_T46 l0 x41_3).f3), .int .i64 ((rd_T46 l0 x41_3).f4)] 46 (0, 0)) (by (with_reducible repeat (first | refine blk_drewN ?_ _ | refine blk_drew ?_ | refine blk_alloc ?_ _)); refine blk_put (cs := #[.int .i64 ((rd_T46 l0 x41_3).f0), .int .i64 ((rd_T46 l0 x41_3).f1), .int .i64 ((rd_T46 l0 x41_3).f2), .int .i64 ((rd_T46 l0 x41_3).f3), .int .i64 0]) ?_ 4 _ rfl; (with_reducible repeat (first | refine blk_drewN ?_ _ | refine blk_drew ?_ | refine blk_alloc ?_ _)); refine blk_put (cs := #[.int .i64 ((rd_T46 l0 x41_3).f0), .int .i64 ((rd_T46 l0 x41_3).f1), .int .i64 ((rd_T46 l0 x41_3).f2), .int .i64 0, .int .i64 0]) ?_ 3 _ rfl; (with_reducible repeat (first | refine blk_drewN ?_ _ | refine blk_drew ?_ | refine blk_alloc ?_ _)); refine blk_put (cs := #[.int .i64 ((rd_T46 l0 x41_3).f0), .int .i64 ((rd_T46 l0 x41_3).f1), .int .i64 0, .int .i64 0, .int .i64 0]) ?_ 2 _ rfl; (with_reducible repeat (first | refine blk_drewN ?_ _ | refine blk_drew ?_ | refine blk_alloc ?_ _)); refine blk_put (cs := #[.int .i64 ((rd_T46 l0 x41_3).f0), .int .i64 0, .int .i64 0, .int .i64 0, .int .i64 0]) ?_ 1 _ rfl; (with_reducible repeat (first | refine blk_drewN ?_ _ | refine blk_drew ?_ | refine blk_alloc ?_ _)); refine blk_put (cs := #[.int .i64 0, .int .i64 0, .int .i64 0, .int .i64 0, .int .i64 0]) ?_ 0 _ rfl; (with_reducible repeat (first | refine blk_drewN ?_ _ | refine blk_drew ?_ | refine blk_alloc ?_ _)); exact BK149.out) hb); have n4_ := Aside0.mk (below_step (by repeat (first | (with_reducible first | exact HB.out | apply below_alloc | apply pw_below_drewN | apply below_drew1 | refine below_set ?_ GE145.out | refine below_set ?_ GE149.out) | exact HB.out)) hb); clear HO_11; clear BK145; clear BK149; clear HB; have HO_11 := n0_; have HO152 := n1_; have BK145 := n2_; have BK149 := n3_; have HB := n4_; clear n0_ n1_ n2_ n3_ n4_; (try clear hb); (try clear hb2); (try clear hk); (try clear hi); (try clear ho0); obtain ⟨Ao38, co38, eo38⟩ := Kd.R_slice HO152.out; subst eo38; have hcz39_0 : w37.cell? ⟨gb145, 0, none⟩ = some (.int .i64 a2_0) := (blk_cell BK145.out 0).trans rfl; have hcz39_1 : w37.cell? ⟨gb145, 1, none⟩ = some (.int .i64 a2_1) := (blk_cell BK145.out 1).trans rfl; have hfz39_0 := blk_frozen BK145.out 0; have hfz39_1 := blk_frozen BK145.out 1; obtain ⟨Ao40, co40, eo40⟩ := Kd.R_slice HO_11.out; subst eo40; have hcz41_0 : w37.cell? ⟨gb149, 0, none⟩ = some (.int .i64 ((rd_T46 l0 x41_3).f0)) := (blk_cell BK149.out 0).trans rfl; have hcz41_1 : w37.cell? ⟨gb149, 1, none⟩ = some (.int .i64 ((rd_T46 l0 x41_3).f1)) := (blk_cell BK149.out 1).trans rfl; have hcz41_2 : w37.cell? ⟨gb149, 2, none⟩ = some (.int .i64 ((rd_T46 l0 x41_3).f2)) := (blk_cell BK149.out 2).trans rfl; have hcz41_3 : w37.cell? ⟨gb149, 3, none⟩ = some (.int .i64 ((rd_T46 l0 x41_3).f3)) := (blk_cell BK149.out 3).trans rfl; have hcz41_4 : w37.cell? ⟨gb149, 4, none⟩ = some (.int .i64 ((rd_T46 l0 x41_3).f4)) := (blk_cell BK149.out 4).trans rfl; have hfz41_0 := blk_frozen BK149.out 0; have hfz41_1 := blk_frozen BK149.out 1; have hfz41_2 := blk_frozen BK149.out 2; have hfz41_3 := blk_frozen BK149.out 3; have hfz41_4 := blk_frozen BK149.out 4))
               repeat (go_quiet (first | (go_at_call 86; (with_reducible refine (furlongref07_free.calls k3 ((rd_T46 l0 x41_3).f0) ((rd_T46 l0 x41_3).f1) ((rd_T46 l0 x41_3).f2) ((rd_T46 l0 x41_3).f3) ((rd_T46 l0 x41_3).f4) _ _ l1 t150 t153 _ ?side1 ?side2 A22.out).mono ?_); (case side1 => exact Kd.C_below HR1.out (by repeat (first | (with_reducible first | exact HB.out | apply below_alloc | apply pw_below_drewN | apply below_drew1 | refine below_set ?_ GE145.out | refine below_set ?_ GE149.out) | exact HB.out))); (case side2 => exact HC1.out); rintro e w37 ⟨v151, rfl, ho0, hb⟩; have n0_ := Aside0.mk (Kd.R_elder' (by (with_reducible repeat (first | apply Kd.R_alloc | apply Kd.R_drewN | apply Kd.R_drew)); exact (Kd.R_mono (Kd.R_far (p := ⟨gb149, 4, none⟩) (Kd.R_far (p := ⟨gb149, 3, none⟩) (Kd.R_far (p := ⟨gb149, 2, none⟩) (Kd.R_far (p := ⟨gb149, 1, none⟩) (Kd.R_far (p := ⟨gb149, 0, none⟩) (Kd.R_types HO_11.out BK149.out (by decide)) (fun _ hk => hk.2) (.int .i64 ((rd_T46 l0 x41_3).f0))) (fun _ hk => hk.2) (.int .i64 ((rd_T46 l0 x41_3).f1))) (fun _ hk => hk.2) (.int .i64 ((rd_T46 l0 x41_3).f2))) (fun _ hk => hk.2) (.int .i64 ((rd_T46 l0 x41_3).f3))) (fun _ hk => hk.2) (.int .i64 ((rd_T46 l0 x41_3).f4))) (fun _ h_ => h_.1))) (Kd.R_base ho0) hb); have n1_ := Aside0.mk (Kd.R_lower (Kd.R_new' ho0 (Kd.R_lt (by (with_reducible repeat (first | apply Kd.R_alloc | apply Kd.R_drewN | apply Kd.R_drew)); exact (Kd.R_mono (Kd.R_far (p := ⟨gb149, 4, none⟩) (Kd.R_far (p := ⟨gb149, 3, none⟩) (Kd.R_far (p := ⟨gb149, 2, none⟩) (Kd.R_far (p := ⟨gb149, 1, none⟩) (Kd.R_far (p := ⟨gb149, 0, none⟩) (Kd.R_types HO_11.out BK149.out (by decide)) (fun _ hk => hk.2) (.int .i64 ((rd_T46 l0 x41_3).f0))) (fun _ hk => hk.2) (.int .i64 ((rd_T46 l0 x41_3).f1))) (fun _ hk => hk.2) (.int .i64 ((rd_T46 l0 x41_3).f2))) (fun _ hk => hk.2) (.int .i64 ((rd_T46 l0 x41_3).f3))) (fun _ hk => hk.2) (.int .i64 ((rd_T46 l0 x41_3).f4))) (fun _ h_ => h_.1))))) (below_size (by repeat (first | (with_reducible first | exact HB.out | apply below_alloc | apply pw_below_drewN | apply below_drew1 | refine below_set ?_ GE145.out | refine below_set ?_ GE149.out) | exact HB.out)))); have n2_ := Aside0.mk (blk_below (g := gb145) (o := .cells #[.int .i64 a2_0, .int .i64 a2_1] 25 (0, 0)) (by (with_reducible repeat (first | refine blk_drewN ?_ _ | refine blk_drew ?_ | refine blk_alloc ?_ _)); refine blk_far ?_ NB145_149.out _; (with_reducible repeat (first | refine blk_drewN ?_ _ | refine blk_drew ?_ | refine blk_alloc ?_ _)); refine blk_far ?_ NB145_149.out _; (with_reducible repeat (first | refine blk_drewN ?_ _ | refine blk_drew ?_ | refine blk_alloc ?_ _)); refine blk_far ?_ NB145_149.out _; (with_reducible repeat (first | refine blk_drewN ?_ _ | refine blk_drew ?_ | refine blk_alloc ?_ _)); refine blk_far ?_ NB145_149.out _; (with_reducible repeat (first | refine blk_drewN ?_ _ | refine blk_drew ?_ | refine blk_alloc ?_ _)); refine blk_far ?_ NB145_149.out _; (with_reducible repeat (first | refine blk_drewN ?_ _ | refine blk_drew ?_ | refine blk_alloc ?_ _)); exact BK145.out) hb); have n3_ := Aside0.mk (blk_below (g := gb149) (o := .cells #[.int .i64 ((rd_T46 l0 x41_3).f0), .int .i64 ((rd_T46 l0 x41_3).f1), .int .i64 ((rd_T46 l0 x41_3).f2), .int .i64 ((rd_T46 l0 x41_3).f3), .int .i64 ((rd_T46 l0 x41_3).f4)] 46 (0, 0)) (by (with_reducible repeat (first | refine blk_drewN ?_ _ | refine blk_drew ?_ | refine blk_alloc ?_ _)); refine blk_put (cs := #[.int .i64 ((rd_T46 l0 x41_3).f0), .int .i64 ((rd_T46 l0 x41_3).f1), .int .i64 ((rd_T46 l0 x41_3).f2), .int .i64 ((rd_T46 l0 x41_3).f3), .int .i64 0]) ?_ 4 _ rfl; (with_reducible repeat (first | refine blk_drewN ?_ _ | refine blk_drew ?_ | refine blk_alloc ?_ _)); refine blk_put (cs := #[.int .i64 ((rd_T46 l0 x41_3).f0), .int .i64 ((rd_T46 l0 x41_3).f1), .int .i64 ((rd_T46 l0 x41_3).f2), .int .i64 0, .int .i64 0]) ?_ 3 _ rfl; (with_reducible repeat (first | refine blk_drewN ?_ _ | refine blk_drew ?_ | refine blk_alloc ?_ _)); refine blk_put (cs := #[.int .i64 ((rd_T46 l0 x41_3).f0), .int .i64 ((rd_T46 l0 x41_3).f1), .int .i64 0, .int .i64 0, .int .i64 0]) ?_ 2 _ rfl; (with_reducible repeat (first | refine blk_drewN ?_ _ | refine blk_drew ?_ | refine blk_alloc ?_ _)); refine blk_put (cs := #[.int .i64 ((rd_T46 l0 x41_3).f0), .int .i64 0, .int .i64 0, .int .i64 0, .int .i64 0]) ?_ 1 _ rfl; (with_reducible repeat (first | refine blk_drewN ?_ _ | refine blk_drew ?_ | refine blk_alloc ?_ _)); refine blk_put (cs := #[.int .i64 0, .int .i64 0, .int .i64 0, .int .i64 0, .int .i64 0]) ?_ 0 _ rfl; (with_reducible repeat (first | refine blk_drewN ?_ _ | refine blk_drew ?_ | refine blk_alloc ?_ _)); exact BK149.out) hb); have n4_ := Aside0.mk (below_step (by repeat (first | (with_reducible first | exact HB.out | apply below_alloc | apply pw_below_drewN | apply below_drew1 | refine below_set ?_ GE145.out | refine below_set ?_ GE149.out) | exact HB.out)) hb); clear HO_11; clear BK145; clear BK149; clear HB; have HO_11 := n0_; have HO152 := n1_; have BK145 := n2_; have BK149 := n3_; have HB := n4_; clear n0_ n1_ n2_ n3_ n4_; (try clear hb); (try clear hb2); (try clear hk); (try clear hi); (try clear ho0); obtain ⟨Ao38, co38, eo38⟩ := Kd.R_slice HO152.out; subst eo38; have hcz39_0 : w37.cell? ⟨gb145, 0, none⟩ = some (.int .i64 a2_0) := (blk_cell BK145.out 0).trans rfl; have hcz39_1 : w37.cell? ⟨gb145, 1, none⟩ = some (.int .i64 a2_1) := (blk_cell BK145.out 1).trans rfl; have hfz39_0 := blk_frozen BK145.out 0; have hfz39_1 := blk_frozen BK145.out 1; obtain ⟨Ao40, co40, eo40⟩ := Kd.R_slice HO_11.out; subst eo40; have hcz41_0 : w37.cell? ⟨gb149, 0, none⟩ = some (.int .i64 ((rd_T46 l0 x41_3).f0)) := (blk_cell BK149.out 0).trans rfl; have hcz41_1 : w37.cell? ⟨gb149, 1, none⟩ = some (.int .i64 ((rd_T46 l0 x41_3).f1)) := (blk_cell BK149.out 1).trans rfl; have hcz41_2 : w37.cell? ⟨gb149, 2, none⟩ = some (.int .i64 ((rd_T46 l0 x41_3).f2)) := (blk_cell BK149.out 2).trans rfl; have hcz41_3 : w37.cell? ⟨gb149, 3, none⟩ = some (.int .i64 ((rd_T46 l0 x41_3).f3)) := (blk_cell BK149.out 3).trans rfl; have hcz41_4 : w37.cell? ⟨gb149, 4, none⟩ = some (.int .i64 ((rd_T46 l0 x41_3).f4)) := (blk_cell BK149.out 4).trans rfl; have hfz41_0 := blk_frozen BK149.out 0; have hfz41_1 := blk_frozen BK149.out 1; have hfz41_2 := blk_frozen BK149.out 2; have hfz41_3 := blk_frozen BK149.out 3; have hfz41_4 := blk_frozen BK149.out 4)); try go_wp2_with (first | (go_at_call 86; (with_reducible refine (furlongref07_free.calls k3 ((rd_T46 l0 x41_3).f0) ((rd_T46 l0 x41_3).f1) ((rd_T46 l0 x41_3).f2) ((rd_T46 l0 x41_3).f3) ((rd_T46 l0 x41_3).f4) _ _ l1 t150 t153 _ ?side1 ?side2 A22.out).mono ?_); (case side1 => exact Kd.C_below HR1.out (by repeat (first | (with_reducible first | exact HB.out | apply below_alloc | apply pw_below_drewN | apply below_drew1 | refine below_set ?_ GE145.out | refine below_set ?_ GE149.out) | exact HB.out))); (case side2 => exact HC1.out); rintro e w37 ⟨v151, rfl, ho0, hb⟩; have n0_ := Aside0.mk (Kd.R_elder' (by (with_reducible repeat (first | apply Kd.R_alloc | apply Kd.R_drewN | apply Kd.R_drew)); exact (Kd.R_mono (Kd.R_far (p := ⟨gb149, 4, none⟩) (Kd.R_far (p := ⟨gb149, 3, none⟩) (Kd.R_far (p := ⟨gb149, 2, none⟩) (Kd.R_far (p := ⟨gb149, 1, none⟩) (Kd.R_far (p := ⟨gb149, 0, none⟩) (Kd.R_types HO_11.out BK149.out (by decide)) (fun _ hk => hk.2) (.int .i64 ((rd_T46 l0 x41_3).f0))) (fun _ hk => hk.2) (.int .i64 ((rd_T46 l0 x41_3).f1))) (fun _ hk => hk.2) (.int .i64 ((rd_T46 l0 x41_3).f2))) (fun _ hk => hk.2) (.int .i64 ((rd_T46 l0 x41_3).f3))) (fun _ hk => hk.2) (.int .i64 ((rd_T46 l0 x41_3).f4))) (fun _ h_ => h_.1))) (Kd.R_base ho0) hb); have n1_ := Aside0.mk (Kd.R_lower (Kd.R_new' ho0 (Kd.R_lt (by (with_reducible repeat (first | apply Kd.R_alloc | apply Kd.R_drewN | apply Kd.R_drew)); exact (Kd.R_mono (Kd.R_far (p := ⟨gb149, 4, none⟩) (Kd.R_far (p := ⟨gb149, 3, none⟩) (Kd.R_far (p := ⟨gb149, 2, none⟩) (Kd.R_far (p := ⟨gb149, 1, none⟩) (Kd.R_far (p := ⟨gb149, 0, none⟩) (Kd.R_types HO_11.out BK149.out (by decide)) (fun _ hk => hk.2) (.int .i64 ((rd_T46 l0 x41_3).f0))) (fun _ hk => hk.2) (.int .i64 ((rd_T46 l0 x41_3).f1))) (fun _ hk => hk.2) (.int .i64 ((rd_T46 l0 x41_3).f2))) (fun _ hk => hk.2) (.int .i64 ((rd_T46 l0 x41_3).f3))) (fun _ hk => hk.2) (.int .i64 ((rd_T46 l0 x41_3).f4))) (fun _ h_ => h_.1))))) (below_size (by repeat (first | (with_reducible first | exact HB.out | apply below_alloc | apply pw_below_drewN | apply below_drew1 | refine below_set ?_ GE145.out | refine below_set ?_ GE149.out) | exact HB.out)))); have n2_ := Aside0.mk (blk_below (g := gb145) (o := .cells #[.int .i64 a2_0, .int .i64 a2_1] 25 (0, 0)) (by (with_reducible repeat (first | refine blk_drewN ?_ _ | refine blk_drew ?_ | refine blk_alloc ?_ _)); refine blk_far ?_ NB145_149.out _; (with_reducible repeat (first | refine blk_drewN ?_ _ | refine blk_drew ?_ | refine blk_alloc ?_ _)); refine blk_far ?_ NB145_149.out _; (with_reducible repeat (first | refine blk_drewN ?_ _ | refine blk_drew ?_ | refine blk_alloc ?_ _)); refine blk_far ?_ NB145_149.out _; (with_reducible repeat (first | refine blk_drewN ?_ _ | refine blk_drew ?_ | refine blk_alloc ?_ _)); refine blk_far ?_ NB145_149.out _; (with_reducible repeat (first | refine blk_drewN ?_ _ | refine blk_drew ?_ | refine blk_alloc ?_ _)); refine blk_far ?_ NB145_149.out _; (with_reducible repeat (first | refine blk_drewN ?_ _ | refine blk_drew ?_ | refine blk_alloc ?_ _)); exact BK145.out) hb); have n3_ := Aside0.mk (blk_below (g := gb149) (o := .cells #[.int .i64 ((rd_T46 l0 x41_3).f0), .int .i64 ((rd_T46 l0 x41_3).f1), .int .i64 ((rd_T46 l0 x41_3).f2), .int .i64 ((rd_T46 l0 x41_3).f3), .int .i64 ((rd_T46 l0 x41_3).f4)] 46 (0, 0)) (by (with_reducible repeat (first | refine blk_drewN ?_ _ | refine blk_drew ?_ | refine blk_alloc ?_ _)); refine blk_put (cs := #[.int .i64 ((rd_T46 l0 x41_3).f0), .int .i64 ((rd_T46 l0 x41_3).f1), .int .i64 ((rd_T46 l0 x41_3).f2), .int .i64 ((rd_T46 l0 x41_3).f3), .int .i64 0]) ?_ 4 _ rfl; (with_reducible repeat (first | refine blk_drewN ?_ _ | refine blk_drew ?_ | refine blk_alloc ?_ _)); refine blk_put (cs := #[.int .i64 ((rd_T46 l0 x41_3).f0), .int .i64 ((rd_T46 l0 x41_3).f1), .int .i64 ((rd_T46 l0 x41_3).f2), .int .i64 0, .int .i64 0]) ?_ 3 _ rfl; (with_reducible repeat (first | refine blk_drewN ?_ _ | refine blk_drew ?_ | refine blk_alloc ?_ _)); refine blk_put (cs := #[.int .i64 ((rd_T46 l0 x41_3).f0), .int .i64 ((rd_T46 l0 x41_3).f1), .int .i64 0, .int .i64 0, .int .i64 0]) ?_ 2 _ rfl; (with_reducible repeat (first | refine blk_drewN ?_ _ | refine blk_drew ?_ | refine blk_alloc ?_ _)); refine blk_put (cs := #[.int .i64 ((rd_T46 l0 x41_3).f0), .int .i64 0, .int .i64 0, .int .i64 0, .int .i64 0]) ?_ 1 _ rfl; (with_reducible repeat (first | refine blk_drewN ?_ _ | refine blk_drew ?_ | refine blk_alloc ?_ _)); refine blk_put (cs := #[.int .i64 0, .int .i64 0, .int .i64 0, .int .i64 0, .int .i64 0]) ?_ 0 _ rfl; (with_reducible repeat (first | refine blk_drewN ?_ _ | refine blk_drew ?_ | refine blk_alloc ?_ _)); exact BK149.out) hb); have n4_ := Aside0.mk (below_step (by repeat (first | (with_reducible first | exact HB.out | apply below_alloc | apply pw_below_drewN | apply below_drew1 | refine below_set ?_ GE145.out | refine below_set ?_ GE149.out) | exact HB.out)) hb); clear HO_11; clear BK145; clear BK149; clear HB; have HO_11 := n0_; have HO152 := n1_; have BK145 := n2_; have BK149 := n3_; have HB := n4_; clear n0_ n1_ n2_ n3_ n4_; (try clear hb); (try clear hb2); (try clear hk); (try clear hi); (try clear ho0); obtain ⟨Ao38, co38, eo38⟩ := Kd.R_slice HO152.out; subst eo38; have hcz39_0 : w37.cell? ⟨gb145, 0, none⟩ = some (.int .i64 a2_0) := (blk_cell BK145.out 0).trans rfl; have hcz39_1 : w37.cell? ⟨gb145, 1, none⟩ = some (.int .i64 a2_1) := (blk_cell BK145.out 1).trans rfl; have hfz39_0 := blk_frozen BK145.out 0; have hfz39_1 := blk_frozen BK145.out 1; obtain ⟨Ao40, co40, eo40⟩ := Kd.R_slice HO_11.out; subst eo40; have hcz41_0 : w37.cell? ⟨gb149, 0, none⟩ = some (.int .i64 ((rd_T46 l0 x41_3).f0)) := (blk_cell BK149.out 0).trans rfl; have hcz41_1 : w37.cell? ⟨gb149, 1, none⟩ = some (.int .i64 ((rd_T46 l0 x41_3).f1)) := (blk_cell BK149.out 1).trans rfl; have hcz41_2 : w37.cell? ⟨gb149, 2, none⟩ = some (.int .i64 ((rd_T46 l0 x41_3).f2)) := (blk_cell BK149.out 2).trans rfl; have hcz41_3 : w37.cell? ⟨gb149, 3, none⟩ = some (.int .i64 ((rd_T46 l0 x41_3).f3)) := (blk_cell BK149.out 3).trans rfl; have hcz41_4 : w37.cell? ⟨gb149, 4, none⟩ = some (.int .i64 ((rd_T46 l0 x41_3).f4)) := (blk_cell BK149.out 4).trans rfl; have hfz41_0 := blk_frozen BK149.out 0; have hfz41_1 := blk_frozen BK149.out 1; have hfz41_2 := blk_frozen BK149.out 2; have hfz41_3 := blk_frozen BK149.out 3; have hfz41_4 := blk_frozen BK149.out 4)))
               go_roundg k3
               case measure => have := HJ4.out; have := HJ15.out; have := HK3.out; omega
               case rel => exact ⟨((rd_T46 l0 x41_3).f0), (t150), (wrap64 (x41_3 + 1)), (by first | rfl | (simp; done) | (simp [*]; done)), (by first | rfl | (simp; done) | (simp [*]; done)), H', ⟨by have := HJ4.out; have := HJ15.out; have := HK3.out; omega⟩, ⟨by (with_reducible repeat (first | apply Kd.R_alloc | apply Kd.R_drewN | apply Kd.R_drew)); exact Kd.R_mono HO152.out (fun _ hk => trivial)⟩, ⟨by (with_reducible repeat (first | refine blk_drewN ?_ _ | refine blk_drew ?_ | refine blk_alloc ?_ _)); exact BK145.out⟩, ⟨by repeat (first | (with_reducible first | exact HB.out | apply below_alloc | apply pw_below_drewN | apply below_drew1 | refine below_set ?_ GE145.out | refine below_set ?_ GE149.out) | exact HB.out)⟩⟩
              ·
               rw [if_neg c33] at H
               have c33b0 : decide ((t150.length : Int) < (x11_3.length : Int)) = false := decide_eq_false c33
               have c33b1 : decide (t150.length < x11_3.length) = false := decide_eq_false (fun h => c33 (Int.ofNat_lt.mpr h))
               clear c33
               have H' := Aside0.mk H
               clear H
               have p148 : 0 ≤ (x41_3 : Int) := of_decide_eq_true (by first | (with_reducible assumption) | assumption)
               have q148 : x41_3 < (l0.length : Int) := of_decide_eq_true (by first | (with_reducible assumption) | assumption)
               obtain ⟨ad148, e148, hx148_0, hx148_1, hx148_2, hx148_3, hx148_4⟩ := at_T46 HR0.out x41_3 p148 q148
               cases e148
               (try (replace hx148_0 := (HB.out.cell (World.block_lt_of_cell? w _ hx148_0)).trans hx148_0))
               (try (replace hx148_1 := (HB.out.cell (World.block_lt_of_cell? w _ hx148_1)).trans hx148_1))
               (try (replace hx148_2 := (HB.out.cell (World.block_lt_of_cell? w _ hx148_2)).trans hx148_2))
               (try (replace hx148_3 := (HB.out.cell (World.block_lt_of_cell? w _ hx148_3)).trans hx148_3))
               (try (replace hx148_4 := (HB.out.cell (World.block_lt_of_cell? w _ hx148_4)).trans hx148_4))
               replace p148 := eq_true p148
               replace q148 := eq_true q148
               go_wp2_with (first | ((with_reducible refine gate_dst (N := 13) rfl ?_); (try (refine gate_guard (by rfl) ?_; dsimp only)); refine box_event ?hg (N := 13) ?hd (cs := #[.int .i64 0, .int .i64 0, .int .i64 0, .int .i64 0, .int .i64 0]) (t := 46) ?hr ?_; (case hd => rfl); (case hg => rfl); (case hr => first | (go_simp; done) | (go_simp; rfl)); intro gb149 hg w42 hbox hb; have n0_ := Aside0.mk (Kd.R_below (by (with_reducible repeat (first | apply Kd.R_alloc | apply Kd.R_drewN | apply Kd.R_drew)); exact HO_11.out) hb); have n1_ := Aside0.mk (blk_below (g := gb145) (o := .cells #[.int .i64 a2_0, .int .i64 a2_1] 25 (0, 0)) (by (with_reducible repeat (first | refine blk_drewN ?_ _ | refine blk_drew ?_ | refine blk_alloc ?_ _)); exact BK145.out) hb); have n2_ := Aside0.mk (below_step (by repeat (first | (with_reducible first | exact HB.out | apply below_alloc | apply pw_below_drewN | apply below_drew1 | refine below_set ?_ GE145.out) | exact HB.out)) hb); have n3_ := Aside0.mk (hbox); have n4_ := Aside0.mk ((by rw [hg]; exact (below_size (by repeat (first | (with_reducible first | exact HB.out | apply below_alloc | apply pw_below_drewN | apply below_drew1 | refine below_set ?_ GE145.out) | exact HB.out))) : w.heap.size ≤ gb149)); have n5_ := Aside0.mk ((by rw [hg]; exact (below_size (by repeat (first | (with_reducible first | exact HB.out | apply below_alloc | apply pw_below_drewN | apply below_drew1 | refine below_set ?_ GE145.out) | exact HB.out))) : w.heap.size ≤ gb149)); have n6_ := Aside0.mk ((by rw [hg]; exact Nat.ne_of_lt (blk_lt (g := gb145) (o := .cells #[.int .i64 a2_0, .int .i64 a2_1] 25 (0, 0)) (by (with_reducible repeat (first | refine blk_drewN ?_ _ | refine blk_drew ?_ | refine blk_alloc ?_ _)); exact BK145.out)) : gb145 ≠ gb149)); have n7_ := Aside0.mk ((by rw [hg]; exact Nat.ne_of_gt (blk_lt (g := gb145) (o := .cells #[.int .i64 a2_0, .int .i64 a2_1] 25 (0, 0)) (by (with_reducible repeat (first | refine blk_drewN ?_ _ | refine blk_drew ?_ | refine blk_alloc ?_ _)); exact BK145.out)) : gb149 ≠ gb145)); clear HO_11; clear BK145; clear HB; have HO_11 := n0_; have BK145 := n1_; have HB := n2_; have BK149 := n3_; have GW149 := n4_; have GE149 := n5_; have NB145_149 := n6_; have NB149_145 := n7_; clear n0_ n1_ n2_ n3_ n4_ n5_ n6_ n7_; clear hb hbox hg; have hnb43 := NB149_145.out; have hnc43 := NB145_149.out; have hcz44_0 : w42.cell? ⟨gb149, 0, none⟩ = some (.int .i64 0) := (blk_cell BK149.out 0).trans rfl; have hcz44_1 : w42.cell? ⟨gb149, 1, none⟩ = some (.int .i64 0) := (blk_cell BK149.out 1).trans rfl; have hcz44_2 : w42.cell? ⟨gb149, 2, none⟩ = some (.int .i64 0) := (blk_cell BK149.out 2).trans rfl; have hcz44_3 : w42.cell? ⟨gb149, 3, none⟩ = some (.int .i64 0) := (blk_cell BK149.out 3).trans rfl; have hcz44_4 : w42.cell? ⟨gb149, 4, none⟩ = some (.int .i64 0) := (blk_cell BK149.out 4).trans rfl; have hfz44_0 := blk_frozen BK149.out 0; have hfz44_1 := blk_frozen BK149.out 1; have hfz44_2 := blk_frozen BK149.out 2; have hfz44_3 := blk_frozen BK149.out 3; have hfz44_4 := blk_frozen BK149.out 4) | (go_at_call 86; (with_reducible refine (furlongref07_free.calls k3 ((rd_T46 l0 x41_3).f0) ((rd_T46 l0 x41_3).f1) ((rd_T46 l0 x41_3).f2) ((rd_T46 l0 x41_3).f3) ((rd_T46 l0 x41_3).f4) _ _ l1 t150 t153 _ ?side1 ?side2 A22.out).mono ?_); (case side1 => exact Kd.C_below HR1.out (by repeat (first | (with_reducible first | exact HB.out | apply below_alloc | apply pw_below_drewN | apply below_drew1 | refine below_set ?_ GE145.out | refine below_set ?_ GE149.out) | exact HB.out))); (case side2 => exact HC1.out); rintro e w45 ⟨v151, rfl, ho0, hb⟩; have n0_ := Aside0.mk (Kd.R_elder' (by (with_reducible repeat (first | apply Kd.R_alloc | apply Kd.R_drewN | apply Kd.R_drew)); exact (Kd.R_mono (Kd.R_far (p := ⟨gb149, 4, none⟩) (Kd.R_far (p := ⟨gb149, 3, none⟩) (Kd.R_far (p := ⟨gb149, 2, none⟩) (Kd.R_far (p := ⟨gb149, 1, none⟩) (Kd.R_far (p := ⟨gb149, 0, none⟩) (Kd.R_types HO_11.out BK149.out (by decide)) (fun _ hk => hk.2) (.int .i64 ((rd_T46 l0 x41_3).f0))) (fun _ hk => hk.2) (.int .i64 ((rd_T46 l0 x41_3).f1))) (fun _ hk => hk.2) (.int .i64 ((rd_T46 l0 x41_3).f2))) (fun _ hk => hk.2) (.int .i64 ((rd_T46 l0 x41_3).f3))) (fun _ hk => hk.2) (.int .i64 ((rd_T46 l0 x41_3).f4))) (fun _ h_ => h_.1))) (Kd.R_base ho0) hb); have n1_ := Aside0.mk (Kd.R_lower (Kd.R_new' ho0 (Kd.R_lt (by (with_reducible repeat (first | apply Kd.R_alloc | apply Kd.R_drewN | apply Kd.R_drew)); exact (Kd.R_mono (Kd.R_far (p := ⟨gb149, 4, none⟩) (Kd.R_far (p := ⟨gb149, 3, none⟩) (Kd.R_far (p := ⟨gb149, 2, none⟩) (Kd.R_far (p := ⟨gb149, 1, none⟩) (Kd.R_far (p := ⟨gb149, 0, none⟩) (Kd.R_types HO_11.out BK149.out (by decide)) (fun _ hk => hk.2) (.int .i64 ((rd_T46 l0 x41_3).f0))) (fun _ hk => hk.2) (.int .i64 ((rd_T46 l0 x41_3).f1))) (fun _ hk => hk.2) (.int .i64 ((rd_T46 l0 x41_3).f2))) (fun _ hk => hk.2) (.int .i64 ((rd_T46 l0 x41_3).f3))) (fun _ hk => hk.2) (.int .i64 ((rd_T46 l0 x41_3).f4))) (fun _ h_ => h_.1))))) (below_size (by repeat (first | (with_reducible first | exact HB.out | apply below_alloc | apply pw_below_drewN | apply below_drew1 | refine below_set ?_ GE145.out | refine below_set ?_ GE149.out) | exact HB.out)))); have n2_ := Aside0.mk (blk_below (g := gb145) (o := .cells #[.int .i64 a2_0, .int .i64 a2_1] 25 (0, 0)) (by (with_reducible repeat (first | refine blk_drewN ?_ _ | refine blk_drew ?_ | refine blk_alloc ?_ _)); refine blk_far ?_ NB145_149.out _; (with_reducible repeat (first | refine blk_drewN ?_ _ | refine blk_drew ?_ | refine blk_alloc ?_ _)); refine blk_far ?_ NB145_149.out _; (with_reducible repeat (first | refine blk_drewN ?_ _ | refine blk_drew ?_ | refine blk_alloc ?_ _)); refine blk_far ?_ NB145_149.out _; (with_reducible repeat (first | refine blk_drewN ?_ _ | refine blk_drew ?_ | refine blk_alloc ?_ _)); refine blk_far ?_ NB145_149.out _; (with_reducible repeat (first | refine blk_drewN ?_ _ | refine blk_drew ?_ | refine blk_alloc ?_ _)); refine blk_far ?_ NB145_149.out _; (with_reducible repeat (first | refine blk_drewN ?_ _ | refine blk_drew ?_ | refine blk_alloc ?_ _)); exact BK145.out) hb); have n3_ := Aside0.mk (blk_below (g := gb149) (o := .cells #[.int .i64 ((rd_T46 l0 x41_3).f0), .int .i64 ((rd_T46 l0 x41_3).f1), .int .i64 ((rd_T46 l0 x41_3).f2), .int .i64 ((rd_T46 l0 x41_3).f3), .int .i64 ((rd_T46 l0 x41_3).f4)] 46 (0, 0)) (by (with_reducible repeat (first | refine blk_drewN ?_ _ | refine blk_drew ?_ | refine blk_alloc ?_ _)); refine blk_put (cs := #[.int .i64 ((rd_T46 l0 x41_3).f0), .int .i64 ((rd_T46 l0 x41_3).f1), .int .i64 ((rd_T46 l0 x41_3).f2), .int .i64 ((rd_T46 l0 x41_3).f3), .int .i64 0]) ?_ 4 _ rfl; (with_reducible repeat (first | refine blk_drewN ?_ _ | refine blk_drew ?_ | refine blk_alloc ?_ _)); refine blk_put (cs := #[.int .i64 ((rd_T46 l0 x41_3).f0), .int .i64 ((rd_T46 l0 x41_3).f1), .int .i64 ((rd_T46 l0 x41_3).f2), .int .i64 0, .int .i64 0]) ?_ 3 _ rfl; (with_reducible repeat (first | refine blk_drewN ?_ _ | refine blk_drew ?_ | refine blk_alloc ?_ _)); refine blk_put (cs := #[.int .i64 ((rd_T46 l0 x41_3).f0), .int .i64 ((rd_T46 l0 x41_3).f1), .int .i64 0, .int .i64 0, .int .i64 0]) ?_ 2 _ rfl; (with_reducible repeat (first | refine blk_drewN ?_ _ | refine blk_drew ?_ | refine blk_alloc ?_ _)); refine blk_put (cs := #[.int .i64 ((rd_T46 l0 x41_3).f0), .int .i64 0, .int .i64 0, .int .i64 0, .int .i64 0]) ?_ 1 _ rfl; (with_reducible repeat (first | refine blk_drewN ?_ _ | refine blk_drew ?_ | refine blk_alloc ?_ _)); refine blk_put (cs := #[.int .i64 0, .int .i64 0, .int .i64 0, .int .i64 0, .int .i64 0]) ?_ 0 _ rfl; (with_reducible repeat (first | refine blk_drewN ?_ _ | refine blk_drew ?_ | refine blk_alloc ?_ _)); exact BK149.out) hb); have n4_ := Aside0.mk (below_step (by repeat (first | (with_reducible first | exact HB.out | apply below_alloc | apply pw_below_drewN | apply below_drew1 | refine below_set ?_ GE145.out | refine below_set ?_ GE149.out) | exact HB.out)) hb); clear HO_11; clear BK145; clear BK149; clear HB; have HO_11 := n0_; have HO152 := n1_; have BK145 := n2_; have BK149 := n3_; have HB := n4_; clear n0_ n1_ n2_ n3_ n4_; (try clear hb); (try clear hb2); (try clear hk); (try clear hi); (try clear ho0); obtain ⟨Ao46, co46, eo46⟩ := Kd.R_slice HO152.out; subst eo46; have hcz47_0 : w45.cell? ⟨gb145, 0, none⟩ = some (.int .i64 a2_0) := (blk_cell BK145.out 0).trans rfl; have hcz47_1 : w45.cell? ⟨gb145, 1, none⟩ = some (.int .i64 a2_1) := (blk_cell BK145.out 1).trans rfl; have hfz47_0 := blk_frozen BK145.out 0; have hfz47_1 := blk_frozen BK145.out 1; obtain ⟨Ao48, co48, eo48⟩ := Kd.R_slice HO_11.out; subst eo48))
               repeat (go_quiet (first | (go_at_call 86; (with_reducible refine (furlongref07_free.calls k3 ((rd_T46 l0 x41_3).f0) ((rd_T46 l0 x41_3).f1) ((rd_T46 l0 x41_3).f2) ((rd_T46 l0 x41_3).f3) ((rd_T46 l0 x41_3).f4) _ _ l1 t150 t153 _ ?side1 ?side2 A22.out).mono ?_); (case side1 => exact Kd.C_below HR1.out (by repeat (first | (with_reducible first | exact HB.out | apply below_alloc | apply pw_below_drewN | apply below_drew1 | refine below_set ?_ GE145.out | refine below_set ?_ GE149.out) | exact HB.out))); (case side2 => exact HC1.out); rintro e w45 ⟨v151, rfl, ho0, hb⟩; have n0_ := Aside0.mk (Kd.R_elder' (by (with_reducible repeat (first | apply Kd.R_alloc | apply Kd.R_drewN | apply Kd.R_drew)); exact (Kd.R_mono (Kd.R_far (p := ⟨gb149, 4, none⟩) (Kd.R_far (p := ⟨gb149, 3, none⟩) (Kd.R_far (p := ⟨gb149, 2, none⟩) (Kd.R_far (p := ⟨gb149, 1, none⟩) (Kd.R_far (p := ⟨gb149, 0, none⟩) (Kd.R_types HO_11.out BK149.out (by decide)) (fun _ hk => hk.2) (.int .i64 ((rd_T46 l0 x41_3).f0))) (fun _ hk => hk.2) (.int .i64 ((rd_T46 l0 x41_3).f1))) (fun _ hk => hk.2) (.int .i64 ((rd_T46 l0 x41_3).f2))) (fun _ hk => hk.2) (.int .i64 ((rd_T46 l0 x41_3).f3))) (fun _ hk => hk.2) (.int .i64 ((rd_T46 l0 x41_3).f4))) (fun _ h_ => h_.1))) (Kd.R_base ho0) hb); have n1_ := Aside0.mk (Kd.R_lower (Kd.R_new' ho0 (Kd.R_lt (by (with_reducible repeat (first | apply Kd.R_alloc | apply Kd.R_drewN | apply Kd.R_drew)); exact (Kd.R_mono (Kd.R_far (p := ⟨gb149, 4, none⟩) (Kd.R_far (p := ⟨gb149, 3, none⟩) (Kd.R_far (p := ⟨gb149, 2, none⟩) (Kd.R_far (p := ⟨gb149, 1, none⟩) (Kd.R_far (p := ⟨gb149, 0, none⟩) (Kd.R_types HO_11.out BK149.out (by decide)) (fun _ hk => hk.2) (.int .i64 ((rd_T46 l0 x41_3).f0))) (fun _ hk => hk.2) (.int .i64 ((rd_T46 l0 x41_3).f1))) (fun _ hk => hk.2) (.int .i64 ((rd_T46 l0 x41_3).f2))) (fun _ hk => hk.2) (.int .i64 ((rd_T46 l0 x41_3).f3))) (fun _ hk => hk.2) (.int .i64 ((rd_T46 l0 x41_3).f4))) (fun _ h_ => h_.1))))) (below_size (by repeat (first | (with_reducible first | exact HB.out | apply below_alloc | apply pw_below_drewN | apply below_drew1 | refine below_set ?_ GE145.out | refine below_set ?_ GE149.out) | exact HB.out)))); have n2_ := Aside0.mk (blk_below (g := gb145) (o := .cells #[.int .i64 a2_0, .int .i64 a2_1] 25 (0, 0)) (by (with_reducible repeat (first | refine blk_drewN ?_ _ | refine blk_drew ?_ | refine blk_alloc ?_ _)); refine blk_far ?_ NB145_149.out _; (with_reducible repeat (first | refine blk_drewN ?_ _ | refine blk_drew ?_ | refine blk_alloc ?_ _)); refine blk_far ?_ NB145_149.out _; (with_reducible repeat (first | refine blk_drewN ?_ _ | refine blk_drew ?_ | refine blk_alloc ?_ _)); refine blk_far ?_ NB145_149.out _; (with_reducible repeat (first | refine blk_drewN ?_ _ | refine blk_drew ?_ | refine blk_alloc ?_ _)); refine blk_far ?_ NB145_149.out _; (with_reducible repeat (first | refine blk_drewN ?_ _ | refine blk_drew ?_ | refine blk_alloc ?_ _)); refine blk_far ?_ NB145_149.out _; (with_reducible repeat (first | refine blk_drewN ?_ _ | refine blk_drew ?_ | refine blk_alloc ?_ _)); exact BK145.out) hb); have n3_ := Aside0.mk (blk_below (g := gb149) (o := .cells #[.int .i64 ((rd_T46 l0 x41_3).f0), .int .i64 ((rd_T46 l0 x41_3).f1), .int .i64 ((rd_T46 l0 x41_3).f2), .int .i64 ((rd_T46 l0 x41_3).f3), .int .i64 ((rd_T46 l0 x41_3).f4)] 46 (0, 0)) (by (with_reducible repeat (first | refine blk_drewN ?_ _ | refine blk_drew ?_ | refine blk_alloc ?_ _)); refine blk_put (cs := #[.int .i64 ((rd_T46 l0 x41_3).f0), .int .i64 ((rd_T46 l0 x41_3).f1), .int .i64 ((rd_T46 l0 x41_3).f2), .int .i64 ((rd_T46 l0 x41_3).f3), .int .i64 0]) ?_ 4 _ rfl; (with_reducible repeat (first | refine blk_drewN ?_ _ | refine blk_drew ?_ | refine blk_alloc ?_ _)); refine blk_put (cs := #[.int .i64 ((rd_T46 l0 x41_3).f0), .int .i64 ((rd_T46 l0 x41_3).f1), .int .i64 ((rd_T46 l0 x41_3).f2), .int .i64 0, .int .i64 0]) ?_ 3 _ rfl; (with_reducible repeat (first | refine blk_drewN ?_ _ | refine blk_drew ?_ | refine blk_alloc ?_ _)); refine blk_put (cs := #[.int .i64 ((rd_T46 l0 x41_3).f0), .int .i64 ((rd_T46 l0 x41_3).f1), .int .i64 0, .int .i64 0, .int .i64 0]) ?_ 2 _ rfl; (with_reducible repeat (first | refine blk_drewN ?_ _ | refine blk_drew ?_ | refine blk_alloc ?_ _)); refine blk_put (cs := #[.int .i64 ((rd_T46 l0 x41_3).f0), .int .i64 0, .int .i64 0, .int .i64 0, .int .i64 0]) ?_ 1 _ rfl; (with_reducible repeat (first | refine blk_drewN ?_ _ | refine blk_drew ?_ | refine blk_alloc ?_ _)); refine blk_put (cs := #[.int .i64 0, .int .i64 0, .int .i64 0, .int .i64 0, .int .i64 0]) ?_ 0 _ rfl; (with_reducible repeat (first | refine blk_drewN ?_ _ | refine blk_drew ?_ | refine blk_alloc ?_ _)); exact BK149.out) hb); have n4_ := Aside0.mk (below_step (by repeat (first | (with_reducible first | exact HB.out | apply below_alloc | apply pw_below_drewN | apply below_drew1 | refine below_set ?_ GE145.out | refine below_set ?_ GE149.out) | exact HB.out)) hb); clear HO_11; clear BK145; clear BK149; clear HB; have HO_11 := n0_; have HO152 := n1_; have BK145 := n2_; have BK149 := n3_; have HB := n4_; clear n0_ n1_ n2_ n3_ n4_; (try clear hb); (try clear hb2); (try clear hk); (try clear hi); (try clear ho0); obtain ⟨Ao46, co46, eo46⟩ := Kd.R_slice HO152.out; subst eo46; have hcz47_0 : w45.cell? ⟨gb145, 0, none⟩ = some (.int .i64 a2_0) := (blk_cell BK145.out 0).trans rfl; have hcz47_1 : w45.cell? ⟨gb145, 1, none⟩ = some (.int .i64 a2_1) := (blk_cell BK145.out 1).trans rfl; have hfz47_0 := blk_frozen BK145.out 0; have hfz47_1 := blk_frozen BK145.out 1; obtain ⟨Ao48, co48, eo48⟩ := Kd.R_slice HO_11.out; subst eo48)); try go_wp2_with (first | (go_at_call 86; (with_reducible refine (furlongref07_free.calls k3 ((rd_T46 l0 x41_3).f0) ((rd_T46 l0 x41_3).f1) ((rd_T46 l0 x41_3).f2) ((rd_T46 l0 x41_3).f3) ((rd_T46 l0 x41_3).f4) _ _ l1 t150 t153 _ ?side1 ?side2 A22.out).mono ?_); (case side1 => exact Kd.C_below HR1.out (by repeat (first | (with_reducible first | exact HB.out | apply below_alloc | apply pw_below_drewN | apply below_drew1 | refine below_set ?_ GE145.out | refine below_set ?_ GE149.out) | exact HB.out))); (case side2 => exact HC1.out); rintro e w45 ⟨v151, rfl, ho0, hb⟩; have n0_ := Aside0.mk (Kd.R_elder' (by (with_reducible repeat (first | apply Kd.R_alloc | apply Kd.R_drewN | apply Kd.R_drew)); exact (Kd.R_mono (Kd.R_far (p := ⟨gb149, 4, none⟩) (Kd.R_far (p := ⟨gb149, 3, none⟩) (Kd.R_far (p := ⟨gb149, 2, none⟩) (Kd.R_far (p := ⟨gb149, 1, none⟩) (Kd.R_far (p := ⟨gb149, 0, none⟩) (Kd.R_types HO_11.out BK149.out (by decide)) (fun _ hk => hk.2) (.int .i64 ((rd_T46 l0 x41_3).f0))) (fun _ hk => hk.2) (.int .i64 ((rd_T46 l0 x41_3).f1))) (fun _ hk => hk.2) (.int .i64 ((rd_T46 l0 x41_3).f2))) (fun _ hk => hk.2) (.int .i64 ((rd_T46 l0 x41_3).f3))) (fun _ hk => hk.2) (.int .i64 ((rd_T46 l0 x41_3).f4))) (fun _ h_ => h_.1))) (Kd.R_base ho0) hb); have n1_ := Aside0.mk (Kd.R_lower (Kd.R_new' ho0 (Kd.R_lt (by (with_reducible repeat (first | apply Kd.R_alloc | apply Kd.R_drewN | apply Kd.R_drew)); exact (Kd.R_mono (Kd.R_far (p := ⟨gb149, 4, none⟩) (Kd.R_far (p := ⟨gb149, 3, none⟩) (Kd.R_far (p := ⟨gb149, 2, none⟩) (Kd.R_far (p := ⟨gb149, 1, none⟩) (Kd.R_far (p := ⟨gb149, 0, none⟩) (Kd.R_types HO_11.out BK149.out (by decide)) (fun _ hk => hk.2) (.int .i64 ((rd_T46 l0 x41_3).f0))) (fun _ hk => hk.2) (.int .i64 ((rd_T46 l0 x41_3).f1))) (fun _ hk => hk.2) (.int .i64 ((rd_T46 l0 x41_3).f2))) (fun _ hk => hk.2) (.int .i64 ((rd_T46 l0 x41_3).f3))) (fun _ hk => hk.2) (.int .i64 ((rd_T46 l0 x41_3).f4))) (fun _ h_ => h_.1))))) (below_size (by repeat (first | (with_reducible first | exact HB.out | apply below_alloc | apply pw_below_drewN | apply below_drew1 | refine below_set ?_ GE145.out | refine below_set ?_ GE149.out) | exact HB.out)))); have n2_ := Aside0.mk (blk_below (g := gb145) (o := .cells #[.int .i64 a2_0, .int .i64 a2_1] 25 (0, 0)) (by (with_reducible repeat (first | refine blk_drewN ?_ _ | refine blk_drew ?_ | refine blk_alloc ?_ _)); refine blk_far ?_ NB145_149.out _; (with_reducible repeat (first | refine blk_drewN ?_ _ | refine blk_drew ?_ | refine blk_alloc ?_ _)); refine blk_far ?_ NB145_149.out _; (with_reducible repeat (first | refine blk_drewN ?_ _ | refine blk_drew ?_ | refine blk_alloc ?_ _)); refine blk_far ?_ NB145_149.out _; (with_reducible repeat (first | refine blk_drewN ?_ _ | refine blk_drew ?_ | refine blk_alloc ?_ _)); refine blk_far ?_ NB145_149.out _; (with_reducible repeat (first | refine blk_drewN ?_ _ | refine blk_drew ?_ | refine blk_alloc ?_ _)); refine blk_far ?_ NB145_149.out _; (with_reducible repeat (first | refine blk_drewN ?_ _ | refine blk_drew ?_ | refine blk_alloc ?_ _)); exact BK145.out) hb); have n3_ := Aside0.mk (blk_below (g := gb149) (o := .cells #[.int .i64 ((rd_T46 l0 x41_3).f0), .int .i64 ((rd_T46 l0 x41_3).f1), .int .i64 ((rd_T46 l0 x41_3).f2), .int .i64 ((rd_T46 l0 x41_3).f3), .int .i64 ((rd_T46 l0 x41_3).f4)] 46 (0, 0)) (by (with_reducible repeat (first | refine blk_drewN ?_ _ | refine blk_drew ?_ | refine blk_alloc ?_ _)); refine blk_put (cs := #[.int .i64 ((rd_T46 l0 x41_3).f0), .int .i64 ((rd_T46 l0 x41_3).f1), .int .i64 ((rd_T46 l0 x41_3).f2), .int .i64 ((rd_T46 l0 x41_3).f3), .int .i64 0]) ?_ 4 _ rfl; (with_reducible repeat (first | refine blk_drewN ?_ _ | refine blk_drew ?_ | refine blk_alloc ?_ _)); refine blk_put (cs := #[.int .i64 ((rd_T46 l0 x41_3).f0), .int .i64 ((rd_T46 l0 x41_3).f1), .int .i64 ((rd_T46 l0 x41_3).f2), .int .i64 0, .int .i64 0]) ?_ 3 _ rfl; (with_reducible repeat (first | refine blk_drewN ?_ _ | refine blk_drew ?_ | refine blk_alloc ?_ _)); refine blk_put (cs := #[.int .i64 ((rd_T46 l0 x41_3).f0), .int .i64 ((rd_T46 l0 x41_3).f1), .int .i64 0, .int .i64 0, .int .i64 0]) ?_ 2 _ rfl; (with_reducible repeat (first | refine blk_drewN ?_ _ | refine blk_drew ?_ | refine blk_alloc ?_ _)); refine blk_put (cs := #[.int .i64 ((rd_T46 l0 x41_3).f0), .int .i64 0, .int .i64 0, .int .i64 0, .int .i64 0]) ?_ 1 _ rfl; (with_reducible repeat (first | refine blk_drewN ?_ _ | refine blk_drew ?_ | refine blk_alloc ?_ _)); refine blk_put (cs := #[.int .i64 0, .int .i64 0, .int .i64 0, .int .i64 0, .int .i64 0]) ?_ 0 _ rfl; (with_reducible repeat (first | refine blk_drewN ?_ _ | refine blk_drew ?_ | refine blk_alloc ?_ _)); exact BK149.out) hb); have n4_ := Aside0.mk (below_step (by repeat (first | (with_reducible first | exact HB.out | apply below_alloc | apply pw_below_drewN | apply below_drew1 | refine below_set ?_ GE145.out | refine below_set ?_ GE149.out) | exact HB.out)) hb); clear HO_11; clear BK145; clear BK149; clear HB; have HO_11 := n0_; have HO152 := n1_; have BK145 := n2_; have BK149 := n3_; have HB := n4_; clear n0_ n1_ n2_ n3_ n4_; (try clear hb); (try clear hb2); (try clear hk); (try clear hi); (try clear ho0); obtain ⟨Ao46, co46, eo46⟩ := Kd.R_slice HO152.out; subst eo46; have hcz47_0 : w45.cell? ⟨gb145, 0, none⟩ = some (.int .i64 a2_0) := (blk_cell BK145.out 0).trans rfl; have hcz47_1 : w45.cell? ⟨gb145, 1, none⟩ = some (.int .i64 a2_1) := (blk_cell BK145.out 1).trans rfl; have hfz47_0 := blk_frozen BK145.out 0; have hfz47_1 := blk_frozen BK145.out 1; obtain ⟨Ao48, co48, eo48⟩ := Kd.R_slice HO_11.out; subst eo48)))
               go_roundg k3
               case measure => have := HJ4.out; have := HJ15.out; have := HK3.out; omega
               case rel => exact ⟨(x10_3), (x11_3), (wrap64 (x41_3 + 1)), (by first | rfl | (simp; done) | (simp [*]; done)), (by first | rfl | (simp; done) | (simp [*]; done)), H', ⟨by have := HJ4.out; have := HJ15.out; have := HK3.out; omega⟩, ⟨by (with_reducible repeat (first | apply Kd.R_alloc | apply Kd.R_drewN | apply Kd.R_drew)); exact Kd.R_mono HO_11.out (fun _ hk => trivial)⟩, ⟨by (with_reducible repeat (first | refine blk_drewN ?_ _ | refine blk_drew ?_ | refine blk_alloc ?_ _)); exact BK145.out⟩, ⟨by repeat (first | (with_reducible first | exact HB.out | apply below_alloc | apply pw_below_drewN | apply below_drew1 | refine below_set ?_ GE145.out | refine below_set ?_ GE149.out) | exact HB.out)⟩⟩
            ·
             rw [if_neg c24] at H
             have c24b0 : decide (a2_1 ≤ t153) = false := decide_eq_false c24
             clear c24
             have H' := Aside0.mk H
             clear H
             have p148 : 0 ≤ (x41_3 : Int) := of_decide_eq_true (by first | (with_reducible assumption) | assumption)
             have q148 : x41_3 < (l0.length : Int) := of_decide_eq_true (by first | (with_reducible assumption) | assumption)
             obtain ⟨ad148, e148, hx148_0, hx148_1, hx148_2, hx148_3, hx148_4⟩ := at_T46 HR0.out x41_3 p148 q148
             cases e148
             (try (replace hx148_0 := (HB.out.cell (World.block_lt_of_cell? w _ hx148_0)).trans hx148_0))
             (try (replace hx148_1 := (HB.out.cell (World.block_lt_of_cell? w _ hx148_1)).trans hx148_1))
             (try (replace hx148_2 := (HB.out.cell (World.block_lt_of_cell? w _ hx148_2)).trans hx148_2))
             (try (replace hx148_3 := (HB.out.cell (World.block_lt_of_cell? w _ hx148_3)).trans hx148_3))
             (try (replace hx148_4 := (HB.out.cell (World.block_lt_of_cell? w _ hx148_4)).trans hx148_4))
             replace p148 := eq_true p148
             replace q148 := eq_true q148
             go_wp2_with (first | ((with_reducible refine gate_dst (N := 13) rfl ?_); (try (refine gate_guard (by rfl) ?_; dsimp only)); refine box_event ?hg (N := 13) ?hd (cs := #[.int .i64 0, .int .i64 0, .int .i64 0, .int .i64 0, .int .i64 0]) (t := 46) ?hr ?_; (case hd => rfl); (case hg => rfl); (case hr => first | (go_simp; done) | (go_simp; rfl)); intro gb149 hg w49 hbox hb; have n0_ := Aside0.mk (Kd.R_below (by (with_reducible repeat (first | apply Kd.R_alloc | apply Kd.R_drewN | apply Kd.R_drew)); exact HO_11.out) hb); have n1_ := Aside0.mk (blk_below (g := gb145) (o := .cells #[.int .i64 a2_0, .int .i64 a2_1] 25 (0, 0)) (by (with_reducible repeat (first | refine blk_drewN ?_ _ | refine blk_drew ?_ | refine blk_alloc ?_ _)); exact BK145.out) hb); have n2_ := Aside0.mk (below_step (by repeat (first | (with_reducible first | exact HB.out | apply below_alloc | apply pw_below_drewN | apply below_drew1 | refine below_set ?_ GE145.out) | exact HB.out)) hb); have n3_ := Aside0.mk (hbox); have n4_ := Aside0.mk ((by rw [hg]; exact (below_size (by repeat (first | (with_reducible first | exact HB.out | apply below_alloc | apply pw_below_drewN | apply below_drew1 | refine below_set ?_ GE145.out) | exact HB.out))) : w.heap.size ≤ gb149)); have n5_ := Aside0.mk ((by rw [hg]; exact (below_size (by repeat (first | (with_reducible first | exact HB.out | apply below_alloc | apply pw_below_drewN | apply below_drew1 | refine below_set ?_ GE145.out) | exact HB.out))) : w.heap.size ≤ gb149)); have n6_ := Aside0.mk ((by rw [hg]; exact Nat.ne_of_lt (blk_lt (g := gb145) (o := .cells #[.int .i64 a2_0, .int .i64 a2_1] 25 (0, 0)) (by (with_reducible repeat (first | refine blk_drewN ?_ _ | refine blk_drew ?_ | refine blk_alloc ?_ _)); exact BK145.out)) : gb145 ≠ gb149)); have n7_ := Aside0.mk ((by rw [hg]; exact Nat.ne_of_gt (blk_lt (g := gb145) (o := .cells #[.int .i64 a2_0, .int .i64 a2_1] 25 (0, 0)) (by (with_reducible repeat (first | refine blk_drewN ?_ _ | refine blk_drew ?_ | refine blk_alloc ?_ _)); exact BK145.out)) : gb149 ≠ gb145)); clear HO_11; clear BK145; clear HB; have HO_11 := n0_; have BK145 := n1_; have HB := n2_; have BK149 := n3_; have GW149 := n4_; have GE149 := n5_; have NB145_149 := n6_; have NB149_145 := n7_; clear n0_ n1_ n2_ n3_ n4_ n5_ n6_ n7_; clear hb hbox hg; have hnb50 := NB149_145.out; have hnc50 := NB145_149.out; have hcz51_0 : w49.cell? ⟨gb149, 0, none⟩ = some (.int .i64 0) := (blk_cell BK149.out 0).trans rfl; have hcz51_1 : w49.cell? ⟨gb149, 1, none⟩ = some (.int .i64 0) := (blk_cell BK149.out 1).trans rfl; have hcz51_2 : w49.cell? ⟨gb149, 2, none⟩ = some (.int .i64 0) := (blk_cell BK149.out 2).trans rfl; have hcz51_3 : w49.cell? ⟨gb149, 3, none⟩ = some (.int .i64 0) := (blk_cell BK149.out 3).trans rfl; have hcz51_4 : w49.cell? ⟨gb149, 4, none⟩ = some (.int .i64 0) := (blk_cell BK149.out 4).trans rfl; have hfz51_0 := blk_frozen BK149.out 0; have hfz51_1 := blk_frozen BK149.out 1; have hfz51_2 := blk_frozen BK149.out 2; have hfz51_3 := blk_frozen BK149.out 3; have hfz51_4 := blk_frozen BK149.out 4) | (go_at_call 86; (with_reducible refine (furlongref07_free.calls k3 ((rd_T46 l0 x41_3).f0) ((rd_T46 l0 x41_3).f1) ((rd_T46 l0 x41_3).f2) ((rd_T46 l0 x41_3).f3) ((rd_T46 l0 x41_3).f4) _ _ l1 t150 t153 _ ?side1 ?side2 A22.out).mono ?_); (case side1 => exact Kd.C_below HR1.out (by repeat (first | (with_reducible first | exact HB.out | apply below_alloc | apply pw_below_drewN | apply below_drew1 | refine below_set ?_ GE145.out | refine below_set ?_ GE149.out) | exact HB.out))); (case side2 => exact HC1.out); rintro e w52 ⟨v151, rfl, ho0, hb⟩; have n0_ := Aside0.mk (Kd.R_elder' (by (with_reducible repeat (first | apply Kd.R_alloc | apply Kd.R_drewN | apply Kd.R_drew)); exact (Kd.R_mono (Kd.R_far (p := ⟨gb149, 4, none⟩) (Kd.R_far (p := ⟨gb149, 3, none⟩) (Kd.R_far (p := ⟨gb149, 2, none⟩) (Kd.R_far (p := ⟨gb149, 1, none⟩) (Kd.R_far (p := ⟨gb149, 0, none⟩) (Kd.R_types HO_11.out BK149.out (by decide)) (fun _ hk => hk.2) (.int .i64 ((rd_T46 l0 x41_3).f0))) (fun _ hk => hk.2) (.int .i64 ((rd_T46 l0 x41_3).f1))) (fun _ hk => hk.2) (.int .i64 ((rd_T46 l0 x41_3).f2))) (fun _ hk => hk.2) (.int .i64 ((rd_T46 l0 x41_3).f3))) (fun _ hk => hk.2) (.int .i64 ((rd_T46 l0 x41_3).f4))) (fun _ h_ => h_.1))) (Kd.R_base ho0) hb); have n1_ := Aside0.mk (Kd.R_lower (Kd.R_new' ho0 (Kd.R_lt (by (with_reducible repeat (first | apply Kd.R_alloc | apply Kd.R_drewN | apply Kd.R_drew)); exact (Kd.R_mono (Kd.R_far (p := ⟨gb149, 4, none⟩) (Kd.R_far (p := ⟨gb149, 3, none⟩) (Kd.R_far (p := ⟨gb149, 2, none⟩) (Kd.R_far (p := ⟨gb149, 1, none⟩) (Kd.R_far (p := ⟨gb149, 0, none⟩) (Kd.R_types HO_11.out BK149.out (by decide)) (fun _ hk => hk.2) (.int .i64 ((rd_T46 l0 x41_3).f0))) (fun _ hk => hk.2) (.int .i64 ((rd_T46 l0 x41_3).f1))) (fun _ hk => hk.2) (.int .i64 ((rd_T46 l0 x41_3).f2))) (fun _ hk => hk.2) (.int .i64 ((rd_T46 l0 x41_3).f3))) (fun _ hk => hk.2) (.int .i64 ((rd_T46 l0 x41_3).f4))) (fun _ h_ => h_.1))))) (below_size (by repeat (first | (with_reducible first | exact HB.out | apply below_alloc | apply pw_below_drewN | apply below_drew1 | refine below_set ?_ GE145.out | refine below_set ?_ GE149.out) | exact HB.out)))); have n2_ := Aside0.mk (blk_below (g := gb145) (o := .cells #[.int .i64 a2_0, .int .i64 a2_1] 25 (0, 0)) (by (with_reducible repeat (first | refine blk_drewN ?_ _ | refine blk_drew ?_ | refine blk_alloc ?_ _)); refine blk_far ?_ NB145_149.out _; (with_reducible repeat (first | refine blk_drewN ?_ _ | refine blk_drew ?_ | refine blk_alloc ?_ _)); refine blk_far ?_ NB145_149.out _; (with_reducible repeat (first | refine blk_drewN ?_ _ | refine blk_drew ?_ | refine blk_alloc ?_ _)); refine blk_far ?_ NB145_149.out _; (with_reducible repeat (first | refine blk_drewN ?_ _ | refine blk_drew ?_ | refine blk_alloc ?_ _)); refine blk_far ?_ NB145_149.out _; (with_reducible repeat (first | refine blk_drewN ?_ _ | refine blk_drew ?_ | refine blk_alloc ?_ _)); refine blk_far ?_ NB145_149.out _; (with_reducible repeat (first | refine blk_drewN ?_ _ | refine blk_drew ?_ | refine blk_alloc ?_ _)); exact BK145.out) hb); have n3_ := Aside0.mk (blk_below (g := gb149) (o := .cells #[.int .i64 ((rd_T46 l0 x41_3).f0), .int .i64 ((rd_T46 l0 x41_3).f1), .int .i64 ((rd_T46 l0 x41_3).f2), .int .i64 ((rd_T46 l0 x41_3).f3), .int .i64 ((rd_T46 l0 x41_3).f4)] 46 (0, 0)) (by (with_reducible repeat (first | refine blk_drewN ?_ _ | refine blk_drew ?_ | refine blk_alloc ?_ _)); refine blk_put (cs := #[.int .i64 ((rd_T46 l0 x41_3).f0), .int .i64 ((rd_T46 l0 x41_3).f1), .int .i64 ((rd_T46 l0 x41_3).f2), .int .i64 ((rd_T46 l0 x41_3).f3), .int .i64 0]) ?_ 4 _ rfl; (with_reducible repeat (first | refine blk_drewN ?_ _ | refine blk_drew ?_ | refine blk_alloc ?_ _)); refine blk_put (cs := #[.int .i64 ((rd_T46 l0 x41_3).f0), .int .i64 ((rd_T46 l0 x41_3).f1), .int .i64 ((rd_T46 l0 x41_3).f2), .int .i64 0, .int .i64 0]) ?_ 3 _ rfl; (with_reducible repeat (first | refine blk_drewN ?_ _ | refine blk_drew ?_ | refine blk_alloc ?_ _)); refine blk_put (cs := #[.int .i64 ((rd_T46 l0 x41_3).f0), .int .i64 ((rd_T46 l0 x41_3).f1), .int .i64 0, .int .i64 0, .int .i64 0]) ?_ 2 _ rfl; (with_reducible repeat (first | refine blk_drewN ?_ _ | refine blk_drew ?_ | refine blk_alloc ?_ _)); refine blk_put (cs := #[.int .i64 ((rd_T46 l0 x41_3).f0), .int .i64 0, .int .i64 0, .int .i64 0, .int .i64 0]) ?_ 1 _ rfl; (with_reducible repeat (first | refine blk_drewN ?_ _ | refine blk_drew ?_ | refine blk_alloc ?_ _)); refine blk_put (cs := #[.int .i64 0, .int .i64 0, .int .i64 0, .int .i64 0, .int .i64 0]) ?_ 0 _ rfl; (with_reducible repeat (first | refine blk_drewN ?_ _ | refine blk_drew ?_ | refine blk_alloc ?_ _)); exact BK149.out) hb); have n4_ := Aside0.mk (below_step (by repeat (first | (with_reducible first | exact HB.out | apply below_alloc | apply pw_below_drewN | apply below_drew1 | refine below_set ?_ GE145.out | refine below_set ?_ GE149.out) | exact HB.out)) hb); clear HO_11; clear BK145; clear BK149; clear HB; have HO_11 := n0_; have HO152 := n1_; have BK145 := n2_; have BK149 := n3_; have HB := n4_; clear n0_ n1_ n2_ n3_ n4_; (try clear hb); (try clear hb2); (try clear hk); (try clear hi); (try clear ho0); obtain ⟨Ao53, co53, eo53⟩ := Kd.R_slice HO152.out; subst eo53; have hcz54_0 : w52.cell? ⟨gb145, 0, none⟩ = some (.int .i64 a2_0) := (blk_cell BK145.out 0).trans rfl; have hcz54_1 : w52.cell? ⟨gb145, 1, none⟩ = some (.int .i64 a2_1) := (blk_cell BK145.out 1).trans rfl; have hfz54_0 := blk_frozen BK145.out 0; have hfz54_1 := blk_frozen BK145.out 1))
             repeat (go_quiet (first | (go_at_call 86; (with_reducible refine (furlongref07_free.calls k3 ((rd_T46 l0 x41_3).f0) ((rd_T46 l0 x41_3).f1) ((rd_T46 l0 x41_3).f2) ((rd_T46 l0 x41_3).f3) ((rd_T46 l0 x41_3).f4) _ _ l1 t150 t153 _ ?side1 ?side2 A22.out).mono ?_); (case side1 => exact Kd.C_below HR1.out (by repeat (first | (with_reducible first | exact HB.out | apply below_alloc | apply pw_below_drewN | apply below_drew1 | refine below_set ?_ GE145.out | refine below_set ?_ GE149.out) | exact HB.out))); (case side2 => exact HC1.out); rintro e w52 ⟨v151, rfl, ho0, hb⟩; have n0_ := Aside0.mk (Kd.R_elder' (by (with_reducible repeat (first | apply Kd.R_alloc | apply Kd.R_drewN | apply Kd.R_drew)); exact (Kd.R_mono (Kd.R_far (p := ⟨gb149, 4, none⟩) (Kd.R_far (p := ⟨gb149, 3, none⟩) (Kd.R_far (p := ⟨gb149, 2, none⟩) (Kd.R_far (p := ⟨gb149, 1, none⟩) (Kd.R_far (p := ⟨gb149, 0, none⟩) (Kd.R_types HO_11.out BK149.out (by decide)) (fun _ hk => hk.2) (.int .i64 ((rd_T46 l0 x41_3).f0))) (fun _ hk => hk.2) (.int .i64 ((rd_T46 l0 x41_3).f1))) (fun _ hk => hk.2) (.int .i64 ((rd_T46 l0 x41_3).f2))) (fun _ hk => hk.2) (.int .i64 ((rd_T46 l0 x41_3).f3))) (fun _ hk => hk.2) (.int .i64 ((rd_T46 l0 x41_3).f4))) (fun _ h_ => h_.1))) (Kd.R_base ho0) hb); have n1_ := Aside0.mk (Kd.R_lower (Kd.R_new' ho0 (Kd.R_lt (by (with_reducible repeat (first | apply Kd.R_alloc | apply Kd.R_drewN | apply Kd.R_drew)); exact (Kd.R_mono (Kd.R_far (p := ⟨gb149, 4, none⟩) (Kd.R_far (p := ⟨gb149, 3, none⟩) (Kd.R_far (p := ⟨gb149, 2, none⟩) (Kd.R_far (p := ⟨gb149, 1, none⟩) (Kd.R_far (p := ⟨gb149, 0, none⟩) (Kd.R_types HO_11.out BK149.out (by decide)) (fun _ hk => hk.2) (.int .i64 ((rd_T46 l0 x41_3).f0))) (fun _ hk => hk.2) (.int .i64 ((rd_T46 l0 x41_3).f1))) (fun _ hk => hk.2) (.int .i64 ((rd_T46 l0 x41_3).f2))) (fun _ hk => hk.2) (.int .i64 ((rd_T46 l0 x41_3).f3))) (fun _ hk => hk.2) (.int .i64 ((rd_T46 l0 x41_3).f4))) (fun _ h_ => h_.1))))) (below_size (by repeat (first | (with_reducible first | exact HB.out | apply below_alloc | apply pw_below_drewN | apply below_drew1 | refine below_set ?_ GE145.out | refine below_set ?_ GE149.out) | exact HB.out)))); have n2_ := Aside0.mk (blk_below (g := gb145) (o := .cells #[.int .i64 a2_0, .int .i64 a2_1] 25 (0, 0)) (by (with_reducible repeat (first | refine blk_drewN ?_ _ | refine blk_drew ?_ | refine blk_alloc ?_ _)); refine blk_far ?_ NB145_149.out _; (with_reducible repeat (first | refine blk_drewN ?_ _ | refine blk_drew ?_ | refine blk_alloc ?_ _)); refine blk_far ?_ NB145_149.out _; (with_reducible repeat (first | refine blk_drewN ?_ _ | refine blk_drew ?_ | refine blk_alloc ?_ _)); refine blk_far ?_ NB145_149.out _; (with_reducible repeat (first | refine blk_drewN ?_ _ | refine blk_drew ?_ | refine blk_alloc ?_ _)); refine blk_far ?_ NB145_149.out _; (with_reducible repeat (first | refine blk_drewN ?_ _ | refine blk_drew ?_ | refine blk_alloc ?_ _)); refine blk_far ?_ NB145_149.out _; (with_reducible repeat (first | refine blk_drewN ?_ _ | refine blk_drew ?_ | refine blk_alloc ?_ _)); exact BK145.out) hb); have n3_ := Aside0.mk (blk_below (g := gb149) (o := .cells #[.int .i64 ((rd_T46 l0 x41_3).f0), .int .i64 ((rd_T46 l0 x41_3).f1), .int .i64 ((rd_T46 l0 x41_3).f2), .int .i64 ((rd_T46 l0 x41_3).f3), .int .i64 ((rd_T46 l0 x41_3).f4)] 46 (0, 0)) (by (with_reducible repeat (first | refine blk_drewN ?_ _ | refine blk_drew ?_ | refine blk_alloc ?_ _)); refine blk_put (cs := #[.int .i64 ((rd_T46 l0 x41_3).f0), .int .i64 ((rd_T46 l0 x41_3).f1), .int .i64 ((rd_T46 l0 x41_3).f2), .int .i64 ((rd_T46 l0 x41_3).f3), .int .i64 0]) ?_ 4 _ rfl; (with_reducible repeat (first | refine blk_drewN ?_ _ | refine blk_drew ?_ | refine blk_alloc ?_ _)); refine blk_put (cs := #[.int .i64 ((rd_T46 l0 x41_3).f0), .int .i64 ((rd_T46 l0 x41_3).f1), .int .i64 ((rd_T46 l0 x41_3).f2), .int .i64 0, .int .i64 0]) ?_ 3 _ rfl; (with_reducible repeat (first | refine blk_drewN ?_ _ | refine blk_drew ?_ | refine blk_alloc ?_ _)); refine blk_put (cs := #[.int .i64 ((rd_T46 l0 x41_3).f0), .int .i64 ((rd_T46 l0 x41_3).f1), .int .i64 0, .int .i64 0, .int .i64 0]) ?_ 2 _ rfl; (with_reducible repeat (first | refine blk_drewN ?_ _ | refine blk_drew ?_ | refine blk_alloc ?_ _)); refine blk_put (cs := #[.int .i64 ((rd_T46 l0 x41_3).f0), .int .i64 0, .int .i64 0, .int .i64 0, .int .i64 0]) ?_ 1 _ rfl; (with_reducible repeat (first | refine blk_drewN ?_ _ | refine blk_drew ?_ | refine blk_alloc ?_ _)); refine blk_put (cs := #[.int .i64 0, .int .i64 0, .int .i64 0, .int .i64 0, .int .i64 0]) ?_ 0 _ rfl; (with_reducible repeat (first | refine blk_drewN ?_ _ | refine blk_drew ?_ | refine blk_alloc ?_ _)); exact BK149.out) hb); have n4_ := Aside0.mk (below_step (by repeat (first | (with_reducible first | exact HB.out | apply below_alloc | apply pw_below_drewN | apply below_drew1 | refine below_set ?_ GE145.out | refine below_set ?_ GE149.out) | exact HB.out)) hb); clear HO_11; clear BK145; clear BK149; clear HB; have HO_11 := n0_; have HO152 := n1_; have BK145 := n2_; have BK149 := n3_; have HB := n4_; clear n0_ n1_ n2_ n3_ n4_; (try clear hb); (try clear hb2); (try clear hk); (try clear hi); (try clear ho0); obtain ⟨Ao53, co53, eo53⟩ := Kd.R_slice HO152.out; subst eo53; have hcz54_0 : w52.cell? ⟨gb145, 0, none⟩ = some (.int .i64 a2_0) := (blk_cell BK145.out 0).trans rfl; have hcz54_1 : w52.cell? ⟨gb145, 1, none⟩ = some (.int .i64 a2_1) := (blk_cell BK145.out 1).trans rfl; have hfz54_0 := blk_frozen BK145.out 0; have hfz54_1 := blk_frozen BK145.out 1)); try go_wp2_with (first | (go_at_call 86; (with_reducible refine (furlongref07_free.calls k3 ((rd_T46 l0 x41_3).f0) ((rd_T46 l0 x41_3).f1) ((rd_T46 l0 x41_3).f2) ((rd_T46 l0 x41_3).f3) ((rd_T46 l0 x41_3).f4) _ _ l1 t150 t153 _ ?side1 ?side2 A22.out).mono ?_); (case side1 => exact Kd.C_below HR1.out (by repeat (first | (with_reducible first | exact HB.out | apply below_alloc | apply pw_below_drewN | apply below_drew1 | refine below_set ?_ GE145.out | refine below_set ?_ GE149.out) | exact HB.out))); (case side2 => exact HC1.out); rintro e w52 ⟨v151, rfl, ho0, hb⟩; have n0_ := Aside0.mk (Kd.R_elder' (by (with_reducible repeat (first | apply Kd.R_alloc | apply Kd.R_drewN | apply Kd.R_drew)); exact (Kd.R_mono (Kd.R_far (p := ⟨gb149, 4, none⟩) (Kd.R_far (p := ⟨gb149, 3, none⟩) (Kd.R_far (p := ⟨gb149, 2, none⟩) (Kd.R_far (p := ⟨gb149, 1, none⟩) (Kd.R_far (p := ⟨gb149, 0, none⟩) (Kd.R_types HO_11.out BK149.out (by decide)) (fun _ hk => hk.2) (.int .i64 ((rd_T46 l0 x41_3).f0))) (fun _ hk => hk.2) (.int .i64 ((rd_T46 l0 x41_3).f1))) (fun _ hk => hk.2) (.int .i64 ((rd_T46 l0 x41_3).f2))) (fun _ hk => hk.2) (.int .i64 ((rd_T46 l0 x41_3).f3))) (fun _ hk => hk.2) (.int .i64 ((rd_T46 l0 x41_3).f4))) (fun _ h_ => h_.1))) (Kd.R_base ho0) hb); have n1_ := Aside0.mk (Kd.R_lower (Kd.R_new' ho0 (Kd.R_lt (by (with_reducible repeat (first | apply Kd.R_alloc | apply Kd.R_drewN | apply Kd.R_drew)); exact (Kd.R_mono (Kd.R_far (p := ⟨gb149, 4, none⟩) (Kd.R_far (p := ⟨gb149, 3, none⟩) (Kd.R_far (p := ⟨gb149, 2, none⟩) (Kd.R_far (p := ⟨gb149, 1, none⟩) (Kd.R_far (p := ⟨gb149, 0, none⟩) (Kd.R_types HO_11.out BK149.out (by decide)) (fun _ hk => hk.2) (.int .i64 ((rd_T46 l0 x41_3).f0))) (fun _ hk => hk.2) (.int .i64 ((rd_T46 l0 x41_3).f1))) (fun _ hk => hk.2) (.int .i64 ((rd_T46 l0 x41_3).f2))) (fun _ hk => hk.2) (.int .i64 ((rd_T46 l0 x41_3).f3))) (fun _ hk => hk.2) (.int .i64 ((rd_T46 l0 x41_3).f4))) (fun _ h_ => h_.1))))) (below_size (by repeat (first | (with_reducible first | exact HB.out | apply below_alloc | apply pw_below_drewN | apply below_drew1 | refine below_set ?_ GE145.out | refine below_set ?_ GE149.out) | exact HB.out)))); have n2_ := Aside0.mk (blk_below (g := gb145) (o := .cells #[.int .i64 a2_0, .int .i64 a2_1] 25 (0, 0)) (by (with_reducible repeat (first | refine blk_drewN ?_ _ | refine blk_drew ?_ | refine blk_alloc ?_ _)); refine blk_far ?_ NB145_149.out _; (with_reducible repeat (first | refine blk_drewN ?_ _ | refine blk_drew ?_ | refine blk_alloc ?_ _)); refine blk_far ?_ NB145_149.out _; (with_reducible repeat (first | refine blk_drewN ?_ _ | refine blk_drew ?_ | refine blk_alloc ?_ _)); refine blk_far ?_ NB145_149.out _; (with_reducible repeat (first | refine blk_drewN ?_ _ | refine blk_drew ?_ | refine blk_alloc ?_ _)); refine blk_far ?_ NB145_149.out _; (with_reducible repeat (first | refine blk_drewN ?_ _ | refine blk_drew ?_ | refine blk_alloc ?_ _)); refine blk_far ?_ NB145_149.out _; (with_reducible repeat (first | refine blk_drewN ?_ _ | refine blk_drew ?_ | refine blk_alloc ?_ _)); exact BK145.out) hb); have n3_ := Aside0.mk (blk_below (g := gb149) (o := .cells #[.int .i64 ((rd_T46 l0 x41_3).f0), .int .i64 ((rd_T46 l0 x41_3).f1), .int .i64 ((rd_T46 l0 x41_3).f2), .int .i64 ((rd_T46 l0 x41_3).f3), .int .i64 ((rd_T46 l0 x41_3).f4)] 46 (0, 0)) (by (with_reducible repeat (first | refine blk_drewN ?_ _ | refine blk_drew ?_ | refine blk_alloc ?_ _)); refine blk_put (cs := #[.int .i64 ((rd_T46 l0 x41_3).f0), .int .i64 ((rd_T46 l0 x41_3).f1), .int .i64 ((rd_T46 l0 x41_3).f2), .int .i64 ((rd_T46 l0 x41_3).f3), .int .i64 0]) ?_ 4 _ rfl; (with_reducible repeat (first | refine blk_drewN ?_ _ | refine blk_drew ?_ | refine blk_alloc ?_ _)); refine blk_put (cs := #[.int .i64 ((rd_T46 l0 x41_3).f0), .int .i64 ((rd_T46 l0 x41_3).f1), .int .i64 ((rd_T46 l0 x41_3).f2), .int .i64 0, .int .i64 0]) ?_ 3 _ rfl; (with_reducible repeat (first | refine blk_drewN ?_ _ | refine blk_drew ?_ | refine blk_alloc ?_ _)); refine blk_put (cs := #[.int .i64 ((rd_T46 l0 x41_3).f0), .int .i64 ((rd_T46 l0 x41_3).f1), .int .i64 0, .int .i64 0, .int .i64 0]) ?_ 2 _ rfl; (with_reducible repeat (first | refine blk_drewN ?_ _ | refine blk_drew ?_ | refine blk_alloc ?_ _)); refine blk_put (cs := #[.int .i64 ((rd_T46 l0 x41_3).f0), .int .i64 0, .int .i64 0, .int .i64 0, .int .i64 0]) ?_ 1 _ rfl; (with_reducible repeat (first | refine blk_drewN ?_ _ | refine blk_drew ?_ | refine blk_alloc ?_ _)); refine blk_put (cs := #[.int .i64 0, .int .i64 0, .int .i64 0, .int .i64 0, .int .i64 0]) ?_ 0 _ rfl; (with_reducible repeat (first | refine blk_drewN ?_ _ | refine blk_drew ?_ | refine blk_alloc ?_ _)); exact BK149.out) hb); have n4_ := Aside0.mk (below_step (by repeat (first | (with_reducible first | exact HB.out | apply below_alloc | apply pw_below_drewN | apply below_drew1 | refine below_set ?_ GE145.out | refine below_set ?_ GE149.out) | exact HB.out)) hb); clear HO_11; clear BK145; clear BK149; clear HB; have HO_11 := n0_; have HO152 := n1_; have BK145 := n2_; have BK149 := n3_; have HB := n4_; clear n0_ n1_ n2_ n3_ n4_; (try clear hb); (try clear hb2); (try clear hk); (try clear hi); (try clear ho0); obtain ⟨Ao53, co53, eo53⟩ := Kd.R_slice HO152.out; subst eo53; have hcz54_0 : w52.cell? ⟨gb145, 0, none⟩ = some (.int .i64 a2_0) := (blk_cell BK145.out 0).trans rfl; have hcz54_1 : w52.cell? ⟨gb145, 1, none⟩ = some (.int .i64 a2_1) := (blk_cell BK145.out 1).trans rfl; have hfz54_0 := blk_frozen BK145.out 0; have hfz54_1 := blk_frozen BK145.out 1)))
             go_roundg k3
             case measure => have := HJ4.out; have := HJ15.out; have := HK3.out; omega
             case rel => exact ⟨(x10_3), (x11_3), (wrap64 (x41_3 + 1)), (by first | rfl | (simp; done) | (simp [*]; done)), (by first | rfl | (simp; done) | (simp [*]; done)), H', ⟨by have := HJ4.out; have := HJ15.out; have := HK3.out; omega⟩, ⟨by (with_reducible repeat (first | apply Kd.R_alloc | apply Kd.R_drewN | apply Kd.R_drew)); exact Kd.R_mono HO_11.out (fun _ hk => trivial)⟩, ⟨by (with_reducible repeat (first | refine blk_drewN ?_ _ | refine blk_drew ?_ | refine blk_alloc ?_ _)); exact BK145.out⟩, ⟨by repeat (first | (with_reducible first | exact HB.out | apply below_alloc | apply pw_below_drewN | apply below_drew1 | refine below_set ?_ GE145.out | refine below_set ?_ GE149.out) | exact HB.out)⟩⟩
           ·
            rw [if_neg c23] at H
            have c23b0 : decide (a2_0 ≤ (t150.length : Int)) = false := decide_eq_false c23
            clear c23
            have H' := Aside0.mk H
            clear H
            have p148 : 0 ≤ (x41_3 : Int) := of_decide_eq_true (by first | (with_reducible assumption) | assumption)
            have q148 : x41_3 < (l0.length : Int) := of_decide_eq_true (by first | (with_reducible assumption) | assumption)
            obtain ⟨ad148, e148, hx148_0, hx148_1, hx148_2, hx148_3, hx148_4⟩ := at_T46 HR0.out x41_3 p148 q148
            cases e148
            (try (replace hx148_0 := (HB.out.cell (World.block_lt_of_cell? w _ hx148_0)).trans hx148_0))
            (try (replace hx148_1 := (HB.out.cell (World.block_lt_of_cell? w _ hx148_1)).trans hx148_1))
            (try (replace hx148_2 := (HB.out.cell (World.block_lt_of_cell? w _ hx148_2)).trans hx148_2))
            (try (replace hx148_3 := (HB.out.cell (World.block_lt_of_cell? w _ hx148_3)).trans hx148_3))
            (try (replace hx148_4 := (HB.out.cell (World.block_lt_of_cell? w _ hx148_4)).trans hx148_4))
            replace p148 := eq_true p148
            replace q148 := eq_true q148
            go_wp2_with (first | ((with_reducible refine gate_dst (N := 13) rfl ?_); (try (refine gate_guard (by rfl) ?_; dsimp only)); refine box_event ?hg (N := 13) ?hd (cs := #[.int .i64 0, .int .i64 0, .int .i64 0, .int .i64 0, .int .i64 0]) (t := 46) ?hr ?_; (case hd => rfl); (case hg => rfl); (case hr => first | (go_simp; done) | (go_simp; rfl)); intro gb149 hg w55 hbox hb; have n0_ := Aside0.mk (Kd.R_below (by (with_reducible repeat (first | apply Kd.R_alloc | apply Kd.R_drewN | apply Kd.R_drew)); exact HO_11.out) hb); have n1_ := Aside0.mk (blk_below (g := gb145) (o := .cells #[.int .i64 a2_0, .int .i64 a2_1] 25 (0, 0)) (by (with_reducible repeat (first | refine blk_drewN ?_ _ | refine blk_drew ?_ | refine blk_alloc ?_ _)); exact BK145.out) hb); have n2_ := Aside0.mk (below_step (by repeat (first | (with_reducible first | exact HB.out | apply below_alloc | apply pw_below_drewN | apply below_drew1 | refine below_set ?_ GE145.out) | exact HB.out)) hb); have n3_ := Aside0.mk (hbox); have n4_ := Aside0.mk ((by rw [hg]; exact (below_size (by repeat (first | (with_reducible first | exact HB.out | apply below_alloc | apply pw_below_drewN | apply below_drew1 | refine below_set ?_ GE145.out) | exact HB.out))) : w.heap.size ≤ gb149)); have n5_ := Aside0.mk ((by rw [hg]; exact (below_size (by repeat (first | (with_reducible first | exact HB.out | apply below_alloc | apply pw_below_drewN | apply below_drew1 | refine below_set ?_ GE145.out) | exact HB.out))) : w.heap.size ≤ gb149)); have n6_ := Aside0.mk ((by rw [hg]; exact Nat.ne_of_lt (blk_lt (g := gb145) (o := .cells #[.int .i64 a2_0, .int .i64 a2_1] 25 (0, 0)) (by (with_reducible repeat (first | refine blk_drewN ?_ _ | refine blk_drew ?_ | refine blk_alloc ?_ _)); exact BK145.out)) : gb145 ≠ gb149)); have n7_ := Aside0.mk ((by rw [hg]; exact Nat.ne_of_gt (blk_lt (g := gb145) (o := .cells #[.int .i64 a2_0, .int .i64 a2_1] 25 (0, 0)) (by (with_reducible repeat (first | refine blk_drewN ?_ _ | refine blk_drew ?_ | refine blk_alloc ?_ _)); exact BK145.out)) : gb149 ≠ gb145)); clear HO_11; clear BK145; clear HB; have HO_11 := n0_; have BK145 := n1_; have HB := n2_; have BK149 := n3_; have GW149 := n4_; have GE149 := n5_; have NB145_149 := n6_; have NB149_145 := n7_; clear n0_ n1_ n2_ n3_ n4_ n5_ n6_ n7_; clear hb hbox hg; have hnb56 := NB149_145.out; have hnc56 := NB145_149.out; have hcz57_0 : w55.cell? ⟨gb149, 0, none⟩ = some (.int .i64 0) := (blk_cell BK149.out 0).trans rfl; have hcz57_1 : w55.cell? ⟨gb149, 1, none⟩ = some (.int .i64 0) := (blk_cell BK149.out 1).trans rfl; have hcz57_2 : w55.cell? ⟨gb149, 2, none⟩ = some (.int .i64 0) := (blk_cell BK149.out 2).trans rfl; have hcz57_3 : w55.cell? ⟨gb149, 3, none⟩ = some (.int .i64 0) := (blk_cell BK149.out 3).trans rfl; have hcz57_4 : w55.cell? ⟨gb149, 4, none⟩ = some (.int .i64 0) := (blk_cell BK149.out 4).trans rfl; have hfz57_0 := blk_frozen BK149.out 0; have hfz57_1 := blk_frozen BK149.out 1; have hfz57_2 := blk_frozen BK149.out 2; have hfz57_3 := blk_frozen BK149.out 3; have hfz57_4 := blk_frozen BK149.out 4) | (go_at_call 86; (with_reducible refine (furlongref07_free.calls k3 ((rd_T46 l0 x41_3).f0) ((rd_T46 l0 x41_3).f1) ((rd_T46 l0 x41_3).f2) ((rd_T46 l0 x41_3).f3) ((rd_T46 l0 x41_3).f4) _ _ l1 t150 t153 _ ?side1 ?side2 A22.out).mono ?_); (case side1 => exact Kd.C_below HR1.out (by repeat (first | (with_reducible first | exact HB.out | apply below_alloc | apply pw_below_drewN | apply below_drew1 | refine below_set ?_ GE145.out | refine below_set ?_ GE149.out) | exact HB.out))); (case side2 => exact HC1.out); rintro e w58 ⟨v151, rfl, ho0, hb⟩; have n0_ := Aside0.mk (Kd.R_elder' (by (with_reducible repeat (first | apply Kd.R_alloc | apply Kd.R_drewN | apply Kd.R_drew)); exact (Kd.R_mono (Kd.R_far (p := ⟨gb149, 4, none⟩) (Kd.R_far (p := ⟨gb149, 3, none⟩) (Kd.R_far (p := ⟨gb149, 2, none⟩) (Kd.R_far (p := ⟨gb149, 1, none⟩) (Kd.R_far (p := ⟨gb149, 0, none⟩) (Kd.R_types HO_11.out BK149.out (by decide)) (fun _ hk => hk.2) (.int .i64 ((rd_T46 l0 x41_3).f0))) (fun _ hk => hk.2) (.int .i64 ((rd_T46 l0 x41_3).f1))) (fun _ hk => hk.2) (.int .i64 ((rd_T46 l0 x41_3).f2))) (fun _ hk => hk.2) (.int .i64 ((rd_T46 l0 x41_3).f3))) (fun _ hk => hk.2) (.int .i64 ((rd_T46 l0 x41_3).f4))) (fun _ h_ => h_.1))) (Kd.R_base ho0) hb); have n1_ := Aside0.mk (Kd.R_lower (Kd.R_new' ho0 (Kd.R_lt (by (with_reducible repeat (first | apply Kd.R_alloc | apply Kd.R_drewN | apply Kd.R_drew)); exact (Kd.R_mono (Kd.R_far (p := ⟨gb149, 4, none⟩) (Kd.R_far (p := ⟨gb149, 3, none⟩) (Kd.R_far (p := ⟨gb149, 2, none⟩) (Kd.R_far (p := ⟨gb149, 1, none⟩) (Kd.R_far (p := ⟨gb149, 0, none⟩) (Kd.R_types HO_11.out BK149.out (by decide)) (fun _ hk => hk.2) (.int .i64 ((rd_T46 l0 x41_3).f0))) (fun _ hk => hk.2) (.int .i64 ((rd_T46 l0 x41_3).f1))) (fun _ hk => hk.2) (.int .i64 ((rd_T46 l0 x41_3).f2))) (fun _ hk => hk.2) (.int .i64 ((rd_T46 l0 x41_3).f3))) (fun _ hk => hk.2) (.int .i64 ((rd_T46 l0 x41_3).f4))) (fun _ h_ => h_.1))))) (below_size (by repeat (first | (with_reducible first | exact HB.out | apply below_alloc | apply pw_below_drewN | apply below_drew1 | refine below_set ?_ GE145.out | refine below_set ?_ GE149.out) | exact HB.out)))); have n2_ := Aside0.mk (blk_below (g := gb145) (o := .cells #[.int .i64 a2_0, .int .i64 a2_1] 25 (0, 0)) (by (with_reducible repeat (first | refine blk_drewN ?_ _ | refine blk_drew ?_ | refine blk_alloc ?_ _)); refine blk_far ?_ NB145_149.out _; (with_reducible repeat (first | refine blk_drewN ?_ _ | refine blk_drew ?_ | refine blk_alloc ?_ _)); refine blk_far ?_ NB145_149.out _; (with_reducible repeat (first | refine blk_drewN ?_ _ | refine blk_drew ?_ | refine blk_alloc ?_ _)); refine blk_far ?_ NB145_149.out _; (with_reducible repeat (first | refine blk_drewN ?_ _ | refine blk_drew ?_ | refine blk_alloc ?_ _)); refine blk_far ?_ NB145_149.out _; (with_reducible repeat (first | refine blk_drewN ?_ _ | refine blk_drew ?_ | refine blk_alloc ?_ _)); refine blk_far ?_ NB145_149.out _; (with_reducible repeat (first | refine blk_drewN ?_ _ | refine blk_drew ?_ | refine blk_alloc ?_ _)); exact BK145.out) hb); have n3_ := Aside0.mk (blk_below (g := gb149) (o := .cells #[.int .i64 ((rd_T46 l0 x41_3).f0), .int .i64 ((rd_T46 l0 x41_3).f1), .int .i64 ((rd_T46 l0 x41_3).f2), .int .i64 ((rd_T46 l0 x41_3).f3), .int .i64 ((rd_T46 l0 x41_3).f4)] 46 (0, 0)) (by (with_reducible repeat (first | refine blk_drewN ?_ _ | refine blk_drew ?_ | refine blk_alloc ?_ _)); refine blk_put (cs := #[.int .i64 ((rd_T46 l0 x41_3).f0), .int .i64 ((rd_T46 l0 x41_3).f1), .int .i64 ((rd_T46 l0 x41_3).f2), .int .i64 ((rd_T46 l0 x41_3).f3), .int .i64 0]) ?_ 4 _ rfl; (with_reducible repeat (first | refine blk_drewN ?_ _ | refine blk_drew ?_ | refine blk_alloc ?_ _)); refine blk_put (cs := #[.int .i64 ((rd_T46 l0 x41_3).f0), .int .i64 ((rd_T46 l0 x41_3).f1), .int .i64 ((rd_T46 l0 x41_3).f2), .int .i64 0, .int .i64 0]) ?_ 3 _ rfl; (with_reducible repeat (first | refine blk_drewN ?_ _ | refine blk_drew ?_ | refine blk_alloc ?_ _)); refine blk_put (cs := #[.int .i64 ((rd_T46 l0 x41_3).f0), .int .i64 ((rd_T46 l0 x41_3).f1), .int .i64 0, .int .i64 0, .int .i64 0]) ?_ 2 _ rfl; (with_reducible repeat (first | refine blk_drewN ?_ _ | refine blk_drew ?_ | refine blk_alloc ?_ _)); refine blk_put (cs := #[.int .i64 ((rd_T46 l0 x41_3).f0), .int .i64 0, .int .i64 0, .int .i64 0, .int .i64 0]) ?_ 1 _ rfl; (with_reducible repeat (first | refine blk_drewN ?_ _ | refine blk_drew ?_ | refine blk_alloc ?_ _)); refine blk_put (cs := #[.int .i64 0, .int .i64 0, .int .i64 0, .int .i64 0, .int .i64 0]) ?_ 0 _ rfl; (with_reducible repeat (first | refine blk_drewN ?_ _ | refine blk_drew ?_ | refine blk_alloc ?_ _)); exact BK149.out) hb); have n4_ := Aside0.mk (below_step (by repeat (first | (with_reducible first | exact HB.out | apply below_alloc | apply pw_below_drewN | apply below_drew1 | refine below_set ?_ GE145.out | refine below_set ?_ GE149.out) | exact HB.out)) hb); clear HO_11; clear BK145; clear BK149; clear HB; have HO_11 := n0_; have HO152 := n1_; have BK145 := n2_; have BK149 := n3_; have HB := n4_; clear n0_ n1_ n2_ n3_ n4_; (try clear hb); (try clear hb2); (try clear hk); (try clear hi); (try clear ho0); obtain ⟨Ao59, co59, eo59⟩ := Kd.R_slice HO152.out; subst eo59; have hcz60_0 : w58.cell? ⟨gb145, 0, none⟩ = some (.int .i64 a2_0) := (blk_cell BK145.out 0).trans rfl; have hcz60_1 : w58.cell? ⟨gb145, 1, none⟩ = some (.int .i64 a2_1) := (blk_cell BK145.out 1).trans rfl; have hfz60_0 := blk_frozen BK145.out 0; have hfz60_1 := blk_frozen BK145.out 1))
            repeat (go_quiet (first | (go_at_call 86; (with_reducible refine (furlongref07_free.calls k3 ((rd_T46 l0 x41_3).f0) ((rd_T46 l0 x41_3).f1) ((rd_T46 l0 x41_3).f2) ((rd_T46 l0 x41_3).f3) ((rd_T46 l0 x41_3).f4) _ _ l1 t150 t153 _ ?side1 ?side2 A22.out).mono ?_); (case side1 => exact Kd.C_below HR1.out (by repeat (first | (with_reducible first | exact HB.out | apply below_alloc | apply pw_below_drewN | apply below_drew1 | refine below_set ?_ GE145.out | refine below_set ?_ GE149.out) | exact HB.out))); (case side2 => exact HC1.out); rintro e w58 ⟨v151, rfl, ho0, hb⟩; have n0_ := Aside0.mk (Kd.R_elder' (by (with_reducible repeat (first | apply Kd.R_alloc | apply Kd.R_drewN | apply Kd.R_drew)); exact (Kd.R_mono (Kd.R_far (p := ⟨gb149, 4, none⟩) (Kd.R_far (p := ⟨gb149, 3, none⟩) (Kd.R_far (p := ⟨gb149, 2, none⟩) (Kd.R_far (p := ⟨gb149, 1, none⟩) (Kd.R_far (p := ⟨gb149, 0, none⟩) (Kd.R_types HO_11.out BK149.out (by decide)) (fun _ hk => hk.2) (.int .i64 ((rd_T46 l0 x41_3).f0))) (fun _ hk => hk.2) (.int .i64 ((rd_T46 l0 x41_3).f1))) (fun _ hk => hk.2) (.int .i64 ((rd_T46 l0 x41_3).f2))) (fun _ hk => hk.2) (.int .i64 ((rd_T46 l0 x41_3).f3))) (fun _ hk => hk.2) (.int .i64 ((rd_T46 l0 x41_3).f4))) (fun _ h_ => h_.1))) (Kd.R_base ho0) hb); have n1_ := Aside0.mk (Kd.R_lower (Kd.R_new' ho0 (Kd.R_lt (by (with_reducible repeat (first | apply Kd.R_alloc | apply Kd.R_drewN | apply Kd.R_drew)); exact (Kd.R_mono (Kd.R_far (p := ⟨gb149, 4, none⟩) (Kd.R_far (p := ⟨gb149, 3, none⟩) (Kd.R_far (p := ⟨gb149, 2, none⟩) (Kd.R_far (p := ⟨gb149, 1, none⟩) (Kd.R_far (p := ⟨gb149, 0, none⟩) (Kd.R_types HO_11.out BK149.out (by decide)) (fun _ hk => hk.2) (.int .i64 ((rd_T46 l0 x41_3).f0))) (fun _ hk => hk.2) (.int .i64 ((rd_T46 l0 x41_3).f1))) (fun _ hk => hk.2) (.int .i64 ((rd_T46 l0 x41_3).f2))) (fun _ hk => hk.2) (.int .i64 ((rd_T46 l0 x41_3).f3))) (fun _ hk => hk.2) (.int .i64 ((rd_T46 l0 x41_3).f4))) (fun _ h_ => h_.1))))) (below_size (by repeat (first | (with_reducible first | exact HB.out | apply below_alloc | apply pw_below_drewN | apply below_drew1 | refine below_set ?_ GE145.out | refine below_set ?_ GE149.out) | exact HB.out)))); have n2_ := Aside0.mk (blk_below (g := gb145) (o := .cells #[.int .i64 a2_0, .int .i64 a2_1] 25 (0, 0)) (by (with_reducible repeat (first | refine blk_drewN ?_ _ | refine blk_drew ?_ | refine blk_alloc ?_ _)); refine blk_far ?_ NB145_149.out _; (with_reducible repeat (first | refine blk_drewN ?_ _ | refine blk_drew ?_ | refine blk_alloc ?_ _)); refine blk_far ?_ NB145_149.out _; (with_reducible repeat (first | refine blk_drewN ?_ _ | refine blk_drew ?_ | refine blk_alloc ?_ _)); refine blk_far ?_ NB145_149.out _; (with_reducible repeat (first | refine blk_drewN ?_ _ | refine blk_drew ?_ | refine blk_alloc ?_ _)); refine blk_far ?_ NB145_149.out _; (with_reducible repeat (first | refine blk_drewN ?_ _ | refine blk_drew ?_ | refine blk_alloc ?_ _)); refine blk_far ?_ NB145_149.out _; (with_reducible repeat (first | refine blk_drewN ?_ _ | refine blk_drew ?_ | refine blk_alloc ?_ _)); exact BK145.out) hb); have n3_ := Aside0.mk (blk_below (g := gb149) (o := .cells #[.int .i64 ((rd_T46 l0 x41_3).f0), .int .i64 ((rd_T46 l0 x41_3).f1), .int .i64 ((rd_T46 l0 x41_3).f2), .int .i64 ((rd_T46 l0 x41_3).f3), .int .i64 ((rd_T46 l0 x41_3).f4)] 46 (0, 0)) (by (with_reducible repeat (first | refine blk_drewN ?_ _ | refine blk_drew ?_ | refine blk_alloc ?_ _)); refine blk_put (cs := #[.int .i64 ((rd_T46 l0 x41_3).f0), .int .i64 ((rd_T46 l0 x41_3).f1), .int .i64 ((rd_T46 l0 x41_3).f2), .int .i64 ((rd_T46 l0 x41_3).f3), .int .i64 0]) ?_ 4 _ rfl; (with_reducible repeat (first | refine blk_drewN ?_ _ | refine blk_drew ?_ | refine blk_alloc ?_ _)); refine blk_put (cs := #[.int .i64 ((rd_T46 l0 x41_3).f0), .int .i64 ((rd_T46 l0 x41_3).f1), .int .i64 ((rd_T46 l0 x41_3).f2), .int .i64 0, .int .i64 0]) ?_ 3 _ rfl; (with_reducible repeat (first | refine blk_drewN ?_ _ | refine blk_drew ?_ | refine blk_alloc ?_ _)); refine blk_put (cs := #[.int .i64 ((rd_T46 l0 x41_3).f0), .int .i64 ((rd_T46 l0 x41_3).f1), .int .i64 0, .int .i64 0, .int .i64 0]) ?_ 2 _ rfl; (with_reducible repeat (first | refine blk_drewN ?_ _ | refine blk_drew ?_ | refine blk_alloc ?_ _)); refine blk_put (cs := #[.int .i64 ((rd_T46 l0 x41_3).f0), .int .i64 0, .int .i64 0, .int .i64 0, .int .i64 0]) ?_ 1 _ rfl; (with_reducible repeat (first | refine blk_drewN ?_ _ | refine blk_drew ?_ | refine blk_alloc ?_ _)); refine blk_put (cs := #[.int .i64 0, .int .i64 0, .int .i64 0, .int .i64 0, .int .i64 0]) ?_ 0 _ rfl; (with_reducible repeat (first | refine blk_drewN ?_ _ | refine blk_drew ?_ | refine blk_alloc ?_ _)); exact BK149.out) hb); have n4_ := Aside0.mk (below_step (by repeat (first | (with_reducible first | exact HB.out | apply below_alloc | apply pw_below_drewN | apply below_drew1 | refine below_set ?_ GE145.out | refine below_set ?_ GE149.out) | exact HB.out)) hb); clear HO_11; clear BK145; clear BK149; clear HB; have HO_11 := n0_; have HO152 := n1_; have BK145 := n2_; have BK149 := n3_; have HB := n4_; clear n0_ n1_ n2_ n3_ n4_; (try clear hb); (try clear hb2); (try clear hk); (try clear hi); (try clear ho0); obtain ⟨Ao59, co59, eo59⟩ := Kd.R_slice HO152.out; subst eo59; have hcz60_0 : w58.cell? ⟨gb145, 0, none⟩ = some (.int .i64 a2_0) := (blk_cell BK145.out 0).trans rfl; have hcz60_1 : w58.cell? ⟨gb145, 1, none⟩ = some (.int .i64 a2_1) := (blk_cell BK145.out 1).trans rfl; have hfz60_0 := blk_frozen BK145.out 0; have hfz60_1 := blk_frozen BK145.out 1)); try go_wp2_with (first | (go_at_call 86; (with_reducible refine (furlongref07_free.calls k3 ((rd_T46 l0 x41_3).f0) ((rd_T46 l0 x41_3).f1) ((rd_T46 l0 x41_3).f2) ((rd_T46 l0 x41_3).f3) ((rd_T46 l0 x41_3).f4) _ _ l1 t150 t153 _ ?side1 ?side2 A22.out).mono ?_); (case side1 => exact Kd.C_below HR1.out (by repeat (first | (with_reducible first | exact HB.out | apply below_alloc | apply pw_below_drewN | apply below_drew1 | refine below_set ?_ GE145.out | refine below_set ?_ GE149.out) | exact HB.out))); (case side2 => exact HC1.out); rintro e w58 ⟨v151, rfl, ho0, hb⟩; have n0_ := Aside0.mk (Kd.R_elder' (by (with_reducible repeat (first | apply Kd.R_alloc | apply Kd.R_drewN | apply Kd.R_drew)); exact (Kd.R_mono (Kd.R_far (p := ⟨gb149, 4, none⟩) (Kd.R_far (p := ⟨gb149, 3, none⟩) (Kd.R_far (p := ⟨gb149, 2, none⟩) (Kd.R_far (p := ⟨gb149, 1, none⟩) (Kd.R_far (p := ⟨gb149, 0, none⟩) (Kd.R_types HO_11.out BK149.out (by decide)) (fun _ hk => hk.2) (.int .i64 ((rd_T46 l0 x41_3).f0))) (fun _ hk => hk.2) (.int .i64 ((rd_T46 l0 x41_3).f1))) (fun _ hk => hk.2) (.int .i64 ((rd_T46 l0 x41_3).f2))) (fun _ hk => hk.2) (.int .i64 ((rd_T46 l0 x41_3).f3))) (fun _ hk => hk.2) (.int .i64 ((rd_T46 l0 x41_3).f4))) (fun _ h_ => h_.1))) (Kd.R_base ho0) hb); have n1_ := Aside0.mk (Kd.R_lower (Kd.R_new' ho0 (Kd.R_lt (by (with_reducible repeat (first | apply Kd.R_alloc | apply Kd.R_drewN | apply Kd.R_drew)); exact (Kd.R_mono (Kd.R_far (p := ⟨gb149, 4, none⟩) (Kd.R_far (p := ⟨gb149, 3, none⟩) (Kd.R_far (p := ⟨gb149, 2, none⟩) (Kd.R_far (p := ⟨gb149, 1, none⟩) (Kd.R_far (p := ⟨gb149, 0, none⟩) (Kd.R_types HO_11.out BK149.out (by decide)) (fun _ hk => hk.2) (.int .i64 ((rd_T46 l0 x41_3).f0))) (fun _ hk => hk.2) (.int .i64 ((rd_T46 l0 x41_3).f1))) (fun _ hk => hk.2) (.int .i64 ((rd_T46 l0 x41_3).f2))) (fun _ hk => hk.2) (.int .i64 ((rd_T46 l0 x41_3).f3))) (fun _ hk => hk.2) (.int .i64 ((rd_T46 l0 x41_3).f4))) (fun _ h_ => h_.1))))) (below_size (by repeat (first | (with_reducible first | exact HB.out | apply below_alloc | apply pw_below_drewN | apply below_drew1 | refine below_set ?_ GE145.out | refine below_set ?_ GE149.out) | exact HB.out)))); have n2_ := Aside0.mk (blk_below (g := gb145) (o := .cells #[.int .i64 a2_0, .int .i64 a2_1] 25 (0, 0)) (by (with_reducible repeat (first | refine blk_drewN ?_ _ | refine blk_drew ?_ | refine blk_alloc ?_ _)); refine blk_far ?_ NB145_149.out _; (with_reducible repeat (first | refine blk_drewN ?_ _ | refine blk_drew ?_ | refine blk_alloc ?_ _)); refine blk_far ?_ NB145_149.out _; (with_reducible repeat (first | refine blk_drewN ?_ _ | refine blk_drew ?_ | refine blk_alloc ?_ _)); refine blk_far ?_ NB145_149.out _; (with_reducible repeat (first | refine blk_drewN ?_ _ | refine blk_drew ?_ | refine blk_alloc ?_ _)); refine blk_far ?_ NB145_149.out _; (with_reducible repeat (first | refine blk_drewN ?_ _ | refine blk_drew ?_ | refine blk_alloc ?_ _)); refine blk_far ?_ NB145_149.out _; (with_reducible repeat (first | refine blk_drewN ?_ _ | refine blk_drew ?_ | refine blk_alloc ?_ _)); exact BK145.out) hb); have n3_ := Aside0.mk (blk_below (g := gb149) (o := .cells #[.int .i64 ((rd_T46 l0 x41_3).f0), .int .i64 ((rd_T46 l0 x41_3).f1), .int .i64 ((rd_T46 l0 x41_3).f2), .int .i64 ((rd_T46 l0 x41_3).f3), .int .i64 ((rd_T46 l0 x41_3).f4)] 46 (0, 0)) (by (with_reducible repeat (first | refine blk_drewN ?_ _ | refine blk_drew ?_ | refine blk_alloc ?_ _)); refine blk_put (cs := #[.int .i64 ((rd_T46 l0 x41_3).f0), .int .i64 ((rd_T46 l0 x41_3).f1), .int .i64 ((rd_T46 l0 x41_3).f2), .int .i64 ((rd_T46 l0 x41_3).f3), .int .i64 0]) ?_ 4 _ rfl; (with_reducible repeat (first | refine blk_drewN ?_ _ | refine blk_drew ?_ | refine blk_alloc ?_ _)); refine blk_put (cs := #[.int .i64 ((rd_T46 l0 x41_3).f0), .int .i64 ((rd_T46 l0 x41_3).f1), .int .i64 ((rd_T46 l0 x41_3).f2), .int .i64 0, .int .i64 0]) ?_ 3 _ rfl; (with_reducible repeat (first | refine blk_drewN ?_ _ | refine blk_drew ?_ | refine blk_alloc ?_ _)); refine blk_put (cs := #[.int .i64 ((rd_T46 l0 x41_3).f0), .int .i64 ((rd_T46 l0 x41_3).f1), .int .i64 0, .int .i64 0, .int .i64 0]) ?_ 2 _ rfl; (with_reducible repeat (first | refine blk_drewN ?_ _ | refine blk_drew ?_ | refine blk_alloc ?_ _)); refine blk_put (cs := #[.int .i64 ((rd_T46 l0 x41_3).f0), .int .i64 0, .int .i64 0, .int .i64 0, .int .i64 0]) ?_ 1 _ rfl; (with_reducible repeat (first | refine blk_drewN ?_ _ | refine blk_drew ?_ | refine blk_alloc ?_ _)); refine blk_put (cs := #[.int .i64 0, .int .i64 0, .int .i64 0, .int .i64 0, .int .i64 0]) ?_ 0 _ rfl; (with_reducible repeat (first | refine blk_drewN ?_ _ | refine blk_drew ?_ | refine blk_alloc ?_ _)); exact BK149.out) hb); have n4_ := Aside0.mk (below_step (by repeat (first | (with_reducible first | exact HB.out | apply below_alloc | apply pw_below_drewN | apply below_drew1 | refine below_set ?_ GE145.out | refine below_set ?_ GE149.out) | exact HB.out)) hb); clear HO_11; clear BK145; clear BK149; clear HB; have HO_11 := n0_; have HO152 := n1_; have BK145 := n2_; have BK149 := n3_; have HB := n4_; clear n0_ n1_ n2_ n3_ n4_; (try clear hb); (try clear hb2); (try clear hk); (try clear hi); (try clear ho0); obtain ⟨Ao59, co59, eo59⟩ := Kd.R_slice HO152.out; subst eo59; have hcz60_0 : w58.cell? ⟨gb145, 0, none⟩ = some (.int .i64 a2_0) := (blk_cell BK145.out 0).trans rfl; have hcz60_1 : w58.cell? ⟨gb145, 1, none⟩ = some (.int .i64 a2_1) := (blk_cell BK145.out 1).trans rfl; have hfz60_0 := blk_frozen BK145.out 0; have hfz60_1 := blk_frozen BK145.out 1)))
            go_roundg k3
            case measure => have := HJ4.out; have := HJ15.out; have := HK3.out; omega
            case rel => exact ⟨(x10_3), (x11_3), (wrap64 (x41_3 + 1)), (by first | rfl | (simp; done) | (simp [*]; done)), (by first | rfl | (simp; done) | (simp [*]; done)), H', ⟨by have := HJ4.out; have := HJ15.out; have := HK3.out; omega⟩, ⟨by (with_reducible repeat (first | apply Kd.R_alloc | apply Kd.R_drewN | apply Kd.R_drew)); exact Kd.R_mono HO_11.out (fun _ hk => trivial)⟩, ⟨by (with_reducible repeat (first | refine blk_drewN ?_ _ | refine blk_drew ?_ | refine blk_alloc ?_ _)); exact BK145.out⟩, ⟨by repeat (first | (with_reducible first | exact HB.out | apply below_alloc | apply pw_below_drewN | apply below_drew1 | refine below_set ?_ GE145.out | refine below_set ?_ GE149.out) | exact HB.out)⟩⟩
          ·
           rw [if_neg c21] at H
           exact absurd H (by simp)
         ·
          rw [if_neg c20] at H
          exact absurd H (by simp)
        ·
         rw [if_neg c19] at H
         have c19b0 : decide (x41_3 < (l0.length : Int)) = false := decide_eq_false c19
         clear c19
         by_cases c61 : x10_3 < 0
         ·
          rw [if_pos c61] at H
          have c61b0 : decide (x10_3 < 0) = true := decide_eq_true c61
          clear c61
          simp only [Option.some.injEq, Prod.mk.injEq] at H
          obtain ⟨rfl, rfl, rfl⟩ := H
          go_wp2
          repeat (go_quiet (fail); try go_wp2)
          go_ret3
          exact ⟨_, by first | rfl | (simp [errW_none, errW_some] <;> rfl) | (simp [*, errW_none, errW_some] <;> rfl), by first | exact Kd.R_nil _ _ _ _ _ | exact Kd.N_nil _ _ _ _ _ | exact Kd.V_nil _ _ _ _ _ | exact Kd.Q_nil _ _ _ _ _ | exact Kd.S_nil _ _ _ _ _, by repeat (first | (with_reducible first | exact HB.out | apply below_alloc | apply pw_below_drewN | apply below_drew1 | refine below_set ?_ GE145.out) | exact HB.out)⟩
         ·
          rw [if_neg c61] at H
          have c61b0 : decide (x10_3 < 0) = false := decide_eq_false c61
          clear c61
          by_cases c62 : 0 ≤ a2_0
          ·
           rw [if_pos c62] at H
           have c62b0 := eq_true c62
           have c62b1 : decide (0 ≤ a2_0) = true := decide_eq_true c62
           clear c62
           by_cases c63 : a2_0 ≤ (x11_3.length : Int)
           ·
            rw [if_pos c63] at H
            have c63b0 := eq_true c63
            have c63b1 : decide (a2_0 ≤ (x11_3.length : Int)) = true := decide_eq_true c63
            clear c63
            obtain ⟨y154, hy154⟩ : ∃ y_ : List Int, y_ = (x11_3.take (a2_0 : Int).toNat) := ⟨_, rfl⟩
            replace H : (some (x10_3, y154, x9_15)) = some (r1, r2, r3) := by first | (rw [hy154]; with_reducible exact H) | (have H2_ := (Option.bind_some _ _).symm.trans H; rw [hy154]; with_reducible exact H2_) | (have H2_ := (Option.bind_some _ _).symm.trans H; with_reducible exact H2_) | with_reducible exact H | (rw [hy154]; exact H) | exact H
            have Ny154 := Aside0.mk hy154
            clear hy154
            simp only [Option.some.injEq, Prod.mk.injEq] at H
            obtain ⟨rfl, rfl, rfl⟩ := H
            have hcz64_0 : wr.cell? ⟨gb145, 0, none⟩ = some (.int .i64 a2_0) := (blk_cell BK145.out 0).trans rfl
            have hcz64_1 : wr.cell? ⟨gb145, 1, none⟩ = some (.int .i64 a2_1) := (blk_cell BK145.out 1).trans rfl
            have hfz64_0 := blk_frozen BK145.out 0
            have hfz64_1 := blk_frozen BK145.out 1
            obtain ⟨Ao65, co65, eo65⟩ := Kd.R_slice HO_11.out
            subst eo65
            have q66 : (a2_0 : Int) ≤ ((x11_3.length : Int) : Int) := of_decide_eq_true (by first | (with_reducible assumption) | assumption)
            obtain ⟨i066, hi066, _, hsz66, _⟩ := info_parts info3
            have hcut66 := cut_to (P := Try.prog) 28 3 .i64 Try.underlying28 hi066 Ao65 x11_3.length co65 a2_0 (of_decide_eq_true (by first | (with_reducible assumption) | assumption)) q66 (Kd.R_reads' HO_11.out).2.1
            have hr66 := Kd.R_take (m := (a2_0 : Int).toNat) HO_11.out (by omega)
            have hy66 : y154.length = (a2_0 : Int).toNat := (by rw [Ny154.out, List.length_take]; omega)
            rw [← Ny154.out] at hr66
            rw [← hy66] at hr66 hcut66
            clear hy66 hi066 hsz66 HO_11
            have HO156 := Aside0.mk hr66
            clear hr66
            replace q66 := eq_true q66
            go_wp2
            repeat (go_quiet (fail); try go_wp2)
            go_ret3
            exact ⟨_, by first | rfl | (simp [errW_none, errW_some] <;> rfl) | (simp [*, errW_none, errW_some] <;> rfl), by (with_reducible repeat (first | apply Kd.R_alloc | apply Kd.R_drewN | apply Kd.R_drew)); exact HO156.out, by repeat (first | (with_reducible first | exact HB.out | apply below_alloc | apply pw_below_drewN | apply below_drew1 | refine below_set ?_ GE145.out) | exact HB.out)⟩
           ·
            rw [if_neg c63] at H
            exact absurd H (by simp)
          ·
           rw [if_neg c62] at H
           exact absurd H (by simp)
     ·
      rw [if_neg c18] at H
      have c18b0 : (x9_15 == 0) = false := beq_eq_false_iff_ne.mpr c18
      have c18b1 : (x9_15 != 0) = true := bne_iff_ne.mpr c18
      simp only [Option.some.injEq, Prod.mk.injEq] at H
      obtain ⟨rfl, rfl, rfl⟩ := H
      go_wp2
      repeat (go_quiet (fail); try go_wp2)
      go_ret3
      exact ⟨_, by first | rfl | (simp [errW_none, errW_some] <;> rfl) | (simp [*, errW_none, errW_some] <;> rfl), by first | exact Kd.R_nil _ _ _ _ _ | exact Kd.N_nil _ _ _ _ _ | exact Kd.V_nil _ _ _ _ _ | exact Kd.Q_nil _ _ _ _ _ | exact Kd.S_nil _ _ _ _ _, by repeat (first | (with_reducible first | exact HB.out | apply below_alloc | apply pw_below_drewN | apply below_drew1 | refine below_set ?_ GE145.out) | exact HB.out)⟩

end Go.Proofs.Ytkbcjagkacijnaa.PPl
end
section
namespace Go.Proofs.Ytkbcjagkacijnaa.PPl
open Go.RowKit Go.Proofs.YtkbcjagkacijnaaW.PrintWords Go.Proofs.YtkbcjagkacijnaaW.PrintLast
set_option linter.unusedVariables false
set_option linter.unusedSimpArgs false
theorem rgood_V (a0 a1 : Int) : furlongref02_Good.f a0 a1 = some (goodV a0 a1) := by
  unfold furlongref02_Good.f goodV
  by_cases h1 : 0 ≤ a0 <;> by_cases h2 : a0 ≤ 1099511627776 <;> by_cases h3 : 0 ≤ a1 <;> by_cases h4 : a1 ≤ 1099511627776 <;> simp [h1, h2, h3, h4]
def bid : Option S46 → Int
  | none => -1
  | some n => n.f0
def bwh (leases : List S50) : Option S46 → List Int
  | none => []
  | some n => freeCores leases n
theorem rfind_l0 (nodes : List S46) (leases : List S50) (a0 a1 : Int) (h : chk nodes leases = 0) (ha : 1 ≤ a0 ∧ a0 ≤ 64) (hL : leases.length < 4611686018427387904) (hsz : sizes leases ≤ 1048576) :
    ∀ (m i : Nat), i + m = nodes.length → ∀ (b : Option S46), (∀ n, b = some n → 0 ≤ n.f0 ∧ a0 ≤ ((freeCores leases n).length : Int)) →
      Ev (fun k => furlongref07_Find.l0 k leases 0 (bid b) (bwh leases b) nodes (nodes.length : Int) (i : Int) a0 a1)
        (match pick a0 a1 leases b (nodes.drop i) with
          | none => (0, [], 10)
          | some m => (m.f0, (freeCores leases m).take a0.toNat, 0)) := by
  obtain ⟨h64, hn, hv⟩ := chk_ok h
  obtain ⟨hid, hn2⟩ := nds_all hn
  have m0 : memsOK nodes [] := fun n hn => by have := hn2 n hn; show 0 ≤ (0 : Int) ∧ (0 : Int) ≤ n.f2; omega
  have hm := valid_mems nodes hid leases [] m0 hv
  intro m
  induction m with
  | zero =>
    intro i hi b hb
    rw [List.drop_of_length_le (by omega)]
    cases b with
    | none =>
      refine Ev.step (h := fun _ => some (0, [], 10)) (fun k => ?_) (Ev.of fun _ => rfl)
      simp only [furlongref07_Find.l0]
      rw [if_neg (by omega)]
      rfl
    | some n =>
      have hbn := hb n rfl
      refine Ev.step (h := fun _ => some (n.f0, (freeCores leases n).take a0.toNat, 0)) (fun k => ?_) (Ev.of fun _ => rfl)
      simp only [furlongref07_Find.l0]
      rw [if_neg (by omega), if_neg (show ¬ bid (some n) < 0 from by show ¬ n.f0 < 0; omega), if_pos (by omega), if_pos (show a0 ≤ ((bwh leases (some n)).length : Int) from hbn.2)]
      rfl
  | succ m ih =>
    intro i hi b hb
    have hlt : i < nodes.length := by omega
    have hd : nodes.drop i = nodes[i] :: nodes.drop (i + 1) := List.drop_eq_getElem_cons hlt
    have hmem := List.getElem_mem hlt
    have h2 := hn2 _ hmem
    rw [hd, pick]
    refine Ev.step (h := fun k => (furlongref07_free.f k nodes[i].f0 nodes[i].f1 nodes[i].f2 nodes[i].f3 nodes[i].f4 leases).bind fun bt179 => (if (bt179.1.length : Int) ≥ a0 then (if bt179.2 ≥ a1 then (if (bid b) < 0 then (furlongref07_Find.l0 k leases 0 nodes[i].f0 bt179.1 nodes (nodes.length : Int) ((i + 1 : Nat) : Int) a0 a1) else (if (bt179.1.length : Int) < ((bwh leases b).length : Int) then (furlongref07_Find.l0 k leases 0 nodes[i].f0 bt179.1 nodes (nodes.length : Int) ((i + 1 : Nat) : Int) a0 a1) else (furlongref07_Find.l0 k leases 0 (bid b) (bwh leases b) nodes (nodes.length : Int) ((i + 1 : Nat) : Int) a0 a1))) else (furlongref07_Find.l0 k leases 0 (bid b) (bwh leases b) nodes (nodes.length : Int) ((i + 1 : Nat) : Int) a0 a1)) else (furlongref07_Find.l0 k leases 0 (bid b) (bwh leases b) nodes (nodes.length : Int) ((i + 1 : Nat) : Int) a0 a1))) (fun k => ?_) ?_
    · simp only [furlongref07_Find.l0]
      rw [if_pos (by omega), if_pos (by omega), if_pos (by omega), rd46_get hlt, w_succ (by omega)]
    · refine Ev.bind (free_ev leases nodes[i] (by omega) hL hsz (fun j hj => by have := hm j hj _ hmem; rw [List.nil_append] at this; omega) (by omega) _ _) ?_
      simp only
      have yes := ih (i + 1) (by omega) (some nodes[i])
      have nope := ih (i + 1) (by omega) b hb
      by_cases c1 : ((freeCores leases nodes[i]).length : Int) ≥ a0
      · simp only [if_pos c1]
        by_cases c2 : nodes[i].f2 - memOf nodes[i].f0 leases ≥ a1
        · simp only [if_pos c2]
          cases b with
          | none =>
            have hb : better a0 a1 leases none nodes[i] = true := by simp only [better, Bool.and_true, Bool.and_eq_true, decide_eq_true_eq]; omega
            rw [if_pos hb]
            simp only [if_pos (show bid none < 0 from by decide)]
            exact yes (fun n hn => by obtain rfl := Option.some.inj hn; omega)
          | some q =>
            have hq := hb q rfl
            simp only [if_neg (show ¬ bid (some q) < 0 from by show ¬ q.f0 < 0; omega)]
            by_cases c3 : (freeCores leases nodes[i]).length < (freeCores leases q).length
            · have hb : better a0 a1 leases (some q) nodes[i] = true := by simp only [better, Bool.and_eq_true, decide_eq_true_eq]; omega
              rw [if_pos hb]
              simp only [if_pos (show ((freeCores leases nodes[i]).length : Int) < ((bwh leases (some q)).length : Int) by show _ < ((freeCores leases q).length : Int); omega)]
              exact yes (fun n hn => by obtain rfl := Option.some.inj hn; omega)
            · have hb : ¬ better a0 a1 leases (some q) nodes[i] = true := by simp only [better, Bool.and_eq_true, decide_eq_true_eq]; omega
              rw [if_neg hb]
              simp only [if_neg (show ¬ ((freeCores leases nodes[i]).length : Int) < ((bwh leases (some q)).length : Int) by show ¬ _ < ((freeCores leases q).length : Int); omega)]
              exact nope
        · have hb : ¬ better a0 a1 leases b nodes[i] = true := by simp only [better, Bool.and_eq_true, decide_eq_true_eq]; omega
          rw [if_neg hb]
          simp only [if_neg c2]
          exact nope
      · have hb : ¬ better a0 a1 leases b nodes[i] = true := by simp only [better, Bool.and_eq_true, decide_eq_true_eq]; omega
        rw [if_neg hb]
        simp only [if_neg c1]
        exact nope
theorem rfind_ev (nodes : List S46) (leases : List S50) (a0 a1 : Int) (hN : nodes.length < 4611686018427387904) (hL : leases.length < 4611686018427387904) (hsz : sizes leases ≤ 1048576) :
    Ev (fun k => furlongref07_Find.f k nodes leases a0 a1) (findD nodes leases a0 a1) := by
  have hS : ∀ y ∈ leases, y.f3.length < 4611686018427387904 := fun y hy => by have := sizes_mem hy; omega
  unfold furlongref07_Find.f
  rw [check_ev nodes leases hN hL hS]
  simp only [Option.bind_some]
  unfold findD
  have j1 : ∀ e : Int, e ≠ 0 → Ev (fun k => furlongref07_Find.j1 k nodes leases e a0 a1) (0, [], e) := fun e he => Ev.step (h := fun _ => some (0, [], e)) (fun k => by simp only [furlongref07_Find.j1]; rw [if_neg he]) (Ev.of fun _ => rfl)
  have jt : ∀ e : Int, Ev (fun k => furlongref07_Find.j0 k nodes leases e true a0 a1) (0, [], 1) := fun e => Ev.step (h := fun k => furlongref07_Find.j1 k nodes leases 1 a0 a1) (fun k => by simp only [furlongref07_Find.j0, if_true]) (j1 1 (by omega))
  by_cases h : chk nodes leases = 0
  · simp only [h, if_true]
    rw [if_neg (by simp)]
    by_cases c1 : a0 < 1
    · simp only [if_pos c1]
      rw [if_pos (.inl c1)]
      exact jt 0
    · by_cases c2 : a0 > 64
      · simp only [if_neg c1, if_pos c2]
        rw [if_pos (.inr (.inl c2))]
        exact jt 0
      · simp only [if_neg c1, if_neg c2]
        refine Ev.bind (Ev.of fun _ => rgood_V a0 a1) ?_
        cases hg : goodV a0 a1
        · rw [if_pos (.inr (.inr rfl))]
          exact jt 0
        · rw [if_neg (by simp; omega)]
          refine Ev.step (fun k => by simp only [furlongref07_Find.j0, Bool.not_true, Bool.false_eq_true, if_false]; rfl) (Ev.step (fun k => by simp only [furlongref07_Find.j1, if_true]; rfl) ?_)
          exact rfind_l0 nodes leases a0 a1 h (by omega) hL hsz nodes.length 0 (by omega) none (fun n h => by cases h)
  · simp only [if_neg h]
    rw [if_pos h]
    exact Ev.step (h := fun k => furlongref07_Find.j1 k nodes leases (chk nodes leases) a0 a1) (fun k => by simp only [furlongref07_Find.j0, Bool.false_eq_true, if_false]) (j1 _ h)
end Go.Proofs.Ytkbcjagkacijnaa.PPl
end
section
-- Written for this claim by this project's own driver over the kit's print: functions and their contracts.
namespace Go.Proofs.Ytkbcjagkacijnaa.PPl
open Go.RowKit Go.Proofs.YtkbcjagkacijnaaW.PrintWords Go.Proofs.YtkbcjagkacijnaaW.PrintLast Go.Proofs.YtkbcjagkacijnaaW.PrintMore
attribute [local go_sem] max2_int min2_int max_two min_two max_three min_three max_four min_four   -- for this text's walks alone
set_option linter.unusedVariables false
set_option linter.unusedSimpArgs false

def furlongref01_Ints.l0 : Nat → List Int → List Int → Int → Int → Option (Bool)
  | 0, _, _, _, _ => none
  | k + 1, x0, x1, x12, x13 => if x13 < x12 then (if 0 ≤ x13 then (if x13 < (x0.length : Int) then (if x13 < (x1.length : Int) then (if (rd x0 x13) = (rd x1 x13) then (furlongref01_Ints.l0 k x0 x1 x12 (wrap64 (x13 + 1))) else (some false)) else (none)) else (none)) else (none)) else (some true)
def furlongref01_Ints.f (k : Nat) (l0 : List Int) (l1 : List Int) : Option (Bool) := if (l0.length : Int) = (l1.length : Int) then (furlongref01_Ints.l0 k l0 l1 (l0.length : Int) 0) else (some false)
theorem furlongref01_Ints.mono_l : ∀ k, (∀ y0 y1 y2 y3, LeO (furlongref01_Ints.l0 k y0 y1 y2 y3) (furlongref01_Ints.l0 (k + 1) y0 y1 y2 y3))
  | 0 => fun _ _ _ _ r h => by simp [furlongref01_Ints.l0] at h
  | k + 1 => by
    have ih0 := furlongref01_Ints.mono_l k
    · intro y0 y1 y2 y3
      unfold furlongref01_Ints.l0
      repeat' first
      | (with_reducible exact ih0 _ _ _ _)
      | (with_reducible exact LeO.refl _)
      | (with_reducible exact LeO.none _)
      | (with_reducible refine LeO.ite ?_ ?_)
      | (with_reducible refine LeO.bind ?_ (fun _ => ?_))
      | exact ih0 _ _ _ _
      | exact LeO.none _
      | refine LeO.ite ?_ ?_
      | refine LeO.bind ?_ (fun _ => ?_)
theorem furlongref01_Ints.mono : ∀ a0 a1 k, LeO (furlongref01_Ints.f k a0 a1) (furlongref01_Ints.f (k + 1) a0 a1) := by
  intro a0 a1 k
  have ih0 := furlongref01_Ints.mono_l k
  unfold furlongref01_Ints.f
  repeat' first
      | (with_reducible exact ih0 _ _ _ _)
      | (with_reducible exact LeO.refl _)
      | (with_reducible exact LeO.none _)
      | (with_reducible refine LeO.ite ?_ ?_)
      | (with_reducible refine LeO.bind ?_ (fun _ => ?_))
      | exact ih0 _ _ _ _
      | exact LeO.none _
      | refine LeO.ite ?_ ?_
      | refine LeO.bind ?_ (fun _ => ?_)
set_option maxHeartbeats 8000000 in
set_option maxRecDepth 100000 in
theorem furlongref01_Ints.calls (k : Nat) (A0 : Option Addr) (c0 : Nat) (l0 : List Int) (A1 : Option Addr) (c1 : Nat) (l1 : List Int) (r : Bool) (w : World) (hr0 : Kd.C (Kd.int .i64) w A0 l0.length l0) (hc0 : l0.length ≤ c0) (hr1 : Kd.C (Kd.int .i64) w A1 l1.length l1) (hc1 : l1.length ≤ c1) (h : furlongref01_Ints.f k l0 l1 = some r) :
    Calls Try.prog 35 #[.slice A0 l0.length c0, .slice A1 l1.length c1] w fun e w' => e = .returned (.bool r) ∧ Drawn0 w w' := by
  have HR0 := Aside0.mk hr0
  have HC0 := Aside0.mk hc0
  clear hr0 hc0
  have HR1 := Aside0.mk hr1
  have HC1 := Aside0.mk hc1
  clear hr1 hc1
  have H : (if (l0.length : Int) = (l1.length : Int) then (furlongref01_Ints.l0 k l0 l1 (l0.length : Int) 0) else (some false)) = some r := h
  clear h
  by_cases c3 : (l0.length : Int) = (l1.length : Int)
  · rw [if_pos c3] at H
    have c3b0 : ((l0.length : Int) == (l1.length : Int)) = true := beq_iff_eq.mpr c3
    have c3b1 : ((l0.length : Int) != (l1.length : Int)) = false := bne_eq_false_iff_eq.mpr c3
    have c3b2 : (l0.length == l1.length) = true := by first | simpa using c3 | (simp at c3 ⊢; omega)
    clear c3
    have H' := Aside0.mk H
    clear H
    go_enter Try.func35, Try.ntmps35
    go_wp2
    repeat (go_quiet (fail); try go_wp2)
    go_loopg [13] k (fun kq v13 w' => ∃ (x13_1 : Int), v13 = .int .i64 x13_1 ∧ Aside0 (furlongref01_Ints.l0 kq l0 l1 (l0.length : Int) x13_1 = some r) ∧ Aside0 (kq ≤ k) ∧ Drawn0 w w')
    case atStart => exact ⟨(0), (by first | rfl | (simp; done) | (simp [*]; done)), H', ⟨Nat.le_refl _⟩, by repeat (first | exact Drawn0.refl _ | apply Drawn0.step)⟩
    case round =>
      clear H'
      try clear c1
      try clear p2
      try clear c3
      try clear c3b0
      try clear c3b1
      try clear c3b2
      obtain ⟨x13_1, rfl, HA, HK1, ⟨m1, rfl⟩⟩ := hrel
      cases gk with
      | zero => exact absurd HA.out (by simp [furlongref01_Ints.l0])
      | succ k1 =>
        have H := HA.out
        clear HA
        simp only [furlongref01_Ints.l0] at H
        by_cases c4 : x13_1 < (l0.length : Int)
        · rw [if_pos c4] at H
          have c4b0 : decide (x13_1 < (l0.length : Int)) = true := decide_eq_true c4
          clear c4
          by_cases c5 : 0 ≤ x13_1
          · rw [if_pos c5] at H
            have c5b0 : decide (0 ≤ x13_1) = true := decide_eq_true c5
            clear c5
            by_cases c6 : x13_1 < (l0.length : Int)
            · rw [if_pos c6] at H
              have c6b0 : decide (x13_1 < (l0.length : Int)) = true := decide_eq_true c6
              clear c6
              by_cases c7 : x13_1 < (l1.length : Int)
              · rw [if_pos c7] at H
                have c7b0 : decide (x13_1 < (l1.length : Int)) = true := decide_eq_true c7
                clear c7
                by_cases c8 : (rd l0 x13_1) = (rd l1 x13_1)
                · rw [if_pos c8] at H
                  have c8b0 : ((rd l0 x13_1) == (rd l1 x13_1)) = true := beq_iff_eq.mpr c8
                  have c8b1 : ((rd l0 x13_1) != (rd l1 x13_1)) = false := bne_eq_false_iff_eq.mpr c8
                  clear c8
                  have H' := Aside0.mk H
                  clear H
                  have p101 : 0 ≤ (x13_1 : Int) := of_decide_eq_true (by first | (with_reducible assumption) | assumption)
                  have q101 : x13_1 < (l0.length : Int) := of_decide_eq_true (by first | (with_reducible assumption) | assumption)
                  obtain ⟨ad101, e101, hx101_0⟩ := Kd.at_int HR0.out x13_1 p101 q101
                  cases e101
                  replace p101 := eq_true p101
                  replace q101 := eq_true q101
                  have p102 : 0 ≤ (x13_1 : Int) := of_decide_eq_true (by first | (with_reducible assumption) | assumption)
                  have q102 : x13_1 < (l1.length : Int) := of_decide_eq_true (by first | (with_reducible assumption) | assumption)
                  obtain ⟨ad102, e102, hx102_0⟩ := Kd.at_int HR1.out x13_1 p102 q102
                  cases e102
                  replace p102 := eq_true p102
                  replace q102 := eq_true q102
                  go_wp2
                  repeat (go_quiet (fail); try go_wp2)
                  go_roundg k1
                  case measure => have := HK1.out; omega
                  case rel => exact ⟨(wrap64 (x13_1 + 1)), (by first | rfl | (simp; done) | (simp [*]; done)), H', ⟨by have := HK1.out; omega⟩, by repeat (first | exact Drawn0.refl _ | apply Drawn0.step)⟩
                · rw [if_neg c8] at H
                  have c8b0 : ((rd l0 x13_1) == (rd l1 x13_1)) = false := beq_eq_false_iff_ne.mpr c8
                  have c8b1 : ((rd l0 x13_1) != (rd l1 x13_1)) = true := bne_iff_ne.mpr c8
                  obtain rfl := Option.some.inj H
                  have p101 : 0 ≤ (x13_1 : Int) := of_decide_eq_true (by first | (with_reducible assumption) | assumption)
                  have q101 : x13_1 < (l0.length : Int) := of_decide_eq_true (by first | (with_reducible assumption) | assumption)
                  obtain ⟨ad101, e101, hx101_0⟩ := Kd.at_int HR0.out x13_1 p101 q101
                  cases e101
                  replace p101 := eq_true p101
                  replace q101 := eq_true q101
                  have p102 : 0 ≤ (x13_1 : Int) := of_decide_eq_true (by first | (with_reducible assumption) | assumption)
                  have q102 : x13_1 < (l1.length : Int) := of_decide_eq_true (by first | (with_reducible assumption) | assumption)
                  obtain ⟨ad102, e102, hx102_0⟩ := Kd.at_int HR1.out x13_1 p102 q102
                  cases e102
                  replace p102 := eq_true p102
                  replace q102 := eq_true q102
                  go_wp2
                  repeat (go_quiet (fail); try go_wp2)
                  go_ret
                  exact ⟨by first | rfl | (simp; done) | (simp [*]; done), by repeat (first | exact Drawn0.refl _ | apply Drawn0.step)⟩
              · rw [if_neg c7] at H
                exact absurd H (by simp)
            · rw [if_neg c6] at H
              exact absurd H (by simp)
          · rw [if_neg c5] at H
            exact absurd H (by simp)
        · rw [if_neg c4] at H
          have c4b0 : decide (x13_1 < (l0.length : Int)) = false := decide_eq_false c4
          clear c4
          obtain rfl := Option.some.inj H
          go_wp2
          repeat (go_quiet (fail); try go_wp2)
          go_ret
          exact ⟨by first | rfl | (simp; done) | (simp [*]; done), by repeat (first | exact Drawn0.refl _ | apply Drawn0.step)⟩
  · rw [if_neg c3] at H
    have c3b0 : ((l0.length : Int) == (l1.length : Int)) = false := beq_eq_false_iff_ne.mpr c3
    have c3b1 : ((l0.length : Int) != (l1.length : Int)) = true := bne_iff_ne.mpr c3
    have c3b2 : (l0.length == l1.length) = false := by first | simpa using c3 | (simp at c3 ⊢; omega)
    obtain rfl := Option.some.inj H
    go_enter Try.func35, Try.ntmps35
    go_wp2
    repeat (go_quiet (fail); try go_wp2)
    go_ret
    exact ⟨by first | rfl | (simp; done) | (simp [*]; done), by repeat (first | exact Drawn0.refl _ | apply Drawn0.step)⟩

end Go.Proofs.Ytkbcjagkacijnaa.PPl
end
section
-- Written for this claim by this project's own driver over the kit's print: functions and their contracts.
-- findfix
namespace Go.Proofs.Ytkbcjagkacijnaa.PPl
open Go.RowKit Go.Proofs.YtkbcjagkacijnaaW.PrintWords Go.Proofs.YtkbcjagkacijnaaW.PrintLast Go.Proofs.YtkbcjagkacijnaaW.PrintMore
attribute [local go_sem] max2_int min2_int max_two min_two max_three min_three max_four min_four   -- for this text's walks alone
set_option linter.unusedVariables false
set_option linter.unusedSimpArgs false

def furlonglaw07_awake.f (k : Nat)  : Option (Bool) := (place_Find.f (([(⟨1, 4, 9, 0, 0⟩ : S46), (⟨2, 2, 9, 0, 0⟩ : S46)] : List (S46))) (([(⟨5, 0, 1, (([0, 2] : List Int)), 0, 0, 0, false⟩ : S50)] : List (S50))) 2 3).bind fun bt112 => (if bt112.1 = 1 then (if bt112.2.2 = 0 then ((furlongref01_Ints.f k bt112.2.1 (([1, 3] : List Int))).bind fun t120 => (some t120)) else (some false)) else (some false))
theorem furlonglaw07_awake.mono : ∀ k, LeO (furlonglaw07_awake.f k ) (furlonglaw07_awake.f (k + 1) ) := by
  intro  k
  unfold furlonglaw07_awake.f
  repeat' first
      | (with_reducible exact furlongref01_Ints.mono _ _ _)
      | (with_reducible exact LeO.refl _)
      | (with_reducible exact LeO.none _)
      | (with_reducible refine LeO.ite ?_ ?_)
      | (with_reducible refine LeO.bind ?_ (fun _ => ?_))
      | exact furlongref01_Ints.mono _ _ _
      | exact LeO.none _
      | refine LeO.ite ?_ ?_
      | refine LeO.bind ?_ (fun _ => ?_)
set_option maxHeartbeats 8000000 in
set_option maxRecDepth 100000 in
theorem furlonglaw07_awake.calls (k : Nat)  (r : Bool) (w : World) (h : furlonglaw07_awake.f k  = some r) :
  Calls Try.prog 31 #[] w fun e w' => e = .returned (.bool r) ∧ Below w.heap.size w w' := by
 have hu46 := Try.underlying46
 have hu50 := Try.underlying50
 have hu25 := Try.underlying25
 have HB := Aside0.mk (Below.refl w.heap.size w)
 have H : ((place_Find.f (([(⟨1, 4, 9, 0, 0⟩ : S46), (⟨2, 2, 9, 0, 0⟩ : S46)] : List (S46))) (([(⟨5, 0, 1, (([0, 2] : List Int)), 0, 0, 0, false⟩ : S50)] : List (S50))) 2 3).bind fun bt112 => (if bt112.1 = 1 then (if bt112.2.2 = 0 then ((furlongref01_Ints.f k bt112.2.1 (([1, 3] : List Int))).bind fun t120 => (some t120)) else (some false)) else (some false))) = some r := h
 clear h
 obtain ⟨y103, hy103⟩ : ∃ y_ : List (S46), y_ = (([(⟨1, 4, 9, 0, 0⟩ : S46), (⟨2, 2, 9, 0, 0⟩ : S46)] : List (S46))) := ⟨_, rfl⟩
 replace H : ((place_Find.f y103 (([(⟨5, 0, 1, (([0, 2] : List Int)), 0, 0, 0, false⟩ : S50)] : List (S50))) 2 3).bind fun bt112 => (if bt112.1 = 1 then (if bt112.2.2 = 0 then ((furlongref01_Ints.f k bt112.2.1 (([1, 3] : List Int))).bind fun t120 => (some t120)) else (some false)) else (some false))) = some r := by first | (rw [hy103]; with_reducible exact H) | (have H2_ := (Option.bind_some _ _).symm.trans H; rw [hy103]; with_reducible exact H2_) | (have H2_ := (Option.bind_some _ _).symm.trans H; with_reducible exact H2_) | with_reducible exact H | (rw [hy103]; exact H) | exact H
 have Ny103 := Aside0.mk hy103
 clear hy103
 obtain ⟨y106, hy106⟩ : ∃ y_ : List Int, y_ = (([0, 2] : List Int)) := ⟨_, rfl⟩
 replace H : ((place_Find.f y103 (([(⟨5, 0, 1, y106, 0, 0, 0, false⟩ : S50)] : List (S50))) 2 3).bind fun bt112 => (if bt112.1 = 1 then (if bt112.2.2 = 0 then ((furlongref01_Ints.f k bt112.2.1 (([1, 3] : List Int))).bind fun t120 => (some t120)) else (some false)) else (some false))) = some r := by first | (rw [hy106]; with_reducible exact H) | (have H2_ := (Option.bind_some _ _).symm.trans H; rw [hy106]; with_reducible exact H2_) | (have H2_ := (Option.bind_some _ _).symm.trans H; with_reducible exact H2_) | with_reducible exact H | (rw [hy106]; exact H) | exact H
 have Ny106 := Aside0.mk hy106
 clear hy106
 obtain ⟨y109, hy109⟩ : ∃ y_ : List (S50), y_ = (([(⟨5, 0, 1, y106, 0, 0, 0, false⟩ : S50)] : List (S50))) := ⟨_, rfl⟩
 replace H : ((place_Find.f y103 y109 2 3).bind fun bt112 => (if bt112.1 = 1 then (if bt112.2.2 = 0 then ((furlongref01_Ints.f k bt112.2.1 (([1, 3] : List Int))).bind fun t120 => (some t120)) else (some false)) else (some false))) = some r := by first | (rw [hy109]; with_reducible exact H) | (have H2_ := (Option.bind_some _ _).symm.trans H; rw [hy109]; with_reducible exact H2_) | (have H2_ := (Option.bind_some _ _).symm.trans H; with_reducible exact H2_) | with_reducible exact H | (rw [hy109]; exact H) | exact H
 have Ny109 := Aside0.mk hy109
 clear hy109
 replace H := Option.bind_eq_some_iff.mp H
 obtain ⟨⟨t112, t113, t116⟩, A10, H⟩ := H
 replace H : (if t112 = 1 then (if t116 = 0 then ((furlongref01_Ints.f k t113 (([1, 3] : List Int))).bind fun t120 => (some t120)) else (some false)) else (some false)) = some r := H
 have A1 := Aside0.mk A10
 clear A10
 by_cases c2 : t112 = 1
 ·
  rw [if_pos c2] at H
  have c2b0 : (t112 == 1) = true := beq_iff_eq.mpr c2
  have c2b1 : (t112 != 1) = false := bne_eq_false_iff_eq.mpr c2
  clear c2
  by_cases c3 : t116 = 0
  ·
   rw [if_pos c3] at H
   have c3b0 : (t116 == 0) = true := beq_iff_eq.mpr c3
   have c3b1 : (t116 != 0) = false := bne_eq_false_iff_eq.mpr c3
   clear c3
   obtain ⟨y117, hy117⟩ : ∃ y_ : List Int, y_ = (([1, 3] : List Int)) := ⟨_, rfl⟩
   replace H : ((furlongref01_Ints.f k t113 y117).bind fun t120 => (some t120)) = some r := by first | (rw [hy117]; with_reducible exact H) | (have H2_ := (Option.bind_some _ _).symm.trans H; rw [hy117]; with_reducible exact H2_) | (have H2_ := (Option.bind_some _ _).symm.trans H; with_reducible exact H2_) | with_reducible exact H | (rw [hy117]; exact H) | exact H
   have Ny117 := Aside0.mk hy117
   clear hy117
   replace H := Option.bind_eq_some_iff.mp H
   obtain ⟨t120, A40, H⟩ := H
   replace H : (some t120) = some r := H
   have A4 := Aside0.mk A40
   clear A40
   obtain rfl := Option.some.inj H
   go_enter Try.func31, Try.ntmps31
   go_wp2_with (first | ((with_reducible refine gate_dst (N := 7) rfl ?_); (try (refine gate_guard (by rfl) ?_; dsimp only)); refine Kd.R_lit k46 _ 46 ?hg (N := 7) ?hd (xs := ([(⟨1, 4, 9, 0, 0⟩ : S46), (⟨2, 2, 9, 0, 0⟩ : S46)] : List (S46))) (inner := [.int .i64 1, .int .i64 4, .int .i64 9, .int .i64 0, .int .i64 0, .int .i64 2, .int .i64 2, .int .i64 9, .int .i64 0, .int .i64 0]) (ok := fun _ => True) (okp := fun _ => True) ?hr ?hp (fun _ hk => hk) trivial (Below.refl _ _) (Nat.le_refl _) (by simp) ?_; (case hd => rfl); (case hg => rfl); (case hr => first | (go_simp; done) | (go_simp; rfl)); (case hp => exact (Reps.c5 (show Kd.M k46 _ _ _ (⟨1, 4, 9, 0, 0⟩ : S46) [.int .i64 1, .int .i64 4, .int .i64 9, .int .i64 0, .int .i64 0] from (k46_mkM _ _ _ (⟨1, 4, 9, 0, 0⟩ : S46) )) (Reps.c5 (show Kd.M k46 _ _ _ (⟨2, 2, 9, 0, 0⟩ : S46) [.int .i64 2, .int .i64 2, .int .i64 9, .int .i64 0, .int .i64 0] from (k46_mkM _ _ _ (⟨2, 2, 9, 0, 0⟩ : S46) )) (Reps.none _ _)))); intro v104 w5 ho6 hb hg_ hnew_; clear hg_ hnew_; (first | rw [← Ny103.out] at ho6 | (simp only [Int.reduceToNat] at ho6; rw [← Ny103.out] at ho6)); have n0_ := Aside0.mk (Kd.R_lower ho6 (below_size (by repeat (first | (with_reducible first | exact HB.out | apply below_alloc | apply pw_below_drewN | apply below_drew1) | exact HB.out)))); have n1_ := Aside0.mk (below_step (by repeat (first | (with_reducible first | exact HB.out | apply below_alloc | apply pw_below_drewN | apply below_drew1) | exact HB.out)) hb); clear HB; have HO105 := n0_; have HB := n1_; clear n0_ n1_; clear hb ho6) | ((with_reducible refine gate_dst (N := 10) rfl ?_); (try (refine gate_guard (by rfl) ?_; dsimp only)); refine Kd.R_lit (Kd.int .i64) _ 3 ?hg (N := 10) ?hd (xs := ([0, 2] : List Int)) (inner := [.int .i64 0, .int .i64 2]) (ok := fun _ => True) (okp := fun _ => True) ?hr ?hp (fun _ hk => hk) trivial (Below.refl _ _) (Nat.le_refl _) (by simp) ?_; (case hd => rfl); (case hg => rfl); (case hr => first | (go_simp; done) | (go_simp; rfl)); (case hp => exact (Reps.one (show Kd.M (Kd.int .i64) _ _ _ 0 [.int .i64 0] from rfl) (Reps.one (show Kd.M (Kd.int .i64) _ _ _ 2 [.int .i64 2] from rfl) (Reps.none _ _)))); intro v107 w7 ho8 hb hg_ hnew_; clear hg_ hnew_; (first | rw [← Ny106.out] at ho8 | (simp only [Int.reduceToNat] at ho8; rw [← Ny106.out] at ho8)); have n0_ := Aside0.mk (Kd.R_below (by (with_reducible repeat (first | apply Kd.R_alloc | apply Kd.R_drewN | apply Kd.R_drew)); exact HO105.out) hb); have n1_ := Aside0.mk (Kd.R_lower ho8 (below_size (by repeat (first | (with_reducible first | exact HB.out | apply below_alloc | apply pw_below_drewN | apply below_drew1) | exact HB.out)))); have n2_ := Aside0.mk (below_step (by repeat (first | (with_reducible first | exact HB.out | apply below_alloc | apply pw_below_drewN | apply below_drew1) | exact HB.out)) hb); clear HO105; clear HB; have HO105 := n0_; have HO108 := n1_; have HB := n2_; clear n0_ n1_ n2_; clear hb ho8; obtain ⟨Ao9, co9, eo9⟩ := Kd.R_slice HO108.out; subst eo9) | ((with_reducible refine gate_dst (N := 12) rfl ?_); (try (refine gate_guard (by rfl) ?_; dsimp only)); refine Kd.N_lit k50 _ 50 ?hg (N' := 12) ?hd (xs := ([(⟨5, 0, 1, y106, 0, 0, 0, false⟩ : S50)] : List (S50))) (inner := [.int .i64 5, .int .i64 0, .int .i64 1, .slice Ao9 y106.length co9, .int .i64 0, .int .i64 0, .int .i64 0, .bool false]) (ok := (fun k_ => some k_ ≠ (v104 : Value).ownBlock)) (okp := (fun k_ => some k_ ≠ (v104 : Value).ownBlock)) ?hr ?hp (fun _ hk => hk) ((show ∀ k_, w7.heap.size ≤ k_ → (fun k_ => some k_ ≠ (v104 : Value).ownBlock) k_ from fun k_ hk => Kd.fresh' (Kd.R_lt (by (with_reducible repeat (first | apply Kd.R_alloc | apply Kd.R_drewN | apply Kd.R_drew)); exact HO105.out)) k_ hk) _ (Nat.le_refl _)) (Below.refl _ _) (Nat.le_refl _) (by simp) ?_; (case hd => rfl); (case hg => rfl); (case hr => first | (go_simp; done) | (go_simp; rfl)); (case hp => exact (Reps.c8 (show Kd.FK k50 _ _ (⟨5, 0, 1, y106, 0, 0, 0, false⟩ : S50) [.int .i64 5, .int .i64 0, .int .i64 1, .slice Ao9 y106.length co9, .int .i64 0, .int .i64 0, .int .i64 0, .bool false] from (k50_mkF _ _ (⟨5, 0, 1, y106, 0, 0, 0, false⟩ : S50) (Kd.R_reads' (Kd.R_mono (ok' := (fun k_ => some k_ ≠ (v104 : Value).ownBlock)) (Kd.R_apart' (HO108.out) (Kd.R_typed HO105.out) (by decide)) (fun k_ hk => hk.2))).2.1 (Kd.R_F (Kd.R_mono (ok' := (fun k_ => some k_ ≠ (v104 : Value).ownBlock)) (Kd.R_apart' (HO108.out) (Kd.R_typed HO105.out) (by decide)) (fun k_ hk => hk.2))))) (Reps.none _ _))); intro v110 w10 ho11 hb hg_ hnew_; clear hg_ hnew_; (first | rw [← Ny109.out] at ho11 | (simp only [Int.reduceToNat] at ho11; rw [← Ny109.out] at ho11)); have n0_ := Aside0.mk (Kd.R_below (by (with_reducible repeat (first | apply Kd.R_alloc | apply Kd.R_drewN | apply Kd.R_drew)); exact HO105.out) hb); have n1_ := Aside0.mk (Kd.N_lower ho11 (below_size (by repeat (first | (with_reducible first | exact HB.out | apply below_alloc | apply pw_below_drewN | apply below_drew1) | exact HB.out)))); have n2_ := Aside0.mk (below_step (by repeat (first | (with_reducible first | exact HB.out | apply below_alloc | apply pw_below_drewN | apply below_drew1) | exact HB.out)) hb); clear HO105; clear HB; clear HO108; have HO105 := n0_; have HO111 := n1_; have HB := n2_; clear n0_ n1_ n2_; clear hb ho11; obtain ⟨Ao12, co12, eo12⟩ := Kd.R_slice HO105.out; subst eo12; obtain ⟨Ao13, co13, eo13⟩ := Kd.N_slice HO111.out; subst eo13) | ((with_reducible refine gate_callee (f := 33) rfl ?_); refine goesL_ (some 14) rfl rfl Try.func33 (by kernel_rfl) rfl #[.slice Ao12 y103.length co12, .slice Ao13 y109.length co13, .agg #[.int .i64 2, .int .i64 3]] rfl (by (try simp only [List.map_toArray, List.map_cons, List.map_nil]); first | done | rfl | (simp only [List.length_drop, List.length_take]; rfl)) ?_; (with_reducible refine (place_Find.calls _ _ y103 _ _ y109 2 3 t112 t113 t116 _ ?side1 ?side2 ?side3 ?side4 A1.out).mono ?_); (case side1 => repeat (first | exact (Kd.R_reads' HO105.out).2.2 | (with_reducible refine Kd.C_alloc ?_ _) | (with_reducible refine Kd.C_drewN ?_ _) | (with_reducible refine Kd.C_drew ?_))); (case side2 => exact (Kd.R_reads' HO105.out).2.1); (case side3 => repeat (first | exact (Kd.N_reads' HO111.out).2.2 | (with_reducible refine Kd.C_alloc ?_ _) | (with_reducible refine Kd.C_drewN ?_ _) | (with_reducible refine Kd.C_drew ?_))); (case side4 => exact (Kd.N_reads' HO111.out).2.1); rintro e w14 ⟨AF, cF, rfl, ho0, hb⟩; refine ⟨_, rfl, ?_⟩; have n0_ := Aside0.mk (Kd.R_below (by (with_reducible repeat (first | apply Kd.R_alloc | apply Kd.R_drewN | apply Kd.R_drew)); exact HO105.out) hb); have n1_ := Aside0.mk (Kd.N_elder' (by (with_reducible repeat (first | apply Kd.N_alloc | apply Kd.N_drewN | apply Kd.N_drew)); exact HO111.out) (Kd.R_base ho0) hb); have n2_ := Aside0.mk (Kd.R_lower ho0 (below_size (by repeat (first | (with_reducible first | exact HB.out | apply below_alloc | apply pw_below_drewN | apply below_drew1) | exact HB.out)))); have n3_ := Aside0.mk (below_step (by repeat (first | (with_reducible first | exact HB.out | apply below_alloc | apply pw_below_drewN | apply below_drew1) | exact HB.out)) hb); clear HO105; clear HO111; clear HB; have HO105 := n0_; have HO111 := n1_; have HO115 := n2_; have HB := n3_; clear n0_ n1_ n2_ n3_; (try clear hb); (try clear hb2); (try clear hk); (try clear hi); (try clear ho0)) | ((with_reducible refine gate_dst (N := 26) rfl ?_); (try (refine gate_guard (by rfl) ?_; dsimp only)); refine Kd.R_lit (Kd.int .i64) _ 3 ?hg (N := 26) ?hd (xs := ([1, 3] : List Int)) (inner := [.int .i64 1, .int .i64 3]) (ok := fun _ => True) (okp := fun _ => True) ?hr ?hp (fun _ hk => hk) trivial (Below.refl _ _) (Nat.le_refl _) (by simp) ?_; (case hd => rfl); (case hg => rfl); (case hr => first | (go_simp; done) | (go_simp; rfl)); (case hp => exact (Reps.one (show Kd.M (Kd.int .i64) _ _ _ 1 [.int .i64 1] from rfl) (Reps.one (show Kd.M (Kd.int .i64) _ _ _ 3 [.int .i64 3] from rfl) (Reps.none _ _)))); intro v118 w15 ho16 hb hg_ hnew_; clear hg_ hnew_; (first | rw [← Ny117.out] at ho16 | (simp only [Int.reduceToNat] at ho16; rw [← Ny117.out] at ho16)); have n0_ := Aside0.mk (Kd.R_below (by (with_reducible repeat (first | apply Kd.R_alloc | apply Kd.R_drewN | apply Kd.R_drew)); exact HO105.out) hb); have n1_ := Aside0.mk (Kd.N_elder' (by (with_reducible repeat (first | apply Kd.N_alloc | apply Kd.N_drewN | apply Kd.N_drew)); exact HO111.out) (Kd.R_base ho16) hb); have n2_ := Aside0.mk (Kd.R_elder' (by (with_reducible repeat (first | apply Kd.R_alloc | apply Kd.R_drewN | apply Kd.R_drew)); exact HO115.out) (Kd.R_base ho16) hb); have n3_ := Aside0.mk (Kd.R_lower (Kd.R_new' ho16 (Kd.R_lt (by (with_reducible repeat (first | apply Kd.R_alloc | apply Kd.R_drewN | apply Kd.R_drew)); exact HO115.out))) (below_size (by repeat (first | (with_reducible first | exact HB.out | apply below_alloc | apply pw_below_drewN | apply below_drew1) | exact HB.out)))); have n4_ := Aside0.mk (below_step (by repeat (first | (with_reducible first | exact HB.out | apply below_alloc | apply pw_below_drewN | apply below_drew1) | exact HB.out)) hb); clear HO105; clear HO111; clear HO115; clear HB; have HO105 := n0_; have HO111 := n1_; have HO115 := n2_; have HO119 := n3_; have HB := n4_; clear n0_ n1_ n2_ n3_ n4_; clear hb ho16; skip; obtain ⟨Ao18, co18, eo18⟩ := Kd.R_slice HO119.out; subst eo18) | (go_at_call 35; (with_reducible refine (furlongref01_Ints.calls k _ _ t113 _ _ y117 t120 _ ?side1 ?side2 ?side3 ?side4 A4.out).mono ?_); (case side1 => repeat (first | exact (Kd.R_reads' HO115.out).2.2 | (with_reducible refine Kd.C_alloc ?_ _) | (with_reducible refine Kd.C_drewN ?_ _) | (with_reducible refine Kd.C_drew ?_))); (case side2 => first | exact Nat.le_refl _ | exact (Kd.R_reads' HO115.out).2.1); (case side3 => repeat (first | exact (Kd.R_reads' HO119.out).2.2 | (with_reducible refine Kd.C_alloc ?_ _) | (with_reducible refine Kd.C_drewN ?_ _) | (with_reducible refine Kd.C_drew ?_))); (case side4 => exact (Kd.R_reads' HO119.out).2.1); rintro e w' ⟨rfl, ⟨nd, rfl⟩⟩))
   go_ret
   exact ⟨by first | rfl | (simp [errW_none, errW_some] <;> rfl) | (simp [*, errW_none, errW_some] <;> rfl), by repeat (first | (with_reducible first | exact HB.out | apply below_alloc | apply pw_below_drewN | apply below_drew1) | exact HB.out)⟩
  ·
   rw [if_neg c3] at H
   have c3b0 : (t116 == 0) = false := beq_eq_false_iff_ne.mpr c3
   have c3b1 : (t116 != 0) = true := bne_iff_ne.mpr c3
   obtain rfl := Option.some.inj H
   go_enter Try.func31, Try.ntmps31
   go_wp2_with (first | ((with_reducible refine gate_dst (N := 7) rfl ?_); (try (refine gate_guard (by rfl) ?_; dsimp only)); refine Kd.R_lit k46 _ 46 ?hg (N := 7) ?hd (xs := ([(⟨1, 4, 9, 0, 0⟩ : S46), (⟨2, 2, 9, 0, 0⟩ : S46)] : List (S46))) (inner := [.int .i64 1, .int .i64 4, .int .i64 9, .int .i64 0, .int .i64 0, .int .i64 2, .int .i64 2, .int .i64 9, .int .i64 0, .int .i64 0]) (ok := fun _ => True) (okp := fun _ => True) ?hr ?hp (fun _ hk => hk) trivial (Below.refl _ _) (Nat.le_refl _) (by simp) ?_; (case hd => rfl); (case hg => rfl); (case hr => first | (go_simp; done) | (go_simp; rfl)); (case hp => exact (Reps.c5 (show Kd.M k46 _ _ _ (⟨1, 4, 9, 0, 0⟩ : S46) [.int .i64 1, .int .i64 4, .int .i64 9, .int .i64 0, .int .i64 0] from (k46_mkM _ _ _ (⟨1, 4, 9, 0, 0⟩ : S46) )) (Reps.c5 (show Kd.M k46 _ _ _ (⟨2, 2, 9, 0, 0⟩ : S46) [.int .i64 2, .int .i64 2, .int .i64 9, .int .i64 0, .int .i64 0] from (k46_mkM _ _ _ (⟨2, 2, 9, 0, 0⟩ : S46) )) (Reps.none _ _)))); intro v104 w19 ho20 hb hg_ hnew_; clear hg_ hnew_; (first | rw [← Ny103.out] at ho20 | (simp only [Int.reduceToNat] at ho20; rw [← Ny103.out] at ho20)); have n0_ := Aside0.mk (Kd.R_lower ho20 (below_size (by repeat (first | (with_reducible first | exact HB.out | apply below_alloc | apply pw_below_drewN | apply below_drew1) | exact HB.out)))); have n1_ := Aside0.mk (below_step (by repeat (first | (with_reducible first | exact HB.out | apply below_alloc | apply pw_below_drewN | apply below_drew1) | exact HB.out)) hb); clear HB; have HO105 := n0_; have HB := n1_; clear n0_ n1_; clear hb ho20) | ((with_reducible refine gate_dst (N := 10) rfl ?_); (try (refine gate_guard (by rfl) ?_; dsimp only)); refine Kd.R_lit (Kd.int .i64) _ 3 ?hg (N := 10) ?hd (xs := ([0, 2] : List Int)) (inner := [.int .i64 0, .int .i64 2]) (ok := fun _ => True) (okp := fun _ => True) ?hr ?hp (fun _ hk => hk) trivial (Below.refl _ _) (Nat.le_refl _) (by simp) ?_; (case hd => rfl); (case hg => rfl); (case hr => first | (go_simp; done) | (go_simp; rfl)); (case hp => exact (Reps.one (show Kd.M (Kd.int .i64) _ _ _ 0 [.int .i64 0] from rfl) (Reps.one (show Kd.M (Kd.int .i64) _ _ _ 2 [.int .i64 2] from rfl) (Reps.none _ _)))); intro v107 w21 ho22 hb hg_ hnew_; clear hg_ hnew_; (first | rw [← Ny106.out] at ho22 | (simp only [Int.reduceToNat] at ho22; rw [← Ny106.out] at ho22)); have n0_ := Aside0.mk (Kd.R_below (by (with_reducible repeat (first | apply Kd.R_alloc | apply Kd.R_drewN | apply Kd.R_drew)); exact HO105.out) hb); have n1_ := Aside0.mk (Kd.R_lower ho22 (below_size (by repeat (first | (with_reducible first | exact HB.out | apply below_alloc | apply pw_below_drewN | apply below_drew1) | exact HB.out)))); have n2_ := Aside0.mk (below_step (by repeat (first | (with_reducible first | exact HB.out | apply below_alloc | apply pw_below_drewN | apply below_drew1) | exact HB.out)) hb); clear HO105; clear HB; have HO105 := n0_; have HO108 := n1_; have HB := n2_; clear n0_ n1_ n2_; clear hb ho22; obtain ⟨Ao23, co23, eo23⟩ := Kd.R_slice HO108.out; subst eo23) | ((with_reducible refine gate_dst (N := 12) rfl ?_); (try (refine gate_guard (by rfl) ?_; dsimp only)); refine Kd.N_lit k50 _ 50 ?hg (N' := 12) ?hd (xs := ([(⟨5, 0, 1, y106, 0, 0, 0, false⟩ : S50)] : List (S50))) (inner := [.int .i64 5, .int .i64 0, .int .i64 1, .slice Ao23 y106.length co23, .int .i64 0, .int .i64 0, .int .i64 0, .bool false]) (ok := (fun k_ => some k_ ≠ (v104 : Value).ownBlock)) (okp := (fun k_ => some k_ ≠ (v104 : Value).ownBlock)) ?hr ?hp (fun _ hk => hk) ((show ∀ k_, w21.heap.size ≤ k_ → (fun k_ => some k_ ≠ (v104 : Value).ownBlock) k_ from fun k_ hk => Kd.fresh' (Kd.R_lt (by (with_reducible repeat (first | apply Kd.R_alloc | apply Kd.R_drewN | apply Kd.R_drew)); exact HO105.out)) k_ hk) _ (Nat.le_refl _)) (Below.refl _ _) (Nat.le_refl _) (by simp) ?_; (case hd => rfl); (case hg => rfl); (case hr => first | (go_simp; done) | (go_simp; rfl)); (case hp => exact (Reps.c8 (show Kd.FK k50 _ _ (⟨5, 0, 1, y106, 0, 0, 0, false⟩ : S50) [.int .i64 5, .int .i64 0, .int .i64 1, .slice Ao23 y106.length co23, .int .i64 0, .int .i64 0, .int .i64 0, .bool false] from (k50_mkF _ _ (⟨5, 0, 1, y106, 0, 0, 0, false⟩ : S50) (Kd.R_reads' (Kd.R_mono (ok' := (fun k_ => some k_ ≠ (v104 : Value).ownBlock)) (Kd.R_apart' (HO108.out) (Kd.R_typed HO105.out) (by decide)) (fun k_ hk => hk.2))).2.1 (Kd.R_F (Kd.R_mono (ok' := (fun k_ => some k_ ≠ (v104 : Value).ownBlock)) (Kd.R_apart' (HO108.out) (Kd.R_typed HO105.out) (by decide)) (fun k_ hk => hk.2))))) (Reps.none _ _))); intro v110 w24 ho25 hb hg_ hnew_; clear hg_ hnew_; (first | rw [← Ny109.out] at ho25 | (simp only [Int.reduceToNat] at ho25; rw [← Ny109.out] at ho25)); have n0_ := Aside0.mk (Kd.R_below (by (with_reducible repeat (first | apply Kd.R_alloc | apply Kd.R_drewN | apply Kd.R_drew)); exact HO105.out) hb); have n1_ := Aside0.mk (Kd.N_lower ho25 (below_size (by repeat (first | (with_reducible first | exact HB.out | apply below_alloc | apply pw_below_drewN | apply below_drew1) | exact HB.out)))); have n2_ := Aside0.mk (below_step (by repeat (first | (with_reducible first | exact HB.out | apply below_alloc | apply pw_below_drewN | apply below_drew1) | exact HB.out)) hb); clear HO105; clear HB; clear HO108; have HO105 := n0_; have HO111 := n1_; have HB := n2_; clear n0_ n1_ n2_; clear hb ho25; obtain ⟨Ao26, co26, eo26⟩ := Kd.R_slice HO105.out; subst eo26; obtain ⟨Ao27, co27, eo27⟩ := Kd.N_slice HO111.out; subst eo27) | ((with_reducible refine gate_callee (f := 33) rfl ?_); refine goesL_ (some 14) rfl rfl Try.func33 (by kernel_rfl) rfl #[.slice Ao26 y103.length co26, .slice Ao27 y109.length co27, .agg #[.int .i64 2, .int .i64 3]] rfl (by (try simp only [List.map_toArray, List.map_cons, List.map_nil]); first | done | rfl | (simp only [List.length_drop, List.length_take]; rfl)) ?_; (with_reducible refine (place_Find.calls _ _ y103 _ _ y109 2 3 t112 t113 t116 _ ?side1 ?side2 ?side3 ?side4 A1.out).mono ?_); (case side1 => repeat (first | exact (Kd.R_reads' HO105.out).2.2 | (with_reducible refine Kd.C_alloc ?_ _) | (with_reducible refine Kd.C_drewN ?_ _) | (with_reducible refine Kd.C_drew ?_))); (case side2 => exact (Kd.R_reads' HO105.out).2.1); (case side3 => repeat (first | exact (Kd.N_reads' HO111.out).2.2 | (with_reducible refine Kd.C_alloc ?_ _) | (with_reducible refine Kd.C_drewN ?_ _) | (with_reducible refine Kd.C_drew ?_))); (case side4 => exact (Kd.N_reads' HO111.out).2.1); rintro e w28 ⟨AF, cF, rfl, ho0, hb⟩; refine ⟨_, rfl, ?_⟩; have n0_ := Aside0.mk (Kd.R_below (by (with_reducible repeat (first | apply Kd.R_alloc | apply Kd.R_drewN | apply Kd.R_drew)); exact HO105.out) hb); have n1_ := Aside0.mk (Kd.N_elder' (by (with_reducible repeat (first | apply Kd.N_alloc | apply Kd.N_drewN | apply Kd.N_drew)); exact HO111.out) (Kd.R_base ho0) hb); have n2_ := Aside0.mk (Kd.R_lower ho0 (below_size (by repeat (first | (with_reducible first | exact HB.out | apply below_alloc | apply pw_below_drewN | apply below_drew1) | exact HB.out)))); have n3_ := Aside0.mk (below_step (by repeat (first | (with_reducible first | exact HB.out | apply below_alloc | apply pw_below_drewN | apply below_drew1) | exact HB.out)) hb); clear HO105; clear HO111; clear HB; have HO105 := n0_; have HO111 := n1_; have HO115 := n2_; have HB := n3_; clear n0_ n1_ n2_ n3_; (try clear hb); (try clear hb2); (try clear hk); (try clear hi); (try clear ho0)))
   go_ret
   exact ⟨by first | rfl | (simp [errW_none, errW_some] <;> rfl) | (simp [*, errW_none, errW_some] <;> rfl), by repeat (first | (with_reducible first | exact HB.out | apply below_alloc | apply pw_below_drewN | apply below_drew1) | exact HB.out)⟩
 ·
  rw [if_neg c2] at H
  have c2b0 : (t112 == 1) = false := beq_eq_false_iff_ne.mpr c2
  have c2b1 : (t112 != 1) = true := bne_iff_ne.mpr c2
  obtain rfl := Option.some.inj H
  go_enter Try.func31, Try.ntmps31
  go_wp2_with (first | ((with_reducible refine gate_dst (N := 7) rfl ?_); (try (refine gate_guard (by rfl) ?_; dsimp only)); refine Kd.R_lit k46 _ 46 ?hg (N := 7) ?hd (xs := ([(⟨1, 4, 9, 0, 0⟩ : S46), (⟨2, 2, 9, 0, 0⟩ : S46)] : List (S46))) (inner := [.int .i64 1, .int .i64 4, .int .i64 9, .int .i64 0, .int .i64 0, .int .i64 2, .int .i64 2, .int .i64 9, .int .i64 0, .int .i64 0]) (ok := fun _ => True) (okp := fun _ => True) ?hr ?hp (fun _ hk => hk) trivial (Below.refl _ _) (Nat.le_refl _) (by simp) ?_; (case hd => rfl); (case hg => rfl); (case hr => first | (go_simp; done) | (go_simp; rfl)); (case hp => exact (Reps.c5 (show Kd.M k46 _ _ _ (⟨1, 4, 9, 0, 0⟩ : S46) [.int .i64 1, .int .i64 4, .int .i64 9, .int .i64 0, .int .i64 0] from (k46_mkM _ _ _ (⟨1, 4, 9, 0, 0⟩ : S46) )) (Reps.c5 (show Kd.M k46 _ _ _ (⟨2, 2, 9, 0, 0⟩ : S46) [.int .i64 2, .int .i64 2, .int .i64 9, .int .i64 0, .int .i64 0] from (k46_mkM _ _ _ (⟨2, 2, 9, 0, 0⟩ : S46) )) (Reps.none _ _)))); intro v104 w29 ho30 hb hg_ hnew_; clear hg_ hnew_; (first | rw [← Ny103.out] at ho30 | (simp only [Int.reduceToNat] at ho30; rw [← Ny103.out] at ho30)); have n0_ := Aside0.mk (Kd.R_lower ho30 (below_size (by repeat (first | (with_reducible first | exact HB.out | apply below_alloc | apply pw_below_drewN | apply below_drew1) | exact HB.out)))); have n1_ := Aside0.mk (below_step (by repeat (first | (with_reducible first | exact HB.out | apply below_alloc | apply pw_below_drewN | apply below_drew1) | exact HB.out)) hb); clear HB; have HO105 := n0_; have HB := n1_; clear n0_ n1_; clear hb ho30) | ((with_reducible refine gate_dst (N := 10) rfl ?_); (try (refine gate_guard (by rfl) ?_; dsimp only)); refine Kd.R_lit (Kd.int .i64) _ 3 ?hg (N := 10) ?hd (xs := ([0, 2] : List Int)) (inner := [.int .i64 0, .int .i64 2]) (ok := fun _ => True) (okp := fun _ => True) ?hr ?hp (fun _ hk => hk) trivial (Below.refl _ _) (Nat.le_refl _) (by simp) ?_; (case hd => rfl); (case hg => rfl); (case hr => first | (go_simp; done) | (go_simp; rfl)); (case hp => exact (Reps.one (show Kd.M (Kd.int .i64) _ _ _ 0 [.int .i64 0] from rfl) (Reps.one (show Kd.M (Kd.int .i64) _ _ _ 2 [.int .i64 2] from rfl) (Reps.none _ _)))); intro v107 w31 ho32 hb hg_ hnew_; clear hg_ hnew_; (first | rw [← Ny106.out] at ho32 | (simp only [Int.reduceToNat] at ho32; rw [← Ny106.out] at ho32)); have n0_ := Aside0.mk (Kd.R_below (by (with_reducible repeat (first | apply Kd.R_alloc | apply Kd.R_drewN | apply Kd.R_drew)); exact HO105.out) hb); have n1_ := Aside0.mk (Kd.R_lower ho32 (below_size (by repeat (first | (with_reducible first | exact HB.out | apply below_alloc | apply pw_below_drewN | apply below_drew1) | exact HB.out)))); have n2_ := Aside0.mk (below_step (by repeat (first | (with_reducible first | exact HB.out | apply below_alloc | apply pw_below_drewN | apply below_drew1) | exact HB.out)) hb); clear HO105; clear HB; have HO105 := n0_; have HO108 := n1_; have HB := n2_; clear n0_ n1_ n2_; clear hb ho32; obtain ⟨Ao33, co33, eo33⟩ := Kd.R_slice HO108.out; subst eo33) | ((with_reducible refine gate_dst (N := 12) rfl ?_); (try (refine gate_guard (by rfl) ?_; dsimp only)); refine Kd.N_lit k50 _ 50 ?hg (N' := 12) ?hd (xs := ([(⟨5, 0, 1, y106, 0, 0, 0, false⟩ : S50)] : List (S50))) (inner := [.int .i64 5, .int .i64 0, .int .i64 1, .slice Ao33 y106.length co33, .int .i64 0, .int .i64 0, .int .i64 0, .bool false]) (ok := (fun k_ => some k_ ≠ (v104 : Value).ownBlock)) (okp := (fun k_ => some k_ ≠ (v104 : Value).ownBlock)) ?hr ?hp (fun _ hk => hk) ((show ∀ k_, w31.heap.size ≤ k_ → (fun k_ => some k_ ≠ (v104 : Value).ownBlock) k_ from fun k_ hk => Kd.fresh' (Kd.R_lt (by (with_reducible repeat (first | apply Kd.R_alloc | apply Kd.R_drewN | apply Kd.R_drew)); exact HO105.out)) k_ hk) _ (Nat.le_refl _)) (Below.refl _ _) (Nat.le_refl _) (by simp) ?_; (case hd => rfl); (case hg => rfl); (case hr => first | (go_simp; done) | (go_simp; rfl)); (case hp => exact (Reps.c8 (show Kd.FK k50 _ _ (⟨5, 0, 1, y106, 0, 0, 0, false⟩ : S50) [.int .i64 5, .int .i64 0, .int .i64 1, .slice Ao33 y106.length co33, .int .i64 0, .int .i64 0, .int .i64 0, .bool false] from (k50_mkF _ _ (⟨5, 0, 1, y106, 0, 0, 0, false⟩ : S50) (Kd.R_reads' (Kd.R_mono (ok' := (fun k_ => some k_ ≠ (v104 : Value).ownBlock)) (Kd.R_apart' (HO108.out) (Kd.R_typed HO105.out) (by decide)) (fun k_ hk => hk.2))).2.1 (Kd.R_F (Kd.R_mono (ok' := (fun k_ => some k_ ≠ (v104 : Value).ownBlock)) (Kd.R_apart' (HO108.out) (Kd.R_typed HO105.out) (by decide)) (fun k_ hk => hk.2))))) (Reps.none _ _))); intro v110 w34 ho35 hb hg_ hnew_; clear hg_ hnew_; (first | rw [← Ny109.out] at ho35 | (simp only [Int.reduceToNat] at ho35; rw [← Ny109.out] at ho35)); have n0_ := Aside0.mk (Kd.R_below (by (with_reducible repeat (first | apply Kd.R_alloc | apply Kd.R_drewN | apply Kd.R_drew)); exact HO105.out) hb); have n1_ := Aside0.mk (Kd.N_lower ho35 (below_size (by repeat (first | (with_reducible first | exact HB.out | apply below_alloc | apply pw_below_drewN | apply below_drew1) | exact HB.out)))); have n2_ := Aside0.mk (below_step (by repeat (first | (with_reducible first | exact HB.out | apply below_alloc | apply pw_below_drewN | apply below_drew1) | exact HB.out)) hb); clear HO105; clear HB; clear HO108; have HO105 := n0_; have HO111 := n1_; have HB := n2_; clear n0_ n1_ n2_; clear hb ho35; obtain ⟨Ao36, co36, eo36⟩ := Kd.R_slice HO105.out; subst eo36; obtain ⟨Ao37, co37, eo37⟩ := Kd.N_slice HO111.out; subst eo37) | ((with_reducible refine gate_callee (f := 33) rfl ?_); refine goesL_ (some 14) rfl rfl Try.func33 (by kernel_rfl) rfl #[.slice Ao36 y103.length co36, .slice Ao37 y109.length co37, .agg #[.int .i64 2, .int .i64 3]] rfl (by (try simp only [List.map_toArray, List.map_cons, List.map_nil]); first | done | rfl | (simp only [List.length_drop, List.length_take]; rfl)) ?_; (with_reducible refine (place_Find.calls _ _ y103 _ _ y109 2 3 t112 t113 t116 _ ?side1 ?side2 ?side3 ?side4 A1.out).mono ?_); (case side1 => repeat (first | exact (Kd.R_reads' HO105.out).2.2 | (with_reducible refine Kd.C_alloc ?_ _) | (with_reducible refine Kd.C_drewN ?_ _) | (with_reducible refine Kd.C_drew ?_))); (case side2 => exact (Kd.R_reads' HO105.out).2.1); (case side3 => repeat (first | exact (Kd.N_reads' HO111.out).2.2 | (with_reducible refine Kd.C_alloc ?_ _) | (with_reducible refine Kd.C_drewN ?_ _) | (with_reducible refine Kd.C_drew ?_))); (case side4 => exact (Kd.N_reads' HO111.out).2.1); rintro e w38 ⟨AF, cF, rfl, ho0, hb⟩; refine ⟨_, rfl, ?_⟩; have n0_ := Aside0.mk (Kd.R_below (by (with_reducible repeat (first | apply Kd.R_alloc | apply Kd.R_drewN | apply Kd.R_drew)); exact HO105.out) hb); have n1_ := Aside0.mk (Kd.N_elder' (by (with_reducible repeat (first | apply Kd.N_alloc | apply Kd.N_drewN | apply Kd.N_drew)); exact HO111.out) (Kd.R_base ho0) hb); have n2_ := Aside0.mk (Kd.R_lower ho0 (below_size (by repeat (first | (with_reducible first | exact HB.out | apply below_alloc | apply pw_below_drewN | apply below_drew1) | exact HB.out)))); have n3_ := Aside0.mk (below_step (by repeat (first | (with_reducible first | exact HB.out | apply below_alloc | apply pw_below_drewN | apply below_drew1) | exact HB.out)) hb); clear HO105; clear HO111; clear HB; have HO105 := n0_; have HO111 := n1_; have HO115 := n2_; have HB := n3_; clear n0_ n1_ n2_ n3_; (try clear hb); (try clear hb2); (try clear hk); (try clear hi); (try clear ho0)))
  go_ret
  exact ⟨by first | rfl | (simp [errW_none, errW_some] <;> rfl) | (simp [*, errW_none, errW_some] <;> rfl), by repeat (first | (with_reducible first | exact HB.out | apply below_alloc | apply pw_below_drewN | apply below_drew1) | exact HB.out)⟩

end Go.Proofs.Ytkbcjagkacijnaa.PPl
end
section
-- Written for this claim by this project's own driver over the kit's print: functions and their contracts.
-- findfix
namespace Go.Proofs.Ytkbcjagkacijnaa.PPl
open Go.RowKit Go.Proofs.YtkbcjagkacijnaaW.PrintWords Go.Proofs.YtkbcjagkacijnaaW.PrintLast Go.Proofs.YtkbcjagkacijnaaW.PrintMore
attribute [local go_sem] max2_int min2_int max_two min_two max_three min_three max_four min_four   -- for this text's walks alone
set_option linter.unusedVariables false
set_option linter.unusedSimpArgs false

mutual
def furlonglaw07_PlaceFits.j0 : Nat → List (S46) → List (S50) → Int → List Int → Int → Bool → Int → Int → Option (Bool)
  | 0, _, _, _, _, _, _, _, _ => none
  | k + 1, x0, x1, x7, x8, x9, x36, x175000, x175001 => if x36 = true then (if x7 = 0 then (some ((x8.length : Int) == 0)) else (some false)) else (furlonglaw07_PlaceFits.l0 k x0 x1 x7 x8 x9 (-1) x0 (x0.length : Int) 0 x175000 x175001)
def furlonglaw07_PlaceFits.l0 : Nat → List (S46) → List (S50) → Int → List Int → Int → Int → List (S46) → Int → Int → Int → Int → Option (Bool)
  | 0, _, _, _, _, _, _, _, _, _, _, _ => none
  | k + 1, x0, x1, x7, x8, x9, x10, x44, x45, x46, x175000, x175001 => if x46 < x45 then (if 0 ≤ x46 then (if x46 < (x44.length : Int) then ((place_Free.f x0 x1 ((rd_T46 x44 x46).f0)).bind fun bt183 => (if bt183.2.2 = 0 then (if ((rd_T46 x44 x46).f0) = x7 then (furlonglaw07_PlaceFits.j2 k x0 x1 x7 x8 x9 x10 bt183.1 bt183.2.1 x44 x45 x46 (x9 == 0) x175000 x175001) else (furlonglaw07_PlaceFits.j2 k x0 x1 x7 x8 x9 x10 bt183.1 bt183.2.1 x44 x45 x46 false x175000 x175001)) else (some false))) else (none)) else (none)) else (furlonglaw07_PlaceFits.l1 k x0 x1 x7 x9 x10 x0 (x0.length : Int) 0 x175000 x175001)
def furlonglaw07_PlaceFits.j2 : Nat → List (S46) → List (S50) → Int → List Int → Int → Int → List Int → Int → List (S46) → Int → Int → Bool → Int → Int → Option (Bool)
  | 0, _, _, _, _, _, _, _, _, _, _, _, _, _, _ => none
  | k + 1, x0, x1, x7, x8, x9, x10, x13, x14, x44, x45, x46, x68, x175000, x175001 => if x68 = true then (if (x8.length : Int) = x175000 then (if (x13.length : Int) < (x8.length : Int) then (some false) else (if x14 < x175001 then (some false) else (if 0 ≤ (x8.length : Int) then (if (x8.length : Int) ≤ (x13.length : Int) then ((furlongref01_Ints.f k x8 (x13.take ((x8.length : Int) : Int).toNat)).bind fun t192 => (if t192 = true then (furlonglaw07_PlaceFits.l0 k x0 x1 x7 x8 x9 (x13.length : Int) x44 x45 (wrap64 (x46 + 1)) x175000 x175001) else (some false))) else (none)) else (none)))) else (some false)) else (furlonglaw07_PlaceFits.l0 k x0 x1 x7 x8 x9 x10 x44 x45 (wrap64 (x46 + 1)) x175000 x175001)
def furlonglaw07_PlaceFits.l1 : Nat → List (S46) → List (S50) → Int → Int → Int → List (S46) → Int → Int → Int → Int → Option (Bool)
  | 0, _, _, _, _, _, _, _, _, _, _ => none
  | k + 1, x0, x1, x7, x9, x10, x99, x100, x101, x175000, x175001 => if x101 < x100 then (if 0 ≤ x101 then (if x101 < (x99.length : Int) then ((place_Free.f x0 x1 ((rd_T46 x99 x101).f0)).bind fun bt195 => (if (bt195.1.length : Int) < x175000 then (furlonglaw07_PlaceFits.j4 k x0 x1 x7 x9 x10 bt195.1 x99 x100 x101 true x175000 x175001 ((rd_T46 x99 x101).f0) ((rd_T46 x99 x101).f1) ((rd_T46 x99 x101).f2) ((rd_T46 x99 x101).f3) ((rd_T46 x99 x101).f4)) else (furlonglaw07_PlaceFits.j4 k x0 x1 x7 x9 x10 bt195.1 x99 x100 x101 (decide (bt195.2.1 < x175001)) x175000 x175001 ((rd_T46 x99 x101).f0) ((rd_T46 x99 x101).f1) ((rd_T46 x99 x101).f2) ((rd_T46 x99 x101).f3) ((rd_T46 x99 x101).f4)))) else (none)) else (none)) else (if x9 = 0 then (some (decide (x10 ≥ 0))) else (some true))
def furlonglaw07_PlaceFits.j4 : Nat → List (S46) → List (S50) → Int → Int → Int → List Int → List (S46) → Int → Int → Bool → Int → Int → Int → Int → Int → Int → Int → Option (Bool)
  | 0, _, _, _, _, _, _, _, _, _, _, _, _, _, _, _, _, _ => none
  | k + 1, x0, x1, x7, x9, x10, x18, x99, x100, x101, x124, x175000, x175001, x195000, x195001, x195002, x195003, x195004 => if x124 = true then (furlonglaw07_PlaceFits.l1 k x0 x1 x7 x9 x10 x99 x100 (wrap64 (x101 + 1)) x175000 x175001) else (if x9 = 0 then (if (x18.length : Int) < x10 then (some false) else (if (x18.length : Int) = x10 then (if x195000 < x7 then (some false) else (furlonglaw07_PlaceFits.l1 k x0 x1 x7 x9 x10 x99 x100 (wrap64 (x101 + 1)) x175000 x175001)) else (furlonglaw07_PlaceFits.l1 k x0 x1 x7 x9 x10 x99 x100 (wrap64 (x101 + 1)) x175000 x175001))) else (some false))
end
def furlonglaw07_PlaceFits.f (k : Nat) (l0 : List (S46)) (l1 : List (S50)) (a2_0 : Int) (a2_1 : Int) : Option (Bool) := (furlonglaw07_awake.f k).bind fun t175 => (if t175 = true then ((place_Find.f l0 l1 a2_0 a2_1).bind fun bt176 => (if bt176.2.2 = 0 then (furlonglaw07_PlaceFits.j0 k l0 l1 bt176.1 bt176.2.1 bt176.2.2 false a2_0 a2_1) else (furlonglaw07_PlaceFits.j0 k l0 l1 bt176.1 bt176.2.1 bt176.2.2 (bt176.2.2 != 10) a2_0 a2_1))) else (some false))
theorem furlonglaw07_PlaceFits.mono_l : ∀ k, (∀ y0 y1 y2 y3 y4 y5 y6 y7, LeO (furlonglaw07_PlaceFits.j0 k y0 y1 y2 y3 y4 y5 y6 y7) (furlonglaw07_PlaceFits.j0 (k + 1) y0 y1 y2 y3 y4 y5 y6 y7)) ∧ (∀ y0 y1 y2 y3 y4 y5 y6 y7 y8 y9 y10, LeO (furlonglaw07_PlaceFits.l0 k y0 y1 y2 y3 y4 y5 y6 y7 y8 y9 y10) (furlonglaw07_PlaceFits.l0 (k + 1) y0 y1 y2 y3 y4 y5 y6 y7 y8 y9 y10)) ∧ (∀ y0 y1 y2 y3 y4 y5 y6 y7 y8 y9 y10 y11 y12 y13, LeO (furlonglaw07_PlaceFits.j2 k y0 y1 y2 y3 y4 y5 y6 y7 y8 y9 y10 y11 y12 y13) (furlonglaw07_PlaceFits.j2 (k + 1) y0 y1 y2 y3 y4 y5 y6 y7 y8 y9 y10 y11 y12 y13)) ∧ (∀ y0 y1 y2 y3 y4 y5 y6 y7 y8 y9, LeO (furlonglaw07_PlaceFits.l1 k y0 y1 y2 y3 y4 y5 y6 y7 y8 y9) (furlonglaw07_PlaceFits.l1 (k + 1) y0 y1 y2 y3 y4 y5 y6 y7 y8 y9)) ∧ (∀ y0 y1 y2 y3 y4 y5 y6 y7 y8 y9 y10 y11 y12 y13 y14 y15 y16, LeO (furlonglaw07_PlaceFits.j4 k y0 y1 y2 y3 y4 y5 y6 y7 y8 y9 y10 y11 y12 y13 y14 y15 y16) (furlonglaw07_PlaceFits.j4 (k + 1) y0 y1 y2 y3 y4 y5 y6 y7 y8 y9 y10 y11 y12 y13 y14 y15 y16))
  | 0 => ⟨fun _ _ _ _ _ _ _ _ r h => by simp [furlonglaw07_PlaceFits.j0] at h, fun _ _ _ _ _ _ _ _ _ _ _ r h => by simp [furlonglaw07_PlaceFits.l0] at h, fun _ _ _ _ _ _ _ _ _ _ _ _ _ _ r h => by simp [furlonglaw07_PlaceFits.j2] at h, fun _ _ _ _ _ _ _ _ _ _ r h => by simp [furlonglaw07_PlaceFits.l1] at h, fun _ _ _ _ _ _ _ _ _ _ _ _ _ _ _ _ _ r h => by simp [furlonglaw07_PlaceFits.j4] at h⟩
  | k + 1 => by
    obtain ⟨ih0, ih1, ih2, ih3, ih4⟩ := furlonglaw07_PlaceFits.mono_l k
    refine ⟨?_, ?_, ?_, ?_, ?_⟩
    · intro y0 y1 y2 y3 y4 y5 y6 y7
      unfold furlonglaw07_PlaceFits.j0
      repeat' first
      | (with_reducible exact ih0 _ _ _ _ _ _ _ _)
      | (with_reducible exact ih1 _ _ _ _ _ _ _ _ _ _ _)
      | (with_reducible exact ih2 _ _ _ _ _ _ _ _ _ _ _ _ _ _)
      | (with_reducible exact ih3 _ _ _ _ _ _ _ _ _ _)
      | (with_reducible exact ih4 _ _ _ _ _ _ _ _ _ _ _ _ _ _ _ _ _)
      | (with_reducible exact furlonglaw07_awake.mono _)
      | (with_reducible exact furlongref01_Ints.mono _ _ _)
      | (with_reducible exact LeO.refl _)
      | (with_reducible exact LeO.none _)
      | (with_reducible refine LeO.ite ?_ ?_)
      | (with_reducible refine LeO.bind ?_ (fun _ => ?_))
      | exact ih0 _ _ _ _ _ _ _ _
      | exact ih1 _ _ _ _ _ _ _ _ _ _ _
      | exact ih2 _ _ _ _ _ _ _ _ _ _ _ _ _ _
      | exact ih3 _ _ _ _ _ _ _ _ _ _
      | exact ih4 _ _ _ _ _ _ _ _ _ _ _ _ _ _ _ _ _
      | exact furlonglaw07_awake.mono _
      | exact furlongref01_Ints.mono _ _ _
      | exact LeO.none _
      | refine LeO.ite ?_ ?_
      | refine LeO.bind ?_ (fun _ => ?_)
    · intro y0 y1 y2 y3 y4 y5 y6 y7 y8 y9 y10
      unfold furlonglaw07_PlaceFits.l0
      repeat' first
      | (with_reducible exact ih0 _ _ _ _ _ _ _ _)
      | (with_reducible exact ih1 _ _ _ _ _ _ _ _ _ _ _)
      | (with_reducible exact ih2 _ _ _ _ _ _ _ _ _ _ _ _ _ _)
      | (with_reducible exact ih3 _ _ _ _ _ _ _ _ _ _)
      | (with_reducible exact ih4 _ _ _ _ _ _ _ _ _ _ _ _ _ _ _ _ _)
      | (with_reducible exact furlonglaw07_awake.mono _)
      | (with_reducible exact furlongref01_Ints.mono _ _ _)
      | (with_reducible exact LeO.refl _)
      | (with_reducible exact LeO.none _)
      | (with_reducible refine LeO.ite ?_ ?_)
      | (with_reducible refine LeO.bind ?_ (fun _ => ?_))
      | exact ih0 _ _ _ _ _ _ _ _
      | exact ih1 _ _ _ _ _ _ _ _ _ _ _
      | exact ih2 _ _ _ _ _ _ _ _ _ _ _ _ _ _
      | exact ih3 _ _ _ _ _ _ _ _ _ _
      | exact ih4 _ _ _ _ _ _ _ _ _ _ _ _ _ _ _ _ _
      | exact furlonglaw07_awake.mono _
      | exact furlongref01_Ints.mono _ _ _
      | exact LeO.none _
      | refine LeO.ite ?_ ?_
      | refine LeO.bind ?_ (fun _ => ?_)
    · intro y0 y1 y2 y3 y4 y5 y6 y7 y8 y9 y10 y11 y12 y13
      unfold furlonglaw07_PlaceFits.j2
      repeat' first
      | (with_reducible exact ih0 _ _ _ _ _ _ _ _)
      | (with_reducible exact ih1 _ _ _ _ _ _ _ _ _ _ _)
      | (with_reducible exact ih2 _ _ _ _ _ _ _ _ _ _ _ _ _ _)
      | (with_reducible exact ih3 _ _ _ _ _ _ _ _ _ _)
      | (with_reducible exact ih4 _ _ _ _ _ _ _ _ _ _ _ _ _ _ _ _ _)
      | (with_reducible exact furlonglaw07_awake.mono _)
      | (with_reducible exact furlongref01_Ints.mono _ _ _)
      | (with_reducible exact LeO.refl _)
      | (with_reducible exact LeO.none _)
      | (with_reducible refine LeO.ite ?_ ?_)
      | (with_reducible refine LeO.bind ?_ (fun _ => ?_))
      | exact ih0 _ _ _ _ _ _ _ _
      | exact ih1 _ _ _ _ _ _ _ _ _ _ _
      | exact ih2 _ _ _ _ _ _ _ _ _ _ _ _ _ _
      | exact ih3 _ _ _ _ _ _ _ _ _ _
      | exact ih4 _ _ _ _ _ _ _ _ _ _ _ _ _ _ _ _ _
      | exact furlonglaw07_awake.mono _
      | exact furlongref01_Ints.mono _ _ _
      | exact LeO.none _
      | refine LeO.ite ?_ ?_
      | refine LeO.bind ?_ (fun _ => ?_)
    · intro y0 y1 y2 y3 y4 y5 y6 y7 y8 y9
      unfold furlonglaw07_PlaceFits.l1
      repeat' first
      | (with_reducible exact ih0 _ _ _ _ _ _ _ _)
      | (with_reducible exact ih1 _ _ _ _ _ _ _ _ _ _ _)
      | (with_reducible exact ih2 _ _ _ _ _ _ _ _ _ _ _ _ _ _)
      | (with_reducible exact ih3 _ _ _ _ _ _ _ _ _ _)
      | (with_reducible exact ih4 _ _ _ _ _ _ _ _ _ _ _ _ _ _ _ _ _)
      | (with_reducible exact furlonglaw07_awake.mono _)
      | (with_reducible exact furlongref01_Ints.mono _ _ _)
      | (with_reducible exact LeO.refl _)
      | (with_reducible exact LeO.none _)
      | (with_reducible refine LeO.ite ?_ ?_)
      | (with_reducible refine LeO.bind ?_ (fun _ => ?_))
      | exact ih0 _ _ _ _ _ _ _ _
      | exact ih1 _ _ _ _ _ _ _ _ _ _ _
      | exact ih2 _ _ _ _ _ _ _ _ _ _ _ _ _ _
      | exact ih3 _ _ _ _ _ _ _ _ _ _
      | exact ih4 _ _ _ _ _ _ _ _ _ _ _ _ _ _ _ _ _
      | exact furlonglaw07_awake.mono _
      | exact furlongref01_Ints.mono _ _ _
      | exact LeO.none _
      | refine LeO.ite ?_ ?_
      | refine LeO.bind ?_ (fun _ => ?_)
    · intro y0 y1 y2 y3 y4 y5 y6 y7 y8 y9 y10 y11 y12 y13 y14 y15 y16
      unfold furlonglaw07_PlaceFits.j4
      repeat' first
      | (with_reducible exact ih0 _ _ _ _ _ _ _ _)
      | (with_reducible exact ih1 _ _ _ _ _ _ _ _ _ _ _)
      | (with_reducible exact ih2 _ _ _ _ _ _ _ _ _ _ _ _ _ _)
      | (with_reducible exact ih3 _ _ _ _ _ _ _ _ _ _)
      | (with_reducible exact ih4 _ _ _ _ _ _ _ _ _ _ _ _ _ _ _ _ _)
      | (with_reducible exact furlonglaw07_awake.mono _)
      | (with_reducible exact furlongref01_Ints.mono _ _ _)
      | (with_reducible exact LeO.refl _)
      | (with_reducible exact LeO.none _)
      | (with_reducible refine LeO.ite ?_ ?_)
      | (with_reducible refine LeO.bind ?_ (fun _ => ?_))
      | exact ih0 _ _ _ _ _ _ _ _
      | exact ih1 _ _ _ _ _ _ _ _ _ _ _
      | exact ih2 _ _ _ _ _ _ _ _ _ _ _ _ _ _
      | exact ih3 _ _ _ _ _ _ _ _ _ _
      | exact ih4 _ _ _ _ _ _ _ _ _ _ _ _ _ _ _ _ _
      | exact furlonglaw07_awake.mono _
      | exact furlongref01_Ints.mono _ _ _
      | exact LeO.none _
      | refine LeO.ite ?_ ?_
      | refine LeO.bind ?_ (fun _ => ?_)
theorem furlonglaw07_PlaceFits.mono : ∀ a0 a1 a2 a3 k, LeO (furlonglaw07_PlaceFits.f k a0 a1 a2 a3) (furlonglaw07_PlaceFits.f (k + 1) a0 a1 a2 a3) := by
  intro a0 a1 a2 a3 k
  obtain ⟨ih0, ih1, ih2, ih3, ih4⟩ := furlonglaw07_PlaceFits.mono_l k
  unfold furlonglaw07_PlaceFits.f
  repeat' first
      | (with_reducible exact ih0 _ _ _ _ _ _ _ _)
      | (with_reducible exact ih1 _ _ _ _ _ _ _ _ _ _ _)
      | (with_reducible exact ih2 _ _ _ _ _ _ _ _ _ _ _ _ _ _)
      | (with_reducible exact ih3 _ _ _ _ _ _ _ _ _ _)
      | (with_reducible exact ih4 _ _ _ _ _ _ _ _ _ _ _ _ _ _ _ _ _)
      | (with_reducible exact furlonglaw07_awake.mono _)
      | (with_reducible exact furlongref01_Ints.mono _ _ _)
      | (with_reducible exact LeO.refl _)
      | (with_reducible exact LeO.none _)
      | (with_reducible refine LeO.ite ?_ ?_)
      | (with_reducible refine LeO.bind ?_ (fun _ => ?_))
      | exact ih0 _ _ _ _ _ _ _ _
      | exact ih1 _ _ _ _ _ _ _ _ _ _ _
      | exact ih2 _ _ _ _ _ _ _ _ _ _ _ _ _ _
      | exact ih3 _ _ _ _ _ _ _ _ _ _
      | exact ih4 _ _ _ _ _ _ _ _ _ _ _ _ _ _ _ _ _
      | exact furlonglaw07_awake.mono _
      | exact furlongref01_Ints.mono _ _ _
      | exact LeO.none _
      | refine LeO.ite ?_ ?_
      | refine LeO.bind ?_ (fun _ => ?_)
end Go.Proofs.Ytkbcjagkacijnaa.PPl
end
section
namespace Go.Proofs.Ytkbcjagkacijnaa.PPl
open Go.RowKit Go.Proofs.YtkbcjagkacijnaaW.PrintWords Go.Proofs.YtkbcjagkacijnaaW.PrintLast
set_option linter.unusedVariables false
set_option linter.unusedSimpArgs false
theorem ints_ev (a b : List Int) (ha : a.length < 4611686018427387904) : Ev (fun k => furlongref01_Ints.f k a b) (decide (a = b)) := by
  by_cases hl : a.length = b.length
  · have key : ∀ (n i : Nat), i + n = a.length → Ev (fun k => furlongref01_Ints.l0 k a b (a.length : Int) (i : Int)) (decide (a.drop i = b.drop i)) := by
      intro n
      induction n with
      | zero =>
        intro i hi
        refine Ev.step (h := fun _ => some true) (fun k => ?_) ((Ev.of fun _ => rfl).eq ?_)
        · simp only [furlongref01_Ints.l0]
          rw [if_neg (by omega)]
        · rw [List.drop_of_length_le (by omega), List.drop_of_length_le (by omega)]; rfl
      | succ n ih =>
        intro i hi
        have h1 : i < a.length := by omega
        have h2 : i < b.length := by omega
        have d1 : a.drop i = a[i] :: a.drop (i + 1) := List.drop_eq_getElem_cons h1
        have d2 : b.drop i = b[i] :: b.drop (i + 1) := List.drop_eq_getElem_cons h2
        by_cases e : a[i] = b[i]
        · refine Ev.step (fun k => ?_) ((ih (i + 1) (by omega)).eq ?_)
          · simp only [furlongref01_Ints.l0]
            rw [if_pos (by omega), if_pos (by omega), if_pos (by omega), if_pos (by omega), rdI_get h1, rdI_get h2, if_pos e, w_succ (by omega)]
          · refine decide_eq_decide.mpr ⟨fun h => by rw [d1, d2, e, h], fun h => ?_⟩
            rw [d1, d2] at h
            exact (List.cons.inj h).2
        · refine Ev.step (h := fun _ => some false) (fun k => ?_) ((Ev.of fun _ => rfl).eq ?_)
          · simp only [furlongref01_Ints.l0]
            rw [if_pos (by omega), if_pos (by omega), if_pos (by omega), if_pos (by omega), rdI_get h1, rdI_get h2, if_neg e]
          · refine (decide_eq_false fun h => ?_).symm
            rw [d1, d2] at h
            exact e (List.cons.inj h).1
    have := key a.length 0 (by omega)
    have e : (fun k => furlongref01_Ints.f k a b) = fun k => furlongref01_Ints.l0 k a b (a.length : Int) ((0 : Nat) : Int) := by
      funext k
      unfold furlongref01_Ints.f
      rw [if_pos (by omega)]
      rfl
    rw [e]
    simpa using this
  · refine (Ev.of fun k => ?_).eq (show false = _ from ?_)
    · unfold furlongref01_Ints.f
      rw [if_neg (by omega)]
    · symm
      rw [decide_eq_false_iff_not]
      intro h
      rw [h] at hl
      exact hl rfl
theorem awake_ev : Ev (fun k => furlonglaw07_awake.f k) true := by
  have e : place_Find.f [⟨1, 4, 9, 0, 0⟩, ⟨2, 2, 9, 0, 0⟩] [⟨5, 0, 1, [0, 2], 0, 0, 0, false⟩] 2 3 = some (1, [1, 3], 0) := by decide
  have : (fun k => furlonglaw07_awake.f k) = fun k => (furlongref01_Ints.f k [1, 3] [1, 3]).bind fun t => some t := by
    funext k
    unfold furlonglaw07_awake.f
    rw [e]
    rfl
  rw [this]
  exact Ev.bind (ints_ev [1, 3] [1, 3] (by decide)) (Ev.of fun _ => rfl)
/-- May a list's Ids be? -/
def wfL (l0 : List S46) (l1 : List S50) : Prop := (l0.all (fun n => wfI n.f0) && l1.all (fun x => wfI x.f2)) = true
theorem find_law (nodes : List S46) (leases : List S50) (a0 a1 : Int) (hw : wfL nodes leases) : place_Find.f nodes leases a0 a1 = some (findD nodes leases a0 a1) := by
  unfold place_Find.f
  unfold wfL at hw
  rw [if_pos hw, findV_findD]
theorem free_law (nodes : List S46) (leases : List S50) (id : Int) (hw : wfL nodes leases) : place_Free.f nodes leases id = some (freeD nodes leases id) := by
  unfold place_Free.f
  unfold wfL at hw
  rw [if_pos hw, freeV_freeD]
theorem findD_len (nodes : List S46) (leases : List S50) (a0 a1 : Int) : (findD nodes leases a0 a1).2.1.length ≤ 64 := by
  unfold findD
  split
  · simp
  · rename_i h
    split
    · simp
    · rename_i h2
      split
      · simp
      · simp only [List.length_take]
        omega
section
variable (nodes : List S46) (leases : List S50) (a0 a1 : Int)
end
section
variable (nodes : List S46) (leases : List S50) (a0 a1 : Int)
end
end Go.Proofs.Ytkbcjagkacijnaa.PPl
end
section
-- Written for this claim by this project's own driver over the kit's print: functions and their contracts.
namespace Go.Proofs.Ytkbcjagkacijnaa.PPl
open Go.RowKit Go.Proofs.YtkbcjagkacijnaaW.PrintWords Go.Proofs.YtkbcjagkacijnaaW.PrintLast Go.Proofs.YtkbcjagkacijnaaW.PrintMore
attribute [local go_sem] max2_int min2_int max_two min_two max_three min_three max_four min_four   -- for this text's walks alone
set_option linter.unusedVariables false
set_option linter.unusedSimpArgs false

theorem eqA25 (d : Nat) (w : World) (x0 y0 : Int) (x1 y1 : Int) :
    (Op.equalIn (d + 2) 25 (.agg #[.int .i64 x0, .int .i64 x1]) (.agg #[.int .i64 y0, .int .i64 y1])).run Try.prog w = .ok (x0 == y0 && (x1 == y1)) w := by
  refine eqA_of Try.underlying25 (by kernel_rfl) ?_
  refine eqf_cons (by rfl) (by go_simp; rfl) (by go_simp; rfl) (by go_simp) ?_
  exact eqf_last (by rfl) (by go_simp; rfl) (by go_simp; rfl) (by go_simp)
end Go.Proofs.Ytkbcjagkacijnaa.PPl
end
section
-- Written for this claim by this project's own driver over the kit's print: functions and their contracts.
namespace Go.Proofs.Ytkbcjagkacijnaa.PPl
open Go.RowKit Go.Proofs.YtkbcjagkacijnaaW.PrintWords Go.Proofs.YtkbcjagkacijnaaW.PrintLast Go.Proofs.YtkbcjagkacijnaaW.PrintMore
attribute [local go_sem] max2_int min2_int max_two min_two max_three min_three max_four min_four   -- for this text's walks alone
set_option linter.unusedVariables false
set_option linter.unusedSimpArgs false

attribute [local go_sem high] eqA25
mutual
def furlonglaw07_PlaceAll.l0 : Nat → List (S46) → List (S46) → Int → Int → Int → Int → Int → Int → Option (Bool)
  | 0, _, _, _, _, _, _, _, _ => none
  | k + 1, x0, x24, x25, x26, x324000, x324001, x325000, x325001 => if x26 < x25 then (if 0 ≤ x26 then (if x26 < (x24.length : Int) then ((place_Free.f x0 ([] : List (S50)) ((rd_T46 x24 x26).f0)).bind fun bt327 => (if bt327.2.2 = 0 then (if (bt327.1.length : Int) = ((rd_T46 x24 x26).f1) then (furlonglaw07_PlaceAll.j1 k x0 bt327.1 bt327.2.1 x24 x25 x26 (bt327.2.1 != ((rd_T46 x24 x26).f2)) x324000 x324001 x325000 x325001) else (furlonglaw07_PlaceAll.j1 k x0 bt327.1 bt327.2.1 x24 x25 x26 true x324000 x324001 x325000 x325001)) else (furlonglaw07_PlaceAll.j1 k x0 bt327.1 bt327.2.1 x24 x25 x26 true x324000 x324001 x325000 x325001))) else (none)) else (none)) else (some (x325000 == x324000 && (x325001 == x324001)))
def furlonglaw07_PlaceAll.j1 : Nat → List (S46) → List Int → Int → List (S46) → Int → Int → Bool → Int → Int → Int → Int → Option (Bool)
  | 0, _, _, _, _, _, _, _, _, _, _, _ => none
  | k + 1, x0, x8, x9, x24, x25, x26, x52, x324000, x324001, x325000, x325001 => if x52 = true then (some false) else (furlonglaw07_PlaceAll.l1 k x0 x8 x9 x24 x25 x26 (x8.length : Int) 0 x324000 x324001 x325000 x325001)
def furlonglaw07_PlaceAll.l1 : Nat → List (S46) → List Int → Int → List (S46) → Int → Int → Int → Int → Int → Int → Int → Int → Option (Bool)
  | 0, _, _, _, _, _, _, _, _, _, _, _, _ => none
  | k + 1, x0, x8, x9, x24, x25, x26, x54, x55, x324000, x324001, x325000, x325001 => if x55 < x54 then (if 0 ≤ x55 then (if x55 < (x8.length : Int) then (if (rd x8 x55) = x55 then (furlonglaw07_PlaceAll.l1 k x0 x8 x9 x24 x25 x26 x54 (wrap64 (x55 + 1)) x324000 x324001 x325000 x325001) else (some false)) else (none)) else (none)) else (furlonglaw07_PlaceAll.l0 k x0 x24 x25 (wrap64 (x26 + 1)) x324000 x324001 (wrap64 (x325000 + (x8.length : Int))) (wrap64 (x325001 + x9)))
end
def furlonglaw07_PlaceAll.f (k : Nat) (l0 : List (S46)) : Option (Bool) := (furlonglaw07_awake.f k).bind fun t319 => (if t319 = true then ((place_Total.f l0).bind fun bt320 => (if bt320.2.2 = 0 then (furlonglaw07_PlaceAll.l0 k l0 l0 (l0.length : Int) 0 bt320.1 bt320.2.1 0 0) else (some (bt320.1 == 0 && (bt320.2.1 == 0))))) else (some false))
theorem furlonglaw07_PlaceAll.mono_l : ∀ k, (∀ y0 y1 y2 y3 y4 y5 y6 y7, LeO (furlonglaw07_PlaceAll.l0 k y0 y1 y2 y3 y4 y5 y6 y7) (furlonglaw07_PlaceAll.l0 (k + 1) y0 y1 y2 y3 y4 y5 y6 y7)) ∧ (∀ y0 y1 y2 y3 y4 y5 y6 y7 y8 y9 y10, LeO (furlonglaw07_PlaceAll.j1 k y0 y1 y2 y3 y4 y5 y6 y7 y8 y9 y10) (furlonglaw07_PlaceAll.j1 (k + 1) y0 y1 y2 y3 y4 y5 y6 y7 y8 y9 y10)) ∧ (∀ y0 y1 y2 y3 y4 y5 y6 y7 y8 y9 y10 y11, LeO (furlonglaw07_PlaceAll.l1 k y0 y1 y2 y3 y4 y5 y6 y7 y8 y9 y10 y11) (furlonglaw07_PlaceAll.l1 (k + 1) y0 y1 y2 y3 y4 y5 y6 y7 y8 y9 y10 y11))
  | 0 => ⟨fun _ _ _ _ _ _ _ _ r h => by simp [furlonglaw07_PlaceAll.l0] at h, fun _ _ _ _ _ _ _ _ _ _ _ r h => by simp [furlonglaw07_PlaceAll.j1] at h, fun _ _ _ _ _ _ _ _ _ _ _ _ r h => by simp [furlonglaw07_PlaceAll.l1] at h⟩
  | k + 1 => by
    obtain ⟨ih0, ih1, ih2⟩ := furlonglaw07_PlaceAll.mono_l k
    refine ⟨?_, ?_, ?_⟩
    · intro y0 y1 y2 y3 y4 y5 y6 y7
      unfold furlonglaw07_PlaceAll.l0
      repeat' first
      | (with_reducible exact ih0 _ _ _ _ _ _ _ _)
      | (with_reducible exact ih1 _ _ _ _ _ _ _ _ _ _ _)
      | (with_reducible exact ih2 _ _ _ _ _ _ _ _ _ _ _ _)
      | (with_reducible exact furlonglaw07_awake.mono _)
      | (with_reducible exact LeO.refl _)
      | (with_reducible exact LeO.none _)
      | (with_reducible refine LeO.ite ?_ ?_)
      | (with_reducible refine LeO.bind ?_ (fun _ => ?_))
      | exact ih0 _ _ _ _ _ _ _ _
      | exact ih1 _ _ _ _ _ _ _ _ _ _ _
      | exact ih2 _ _ _ _ _ _ _ _ _ _ _ _
      | exact furlonglaw07_awake.mono _
      | exact LeO.none _
      | refine LeO.ite ?_ ?_
      | refine LeO.bind ?_ (fun _ => ?_)
    · intro y0 y1 y2 y3 y4 y5 y6 y7 y8 y9 y10
      unfold furlonglaw07_PlaceAll.j1
      repeat' first
      | (with_reducible exact ih0 _ _ _ _ _ _ _ _)
      | (with_reducible exact ih1 _ _ _ _ _ _ _ _ _ _ _)
      | (with_reducible exact ih2 _ _ _ _ _ _ _ _ _ _ _ _)
      | (with_reducible exact furlonglaw07_awake.mono _)
      | (with_reducible exact LeO.refl _)
      | (with_reducible exact LeO.none _)
      | (with_reducible refine LeO.ite ?_ ?_)
      | (with_reducible refine LeO.bind ?_ (fun _ => ?_))
      | exact ih0 _ _ _ _ _ _ _ _
      | exact ih1 _ _ _ _ _ _ _ _ _ _ _
      | exact ih2 _ _ _ _ _ _ _ _ _ _ _ _
      | exact furlonglaw07_awake.mono _
      | exact LeO.none _
      | refine LeO.ite ?_ ?_
      | refine LeO.bind ?_ (fun _ => ?_)
    · intro y0 y1 y2 y3 y4 y5 y6 y7 y8 y9 y10 y11
      unfold furlonglaw07_PlaceAll.l1
      repeat' first
      | (with_reducible exact ih0 _ _ _ _ _ _ _ _)
      | (with_reducible exact ih1 _ _ _ _ _ _ _ _ _ _ _)
      | (with_reducible exact ih2 _ _ _ _ _ _ _ _ _ _ _ _)
      | (with_reducible exact furlonglaw07_awake.mono _)
      | (with_reducible exact LeO.refl _)
      | (with_reducible exact LeO.none _)
      | (with_reducible refine LeO.ite ?_ ?_)
      | (with_reducible refine LeO.bind ?_ (fun _ => ?_))
      | exact ih0 _ _ _ _ _ _ _ _
      | exact ih1 _ _ _ _ _ _ _ _ _ _ _
      | exact ih2 _ _ _ _ _ _ _ _ _ _ _ _
      | exact furlonglaw07_awake.mono _
      | exact LeO.none _
      | refine LeO.ite ?_ ?_
      | refine LeO.bind ?_ (fun _ => ?_)
theorem furlonglaw07_PlaceAll.mono : ∀ a0 k, LeO (furlonglaw07_PlaceAll.f k a0) (furlonglaw07_PlaceAll.f (k + 1) a0) := by
  intro a0 k
  obtain ⟨ih0, ih1, ih2⟩ := furlonglaw07_PlaceAll.mono_l k
  unfold furlonglaw07_PlaceAll.f
  repeat' first
      | (with_reducible exact ih0 _ _ _ _ _ _ _ _)
      | (with_reducible exact ih1 _ _ _ _ _ _ _ _ _ _ _)
      | (with_reducible exact ih2 _ _ _ _ _ _ _ _ _ _ _ _)
      | (with_reducible exact furlonglaw07_awake.mono _)
      | (with_reducible exact LeO.refl _)
      | (with_reducible exact LeO.none _)
      | (with_reducible refine LeO.ite ?_ ?_)
      | (with_reducible refine LeO.bind ?_ (fun _ => ?_))
      | exact ih0 _ _ _ _ _ _ _ _
      | exact ih1 _ _ _ _ _ _ _ _ _ _ _
      | exact ih2 _ _ _ _ _ _ _ _ _ _ _ _
      | exact furlonglaw07_awake.mono _
      | exact LeO.none _
      | refine LeO.ite ?_ ?_
      | refine LeO.bind ?_ (fun _ => ?_)
end Go.Proofs.Ytkbcjagkacijnaa.PPl
end
section
-- Written for this claim by this project's own driver over the kit's print: functions and their contracts.
namespace Go.Proofs.Ytkbcjagkacijnaa.PPl
open Go.RowKit Go.Proofs.YtkbcjagkacijnaaW.PrintWords Go.Proofs.YtkbcjagkacijnaaW.PrintLast Go.Proofs.YtkbcjagkacijnaaW.PrintMore
attribute [local go_sem] max2_int min2_int max_two min_two max_three min_three max_four min_four   -- for this text's walks alone
set_option linter.unusedVariables false
set_option linter.unusedSimpArgs false

def furlonglaw07_twin.l0 : Nat → List (S50) → List (S50) → Int → Int → Option ((List (S50)))
  | 0, _, _, _, _ => none
  | k + 1, x3, x6, x7, x8 => if x8 < x7 then (if 0 ≤ x8 then (if x8 < (x6.length : Int) then ((some (([] : List Int) : List Int)).bind fun y123 => (if y123.length + ((rd_T50 x6 x8).f3).length < 17592186044416 then (if x3.length < 1759218604441 then (furlonglaw07_twin.l0 k (x3 ++ [(⟨(rd_T50 x6 x8).f0, (rd_T50 x6 x8).f1, (rd_T50 x6 x8).f2, (y123 ++ ((rd_T50 x6 x8).f3)), (rd_T50 x6 x8).f4, (rd_T50 x6 x8).f5, (rd_T50 x6 x8).f6, (rd_T50 x6 x8).f7⟩ : S50)]) x6 x7 (wrap64 (x8 + 1))) else (none)) else (none))) else (none)) else (none)) else (some x3)
def furlonglaw07_twin.f (k : Nat) (l0 : List (S50)) : Option ((List (S50))) := furlonglaw07_twin.l0 k ([] : List (S50)) l0 (l0.length : Int) 0
theorem furlonglaw07_twin.mono_l : ∀ k, (∀ y0 y1 y2 y3, LeO (furlonglaw07_twin.l0 k y0 y1 y2 y3) (furlonglaw07_twin.l0 (k + 1) y0 y1 y2 y3))
  | 0 => fun _ _ _ _ r h => by simp [furlonglaw07_twin.l0] at h
  | k + 1 => by
    have ih0 := furlonglaw07_twin.mono_l k
    · intro y0 y1 y2 y3
      unfold furlonglaw07_twin.l0
      repeat' first
      | (with_reducible exact ih0 _ _ _ _)
      | (with_reducible exact LeO.refl _)
      | (with_reducible exact LeO.none _)
      | (with_reducible refine LeO.ite ?_ ?_)
      | (with_reducible refine LeO.bind ?_ (fun _ => ?_))
      | exact ih0 _ _ _ _
      | exact LeO.none _
      | refine LeO.ite ?_ ?_
      | refine LeO.bind ?_ (fun _ => ?_)
theorem furlonglaw07_twin.mono : ∀ a0 k, LeO (furlonglaw07_twin.f k a0) (furlonglaw07_twin.f (k + 1) a0) := by
  intro a0 k
  have ih0 := furlonglaw07_twin.mono_l k
  unfold furlonglaw07_twin.f
  repeat' first
      | (with_reducible exact ih0 _ _ _ _)
      | (with_reducible exact LeO.refl _)
      | (with_reducible exact LeO.none _)
      | (with_reducible refine LeO.ite ?_ ?_)
      | (with_reducible refine LeO.bind ?_ (fun _ => ?_))
      | exact ih0 _ _ _ _
      | exact LeO.none _
      | refine LeO.ite ?_ ?_
      | refine LeO.bind ?_ (fun _ => ?_)
end Go.Proofs.Ytkbcjagkacijnaa.PPl
end
section
namespace Go.Proofs.Ytkbcjagkacijnaa.PPl
open Go.RowKit Go.Proofs.YtkbcjagkacijnaaW.PrintWords Go.Proofs.YtkbcjagkacijnaaW.PrintLast
set_option linter.unusedVariables false
set_option linter.unusedSimpArgs false
theorem freeD_len (nodes : List S46) (leases : List S50) (id : Int) : (freeD nodes leases id).1.length ≤ 64 := by
  unfold freeD
  split
  · simp
  · rename_i h
    have h : chk nodes leases = 0 := by omega
    split
    · simp
    · rename_i n hf
      have := (nds_all (chk_ok h).2.1).2 n (List.mem_of_find?_eq_some hf)
      exact freeCores_le leases n (by omega)
end Go.Proofs.Ytkbcjagkacijnaa.PPl
end
section
namespace Go.Proofs.Ytkbcjagkacijnaa.PPl
open Go.RowKit Go.Shelf Go.Proofs.Ytkbcjagkacijnaa.Iter Go.Proofs.YtkbcjagkacijnaaW.PrintWords Go.Proofs.YtkbcjagkacijnaaW.PrintLast
set_option linter.unusedVariables false
set_option linter.unusedSimpArgs false

def keyL (x : S50) : Int × Int × Int × List Int := (x.f0, x.f2, x.f4, x.f3)
def furlonglaw07_same.f (l0 l1 : List S50) : Option Bool := if l0.map keyL = l1.map keyL then some true else none
end Go.Proofs.Ytkbcjagkacijnaa.PPl
end
section
-- Written for this claim by this project's own driver over the kit's print: functions and their contracts.
-- findfix
namespace Go.Proofs.Ytkbcjagkacijnaa.PPl
open Go.RowKit Go.Proofs.YtkbcjagkacijnaaW.PrintWords Go.Proofs.YtkbcjagkacijnaaW.PrintLast Go.Proofs.YtkbcjagkacijnaaW.PrintMore
attribute [local go_sem] max2_int min2_int max_two min_two max_three min_three max_four min_four   -- for this text's walks alone
set_option linter.unusedVariables false
set_option linter.unusedSimpArgs false

def furlonglaw07_PlaceFinds.f (k : Nat) (l0 : List (S46)) (l1 : List (S50)) (a2_0 : Int) (a2_1 : Int) : Option (Bool) := (furlonglaw07_awake.f k).bind fun t158 => (if t158 = true then ((furlonglaw07_twin.f k l1).bind fun t159 => ((place_Find.f l0 t159 a2_0 a2_1).bind fun bt162 => ((furlongref07_Find.f k l0 l1 a2_0 a2_1).bind fun bt167 => (if bt162.1 = bt167.1 then ((furlongref01_Ints.f k bt162.2.1 bt167.2.1).bind fun t172 => (if t172 = true then (if bt162.2.2 = bt167.2.2 then ((furlonglaw07_same.f t159 l1).bind fun t173 => (some t173)) else (some false)) else (some false))) else (some false))))) else (some false))
theorem furlonglaw07_PlaceFinds.mono : ∀ a0 a1 a2 a3 k, LeO (furlonglaw07_PlaceFinds.f k a0 a1 a2 a3) (furlonglaw07_PlaceFinds.f (k + 1) a0 a1 a2 a3) := by
  intro a0 a1 a2 a3 k
  unfold furlonglaw07_PlaceFinds.f
  repeat' first
      | (with_reducible exact furlonglaw07_awake.mono _)
      | (with_reducible exact furlonglaw07_twin.mono _ _)
      | (with_reducible exact furlongref01_Ints.mono _ _ _)
      | (with_reducible exact furlongref07_Find.mono _ _ _ _ _)
      | (with_reducible exact LeO.refl _)
      | (with_reducible exact LeO.none _)
      | (with_reducible refine LeO.ite ?_ ?_)
      | (with_reducible refine LeO.bind ?_ (fun _ => ?_))
      | exact furlonglaw07_awake.mono _
      | exact furlonglaw07_twin.mono _ _
      | exact furlongref01_Ints.mono _ _ _
      | exact furlongref07_Find.mono _ _ _ _ _
      | exact LeO.none _
      | refine LeO.ite ?_ ?_
      | refine LeO.bind ?_ (fun _ => ?_)
end Go.Proofs.Ytkbcjagkacijnaa.PPl
end
section
-- Written for this claim by this project's own driver over the kit's print: functions and their contracts.
namespace Go.Proofs.Ytkbcjagkacijnaa.PPl
open Go.RowKit Go.Proofs.YtkbcjagkacijnaaW.PrintWords Go.Proofs.YtkbcjagkacijnaaW.PrintLast Go.Proofs.YtkbcjagkacijnaaW.PrintMore
attribute [local go_sem] max2_int min2_int max_two min_two max_three min_three max_four min_four   -- for this text's walks alone
set_option linter.unusedVariables false
set_option linter.unusedSimpArgs false

def furlongref07_Free.j0 : Nat → List (S50) → Int → Bool → Int → Int → Int → Int → Int → Option (List Int × Int × Int)
  | 0, _, _, _, _, _, _, _, _ => none
  | k + 1, x1, x9, x28, x243000, x243001, x243002, x243003, x243004 => if x28 = true then (if 8 = 0 then ((furlongref07_free.f k x243000 x243001 x243002 x243003 x243004 x1).bind fun bt243 => (some (bt243.1, bt243.2, 8))) else (some (([] : List Int), 0, 8))) else (if x9 = 0 then ((furlongref07_free.f k x243000 x243001 x243002 x243003 x243004 x1).bind fun bt247 => (some (bt247.1, bt247.2, x9))) else (some (([] : List Int), 0, x9)))
def furlongref07_Free.f (k : Nat) (l0 : List (S46)) (l1 : List (S50)) (a2 : Int) : Option (List Int × Int × Int) := (furlongref07_Check.f l0 l1).bind fun t235 => ((furlongref07_Node.f k l0 a2).bind fun bt236 => (if t235 = 0 then (furlongref07_Free.j0 k l1 t235 (!bt236.2.2.2.2.2) bt236.1 bt236.2.1 bt236.2.2.1 bt236.2.2.2.1 bt236.2.2.2.2.1) else (furlongref07_Free.j0 k l1 t235 false bt236.1 bt236.2.1 bt236.2.2.1 bt236.2.2.2.1 bt236.2.2.2.2.1)))
theorem furlongref07_Free.mono_l : ∀ k, (∀ y0 y1 y2 y3 y4 y5 y6 y7, LeO (furlongref07_Free.j0 k y0 y1 y2 y3 y4 y5 y6 y7) (furlongref07_Free.j0 (k + 1) y0 y1 y2 y3 y4 y5 y6 y7))
  | 0 => fun _ _ _ _ _ _ _ _ r h => by simp [furlongref07_Free.j0] at h
  | k + 1 => by
    have ih0 := furlongref07_Free.mono_l k
    · intro y0 y1 y2 y3 y4 y5 y6 y7
      unfold furlongref07_Free.j0
      repeat' first
      | (with_reducible exact ih0 _ _ _ _ _ _ _ _)
      | (with_reducible exact furlongref07_Node.mono _ _ _)
      | (with_reducible exact furlongref07_free.mono _ _ _ _ _ _ _)
      | (with_reducible exact LeO.refl _)
      | (with_reducible exact LeO.none _)
      | (with_reducible refine LeO.ite ?_ ?_)
      | (with_reducible refine LeO.bind ?_ (fun _ => ?_))
      | exact ih0 _ _ _ _ _ _ _ _
      | exact furlongref07_Node.mono _ _ _
      | exact furlongref07_free.mono _ _ _ _ _ _ _
      | exact LeO.none _
      | refine LeO.ite ?_ ?_
      | refine LeO.bind ?_ (fun _ => ?_)
theorem furlongref07_Free.mono : ∀ a0 a1 a2 k, LeO (furlongref07_Free.f k a0 a1 a2) (furlongref07_Free.f (k + 1) a0 a1 a2) := by
  intro a0 a1 a2 k
  have ih0 := furlongref07_Free.mono_l k
  unfold furlongref07_Free.f
  repeat' first
      | (with_reducible exact ih0 _ _ _ _ _ _ _ _)
      | (with_reducible exact furlongref07_Node.mono _ _ _)
      | (with_reducible exact furlongref07_free.mono _ _ _ _ _ _ _)
      | (with_reducible exact LeO.refl _)
      | (with_reducible exact LeO.none _)
      | (with_reducible refine LeO.ite ?_ ?_)
      | (with_reducible refine LeO.bind ?_ (fun _ => ?_))
      | exact ih0 _ _ _ _ _ _ _ _
      | exact furlongref07_Node.mono _ _ _
      | exact furlongref07_free.mono _ _ _ _ _ _ _
      | exact LeO.none _
      | refine LeO.ite ?_ ?_
      | refine LeO.bind ?_ (fun _ => ?_)
set_option maxHeartbeats 8000000 in
set_option maxRecDepth 100000 in
theorem furlongref07_Free.calls (k : Nat) (A0 : Option Addr) (c0 : Nat) (l0 : List (S46)) (A1 : Option Addr) (c1 : Nat) (l1 : List (S50)) (a2 : Int) (r1 : List Int) (r2 : Int) (r3 : Int) (w : World) (hr0 : Kd.C k46 w A0 l0.length l0) (hc0 : l0.length ≤ c0) (hr1 : Kd.C k50 w A1 l1.length l1) (hc1 : l1.length ≤ c1) (h : furlongref07_Free.f k l0 l1 a2 = some (r1, r2, r3)) :
    Calls Try.prog 50 #[.slice A0 l0.length c0, .slice A1 l1.length c1, .int .i64 a2] w fun e w' => ∃ v0_ : Value, e = .returned (.tuple #[v0_, .int .i64 r2, .int .i64 r3]) ∧ Kd.R (Kd.int .i64) 3 w' w.heap.size (fun _ => True) v0_ r1 ∧ Below w.heap.size w w' := by
  have hu46 := Try.underlying46
  have HR0 := Aside0.mk hr0
  have HC0 := Aside0.mk hc0
  clear hr0 hc0
  have HR1 := Aside0.mk hr1
  have HC1 := Aside0.mk hc1
  clear hr1 hc1
  have HB := Aside0.mk (Below.refl w.heap.size w)
  have H : ((furlongref07_Check.f l0 l1).bind fun t235 => ((furlongref07_Node.f k l0 a2).bind fun bt236 => (if t235 = 0 then (furlongref07_Free.j0 k l1 t235 (!bt236.2.2.2.2.2) bt236.1 bt236.2.1 bt236.2.2.1 bt236.2.2.2.1 bt236.2.2.2.2.1) else (furlongref07_Free.j0 k l1 t235 false bt236.1 bt236.2.1 bt236.2.2.1 bt236.2.2.2.1 bt236.2.2.2.2.1)))) = some (r1, r2, r3) := h
  clear h
  replace H := Option.bind_eq_some_iff.mp H
  obtain ⟨t235, A40, H⟩ := H
  replace H : ((furlongref07_Node.f k l0 a2).bind fun bt236 => (if t235 = 0 then (furlongref07_Free.j0 k l1 t235 (!bt236.2.2.2.2.2) bt236.1 bt236.2.1 bt236.2.2.1 bt236.2.2.2.1 bt236.2.2.2.2.1) else (furlongref07_Free.j0 k l1 t235 false bt236.1 bt236.2.1 bt236.2.2.1 bt236.2.2.2.1 bt236.2.2.2.2.1))) = some (r1, r2, r3) := H
  have A4 := Aside0.mk A40
  clear A40
  replace H := Option.bind_eq_some_iff.mp H
  obtain ⟨⟨t236, t237, t238, t239, t240, t241⟩, A50, H⟩ := H
  replace H : (if t235 = 0 then (furlongref07_Free.j0 k l1 t235 (!t241) t236 t237 t238 t239 t240) else (furlongref07_Free.j0 k l1 t235 false t236 t237 t238 t239 t240)) = some (r1, r2, r3) := H
  have A5 := Aside0.mk A50
  clear A50
  have HC6 := Aside0.mk H
  clear H
  go_enter Try.func50, Try.ntmps50
  go_upto_region 3 with (first | ((with_reducible refine gate_callee (f := 84) rfl ?_); refine goesL_ (some 16) rfl rfl Try.func84 (by kernel_rfl) rfl #[.slice A0 l0.length c0, .slice A1 l1.length c1] rfl (by (try simp only [List.map_toArray, List.map_cons, List.map_nil]); first | done | rfl | (simp only [List.length_drop, List.length_take]; rfl)) ?_; (with_reducible refine (furlongref07_Check.calls _ _ l0 _ _ l1 t235 _ ?side1 ?side2 ?side3 ?side4 A4.out).mono ?_); (case side1 => repeat (first | exact HR0.out | (with_reducible refine Kd.C_alloc ?_ _) | (with_reducible refine Kd.C_drewN ?_ _) | (with_reducible refine Kd.C_drew ?_))); (case side2 => exact HC0.out); (case side3 => repeat (first | exact HR1.out | (with_reducible refine Kd.C_alloc ?_ _) | (with_reducible refine Kd.C_drewN ?_ _) | (with_reducible refine Kd.C_drew ?_))); (case side4 => exact HC1.out); rintro e w7 ⟨rfl, hb⟩; refine ⟨_, rfl, ?_⟩; have n0_ := Aside0.mk (below_step (by repeat (first | (with_reducible first | exact HB.out | apply below_alloc | apply pw_below_drewN | apply below_drew1) | exact HB.out)) hb); clear HB; have HB := n0_; clear n0_; (try clear hb); (try clear hb2); (try clear hk); (try clear hi)) | ((with_reducible refine gate_callee (f := 95) rfl ?_); refine goesL_ (some 20) rfl rfl Try.func95 (by kernel_rfl) rfl #[.slice A0 l0.length c0, .int .i64 a2] rfl (by (try simp only [List.map_toArray, List.map_cons, List.map_nil]); first | done | rfl | (simp only [List.length_drop, List.length_take]; rfl)) ?_; (with_reducible refine (furlongref07_Node.calls k _ _ l0 a2 t236 t237 t238 t239 t240 t241 _ ?side1 ?side2 A5.out).mono ?_); (case side1 => repeat (first | exact (Kd.C_below HR0.out HB.out) | (with_reducible refine Kd.C_alloc ?_ _) | (with_reducible refine Kd.C_drewN ?_ _) | (with_reducible refine Kd.C_drew ?_))); (case side2 => exact HC0.out); rintro e w8 ⟨rfl, hb⟩; refine ⟨_, rfl, ?_⟩; have n0_ := Aside0.mk (below_step (by repeat (first | (with_reducible first | exact HB.out | apply below_alloc | apply pw_below_drewN | apply below_drew1) | exact HB.out)) hb); clear HB; have HB := n0_; clear n0_; (try clear hb); (try clear hb2); (try clear hk); (try clear hi)) | ((with_reducible refine gate_dst (N := 10) rfl ?_); refine box_event ?hg (N := 10) ?hd (cs := #[.int .i64 0, .int .i64 0, .int .i64 0, .int .i64 0, .int .i64 0]) (t := 46) ?hr ?_; (case hd => rfl); (case hg => rfl); (case hr => first | (go_simp; done) | (go_simp; rfl)); intro gb242 hg w9 hbox hb; have n0_ := Aside0.mk (below_step (by repeat (first | (with_reducible first | exact HB.out | apply below_alloc | apply pw_below_drewN | apply below_drew1) | exact HB.out)) hb); have n1_ := Aside0.mk (hbox); have n2_ := Aside0.mk ((by rw [hg]; exact (below_size (by repeat (first | (with_reducible first | exact HB.out | apply below_alloc | apply pw_below_drewN | apply below_drew1) | exact HB.out))) : w.heap.size ≤ gb242)); have n3_ := Aside0.mk ((by rw [hg]; exact (below_size (by repeat (first | (with_reducible first | exact HB.out | apply below_alloc | apply pw_below_drewN | apply below_drew1) | exact HB.out))) : w.heap.size ≤ gb242)); clear HB; have HB := n0_; have BK242 := n1_; have GW242 := n2_; have GE242 := n3_; clear n0_ n1_ n2_ n3_; clear hb hbox hg; have hcz10_0 : w9.cell? ⟨gb242, 0, none⟩ = some (.int .i64 0) := (blk_cell BK242.out 0).trans rfl; have hcz10_1 : w9.cell? ⟨gb242, 1, none⟩ = some (.int .i64 0) := (blk_cell BK242.out 1).trans rfl; have hcz10_2 : w9.cell? ⟨gb242, 2, none⟩ = some (.int .i64 0) := (blk_cell BK242.out 2).trans rfl; have hcz10_3 : w9.cell? ⟨gb242, 3, none⟩ = some (.int .i64 0) := (blk_cell BK242.out 3).trans rfl; have hcz10_4 : w9.cell? ⟨gb242, 4, none⟩ = some (.int .i64 0) := (blk_cell BK242.out 4).trans rfl; have hfz10_0 := blk_frozen BK242.out 0; have hfz10_1 := blk_frozen BK242.out 1; have hfz10_2 := blk_frozen BK242.out 2; have hfz10_3 := blk_frozen BK242.out 3; have hfz10_4 := blk_frozen BK242.out 4))
  (try simp only [Act.put, List.setIfInBounds_toArray, List.set_cons_zero, List.set_cons_succ])
  go_cut [28] (fun v28 wc => ∃ (kq : Nat) (x28_5 : Bool), v28 = .bool x28_5 ∧ Aside0 (furlongref07_Free.j0 kq l1 t235 x28_5 t236 t237 t238 t239 t240 = some (r1, r2, r3)) ∧ Aside0 (kq ≤ k) ∧ Aside0 (wc.heap[gb242]? = some (.cells #[.int .i64 t236, .int .i64 t237, .int .i64 t238, .int .i64 t239, .int .i64 t240] 46 (0, 0))) ∧ Aside0 (Below w.heap.size w wc))
  case first =>
    have H := HC6.out
    clear HC6
    by_cases c11 : t235 = 0
    · rw [if_pos c11] at H
      have c11b0 : (t235 == 0) = true := beq_iff_eq.mpr c11
      have c11b1 : (t235 != 0) = false := bne_eq_false_iff_eq.mpr c11
      clear c11
      (first | rw [c11b0] | (simp only [i64_w, i32_w]; rw [c11b0]) | skip)
      have H' := Aside0.mk H
      clear H
      go_wp2
      go_meet
      case rel => exact ⟨_, (!t241), (by first | rfl | (simp; done) | (simp [*]; done)), H', ⟨by first | omega | exact Nat.le_refl _⟩, ⟨by (with_reducible repeat (first | refine blk_drewN ?_ _ | refine blk_drew ?_ | refine blk_alloc ?_ _)); refine blk_put (cs := #[.int .i64 t236, .int .i64 t237, .int .i64 t238, .int .i64 t239, .int .i64 0]) ?_ 4 _ rfl; (with_reducible repeat (first | refine blk_drewN ?_ _ | refine blk_drew ?_ | refine blk_alloc ?_ _)); refine blk_put (cs := #[.int .i64 t236, .int .i64 t237, .int .i64 t238, .int .i64 0, .int .i64 0]) ?_ 3 _ rfl; (with_reducible repeat (first | refine blk_drewN ?_ _ | refine blk_drew ?_ | refine blk_alloc ?_ _)); refine blk_put (cs := #[.int .i64 t236, .int .i64 t237, .int .i64 0, .int .i64 0, .int .i64 0]) ?_ 2 _ rfl; (with_reducible repeat (first | refine blk_drewN ?_ _ | refine blk_drew ?_ | refine blk_alloc ?_ _)); refine blk_put (cs := #[.int .i64 t236, .int .i64 0, .int .i64 0, .int .i64 0, .int .i64 0]) ?_ 1 _ rfl; (with_reducible repeat (first | refine blk_drewN ?_ _ | refine blk_drew ?_ | refine blk_alloc ?_ _)); refine blk_put (cs := #[.int .i64 0, .int .i64 0, .int .i64 0, .int .i64 0, .int .i64 0]) ?_ 0 _ rfl; (with_reducible repeat (first | refine blk_drewN ?_ _ | refine blk_drew ?_ | refine blk_alloc ?_ _)); exact BK242.out⟩, ⟨by repeat (first | (with_reducible first | exact HB.out | apply below_alloc | apply pw_below_drewN | apply below_drew1 | refine below_set ?_ GE242.out) | exact HB.out)⟩⟩
    · rw [if_neg c11] at H
      have c11b0 : (t235 == 0) = false := beq_eq_false_iff_ne.mpr c11
      have c11b1 : (t235 != 0) = true := bne_iff_ne.mpr c11
      (first | rw [c11b0] | (simp only [i64_w, i32_w]; rw [c11b0]) | skip)
      have H' := Aside0.mk H
      clear H
      go_wp2
      go_meet
      case rel => exact ⟨_, (false), (by first | rfl | (simp; done) | (simp [*]; done)), H', ⟨by first | omega | exact Nat.le_refl _⟩, ⟨by (with_reducible repeat (first | refine blk_drewN ?_ _ | refine blk_drew ?_ | refine blk_alloc ?_ _)); refine blk_put (cs := #[.int .i64 t236, .int .i64 t237, .int .i64 t238, .int .i64 t239, .int .i64 0]) ?_ 4 _ rfl; (with_reducible repeat (first | refine blk_drewN ?_ _ | refine blk_drew ?_ | refine blk_alloc ?_ _)); refine blk_put (cs := #[.int .i64 t236, .int .i64 t237, .int .i64 t238, .int .i64 0, .int .i64 0]) ?_ 3 _ rfl; (with_reducible repeat (first | refine blk_drewN ?_ _ | refine blk_drew ?_ | refine blk_alloc ?_ _)); refine blk_put (cs := #[.int .i64 t236, .int .i64 t237, .int .i64 0, .int .i64 0, .int .i64 0]) ?_ 2 _ rfl; (with_reducible repeat (first | refine blk_drewN ?_ _ | refine blk_drew ?_ | refine blk_alloc ?_ _)); refine blk_put (cs := #[.int .i64 t236, .int .i64 0, .int .i64 0, .int .i64 0, .int .i64 0]) ?_ 1 _ rfl; (with_reducible repeat (first | refine blk_drewN ?_ _ | refine blk_drew ?_ | refine blk_alloc ?_ _)); refine blk_put (cs := #[.int .i64 0, .int .i64 0, .int .i64 0, .int .i64 0, .int .i64 0]) ?_ 0 _ rfl; (with_reducible repeat (first | refine blk_drewN ?_ _ | refine blk_drew ?_ | refine blk_alloc ?_ _)); exact BK242.out⟩, ⟨by repeat (first | (with_reducible first | exact HB.out | apply below_alloc | apply pw_below_drewN | apply below_drew1 | refine below_set ?_ GE242.out) | exact HB.out)⟩⟩
  case rest =>
    clear HC6
    try clear c1
    try clear p2
    try clear c5
    try clear c8
    try clear c9
    try clear c11
    try clear c11b0
    try clear c11b1
    try clear hcz10_0
    try clear hcz10_1
    try clear hcz10_2
    try clear hcz10_3
    try clear hcz10_4
    try clear hfz10_0
    try clear hfz10_1
    try clear hfz10_2
    try clear hfz10_3
    try clear hfz10_4
    obtain ⟨kq, x28_5, rfl, HA, HJ5, BK242, HB⟩ := hcut
    cases kq with
    | zero => exact absurd HA.out (by simp [furlongref07_Free.j0])
    | succ kj5 =>
      have H := HA.out
      clear HA
      simp only [furlongref07_Free.j0] at H
      by_cases c12 : x28_5 = true
      · subst c12
        have H1 : (if 8 = 0 then ((furlongref07_free.f kj5 t236 t237 t238 t239 t240 l1).bind fun bt243 => (some (bt243.1, bt243.2, 8))) else (some (([] : List Int), 0, 8))) = some (r1, r2, r3) := by rw [if_pos rfl] at H; exact H
        clear H
        have H := H1
        clear H1
        by_cases c13 : 8 = 0
        · exact absurd c13 (by decide)
        · rw [if_neg c13] at H
          have c13b0 : (8 == 0) = false := beq_eq_false_iff_ne.mpr c13
          have c13b1 : (8 != 0) = true := bne_iff_ne.mpr c13
          simp only [Option.some.injEq, Prod.mk.injEq] at H
          obtain ⟨rfl, rfl, rfl⟩ := H
          go_wp2
          go_ret3
          exact ⟨_, by first | rfl | (simp [errW_none, errW_some] <;> rfl) | (simp [*, errW_none, errW_some] <;> rfl), by first | exact Kd.R_nil _ _ _ _ _ | exact Kd.N_nil _ _ _ _ _ | exact Kd.V_nil _ _ _ _ _ | exact Kd.Q_nil _ _ _ _ _ | exact Kd.S_nil _ _ _ _ _, by repeat (first | (with_reducible first | exact HB.out | apply below_alloc | apply pw_below_drewN | apply below_drew1 | refine below_set ?_ GE242.out) | exact HB.out)⟩
      · replace c12 := Bool.eq_false_iff.mpr c12
        subst c12
        have H1 : (if t235 = 0 then ((furlongref07_free.f kj5 t236 t237 t238 t239 t240 l1).bind fun bt247 => (some (bt247.1, bt247.2, t235))) else (some (([] : List Int), 0, t235))) = some (r1, r2, r3) := by rw [if_neg (show ¬ (false = true) by decide)] at H; exact H
        clear H
        have H := H1
        clear H1
        by_cases c17 : t235 = 0
        · rw [if_pos c17] at H
          have c17b0 : (t235 == 0) = true := beq_iff_eq.mpr c17
          have c17b1 : (t235 != 0) = false := bne_eq_false_iff_eq.mpr c17
          clear c17
          replace H := Option.bind_eq_some_iff.mp H
          obtain ⟨⟨t247, t250⟩, A180, H⟩ := H
          replace H : (some (t247, t250, t235)) = some (r1, r2, r3) := H
          have A18 := Aside0.mk A180
          clear A180
          simp only [Option.some.injEq, Prod.mk.injEq] at H
          obtain ⟨rfl, rfl, rfl⟩ := H
          have hcz19_0 : wc.cell? ⟨gb242, 0, none⟩ = some (.int .i64 t236) := (blk_cell BK242.out 0).trans rfl
          have hcz19_1 : wc.cell? ⟨gb242, 1, none⟩ = some (.int .i64 t237) := (blk_cell BK242.out 1).trans rfl
          have hcz19_2 : wc.cell? ⟨gb242, 2, none⟩ = some (.int .i64 t238) := (blk_cell BK242.out 2).trans rfl
          have hcz19_3 : wc.cell? ⟨gb242, 3, none⟩ = some (.int .i64 t239) := (blk_cell BK242.out 3).trans rfl
          have hcz19_4 : wc.cell? ⟨gb242, 4, none⟩ = some (.int .i64 t240) := (blk_cell BK242.out 4).trans rfl
          have hfz19_0 := blk_frozen BK242.out 0
          have hfz19_1 := blk_frozen BK242.out 1
          have hfz19_2 := blk_frozen BK242.out 2
          have hfz19_3 := blk_frozen BK242.out 3
          have hfz19_4 := blk_frozen BK242.out 4
          go_wp2_with (first | ((with_reducible refine gate_callee (f := 86) rfl ?_); refine goesL_ (some 35) rfl rfl Try.func86 (by kernel_rfl) rfl #[.agg #[.int .i64 t236, .int .i64 t237, .int .i64 t238, .int .i64 t239, .int .i64 t240], .slice A1 l1.length c1] rfl (by (try simp only [List.map_toArray, List.map_cons, List.map_nil]); first | done | rfl | (simp only [List.length_drop, List.length_take]; rfl)) ?_; (with_reducible refine (furlongref07_free.calls kj5 t236 t237 t238 t239 t240 _ _ l1 t247 t250 _ ?side1 ?side2 A18.out).mono ?_); (case side1 => repeat (first | exact (Kd.C_below HR1.out HB.out) | (with_reducible refine Kd.C_alloc ?_ _) | (with_reducible refine Kd.C_drewN ?_ _) | (with_reducible refine Kd.C_drew ?_))); (case side2 => exact HC1.out); rintro e w20 ⟨v248, rfl, ho0, hb⟩; refine ⟨_, rfl, ?_⟩; have n0_ := Aside0.mk (Kd.R_lower ho0 (below_size (by repeat (first | (with_reducible first | exact HB.out | apply below_alloc | apply pw_below_drewN | apply below_drew1 | refine below_set ?_ GE242.out) | exact HB.out)))); have n1_ := Aside0.mk (blk_below (g := gb242) (o := .cells #[.int .i64 t236, .int .i64 t237, .int .i64 t238, .int .i64 t239, .int .i64 t240] 46 (0, 0)) (by (with_reducible repeat (first | refine blk_drewN ?_ _ | refine blk_drew ?_ | refine blk_alloc ?_ _)); exact BK242.out) hb); have n2_ := Aside0.mk (below_step (by repeat (first | (with_reducible first | exact HB.out | apply below_alloc | apply pw_below_drewN | apply below_drew1 | refine below_set ?_ GE242.out) | exact HB.out)) hb); clear BK242; clear HB; have HO249 := n0_; have BK242 := n1_; have HB := n2_; clear n0_ n1_ n2_; (try clear hb); (try clear hb2); (try clear hk); (try clear hi); (try clear ho0)))
          go_ret3
          exact ⟨_, by first | rfl | (simp [errW_none, errW_some] <;> rfl) | (simp [*, errW_none, errW_some] <;> rfl), by (with_reducible repeat (first | apply Kd.R_alloc | apply Kd.R_drewN | apply Kd.R_drew)); exact HO249.out, by repeat (first | (with_reducible first | exact HB.out | apply below_alloc | apply pw_below_drewN | apply below_drew1 | refine below_set ?_ GE242.out) | exact HB.out)⟩
        · rw [if_neg c17] at H
          have c17b0 : (t235 == 0) = false := beq_eq_false_iff_ne.mpr c17
          have c17b1 : (t235 != 0) = true := bne_iff_ne.mpr c17
          simp only [Option.some.injEq, Prod.mk.injEq] at H
          obtain ⟨rfl, rfl, rfl⟩ := H
          go_wp2
          go_ret3
          exact ⟨_, by first | rfl | (simp [errW_none, errW_some] <;> rfl) | (simp [*, errW_none, errW_some] <;> rfl), by first | exact Kd.R_nil _ _ _ _ _ | exact Kd.N_nil _ _ _ _ _ | exact Kd.V_nil _ _ _ _ _ | exact Kd.Q_nil _ _ _ _ _ | exact Kd.S_nil _ _ _ _ _, by repeat (first | (with_reducible first | exact HB.out | apply below_alloc | apply pw_below_drewN | apply below_drew1 | refine below_set ?_ GE242.out) | exact HB.out)⟩

end Go.Proofs.Ytkbcjagkacijnaa.PPl
end
section
-- Written for this claim by this project's own driver over the kit's print: functions and their contracts.
namespace Go.Proofs.Ytkbcjagkacijnaa.PPl
open Go.RowKit Go.Proofs.YtkbcjagkacijnaaW.PrintWords Go.Proofs.YtkbcjagkacijnaaW.PrintLast Go.Proofs.YtkbcjagkacijnaaW.PrintMore
attribute [local go_sem] max2_int min2_int max_two min_two max_three min_three max_four min_four   -- for this text's walks alone
set_option linter.unusedVariables false
set_option linter.unusedSimpArgs false

attribute [local go_sem high] eqA25
def furlongref07_Total.l0 : Nat → Int → List (S46) → Int → Int → Int → Int → Option (Int × Int × Int)
  | 0, _, _, _, _, _, _ => none
  | k + 1, x4, x11, x12, x13, x296000, x296001 => if x13 < x12 then (if 0 ≤ x13 then (if x13 < (x11.length : Int) then (if x4 = 0 then (furlongref07_Total.l0 k x4 x11 x12 (wrap64 (x13 + 1)) (wrap64 (x296000 + ((rd_T46 x11 x13).f1))) (wrap64 (x296001 + ((rd_T46 x11 x13).f2)))) else (furlongref07_Total.l0 k x4 x11 x12 (wrap64 (x13 + 1)) x296000 x296001)) else (none)) else (none)) else (if x4 = 0 then ((furlongref02_Good.f x296000 x296001).bind fun t298 => (if t298 = true then (some (x296000, x296001, x4)) else (some (0, 0, 2)))) else (some (x296000, x296001, x4)))
def furlongref07_Total.f (k : Nat) (l0 : List (S46)) : Option (Int × Int × Int) := (furlongref07_Check.f l0 ([] : List (S50))).bind fun t294 => (furlongref07_Total.l0 k t294 l0 (l0.length : Int) 0 0 0)
theorem furlongref07_Total.mono_l : ∀ k, (∀ y0 y1 y2 y3 y4 y5, LeO (furlongref07_Total.l0 k y0 y1 y2 y3 y4 y5) (furlongref07_Total.l0 (k + 1) y0 y1 y2 y3 y4 y5))
  | 0 => fun _ _ _ _ _ _ r h => by simp [furlongref07_Total.l0] at h
  | k + 1 => by
    have ih0 := furlongref07_Total.mono_l k
    · intro y0 y1 y2 y3 y4 y5
      unfold furlongref07_Total.l0
      repeat' first
      | (with_reducible exact ih0 _ _ _ _ _ _)
      | (with_reducible exact LeO.refl _)
      | (with_reducible exact LeO.none _)
      | (with_reducible refine LeO.ite ?_ ?_)
      | (with_reducible refine LeO.bind ?_ (fun _ => ?_))
      | exact ih0 _ _ _ _ _ _
      | exact LeO.none _
      | refine LeO.ite ?_ ?_
      | refine LeO.bind ?_ (fun _ => ?_)
theorem furlongref07_Total.mono : ∀ a0 k, LeO (furlongref07_Total.f k a0) (furlongref07_Total.f (k + 1) a0) := by
  intro a0 k
  have ih0 := furlongref07_Total.mono_l k
  unfold furlongref07_Total.f
  repeat' first
      | (with_reducible exact ih0 _ _ _ _ _ _)
      | (with_reducible exact LeO.refl _)
      | (with_reducible exact LeO.none _)
      | (with_reducible refine LeO.ite ?_ ?_)
      | (with_reducible refine LeO.bind ?_ (fun _ => ?_))
      | exact ih0 _ _ _ _ _ _
      | exact LeO.none _
      | refine LeO.ite ?_ ?_
      | refine LeO.bind ?_ (fun _ => ?_)
def furlonglaw07_PlaceFrees.f (k : Nat) (l0 : List (S46)) (l1 : List (S50)) (a2 : Int) : Option (Bool) := (furlonglaw07_awake.f k).bind fun t299 => (if t299 = true then ((place_Free.f l0 l1 a2).bind fun bt300 => ((furlongref07_Free.f k l0 l1 a2).bind fun bt305 => ((place_Total.f l0).bind fun bt310 => ((furlongref07_Total.f k l0).bind fun bt314 => ((furlongref01_Ints.f k bt300.1 bt305.1).bind fun t318 => (if t318 = true then (if bt300.2.1 = bt305.2.1 then (if bt300.2.2 = bt305.2.2 then (if (bt310.1 == bt314.1 && (bt310.2.1 == bt314.2.1)) = true then (some (bt310.2.2 == bt314.2.2)) else (some false)) else (some false)) else (some false)) else (some false))))))) else (some false))
theorem furlonglaw07_PlaceFrees.mono : ∀ a0 a1 a2 k, LeO (furlonglaw07_PlaceFrees.f k a0 a1 a2) (furlonglaw07_PlaceFrees.f (k + 1) a0 a1 a2) := by
  intro a0 a1 a2 k
  unfold furlonglaw07_PlaceFrees.f
  repeat' first
      | (with_reducible exact furlonglaw07_awake.mono _)
      | (with_reducible exact furlongref01_Ints.mono _ _ _)
      | (with_reducible exact furlongref07_Free.mono _ _ _ _)
      | (with_reducible exact furlongref07_Total.mono _ _)
      | (with_reducible exact LeO.refl _)
      | (with_reducible exact LeO.none _)
      | (with_reducible refine LeO.ite ?_ ?_)
      | (with_reducible refine LeO.bind ?_ (fun _ => ?_))
      | exact furlonglaw07_awake.mono _
      | exact furlongref01_Ints.mono _ _ _
      | exact furlongref07_Free.mono _ _ _ _
      | exact furlongref07_Total.mono _ _
      | exact LeO.none _
      | refine LeO.ite ?_ ?_
      | refine LeO.bind ?_ (fun _ => ?_)
end Go.Proofs.Ytkbcjagkacijnaa.PPl
end
section
namespace Go.Proofs.Ytkbcjagkacijnaa.PPl
open Go.RowKit Go.Proofs.YtkbcjagkacijnaaW.PrintWords Go.Proofs.YtkbcjagkacijnaaW.PrintLast
set_option linter.unusedVariables false
set_option linter.unusedSimpArgs false
theorem rfree_ev (nodes : List S46) (leases : List S50) (id : Int) (hN : nodes.length < 4611686018427387904) (hL : leases.length < 4611686018427387904) (hsz : sizes leases ≤ 1048576) :
    Ev (fun k => furlongref07_Free.f k nodes leases id) (freeD nodes leases id) := by
  have hS : ∀ y ∈ leases, y.f3.length < 4611686018427387904 := fun y hy => by have := sizes_mem hy; omega
  unfold furlongref07_Free.f
  rw [check_ev nodes leases hN hL hS]
  simp only [Option.bind_some]
  refine Ev.bind (node_ev id nodes hN) ?_
  unfold freeD
  by_cases h : chk nodes leases = 0
  · simp only [h, if_true]
    rw [if_neg (by simp)]
    obtain ⟨h64, hn, hv⟩ := chk_ok h
    obtain ⟨hid, hn2⟩ := nds_all hn
    cases hf : nodes.find? (fun n => n.f0 == id) with
    | none => exact Ev.step (h := fun _ => some ([], 0, 8)) (fun k => by simp [furlongref07_Free.j0]) (Ev.of fun _ => rfl)
    | some n =>
      have hm := List.mem_of_find?_eq_some hf
      have h2 := hn2 n hm
      have m0 : memsOK nodes [] := fun n hn => by have := hn2 n hn; show 0 ≤ (0 : Int) ∧ (0 : Int) ≤ n.f2; omega
      have hms := valid_mems nodes hid leases [] m0 hv
      refine Ev.step (h := fun k => (furlongref07_free.f k n.f0 n.f1 n.f2 n.f3 n.f4 leases).bind fun bt => some (bt.1, bt.2, 0)) (fun k => by simp [furlongref07_Free.j0]) ?_
      exact Ev.bind (free_ev leases n (by omega) hL hsz (fun j hj => by have := hms j hj n hm; rw [List.nil_append] at this; omega) (by omega) _ _) (Ev.of fun _ => rfl)
  · simp only [if_neg h]
    rw [if_pos h]
    exact Ev.step (h := fun _ => some ([], 0, chk nodes leases)) (fun k => by simp [furlongref07_Free.j0, h]) (Ev.of fun _ => rfl)
end Go.Proofs.Ytkbcjagkacijnaa.PPl
end
section
namespace Go.Proofs.Ytkbcjagkacijnaa.PPl
open Go.RowKit Go.Proofs.YtkbcjagkacijnaaW.PrintWords Go.Proofs.YtkbcjagkacijnaaW.PrintLast
set_option linter.unusedVariables false
set_option linter.unusedSimpArgs false
/-- v2 is a row, v it, or it clipped to its length. -/
def Clipd (n : Nat) (v v2 : Value) : Prop := v = v2 ∨ ∃ A c, v2 = .slice A n c ∧ v = .slice A n n
theorem R_append_c {P : Program} {ops : Array Oper} {rest : List Oper} {o : Oper} {a : Act} {Q : Exit → Act → World → Prop} {α : Type} (d : Kd α) {w0 W : World} (base : Nat) (hgd : o.guard = none) (s x : Operand) (t e : TypeId) (z : Value) (bytes : Nat)
    (ho : o.op = .call { callee := .builtin .append, args := #[s, x], argTypes := #[t, t] })
    (ht : P.underlying t = some (.slice e)) (hinfo : (P.info? e).map (fun i => (i.zero, i.size, i.bytes)) = some (some z, d.sz, bytes)) (hz : z.cells.size = d.sz) (hs0 : 0 < d.sz) (hb0 : 0 < bytes)
    (v v2 : Value) (xs : List α) (hC : Clipd xs.length v v2) (p : α) (cs : List Value) (ok okp : Nat → Prop) (hs : a.eval s = v) (hx : a.eval x = .slice (some ⟨W.heap.size, 0, none⟩) 1 1) (hp : d.M W base okp p cs) (hokp : ∀ k, okp k → ok k ∧ some k ≠ v2.ownBlock) (hfresh : ∀ k, W.heap.size ≤ k → ok k)
    (HO : d.R e W base ok v2 xs) (HB : Below base w0 W) (hbase : base ≤ W.heap.size) (hl : (xs.length + 1) * bytes ≤ 140737488355328)
    (h : ∀ v1 w1, d.R e w1 base ok v1 (xs ++ [p]) → Below base w0 w1 → W.grownBy w1 v2.ownBlock → (v1.ownBlock = v2.ownBlock ∨ ∃ b, v1.ownBlock = some b ∧ W.heap.size ≤ b) → wpList P ops Q rest (a.put o.dst v1) w1) :
    wpList P ops Q (o :: rest) a (W.alloc (.cells cs.toArray e)) := by
  rcases hC with rfl | ⟨A, c, rfl, rfl⟩
  · exact Kd.R_append d base hgd s x t e z bytes ho ht hinfo hz hs0 hb0 v xs p cs ok okp hs hx hp hokp hfresh HO HB hbase hl h
  · obtain ⟨h0, inner, hown, hr⟩ := HO
    have hown' := hown
    rcases hown.2 with ⟨hv, hn⟩ | ⟨g, cap, cur, hv, hg1, hg2, hg3, hg4, hg5, hg6⟩
    · injection hv with e1 e2 e3
      subst e1
      subst e3
      have e4 : Value.slice none xs.length xs.length = Value.slice none xs.length 0 := by rw [hn]
      rw [e4] at hs
      exact Kd.R_append d base hgd s x t e z bytes ho ht hinfo hz hs0 hb0 _ xs p cs ok okp hs hx hp hokp hfresh ⟨h0, inner, hown', hr⟩ HB hbase hl h
    · injection hv with e1 e2 e3
      subst e1
      subst e3
      have hcl : cs.length = d.sz := d.K_len (d.K_of_M hp)
      have hc1 := d.K_one (d.K_of_M hp)
      obtain ⟨i0, hi, hzz⟩ := Option.map_eq_some_iff.1 hinfo
      simp only [Prod.mk.injEq] at hzz
      obtain ⟨hz0, hz1, hz2⟩ := hzz
      have hlen : xs.length + 1 ≤ 140737488355328 := Nat.le_trans (Nat.le_mul_of_pos_right _ hb0) hl
      refine wpList_append_arg (W.alloc (.cells cs.toArray e)) hgd s x t ho e i0 z d.sz bytes ht hi hz0 hz1 hz2 hz hs0 g 0 xs.length xs.length inner hs hown.1 (fun j u hj => ?_) ⟨W.heap.size, 0, none⟩ 1 1 cs hx (by rw [hcl]; simp)
        (by simpa using World.news_of_block (cs := cs.toArray) (t := e) (fr := (0, 0)) (heap_alloc_new W (.cells cs.toArray e))) hc1 (fun hno => by omega) (by simp only [maxLen]; omega) hl (fun hno => by omega) (fun _ v1 w1 hown1 hgr => ?_)
      · have := hown.cells (g := g) (by simp [Value.ownBlock]) j u hj
        rw [Addr.add_lit] at this
        exact (World.cell?_alloc_lt _ _ _ (World.block_lt_of_cell? W _ this)).trans this
      · have hgW : W.grownBy w1 (Value.slice (some ⟨g, 0, none⟩) xs.length c).ownBlock := World.grownBy.trans (World.grownBy_alloc W _ _) ⟨hgr.os, hgr.tape, hgr.output, hgr.size, fun k hk hne => hgr.block k hk (by simp)⟩
        have hat : v1.ownBlock = (Value.slice (some ⟨g, 0, none⟩) xs.length c).ownBlock ∨ ∃ b, v1.ownBlock = some b ∧ W.heap.size ≤ b := by
          refine .inr ?_
          rcases hown1.2 with ⟨_, hn0⟩ | ⟨g1, cap1, cur1, rfl, q1, _⟩
          · omega
          · refine ⟨g1, rfl, ?_⟩
            simp at q1
            omega
        have hown2 : w1.ownsRow base e d.sz v1 (xs.length + 1) (inner ++ cs) := by
          refine ⟨hown1.1, ?_⟩
          rcases hown1.2 with hq | ⟨g1, cap1, cur1, q1, q2, q3⟩
          · exact .inl hq
          · exact .inr ⟨g1, cap1, cur1, q1, by simp at q2; omega, q3⟩
        exact h v1 w1 (Kd.R_appended h0 hr hp hokp hfresh hown2 hgW hat) ((HB.alloc hbase _).grown hgr (by simp; omega) (fun k hk => by cases hk)) hgW hat
end Go.Proofs.Ytkbcjagkacijnaa.PPl
end
