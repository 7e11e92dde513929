-- Written for this claim by this project's own driver over the kit's print: functions and their contracts.
import Derived.Test.YtkbcjagkacijnaaPNumx0
import Derived.Test.YtkbcjagkacijnaaPNumx10
import Derived.Test.YtkbcjagkacijnaaPNumx12
namespace Go.Proofs.Ytkbcjagkacijnaa.PNum
open Go.RowKit Go.Proofs.YtkbcjagkacijnaaW.PrintWords Go.Proofs.YtkbcjagkacijnaaW.PrintLast Go.Proofs.YtkbcjagkacijnaaW.PrintMore
attribute [local go_sem] max2_int min2_int max_two min_two max_three min_three max_four min_four   -- for this text's walks alone
set_option linter.unusedVariables false
set_option linter.unusedSimpArgs false

/-! ### furlonglaw04_ClockHolds: function 28 -/
mutual
def furlonglaw04_ClockHolds.j0 : Nat → List Int → List Int → Int → Int → Bool → Option (Bool)
  | 0, _, _, _, _, _ => none
  | k + 1, x1, x2, x3, x11, x44 => if x44 = true then (some true) else (furlonglaw04_ClockHolds.l0 k x1 x2 x3 x11 0 0 (x1.length : Int) 0)
def furlonglaw04_ClockHolds.l0 : Nat → List Int → List Int → Int → Int → Int → Int → Int → Int → Option (Bool)
  | 0, _, _, _, _, _, _, _, _ => none
  | k + 1, x1, x2, x3, x11, x13, x14, x46, x47 => if x47 < x46 then (if 0 ≤ x47 then (if x47 < (x1.length : Int) then (if x47 < (x2.length : Int) then (if (wrap64 (x13 + (rd x1 x47))) < x11 then (if (wrap64 (x14 + (rd x2 x47))) ≥ x3 then (some false) else (furlonglaw04_ClockHolds.l0 k x1 x2 x3 x11 (wrap64 (x13 + (rd x1 x47))) (wrap64 (x14 + (rd x2 x47))) x46 (wrap64 (x47 + 1)))) else (furlonglaw04_ClockHolds.l0 k x1 x2 x3 x11 (wrap64 (x13 + (rd x1 x47))) (wrap64 (x14 + (rd x2 x47))) x46 (wrap64 (x47 + 1)))) else (none)) else (none)) else (none)) else (some true)
end
def furlonglaw04_ClockHolds.f (k : Nat) (l0 : List Int) (l1 : List Int) (l2 : List Int) (a3 : Int) (a4 : Int) : Option (Bool) := (furlonglaw04_awake.f k).bind fun t329 => (if t329 = true then ((clock_Len.f k a3 a4).bind fun bt330 => (if bt330.2 = 0 then (if (l0.length : Int) > 2000 then (furlonglaw04_ClockHolds.j0 k l1 l2 a3 bt330.1 true) else ((clock_Steady.f k l0 l1 a4).bind fun t332 => (if t332 = true then ((clock_Steady.f k l0 l2 a4).bind fun t333 => (furlonglaw04_ClockHolds.j0 k l1 l2 a3 bt330.1 (!t333))) else (furlonglaw04_ClockHolds.j0 k l1 l2 a3 bt330.1 true)))) else (furlonglaw04_ClockHolds.j0 k l1 l2 a3 bt330.1 true))) else (some false))
theorem furlonglaw04_ClockHolds.mono_l : ∀ k, (∀ y0 y1 y2 y3 y4, LeO (furlonglaw04_ClockHolds.j0 k y0 y1 y2 y3 y4) (furlonglaw04_ClockHolds.j0 (k + 1) y0 y1 y2 y3 y4)) ∧ (∀ y0 y1 y2 y3 y4 y5 y6 y7, LeO (furlonglaw04_ClockHolds.l0 k y0 y1 y2 y3 y4 y5 y6 y7) (furlonglaw04_ClockHolds.l0 (k + 1) y0 y1 y2 y3 y4 y5 y6 y7))
  | 0 => ⟨fun _ _ _ _ _ r h => by simp [furlonglaw04_ClockHolds.j0] at h, fun _ _ _ _ _ _ _ _ r h => by simp [furlonglaw04_ClockHolds.l0] at h⟩
  | k + 1 => by
    obtain ⟨ih0, ih1⟩ := furlonglaw04_ClockHolds.mono_l k
    refine ⟨?_, ?_⟩
    · intro y0 y1 y2 y3 y4
      unfold furlonglaw04_ClockHolds.j0
      repeat' first
      | (with_reducible exact ih0 _ _ _ _ _)
      | (with_reducible exact ih1 _ _ _ _ _ _ _ _)
      | (with_reducible exact clock_Len.mono _ _ _)
      | (with_reducible exact clock_Steady.mono _ _ _ _)
      | (with_reducible exact furlonglaw04_awake.mono _)
      | (with_reducible exact LeO.refl _)
      | (with_reducible exact LeO.none _)
      | (with_reducible refine LeO.ite ?_ ?_)
      | (with_reducible refine LeO.bind ?_ (fun _ => ?_))
      | exact ih0 _ _ _ _ _
      | exact ih1 _ _ _ _ _ _ _ _
      | exact clock_Len.mono _ _ _
      | exact clock_Steady.mono _ _ _ _
      | exact furlonglaw04_awake.mono _
      | exact LeO.none _
      | refine LeO.ite ?_ ?_
      | refine LeO.bind ?_ (fun _ => ?_)
    · intro y0 y1 y2 y3 y4 y5 y6 y7
      unfold furlonglaw04_ClockHolds.l0
      repeat' first
      | (with_reducible exact ih0 _ _ _ _ _)
      | (with_reducible exact ih1 _ _ _ _ _ _ _ _)
      | (with_reducible exact clock_Len.mono _ _ _)
      | (with_reducible exact clock_Steady.mono _ _ _ _)
      | (with_reducible exact furlonglaw04_awake.mono _)
      | (with_reducible exact LeO.refl _)
      | (with_reducible exact LeO.none _)
      | (with_reducible refine LeO.ite ?_ ?_)
      | (with_reducible refine LeO.bind ?_ (fun _ => ?_))
      | exact ih0 _ _ _ _ _
      | exact ih1 _ _ _ _ _ _ _ _
      | exact clock_Len.mono _ _ _
      | exact clock_Steady.mono _ _ _ _
      | exact furlonglaw04_awake.mono _
      | exact LeO.none _
      | refine LeO.ite ?_ ?_
      | refine LeO.bind ?_ (fun _ => ?_)
theorem furlonglaw04_ClockHolds.mono : ∀ a0 a1 a2 a3 a4 k, LeO (furlonglaw04_ClockHolds.f k a0 a1 a2 a3 a4) (furlonglaw04_ClockHolds.f (k + 1) a0 a1 a2 a3 a4) := by
  intro a0 a1 a2 a3 a4 k
  obtain ⟨ih0, ih1⟩ := furlonglaw04_ClockHolds.mono_l k
  unfold furlonglaw04_ClockHolds.f
  repeat' first
      | (with_reducible exact ih0 _ _ _ _ _)
      | (with_reducible exact ih1 _ _ _ _ _ _ _ _)
      | (with_reducible exact clock_Len.mono _ _ _)
      | (with_reducible exact clock_Steady.mono _ _ _ _)
      | (with_reducible exact furlonglaw04_awake.mono _)
      | (with_reducible exact LeO.refl _)
      | (with_reducible exact LeO.none _)
      | (with_reducible refine LeO.ite ?_ ?_)
      | (with_reducible refine LeO.bind ?_ (fun _ => ?_))
      | exact ih0 _ _ _ _ _
      | exact ih1 _ _ _ _ _ _ _ _
      | exact clock_Len.mono _ _ _
      | exact clock_Steady.mono _ _ _ _
      | exact furlonglaw04_awake.mono _
      | exact LeO.none _
      | refine LeO.ite ?_ ?_
      | refine LeO.bind ?_ (fun _ => ?_)
set_option maxHeartbeats 8000000 in
set_option maxRecDepth 100000 in
theorem furlonglaw04_ClockHolds.calls (k : Nat) (A0 : Option Addr) (c0 : Nat) (l0 : List Int) (A1 : Option Addr) (c1 : Nat) (l1 : List Int) (A2 : Option Addr) (c2 : Nat) (l2 : List Int) (a3 : Int) (a4 : Int) (r : Bool) (w : World) (hr0 : Kd.C (Kd.int .i64) w A0 l0.length l0) (hc0 : l0.length ≤ c0) (hr1 : Kd.C (Kd.int .i64) w A1 l1.length l1) (hc1 : l1.length ≤ c1) (hr2 : Kd.C (Kd.int .i64) w A2 l2.length l2) (hc2 : l2.length ≤ c2) (h : furlonglaw04_ClockHolds.f k l0 l1 l2 a3 a4 = some r) :
    Calls Try.prog 28 #[.slice A0 l0.length c0, .slice A1 l1.length c1, .slice A2 l2.length c2, .int .i64 a3, .int .i64 a4] w fun e w' => e = .returned (.bool r) ∧ Below w.heap.size w w' := by
  have HR0 := Aside0.mk hr0
  have HC0 := Aside0.mk hc0
  clear hr0 hc0
  have HR1 := Aside0.mk hr1
  have HC1 := Aside0.mk hc1
  clear hr1 hc1
  have HR2 := Aside0.mk hr2
  have HC2 := Aside0.mk hc2
  clear hr2 hc2
  have HB := Aside0.mk (Below.refl w.heap.size w)
  have H : ((furlonglaw04_awake.f k).bind fun t329 => (if t329 = true then ((clock_Len.f k a3 a4).bind fun bt330 => (if bt330.2 = 0 then (if (l0.length : Int) > 2000 then (furlonglaw04_ClockHolds.j0 k l1 l2 a3 bt330.1 true) else ((clock_Steady.f k l0 l1 a4).bind fun t332 => (if t332 = true then ((clock_Steady.f k l0 l2 a4).bind fun t333 => (furlonglaw04_ClockHolds.j0 k l1 l2 a3 bt330.1 (!t333))) else (furlonglaw04_ClockHolds.j0 k l1 l2 a3 bt330.1 true)))) else (furlonglaw04_ClockHolds.j0 k l1 l2 a3 bt330.1 true))) else (some false))) = some r := h
  clear h
  replace H := Option.bind_eq_some_iff.mp H
  obtain ⟨t329, A60, H⟩ := H
  replace H : (if t329 = true then ((clock_Len.f k a3 a4).bind fun bt330 => (if bt330.2 = 0 then (if (l0.length : Int) > 2000 then (furlonglaw04_ClockHolds.j0 k l1 l2 a3 bt330.1 true) else ((clock_Steady.f k l0 l1 a4).bind fun t332 => (if t332 = true then ((clock_Steady.f k l0 l2 a4).bind fun t333 => (furlonglaw04_ClockHolds.j0 k l1 l2 a3 bt330.1 (!t333))) else (furlonglaw04_ClockHolds.j0 k l1 l2 a3 bt330.1 true)))) else (furlonglaw04_ClockHolds.j0 k l1 l2 a3 bt330.1 true))) else (some false)) = some r := H
  have A6 := Aside0.mk A60
  clear A60
  by_cases c7 : t329 = true
  · subst c7
    have H1 : ((clock_Len.f k a3 a4).bind fun bt330 => (if bt330.2 = 0 then (if (l0.length : Int) > 2000 then (furlonglaw04_ClockHolds.j0 k l1 l2 a3 bt330.1 true) else ((clock_Steady.f k l0 l1 a4).bind fun t332 => (if t332 = true then ((clock_Steady.f k l0 l2 a4).bind fun t333 => (furlonglaw04_ClockHolds.j0 k l1 l2 a3 bt330.1 (!t333))) else (furlonglaw04_ClockHolds.j0 k l1 l2 a3 bt330.1 true)))) else (furlonglaw04_ClockHolds.j0 k l1 l2 a3 bt330.1 true))) = some r := by rw [if_pos rfl] at H; exact H
    clear H
    have H := H1
    clear H1
    replace H := Option.bind_eq_some_iff.mp H
    obtain ⟨⟨t330, t331⟩, A80, H⟩ := H
    replace H : (if t331 = 0 then (if (l0.length : Int) > 2000 then (furlonglaw04_ClockHolds.j0 k l1 l2 a3 t330 true) else ((clock_Steady.f k l0 l1 a4).bind fun t332 => (if t332 = true then ((clock_Steady.f k l0 l2 a4).bind fun t333 => (furlonglaw04_ClockHolds.j0 k l1 l2 a3 t330 (!t333))) else (furlonglaw04_ClockHolds.j0 k l1 l2 a3 t330 true)))) else (furlonglaw04_ClockHolds.j0 k l1 l2 a3 t330 true)) = some r := H
    have A8 := Aside0.mk A80
    clear A80
    have HC9 := Aside0.mk H
    clear H
    go_enter Try.func28, Try.ntmps28
    go_upto_region 4 with (first | ((with_reducible refine gate_callee (f := 67) rfl ?_); refine goesL_ (some 16) rfl rfl Try.func67 (by kernel_rfl) rfl #[] rfl (by (try simp only [List.map_toArray, List.map_cons, List.map_nil]); first | done | rfl | (simp only [List.length_drop, List.length_take]; rfl)) ?_; (with_reducible refine (furlonglaw04_awake.calls k  true _ A6.out).mono ?_); rintro e w10 ⟨rfl, hb⟩; refine ⟨_, rfl, ?_⟩; have n0_ := Aside0.mk (below_step (by repeat (first | (with_reducible first | exact HB.out | apply below_alloc | apply pw_below_drewN | apply below_drew1) | exact HB.out)) hb); clear HB; have HB := n0_; clear n0_; (try clear hb); (try clear hb2); (try clear hk); (try clear hi)) | ((with_reducible refine gate_callee (f := 68) rfl ?_); refine goesL_ (some 21) rfl rfl Try.func68 (by kernel_rfl) rfl #[.int .i64 a3, .int .i64 a4] rfl (by (try simp only [List.map_toArray, List.map_cons, List.map_nil]); first | done | rfl | (simp only [List.length_drop, List.length_take]; rfl)) ?_; (with_reducible refine (clock_Len.calls k a3 a4 t330 t331 _ A8.out).mono ?_); rintro e w11 ⟨rfl, hb⟩; refine ⟨_, rfl, ?_⟩; have n0_ := Aside0.mk (below_step (by repeat (first | (with_reducible first | exact HB.out | apply below_alloc | apply pw_below_drewN | apply below_drew1) | exact HB.out)) hb); clear HB; have HB := n0_; clear n0_; (try clear hb); (try clear hb2); (try clear hk); (try clear hi)))
    (try simp only [Act.put, List.setIfInBounds_toArray, List.set_cons_zero, List.set_cons_succ])
    go_cut [44] (fun v44 wc => ∃ (kq : Nat) (x44_8 : Bool), v44 = .bool x44_8 ∧ Aside0 (furlonglaw04_ClockHolds.j0 kq l1 l2 a3 t330 x44_8 = some r) ∧ Aside0 (kq ≤ k) ∧ Aside0 (Below w.heap.size w wc))
    case first =>
      have H := HC9.out
      clear HC9
      by_cases c12 : t331 = 0
      · rw [if_pos c12] at H
        have c12b0 : (t331 == 0) = true := beq_iff_eq.mpr c12
        have c12b1 : (t331 != 0) = false := bne_eq_false_iff_eq.mpr c12
        clear c12
        (first | rw [c12b0] | (simp only [i64_w, i32_w]; rw [c12b0]) | skip)
        by_cases c13 : (l0.length : Int) > 2000
        · rw [if_pos c13] at H
          have c13b0 : decide (2000 < (l0.length : Int)) = true := decide_eq_true c13
          have c13b1 : decide (2000 < l0.length) = true := decide_eq_true (by omega)
          clear c13
          have H' := Aside0.mk H
          clear H
          go_wp2
          go_meet
          case rel => exact ⟨_, (true), (by first | rfl | (simp; done) | (simp [*]; done)), H', ⟨by first | omega | exact Nat.le_refl _⟩, ⟨by repeat (first | (with_reducible first | exact HB.out | apply below_alloc | apply pw_below_drewN | apply below_drew1) | exact HB.out)⟩⟩
        · rw [if_neg c13] at H
          have c13b0 : decide (2000 < (l0.length : Int)) = false := decide_eq_false c13
          have c13b1 : decide (2000 < l0.length) = false := decide_eq_false (by omega)
          clear c13
          replace H := Option.bind_eq_some_iff.mp H
          obtain ⟨t332, A140, H⟩ := H
          replace H : (if t332 = true then ((clock_Steady.f k l0 l2 a4).bind fun t333 => (furlonglaw04_ClockHolds.j0 k l1 l2 a3 t330 (!t333))) else (furlonglaw04_ClockHolds.j0 k l1 l2 a3 t330 true)) = some r := H
          have A14 := Aside0.mk A140
          clear A140
          by_cases c15 : t332 = true
          · subst c15
            have H1 : ((clock_Steady.f k l0 l2 a4).bind fun t333 => (furlonglaw04_ClockHolds.j0 k l1 l2 a3 t330 (!t333))) = some r := by rw [if_pos rfl] at H; exact H
            clear H
            have H := H1
            clear H1
            replace H := Option.bind_eq_some_iff.mp H
            obtain ⟨t333, A160, H⟩ := H
            replace H : (furlonglaw04_ClockHolds.j0 k l1 l2 a3 t330 (!t333)) = some r := H
            have A16 := Aside0.mk A160
            clear A160
            have H' := Aside0.mk H
            clear H
            go_wp2_with (first | (go_at_call 74; (with_reducible refine (clock_Steady.calls k _ _ l0 _ _ l1 a4 true _ ?side1 ?side2 ?side3 ?side4 A14.out).mono ?_); (case side1 => repeat (first | exact (Kd.C_below HR0.out HB.out) | (with_reducible refine Kd.C_alloc ?_ _) | (with_reducible refine Kd.C_drewN ?_ _) | (with_reducible refine Kd.C_drew ?_))); (case side2 => exact HC0.out); (case side3 => repeat (first | exact (Kd.C_below HR1.out HB.out) | (with_reducible refine Kd.C_alloc ?_ _) | (with_reducible refine Kd.C_drewN ?_ _) | (with_reducible refine Kd.C_drew ?_))); (case side4 => exact HC1.out); rintro e w17 ⟨rfl, hb⟩; have n0_ := Aside0.mk (below_step (by repeat (first | (with_reducible first | exact HB.out | apply below_alloc | apply pw_below_drewN | apply below_drew1) | exact HB.out)) hb); clear HB; have HB := n0_; clear n0_; (try clear hb); (try clear hb2); (try clear hk); (try clear hi)) | (go_at_call 74; (with_reducible refine (clock_Steady.calls k _ _ l0 _ _ l2 a4 t333 _ ?side1 ?side2 ?side3 ?side4 A16.out).mono ?_); (case side1 => repeat (first | exact (Kd.C_below HR0.out HB.out) | (with_reducible refine Kd.C_alloc ?_ _) | (with_reducible refine Kd.C_drewN ?_ _) | (with_reducible refine Kd.C_drew ?_))); (case side2 => exact HC0.out); (case side3 => repeat (first | exact (Kd.C_below HR2.out HB.out) | (with_reducible refine Kd.C_alloc ?_ _) | (with_reducible refine Kd.C_drewN ?_ _) | (with_reducible refine Kd.C_drew ?_))); (case side4 => exact HC2.out); rintro e w18 ⟨rfl, hb⟩; have n0_ := Aside0.mk (below_step (by repeat (first | (with_reducible first | exact HB.out | apply below_alloc | apply pw_below_drewN | apply below_drew1) | exact HB.out)) hb); clear HB; have HB := n0_; clear n0_; (try clear hb); (try clear hb2); (try clear hk); (try clear hi)))
            go_meet
            case rel => exact ⟨_, (!t333), (by first | rfl | (simp; done) | (simp [*]; done)), H', ⟨by first | omega | exact Nat.le_refl _⟩, ⟨by repeat (first | (with_reducible first | exact HB.out | apply below_alloc | apply pw_below_drewN | apply below_drew1) | exact HB.out)⟩⟩
          · replace c15 := Bool.eq_false_iff.mpr c15
            subst c15
            have H1 : (furlonglaw04_ClockHolds.j0 k l1 l2 a3 t330 true) = some r := by rw [if_neg (show ¬ (false = true) by decide)] at H; exact H
            clear H
            have H := H1
            clear H1
            have H' := Aside0.mk H
            clear H
            go_wp2_with (first | (go_at_call 74; (with_reducible refine (clock_Steady.calls k _ _ l0 _ _ l1 a4 false _ ?side1 ?side2 ?side3 ?side4 A14.out).mono ?_); (case side1 => repeat (first | exact (Kd.C_below HR0.out HB.out) | (with_reducible refine Kd.C_alloc ?_ _) | (with_reducible refine Kd.C_drewN ?_ _) | (with_reducible refine Kd.C_drew ?_))); (case side2 => exact HC0.out); (case side3 => repeat (first | exact (Kd.C_below HR1.out HB.out) | (with_reducible refine Kd.C_alloc ?_ _) | (with_reducible refine Kd.C_drewN ?_ _) | (with_reducible refine Kd.C_drew ?_))); (case side4 => exact HC1.out); rintro e w19 ⟨rfl, hb⟩; have n0_ := Aside0.mk (below_step (by repeat (first | (with_reducible first | exact HB.out | apply below_alloc | apply pw_below_drewN | apply below_drew1) | exact HB.out)) hb); clear HB; have HB := n0_; clear n0_; (try clear hb); (try clear hb2); (try clear hk); (try clear hi)))
            go_meet
            case rel => exact ⟨_, (true), (by first | rfl | (simp; done) | (simp [*]; done)), H', ⟨by first | omega | exact Nat.le_refl _⟩, ⟨by repeat (first | (with_reducible first | exact HB.out | apply below_alloc | apply pw_below_drewN | apply below_drew1) | exact HB.out)⟩⟩
      · rw [if_neg c12] at H
        have c12b0 : (t331 == 0) = false := beq_eq_false_iff_ne.mpr c12
        have c12b1 : (t331 != 0) = true := bne_iff_ne.mpr c12
        (first | rw [c12b0] | (simp only [i64_w, i32_w]; rw [c12b0]) | skip)
        have H' := Aside0.mk H
        clear H
        go_wp2
        go_meet
        case rel => exact ⟨_, (true), (by first | rfl | (simp; done) | (simp [*]; done)), H', ⟨by first | omega | exact Nat.le_refl _⟩, ⟨by repeat (first | (with_reducible first | exact HB.out | apply below_alloc | apply pw_below_drewN | apply below_drew1) | exact HB.out)⟩⟩
    case rest =>
      clear HC9
      try clear c1
      try clear c2
      try clear p2
      try clear c6
      try clear c7
      try clear c12
      try clear c12b0
      try clear c12b1
      try clear c13
      try clear c13b0
      try clear c13b1
      try clear c15
      obtain ⟨kq, x44_8, rfl, HA, HJ8, HB⟩ := hcut
      cases kq with
      | zero => exact absurd HA.out (by simp [furlonglaw04_ClockHolds.j0])
      | succ kj8 =>
        have H := HA.out
        clear HA
        simp only [furlonglaw04_ClockHolds.j0] at H
        by_cases c20 : x44_8 = true
        · subst c20
          have H1 : (some true) = some r := by rw [if_pos rfl] at H; exact H
          clear H
          have H := H1
          clear H1
          obtain rfl := Option.some.inj H
          go_wp2
          go_ret
          exact ⟨by first | rfl | (simp [errW_none, errW_some] <;> rfl) | (simp [*, errW_none, errW_some] <;> rfl), by repeat (first | (with_reducible first | exact HB.out | apply below_alloc | apply pw_below_drewN | apply below_drew1) | exact HB.out)⟩
        · replace c20 := Bool.eq_false_iff.mpr c20
          subst c20
          have H1 : (furlonglaw04_ClockHolds.l0 kj8 l1 l2 a3 t330 0 0 (l1.length : Int) 0) = some r := by rw [if_neg (show ¬ (false = true) by decide)] at H; exact H
          clear H
          have H := H1
          clear H1
          have H' := Aside0.mk H
          clear H
          go_wp2
          go_loopg [13, 14, 47] kj8 (fun kq v13 v14 v47 w' => ∃ (x13_2 : Int) (x14_2 : Int) (x47_2 : Int), v13 = .int .i64 x13_2 ∧ v14 = .int .i64 x14_2 ∧ v47 = .int .i64 x47_2 ∧ Aside0 (furlonglaw04_ClockHolds.l0 kq l1 l2 a3 t330 x13_2 x14_2 (l1.length : Int) x47_2 = some r) ∧ Aside0 (kq ≤ kj8) ∧ Aside0 (Below w.heap.size w w'))
          case atStart => exact ⟨(0), (0), (0), (by first | rfl | (simp; done) | (simp [*]; done)), (by first | rfl | (simp; done) | (simp [*]; done)), (by first | rfl | (simp; done) | (simp [*]; done)), H', ⟨Nat.le_refl _⟩, ⟨by repeat (first | (with_reducible first | exact HB.out | apply below_alloc | apply pw_below_drewN | apply below_drew1) | exact HB.out)⟩⟩
          case round =>
            clear H'
            try clear c1
            try clear c2
            try clear p2
            try clear c6
            try clear c7
            try clear c12
            try clear c12b0
            try clear c12b1
            try clear c13
            try clear c13b0
            try clear c13b1
            try clear c15
            try clear c20
            try clear p2
            obtain ⟨x13_2, x14_2, x47_2, rfl, rfl, rfl, HA, HK2, HB⟩ := hrel
            cases gk with
            | zero => exact absurd HA.out (by simp [furlonglaw04_ClockHolds.l0])
            | succ k2 =>
              have H := HA.out
              clear HA
              simp only [furlonglaw04_ClockHolds.l0] at H
              by_cases c21 : x47_2 < (l1.length : Int)
              · rw [if_pos c21] at H
                have c21b0 : decide (x47_2 < (l1.length : Int)) = true := decide_eq_true c21
                clear c21
                by_cases c22 : 0 ≤ x47_2
                · rw [if_pos c22] at H
                  have c22b0 : decide (0 ≤ x47_2) = true := decide_eq_true c22
                  clear c22
                  by_cases c23 : x47_2 < (l1.length : Int)
                  · rw [if_pos c23] at H
                    have c23b0 : decide (x47_2 < (l1.length : Int)) = true := decide_eq_true c23
                    clear c23
                    by_cases c24 : x47_2 < (l2.length : Int)
                    · rw [if_pos c24] at H
                      have c24b0 : decide (x47_2 < (l2.length : Int)) = true := decide_eq_true c24
                      clear c24
                      by_cases c25 : (wrap64 (x13_2 + (rd l1 x47_2))) < t330
                      · rw [if_pos c25] at H
                        have c25b0 : decide ((wrap64 (x13_2 + (rd l1 x47_2))) < t330) = true := decide_eq_true c25
                        clear c25
                        by_cases c26 : (wrap64 (x14_2 + (rd l2 x47_2))) ≥ a3
                        · rw [if_pos c26] at H
                          have c26b0 : decide (a3 ≤ (wrap64 (x14_2 + (rd l2 x47_2)))) = true := decide_eq_true c26
                          clear c26
                          obtain rfl := Option.some.inj H
                          have p334 : 0 ≤ (x47_2 : Int) := of_decide_eq_true (by first | (with_reducible assumption) | assumption)
                          have q334 : x47_2 < (l1.length : Int) := of_decide_eq_true (by first | (with_reducible assumption) | assumption)
                          obtain ⟨ad334, e334, hx334_0⟩ := Kd.at_int HR1.out x47_2 p334 q334
                          cases e334
                          (try (replace hx334_0 := (HB.out.cell (World.block_lt_of_cell? w _ hx334_0)).trans hx334_0))
                          replace p334 := eq_true p334
                          replace q334 := eq_true q334
                          have p335 : 0 ≤ (x47_2 : Int) := of_decide_eq_true (by first | (with_reducible assumption) | assumption)
                          have q335 : x47_2 < (l2.length : Int) := of_decide_eq_true (by first | (with_reducible assumption) | assumption)
                          obtain ⟨ad335, e335, hx335_0⟩ := Kd.at_int HR2.out x47_2 p335 q335
                          cases e335
                          (try (replace hx335_0 := (HB.out.cell (World.block_lt_of_cell? w _ hx335_0)).trans hx335_0))
                          replace p335 := eq_true p335
                          replace q335 := eq_true q335
                          go_wp2
                          go_ret
                          exact ⟨by first | rfl | (simp [errW_none, errW_some] <;> rfl) | (simp [*, errW_none, errW_some] <;> rfl), by repeat (first | (with_reducible first | exact HB.out | apply below_alloc | apply pw_below_drewN | apply below_drew1) | exact HB.out)⟩
                        · rw [if_neg c26] at H
                          have c26b0 : decide (a3 ≤ (wrap64 (x14_2 + (rd l2 x47_2)))) = false := decide_eq_false c26
                          clear c26
                          have H' := Aside0.mk H
                          clear H
                          have p334 : 0 ≤ (x47_2 : Int) := of_decide_eq_true (by first | (with_reducible assumption) | assumption)
                          have q334 : x47_2 < (l1.length : Int) := of_decide_eq_true (by first | (with_reducible assumption) | assumption)
                          obtain ⟨ad334, e334, hx334_0⟩ := Kd.at_int HR1.out x47_2 p334 q334
                          cases e334
                          (try (replace hx334_0 := (HB.out.cell (World.block_lt_of_cell? w _ hx334_0)).trans hx334_0))
                          replace p334 := eq_true p334
                          replace q334 := eq_true q334
                          have p335 : 0 ≤ (x47_2 : Int) := of_decide_eq_true (by first | (with_reducible assumption) | assumption)
                          have q335 : x47_2 < (l2.length : Int) := of_decide_eq_true (by first | (with_reducible assumption) | assumption)
                          obtain ⟨ad335, e335, hx335_0⟩ := Kd.at_int HR2.out x47_2 p335 q335
                          cases e335
                          (try (replace hx335_0 := (HB.out.cell (World.block_lt_of_cell? w _ hx335_0)).trans hx335_0))
                          replace p335 := eq_true p335
                          replace q335 := eq_true q335
                          go_wp2
                          go_roundg k2
                          case measure => have := HJ8.out; have := HK2.out; omega
                          case rel => exact ⟨(wrap64 (x13_2 + (rd l1 x47_2))), (wrap64 (x14_2 + (rd l2 x47_2))), (wrap64 (x47_2 + 1)), (by first | rfl | (simp; done) | (simp [*]; done)), (by first | rfl | (simp; done) | (simp [*]; done)), (by first | rfl | (simp; done) | (simp [*]; done)), H', ⟨by have := HJ8.out; have := HK2.out; omega⟩, ⟨by repeat (first | (with_reducible first | exact HB.out | apply below_alloc | apply pw_below_drewN | apply below_drew1) | exact HB.out)⟩⟩
                      · rw [if_neg c25] at H
                        have c25b0 : decide ((wrap64 (x13_2 + (rd l1 x47_2))) < t330) = false := decide_eq_false c25
                        clear c25
                        have H' := Aside0.mk H
                        clear H
                        have p334 : 0 ≤ (x47_2 : Int) := of_decide_eq_true (by first | (with_reducible assumption) | assumption)
                        have q334 : x47_2 < (l1.length : Int) := of_decide_eq_true (by first | (with_reducible assumption) | assumption)
                        obtain ⟨ad334, e334, hx334_0⟩ := Kd.at_int HR1.out x47_2 p334 q334
                        cases e334
                        (try (replace hx334_0 := (HB.out.cell (World.block_lt_of_cell? w _ hx334_0)).trans hx334_0))
                        replace p334 := eq_true p334
                        replace q334 := eq_true q334
                        have p335 : 0 ≤ (x47_2 : Int) := of_decide_eq_true (by first | (with_reducible assumption) | assumption)
                        have q335 : x47_2 < (l2.length : Int) := of_decide_eq_true (by first | (with_reducible assumption) | assumption)
                        obtain ⟨ad335, e335, hx335_0⟩ := Kd.at_int HR2.out x47_2 p335 q335
                        cases e335
                        (try (replace hx335_0 := (HB.out.cell (World.block_lt_of_cell? w _ hx335_0)).trans hx335_0))
                        replace p335 := eq_true p335
                        replace q335 := eq_true q335
                        go_wp2
                        go_roundg k2
                        case measure => have := HJ8.out; have := HK2.out; omega
                        case rel => exact ⟨(wrap64 (x13_2 + (rd l1 x47_2))), (wrap64 (x14_2 + (rd l2 x47_2))), (wrap64 (x47_2 + 1)), (by first | rfl | (simp; done) | (simp [*]; done)), (by first | rfl | (simp; done) | (simp [*]; done)), (by first | rfl | (simp; done) | (simp [*]; done)), H', ⟨by have := HJ8.out; have := HK2.out; omega⟩, ⟨by repeat (first | (with_reducible first | exact HB.out | apply below_alloc | apply pw_below_drewN | apply below_drew1) | exact HB.out)⟩⟩
                    · rw [if_neg c24] at H
                      exact absurd H (by simp)
                  · rw [if_neg c23] at H
                    exact absurd H (by simp)
                · rw [if_neg c22] at H
                  exact absurd H (by simp)
              · rw [if_neg c21] at H
                have c21b0 : decide (x47_2 < (l1.length : Int)) = false := decide_eq_false c21
                clear c21
                obtain rfl := Option.some.inj H
                go_wp2
                go_ret
                exact ⟨by first | rfl | (simp [errW_none, errW_some] <;> rfl) | (simp [*, errW_none, errW_some] <;> rfl), by repeat (first | (with_reducible first | exact HB.out | apply below_alloc | apply pw_below_drewN | apply below_drew1) | exact HB.out)⟩
  · replace c7 := Bool.eq_false_iff.mpr c7
    subst c7
    have H1 : (some false) = some r := by rw [if_neg (show ¬ (false = true) by decide)] at H; exact H
    clear H
    have H := H1
    clear H1
    obtain rfl := Option.some.inj H
    go_enter Try.func28, Try.ntmps28
    go_wp2_with (first | ((with_reducible refine gate_callee (f := 67) rfl ?_); refine goesL_ (some 16) rfl rfl Try.func67 (by kernel_rfl) rfl #[] rfl (by (try simp only [List.map_toArray, List.map_cons, List.map_nil]); first | done | rfl | (simp only [List.length_drop, List.length_take]; rfl)) ?_; (with_reducible refine (furlonglaw04_awake.calls k  false _ A6.out).mono ?_); rintro e w27 ⟨rfl, hb⟩; refine ⟨_, rfl, ?_⟩; have n0_ := Aside0.mk (below_step (by repeat (first | (with_reducible first | exact HB.out | apply below_alloc | apply pw_below_drewN | apply below_drew1) | exact HB.out)) hb); clear HB; have HB := n0_; clear n0_; (try clear hb); (try clear hb2); (try clear hk); (try clear hi)))
    go_ret
    exact ⟨by first | rfl | (simp [errW_none, errW_some] <;> rfl) | (simp [*, errW_none, errW_some] <;> rfl), by repeat (first | (with_reducible first | exact HB.out | apply below_alloc | apply pw_below_drewN | apply below_drew1) | exact HB.out)⟩

/-- THE ONE PURE STATEMENT of furlonglaw04_ClockHolds: yours. -/
def furlonglaw04_ClockHolds.Pure : Prop := ∀ (l0 : List Int) (l1 : List Int) (l2 : List Int) (a3 : Int) (a4 : Int), l0.length ≤ maxLen → l0.length * 8 ≤ 140737488351232 → (∀ x ∈ l0, (Lit.int .i64 x).wf = true) → l1.length ≤ maxLen → l1.length * 8 ≤ 140737488351232 → (∀ x ∈ l1, (Lit.int .i64 x).wf = true) → l2.length ≤ maxLen → l2.length * 8 ≤ 140737488351232 → (∀ x ∈ l2, (Lit.int .i64 x).wf = true) → (Lit.int .i64 a3).wf = true → (Lit.int .i64 a4).wf = true → ∃ k, furlonglaw04_ClockHolds.f k l0 l1 l2 a3 a4 = some true
theorem furlonglaw04_ClockHolds.walk (P : furlonglaw04_ClockHolds.Pure) (a0 : Option Addr) (len0 cap0 : Nat) (z0 : List Int) (a1 : Option Addr) (len1 cap1 : Nat) (z1 : List Int) (a2 : Option Addr) (len2 cap2 : Nat) (z2 : List Int) (a3 : Int) (a4 : Int) (w : World) (w0 : (a0 = none ∧ len0 = 0 ∧ cap0 = 0 ∧ z0 = []) ∨ ∃ x, a0 = some x ∧ len0 ≤ cap0 ∧ cap0 ≤ maxLen ∧ z0.length = cap0 ∧ (∀ i, i < z0.length → w.cell? (x.add i) = some (.int .i64 (z0.getD i 0))) ∧ ∀ n ∈ z0, (Lit.int .i64 n).wf = true) (y0 : len0 * 8 ≤ 140737488351232) (w1 : (a1 = none ∧ len1 = 0 ∧ cap1 = 0 ∧ z1 = []) ∨ ∃ x, a1 = some x ∧ len1 ≤ cap1 ∧ cap1 ≤ maxLen ∧ z1.length = cap1 ∧ (∀ i, i < z1.length → w.cell? (x.add i) = some (.int .i64 (z1.getD i 0))) ∧ ∀ n ∈ z1, (Lit.int .i64 n).wf = true) (y1 : len1 * 8 ≤ 140737488351232) (w2 : (a2 = none ∧ len2 = 0 ∧ cap2 = 0 ∧ z2 = []) ∨ ∃ x, a2 = some x ∧ len2 ≤ cap2 ∧ cap2 ≤ maxLen ∧ z2.length = cap2 ∧ (∀ i, i < z2.length → w.cell? (x.add i) = some (.int .i64 (z2.getD i 0))) ∧ ∀ n ∈ z2, (Lit.int .i64 n).wf = true) (y2 : len2 * 8 ≤ 140737488351232) (w3 : (Lit.int .i64 a3).wf = true) (w4 : (Lit.int .i64 a4).wf = true) :
    Calls Try.prog 28 #[.slice a0 len0 cap0, .slice a1 len1 cap1, .slice a2 len2 cap2, .int .i64 a3, .int .i64 a4] w fun e w' => e = .returned (.bool true) ∧ Below w.heap.size w w' := by
  obtain ⟨l0, rfl, hr0, hm0, hw0, hc0⟩ := ReadsInt.ofRowC w0
  obtain ⟨l1, rfl, hr1, hm1, hw1, hc1⟩ := ReadsInt.ofRowC w1
  obtain ⟨l2, rfl, hr2, hm2, hw2, hc2⟩ := ReadsInt.ofRowC w2
  obtain ⟨k, h⟩ := P l0 l1 l2 a3 a4 hm0 y0 hw0 hm1 y1 hw1 hm2 y2 hw2 w3 w4
  refine (furlonglaw04_ClockHolds.calls k _ _ l0 _ _ l1 _ _ l2 a3 a4 true w (Kd.C_of_reads (d := (0 : Int)) (h1 := fun _ => rfl) hr0) hc0 (Kd.C_of_reads (d := (0 : Int)) (h1 := fun _ => rfl) hr1) hc1 (Kd.C_of_reads (d := (0 : Int)) (h1 := fun _ => rfl) hr2) hc2 h).mono ?_
  rintro e w' ⟨rfl, hd⟩
  exact ⟨rfl, hd⟩

/-! num_Sum (function 76): by hand, in YtkbcjagkacijnaaSum -/
end Go.Proofs.Ytkbcjagkacijnaa.PNum
