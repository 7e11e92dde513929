-- Written for this claim by this project's own driver over the kit's print: functions and their contracts.
import Derived.Test.YtkbcjagkacijnaaPNumx0
import Derived.Test.YtkbcjagkacijnaaPNumx10
namespace Go.Proofs.Ytkbcjagkacijnaa.PNum
open Go.RowKit Go.Proofs.YtkbcjagkacijnaaW.PrintWords Go.Proofs.YtkbcjagkacijnaaW.PrintLast Go.Proofs.YtkbcjagkacijnaaW.PrintMore
attribute [local go_sem] max2_int min2_int max_two min_two max_three min_three max_four min_four   -- for this text's walks alone
set_option linter.unusedVariables false
set_option linter.unusedSimpArgs false

/-! ### furlongref04_Right: function 110 -/
def furlongref04_Right.f (a0 : Int) (a1 : Int) (a2 : Int) : Option (Bool) := if a0 ≥ 0 then (if a0 ≤ 1099511627776 then (if a1 ≥ 0 then (if a1 ≤ 1099511627776 then (if a2 ≥ 0 then (some (decide (a2 ≤ 999))) else (some false)) else (some false)) else (some false)) else (some false)) else (some false)
set_option maxHeartbeats 8000000 in
set_option maxRecDepth 100000 in
theorem furlongref04_Right.calls (a0 : Int) (a1 : Int) (a2 : Int) (r : Bool) (w : World) (h : furlongref04_Right.f a0 a1 a2 = some r) :
    Calls Try.prog 110 #[.int .i64 a0, .int .i64 a1, .int .i64 a2] w fun e w' => e = .returned (.bool r) ∧ Drawn0 w w' := by
  have H : (if a0 ≥ 0 then (if a0 ≤ 1099511627776 then (if a1 ≥ 0 then (if a1 ≤ 1099511627776 then (if a2 ≥ 0 then (some (decide (a2 ≤ 999))) else (some false)) else (some false)) else (some false)) else (some false)) else (some false)) = some r := h
  clear h
  by_cases c4 : a0 ≥ 0
  · rw [if_pos c4] at H
    have c4b0 : decide (0 ≤ a0) = true := decide_eq_true c4
    clear c4
    by_cases c5 : a0 ≤ 1099511627776
    · rw [if_pos c5] at H
      have c5b0 : decide (a0 ≤ 1099511627776) = true := decide_eq_true c5
      clear c5
      by_cases c6 : a1 ≥ 0
      · rw [if_pos c6] at H
        have c6b0 : decide (0 ≤ a1) = true := decide_eq_true c6
        clear c6
        by_cases c7 : a1 ≤ 1099511627776
        · rw [if_pos c7] at H
          have c7b0 : decide (a1 ≤ 1099511627776) = true := decide_eq_true c7
          clear c7
          by_cases c8 : a2 ≥ 0
          · rw [if_pos c8] at H
            have c8b0 : decide (0 ≤ a2) = true := decide_eq_true c8
            clear c8
            obtain rfl := Option.some.inj H
            go_enter Try.func110, Try.ntmps110
            go_wp2
            go_ret
            exact ⟨by first | rfl | (simp; done) | (simp [*]; done), by repeat (first | exact Drawn0.refl _ | apply Drawn0.step)⟩
          · rw [if_neg c8] at H
            have c8b0 : decide (0 ≤ a2) = false := decide_eq_false c8
            clear c8
            obtain rfl := Option.some.inj H
            go_enter Try.func110, Try.ntmps110
            go_wp2
            go_ret
            exact ⟨by first | rfl | (simp; done) | (simp [*]; done), by repeat (first | exact Drawn0.refl _ | apply Drawn0.step)⟩
        · rw [if_neg c7] at H
          have c7b0 : decide (a1 ≤ 1099511627776) = false := decide_eq_false c7
          clear c7
          obtain rfl := Option.some.inj H
          go_enter Try.func110, Try.ntmps110
          go_wp2
          go_ret
          exact ⟨by first | rfl | (simp; done) | (simp [*]; done), by repeat (first | exact Drawn0.refl _ | apply Drawn0.step)⟩
      · rw [if_neg c6] at H
        have c6b0 : decide (0 ≤ a1) = false := decide_eq_false c6
        clear c6
        obtain rfl := Option.some.inj H
        go_enter Try.func110, Try.ntmps110
        go_wp2
        go_ret
        exact ⟨by first | rfl | (simp; done) | (simp [*]; done), by repeat (first | exact Drawn0.refl _ | apply Drawn0.step)⟩
    · rw [if_neg c5] at H
      have c5b0 : decide (a0 ≤ 1099511627776) = false := decide_eq_false c5
      clear c5
      obtain rfl := Option.some.inj H
      go_enter Try.func110, Try.ntmps110
      go_wp2
      go_ret
      exact ⟨by first | rfl | (simp; done) | (simp [*]; done), by repeat (first | exact Drawn0.refl _ | apply Drawn0.step)⟩
  · rw [if_neg c4] at H
    have c4b0 : decide (0 ≤ a0) = false := decide_eq_false c4
    clear c4
    obtain rfl := Option.some.inj H
    go_enter Try.func110, Try.ntmps110
    go_wp2
    go_ret
    exact ⟨by first | rfl | (simp; done) | (simp [*]; done), by repeat (first | exact Drawn0.refl _ | apply Drawn0.step)⟩

/-! ### furlongref04_Len: function 69 -/
def furlongref04_Len.f (a0 : Int) (a1 : Int) : Option (Int × Int) := if a0 < 1 then (some (0, 1)) else ((furlongref04_Right.f a0 0 a1).bind fun t297 => (if t297 = true then (if (wrap64 (1000 + a1)) = 0 then (none) else (some (wrap64 (Int.tdiv (wrap64 (a0 * (wrap64 (1000 - a1)))) (wrap64 (1000 + a1))), 0))) else (some (0, 1))))
set_option maxHeartbeats 8000000 in
set_option maxRecDepth 100000 in
theorem furlongref04_Len.calls (a0 : Int) (a1 : Int) (r1 : Int) (r2 : Int) (w : World) (h : furlongref04_Len.f a0 a1 = some (r1, r2)) :
    Calls Try.prog 69 #[.int .i64 a0, .int .i64 a1] w fun e w' => e = .returned (.tuple #[.int .i64 r1, .int .i64 r2]) ∧ Drawn0 w w' := by
  have H : (if a0 < 1 then (some (0, 1)) else ((furlongref04_Right.f a0 0 a1).bind fun t297 => (if t297 = true then (if (wrap64 (1000 + a1)) = 0 then (none) else (some (wrap64 (Int.tdiv (wrap64 (a0 * (wrap64 (1000 - a1)))) (wrap64 (1000 + a1))), 0))) else (some (0, 1))))) = some (r1, r2) := h
  clear h
  by_cases c3 : a0 < 1
  · rw [if_pos c3] at H
    have c3b0 : decide (a0 < 1) = true := decide_eq_true c3
    clear c3
    simp only [Option.some.injEq, Prod.mk.injEq] at H
    obtain ⟨rfl, rfl⟩ := H
    go_enter Try.func69, Try.ntmps69
    go_wp2
    go_ret2
    exact ⟨by first | rfl | (simp; done) | (simp [*]; done), by repeat (first | exact Drawn0.refl _ | apply Drawn0.step)⟩
  · rw [if_neg c3] at H
    have c3b0 : decide (a0 < 1) = false := decide_eq_false c3
    clear c3
    replace H := Option.bind_eq_some_iff.mp H
    obtain ⟨t297, A40, H⟩ := H
    replace H : (if t297 = true then (if (wrap64 (1000 + a1)) = 0 then (none) else (some (wrap64 (Int.tdiv (wrap64 (a0 * (wrap64 (1000 - a1)))) (wrap64 (1000 + a1))), 0))) else (some (0, 1))) = some (r1, r2) := H
    have A4 := Aside0.mk A40
    clear A40
    by_cases c5 : t297 = true
    · subst c5
      have H1 : (if (wrap64 (1000 + a1)) = 0 then (none) else (some (wrap64 (Int.tdiv (wrap64 (a0 * (wrap64 (1000 - a1)))) (wrap64 (1000 + a1))), 0))) = some (r1, r2) := by rw [if_pos rfl] at H; exact H
      clear H
      have H := H1
      clear H1
      by_cases c6 : (wrap64 (1000 + a1)) = 0
      · rw [if_pos c6] at H
        exact absurd H (by simp)
      · rw [if_neg c6] at H
        have c6b0 : ((wrap64 (1000 + a1)) == 0) = false := beq_eq_false_iff_ne.mpr c6
        have c6b1 : ((wrap64 (1000 + a1)) != 0) = true := bne_iff_ne.mpr c6
        simp only [Option.some.injEq, Prod.mk.injEq] at H
        obtain ⟨rfl, rfl⟩ := H
        go_enter Try.func69, Try.ntmps69
        go_wp2_with (first | (go_at_call 110; (with_reducible refine (furlongref04_Right.calls a0 0 a1 true _ A4.out).mono ?_); rintro e w' ⟨rfl, ⟨nd, rfl⟩⟩))
        go_ret2
        exact ⟨by first | rfl | (simp; done) | (simp [*]; done), by repeat (first | exact Drawn0.refl _ | apply Drawn0.step)⟩
    · replace c5 := Bool.eq_false_iff.mpr c5
      subst c5
      have H1 : (some (0, 1)) = some (r1, r2) := by rw [if_neg (show ¬ (false = true) by decide)] at H; exact H
      clear H
      have H := H1
      clear H1
      simp only [Option.some.injEq, Prod.mk.injEq] at H
      obtain ⟨rfl, rfl⟩ := H
      go_enter Try.func69, Try.ntmps69
      go_wp2_with (first | (go_at_call 110; (with_reducible refine (furlongref04_Right.calls a0 0 a1 false _ A4.out).mono ?_); rintro e w' ⟨rfl, ⟨nd, rfl⟩⟩))
      go_ret2
      exact ⟨by first | rfl | (simp; done) | (simp [*]; done), by repeat (first | exact Drawn0.refl _ | apply Drawn0.step)⟩

/-! ### furlongref04_Safe: function 71 -/
def furlongref04_Safe.f (a0 : Int) (a1 : Int) (a2 : Int) : Option (Bool) := (furlongref04_Right.f a0 a1 a2).bind fun t298 => (if t298 = true then (some (decide ((wrap64 (a1 * (wrap64 (1000 + a2)))) ≤ (wrap64 (a0 * (wrap64 (1000 - a2))))))) else (some false))
set_option maxHeartbeats 8000000 in
set_option maxRecDepth 100000 in
theorem furlongref04_Safe.calls (a0 : Int) (a1 : Int) (a2 : Int) (r : Bool) (w : World) (h : furlongref04_Safe.f a0 a1 a2 = some r) :
    Calls Try.prog 71 #[.int .i64 a0, .int .i64 a1, .int .i64 a2] w fun e w' => e = .returned (.bool r) ∧ Drawn0 w w' := by
  have H : ((furlongref04_Right.f a0 a1 a2).bind fun t298 => (if t298 = true then (some (decide ((wrap64 (a1 * (wrap64 (1000 + a2)))) ≤ (wrap64 (a0 * (wrap64 (1000 - a2))))))) else (some false))) = some r := h
  clear h
  replace H := Option.bind_eq_some_iff.mp H
  obtain ⟨t298, A40, H⟩ := H
  replace H : (if t298 = true then (some (decide ((wrap64 (a1 * (wrap64 (1000 + a2)))) ≤ (wrap64 (a0 * (wrap64 (1000 - a2))))))) else (some false)) = some r := H
  have A4 := Aside0.mk A40
  clear A40
  by_cases c5 : t298 = true
  · subst c5
    have H1 : (some (decide ((wrap64 (a1 * (wrap64 (1000 + a2)))) ≤ (wrap64 (a0 * (wrap64 (1000 - a2))))))) = some r := by rw [if_pos rfl] at H; exact H
    clear H
    have H := H1
    clear H1
    obtain rfl := Option.some.inj H
    go_enter Try.func71, Try.ntmps71
    go_wp2_with (first | ((with_reducible refine gate_callee (f := 110) rfl ?_); refine goesL_ (some 10) rfl rfl Try.func110 (by kernel_rfl) rfl #[.int .i64 a0, .int .i64 a1, .int .i64 a2] rfl (by (try simp only [List.map_toArray, List.map_cons, List.map_nil]); first | done | rfl | (simp only [List.length_drop, List.length_take]; rfl)) ?_; (with_reducible refine (furlongref04_Right.calls a0 a1 a2 true _ A4.out).mono ?_); rintro e w' ⟨rfl, ⟨nd, rfl⟩⟩; refine ⟨_, rfl, ?_⟩))
    go_ret
    exact ⟨by first | rfl | (simp; done) | (simp [*]; done), by repeat (first | exact Drawn0.refl _ | apply Drawn0.step)⟩
  · replace c5 := Bool.eq_false_iff.mpr c5
    subst c5
    have H1 : (some false) = some r := by rw [if_neg (show ¬ (false = true) by decide)] at H; exact H
    clear H
    have H := H1
    clear H1
    obtain rfl := Option.some.inj H
    go_enter Try.func71, Try.ntmps71
    go_wp2_with (first | ((with_reducible refine gate_callee (f := 110) rfl ?_); refine goesL_ (some 10) rfl rfl Try.func110 (by kernel_rfl) rfl #[.int .i64 a0, .int .i64 a1, .int .i64 a2] rfl (by (try simp only [List.map_toArray, List.map_cons, List.map_nil]); first | done | rfl | (simp only [List.length_drop, List.length_take]; rfl)) ?_; (with_reducible refine (furlongref04_Right.calls a0 a1 a2 false _ A4.out).mono ?_); rintro e w' ⟨rfl, ⟨nd, rfl⟩⟩; refine ⟨_, rfl, ?_⟩))
    go_ret
    exact ⟨by first | rfl | (simp; done) | (simp [*]; done), by repeat (first | exact Drawn0.refl _ | apply Drawn0.step)⟩

/-! ### furlonglaw04_ClockLens: function 23 -/
def furlonglaw04_ClockLens.f (k : Nat) (a0 : Int) (a1 : Int) (a2 : Int) : Option (Bool) := (furlonglaw04_awake.f k).bind fun t299 => (if t299 = true then ((clock_Len.f k a0 a2).bind fun bt300 => ((furlongref04_Len.f a0 a2).bind fun bt302 => (if bt300.1 = bt302.1 then (if bt300.2 = bt302.2 then ((clock_Safe.f k a0 a1 a2).bind fun t304 => ((furlongref04_Safe.f a0 a1 a2).bind fun t305 => (some (t304 == t305)))) else (some false)) else (some false)))) else (some false))
theorem furlonglaw04_ClockLens.mono : ∀ a0 a1 a2 k, LeO (furlonglaw04_ClockLens.f k a0 a1 a2) (furlonglaw04_ClockLens.f (k + 1) a0 a1 a2) := by
  intro a0 a1 a2 k
  unfold furlonglaw04_ClockLens.f
  repeat' first
      | (with_reducible exact clock_Len.mono _ _ _)
      | (with_reducible exact clock_Safe.mono _ _ _ _)
      | (with_reducible exact furlonglaw04_awake.mono _)
      | (with_reducible exact LeO.refl _)
      | (with_reducible exact LeO.none _)
      | (with_reducible refine LeO.ite ?_ ?_)
      | (with_reducible refine LeO.bind ?_ (fun _ => ?_))
      | exact clock_Len.mono _ _ _
      | exact clock_Safe.mono _ _ _ _
      | exact furlonglaw04_awake.mono _
      | exact LeO.none _
      | refine LeO.ite ?_ ?_
      | refine LeO.bind ?_ (fun _ => ?_)
set_option maxHeartbeats 8000000 in
set_option maxRecDepth 100000 in
theorem furlonglaw04_ClockLens.calls (k : Nat) (a0 : Int) (a1 : Int) (a2 : Int) (r : Bool) (w : World) (h : furlonglaw04_ClockLens.f k a0 a1 a2 = some r) :
    Calls Try.prog 23 #[.int .i64 a0, .int .i64 a1, .int .i64 a2] w fun e w' => e = .returned (.bool r) ∧ Below w.heap.size w w' := by
  have HB := Aside0.mk (Below.refl w.heap.size w)
  have H : ((furlonglaw04_awake.f k).bind fun t299 => (if t299 = true then ((clock_Len.f k a0 a2).bind fun bt300 => ((furlongref04_Len.f a0 a2).bind fun bt302 => (if bt300.1 = bt302.1 then (if bt300.2 = bt302.2 then ((clock_Safe.f k a0 a1 a2).bind fun t304 => ((furlongref04_Safe.f a0 a1 a2).bind fun t305 => (some (t304 == t305)))) else (some false)) else (some false)))) else (some false))) = some r := h
  clear h
  replace H := Option.bind_eq_some_iff.mp H
  obtain ⟨t299, A40, H⟩ := H
  replace H : (if t299 = true then ((clock_Len.f k a0 a2).bind fun bt300 => ((furlongref04_Len.f a0 a2).bind fun bt302 => (if bt300.1 = bt302.1 then (if bt300.2 = bt302.2 then ((clock_Safe.f k a0 a1 a2).bind fun t304 => ((furlongref04_Safe.f a0 a1 a2).bind fun t305 => (some (t304 == t305)))) else (some false)) else (some false)))) else (some false)) = some r := H
  have A4 := Aside0.mk A40
  clear A40
  by_cases c5 : t299 = true
  · subst c5
    have H1 : ((clock_Len.f k a0 a2).bind fun bt300 => ((furlongref04_Len.f a0 a2).bind fun bt302 => (if bt300.1 = bt302.1 then (if bt300.2 = bt302.2 then ((clock_Safe.f k a0 a1 a2).bind fun t304 => ((furlongref04_Safe.f a0 a1 a2).bind fun t305 => (some (t304 == t305)))) else (some false)) else (some false)))) = some r := by rw [if_pos rfl] at H; exact H
    clear H
    have H := H1
    clear H1
    replace H := Option.bind_eq_some_iff.mp H
    obtain ⟨⟨t300, t301⟩, A60, H⟩ := H
    replace H : ((furlongref04_Len.f a0 a2).bind fun bt302 => (if t300 = bt302.1 then (if t301 = bt302.2 then ((clock_Safe.f k a0 a1 a2).bind fun t304 => ((furlongref04_Safe.f a0 a1 a2).bind fun t305 => (some (t304 == t305)))) else (some false)) else (some false))) = some r := H
    have A6 := Aside0.mk A60
    clear A60
    replace H := Option.bind_eq_some_iff.mp H
    obtain ⟨⟨t302, t303⟩, A70, H⟩ := H
    replace H : (if t300 = t302 then (if t301 = t303 then ((clock_Safe.f k a0 a1 a2).bind fun t304 => ((furlongref04_Safe.f a0 a1 a2).bind fun t305 => (some (t304 == t305)))) else (some false)) else (some false)) = some r := H
    have A7 := Aside0.mk A70
    clear A70
    by_cases c8 : t300 = t302
    · rw [if_pos c8] at H
      have c8b0 : (t300 == t302) = true := beq_iff_eq.mpr c8
      have c8b1 : (t300 != t302) = false := bne_eq_false_iff_eq.mpr c8
      clear c8
      by_cases c9 : t301 = t303
      · rw [if_pos c9] at H
        have c9b0 : (t301 == t303) = true := beq_iff_eq.mpr c9
        have c9b1 : (t301 != t303) = false := bne_eq_false_iff_eq.mpr c9
        clear c9
        replace H := Option.bind_eq_some_iff.mp H
        obtain ⟨t304, A100, H⟩ := H
        replace H : ((furlongref04_Safe.f a0 a1 a2).bind fun t305 => (some (t304 == t305))) = some r := H
        have A10 := Aside0.mk A100
        clear A100
        replace H := Option.bind_eq_some_iff.mp H
        obtain ⟨t305, A110, H⟩ := H
        replace H : (some (t304 == t305)) = some r := H
        have A11 := Aside0.mk A110
        clear A110
        obtain rfl := Option.some.inj H
        go_enter Try.func23, Try.ntmps23
        go_wp2_with (first | ((with_reducible refine gate_callee (f := 67) rfl ?_); refine goesL_ (some 11) rfl rfl Try.func67 (by kernel_rfl) rfl #[] rfl (by (try simp only [List.map_toArray, List.map_cons, List.map_nil]); first | done | rfl | (simp only [List.length_drop, List.length_take]; rfl)) ?_; (with_reducible refine (furlonglaw04_awake.calls k  true _ A4.out).mono ?_); rintro e w12 ⟨rfl, hb⟩; refine ⟨_, rfl, ?_⟩; have n0_ := Aside0.mk (below_step (by repeat (first | (with_reducible first | exact HB.out | apply below_alloc | apply pw_below_drewN | apply below_drew1) | exact HB.out)) hb); clear HB; have HB := n0_; clear n0_; (try clear hb); (try clear hb2); (try clear hk); (try clear hi)) | ((with_reducible refine gate_callee (f := 68) rfl ?_); refine goesL_ (some 16) rfl rfl Try.func68 (by kernel_rfl) rfl #[.int .i64 a0, .int .i64 a2] rfl (by (try simp only [List.map_toArray, List.map_cons, List.map_nil]); first | done | rfl | (simp only [List.length_drop, List.length_take]; rfl)) ?_; (with_reducible refine (clock_Len.calls k a0 a2 t300 t301 _ A6.out).mono ?_); rintro e w13 ⟨rfl, hb⟩; refine ⟨_, rfl, ?_⟩; have n0_ := Aside0.mk (below_step (by repeat (first | (with_reducible first | exact HB.out | apply below_alloc | apply pw_below_drewN | apply below_drew1) | exact HB.out)) hb); clear HB; have HB := n0_; clear n0_; (try clear hb); (try clear hb2); (try clear hk); (try clear hi)) | ((with_reducible refine gate_callee (f := 69) rfl ?_); refine goesL_ (some 22) rfl rfl Try.func69 (by kernel_rfl) rfl #[.int .i64 a0, .int .i64 a2] rfl (by (try simp only [List.map_toArray, List.map_cons, List.map_nil]); first | done | rfl | (simp only [List.length_drop, List.length_take]; rfl)) ?_; (with_reducible refine (furlongref04_Len.calls a0 a2 t302 t303 _ A7.out).mono ?_); rintro e w' ⟨rfl, ⟨nd, rfl⟩⟩; refine ⟨_, rfl, ?_⟩) | (go_at_call 70; (with_reducible refine (clock_Safe.calls k a0 a1 a2 t304 _ A10.out).mono ?_); rintro e w14 ⟨rfl, hb⟩; have n0_ := Aside0.mk (below_step (by repeat (first | (with_reducible first | exact HB.out | apply below_alloc | apply pw_below_drewN | apply below_drew1) | exact HB.out)) hb); clear HB; have HB := n0_; clear n0_; (try clear hb); (try clear hb2); (try clear hk); (try clear hi)) | (go_at_call 71; (with_reducible refine (furlongref04_Safe.calls a0 a1 a2 t305 _ A11.out).mono ?_); rintro e w' ⟨rfl, ⟨nd, rfl⟩⟩))
        go_ret
        exact ⟨by first | rfl | (simp [errW_none, errW_some] <;> rfl) | (simp [*, errW_none, errW_some] <;> rfl), by repeat (first | (with_reducible first | exact HB.out | apply below_alloc | apply pw_below_drewN | apply below_drew1) | exact HB.out)⟩
      · rw [if_neg c9] at H
        have c9b0 : (t301 == t303) = false := beq_eq_false_iff_ne.mpr c9
        have c9b1 : (t301 != t303) = true := bne_iff_ne.mpr c9
        obtain rfl := Option.some.inj H
        go_enter Try.func23, Try.ntmps23
        go_wp2_with (first | ((with_reducible refine gate_callee (f := 67) rfl ?_); refine goesL_ (some 11) rfl rfl Try.func67 (by kernel_rfl) rfl #[] rfl (by (try simp only [List.map_toArray, List.map_cons, List.map_nil]); first | done | rfl | (simp only [List.length_drop, List.length_take]; rfl)) ?_; (with_reducible refine (furlonglaw04_awake.calls k  true _ A4.out).mono ?_); rintro e w15 ⟨rfl, hb⟩; refine ⟨_, rfl, ?_⟩; have n0_ := Aside0.mk (below_step (by repeat (first | (with_reducible first | exact HB.out | apply below_alloc | apply pw_below_drewN | apply below_drew1) | exact HB.out)) hb); clear HB; have HB := n0_; clear n0_; (try clear hb); (try clear hb2); (try clear hk); (try clear hi)) | ((with_reducible refine gate_callee (f := 68) rfl ?_); refine goesL_ (some 16) rfl rfl Try.func68 (by kernel_rfl) rfl #[.int .i64 a0, .int .i64 a2] rfl (by (try simp only [List.map_toArray, List.map_cons, List.map_nil]); first | done | rfl | (simp only [List.length_drop, List.length_take]; rfl)) ?_; (with_reducible refine (clock_Len.calls k a0 a2 t300 t301 _ A6.out).mono ?_); rintro e w16 ⟨rfl, hb⟩; refine ⟨_, rfl, ?_⟩; have n0_ := Aside0.mk (below_step (by repeat (first | (with_reducible first | exact HB.out | apply below_alloc | apply pw_below_drewN | apply below_drew1) | exact HB.out)) hb); clear HB; have HB := n0_; clear n0_; (try clear hb); (try clear hb2); (try clear hk); (try clear hi)) | ((with_reducible refine gate_callee (f := 69) rfl ?_); refine goesL_ (some 22) rfl rfl Try.func69 (by kernel_rfl) rfl #[.int .i64 a0, .int .i64 a2] rfl (by (try simp only [List.map_toArray, List.map_cons, List.map_nil]); first | done | rfl | (simp only [List.length_drop, List.length_take]; rfl)) ?_; (with_reducible refine (furlongref04_Len.calls a0 a2 t302 t303 _ A7.out).mono ?_); rintro e w' ⟨rfl, ⟨nd, rfl⟩⟩; refine ⟨_, rfl, ?_⟩))
        go_ret
        exact ⟨by first | rfl | (simp [errW_none, errW_some] <;> rfl) | (simp [*, errW_none, errW_some] <;> rfl), by repeat (first | (with_reducible first | exact HB.out | apply below_alloc | apply pw_below_drewN | apply below_drew1) | exact HB.out)⟩
    · rw [if_neg c8] at H
      have c8b0 : (t300 == t302) = false := beq_eq_false_iff_ne.mpr c8
      have c8b1 : (t300 != t302) = true := bne_iff_ne.mpr c8
      obtain rfl := Option.some.inj H
      go_enter Try.func23, Try.ntmps23
      go_wp2_with (first | ((with_reducible refine gate_callee (f := 67) rfl ?_); refine goesL_ (some 11) rfl rfl Try.func67 (by kernel_rfl) rfl #[] rfl (by (try simp only [List.map_toArray, List.map_cons, List.map_nil]); first | done | rfl | (simp only [List.length_drop, List.length_take]; rfl)) ?_; (with_reducible refine (furlonglaw04_awake.calls k  true _ A4.out).mono ?_); rintro e w17 ⟨rfl, hb⟩; refine ⟨_, rfl, ?_⟩; have n0_ := Aside0.mk (below_step (by repeat (first | (with_reducible first | exact HB.out | apply below_alloc | apply pw_below_drewN | apply below_drew1) | exact HB.out)) hb); clear HB; have HB := n0_; clear n0_; (try clear hb); (try clear hb2); (try clear hk); (try clear hi)) | ((with_reducible refine gate_callee (f := 68) rfl ?_); refine goesL_ (some 16) rfl rfl Try.func68 (by kernel_rfl) rfl #[.int .i64 a0, .int .i64 a2] rfl (by (try simp only [List.map_toArray, List.map_cons, List.map_nil]); first | done | rfl | (simp only [List.length_drop, List.length_take]; rfl)) ?_; (with_reducible refine (clock_Len.calls k a0 a2 t300 t301 _ A6.out).mono ?_); rintro e w18 ⟨rfl, hb⟩; refine ⟨_, rfl, ?_⟩; have n0_ := Aside0.mk (below_step (by repeat (first | (with_reducible first | exact HB.out | apply below_alloc | apply pw_below_drewN | apply below_drew1) | exact HB.out)) hb); clear HB; have HB := n0_; clear n0_; (try clear hb); (try clear hb2); (try clear hk); (try clear hi)) | ((with_reducible refine gate_callee (f := 69) rfl ?_); refine goesL_ (some 22) rfl rfl Try.func69 (by kernel_rfl) rfl #[.int .i64 a0, .int .i64 a2] rfl (by (try simp only [List.map_toArray, List.map_cons, List.map_nil]); first | done | rfl | (simp only [List.length_drop, List.length_take]; rfl)) ?_; (with_reducible refine (furlongref04_Len.calls a0 a2 t302 t303 _ A7.out).mono ?_); rintro e w' ⟨rfl, ⟨nd, rfl⟩⟩; refine ⟨_, rfl, ?_⟩))
      go_ret
      exact ⟨by first | rfl | (simp [errW_none, errW_some] <;> rfl) | (simp [*, errW_none, errW_some] <;> rfl), by repeat (first | (with_reducible first | exact HB.out | apply below_alloc | apply pw_below_drewN | apply below_drew1) | exact HB.out)⟩
  · replace c5 := Bool.eq_false_iff.mpr c5
    subst c5
    have H1 : (some false) = some r := by rw [if_neg (show ¬ (false = true) by decide)] at H; exact H
    clear H
    have H := H1
    clear H1
    obtain rfl := Option.some.inj H
    go_enter Try.func23, Try.ntmps23
    go_wp2_with (first | ((with_reducible refine gate_callee (f := 67) rfl ?_); refine goesL_ (some 11) rfl rfl Try.func67 (by kernel_rfl) rfl #[] rfl (by (try simp only [List.map_toArray, List.map_cons, List.map_nil]); first | done | rfl | (simp only [List.length_drop, List.length_take]; rfl)) ?_; (with_reducible refine (furlonglaw04_awake.calls k  false _ A4.out).mono ?_); rintro e w19 ⟨rfl, hb⟩; refine ⟨_, rfl, ?_⟩; have n0_ := Aside0.mk (below_step (by repeat (first | (with_reducible first | exact HB.out | apply below_alloc | apply pw_below_drewN | apply below_drew1) | exact HB.out)) hb); clear HB; have HB := n0_; clear n0_; (try clear hb); (try clear hb2); (try clear hk); (try clear hi)))
    go_ret
    exact ⟨by first | rfl | (simp [errW_none, errW_some] <;> rfl) | (simp [*, errW_none, errW_some] <;> rfl), by repeat (first | (with_reducible first | exact HB.out | apply below_alloc | apply pw_below_drewN | apply below_drew1) | exact HB.out)⟩

/-- THE ONE PURE STATEMENT of furlonglaw04_ClockLens: yours. -/
def furlonglaw04_ClockLens.Pure : Prop := ∀ (a0 : Int) (a1 : Int) (a2 : Int), (Lit.int .i64 a0).wf = true → (Lit.int .i64 a1).wf = true → (Lit.int .i64 a2).wf = true → ∃ k, furlonglaw04_ClockLens.f k a0 a1 a2 = some true
theorem furlonglaw04_ClockLens.walk (P : furlonglaw04_ClockLens.Pure) (a0 : Int) (a1 : Int) (a2 : Int) (w : World) (w0 : (Lit.int .i64 a0).wf = true) (w1 : (Lit.int .i64 a1).wf = true) (w2 : (Lit.int .i64 a2).wf = true) :
    Calls Try.prog 23 #[.int .i64 a0, .int .i64 a1, .int .i64 a2] w fun e w' => e = .returned (.bool true) ∧ Below w.heap.size w w' := by
  obtain ⟨k, h⟩ := P a0 a1 a2 w0 w1 w2
  refine (furlonglaw04_ClockLens.calls k a0 a1 a2 true w h).mono ?_
  rintro e w' ⟨rfl, hd⟩
  exact ⟨rfl, hd⟩

/-! ### furlongref04_Within: function 73 -/
def furlongref04_Within.f (a0 : Int) (a1 : Int) (a2 : Int) : Option (Bool) := (furlongref04_Right.f a0 a1 a2).bind fun t306 => (if t306 = true then (if (wrap64 (1000 * a1)) ≥ (wrap64 ((wrap64 (1000 - a2)) * a0)) then (some (decide ((wrap64 (1000 * a1)) ≤ (wrap64 ((wrap64 (1000 + a2)) * a0))))) else (some false)) else (some false))
set_option maxHeartbeats 8000000 in
set_option maxRecDepth 100000 in
theorem furlongref04_Within.calls (a0 : Int) (a1 : Int) (a2 : Int) (r : Bool) (w : World) (h : furlongref04_Within.f a0 a1 a2 = some r) :
    Calls Try.prog 73 #[.int .i64 a0, .int .i64 a1, .int .i64 a2] w fun e w' => e = .returned (.bool r) ∧ Drawn0 w w' := by
  have H : ((furlongref04_Right.f a0 a1 a2).bind fun t306 => (if t306 = true then (if (wrap64 (1000 * a1)) ≥ (wrap64 ((wrap64 (1000 - a2)) * a0)) then (some (decide ((wrap64 (1000 * a1)) ≤ (wrap64 ((wrap64 (1000 + a2)) * a0))))) else (some false)) else (some false))) = some r := h
  clear h
  replace H := Option.bind_eq_some_iff.mp H
  obtain ⟨t306, A40, H⟩ := H
  replace H : (if t306 = true then (if (wrap64 (1000 * a1)) ≥ (wrap64 ((wrap64 (1000 - a2)) * a0)) then (some (decide ((wrap64 (1000 * a1)) ≤ (wrap64 ((wrap64 (1000 + a2)) * a0))))) else (some false)) else (some false)) = some r := H
  have A4 := Aside0.mk A40
  clear A40
  by_cases c5 : t306 = true
  · subst c5
    have H1 : (if (wrap64 (1000 * a1)) ≥ (wrap64 ((wrap64 (1000 - a2)) * a0)) then (some (decide ((wrap64 (1000 * a1)) ≤ (wrap64 ((wrap64 (1000 + a2)) * a0))))) else (some false)) = some r := by rw [if_pos rfl] at H; exact H
    clear H
    have H := H1
    clear H1
    by_cases c6 : (wrap64 (1000 * a1)) ≥ (wrap64 ((wrap64 (1000 - a2)) * a0))
    · rw [if_pos c6] at H
      have c6b0 : decide ((wrap64 ((wrap64 (1000 - a2)) * a0)) ≤ (wrap64 (1000 * a1))) = true := decide_eq_true c6
      clear c6
      obtain rfl := Option.some.inj H
      go_enter Try.func73, Try.ntmps73
      go_wp2_with (first | ((with_reducible refine gate_callee (f := 110) rfl ?_); refine goesL_ (some 10) rfl rfl Try.func110 (by kernel_rfl) rfl #[.int .i64 a0, .int .i64 a1, .int .i64 a2] rfl (by (try simp only [List.map_toArray, List.map_cons, List.map_nil]); first | done | rfl | (simp only [List.length_drop, List.length_take]; rfl)) ?_; (with_reducible refine (furlongref04_Right.calls a0 a1 a2 true _ A4.out).mono ?_); rintro e w' ⟨rfl, ⟨nd, rfl⟩⟩; refine ⟨_, rfl, ?_⟩))
      go_ret
      exact ⟨by first | rfl | (simp; done) | (simp [*]; done), by repeat (first | exact Drawn0.refl _ | apply Drawn0.step)⟩
    · rw [if_neg c6] at H
      have c6b0 : decide ((wrap64 ((wrap64 (1000 - a2)) * a0)) ≤ (wrap64 (1000 * a1))) = false := decide_eq_false c6
      clear c6
      obtain rfl := Option.some.inj H
      go_enter Try.func73, Try.ntmps73
      go_wp2_with (first | ((with_reducible refine gate_callee (f := 110) rfl ?_); refine goesL_ (some 10) rfl rfl Try.func110 (by kernel_rfl) rfl #[.int .i64 a0, .int .i64 a1, .int .i64 a2] rfl (by (try simp only [List.map_toArray, List.map_cons, List.map_nil]); first | done | rfl | (simp only [List.length_drop, List.length_take]; rfl)) ?_; (with_reducible refine (furlongref04_Right.calls a0 a1 a2 true _ A4.out).mono ?_); rintro e w' ⟨rfl, ⟨nd, rfl⟩⟩; refine ⟨_, rfl, ?_⟩))
      go_ret
      exact ⟨by first | rfl | (simp; done) | (simp [*]; done), by repeat (first | exact Drawn0.refl _ | apply Drawn0.step)⟩
  · replace c5 := Bool.eq_false_iff.mpr c5
    subst c5
    have H1 : (some false) = some r := by rw [if_neg (show ¬ (false = true) by decide)] at H; exact H
    clear H
    have H := H1
    clear H1
    obtain rfl := Option.some.inj H
    go_enter Try.func73, Try.ntmps73
    go_wp2_with (first | ((with_reducible refine gate_callee (f := 110) rfl ?_); refine goesL_ (some 10) rfl rfl Try.func110 (by kernel_rfl) rfl #[.int .i64 a0, .int .i64 a1, .int .i64 a2] rfl (by (try simp only [List.map_toArray, List.map_cons, List.map_nil]); first | done | rfl | (simp only [List.length_drop, List.length_take]; rfl)) ?_; (with_reducible refine (furlongref04_Right.calls a0 a1 a2 false _ A4.out).mono ?_); rintro e w' ⟨rfl, ⟨nd, rfl⟩⟩; refine ⟨_, rfl, ?_⟩))
    go_ret
    exact ⟨by first | rfl | (simp; done) | (simp [*]; done), by repeat (first | exact Drawn0.refl _ | apply Drawn0.step)⟩

/-! ### furlonglaw04_ClockWithin: function 24 -/
def furlonglaw04_ClockWithin.f (k : Nat) (a0 : Int) (a1 : Int) (a2 : Int) : Option (Bool) := (furlonglaw04_awake.f k).bind fun t307 => (if t307 = true then ((clock_Within.f k a0 a1 a2).bind fun t308 => ((furlongref04_Within.f a0 a1 a2).bind fun t309 => (some (t308 == t309)))) else (some false))
theorem furlonglaw04_ClockWithin.mono : ∀ a0 a1 a2 k, LeO (furlonglaw04_ClockWithin.f k a0 a1 a2) (furlonglaw04_ClockWithin.f (k + 1) a0 a1 a2) := by
  intro a0 a1 a2 k
  unfold furlonglaw04_ClockWithin.f
  repeat' first
      | (with_reducible exact clock_Within.mono _ _ _ _)
      | (with_reducible exact furlonglaw04_awake.mono _)
      | (with_reducible exact LeO.refl _)
      | (with_reducible exact LeO.none _)
      | (with_reducible refine LeO.ite ?_ ?_)
      | (with_reducible refine LeO.bind ?_ (fun _ => ?_))
      | exact clock_Within.mono _ _ _ _
      | exact furlonglaw04_awake.mono _
      | exact LeO.none _
      | refine LeO.ite ?_ ?_
      | refine LeO.bind ?_ (fun _ => ?_)
set_option maxHeartbeats 8000000 in
set_option maxRecDepth 100000 in
theorem furlonglaw04_ClockWithin.calls (k : Nat) (a0 : Int) (a1 : Int) (a2 : Int) (r : Bool) (w : World) (h : furlonglaw04_ClockWithin.f k a0 a1 a2 = some r) :
    Calls Try.prog 24 #[.int .i64 a0, .int .i64 a1, .int .i64 a2] w fun e w' => e = .returned (.bool r) ∧ Below w.heap.size w w' := by
  have HB := Aside0.mk (Below.refl w.heap.size w)
  have H : ((furlonglaw04_awake.f k).bind fun t307 => (if t307 = true then ((clock_Within.f k a0 a1 a2).bind fun t308 => ((furlongref04_Within.f a0 a1 a2).bind fun t309 => (some (t308 == t309)))) else (some false))) = some r := h
  clear h
  replace H := Option.bind_eq_some_iff.mp H
  obtain ⟨t307, A40, H⟩ := H
  replace H : (if t307 = true then ((clock_Within.f k a0 a1 a2).bind fun t308 => ((furlongref04_Within.f a0 a1 a2).bind fun t309 => (some (t308 == t309)))) else (some false)) = some r := H
  have A4 := Aside0.mk A40
  clear A40
  by_cases c5 : t307 = true
  · subst c5
    have H1 : ((clock_Within.f k a0 a1 a2).bind fun t308 => ((furlongref04_Within.f a0 a1 a2).bind fun t309 => (some (t308 == t309)))) = some r := by rw [if_pos rfl] at H; exact H
    clear H
    have H := H1
    clear H1
    replace H := Option.bind_eq_some_iff.mp H
    obtain ⟨t308, A60, H⟩ := H
    replace H : ((furlongref04_Within.f a0 a1 a2).bind fun t309 => (some (t308 == t309))) = some r := H
    have A6 := Aside0.mk A60
    clear A60
    replace H := Option.bind_eq_some_iff.mp H
    obtain ⟨t309, A70, H⟩ := H
    replace H : (some (t308 == t309)) = some r := H
    have A7 := Aside0.mk A70
    clear A70
    obtain rfl := Option.some.inj H
    go_enter Try.func24, Try.ntmps24
    go_wp2_with (first | ((with_reducible refine gate_callee (f := 67) rfl ?_); refine goesL_ (some 7) rfl rfl Try.func67 (by kernel_rfl) rfl #[] rfl (by (try simp only [List.map_toArray, List.map_cons, List.map_nil]); first | done | rfl | (simp only [List.length_drop, List.length_take]; rfl)) ?_; (with_reducible refine (furlonglaw04_awake.calls k  true _ A4.out).mono ?_); rintro e w8 ⟨rfl, hb⟩; refine ⟨_, rfl, ?_⟩; have n0_ := Aside0.mk (below_step (by repeat (first | (with_reducible first | exact HB.out | apply below_alloc | apply pw_below_drewN | apply below_drew1) | exact HB.out)) hb); clear HB; have HB := n0_; clear n0_; (try clear hb); (try clear hb2); (try clear hk); (try clear hi)) | (go_at_call 72; (with_reducible refine (clock_Within.calls k a0 a1 a2 t308 _ A6.out).mono ?_); rintro e w9 ⟨rfl, hb⟩; have n0_ := Aside0.mk (below_step (by repeat (first | (with_reducible first | exact HB.out | apply below_alloc | apply pw_below_drewN | apply below_drew1) | exact HB.out)) hb); clear HB; have HB := n0_; clear n0_; (try clear hb); (try clear hb2); (try clear hk); (try clear hi)) | (go_at_call 73; (with_reducible refine (furlongref04_Within.calls a0 a1 a2 t309 _ A7.out).mono ?_); rintro e w' ⟨rfl, ⟨nd, rfl⟩⟩))
    go_ret
    exact ⟨by first | rfl | (simp [errW_none, errW_some] <;> rfl) | (simp [*, errW_none, errW_some] <;> rfl), by repeat (first | (with_reducible first | exact HB.out | apply below_alloc | apply pw_below_drewN | apply below_drew1) | exact HB.out)⟩
  · replace c5 := Bool.eq_false_iff.mpr c5
    subst c5
    have H1 : (some false) = some r := by rw [if_neg (show ¬ (false = true) by decide)] at H; exact H
    clear H
    have H := H1
    clear H1
    obtain rfl := Option.some.inj H
    go_enter Try.func24, Try.ntmps24
    go_wp2_with (first | ((with_reducible refine gate_callee (f := 67) rfl ?_); refine goesL_ (some 7) rfl rfl Try.func67 (by kernel_rfl) rfl #[] rfl (by (try simp only [List.map_toArray, List.map_cons, List.map_nil]); first | done | rfl | (simp only [List.length_drop, List.length_take]; rfl)) ?_; (with_reducible refine (furlonglaw04_awake.calls k  false _ A4.out).mono ?_); rintro e w10 ⟨rfl, hb⟩; refine ⟨_, rfl, ?_⟩; have n0_ := Aside0.mk (below_step (by repeat (first | (with_reducible first | exact HB.out | apply below_alloc | apply pw_below_drewN | apply below_drew1) | exact HB.out)) hb); clear HB; have HB := n0_; clear n0_; (try clear hb); (try clear hb2); (try clear hk); (try clear hi)))
    go_ret
    exact ⟨by first | rfl | (simp [errW_none, errW_some] <;> rfl) | (simp [*, errW_none, errW_some] <;> rfl), by repeat (first | (with_reducible first | exact HB.out | apply below_alloc | apply pw_below_drewN | apply below_drew1) | exact HB.out)⟩

/-- THE ONE PURE STATEMENT of furlonglaw04_ClockWithin: yours. -/
def furlonglaw04_ClockWithin.Pure : Prop := ∀ (a0 : Int) (a1 : Int) (a2 : Int), (Lit.int .i64 a0).wf = true → (Lit.int .i64 a1).wf = true → (Lit.int .i64 a2).wf = true → ∃ k, furlonglaw04_ClockWithin.f k a0 a1 a2 = some true
theorem furlonglaw04_ClockWithin.walk (P : furlonglaw04_ClockWithin.Pure) (a0 : Int) (a1 : Int) (a2 : Int) (w : World) (w0 : (Lit.int .i64 a0).wf = true) (w1 : (Lit.int .i64 a1).wf = true) (w2 : (Lit.int .i64 a2).wf = true) :
    Calls Try.prog 24 #[.int .i64 a0, .int .i64 a1, .int .i64 a2] w fun e w' => e = .returned (.bool true) ∧ Below w.heap.size w w' := by
  obtain ⟨k, h⟩ := P a0 a1 a2 w0 w1 w2
  refine (furlonglaw04_ClockWithin.calls k a0 a1 a2 true w h).mono ?_
  rintro e w' ⟨rfl, hd⟩
  exact ⟨rfl, hd⟩

/-! ### furlonglaw04_ClockGreatest: function 25 -/
def furlonglaw04_ClockGreatest.j0 : Nat → Int → Int → Int → Int → Bool → Option (Bool)
  | 0, _, _, _, _, _ => none
  | k + 1, x0, x1, x5, x6, x28 => if x28 = true then (if x6 = 1 then (some (x5 == 0)) else (some false)) else (if x6 = 0 then (if x5 ≥ 0 then (if x5 ≤ x0 then ((clock_Safe.f k x0 x5 x1).bind fun t313 => (if t313 = true then (if x5 = 1099511627776 then (if x1 > 0 then (some true) else (some (x5 == x0))) else ((clock_Safe.f k x0 (wrap64 (x5 + 1)) x1).bind fun t314 => (if t314 = true then (some false) else (if x1 > 0 then (some true) else (some (x5 == x0)))))) else (some false))) else (some false)) else (some false)) else (some false))
def furlonglaw04_ClockGreatest.f (k : Nat) (a0 : Int) (a1 : Int) : Option (Bool) := (furlonglaw04_awake.f k).bind fun t310 => (if t310 = true then ((clock_Len.f k a0 a1).bind fun bt311 => (if a0 < 1 then (furlonglaw04_ClockGreatest.j0 k a0 a1 bt311.1 bt311.2 true) else (if a0 > 1099511627776 then (furlonglaw04_ClockGreatest.j0 k a0 a1 bt311.1 bt311.2 true) else (if a1 < 0 then (furlonglaw04_ClockGreatest.j0 k a0 a1 bt311.1 bt311.2 true) else (furlonglaw04_ClockGreatest.j0 k a0 a1 bt311.1 bt311.2 (decide (a1 > 999))))))) else (some false))
theorem furlonglaw04_ClockGreatest.mono_l : ∀ k, (∀ y0 y1 y2 y3 y4, LeO (furlonglaw04_ClockGreatest.j0 k y0 y1 y2 y3 y4) (furlonglaw04_ClockGreatest.j0 (k + 1) y0 y1 y2 y3 y4))
  | 0 => fun _ _ _ _ _ r h => by simp [furlonglaw04_ClockGreatest.j0] at h
  | k + 1 => by
    have ih0 := furlonglaw04_ClockGreatest.mono_l k
    · intro y0 y1 y2 y3 y4
      unfold furlonglaw04_ClockGreatest.j0
      repeat' first
      | (with_reducible exact ih0 _ _ _ _ _)
      | (with_reducible exact clock_Len.mono _ _ _)
      | (with_reducible exact clock_Safe.mono _ _ _ _)
      | (with_reducible exact furlonglaw04_awake.mono _)
      | (with_reducible exact LeO.refl _)
      | (with_reducible exact LeO.none _)
      | (with_reducible refine LeO.ite ?_ ?_)
      | (with_reducible refine LeO.bind ?_ (fun _ => ?_))
      | exact ih0 _ _ _ _ _
      | exact clock_Len.mono _ _ _
      | exact clock_Safe.mono _ _ _ _
      | exact furlonglaw04_awake.mono _
      | exact LeO.none _
      | refine LeO.ite ?_ ?_
      | refine LeO.bind ?_ (fun _ => ?_)
theorem furlonglaw04_ClockGreatest.mono : ∀ a0 a1 k, LeO (furlonglaw04_ClockGreatest.f k a0 a1) (furlonglaw04_ClockGreatest.f (k + 1) a0 a1) := by
  intro a0 a1 k
  have ih0 := furlonglaw04_ClockGreatest.mono_l k
  unfold furlonglaw04_ClockGreatest.f
  repeat' first
      | (with_reducible exact ih0 _ _ _ _ _)
      | (with_reducible exact clock_Len.mono _ _ _)
      | (with_reducible exact clock_Safe.mono _ _ _ _)
      | (with_reducible exact furlonglaw04_awake.mono _)
      | (with_reducible exact LeO.refl _)
      | (with_reducible exact LeO.none _)
      | (with_reducible refine LeO.ite ?_ ?_)
      | (with_reducible refine LeO.bind ?_ (fun _ => ?_))
      | exact ih0 _ _ _ _ _
      | exact clock_Len.mono _ _ _
      | exact clock_Safe.mono _ _ _ _
      | exact furlonglaw04_awake.mono _
      | exact LeO.none _
      | refine LeO.ite ?_ ?_
      | refine LeO.bind ?_ (fun _ => ?_)
set_option maxHeartbeats 8000000 in
set_option maxRecDepth 100000 in
theorem furlonglaw04_ClockGreatest.calls (k : Nat) (a0 : Int) (a1 : Int) (r : Bool) (w : World) (h : furlonglaw04_ClockGreatest.f k a0 a1 = some r) :
    Calls Try.prog 25 #[.int .i64 a0, .int .i64 a1] w fun e w' => e = .returned (.bool r) ∧ Below w.heap.size w w' := by
  have HB := Aside0.mk (Below.refl w.heap.size w)
  have H : ((furlonglaw04_awake.f k).bind fun t310 => (if t310 = true then ((clock_Len.f k a0 a1).bind fun bt311 => (if a0 < 1 then (furlonglaw04_ClockGreatest.j0 k a0 a1 bt311.1 bt311.2 true) else (if a0 > 1099511627776 then (furlonglaw04_ClockGreatest.j0 k a0 a1 bt311.1 bt311.2 true) else (if a1 < 0 then (furlonglaw04_ClockGreatest.j0 k a0 a1 bt311.1 bt311.2 true) else (furlonglaw04_ClockGreatest.j0 k a0 a1 bt311.1 bt311.2 (decide (a1 > 999))))))) else (some false))) = some r := h
  clear h
  replace H := Option.bind_eq_some_iff.mp H
  obtain ⟨t310, A30, H⟩ := H
  replace H : (if t310 = true then ((clock_Len.f k a0 a1).bind fun bt311 => (if a0 < 1 then (furlonglaw04_ClockGreatest.j0 k a0 a1 bt311.1 bt311.2 true) else (if a0 > 1099511627776 then (furlonglaw04_ClockGreatest.j0 k a0 a1 bt311.1 bt311.2 true) else (if a1 < 0 then (furlonglaw04_ClockGreatest.j0 k a0 a1 bt311.1 bt311.2 true) else (furlonglaw04_ClockGreatest.j0 k a0 a1 bt311.1 bt311.2 (decide (a1 > 999))))))) else (some false)) = some r := H
  have A3 := Aside0.mk A30
  clear A30
  by_cases c4 : t310 = true
  · subst c4
    have H1 : ((clock_Len.f k a0 a1).bind fun bt311 => (if a0 < 1 then (furlonglaw04_ClockGreatest.j0 k a0 a1 bt311.1 bt311.2 true) else (if a0 > 1099511627776 then (furlonglaw04_ClockGreatest.j0 k a0 a1 bt311.1 bt311.2 true) else (if a1 < 0 then (furlonglaw04_ClockGreatest.j0 k a0 a1 bt311.1 bt311.2 true) else (furlonglaw04_ClockGreatest.j0 k a0 a1 bt311.1 bt311.2 (decide (a1 > 999))))))) = some r := by rw [if_pos rfl] at H; exact H
    clear H
    have H := H1
    clear H1
    replace H := Option.bind_eq_some_iff.mp H
    obtain ⟨⟨t311, t312⟩, A50, H⟩ := H
    replace H : (if a0 < 1 then (furlonglaw04_ClockGreatest.j0 k a0 a1 t311 t312 true) else (if a0 > 1099511627776 then (furlonglaw04_ClockGreatest.j0 k a0 a1 t311 t312 true) else (if a1 < 0 then (furlonglaw04_ClockGreatest.j0 k a0 a1 t311 t312 true) else (furlonglaw04_ClockGreatest.j0 k a0 a1 t311 t312 (decide (a1 > 999)))))) = some r := H
    have A5 := Aside0.mk A50
    clear A50
    have HC6 := Aside0.mk H
    clear H
    go_enter Try.func25, Try.ntmps25
    go_upto_region 4 with (first | ((with_reducible refine gate_callee (f := 67) rfl ?_); refine goesL_ (some 7) rfl rfl Try.func67 (by kernel_rfl) rfl #[] rfl (by (try simp only [List.map_toArray, List.map_cons, List.map_nil]); first | done | rfl | (simp only [List.length_drop, List.length_take]; rfl)) ?_; (with_reducible refine (furlonglaw04_awake.calls k  true _ A3.out).mono ?_); rintro e w7 ⟨rfl, hb⟩; refine ⟨_, rfl, ?_⟩; have n0_ := Aside0.mk (below_step (by repeat (first | (with_reducible first | exact HB.out | apply below_alloc | apply pw_below_drewN | apply below_drew1) | exact HB.out)) hb); clear HB; have HB := n0_; clear n0_; (try clear hb); (try clear hb2); (try clear hk); (try clear hi)) | ((with_reducible refine gate_callee (f := 68) rfl ?_); refine goesL_ (some 12) rfl rfl Try.func68 (by kernel_rfl) rfl #[.int .i64 a0, .int .i64 a1] rfl (by (try simp only [List.map_toArray, List.map_cons, List.map_nil]); first | done | rfl | (simp only [List.length_drop, List.length_take]; rfl)) ?_; (with_reducible refine (clock_Len.calls k a0 a1 t311 t312 _ A5.out).mono ?_); rintro e w8 ⟨rfl, hb⟩; refine ⟨_, rfl, ?_⟩; have n0_ := Aside0.mk (below_step (by repeat (first | (with_reducible first | exact HB.out | apply below_alloc | apply pw_below_drewN | apply below_drew1) | exact HB.out)) hb); clear HB; have HB := n0_; clear n0_; (try clear hb); (try clear hb2); (try clear hk); (try clear hi)))
    (try simp only [Act.put, List.setIfInBounds_toArray, List.set_cons_zero, List.set_cons_succ])
    go_cut [28] (fun v28 wc => ∃ (kq : Nat) (x28_5 : Bool), v28 = .bool x28_5 ∧ Aside0 (furlonglaw04_ClockGreatest.j0 kq a0 a1 t311 t312 x28_5 = some r) ∧ Aside0 (kq ≤ k) ∧ Aside0 (Below w.heap.size w wc))
    case first =>
      have H := HC6.out
      clear HC6
      by_cases c9 : a0 < 1
      · rw [if_pos c9] at H
        have c9b0 : decide (a0 < 1) = true := decide_eq_true c9
        clear c9
        (first | rw [c9b0] | (simp only [i64_w, i32_w]; rw [c9b0]) | skip)
        have H' := Aside0.mk H
        clear H
        go_wp2
        go_meet
        case rel => exact ⟨_, (true), (by first | rfl | (simp; done) | (simp [*]; done)), H', ⟨by first | omega | exact Nat.le_refl _⟩, ⟨by repeat (first | (with_reducible first | exact HB.out | apply below_alloc | apply pw_below_drewN | apply below_drew1) | exact HB.out)⟩⟩
      · rw [if_neg c9] at H
        have c9b0 : decide (a0 < 1) = false := decide_eq_false c9
        clear c9
        (first | rw [c9b0] | (simp only [i64_w, i32_w]; rw [c9b0]) | skip)
        by_cases c10 : a0 > 1099511627776
        · rw [if_pos c10] at H
          have c10b0 : decide (1099511627776 < a0) = true := decide_eq_true c10
          clear c10
          have H' := Aside0.mk H
          clear H
          go_wp2
          go_meet
          case rel => exact ⟨_, (true), (by first | rfl | (simp; done) | (simp [*]; done)), H', ⟨by first | omega | exact Nat.le_refl _⟩, ⟨by repeat (first | (with_reducible first | exact HB.out | apply below_alloc | apply pw_below_drewN | apply below_drew1) | exact HB.out)⟩⟩
        · rw [if_neg c10] at H
          have c10b0 : decide (1099511627776 < a0) = false := decide_eq_false c10
          clear c10
          by_cases c11 : a1 < 0
          · rw [if_pos c11] at H
            have c11b0 : decide (a1 < 0) = true := decide_eq_true c11
            clear c11
            have H' := Aside0.mk H
            clear H
            go_wp2
            go_meet
            case rel => exact ⟨_, (true), (by first | rfl | (simp; done) | (simp [*]; done)), H', ⟨by first | omega | exact Nat.le_refl _⟩, ⟨by repeat (first | (with_reducible first | exact HB.out | apply below_alloc | apply pw_below_drewN | apply below_drew1) | exact HB.out)⟩⟩
          · rw [if_neg c11] at H
            have c11b0 : decide (a1 < 0) = false := decide_eq_false c11
            clear c11
            have H' := Aside0.mk H
            clear H
            go_wp2
            go_meet
            case rel => exact ⟨_, (decide (a1 > 999)), (by first | rfl | (simp; done) | (simp [*]; done)), H', ⟨by first | omega | exact Nat.le_refl _⟩, ⟨by repeat (first | (with_reducible first | exact HB.out | apply below_alloc | apply pw_below_drewN | apply below_drew1) | exact HB.out)⟩⟩
    case rest =>
      clear HC6
      try clear c1
      try clear c2
      try clear p2
      try clear c4
      try clear c6
      try clear c9
      try clear c9b0
      try clear c10
      try clear c10b0
      try clear c11
      try clear c11b0
      obtain ⟨kq, x28_5, rfl, HA, HJ5, HB⟩ := hcut
      cases kq with
      | zero => exact absurd HA.out (by simp [furlonglaw04_ClockGreatest.j0])
      | succ kj5 =>
        have H := HA.out
        clear HA
        simp only [furlonglaw04_ClockGreatest.j0] at H
        by_cases c12 : x28_5 = true
        · subst c12
          have H1 : (if t312 = 1 then (some (t311 == 0)) else (some false)) = some r := by rw [if_pos rfl] at H; exact H
          clear H
          have H := H1
          clear H1
          by_cases c13 : t312 = 1
          · rw [if_pos c13] at H
            have c13b0 : (t312 == 1) = true := beq_iff_eq.mpr c13
            have c13b1 : (t312 != 1) = false := bne_eq_false_iff_eq.mpr c13
            clear c13
            obtain rfl := Option.some.inj H
            go_wp2
            go_ret
            exact ⟨by first | rfl | (simp [errW_none, errW_some] <;> rfl) | (simp [*, errW_none, errW_some] <;> rfl), by repeat (first | (with_reducible first | exact HB.out | apply below_alloc | apply pw_below_drewN | apply below_drew1) | exact HB.out)⟩
          · rw [if_neg c13] at H
            have c13b0 : (t312 == 1) = false := beq_eq_false_iff_ne.mpr c13
            have c13b1 : (t312 != 1) = true := bne_iff_ne.mpr c13
            obtain rfl := Option.some.inj H
            go_wp2
            go_ret
            exact ⟨by first | rfl | (simp [errW_none, errW_some] <;> rfl) | (simp [*, errW_none, errW_some] <;> rfl), by repeat (first | (with_reducible first | exact HB.out | apply below_alloc | apply pw_below_drewN | apply below_drew1) | exact HB.out)⟩
        · replace c12 := Bool.eq_false_iff.mpr c12
          subst c12
          have H1 : (if t312 = 0 then (if t311 ≥ 0 then (if t311 ≤ a0 then ((clock_Safe.f kj5 a0 t311 a1).bind fun t313 => (if t313 = true then (if t311 = 1099511627776 then (if a1 > 0 then (some true) else (some (t311 == a0))) else ((clock_Safe.f kj5 a0 (wrap64 (t311 + 1)) a1).bind fun t314 => (if t314 = true then (some false) else (if a1 > 0 then (some true) else (some (t311 == a0)))))) else (some false))) else (some false)) else (some false)) else (some false)) = some r := by rw [if_neg (show ¬ (false = true) by decide)] at H; exact H
          clear H
          have H := H1
          clear H1
          by_cases c14 : t312 = 0
          · rw [if_pos c14] at H
            have c14b0 : (t312 == 0) = true := beq_iff_eq.mpr c14
            have c14b1 : (t312 != 0) = false := bne_eq_false_iff_eq.mpr c14
            clear c14
            by_cases c15 : t311 ≥ 0
            · rw [if_pos c15] at H
              have c15b0 : decide (0 ≤ t311) = true := decide_eq_true c15
              clear c15
              by_cases c16 : t311 ≤ a0
              · rw [if_pos c16] at H
                have c16b0 : decide (t311 ≤ a0) = true := decide_eq_true c16
                clear c16
                replace H := Option.bind_eq_some_iff.mp H
                obtain ⟨t313, A170, H⟩ := H
                replace H : (if t313 = true then (if t311 = 1099511627776 then (if a1 > 0 then (some true) else (some (t311 == a0))) else ((clock_Safe.f kj5 a0 (wrap64 (t311 + 1)) a1).bind fun t314 => (if t314 = true then (some false) else (if a1 > 0 then (some true) else (some (t311 == a0)))))) else (some false)) = some r := H
                have A17 := Aside0.mk A170
                clear A170
                by_cases c18 : t313 = true
                · subst c18
                  have H1 : (if t311 = 1099511627776 then (if a1 > 0 then (some true) else (some (t311 == a0))) else ((clock_Safe.f kj5 a0 (wrap64 (t311 + 1)) a1).bind fun t314 => (if t314 = true then (some false) else (if a1 > 0 then (some true) else (some (t311 == a0)))))) = some r := by rw [if_pos rfl] at H; exact H
                  clear H
                  have H := H1
                  clear H1
                  by_cases c19 : t311 = 1099511627776
                  · rw [if_pos c19] at H
                    have c19b0 : (t311 == 1099511627776) = true := beq_iff_eq.mpr c19
                    have c19b1 : (t311 != 1099511627776) = false := bne_eq_false_iff_eq.mpr c19
                    clear c19
                    by_cases c20 : a1 > 0
                    · rw [if_pos c20] at H
                      have c20b0 : decide (0 < a1) = true := decide_eq_true c20
                      clear c20
                      obtain rfl := Option.some.inj H
                      go_wp2_with (first | (go_at_call 70; (with_reducible refine (clock_Safe.calls kj5 a0 t311 a1 true _ A17.out).mono ?_); rintro e w21 ⟨rfl, hb⟩; have n0_ := Aside0.mk (below_step (by repeat (first | (with_reducible first | exact HB.out | apply below_alloc | apply pw_below_drewN | apply below_drew1) | exact HB.out)) hb); clear HB; have HB := n0_; clear n0_; (try clear hb); (try clear hb2); (try clear hk); (try clear hi)))
                      go_ret
                      exact ⟨by first | rfl | (simp [errW_none, errW_some] <;> rfl) | (simp [*, errW_none, errW_some] <;> rfl), by repeat (first | (with_reducible first | exact HB.out | apply below_alloc | apply pw_below_drewN | apply below_drew1) | exact HB.out)⟩
                    · rw [if_neg c20] at H
                      have c20b0 : decide (0 < a1) = false := decide_eq_false c20
                      clear c20
                      obtain rfl := Option.some.inj H
                      go_wp2_with (first | (go_at_call 70; (with_reducible refine (clock_Safe.calls kj5 a0 t311 a1 true _ A17.out).mono ?_); rintro e w22 ⟨rfl, hb⟩; have n0_ := Aside0.mk (below_step (by repeat (first | (with_reducible first | exact HB.out | apply below_alloc | apply pw_below_drewN | apply below_drew1) | exact HB.out)) hb); clear HB; have HB := n0_; clear n0_; (try clear hb); (try clear hb2); (try clear hk); (try clear hi)))
                      go_ret
                      exact ⟨by first | rfl | (simp [errW_none, errW_some] <;> rfl) | (simp [*, errW_none, errW_some] <;> rfl), by repeat (first | (with_reducible first | exact HB.out | apply below_alloc | apply pw_below_drewN | apply below_drew1) | exact HB.out)⟩
                  · rw [if_neg c19] at H
                    have c19b0 : (t311 == 1099511627776) = false := beq_eq_false_iff_ne.mpr c19
                    have c19b1 : (t311 != 1099511627776) = true := bne_iff_ne.mpr c19
                    replace H := Option.bind_eq_some_iff.mp H
                    obtain ⟨t314, A230, H⟩ := H
                    replace H : (if t314 = true then (some false) else (if a1 > 0 then (some true) else (some (t311 == a0)))) = some r := H
                    have A23 := Aside0.mk A230
                    clear A230
                    by_cases c24 : t314 = true
                    · subst c24
                      have H1 : (some false) = some r := by rw [if_pos rfl] at H; exact H
                      clear H
                      have H := H1
                      clear H1
                      obtain rfl := Option.some.inj H
                      go_wp2_with (first | (go_at_call 70; (with_reducible refine (clock_Safe.calls kj5 a0 t311 a1 true _ A17.out).mono ?_); rintro e w25 ⟨rfl, hb⟩; have n0_ := Aside0.mk (below_step (by repeat (first | (with_reducible first | exact HB.out | apply below_alloc | apply pw_below_drewN | apply below_drew1) | exact HB.out)) hb); clear HB; have HB := n0_; clear n0_; (try clear hb); (try clear hb2); (try clear hk); (try clear hi)) | (go_at_call 70; (with_reducible refine (clock_Safe.calls kj5 a0 (wrap64 (t311 + 1)) a1 true _ A23.out).mono ?_); rintro e w26 ⟨rfl, hb⟩; have n0_ := Aside0.mk (below_step (by repeat (first | (with_reducible first | exact HB.out | apply below_alloc | apply pw_below_drewN | apply below_drew1) | exact HB.out)) hb); clear HB; have HB := n0_; clear n0_; (try clear hb); (try clear hb2); (try clear hk); (try clear hi)))
                      go_ret
                      exact ⟨by first | rfl | (simp [errW_none, errW_some] <;> rfl) | (simp [*, errW_none, errW_some] <;> rfl), by repeat (first | (with_reducible first | exact HB.out | apply below_alloc | apply pw_below_drewN | apply below_drew1) | exact HB.out)⟩
                    · replace c24 := Bool.eq_false_iff.mpr c24
                      subst c24
                      have H1 : (if a1 > 0 then (some true) else (some (t311 == a0))) = some r := by rw [if_neg (show ¬ (false = true) by decide)] at H; exact H
                      clear H
                      have H := H1
                      clear H1
                      by_cases c27 : a1 > 0
                      · rw [if_pos c27] at H
                        have c27b0 : decide (0 < a1) = true := decide_eq_true c27
                        clear c27
                        obtain rfl := Option.some.inj H
                        go_wp2_with (first | (go_at_call 70; (with_reducible refine (clock_Safe.calls kj5 a0 t311 a1 true _ A17.out).mono ?_); rintro e w28 ⟨rfl, hb⟩; have n0_ := Aside0.mk (below_step (by repeat (first | (with_reducible first | exact HB.out | apply below_alloc | apply pw_below_drewN | apply below_drew1) | exact HB.out)) hb); clear HB; have HB := n0_; clear n0_; (try clear hb); (try clear hb2); (try clear hk); (try clear hi)) | (go_at_call 70; (with_reducible refine (clock_Safe.calls kj5 a0 (wrap64 (t311 + 1)) a1 false _ A23.out).mono ?_); rintro e w29 ⟨rfl, hb⟩; have n0_ := Aside0.mk (below_step (by repeat (first | (with_reducible first | exact HB.out | apply below_alloc | apply pw_below_drewN | apply below_drew1) | exact HB.out)) hb); clear HB; have HB := n0_; clear n0_; (try clear hb); (try clear hb2); (try clear hk); (try clear hi)))
                        go_ret
                        exact ⟨by first | rfl | (simp [errW_none, errW_some] <;> rfl) | (simp [*, errW_none, errW_some] <;> rfl), by repeat (first | (with_reducible first | exact HB.out | apply below_alloc | apply pw_below_drewN | apply below_drew1) | exact HB.out)⟩
                      · rw [if_neg c27] at H
                        have c27b0 : decide (0 < a1) = false := decide_eq_false c27
                        clear c27
                        obtain rfl := Option.some.inj H
                        go_wp2_with (first | (go_at_call 70; (with_reducible refine (clock_Safe.calls kj5 a0 t311 a1 true _ A17.out).mono ?_); rintro e w30 ⟨rfl, hb⟩; have n0_ := Aside0.mk (below_step (by repeat (first | (with_reducible first | exact HB.out | apply below_alloc | apply pw_below_drewN | apply below_drew1) | exact HB.out)) hb); clear HB; have HB := n0_; clear n0_; (try clear hb); (try clear hb2); (try clear hk); (try clear hi)) | (go_at_call 70; (with_reducible refine (clock_Safe.calls kj5 a0 (wrap64 (t311 + 1)) a1 false _ A23.out).mono ?_); rintro e w31 ⟨rfl, hb⟩; have n0_ := Aside0.mk (below_step (by repeat (first | (with_reducible first | exact HB.out | apply below_alloc | apply pw_below_drewN | apply below_drew1) | exact HB.out)) hb); clear HB; have HB := n0_; clear n0_; (try clear hb); (try clear hb2); (try clear hk); (try clear hi)))
                        go_ret
                        exact ⟨by first | rfl | (simp [errW_none, errW_some] <;> rfl) | (simp [*, errW_none, errW_some] <;> rfl), by repeat (first | (with_reducible first | exact HB.out | apply below_alloc | apply pw_below_drewN | apply below_drew1) | exact HB.out)⟩
                · replace c18 := Bool.eq_false_iff.mpr c18
                  subst c18
                  have H1 : (some false) = some r := by rw [if_neg (show ¬ (false = true) by decide)] at H; exact H
                  clear H
                  have H := H1
                  clear H1
                  obtain rfl := Option.some.inj H
                  go_wp2_with (first | (go_at_call 70; (with_reducible refine (clock_Safe.calls kj5 a0 t311 a1 false _ A17.out).mono ?_); rintro e w32 ⟨rfl, hb⟩; have n0_ := Aside0.mk (below_step (by repeat (first | (with_reducible first | exact HB.out | apply below_alloc | apply pw_below_drewN | apply below_drew1) | exact HB.out)) hb); clear HB; have HB := n0_; clear n0_; (try clear hb); (try clear hb2); (try clear hk); (try clear hi)))
                  go_ret
                  exact ⟨by first | rfl | (simp [errW_none, errW_some] <;> rfl) | (simp [*, errW_none, errW_some] <;> rfl), by repeat (first | (with_reducible first | exact HB.out | apply below_alloc | apply pw_below_drewN | apply below_drew1) | exact HB.out)⟩
              · rw [if_neg c16] at H
                have c16b0 : decide (t311 ≤ a0) = false := decide_eq_false c16
                clear c16
                obtain rfl := Option.some.inj H
                go_wp2
                go_ret
                exact ⟨by first | rfl | (simp [errW_none, errW_some] <;> rfl) | (simp [*, errW_none, errW_some] <;> rfl), by repeat (first | (with_reducible first | exact HB.out | apply below_alloc | apply pw_below_drewN | apply below_drew1) | exact HB.out)⟩
            · rw [if_neg c15] at H
              have c15b0 : decide (0 ≤ t311) = false := decide_eq_false c15
              clear c15
              obtain rfl := Option.some.inj H
              go_wp2
              go_ret
              exact ⟨by first | rfl | (simp [errW_none, errW_some] <;> rfl) | (simp [*, errW_none, errW_some] <;> rfl), by repeat (first | (with_reducible first | exact HB.out | apply below_alloc | apply pw_below_drewN | apply below_drew1) | exact HB.out)⟩
          · rw [if_neg c14] at H
            have c14b0 : (t312 == 0) = false := beq_eq_false_iff_ne.mpr c14
            have c14b1 : (t312 != 0) = true := bne_iff_ne.mpr c14
            obtain rfl := Option.some.inj H
            go_wp2
            go_ret
            exact ⟨by first | rfl | (simp [errW_none, errW_some] <;> rfl) | (simp [*, errW_none, errW_some] <;> rfl), by repeat (first | (with_reducible first | exact HB.out | apply below_alloc | apply pw_below_drewN | apply below_drew1) | exact HB.out)⟩
  · replace c4 := Bool.eq_false_iff.mpr c4
    subst c4
    have H1 : (some false) = some r := by rw [if_neg (show ¬ (false = true) by decide)] at H; exact H
    clear H
    have H := H1
    clear H1
    obtain rfl := Option.some.inj H
    go_enter Try.func25, Try.ntmps25
    go_wp2_with (first | ((with_reducible refine gate_callee (f := 67) rfl ?_); refine goesL_ (some 7) rfl rfl Try.func67 (by kernel_rfl) rfl #[] rfl (by (try simp only [List.map_toArray, List.map_cons, List.map_nil]); first | done | rfl | (simp only [List.length_drop, List.length_take]; rfl)) ?_; (with_reducible refine (furlonglaw04_awake.calls k  false _ A3.out).mono ?_); rintro e w33 ⟨rfl, hb⟩; refine ⟨_, rfl, ?_⟩; have n0_ := Aside0.mk (below_step (by repeat (first | (with_reducible first | exact HB.out | apply below_alloc | apply pw_below_drewN | apply below_drew1) | exact HB.out)) hb); clear HB; have HB := n0_; clear n0_; (try clear hb); (try clear hb2); (try clear hk); (try clear hi)))
    go_ret
    exact ⟨by first | rfl | (simp [errW_none, errW_some] <;> rfl) | (simp [*, errW_none, errW_some] <;> rfl), by repeat (first | (with_reducible first | exact HB.out | apply below_alloc | apply pw_below_drewN | apply below_drew1) | exact HB.out)⟩

/-- THE ONE PURE STATEMENT of furlonglaw04_ClockGreatest: yours. -/
def furlonglaw04_ClockGreatest.Pure : Prop := ∀ (a0 : Int) (a1 : Int), (Lit.int .i64 a0).wf = true → (Lit.int .i64 a1).wf = true → ∃ k, furlonglaw04_ClockGreatest.f k a0 a1 = some true
theorem furlonglaw04_ClockGreatest.walk (P : furlonglaw04_ClockGreatest.Pure) (a0 : Int) (a1 : Int) (w : World) (w0 : (Lit.int .i64 a0).wf = true) (w1 : (Lit.int .i64 a1).wf = true) :
    Calls Try.prog 25 #[.int .i64 a0, .int .i64 a1] w fun e w' => e = .returned (.bool true) ∧ Below w.heap.size w w' := by
  obtain ⟨k, h⟩ := P a0 a1 w0 w1
  refine (furlonglaw04_ClockGreatest.calls k a0 a1 true w h).mono ?_
  rintro e w' ⟨rfl, hd⟩
  exact ⟨rfl, hd⟩

end Go.Proofs.Ytkbcjagkacijnaa.PNum
