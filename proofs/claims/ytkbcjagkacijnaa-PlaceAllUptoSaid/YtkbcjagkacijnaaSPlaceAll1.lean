/- What the law PlaceAll needs of the seat's contracts and plain laws, several texts one behind the other; no conditions. -/
import Derived.Test.YtkbcjagkacijnaaSPlaceAll0
import Derived.Test.YtkbcjagkacijnaaWMore
import Derived.Test.YtkbcjagkacijnaaWNEv
import Derived.Test.YtkbcjagkacijnaaRows
import Derived.ProofKit
import Derived.OpenShut
section
-- Written for this claim by this project's own driver over the kit's print: functions and their contracts.
namespace Go.Proofs.Ytkbcjagkacijnaa.PPl
open Go.RowKit Go.Proofs.YtkbcjagkacijnaaW.PrintWords Go.Proofs.YtkbcjagkacijnaaW.PrintLast Go.Proofs.YtkbcjagkacijnaaW.PrintMore
attribute [local go_sem] max2_int min2_int max_two min_two max_three min_three max_four min_four   -- for this text's walks alone
set_option linter.unusedVariables false
set_option linter.unusedSimpArgs false

def furlongref01_Ints.l0 : Nat → List Int → List Int → Int → Int → Option (Bool)
  | 0, _, _, _, _ => none
  | k + 1, x0, x1, x12, x13 => if x13 < x12 then (if 0 ≤ x13 then (if x13 < (x0.length : Int) then (if x13 < (x1.length : Int) then (if (rd x0 x13) = (rd x1 x13) then (furlongref01_Ints.l0 k x0 x1 x12 (wrap64 (x13 + 1))) else (some false)) else (none)) else (none)) else (none)) else (some true)
def furlongref01_Ints.f (k : Nat) (l0 : List Int) (l1 : List Int) : Option (Bool) := if (l0.length : Int) = (l1.length : Int) then (furlongref01_Ints.l0 k l0 l1 (l0.length : Int) 0) else (some false)
theorem furlongref01_Ints.mono_l : ∀ k, (∀ y0 y1 y2 y3, LeO (furlongref01_Ints.l0 k y0 y1 y2 y3) (furlongref01_Ints.l0 (k + 1) y0 y1 y2 y3))
  | 0 => fun _ _ _ _ r h => by simp [furlongref01_Ints.l0] at h
  | k + 1 => by
    have ih0 := furlongref01_Ints.mono_l k
    · intro y0 y1 y2 y3
      unfold furlongref01_Ints.l0
      repeat' first
      | (with_reducible exact ih0 _ _ _ _)
      | (with_reducible exact LeO.refl _)
      | (with_reducible exact LeO.none _)
      | (with_reducible refine LeO.ite ?_ ?_)
      | (with_reducible refine LeO.bind ?_ (fun _ => ?_))
      | exact ih0 _ _ _ _
      | exact LeO.none _
      | refine LeO.ite ?_ ?_
      | refine LeO.bind ?_ (fun _ => ?_)
theorem furlongref01_Ints.mono : ∀ a0 a1 k, LeO (furlongref01_Ints.f k a0 a1) (furlongref01_Ints.f (k + 1) a0 a1) := by
  intro a0 a1 k
  have ih0 := furlongref01_Ints.mono_l k
  unfold furlongref01_Ints.f
  repeat' first
      | (with_reducible exact ih0 _ _ _ _)
      | (with_reducible exact LeO.refl _)
      | (with_reducible exact LeO.none _)
      | (with_reducible refine LeO.ite ?_ ?_)
      | (with_reducible refine LeO.bind ?_ (fun _ => ?_))
      | exact ih0 _ _ _ _
      | exact LeO.none _
      | refine LeO.ite ?_ ?_
      | refine LeO.bind ?_ (fun _ => ?_)
set_option maxHeartbeats 8000000 in
set_option maxRecDepth 100000 in
theorem furlongref01_Ints.calls (k : Nat) (A0 : Option Addr) (c0 : Nat) (l0 : List Int) (A1 : Option Addr) (c1 : Nat) (l1 : List Int) (r : Bool) (w : World) (hr0 : Kd.C (Kd.int .i64) w A0 l0.length l0) (hc0 : l0.length ≤ c0) (hr1 : Kd.C (Kd.int .i64) w A1 l1.length l1) (hc1 : l1.length ≤ c1) (h : furlongref01_Ints.f k l0 l1 = some r) :
    Calls Try.prog 35 #[.slice A0 l0.length c0, .slice A1 l1.length c1] w fun e w' => e = .returned (.bool r) ∧ Drawn0 w w' := by
  have HR0 := Aside0.mk hr0
  have HC0 := Aside0.mk hc0
  clear hr0 hc0
  have HR1 := Aside0.mk hr1
  have HC1 := Aside0.mk hc1
  clear hr1 hc1
  have H : (if (l0.length : Int) = (l1.length : Int) then (furlongref01_Ints.l0 k l0 l1 (l0.length : Int) 0) else (some false)) = some r := h
  clear h
  by_cases c3 : (l0.length : Int) = (l1.length : Int)
  · rw [if_pos c3] at H
    have c3b0 : ((l0.length : Int) == (l1.length : Int)) = true := beq_iff_eq.mpr c3
    have c3b1 : ((l0.length : Int) != (l1.length : Int)) = false := bne_eq_false_iff_eq.mpr c3
    have c3b2 : (l0.length == l1.length) = true := by first | simpa using c3 | (simp at c3 ⊢; omega)
    clear c3
    have H' := Aside0.mk H
    clear H
    go_enter Try.func35, Try.ntmps35
    go_wp2
    repeat (go_quiet (fail); try go_wp2)
    go_loopg [13] k (fun kq v13 w' => ∃ (x13_1 : Int), v13 = .int .i64 x13_1 ∧ Aside0 (furlongref01_Ints.l0 kq l0 l1 (l0.length : Int) x13_1 = some r) ∧ Aside0 (kq ≤ k) ∧ Drawn0 w w')
    case atStart => exact ⟨(0), (by first | rfl | (simp; done) | (simp [*]; done)), H', ⟨Nat.le_refl _⟩, by repeat (first | exact Drawn0.refl _ | apply Drawn0.step)⟩
    case round =>
      clear H'
      try clear c1
      try clear p2
      try clear c3
      try clear c3b0
      try clear c3b1
      try clear c3b2
      obtain ⟨x13_1, rfl, HA, HK1, ⟨m1, rfl⟩⟩ := hrel
      cases gk with
      | zero => exact absurd HA.out (by simp [furlongref01_Ints.l0])
      | succ k1 =>
        have H := HA.out
        clear HA
        simp only [furlongref01_Ints.l0] at H
        by_cases c4 : x13_1 < (l0.length : Int)
        · rw [if_pos c4] at H
          have c4b0 : decide (x13_1 < (l0.length : Int)) = true := decide_eq_true c4
          clear c4
          by_cases c5 : 0 ≤ x13_1
          · rw [if_pos c5] at H
            have c5b0 : decide (0 ≤ x13_1) = true := decide_eq_true c5
            clear c5
            by_cases c6 : x13_1 < (l0.length : Int)
            · rw [if_pos c6] at H
              have c6b0 : decide (x13_1 < (l0.length : Int)) = true := decide_eq_true c6
              clear c6
              by_cases c7 : x13_1 < (l1.length : Int)
              · rw [if_pos c7] at H
                have c7b0 : decide (x13_1 < (l1.length : Int)) = true := decide_eq_true c7
                clear c7
                by_cases c8 : (rd l0 x13_1) = (rd l1 x13_1)
                · rw [if_pos c8] at H
                  have c8b0 : ((rd l0 x13_1) == (rd l1 x13_1)) = true := beq_iff_eq.mpr c8
                  have c8b1 : ((rd l0 x13_1) != (rd l1 x13_1)) = false := bne_eq_false_iff_eq.mpr c8
                  clear c8
                  have H' := Aside0.mk H
                  clear H
                  have p101 : 0 ≤ (x13_1 : Int) := of_decide_eq_true (by first | (with_reducible assumption) | assumption)
                  have q101 : x13_1 < (l0.length : Int) := of_decide_eq_true (by first | (with_reducible assumption) | assumption)
                  obtain ⟨ad101, e101, hx101_0⟩ := Kd.at_int HR0.out x13_1 p101 q101
                  cases e101
                  replace p101 := eq_true p101
                  replace q101 := eq_true q101
                  have p102 : 0 ≤ (x13_1 : Int) := of_decide_eq_true (by first | (with_reducible assumption) | assumption)
                  have q102 : x13_1 < (l1.length : Int) := of_decide_eq_true (by first | (with_reducible assumption) | assumption)
                  obtain ⟨ad102, e102, hx102_0⟩ := Kd.at_int HR1.out x13_1 p102 q102
                  cases e102
                  replace p102 := eq_true p102
                  replace q102 := eq_true q102
                  go_wp2
                  repeat (go_quiet (fail); try go_wp2)
                  go_roundg k1
                  case measure => have := HK1.out; omega
                  case rel => exact ⟨(wrap64 (x13_1 + 1)), (by first | rfl | (simp; done) | (simp [*]; done)), H', ⟨by have := HK1.out; omega⟩, by repeat (first | exact Drawn0.refl _ | apply Drawn0.step)⟩
                · rw [if_neg c8] at H
                  have c8b0 : ((rd l0 x13_1) == (rd l1 x13_1)) = false := beq_eq_false_iff_ne.mpr c8
                  have c8b1 : ((rd l0 x13_1) != (rd l1 x13_1)) = true := bne_iff_ne.mpr c8
                  obtain rfl := Option.some.inj H
                  have p101 : 0 ≤ (x13_1 : Int) := of_decide_eq_true (by first | (with_reducible assumption) | assumption)
                  have q101 : x13_1 < (l0.length : Int) := of_decide_eq_true (by first | (with_reducible assumption) | assumption)
                  obtain ⟨ad101, e101, hx101_0⟩ := Kd.at_int HR0.out x13_1 p101 q101
                  cases e101
                  replace p101 := eq_true p101
                  replace q101 := eq_true q101
                  have p102 : 0 ≤ (x13_1 : Int) := of_decide_eq_true (by first | (with_reducible assumption) | assumption)
                  have q102 : x13_1 < (l1.length : Int) := of_decide_eq_true (by first | (with_reducible assumption) | assumption)
                  obtain ⟨ad102, e102, hx102_0⟩ := Kd.at_int HR1.out x13_1 p102 q102
                  cases e102
                  replace p102 := eq_true p102
                  replace q102 := eq_true q102
                  go_wp2
                  repeat (go_quiet (fail); try go_wp2)
                  go_ret
                  exact ⟨by first | rfl | (simp; done) | (simp [*]; done), by repeat (first | exact Drawn0.refl _ | apply Drawn0.step)⟩
              · rw [if_neg c7] at H
                exact absurd H (by simp)
            · rw [if_neg c6] at H
              exact absurd H (by simp)
          · rw [if_neg c5] at H
            exact absurd H (by simp)
        · rw [if_neg c4] at H
          have c4b0 : decide (x13_1 < (l0.length : Int)) = false := decide_eq_false c4
          clear c4
          obtain rfl := Option.some.inj H
          go_wp2
          repeat (go_quiet (fail); try go_wp2)
          go_ret
          exact ⟨by first | rfl | (simp; done) | (simp [*]; done), by repeat (first | exact Drawn0.refl _ | apply Drawn0.step)⟩
  · rw [if_neg c3] at H
    have c3b0 : ((l0.length : Int) == (l1.length : Int)) = false := beq_eq_false_iff_ne.mpr c3
    have c3b1 : ((l0.length : Int) != (l1.length : Int)) = true := bne_iff_ne.mpr c3
    have c3b2 : (l0.length == l1.length) = false := by first | simpa using c3 | (simp at c3 ⊢; omega)
    obtain rfl := Option.some.inj H
    go_enter Try.func35, Try.ntmps35
    go_wp2
    repeat (go_quiet (fail); try go_wp2)
    go_ret
    exact ⟨by first | rfl | (simp; done) | (simp [*]; done), by repeat (first | exact Drawn0.refl _ | apply Drawn0.step)⟩

end Go.Proofs.Ytkbcjagkacijnaa.PPl
end
section
-- Written for this claim by this project's own driver over the kit's print: functions and their contracts.
-- findfix
namespace Go.Proofs.Ytkbcjagkacijnaa.PPl
open Go.RowKit Go.Proofs.YtkbcjagkacijnaaW.PrintWords Go.Proofs.YtkbcjagkacijnaaW.PrintLast Go.Proofs.YtkbcjagkacijnaaW.PrintMore
attribute [local go_sem] max2_int min2_int max_two min_two max_three min_three max_four min_four   -- for this text's walks alone
set_option linter.unusedVariables false
set_option linter.unusedSimpArgs false

def furlonglaw07_awake.f (k : Nat)  : Option (Bool) := (place_Find.f (([(⟨1, 4, 9, 0, 0⟩ : S46), (⟨2, 2, 9, 0, 0⟩ : S46)] : List (S46))) (([(⟨5, 0, 1, (([0, 2] : List Int)), 0, 0, 0, false⟩ : S50)] : List (S50))) 2 3).bind fun bt112 => (if bt112.1 = 1 then (if bt112.2.2 = 0 then ((furlongref01_Ints.f k bt112.2.1 (([1, 3] : List Int))).bind fun t120 => (some t120)) else (some false)) else (some false))
theorem furlonglaw07_awake.mono : ∀ k, LeO (furlonglaw07_awake.f k ) (furlonglaw07_awake.f (k + 1) ) := by
  intro  k
  unfold furlonglaw07_awake.f
  repeat' first
      | (with_reducible exact furlongref01_Ints.mono _ _ _)
      | (with_reducible exact LeO.refl _)
      | (with_reducible exact LeO.none _)
      | (with_reducible refine LeO.ite ?_ ?_)
      | (with_reducible refine LeO.bind ?_ (fun _ => ?_))
      | exact furlongref01_Ints.mono _ _ _
      | exact LeO.none _
      | refine LeO.ite ?_ ?_
      | refine LeO.bind ?_ (fun _ => ?_)
set_option maxHeartbeats 8000000 in
set_option maxRecDepth 100000 in
theorem furlonglaw07_awake.calls (k : Nat)  (r : Bool) (w : World) (h : furlonglaw07_awake.f k  = some r) :
  Calls Try.prog 31 #[] w fun e w' => e = .returned (.bool r) ∧ Below w.heap.size w w' := by
 have hu46 := Try.underlying46
 have hu50 := Try.underlying50
 have hu25 := Try.underlying25
 have HB := Aside0.mk (Below.refl w.heap.size w)
 have H : ((place_Find.f (([(⟨1, 4, 9, 0, 0⟩ : S46), (⟨2, 2, 9, 0, 0⟩ : S46)] : List (S46))) (([(⟨5, 0, 1, (([0, 2] : List Int)), 0, 0, 0, false⟩ : S50)] : List (S50))) 2 3).bind fun bt112 => (if bt112.1 = 1 then (if bt112.2.2 = 0 then ((furlongref01_Ints.f k bt112.2.1 (([1, 3] : List Int))).bind fun t120 => (some t120)) else (some false)) else (some false))) = some r := h
 clear h
 obtain ⟨y103, hy103⟩ : ∃ y_ : List (S46), y_ = (([(⟨1, 4, 9, 0, 0⟩ : S46), (⟨2, 2, 9, 0, 0⟩ : S46)] : List (S46))) := ⟨_, rfl⟩
 replace H : ((place_Find.f y103 (([(⟨5, 0, 1, (([0, 2] : List Int)), 0, 0, 0, false⟩ : S50)] : List (S50))) 2 3).bind fun bt112 => (if bt112.1 = 1 then (if bt112.2.2 = 0 then ((furlongref01_Ints.f k bt112.2.1 (([1, 3] : List Int))).bind fun t120 => (some t120)) else (some false)) else (some false))) = some r := by first | (rw [hy103]; with_reducible exact H) | (have H2_ := (Option.bind_some _ _).symm.trans H; rw [hy103]; with_reducible exact H2_) | (have H2_ := (Option.bind_some _ _).symm.trans H; with_reducible exact H2_) | with_reducible exact H | (rw [hy103]; exact H) | exact H
 have Ny103 := Aside0.mk hy103
 clear hy103
 obtain ⟨y106, hy106⟩ : ∃ y_ : List Int, y_ = (([0, 2] : List Int)) := ⟨_, rfl⟩
 replace H : ((place_Find.f y103 (([(⟨5, 0, 1, y106, 0, 0, 0, false⟩ : S50)] : List (S50))) 2 3).bind fun bt112 => (if bt112.1 = 1 then (if bt112.2.2 = 0 then ((furlongref01_Ints.f k bt112.2.1 (([1, 3] : List Int))).bind fun t120 => (some t120)) else (some false)) else (some false))) = some r := by first | (rw [hy106]; with_reducible exact H) | (have H2_ := (Option.bind_some _ _).symm.trans H; rw [hy106]; with_reducible exact H2_) | (have H2_ := (Option.bind_some _ _).symm.trans H; with_reducible exact H2_) | with_reducible exact H | (rw [hy106]; exact H) | exact H
 have Ny106 := Aside0.mk hy106
 clear hy106
 obtain ⟨y109, hy109⟩ : ∃ y_ : List (S50), y_ = (([(⟨5, 0, 1, y106, 0, 0, 0, false⟩ : S50)] : List (S50))) := ⟨_, rfl⟩
 replace H : ((place_Find.f y103 y109 2 3).bind fun bt112 => (if bt112.1 = 1 then (if bt112.2.2 = 0 then ((furlongref01_Ints.f k bt112.2.1 (([1, 3] : List Int))).bind fun t120 => (some t120)) else (some false)) else (some false))) = some r := by first | (rw [hy109]; with_reducible exact H) | (have H2_ := (Option.bind_some _ _).symm.trans H; rw [hy109]; with_reducible exact H2_) | (have H2_ := (Option.bind_some _ _).symm.trans H; with_reducible exact H2_) | with_reducible exact H | (rw [hy109]; exact H) | exact H
 have Ny109 := Aside0.mk hy109
 clear hy109
 replace H := Option.bind_eq_some_iff.mp H
 obtain ⟨⟨t112, t113, t116⟩, A10, H⟩ := H
 replace H : (if t112 = 1 then (if t116 = 0 then ((furlongref01_Ints.f k t113 (([1, 3] : List Int))).bind fun t120 => (some t120)) else (some false)) else (some false)) = some r := H
 have A1 := Aside0.mk A10
 clear A10
 by_cases c2 : t112 = 1
 ·
  rw [if_pos c2] at H
  have c2b0 : (t112 == 1) = true := beq_iff_eq.mpr c2
  have c2b1 : (t112 != 1) = false := bne_eq_false_iff_eq.mpr c2
  clear c2
  by_cases c3 : t116 = 0
  ·
   rw [if_pos c3] at H
   have c3b0 : (t116 == 0) = true := beq_iff_eq.mpr c3
   have c3b1 : (t116 != 0) = false := bne_eq_false_iff_eq.mpr c3
   clear c3
   obtain ⟨y117, hy117⟩ : ∃ y_ : List Int, y_ = (([1, 3] : List Int)) := ⟨_, rfl⟩
   replace H : ((furlongref01_Ints.f k t113 y117).bind fun t120 => (some t120)) = some r := by first | (rw [hy117]; with_reducible exact H) | (have H2_ := (Option.bind_some _ _).symm.trans H; rw [hy117]; with_reducible exact H2_) | (have H2_ := (Option.bind_some _ _).symm.trans H; with_reducible exact H2_) | with_reducible exact H | (rw [hy117]; exact H) | exact H
   have Ny117 := Aside0.mk hy117
   clear hy117
   replace H := Option.bind_eq_some_iff.mp H
   obtain ⟨t120, A40, H⟩ := H
   replace H : (some t120) = some r := H
   have A4 := Aside0.mk A40
   clear A40
   obtain rfl := Option.some.inj H
   go_enter Try.func31, Try.ntmps31
   go_wp2_with (first | ((with_reducible refine gate_dst (N := 7) rfl ?_); (try (refine gate_guard (by rfl) ?_; dsimp only)); refine Kd.R_lit k46 _ 46 ?hg (N := 7) ?hd (xs := ([(⟨1, 4, 9, 0, 0⟩ : S46), (⟨2, 2, 9, 0, 0⟩ : S46)] : List (S46))) (inner := [.int .i64 1, .int .i64 4, .int .i64 9, .int .i64 0, .int .i64 0, .int .i64 2, .int .i64 2, .int .i64 9, .int .i64 0, .int .i64 0]) (ok := fun _ => True) (okp := fun _ => True) ?hr ?hp (fun _ hk => hk) trivial (Below.refl _ _) (Nat.le_refl _) (by simp) ?_; (case hd => rfl); (case hg => rfl); (case hr => first | (go_simp; done) | (go_simp; rfl)); (case hp => exact (Reps.c5 (show Kd.M k46 _ _ _ (⟨1, 4, 9, 0, 0⟩ : S46) [.int .i64 1, .int .i64 4, .int .i64 9, .int .i64 0, .int .i64 0] from (k46_mkM _ _ _ (⟨1, 4, 9, 0, 0⟩ : S46) )) (Reps.c5 (show Kd.M k46 _ _ _ (⟨2, 2, 9, 0, 0⟩ : S46) [.int .i64 2, .int .i64 2, .int .i64 9, .int .i64 0, .int .i64 0] from (k46_mkM _ _ _ (⟨2, 2, 9, 0, 0⟩ : S46) )) (Reps.none _ _)))); intro v104 w5 ho6 hb hg_ hnew_; clear hg_ hnew_; (first | rw [← Ny103.out] at ho6 | (simp only [Int.reduceToNat] at ho6; rw [← Ny103.out] at ho6)); have n0_ := Aside0.mk (Kd.R_lower ho6 (below_size (by repeat (first | (with_reducible first | exact HB.out | apply below_alloc | apply pw_below_drewN | apply below_drew1) | exact HB.out)))); have n1_ := Aside0.mk (below_step (by repeat (first | (with_reducible first | exact HB.out | apply below_alloc | apply pw_below_drewN | apply below_drew1) | exact HB.out)) hb); clear HB; have HO105 := n0_; have HB := n1_; clear n0_ n1_; clear hb ho6) | ((with_reducible refine gate_dst (N := 10) rfl ?_); (try (refine gate_guard (by rfl) ?_; dsimp only)); refine Kd.R_lit (Kd.int .i64) _ 3 ?hg (N := 10) ?hd (xs := ([0, 2] : List Int)) (inner := [.int .i64 0, .int .i64 2]) (ok := fun _ => True) (okp := fun _ => True) ?hr ?hp (fun _ hk => hk) trivial (Below.refl _ _) (Nat.le_refl _) (by simp) ?_; (case hd => rfl); (case hg => rfl); (case hr => first | (go_simp; done) | (go_simp; rfl)); (case hp => exact (Reps.one (show Kd.M (Kd.int .i64) _ _ _ 0 [.int .i64 0] from rfl) (Reps.one (show Kd.M (Kd.int .i64) _ _ _ 2 [.int .i64 2] from rfl) (Reps.none _ _)))); intro v107 w7 ho8 hb hg_ hnew_; clear hg_ hnew_; (first | rw [← Ny106.out] at ho8 | (simp only [Int.reduceToNat] at ho8; rw [← Ny106.out] at ho8)); have n0_ := Aside0.mk (Kd.R_below (by (with_reducible repeat (first | apply Kd.R_alloc | apply Kd.R_drewN | apply Kd.R_drew)); exact HO105.out) hb); have n1_ := Aside0.mk (Kd.R_lower ho8 (below_size (by repeat (first | (with_reducible first | exact HB.out | apply below_alloc | apply pw_below_drewN | apply below_drew1) | exact HB.out)))); have n2_ := Aside0.mk (below_step (by repeat (first | (with_reducible first | exact HB.out | apply below_alloc | apply pw_below_drewN | apply below_drew1) | exact HB.out)) hb); clear HO105; clear HB; have HO105 := n0_; have HO108 := n1_; have HB := n2_; clear n0_ n1_ n2_; clear hb ho8; obtain ⟨Ao9, co9, eo9⟩ := Kd.R_slice HO108.out; subst eo9) | ((with_reducible refine gate_dst (N := 12) rfl ?_); (try (refine gate_guard (by rfl) ?_; dsimp only)); refine Kd.N_lit k50 _ 50 ?hg (N' := 12) ?hd (xs := ([(⟨5, 0, 1, y106, 0, 0, 0, false⟩ : S50)] : List (S50))) (inner := [.int .i64 5, .int .i64 0, .int .i64 1, .slice Ao9 y106.length co9, .int .i64 0, .int .i64 0, .int .i64 0, .bool false]) (ok := (fun k_ => some k_ ≠ (v104 : Value).ownBlock)) (okp := (fun k_ => some k_ ≠ (v104 : Value).ownBlock)) ?hr ?hp (fun _ hk => hk) ((show ∀ k_, w7.heap.size ≤ k_ → (fun k_ => some k_ ≠ (v104 : Value).ownBlock) k_ from fun k_ hk => Kd.fresh' (Kd.R_lt (by (with_reducible repeat (first | apply Kd.R_alloc | apply Kd.R_drewN | apply Kd.R_drew)); exact HO105.out)) k_ hk) _ (Nat.le_refl _)) (Below.refl _ _) (Nat.le_refl _) (by simp) ?_; (case hd => rfl); (case hg => rfl); (case hr => first | (go_simp; done) | (go_simp; rfl)); (case hp => exact (Reps.c8 (show Kd.FK k50 _ _ (⟨5, 0, 1, y106, 0, 0, 0, false⟩ : S50) [.int .i64 5, .int .i64 0, .int .i64 1, .slice Ao9 y106.length co9, .int .i64 0, .int .i64 0, .int .i64 0, .bool false] from (k50_mkF _ _ (⟨5, 0, 1, y106, 0, 0, 0, false⟩ : S50) (Kd.R_reads' (Kd.R_mono (ok' := (fun k_ => some k_ ≠ (v104 : Value).ownBlock)) (Kd.R_apart' (HO108.out) (Kd.R_typed HO105.out) (by decide)) (fun k_ hk => hk.2))).2.1 (Kd.R_F (Kd.R_mono (ok' := (fun k_ => some k_ ≠ (v104 : Value).ownBlock)) (Kd.R_apart' (HO108.out) (Kd.R_typed HO105.out) (by decide)) (fun k_ hk => hk.2))))) (Reps.none _ _))); intro v110 w10 ho11 hb hg_ hnew_; clear hg_ hnew_; (first | rw [← Ny109.out] at ho11 | (simp only [Int.reduceToNat] at ho11; rw [← Ny109.out] at ho11)); have n0_ := Aside0.mk (Kd.R_below (by (with_reducible repeat (first | apply Kd.R_alloc | apply Kd.R_drewN | apply Kd.R_drew)); exact HO105.out) hb); have n1_ := Aside0.mk (Kd.N_lower ho11 (below_size (by repeat (first | (with_reducible first | exact HB.out | apply below_alloc | apply pw_below_drewN | apply below_drew1) | exact HB.out)))); have n2_ := Aside0.mk (below_step (by repeat (first | (with_reducible first | exact HB.out | apply below_alloc | apply pw_below_drewN | apply below_drew1) | exact HB.out)) hb); clear HO105; clear HB; clear HO108; have HO105 := n0_; have HO111 := n1_; have HB := n2_; clear n0_ n1_ n2_; clear hb ho11; obtain ⟨Ao12, co12, eo12⟩ := Kd.R_slice HO105.out; subst eo12; obtain ⟨Ao13, co13, eo13⟩ := Kd.N_slice HO111.out; subst eo13) | ((with_reducible refine gate_callee (f := 33) rfl ?_); refine goesL_ (some 14) rfl rfl Try.func33 (by kernel_rfl) rfl #[.slice Ao12 y103.length co12, .slice Ao13 y109.length co13, .agg #[.int .i64 2, .int .i64 3]] rfl (by (try simp only [List.map_toArray, List.map_cons, List.map_nil]); first | done | rfl | (simp only [List.length_drop, List.length_take]; rfl)) ?_; (with_reducible refine (place_Find.calls _ _ y103 _ _ y109 2 3 t112 t113 t116 _ ?side1 ?side2 ?side3 ?side4 A1.out).mono ?_); (case side1 => repeat (first | exact (Kd.R_reads' HO105.out).2.2 | (with_reducible refine Kd.C_alloc ?_ _) | (with_reducible refine Kd.C_drewN ?_ _) | (with_reducible refine Kd.C_drew ?_))); (case side2 => exact (Kd.R_reads' HO105.out).2.1); (case side3 => repeat (first | exact (Kd.N_reads' HO111.out).2.2 | (with_reducible refine Kd.C_alloc ?_ _) | (with_reducible refine Kd.C_drewN ?_ _) | (with_reducible refine Kd.C_drew ?_))); (case side4 => exact (Kd.N_reads' HO111.out).2.1); rintro e w14 ⟨AF, cF, rfl, ho0, hb⟩; refine ⟨_, rfl, ?_⟩; have n0_ := Aside0.mk (Kd.R_below (by (with_reducible repeat (first | apply Kd.R_alloc | apply Kd.R_drewN | apply Kd.R_drew)); exact HO105.out) hb); have n1_ := Aside0.mk (Kd.N_elder' (by (with_reducible repeat (first | apply Kd.N_alloc | apply Kd.N_drewN | apply Kd.N_drew)); exact HO111.out) (Kd.R_base ho0) hb); have n2_ := Aside0.mk (Kd.R_lower ho0 (below_size (by repeat (first | (with_reducible first | exact HB.out | apply below_alloc | apply pw_below_drewN | apply below_drew1) | exact HB.out)))); have n3_ := Aside0.mk (below_step (by repeat (first | (with_reducible first | exact HB.out | apply below_alloc | apply pw_below_drewN | apply below_drew1) | exact HB.out)) hb); clear HO105; clear HO111; clear HB; have HO105 := n0_; have HO111 := n1_; have HO115 := n2_; have HB := n3_; clear n0_ n1_ n2_ n3_; (try clear hb); (try clear hb2); (try clear hk); (try clear hi); (try clear ho0)) | ((with_reducible refine gate_dst (N := 26) rfl ?_); (try (refine gate_guard (by rfl) ?_; dsimp only)); refine Kd.R_lit (Kd.int .i64) _ 3 ?hg (N := 26) ?hd (xs := ([1, 3] : List Int)) (inner := [.int .i64 1, .int .i64 3]) (ok := fun _ => True) (okp := fun _ => True) ?hr ?hp (fun _ hk => hk) trivial (Below.refl _ _) (Nat.le_refl _) (by simp) ?_; (case hd => rfl); (case hg => rfl); (case hr => first | (go_simp; done) | (go_simp; rfl)); (case hp => exact (Reps.one (show Kd.M (Kd.int .i64) _ _ _ 1 [.int .i64 1] from rfl) (Reps.one (show Kd.M (Kd.int .i64) _ _ _ 3 [.int .i64 3] from rfl) (Reps.none _ _)))); intro v118 w15 ho16 hb hg_ hnew_; clear hg_ hnew_; (first | rw [← Ny117.out] at ho16 | (simp only [Int.reduceToNat] at ho16; rw [← Ny117.out] at ho16)); have n0_ := Aside0.mk (Kd.R_below (by (with_reducible repeat (first | apply Kd.R_alloc | apply Kd.R_drewN | apply Kd.R_drew)); exact HO105.out) hb); have n1_ := Aside0.mk (Kd.N_elder' (by (with_reducible repeat (first | apply Kd.N_alloc | apply Kd.N_drewN | apply Kd.N_drew)); exact HO111.out) (Kd.R_base ho16) hb); have n2_ := Aside0.mk (Kd.R_elder' (by (with_reducible repeat (first | apply Kd.R_alloc | apply Kd.R_drewN | apply Kd.R_drew)); exact HO115.out) (Kd.R_base ho16) hb); have n3_ := Aside0.mk (Kd.R_lower (Kd.R_new' ho16 (Kd.R_lt (by (with_reducible repeat (first | apply Kd.R_alloc | apply Kd.R_drewN | apply Kd.R_drew)); exact HO115.out))) (below_size (by repeat (first | (with_reducible first | exact HB.out | apply below_alloc | apply pw_below_drewN | apply below_drew1) | exact HB.out)))); have n4_ := Aside0.mk (below_step (by repeat (first | (with_reducible first | exact HB.out | apply below_alloc | apply pw_below_drewN | apply below_drew1) | exact HB.out)) hb); clear HO105; clear HO111; clear HO115; clear HB; have HO105 := n0_; have HO111 := n1_; have HO115 := n2_; have HO119 := n3_; have HB := n4_; clear n0_ n1_ n2_ n3_ n4_; clear hb ho16; skip; obtain ⟨Ao18, co18, eo18⟩ := Kd.R_slice HO119.out; subst eo18) | (go_at_call 35; (with_reducible refine (furlongref01_Ints.calls k _ _ t113 _ _ y117 t120 _ ?side1 ?side2 ?side3 ?side4 A4.out).mono ?_); (case side1 => repeat (first | exact (Kd.R_reads' HO115.out).2.2 | (with_reducible refine Kd.C_alloc ?_ _) | (with_reducible refine Kd.C_drewN ?_ _) | (with_reducible refine Kd.C_drew ?_))); (case side2 => first | exact Nat.le_refl _ | exact (Kd.R_reads' HO115.out).2.1); (case side3 => repeat (first | exact (Kd.R_reads' HO119.out).2.2 | (with_reducible refine Kd.C_alloc ?_ _) | (with_reducible refine Kd.C_drewN ?_ _) | (with_reducible refine Kd.C_drew ?_))); (case side4 => exact (Kd.R_reads' HO119.out).2.1); rintro e w' ⟨rfl, ⟨nd, rfl⟩⟩))
   go_ret
   exact ⟨by first | rfl | (simp [errW_none, errW_some] <;> rfl) | (simp [*, errW_none, errW_some] <;> rfl), by repeat (first | (with_reducible first | exact HB.out | apply below_alloc | apply pw_below_drewN | apply below_drew1) | exact HB.out)⟩
  ·
   rw [if_neg c3] at H
   have c3b0 : (t116 == 0) = false := beq_eq_false_iff_ne.mpr c3
   have c3b1 : (t116 != 0) = true := bne_iff_ne.mpr c3
   obtain rfl := Option.some.inj H
   go_enter Try.func31, Try.ntmps31
   go_wp2_with (first | ((with_reducible refine gate_dst (N := 7) rfl ?_); (try (refine gate_guard (by rfl) ?_; dsimp only)); refine Kd.R_lit k46 _ 46 ?hg (N := 7) ?hd (xs := ([(⟨1, 4, 9, 0, 0⟩ : S46), (⟨2, 2, 9, 0, 0⟩ : S46)] : List (S46))) (inner := [.int .i64 1, .int .i64 4, .int .i64 9, .int .i64 0, .int .i64 0, .int .i64 2, .int .i64 2, .int .i64 9, .int .i64 0, .int .i64 0]) (ok := fun _ => True) (okp := fun _ => True) ?hr ?hp (fun _ hk => hk) trivial (Below.refl _ _) (Nat.le_refl _) (by simp) ?_; (case hd => rfl); (case hg => rfl); (case hr => first | (go_simp; done) | (go_simp; rfl)); (case hp => exact (Reps.c5 (show Kd.M k46 _ _ _ (⟨1, 4, 9, 0, 0⟩ : S46) [.int .i64 1, .int .i64 4, .int .i64 9, .int .i64 0, .int .i64 0] from (k46_mkM _ _ _ (⟨1, 4, 9, 0, 0⟩ : S46) )) (Reps.c5 (show Kd.M k46 _ _ _ (⟨2, 2, 9, 0, 0⟩ : S46) [.int .i64 2, .int .i64 2, .int .i64 9, .int .i64 0, .int .i64 0] from (k46_mkM _ _ _ (⟨2, 2, 9, 0, 0⟩ : S46) )) (Reps.none _ _)))); intro v104 w19 ho20 hb hg_ hnew_; clear hg_ hnew_; (first | rw [← Ny103.out] at ho20 | (simp only [Int.reduceToNat] at ho20; rw [← Ny103.out] at ho20)); have n0_ := Aside0.mk (Kd.R_lower ho20 (below_size (by repeat (first | (with_reducible first | exact HB.out | apply below_alloc | apply pw_below_drewN | apply below_drew1) | exact HB.out)))); have n1_ := Aside0.mk (below_step (by repeat (first | (with_reducible first | exact HB.out | apply below_alloc | apply pw_below_drewN | apply below_drew1) | exact HB.out)) hb); clear HB; have HO105 := n0_; have HB := n1_; clear n0_ n1_; clear hb ho20) | ((with_reducible refine gate_dst (N := 10) rfl ?_); (try (refine gate_guard (by rfl) ?_; dsimp only)); refine Kd.R_lit (Kd.int .i64) _ 3 ?hg (N := 10) ?hd (xs := ([0, 2] : List Int)) (inner := [.int .i64 0, .int .i64 2]) (ok := fun _ => True) (okp := fun _ => True) ?hr ?hp (fun _ hk => hk) trivial (Below.refl _ _) (Nat.le_refl _) (by simp) ?_; (case hd => rfl); (case hg => rfl); (case hr => first | (go_simp; done) | (go_simp; rfl)); (case hp => exact (Reps.one (show Kd.M (Kd.int .i64) _ _ _ 0 [.int .i64 0] from rfl) (Reps.one (show Kd.M (Kd.int .i64) _ _ _ 2 [.int .i64 2] from rfl) (Reps.none _ _)))); intro v107 w21 ho22 hb hg_ hnew_; clear hg_ hnew_; (first | rw [← Ny106.out] at ho22 | (simp only [Int.reduceToNat] at ho22; rw [← Ny106.out] at ho22)); have n0_ := Aside0.mk (Kd.R_below (by (with_reducible repeat (first | apply Kd.R_alloc | apply Kd.R_drewN | apply Kd.R_drew)); exact HO105.out) hb); have n1_ := Aside0.mk (Kd.R_lower ho22 (below_size (by repeat (first | (with_reducible first | exact HB.out | apply below_alloc | apply pw_below_drewN | apply below_drew1) | exact HB.out)))); have n2_ := Aside0.mk (below_step (by repeat (first | (with_reducible first | exact HB.out | apply below_alloc | apply pw_below_drewN | apply below_drew1) | exact HB.out)) hb); clear HO105; clear HB; have HO105 := n0_; have HO108 := n1_; have HB := n2_; clear n0_ n1_ n2_; clear hb ho22; obtain ⟨Ao23, co23, eo23⟩ := Kd.R_slice HO108.out; subst eo23) | ((with_reducible refine gate_dst (N := 12) rfl ?_); (try (refine gate_guard (by rfl) ?_; dsimp only)); refine Kd.N_lit k50 _ 50 ?hg (N' := 12) ?hd (xs := ([(⟨5, 0, 1, y106, 0, 0, 0, false⟩ : S50)] : List (S50))) (inner := [.int .i64 5, .int .i64 0, .int .i64 1, .slice Ao23 y106.length co23, .int .i64 0, .int .i64 0, .int .i64 0, .bool false]) (ok := (fun k_ => some k_ ≠ (v104 : Value).ownBlock)) (okp := (fun k_ => some k_ ≠ (v104 : Value).ownBlock)) ?hr ?hp (fun _ hk => hk) ((show ∀ k_, w21.heap.size ≤ k_ → (fun k_ => some k_ ≠ (v104 : Value).ownBlock) k_ from fun k_ hk => Kd.fresh' (Kd.R_lt (by (with_reducible repeat (first | apply Kd.R_alloc | apply Kd.R_drewN | apply Kd.R_drew)); exact HO105.out)) k_ hk) _ (Nat.le_refl _)) (Below.refl _ _) (Nat.le_refl _) (by simp) ?_; (case hd => rfl); (case hg => rfl); (case hr => first | (go_simp; done) | (go_simp; rfl)); (case hp => exact (Reps.c8 (show Kd.FK k50 _ _ (⟨5, 0, 1, y106, 0, 0, 0, false⟩ : S50) [.int .i64 5, .int .i64 0, .int .i64 1, .slice Ao23 y106.length co23, .int .i64 0, .int .i64 0, .int .i64 0, .bool false] from (k50_mkF _ _ (⟨5, 0, 1, y106, 0, 0, 0, false⟩ : S50) (Kd.R_reads' (Kd.R_mono (ok' := (fun k_ => some k_ ≠ (v104 : Value).ownBlock)) (Kd.R_apart' (HO108.out) (Kd.R_typed HO105.out) (by decide)) (fun k_ hk => hk.2))).2.1 (Kd.R_F (Kd.R_mono (ok' := (fun k_ => some k_ ≠ (v104 : Value).ownBlock)) (Kd.R_apart' (HO108.out) (Kd.R_typed HO105.out) (by decide)) (fun k_ hk => hk.2))))) (Reps.none _ _))); intro v110 w24 ho25 hb hg_ hnew_; clear hg_ hnew_; (first | rw [← Ny109.out] at ho25 | (simp only [Int.reduceToNat] at ho25; rw [← Ny109.out] at ho25)); have n0_ := Aside0.mk (Kd.R_below (by (with_reducible repeat (first | apply Kd.R_alloc | apply Kd.R_drewN | apply Kd.R_drew)); exact HO105.out) hb); have n1_ := Aside0.mk (Kd.N_lower ho25 (below_size (by repeat (first | (with_reducible first | exact HB.out | apply below_alloc | apply pw_below_drewN | apply below_drew1) | exact HB.out)))); have n2_ := Aside0.mk (below_step (by repeat (first | (with_reducible first | exact HB.out | apply below_alloc | apply pw_below_drewN | apply below_drew1) | exact HB.out)) hb); clear HO105; clear HB; clear HO108; have HO105 := n0_; have HO111 := n1_; have HB := n2_; clear n0_ n1_ n2_; clear hb ho25; obtain ⟨Ao26, co26, eo26⟩ := Kd.R_slice HO105.out; subst eo26; obtain ⟨Ao27, co27, eo27⟩ := Kd.N_slice HO111.out; subst eo27) | ((with_reducible refine gate_callee (f := 33) rfl ?_); refine goesL_ (some 14) rfl rfl Try.func33 (by kernel_rfl) rfl #[.slice Ao26 y103.length co26, .slice Ao27 y109.length co27, .agg #[.int .i64 2, .int .i64 3]] rfl (by (try simp only [List.map_toArray, List.map_cons, List.map_nil]); first | done | rfl | (simp only [List.length_drop, List.length_take]; rfl)) ?_; (with_reducible refine (place_Find.calls _ _ y103 _ _ y109 2 3 t112 t113 t116 _ ?side1 ?side2 ?side3 ?side4 A1.out).mono ?_); (case side1 => repeat (first | exact (Kd.R_reads' HO105.out).2.2 | (with_reducible refine Kd.C_alloc ?_ _) | (with_reducible refine Kd.C_drewN ?_ _) | (with_reducible refine Kd.C_drew ?_))); (case side2 => exact (Kd.R_reads' HO105.out).2.1); (case side3 => repeat (first | exact (Kd.N_reads' HO111.out).2.2 | (with_reducible refine Kd.C_alloc ?_ _) | (with_reducible refine Kd.C_drewN ?_ _) | (with_reducible refine Kd.C_drew ?_))); (case side4 => exact (Kd.N_reads' HO111.out).2.1); rintro e w28 ⟨AF, cF, rfl, ho0, hb⟩; refine ⟨_, rfl, ?_⟩; have n0_ := Aside0.mk (Kd.R_below (by (with_reducible repeat (first | apply Kd.R_alloc | apply Kd.R_drewN | apply Kd.R_drew)); exact HO105.out) hb); have n1_ := Aside0.mk (Kd.N_elder' (by (with_reducible repeat (first | apply Kd.N_alloc | apply Kd.N_drewN | apply Kd.N_drew)); exact HO111.out) (Kd.R_base ho0) hb); have n2_ := Aside0.mk (Kd.R_lower ho0 (below_size (by repeat (first | (with_reducible first | exact HB.out | apply below_alloc | apply pw_below_drewN | apply below_drew1) | exact HB.out)))); have n3_ := Aside0.mk (below_step (by repeat (first | (with_reducible first | exact HB.out | apply below_alloc | apply pw_below_drewN | apply below_drew1) | exact HB.out)) hb); clear HO105; clear HO111; clear HB; have HO105 := n0_; have HO111 := n1_; have HO115 := n2_; have HB := n3_; clear n0_ n1_ n2_ n3_; (try clear hb); (try clear hb2); (try clear hk); (try clear hi); (try clear ho0)))
   go_ret
   exact ⟨by first | rfl | (simp [errW_none, errW_some] <;> rfl) | (simp [*, errW_none, errW_some] <;> rfl), by repeat (first | (with_reducible first | exact HB.out | apply below_alloc | apply pw_below_drewN | apply below_drew1) | exact HB.out)⟩
 ·
  rw [if_neg c2] at H
  have c2b0 : (t112 == 1) = false := beq_eq_false_iff_ne.mpr c2
  have c2b1 : (t112 != 1) = true := bne_iff_ne.mpr c2
  obtain rfl := Option.some.inj H
  go_enter Try.func31, Try.ntmps31
  go_wp2_with (first | ((with_reducible refine gate_dst (N := 7) rfl ?_); (try (refine gate_guard (by rfl) ?_; dsimp only)); refine Kd.R_lit k46 _ 46 ?hg (N := 7) ?hd (xs := ([(⟨1, 4, 9, 0, 0⟩ : S46), (⟨2, 2, 9, 0, 0⟩ : S46)] : List (S46))) (inner := [.int .i64 1, .int .i64 4, .int .i64 9, .int .i64 0, .int .i64 0, .int .i64 2, .int .i64 2, .int .i64 9, .int .i64 0, .int .i64 0]) (ok := fun _ => True) (okp := fun _ => True) ?hr ?hp (fun _ hk => hk) trivial (Below.refl _ _) (Nat.le_refl _) (by simp) ?_; (case hd => rfl); (case hg => rfl); (case hr => first | (go_simp; done) | (go_simp; rfl)); (case hp => exact (Reps.c5 (show Kd.M k46 _ _ _ (⟨1, 4, 9, 0, 0⟩ : S46) [.int .i64 1, .int .i64 4, .int .i64 9, .int .i64 0, .int .i64 0] from (k46_mkM _ _ _ (⟨1, 4, 9, 0, 0⟩ : S46) )) (Reps.c5 (show Kd.M k46 _ _ _ (⟨2, 2, 9, 0, 0⟩ : S46) [.int .i64 2, .int .i64 2, .int .i64 9, .int .i64 0, .int .i64 0] from (k46_mkM _ _ _ (⟨2, 2, 9, 0, 0⟩ : S46) )) (Reps.none _ _)))); intro v104 w29 ho30 hb hg_ hnew_; clear hg_ hnew_; (first | rw [← Ny103.out] at ho30 | (simp only [Int.reduceToNat] at ho30; rw [← Ny103.out] at ho30)); have n0_ := Aside0.mk (Kd.R_lower ho30 (below_size (by repeat (first | (with_reducible first | exact HB.out | apply below_alloc | apply pw_below_drewN | apply below_drew1) | exact HB.out)))); have n1_ := Aside0.mk (below_step (by repeat (first | (with_reducible first | exact HB.out | apply below_alloc | apply pw_below_drewN | apply below_drew1) | exact HB.out)) hb); clear HB; have HO105 := n0_; have HB := n1_; clear n0_ n1_; clear hb ho30) | ((with_reducible refine gate_dst (N := 10) rfl ?_); (try (refine gate_guard (by rfl) ?_; dsimp only)); refine Kd.R_lit (Kd.int .i64) _ 3 ?hg (N := 10) ?hd (xs := ([0, 2] : List Int)) (inner := [.int .i64 0, .int .i64 2]) (ok := fun _ => True) (okp := fun _ => True) ?hr ?hp (fun _ hk => hk) trivial (Below.refl _ _) (Nat.le_refl _) (by simp) ?_; (case hd => rfl); (case hg => rfl); (case hr => first | (go_simp; done) | (go_simp; rfl)); (case hp => exact (Reps.one (show Kd.M (Kd.int .i64) _ _ _ 0 [.int .i64 0] from rfl) (Reps.one (show Kd.M (Kd.int .i64) _ _ _ 2 [.int .i64 2] from rfl) (Reps.none _ _)))); intro v107 w31 ho32 hb hg_ hnew_; clear hg_ hnew_; (first | rw [← Ny106.out] at ho32 | (simp only [Int.reduceToNat] at ho32; rw [← Ny106.out] at ho32)); have n0_ := Aside0.mk (Kd.R_below (by (with_reducible repeat (first | apply Kd.R_alloc | apply Kd.R_drewN | apply Kd.R_drew)); exact HO105.out) hb); have n1_ := Aside0.mk (Kd.R_lower ho32 (below_size (by repeat (first | (with_reducible first | exact HB.out | apply below_alloc | apply pw_below_drewN | apply below_drew1) | exact HB.out)))); have n2_ := Aside0.mk (below_step (by repeat (first | (with_reducible first | exact HB.out | apply below_alloc | apply pw_below_drewN | apply below_drew1) | exact HB.out)) hb); clear HO105; clear HB; have HO105 := n0_; have HO108 := n1_; have HB := n2_; clear n0_ n1_ n2_; clear hb ho32; obtain ⟨Ao33, co33, eo33⟩ := Kd.R_slice HO108.out; subst eo33) | ((with_reducible refine gate_dst (N := 12) rfl ?_); (try (refine gate_guard (by rfl) ?_; dsimp only)); refine Kd.N_lit k50 _ 50 ?hg (N' := 12) ?hd (xs := ([(⟨5, 0, 1, y106, 0, 0, 0, false⟩ : S50)] : List (S50))) (inner := [.int .i64 5, .int .i64 0, .int .i64 1, .slice Ao33 y106.length co33, .int .i64 0, .int .i64 0, .int .i64 0, .bool false]) (ok := (fun k_ => some k_ ≠ (v104 : Value).ownBlock)) (okp := (fun k_ => some k_ ≠ (v104 : Value).ownBlock)) ?hr ?hp (fun _ hk => hk) ((show ∀ k_, w31.heap.size ≤ k_ → (fun k_ => some k_ ≠ (v104 : Value).ownBlock) k_ from fun k_ hk => Kd.fresh' (Kd.R_lt (by (with_reducible repeat (first | apply Kd.R_alloc | apply Kd.R_drewN | apply Kd.R_drew)); exact HO105.out)) k_ hk) _ (Nat.le_refl _)) (Below.refl _ _) (Nat.le_refl _) (by simp) ?_; (case hd => rfl); (case hg => rfl); (case hr => first | (go_simp; done) | (go_simp; rfl)); (case hp => exact (Reps.c8 (show Kd.FK k50 _ _ (⟨5, 0, 1, y106, 0, 0, 0, false⟩ : S50) [.int .i64 5, .int .i64 0, .int .i64 1, .slice Ao33 y106.length co33, .int .i64 0, .int .i64 0, .int .i64 0, .bool false] from (k50_mkF _ _ (⟨5, 0, 1, y106, 0, 0, 0, false⟩ : S50) (Kd.R_reads' (Kd.R_mono (ok' := (fun k_ => some k_ ≠ (v104 : Value).ownBlock)) (Kd.R_apart' (HO108.out) (Kd.R_typed HO105.out) (by decide)) (fun k_ hk => hk.2))).2.1 (Kd.R_F (Kd.R_mono (ok' := (fun k_ => some k_ ≠ (v104 : Value).ownBlock)) (Kd.R_apart' (HO108.out) (Kd.R_typed HO105.out) (by decide)) (fun k_ hk => hk.2))))) (Reps.none _ _))); intro v110 w34 ho35 hb hg_ hnew_; clear hg_ hnew_; (first | rw [← Ny109.out] at ho35 | (simp only [Int.reduceToNat] at ho35; rw [← Ny109.out] at ho35)); have n0_ := Aside0.mk (Kd.R_below (by (with_reducible repeat (first | apply Kd.R_alloc | apply Kd.R_drewN | apply Kd.R_drew)); exact HO105.out) hb); have n1_ := Aside0.mk (Kd.N_lower ho35 (below_size (by repeat (first | (with_reducible first | exact HB.out | apply below_alloc | apply pw_below_drewN | apply below_drew1) | exact HB.out)))); have n2_ := Aside0.mk (below_step (by repeat (first | (with_reducible first | exact HB.out | apply below_alloc | apply pw_below_drewN | apply below_drew1) | exact HB.out)) hb); clear HO105; clear HB; clear HO108; have HO105 := n0_; have HO111 := n1_; have HB := n2_; clear n0_ n1_ n2_; clear hb ho35; obtain ⟨Ao36, co36, eo36⟩ := Kd.R_slice HO105.out; subst eo36; obtain ⟨Ao37, co37, eo37⟩ := Kd.N_slice HO111.out; subst eo37) | ((with_reducible refine gate_callee (f := 33) rfl ?_); refine goesL_ (some 14) rfl rfl Try.func33 (by kernel_rfl) rfl #[.slice Ao36 y103.length co36, .slice Ao37 y109.length co37, .agg #[.int .i64 2, .int .i64 3]] rfl (by (try simp only [List.map_toArray, List.map_cons, List.map_nil]); first | done | rfl | (simp only [List.length_drop, List.length_take]; rfl)) ?_; (with_reducible refine (place_Find.calls _ _ y103 _ _ y109 2 3 t112 t113 t116 _ ?side1 ?side2 ?side3 ?side4 A1.out).mono ?_); (case side1 => repeat (first | exact (Kd.R_reads' HO105.out).2.2 | (with_reducible refine Kd.C_alloc ?_ _) | (with_reducible refine Kd.C_drewN ?_ _) | (with_reducible refine Kd.C_drew ?_))); (case side2 => exact (Kd.R_reads' HO105.out).2.1); (case side3 => repeat (first | exact (Kd.N_reads' HO111.out).2.2 | (with_reducible refine Kd.C_alloc ?_ _) | (with_reducible refine Kd.C_drewN ?_ _) | (with_reducible refine Kd.C_drew ?_))); (case side4 => exact (Kd.N_reads' HO111.out).2.1); rintro e w38 ⟨AF, cF, rfl, ho0, hb⟩; refine ⟨_, rfl, ?_⟩; have n0_ := Aside0.mk (Kd.R_below (by (with_reducible repeat (first | apply Kd.R_alloc | apply Kd.R_drewN | apply Kd.R_drew)); exact HO105.out) hb); have n1_ := Aside0.mk (Kd.N_elder' (by (with_reducible repeat (first | apply Kd.N_alloc | apply Kd.N_drewN | apply Kd.N_drew)); exact HO111.out) (Kd.R_base ho0) hb); have n2_ := Aside0.mk (Kd.R_lower ho0 (below_size (by repeat (first | (with_reducible first | exact HB.out | apply below_alloc | apply pw_below_drewN | apply below_drew1) | exact HB.out)))); have n3_ := Aside0.mk (below_step (by repeat (first | (with_reducible first | exact HB.out | apply below_alloc | apply pw_below_drewN | apply below_drew1) | exact HB.out)) hb); clear HO105; clear HO111; clear HB; have HO105 := n0_; have HO111 := n1_; have HO115 := n2_; have HB := n3_; clear n0_ n1_ n2_ n3_; (try clear hb); (try clear hb2); (try clear hk); (try clear hi); (try clear ho0)))
  go_ret
  exact ⟨by first | rfl | (simp [errW_none, errW_some] <;> rfl) | (simp [*, errW_none, errW_some] <;> rfl), by repeat (first | (with_reducible first | exact HB.out | apply below_alloc | apply pw_below_drewN | apply below_drew1) | exact HB.out)⟩

end Go.Proofs.Ytkbcjagkacijnaa.PPl
end
section
-- Written for this claim by this project's own driver over the kit's print: functions and their contracts.
-- findfix
namespace Go.Proofs.Ytkbcjagkacijnaa.PPl
open Go.RowKit Go.Proofs.YtkbcjagkacijnaaW.PrintWords Go.Proofs.YtkbcjagkacijnaaW.PrintLast Go.Proofs.YtkbcjagkacijnaaW.PrintMore
attribute [local go_sem] max2_int min2_int max_two min_two max_three min_three max_four min_four   -- for this text's walks alone
set_option linter.unusedVariables false
set_option linter.unusedSimpArgs false

mutual
def furlonglaw07_PlaceFits.j0 : Nat → List (S46) → List (S50) → Int → List Int → Int → Bool → Int → Int → Option (Bool)
  | 0, _, _, _, _, _, _, _, _ => none
  | k + 1, x0, x1, x7, x8, x9, x36, x204000, x204001 => if x36 = true then (if x7 = 0 then (some ((x8.length : Int) == 0)) else (some false)) else (furlonglaw07_PlaceFits.l0 k x0 x1 x7 x8 x9 (-1) x0 (x0.length : Int) 0 x204000 x204001)
def furlonglaw07_PlaceFits.l0 : Nat → List (S46) → List (S50) → Int → List Int → Int → Int → List (S46) → Int → Int → Int → Int → Option (Bool)
  | 0, _, _, _, _, _, _, _, _, _, _, _ => none
  | k + 1, x0, x1, x7, x8, x9, x10, x44, x45, x46, x204000, x204001 => if x46 < x45 then (if 0 ≤ x46 then (if x46 < (x44.length : Int) then ((place_Free.f x0 x1 ((rd_T46 x44 x46).f0)).bind fun bt212 => (if bt212.2.2 = 0 then (if ((rd_T46 x44 x46).f0) = x7 then (furlonglaw07_PlaceFits.j2 k x0 x1 x7 x8 x9 x10 bt212.1 bt212.2.1 x44 x45 x46 (x9 == 0) x204000 x204001) else (furlonglaw07_PlaceFits.j2 k x0 x1 x7 x8 x9 x10 bt212.1 bt212.2.1 x44 x45 x46 false x204000 x204001)) else (some false))) else (none)) else (none)) else (furlonglaw07_PlaceFits.l1 k x0 x1 x7 x9 x10 x0 (x0.length : Int) 0 x204000 x204001)
def furlonglaw07_PlaceFits.j2 : Nat → List (S46) → List (S50) → Int → List Int → Int → Int → List Int → Int → List (S46) → Int → Int → Bool → Int → Int → Option (Bool)
  | 0, _, _, _, _, _, _, _, _, _, _, _, _, _, _ => none
  | k + 1, x0, x1, x7, x8, x9, x10, x13, x14, x44, x45, x46, x68, x204000, x204001 => if x68 = true then (if (x8.length : Int) = x204000 then (if (x13.length : Int) < (x8.length : Int) then (some false) else (if x14 < x204001 then (some false) else (if 0 ≤ (x8.length : Int) then (if (x8.length : Int) ≤ (x13.length : Int) then ((furlongref01_Ints.f k x8 (x13.take ((x8.length : Int) : Int).toNat)).bind fun t221 => (if t221 = true then (furlonglaw07_PlaceFits.l0 k x0 x1 x7 x8 x9 (x13.length : Int) x44 x45 (wrap64 (x46 + 1)) x204000 x204001) else (some false))) else (none)) else (none)))) else (some false)) else (furlonglaw07_PlaceFits.l0 k x0 x1 x7 x8 x9 x10 x44 x45 (wrap64 (x46 + 1)) x204000 x204001)
def furlonglaw07_PlaceFits.l1 : Nat → List (S46) → List (S50) → Int → Int → Int → List (S46) → Int → Int → Int → Int → Option (Bool)
  | 0, _, _, _, _, _, _, _, _, _, _ => none
  | k + 1, x0, x1, x7, x9, x10, x99, x100, x101, x204000, x204001 => if x101 < x100 then (if 0 ≤ x101 then (if x101 < (x99.length : Int) then ((place_Free.f x0 x1 ((rd_T46 x99 x101).f0)).bind fun bt224 => (if (bt224.1.length : Int) < x204000 then (furlonglaw07_PlaceFits.j4 k x0 x1 x7 x9 x10 bt224.1 x99 x100 x101 true x204000 x204001 ((rd_T46 x99 x101).f0) ((rd_T46 x99 x101).f1) ((rd_T46 x99 x101).f2) ((rd_T46 x99 x101).f3) ((rd_T46 x99 x101).f4)) else (furlonglaw07_PlaceFits.j4 k x0 x1 x7 x9 x10 bt224.1 x99 x100 x101 (decide (bt224.2.1 < x204001)) x204000 x204001 ((rd_T46 x99 x101).f0) ((rd_T46 x99 x101).f1) ((rd_T46 x99 x101).f2) ((rd_T46 x99 x101).f3) ((rd_T46 x99 x101).f4)))) else (none)) else (none)) else (if x9 = 0 then (some (decide (x10 ≥ 0))) else (some true))
def furlonglaw07_PlaceFits.j4 : Nat → List (S46) → List (S50) → Int → Int → Int → List Int → List (S46) → Int → Int → Bool → Int → Int → Int → Int → Int → Int → Int → Option (Bool)
  | 0, _, _, _, _, _, _, _, _, _, _, _, _, _, _, _, _, _ => none
  | k + 1, x0, x1, x7, x9, x10, x18, x99, x100, x101, x124, x204000, x204001, x224000, x224001, x224002, x224003, x224004 => if x124 = true then (furlonglaw07_PlaceFits.l1 k x0 x1 x7 x9 x10 x99 x100 (wrap64 (x101 + 1)) x204000 x204001) else (if x9 = 0 then (if (x18.length : Int) < x10 then (some false) else (if (x18.length : Int) = x10 then (if x224000 < x7 then (some false) else (furlonglaw07_PlaceFits.l1 k x0 x1 x7 x9 x10 x99 x100 (wrap64 (x101 + 1)) x204000 x204001)) else (furlonglaw07_PlaceFits.l1 k x0 x1 x7 x9 x10 x99 x100 (wrap64 (x101 + 1)) x204000 x204001))) else (some false))
end
def furlonglaw07_PlaceFits.f (k : Nat) (l0 : List (S46)) (l1 : List (S50)) (a2_0 : Int) (a2_1 : Int) : Option (Bool) := (furlonglaw07_awake.f k).bind fun t204 => (if t204 = true then ((place_Find.f l0 l1 a2_0 a2_1).bind fun bt205 => (if bt205.2.2 = 0 then (furlonglaw07_PlaceFits.j0 k l0 l1 bt205.1 bt205.2.1 bt205.2.2 false a2_0 a2_1) else (furlonglaw07_PlaceFits.j0 k l0 l1 bt205.1 bt205.2.1 bt205.2.2 (bt205.2.2 != 10) a2_0 a2_1))) else (some false))
theorem furlonglaw07_PlaceFits.mono_l : ∀ k, (∀ y0 y1 y2 y3 y4 y5 y6 y7, LeO (furlonglaw07_PlaceFits.j0 k y0 y1 y2 y3 y4 y5 y6 y7) (furlonglaw07_PlaceFits.j0 (k + 1) y0 y1 y2 y3 y4 y5 y6 y7)) ∧ (∀ y0 y1 y2 y3 y4 y5 y6 y7 y8 y9 y10, LeO (furlonglaw07_PlaceFits.l0 k y0 y1 y2 y3 y4 y5 y6 y7 y8 y9 y10) (furlonglaw07_PlaceFits.l0 (k + 1) y0 y1 y2 y3 y4 y5 y6 y7 y8 y9 y10)) ∧ (∀ y0 y1 y2 y3 y4 y5 y6 y7 y8 y9 y10 y11 y12 y13, LeO (furlonglaw07_PlaceFits.j2 k y0 y1 y2 y3 y4 y5 y6 y7 y8 y9 y10 y11 y12 y13) (furlonglaw07_PlaceFits.j2 (k + 1) y0 y1 y2 y3 y4 y5 y6 y7 y8 y9 y10 y11 y12 y13)) ∧ (∀ y0 y1 y2 y3 y4 y5 y6 y7 y8 y9, LeO (furlonglaw07_PlaceFits.l1 k y0 y1 y2 y3 y4 y5 y6 y7 y8 y9) (furlonglaw07_PlaceFits.l1 (k + 1) y0 y1 y2 y3 y4 y5 y6 y7 y8 y9)) ∧ (∀ y0 y1 y2 y3 y4 y5 y6 y7 y8 y9 y10 y11 y12 y13 y14 y15 y16, LeO (furlonglaw07_PlaceFits.j4 k y0 y1 y2 y3 y4 y5 y6 y7 y8 y9 y10 y11 y12 y13 y14 y15 y16) (furlonglaw07_PlaceFits.j4 (k + 1) y0 y1 y2 y3 y4 y5 y6 y7 y8 y9 y10 y11 y12 y13 y14 y15 y16))
  | 0 => ⟨fun _ _ _ _ _ _ _ _ r h => by simp [furlonglaw07_PlaceFits.j0] at h, fun _ _ _ _ _ _ _ _ _ _ _ r h => by simp [furlonglaw07_PlaceFits.l0] at h, fun _ _ _ _ _ _ _ _ _ _ _ _ _ _ r h => by simp [furlonglaw07_PlaceFits.j2] at h, fun _ _ _ _ _ _ _ _ _ _ r h => by simp [furlonglaw07_PlaceFits.l1] at h, fun _ _ _ _ _ _ _ _ _ _ _ _ _ _ _ _ _ r h => by simp [furlonglaw07_PlaceFits.j4] at h⟩
  | k + 1 => by
    obtain ⟨ih0, ih1, ih2, ih3, ih4⟩ := furlonglaw07_PlaceFits.mono_l k
    refine ⟨?_, ?_, ?_, ?_, ?_⟩
    · intro y0 y1 y2 y3 y4 y5 y6 y7
      unfold furlonglaw07_PlaceFits.j0
      repeat' first
      | (with_reducible exact ih0 _ _ _ _ _ _ _ _)
      | (with_reducible exact ih1 _ _ _ _ _ _ _ _ _ _ _)
      | (with_reducible exact ih2 _ _ _ _ _ _ _ _ _ _ _ _ _ _)
      | (with_reducible exact ih3 _ _ _ _ _ _ _ _ _ _)
      | (with_reducible exact ih4 _ _ _ _ _ _ _ _ _ _ _ _ _ _ _ _ _)
      | (with_reducible exact furlonglaw07_awake.mono _)
      | (with_reducible exact furlongref01_Ints.mono _ _ _)
      | (with_reducible exact LeO.refl _)
      | (with_reducible exact LeO.none _)
      | (with_reducible refine LeO.ite ?_ ?_)
      | (with_reducible refine LeO.bind ?_ (fun _ => ?_))
      | exact ih0 _ _ _ _ _ _ _ _
      | exact ih1 _ _ _ _ _ _ _ _ _ _ _
      | exact ih2 _ _ _ _ _ _ _ _ _ _ _ _ _ _
      | exact ih3 _ _ _ _ _ _ _ _ _ _
      | exact ih4 _ _ _ _ _ _ _ _ _ _ _ _ _ _ _ _ _
      | exact furlonglaw07_awake.mono _
      | exact furlongref01_Ints.mono _ _ _
      | exact LeO.none _
      | refine LeO.ite ?_ ?_
      | refine LeO.bind ?_ (fun _ => ?_)
    · intro y0 y1 y2 y3 y4 y5 y6 y7 y8 y9 y10
      unfold furlonglaw07_PlaceFits.l0
      repeat' first
      | (with_reducible exact ih0 _ _ _ _ _ _ _ _)
      | (with_reducible exact ih1 _ _ _ _ _ _ _ _ _ _ _)
      | (with_reducible exact ih2 _ _ _ _ _ _ _ _ _ _ _ _ _ _)
      | (with_reducible exact ih3 _ _ _ _ _ _ _ _ _ _)
      | (with_reducible exact ih4 _ _ _ _ _ _ _ _ _ _ _ _ _ _ _ _ _)
      | (with_reducible exact furlonglaw07_awake.mono _)
      | (with_reducible exact furlongref01_Ints.mono _ _ _)
      | (with_reducible exact LeO.refl _)
      | (with_reducible exact LeO.none _)
      | (with_reducible refine LeO.ite ?_ ?_)
      | (with_reducible refine LeO.bind ?_ (fun _ => ?_))
      | exact ih0 _ _ _ _ _ _ _ _
      | exact ih1 _ _ _ _ _ _ _ _ _ _ _
      | exact ih2 _ _ _ _ _ _ _ _ _ _ _ _ _ _
      | exact ih3 _ _ _ _ _ _ _ _ _ _
      | exact ih4 _ _ _ _ _ _ _ _ _ _ _ _ _ _ _ _ _
      | exact furlonglaw07_awake.mono _
      | exact furlongref01_Ints.mono _ _ _
      | exact LeO.none _
      | refine LeO.ite ?_ ?_
      | refine LeO.bind ?_ (fun _ => ?_)
    · intro y0 y1 y2 y3 y4 y5 y6 y7 y8 y9 y10 y11 y12 y13
      unfold furlonglaw07_PlaceFits.j2
      repeat' first
      | (with_reducible exact ih0 _ _ _ _ _ _ _ _)
      | (with_reducible exact ih1 _ _ _ _ _ _ _ _ _ _ _)
      | (with_reducible exact ih2 _ _ _ _ _ _ _ _ _ _ _ _ _ _)
      | (with_reducible exact ih3 _ _ _ _ _ _ _ _ _ _)
      | (with_reducible exact ih4 _ _ _ _ _ _ _ _ _ _ _ _ _ _ _ _ _)
      | (with_reducible exact furlonglaw07_awake.mono _)
      | (with_reducible exact furlongref01_Ints.mono _ _ _)
      | (with_reducible exact LeO.refl _)
      | (with_reducible exact LeO.none _)
      | (with_reducible refine LeO.ite ?_ ?_)
      | (with_reducible refine LeO.bind ?_ (fun _ => ?_))
      | exact ih0 _ _ _ _ _ _ _ _
      | exact ih1 _ _ _ _ _ _ _ _ _ _ _
      | exact ih2 _ _ _ _ _ _ _ _ _ _ _ _ _ _
      | exact ih3 _ _ _ _ _ _ _ _ _ _
      | exact ih4 _ _ _ _ _ _ _ _ _ _ _ _ _ _ _ _ _
      | exact furlonglaw07_awake.mono _
      | exact furlongref01_Ints.mono _ _ _
      | exact LeO.none _
      | refine LeO.ite ?_ ?_
      | refine LeO.bind ?_ (fun _ => ?_)
    · intro y0 y1 y2 y3 y4 y5 y6 y7 y8 y9
      unfold furlonglaw07_PlaceFits.l1
      repeat' first
      | (with_reducible exact ih0 _ _ _ _ _ _ _ _)
      | (with_reducible exact ih1 _ _ _ _ _ _ _ _ _ _ _)
      | (with_reducible exact ih2 _ _ _ _ _ _ _ _ _ _ _ _ _ _)
      | (with_reducible exact ih3 _ _ _ _ _ _ _ _ _ _)
      | (with_reducible exact ih4 _ _ _ _ _ _ _ _ _ _ _ _ _ _ _ _ _)
      | (with_reducible exact furlonglaw07_awake.mono _)
      | (with_reducible exact furlongref01_Ints.mono _ _ _)
      | (with_reducible exact LeO.refl _)
      | (with_reducible exact LeO.none _)
      | (with_reducible refine LeO.ite ?_ ?_)
      | (with_reducible refine LeO.bind ?_ (fun _ => ?_))
      | exact ih0 _ _ _ _ _ _ _ _
      | exact ih1 _ _ _ _ _ _ _ _ _ _ _
      | exact ih2 _ _ _ _ _ _ _ _ _ _ _ _ _ _
      | exact ih3 _ _ _ _ _ _ _ _ _ _
      | exact ih4 _ _ _ _ _ _ _ _ _ _ _ _ _ _ _ _ _
      | exact furlonglaw07_awake.mono _
      | exact furlongref01_Ints.mono _ _ _
      | exact LeO.none _
      | refine LeO.ite ?_ ?_
      | refine LeO.bind ?_ (fun _ => ?_)
    · intro y0 y1 y2 y3 y4 y5 y6 y7 y8 y9 y10 y11 y12 y13 y14 y15 y16
      unfold furlonglaw07_PlaceFits.j4
      repeat' first
      | (with_reducible exact ih0 _ _ _ _ _ _ _ _)
      | (with_reducible exact ih1 _ _ _ _ _ _ _ _ _ _ _)
      | (with_reducible exact ih2 _ _ _ _ _ _ _ _ _ _ _ _ _ _)
      | (with_reducible exact ih3 _ _ _ _ _ _ _ _ _ _)
      | (with_reducible exact ih4 _ _ _ _ _ _ _ _ _ _ _ _ _ _ _ _ _)
      | (with_reducible exact furlonglaw07_awake.mono _)
      | (with_reducible exact furlongref01_Ints.mono _ _ _)
      | (with_reducible exact LeO.refl _)
      | (with_reducible exact LeO.none _)
      | (with_reducible refine LeO.ite ?_ ?_)
      | (with_reducible refine LeO.bind ?_ (fun _ => ?_))
      | exact ih0 _ _ _ _ _ _ _ _
      | exact ih1 _ _ _ _ _ _ _ _ _ _ _
      | exact ih2 _ _ _ _ _ _ _ _ _ _ _ _ _ _
      | exact ih3 _ _ _ _ _ _ _ _ _ _
      | exact ih4 _ _ _ _ _ _ _ _ _ _ _ _ _ _ _ _ _
      | exact furlonglaw07_awake.mono _
      | exact furlongref01_Ints.mono _ _ _
      | exact LeO.none _
      | refine LeO.ite ?_ ?_
      | refine LeO.bind ?_ (fun _ => ?_)
theorem furlonglaw07_PlaceFits.mono : ∀ a0 a1 a2 a3 k, LeO (furlonglaw07_PlaceFits.f k a0 a1 a2 a3) (furlonglaw07_PlaceFits.f (k + 1) a0 a1 a2 a3) := by
  intro a0 a1 a2 a3 k
  obtain ⟨ih0, ih1, ih2, ih3, ih4⟩ := furlonglaw07_PlaceFits.mono_l k
  unfold furlonglaw07_PlaceFits.f
  repeat' first
      | (with_reducible exact ih0 _ _ _ _ _ _ _ _)
      | (with_reducible exact ih1 _ _ _ _ _ _ _ _ _ _ _)
      | (with_reducible exact ih2 _ _ _ _ _ _ _ _ _ _ _ _ _ _)
      | (with_reducible exact ih3 _ _ _ _ _ _ _ _ _ _)
      | (with_reducible exact ih4 _ _ _ _ _ _ _ _ _ _ _ _ _ _ _ _ _)
      | (with_reducible exact furlonglaw07_awake.mono _)
      | (with_reducible exact furlongref01_Ints.mono _ _ _)
      | (with_reducible exact LeO.refl _)
      | (with_reducible exact LeO.none _)
      | (with_reducible refine LeO.ite ?_ ?_)
      | (with_reducible refine LeO.bind ?_ (fun _ => ?_))
      | exact ih0 _ _ _ _ _ _ _ _
      | exact ih1 _ _ _ _ _ _ _ _ _ _ _
      | exact ih2 _ _ _ _ _ _ _ _ _ _ _ _ _ _
      | exact ih3 _ _ _ _ _ _ _ _ _ _
      | exact ih4 _ _ _ _ _ _ _ _ _ _ _ _ _ _ _ _ _
      | exact furlonglaw07_awake.mono _
      | exact furlongref01_Ints.mono _ _ _
      | exact LeO.none _
      | refine LeO.ite ?_ ?_
      | refine LeO.bind ?_ (fun _ => ?_)
end Go.Proofs.Ytkbcjagkacijnaa.PPl
end
section
namespace Go.Proofs.Ytkbcjagkacijnaa.PPl
open Go.RowKit Go.Proofs.YtkbcjagkacijnaaW.PrintWords Go.Proofs.YtkbcjagkacijnaaW.PrintLast
set_option linter.unusedVariables false
set_option linter.unusedSimpArgs false
theorem ints_ev (a b : List Int) (ha : a.length < 4611686018427387904) : Ev (fun k => furlongref01_Ints.f k a b) (decide (a = b)) := by
  by_cases hl : a.length = b.length
  · have key : ∀ (n i : Nat), i + n = a.length → Ev (fun k => furlongref01_Ints.l0 k a b (a.length : Int) (i : Int)) (decide (a.drop i = b.drop i)) := by
      intro n
      induction n with
      | zero =>
        intro i hi
        refine Ev.step (h := fun _ => some true) (fun k => ?_) ((Ev.of fun _ => rfl).eq ?_)
        · simp only [furlongref01_Ints.l0]
          rw [if_neg (by omega)]
        · rw [List.drop_of_length_le (by omega), List.drop_of_length_le (by omega)]; rfl
      | succ n ih =>
        intro i hi
        have h1 : i < a.length := by omega
        have h2 : i < b.length := by omega
        have d1 : a.drop i = a[i] :: a.drop (i + 1) := List.drop_eq_getElem_cons h1
        have d2 : b.drop i = b[i] :: b.drop (i + 1) := List.drop_eq_getElem_cons h2
        by_cases e : a[i] = b[i]
        · refine Ev.step (fun k => ?_) ((ih (i + 1) (by omega)).eq ?_)
          · simp only [furlongref01_Ints.l0]
            rw [if_pos (by omega), if_pos (by omega), if_pos (by omega), if_pos (by omega), rdI_get h1, rdI_get h2, if_pos e, w_succ (by omega)]
          · refine decide_eq_decide.mpr ⟨fun h => by rw [d1, d2, e, h], fun h => ?_⟩
            rw [d1, d2] at h
            exact (List.cons.inj h).2
        · refine Ev.step (h := fun _ => some false) (fun k => ?_) ((Ev.of fun _ => rfl).eq ?_)
          · simp only [furlongref01_Ints.l0]
            rw [if_pos (by omega), if_pos (by omega), if_pos (by omega), if_pos (by omega), rdI_get h1, rdI_get h2, if_neg e]
          · refine (decide_eq_false fun h => ?_).symm
            rw [d1, d2] at h
            exact e (List.cons.inj h).1
    have := key a.length 0 (by omega)
    have e : (fun k => furlongref01_Ints.f k a b) = fun k => furlongref01_Ints.l0 k a b (a.length : Int) ((0 : Nat) : Int) := by
      funext k
      unfold furlongref01_Ints.f
      rw [if_pos (by omega)]
      rfl
    rw [e]
    simpa using this
  · refine (Ev.of fun k => ?_).eq (show false = _ from ?_)
    · unfold furlongref01_Ints.f
      rw [if_neg (by omega)]
    · symm
      rw [decide_eq_false_iff_not]
      intro h
      rw [h] at hl
      exact hl rfl
theorem awake_ev : Ev (fun k => furlonglaw07_awake.f k) true := by
  have e : place_Find.f [⟨1, 4, 9, 0, 0⟩, ⟨2, 2, 9, 0, 0⟩] [⟨5, 0, 1, [0, 2], 0, 0, 0, false⟩] 2 3 = some (1, [1, 3], 0) := by decide
  have : (fun k => furlonglaw07_awake.f k) = fun k => (furlongref01_Ints.f k [1, 3] [1, 3]).bind fun t => some t := by
    funext k
    unfold furlonglaw07_awake.f
    rw [e]
    rfl
  rw [this]
  exact Ev.bind (ints_ev [1, 3] [1, 3] (by decide)) (Ev.of fun _ => rfl)
/-- May a list's Ids be? -/
def wfL (l0 : List S46) (l1 : List S50) : Prop := (l0.all (fun n => wfI n.f0) && l1.all (fun x => wfI x.f2)) = true
theorem free_law (nodes : List S46) (leases : List S50) (id : Int) (hw : wfL nodes leases) : place_Free.f nodes leases id = some (freeD nodes leases id) := by
  unfold place_Free.f
  unfold wfL at hw
  rw [if_pos hw, freeV_freeD]
theorem freeD_self {nodes : List S46} {leases : List S50} (h : chk nodes leases = 0) {n : S46} (hn : n ∈ nodes) : freeD nodes leases n.f0 = (freeCores leases n, n.f2 - memOf n.f0 leases, 0) := by
  unfold freeD
  rw [if_neg (by omega), find_self (nds_all (chk_ok h).2.1).1 hn]
section
variable (nodes : List S46) (leases : List S50) (a0 a1 : Int)
end
section
variable (nodes : List S46) (leases : List S50) (a0 a1 : Int)
end
end Go.Proofs.Ytkbcjagkacijnaa.PPl
end
section
-- Written for this claim by this project's own driver over the kit's print: functions and their contracts.
namespace Go.Proofs.Ytkbcjagkacijnaa.PPl
open Go.RowKit Go.Proofs.YtkbcjagkacijnaaW.PrintWords Go.Proofs.YtkbcjagkacijnaaW.PrintLast Go.Proofs.YtkbcjagkacijnaaW.PrintMore
attribute [local go_sem] max2_int min2_int max_two min_two max_three min_three max_four min_four   -- for this text's walks alone
set_option linter.unusedVariables false
set_option linter.unusedSimpArgs false

theorem eqA25 (d : Nat) (w : World) (x0 y0 : Int) (x1 y1 : Int) :
    (Op.equalIn (d + 2) 25 (.agg #[.int .i64 x0, .int .i64 x1]) (.agg #[.int .i64 y0, .int .i64 y1])).run Try.prog w = .ok (x0 == y0 && (x1 == y1)) w := by
  refine eqA_of Try.underlying25 (by kernel_rfl) ?_
  refine eqf_cons (by rfl) (by go_simp; rfl) (by go_simp; rfl) (by go_simp) ?_
  exact eqf_last (by rfl) (by go_simp; rfl) (by go_simp; rfl) (by go_simp)
end Go.Proofs.Ytkbcjagkacijnaa.PPl
end
section
-- Written for this claim by this project's own driver over the kit's print: functions and their contracts.
namespace Go.Proofs.Ytkbcjagkacijnaa.PPl
open Go.RowKit Go.Proofs.YtkbcjagkacijnaaW.PrintWords Go.Proofs.YtkbcjagkacijnaaW.PrintLast Go.Proofs.YtkbcjagkacijnaaW.PrintMore
attribute [local go_sem] max2_int min2_int max_two min_two max_three min_three max_four min_four   -- for this text's walks alone
set_option linter.unusedVariables false
set_option linter.unusedSimpArgs false

attribute [local go_sem high] eqA25
mutual
def furlonglaw07_PlaceAll.l0 : Nat → List (S46) → List (S46) → Int → Int → Int → Int → Int → Int → Option (Bool)
  | 0, _, _, _, _, _, _, _, _ => none
  | k + 1, x0, x24, x25, x26, x350000, x350001, x351000, x351001 => if x26 < x25 then (if 0 ≤ x26 then (if x26 < (x24.length : Int) then ((place_Free.f x0 ([] : List (S50)) ((rd_T46 x24 x26).f0)).bind fun bt353 => (if bt353.2.2 = 0 then (if (bt353.1.length : Int) = ((rd_T46 x24 x26).f1) then (furlonglaw07_PlaceAll.j1 k x0 bt353.1 bt353.2.1 x24 x25 x26 (bt353.2.1 != ((rd_T46 x24 x26).f2)) x350000 x350001 x351000 x351001) else (furlonglaw07_PlaceAll.j1 k x0 bt353.1 bt353.2.1 x24 x25 x26 true x350000 x350001 x351000 x351001)) else (furlonglaw07_PlaceAll.j1 k x0 bt353.1 bt353.2.1 x24 x25 x26 true x350000 x350001 x351000 x351001))) else (none)) else (none)) else (some (x351000 == x350000 && (x351001 == x350001)))
def furlonglaw07_PlaceAll.j1 : Nat → List (S46) → List Int → Int → List (S46) → Int → Int → Bool → Int → Int → Int → Int → Option (Bool)
  | 0, _, _, _, _, _, _, _, _, _, _, _ => none
  | k + 1, x0, x8, x9, x24, x25, x26, x52, x350000, x350001, x351000, x351001 => if x52 = true then (some false) else (furlonglaw07_PlaceAll.l1 k x0 x8 x9 x24 x25 x26 (x8.length : Int) 0 x350000 x350001 x351000 x351001)
def furlonglaw07_PlaceAll.l1 : Nat → List (S46) → List Int → Int → List (S46) → Int → Int → Int → Int → Int → Int → Int → Int → Option (Bool)
  | 0, _, _, _, _, _, _, _, _, _, _, _, _ => none
  | k + 1, x0, x8, x9, x24, x25, x26, x54, x55, x350000, x350001, x351000, x351001 => if x55 < x54 then (if 0 ≤ x55 then (if x55 < (x8.length : Int) then (if (rd x8 x55) = x55 then (furlonglaw07_PlaceAll.l1 k x0 x8 x9 x24 x25 x26 x54 (wrap64 (x55 + 1)) x350000 x350001 x351000 x351001) else (some false)) else (none)) else (none)) else (furlonglaw07_PlaceAll.l0 k x0 x24 x25 (wrap64 (x26 + 1)) x350000 x350001 (wrap64 (x351000 + (x8.length : Int))) (wrap64 (x351001 + x9)))
end
def furlonglaw07_PlaceAll.f (k : Nat) (l0 : List (S46)) : Option (Bool) := (furlonglaw07_awake.f k).bind fun t345 => (if t345 = true then ((place_Total.f l0).bind fun bt346 => (if bt346.2.2 = 0 then (furlonglaw07_PlaceAll.l0 k l0 l0 (l0.length : Int) 0 bt346.1 bt346.2.1 0 0) else (some (bt346.1 == 0 && (bt346.2.1 == 0))))) else (some false))
theorem furlonglaw07_PlaceAll.mono_l : ∀ k, (∀ y0 y1 y2 y3 y4 y5 y6 y7, LeO (furlonglaw07_PlaceAll.l0 k y0 y1 y2 y3 y4 y5 y6 y7) (furlonglaw07_PlaceAll.l0 (k + 1) y0 y1 y2 y3 y4 y5 y6 y7)) ∧ (∀ y0 y1 y2 y3 y4 y5 y6 y7 y8 y9 y10, LeO (furlonglaw07_PlaceAll.j1 k y0 y1 y2 y3 y4 y5 y6 y7 y8 y9 y10) (furlonglaw07_PlaceAll.j1 (k + 1) y0 y1 y2 y3 y4 y5 y6 y7 y8 y9 y10)) ∧ (∀ y0 y1 y2 y3 y4 y5 y6 y7 y8 y9 y10 y11, LeO (furlonglaw07_PlaceAll.l1 k y0 y1 y2 y3 y4 y5 y6 y7 y8 y9 y10 y11) (furlonglaw07_PlaceAll.l1 (k + 1) y0 y1 y2 y3 y4 y5 y6 y7 y8 y9 y10 y11))
  | 0 => ⟨fun _ _ _ _ _ _ _ _ r h => by simp [furlonglaw07_PlaceAll.l0] at h, fun _ _ _ _ _ _ _ _ _ _ _ r h => by simp [furlonglaw07_PlaceAll.j1] at h, fun _ _ _ _ _ _ _ _ _ _ _ _ r h => by simp [furlonglaw07_PlaceAll.l1] at h⟩
  | k + 1 => by
    obtain ⟨ih0, ih1, ih2⟩ := furlonglaw07_PlaceAll.mono_l k
    refine ⟨?_, ?_, ?_⟩
    · intro y0 y1 y2 y3 y4 y5 y6 y7
      unfold furlonglaw07_PlaceAll.l0
      repeat' first
      | (with_reducible exact ih0 _ _ _ _ _ _ _ _)
      | (with_reducible exact ih1 _ _ _ _ _ _ _ _ _ _ _)
      | (with_reducible exact ih2 _ _ _ _ _ _ _ _ _ _ _ _)
      | (with_reducible exact furlonglaw07_awake.mono _)
      | (with_reducible exact LeO.refl _)
      | (with_reducible exact LeO.none _)
      | (with_reducible refine LeO.ite ?_ ?_)
      | (with_reducible refine LeO.bind ?_ (fun _ => ?_))
      | exact ih0 _ _ _ _ _ _ _ _
      | exact ih1 _ _ _ _ _ _ _ _ _ _ _
      | exact ih2 _ _ _ _ _ _ _ _ _ _ _ _
      | exact furlonglaw07_awake.mono _
      | exact LeO.none _
      | refine LeO.ite ?_ ?_
      | refine LeO.bind ?_ (fun _ => ?_)
    · intro y0 y1 y2 y3 y4 y5 y6 y7 y8 y9 y10
      unfold furlonglaw07_PlaceAll.j1
      repeat' first
      | (with_reducible exact ih0 _ _ _ _ _ _ _ _)
      | (with_reducible exact ih1 _ _ _ _ _ _ _ _ _ _ _)
      | (with_reducible exact ih2 _ _ _ _ _ _ _ _ _ _ _ _)
      | (with_reducible exact furlonglaw07_awake.mono _)
      | (with_reducible exact LeO.refl _)
      | (with_reducible exact LeO.none _)
      | (with_reducible refine LeO.ite ?_ ?_)
      | (with_reducible refine LeO.bind ?_ (fun _ => ?_))
      | exact ih0 _ _ _ _ _ _ _ _
      | exact ih1 _ _ _ _ _ _ _ _ _ _ _
      | exact ih2 _ _ _ _ _ _ _ _ _ _ _ _
      | exact furlonglaw07_awake.mono _
      | exact LeO.none _
      | refine LeO.ite ?_ ?_
      | refine LeO.bind ?_ (fun _ => ?_)
    · intro y0 y1 y2 y3 y4 y5 y6 y7 y8 y9 y10 y11
      unfold furlonglaw07_PlaceAll.l1
      repeat' first
      | (with_reducible exact ih0 _ _ _ _ _ _ _ _)
      | (with_reducible exact ih1 _ _ _ _ _ _ _ _ _ _ _)
      | (with_reducible exact ih2 _ _ _ _ _ _ _ _ _ _ _ _)
      | (with_reducible exact furlonglaw07_awake.mono _)
      | (with_reducible exact LeO.refl _)
      | (with_reducible exact LeO.none _)
      | (with_reducible refine LeO.ite ?_ ?_)
      | (with_reducible refine LeO.bind ?_ (fun _ => ?_))
      | exact ih0 _ _ _ _ _ _ _ _
      | exact ih1 _ _ _ _ _ _ _ _ _ _ _
      | exact ih2 _ _ _ _ _ _ _ _ _ _ _ _
      | exact furlonglaw07_awake.mono _
      | exact LeO.none _
      | refine LeO.ite ?_ ?_
      | refine LeO.bind ?_ (fun _ => ?_)
theorem furlonglaw07_PlaceAll.mono : ∀ a0 k, LeO (furlonglaw07_PlaceAll.f k a0) (furlonglaw07_PlaceAll.f (k + 1) a0) := by
  intro a0 k
  obtain ⟨ih0, ih1, ih2⟩ := furlonglaw07_PlaceAll.mono_l k
  unfold furlonglaw07_PlaceAll.f
  repeat' first
      | (with_reducible exact ih0 _ _ _ _ _ _ _ _)
      | (with_reducible exact ih1 _ _ _ _ _ _ _ _ _ _ _)
      | (with_reducible exact ih2 _ _ _ _ _ _ _ _ _ _ _ _)
      | (with_reducible exact furlonglaw07_awake.mono _)
      | (with_reducible exact LeO.refl _)
      | (with_reducible exact LeO.none _)
      | (with_reducible refine LeO.ite ?_ ?_)
      | (with_reducible refine LeO.bind ?_ (fun _ => ?_))
      | exact ih0 _ _ _ _ _ _ _ _
      | exact ih1 _ _ _ _ _ _ _ _ _ _ _
      | exact ih2 _ _ _ _ _ _ _ _ _ _ _ _
      | exact furlonglaw07_awake.mono _
      | exact LeO.none _
      | refine LeO.ite ?_ ?_
      | refine LeO.bind ?_ (fun _ => ?_)
set_option maxHeartbeats 8000000 in
set_option maxRecDepth 100000 in
theorem furlonglaw07_PlaceAll.calls (k : Nat) (A0 : Option Addr) (c0 : Nat) (l0 : List (S46)) (r : Bool) (w : World) (hr0 : Kd.C k46 w A0 l0.length l0) (hc0 : l0.length ≤ c0) (h : furlonglaw07_PlaceAll.f k l0 = some r) :
  Calls Try.prog 15 #[.slice A0 l0.length c0] w fun e w' => e = .returned (.bool r) ∧ Below w.heap.size w w' := by
 have hu25 := Try.underlying25
 have hu46 := Try.underlying46
 have HR0 := Aside0.mk hr0
 have HC0 := Aside0.mk hc0
 clear hr0 hc0
 have HB := Aside0.mk (Below.refl w.heap.size w)
 have H : ((furlonglaw07_awake.f k).bind fun t345 => (if t345 = true then ((place_Total.f l0).bind fun bt346 => (if bt346.2.2 = 0 then (furlonglaw07_PlaceAll.l0 k l0 l0 (l0.length : Int) 0 bt346.1 bt346.2.1 0 0) else (some (bt346.1 == 0 && (bt346.2.1 == 0))))) else (some false))) = some r := h
 clear h
 replace H := Option.bind_eq_some_iff.mp H
 obtain ⟨t345, A20, H⟩ := H
 replace H : (if t345 = true then ((place_Total.f l0).bind fun bt346 => (if bt346.2.2 = 0 then (furlonglaw07_PlaceAll.l0 k l0 l0 (l0.length : Int) 0 bt346.1 bt346.2.1 0 0) else (some (bt346.1 == 0 && (bt346.2.1 == 0))))) else (some false)) = some r := H
 have A2 := Aside0.mk A20
 clear A20
 by_cases c3 : t345 = true
 ·
  subst c3
  have H1 : ((place_Total.f l0).bind fun bt346 => (if bt346.2.2 = 0 then (furlonglaw07_PlaceAll.l0 k l0 l0 (l0.length : Int) 0 bt346.1 bt346.2.1 0 0) else (some (bt346.1 == 0 && (bt346.2.1 == 0))))) = some r := by rw [if_pos rfl] at H; exact H
  clear H
  have H := H1
  clear H1
  replace H := Option.bind_eq_some_iff.mp H
  obtain ⟨⟨t346, t347, t348⟩, A40, H⟩ := H
  replace H : (if t348 = 0 then (furlonglaw07_PlaceAll.l0 k l0 l0 (l0.length : Int) 0 t346 t347 0 0) else (some (t346 == 0 && (t347 == 0)))) = some r := H
  have A4 := Aside0.mk A40
  clear A40
  by_cases c5 : t348 = 0
  ·
   rw [if_pos c5] at H
   have c5b0 : (t348 == 0) = true := beq_iff_eq.mpr c5
   have c5b1 : (t348 != 0) = false := bne_eq_false_iff_eq.mpr c5
   clear c5
   have H' := Aside0.mk H
   clear H
   go_enter Try.func15, Try.ntmps15
   go_wp2_with (first | ((with_reducible refine gate_callee (f := 31) rfl ?_); refine goesL_ (some 12) rfl rfl Try.func31 (by kernel_rfl) rfl #[] rfl (by (try simp only [List.map_toArray, List.map_cons, List.map_nil]); first | done | rfl | (simp only [List.length_drop, List.length_take]; rfl)) ?_; (with_reducible refine (furlonglaw07_awake.calls k  true _ A2.out).mono ?_); rintro e w6 ⟨rfl, hb⟩; refine ⟨_, rfl, ?_⟩; have n0_ := Aside0.mk (below_step (by repeat (first | (with_reducible first | exact HB.out | apply below_alloc | apply pw_below_drewN | apply below_drew1) | exact HB.out)) hb); clear HB; have HB := n0_; clear n0_; (try clear hb); (try clear hb2); (try clear hk); (try clear hi)) | ((with_reducible refine gate_callee (f := 53) rfl ?_); refine goesL_ (some 16) rfl rfl Try.func53 (by kernel_rfl) rfl #[.slice A0 l0.length c0] rfl (by (try simp only [List.map_toArray, List.map_cons, List.map_nil]); first | done | rfl | (simp only [List.length_drop, List.length_take]; rfl)) ?_; (with_reducible refine (place_Total.calls _ _ l0 t346 t347 t348 _ ?side1 ?side2 A4.out).mono ?_); (case side1 => repeat (first | exact (Kd.C_below HR0.out HB.out) | (with_reducible refine Kd.C_alloc ?_ _) | (with_reducible refine Kd.C_drewN ?_ _) | (with_reducible refine Kd.C_drew ?_))); (case side2 => exact HC0.out); rintro e w7 ⟨rfl, hb⟩; refine ⟨_, rfl, ?_⟩; have n0_ := Aside0.mk (below_step (by repeat (first | (with_reducible first | exact HB.out | apply below_alloc | apply pw_below_drewN | apply below_drew1) | exact HB.out)) hb); clear HB; have HB := n0_; clear n0_; (try clear hb); (try clear hb2); (try clear hk); (try clear hi)) | ((with_reducible refine gate_dst (N := 3) rfl ?_); (try (refine gate_guard (by rfl) ?_; dsimp only)); refine box_event ?hg (N := 3) ?hd (cs := #[.int .i64 0, .int .i64 0]) (t := 25) ?hr ?_; (case hd => rfl); (case hg => rfl); (case hr => first | (go_simp; done) | (go_simp; rfl)); intro gb349 hg w8 hbox hb; have n0_ := Aside0.mk (below_step (by repeat (first | (with_reducible first | exact HB.out | apply below_alloc | apply pw_below_drewN | apply below_drew1) | exact HB.out)) hb); have n1_ := Aside0.mk (hbox); have n2_ := Aside0.mk ((by rw [hg]; exact (below_size (by repeat (first | (with_reducible first | exact HB.out | apply below_alloc | apply pw_below_drewN | apply below_drew1) | exact HB.out))) : w.heap.size ≤ gb349)); have n3_ := Aside0.mk ((by rw [hg]; exact (below_size (by repeat (first | (with_reducible first | exact HB.out | apply below_alloc | apply pw_below_drewN | apply below_drew1) | exact HB.out))) : w.heap.size ≤ gb349)); clear HB; have HB := n0_; have BK349 := n1_; have GW349 := n2_; have GE349 := n3_; clear n0_ n1_ n2_ n3_; clear hb hbox hg; have hcz9_0 : w8.cell? ⟨gb349, 0, none⟩ = some (.int .i64 0) := (blk_cell BK349.out 0).trans rfl; have hcz9_1 : w8.cell? ⟨gb349, 1, none⟩ = some (.int .i64 0) := (blk_cell BK349.out 1).trans rfl; have hfz9_0 := blk_frozen BK349.out 0; have hfz9_1 := blk_frozen BK349.out 1) | ((with_reducible refine gate_dst (N := 5) rfl ?_); (try (refine gate_guard (by rfl) ?_; dsimp only)); refine box_event ?hg (N := 5) ?hd (cs := #[.int .i64 0, .int .i64 0]) (t := 25) ?hr ?_; (case hd => rfl); (case hg => rfl); (case hr => first | (go_simp; done) | (go_simp; rfl)); intro gb350 hg w10 hbox hb; have n0_ := Aside0.mk (blk_below (g := gb349) (o := .cells #[.int .i64 t346, .int .i64 t347] 25 (0, 0)) (by (with_reducible repeat (first | refine blk_drewN ?_ _ | refine blk_drew ?_ | refine blk_alloc ?_ _)); refine blk_put (cs := #[.int .i64 t346, .int .i64 0]) ?_ 1 _ rfl; (with_reducible repeat (first | refine blk_drewN ?_ _ | refine blk_drew ?_ | refine blk_alloc ?_ _)); refine blk_put (cs := #[.int .i64 0, .int .i64 0]) ?_ 0 _ rfl; (with_reducible repeat (first | refine blk_drewN ?_ _ | refine blk_drew ?_ | refine blk_alloc ?_ _)); exact BK349.out) hb); have n1_ := Aside0.mk (below_step (by repeat (first | (with_reducible first | exact HB.out | apply below_alloc | apply pw_below_drewN | apply below_drew1 | refine below_set ?_ GE349.out) | exact HB.out)) hb); have n2_ := Aside0.mk (hbox); have n3_ := Aside0.mk ((by rw [hg]; exact (below_size (by repeat (first | (with_reducible first | exact HB.out | apply below_alloc | apply pw_below_drewN | apply below_drew1 | refine below_set ?_ GE349.out) | exact HB.out))) : w.heap.size ≤ gb350)); have n4_ := Aside0.mk ((by rw [hg]; exact (below_size (by repeat (first | (with_reducible first | exact HB.out | apply below_alloc | apply pw_below_drewN | apply below_drew1 | refine below_set ?_ GE349.out) | exact HB.out))) : w.heap.size ≤ gb350)); have n5_ := Aside0.mk ((by rw [hg]; exact Nat.ne_of_lt (blk_lt (g := gb349) (o := .cells #[.int .i64 t346, .int .i64 t347] 25 (0, 0)) (by (with_reducible repeat (first | refine blk_drewN ?_ _ | refine blk_drew ?_ | refine blk_alloc ?_ _)); refine blk_put (cs := #[.int .i64 t346, .int .i64 0]) ?_ 1 _ rfl; (with_reducible repeat (first | refine blk_drewN ?_ _ | refine blk_drew ?_ | refine blk_alloc ?_ _)); refine blk_put (cs := #[.int .i64 0, .int .i64 0]) ?_ 0 _ rfl; (with_reducible repeat (first | refine blk_drewN ?_ _ | refine blk_drew ?_ | refine blk_alloc ?_ _)); exact BK349.out)) : gb349 ≠ gb350)); have n6_ := Aside0.mk ((by rw [hg]; exact Nat.ne_of_gt (blk_lt (g := gb349) (o := .cells #[.int .i64 t346, .int .i64 t347] 25 (0, 0)) (by (with_reducible repeat (first | refine blk_drewN ?_ _ | refine blk_drew ?_ | refine blk_alloc ?_ _)); refine blk_put (cs := #[.int .i64 t346, .int .i64 0]) ?_ 1 _ rfl; (with_reducible repeat (first | refine blk_drewN ?_ _ | refine blk_drew ?_ | refine blk_alloc ?_ _)); refine blk_put (cs := #[.int .i64 0, .int .i64 0]) ?_ 0 _ rfl; (with_reducible repeat (first | refine blk_drewN ?_ _ | refine blk_drew ?_ | refine blk_alloc ?_ _)); exact BK349.out)) : gb350 ≠ gb349)); clear BK349; clear HB; have BK349 := n0_; have HB := n1_; have BK350 := n2_; have GW350 := n3_; have GE350 := n4_; have NB349_350 := n5_; have NB350_349 := n6_; clear n0_ n1_ n2_ n3_ n4_ n5_ n6_; clear hb hbox hg))
   go_loopg [26] k (fun kq v26 w' => ∃ (x26_1 : Int) (x351000_1 : Int) (x351001_1 : Int), v26 = .int .i64 x26_1 ∧ Aside0 (furlonglaw07_PlaceAll.l0 kq l0 l0 (l0.length : Int) x26_1 t346 t347 x351000_1 x351001_1 = some r) ∧ Aside0 (kq ≤ k) ∧ Aside0 (w'.heap[gb349]? = some (.cells #[.int .i64 t346, .int .i64 t347] 25 (0, 0))) ∧ Aside0 (w'.heap[gb350]? = some (.cells #[.int .i64 x351000_1, .int .i64 x351001_1] 25 (0, 0))) ∧ Aside0 (Below w.heap.size w w'))
   case atStart => exact ⟨(0), (0), (0), (by first | rfl | (simp; done) | (simp [*]; done)), H', ⟨Nat.le_refl _⟩, ⟨by (with_reducible repeat (first | refine blk_drewN ?_ _ | refine blk_drew ?_ | refine blk_alloc ?_ _)); exact BK349.out⟩, ⟨by (with_reducible repeat (first | refine blk_drewN ?_ _ | refine blk_drew ?_ | refine blk_alloc ?_ _)); exact BK350.out⟩, ⟨by repeat (first | (with_reducible first | exact HB.out | apply below_alloc | apply pw_below_drewN | apply below_drew1 | refine below_set ?_ GE349.out | refine below_set ?_ GE350.out) | exact HB.out)⟩⟩
   case round =>
    clear H'
    (try clear c1); (try clear p2); (try clear c3); (try clear c5); (try clear c5b0); (try clear c5b1); (try clear hcz9_0); (try clear hcz9_1); (try clear hfz9_0); (try clear hfz9_1)
    obtain ⟨x26_1, x351000_1, x351001_1, rfl, HA, HK1, BK349, BK350, HB⟩ := hrel
    cases gk with
    | zero => exact absurd HA.out (by simp [furlonglaw07_PlaceAll.l0])
    | succ k1 =>
     have H := HA.out
     clear HA
     simp only [furlonglaw07_PlaceAll.l0] at H
     by_cases c11 : x26_1 < (l0.length : Int)
     ·
      rw [if_pos c11] at H
      have c11b0 : decide (x26_1 < (l0.length : Int)) = true := decide_eq_true c11
      clear c11
      by_cases c12 : 0 ≤ x26_1
      ·
       rw [if_pos c12] at H
       have c12b0 : decide (0 ≤ x26_1) = true := decide_eq_true c12
       clear c12
       by_cases c13 : x26_1 < (l0.length : Int)
       ·
        rw [if_pos c13] at H
        have c13b0 : decide (x26_1 < (l0.length : Int)) = true := decide_eq_true c13
        clear c13
        replace H := Option.bind_eq_some_iff.mp H
        obtain ⟨⟨t353, t354, t355⟩, A140, H⟩ := H
        replace H : (if t355 = 0 then (if (t353.length : Int) = ((rd_T46 l0 x26_1).f1) then (furlonglaw07_PlaceAll.j1 k1 l0 t353 t354 l0 (l0.length : Int) x26_1 (t354 != ((rd_T46 l0 x26_1).f2)) t346 t347 x351000_1 x351001_1) else (furlonglaw07_PlaceAll.j1 k1 l0 t353 t354 l0 (l0.length : Int) x26_1 true t346 t347 x351000_1 x351001_1)) else (furlonglaw07_PlaceAll.j1 k1 l0 t353 t354 l0 (l0.length : Int) x26_1 true t346 t347 x351000_1 x351001_1)) = some r := H
        have A14 := Aside0.mk A140
        clear A140
        have HC15 := Aside0.mk H
        clear H
        have p351 : 0 ≤ (x26_1 : Int) := of_decide_eq_true (by first | (with_reducible assumption) | assumption)
        have q351 : x26_1 < (l0.length : Int) := of_decide_eq_true (by first | (with_reducible assumption) | assumption)
        obtain ⟨ad351, e351, hx351_0, hx351_1, hx351_2, hx351_3, hx351_4⟩ := at_T46 HR0.out x26_1 p351 q351
        cases e351
        (try (replace hx351_0 := (HB.out.cell (World.block_lt_of_cell? w _ hx351_0)).trans hx351_0))
        (try (replace hx351_1 := (HB.out.cell (World.block_lt_of_cell? w _ hx351_1)).trans hx351_1))
        (try (replace hx351_2 := (HB.out.cell (World.block_lt_of_cell? w _ hx351_2)).trans hx351_2))
        (try (replace hx351_3 := (HB.out.cell (World.block_lt_of_cell? w _ hx351_3)).trans hx351_3))
        (try (replace hx351_4 := (HB.out.cell (World.block_lt_of_cell? w _ hx351_4)).trans hx351_4))
        replace p351 := eq_true p351
        replace q351 := eq_true q351
        go_upto_region 11 with (first | ((with_reducible refine gate_dst (N := 7) rfl ?_); (try (refine gate_guard (by rfl) ?_; dsimp only)); refine box_event ?hg (N := 7) ?hd (cs := #[.int .i64 0, .int .i64 0, .int .i64 0, .int .i64 0, .int .i64 0]) (t := 46) ?hr ?_; (case hd => rfl); (case hg => rfl); (case hr => first | (go_simp; done) | (go_simp; rfl)); intro gb352 hg w16 hbox hb; have n0_ := Aside0.mk (blk_below (g := gb349) (o := .cells #[.int .i64 t346, .int .i64 t347] 25 (0, 0)) (by (with_reducible repeat (first | refine blk_drewN ?_ _ | refine blk_drew ?_ | refine blk_alloc ?_ _)); exact BK349.out) hb); have n1_ := Aside0.mk (blk_below (g := gb350) (o := .cells #[.int .i64 x351000_1, .int .i64 x351001_1] 25 (0, 0)) (by (with_reducible repeat (first | refine blk_drewN ?_ _ | refine blk_drew ?_ | refine blk_alloc ?_ _)); exact BK350.out) hb); have n2_ := Aside0.mk (below_step (by repeat (first | (with_reducible first | exact HB.out | apply below_alloc | apply pw_below_drewN | apply below_drew1 | refine below_set ?_ GE349.out | refine below_set ?_ GE350.out) | exact HB.out)) hb); have n3_ := Aside0.mk (hbox); have n4_ := Aside0.mk ((by rw [hg]; exact (below_size (by repeat (first | (with_reducible first | exact HB.out | apply below_alloc | apply pw_below_drewN | apply below_drew1 | refine below_set ?_ GE349.out | refine below_set ?_ GE350.out) | exact HB.out))) : w.heap.size ≤ gb352)); have n5_ := Aside0.mk ((by rw [hg]; exact (below_size (by repeat (first | (with_reducible first | exact HB.out | apply below_alloc | apply pw_below_drewN | apply below_drew1 | refine below_set ?_ GE349.out | refine below_set ?_ GE350.out) | exact HB.out))) : w.heap.size ≤ gb352)); have n6_ := Aside0.mk ((by rw [hg]; exact Nat.ne_of_lt (blk_lt (g := gb349) (o := .cells #[.int .i64 t346, .int .i64 t347] 25 (0, 0)) (by (with_reducible repeat (first | refine blk_drewN ?_ _ | refine blk_drew ?_ | refine blk_alloc ?_ _)); exact BK349.out)) : gb349 ≠ gb352)); have n7_ := Aside0.mk ((by rw [hg]; exact Nat.ne_of_gt (blk_lt (g := gb349) (o := .cells #[.int .i64 t346, .int .i64 t347] 25 (0, 0)) (by (with_reducible repeat (first | refine blk_drewN ?_ _ | refine blk_drew ?_ | refine blk_alloc ?_ _)); exact BK349.out)) : gb352 ≠ gb349)); have n8_ := Aside0.mk ((by rw [hg]; exact Nat.ne_of_lt (blk_lt (g := gb350) (o := .cells #[.int .i64 x351000_1, .int .i64 x351001_1] 25 (0, 0)) (by (with_reducible repeat (first | refine blk_drewN ?_ _ | refine blk_drew ?_ | refine blk_alloc ?_ _)); exact BK350.out)) : gb350 ≠ gb352)); have n9_ := Aside0.mk ((by rw [hg]; exact Nat.ne_of_gt (blk_lt (g := gb350) (o := .cells #[.int .i64 x351000_1, .int .i64 x351001_1] 25 (0, 0)) (by (with_reducible repeat (first | refine blk_drewN ?_ _ | refine blk_drew ?_ | refine blk_alloc ?_ _)); exact BK350.out)) : gb352 ≠ gb350)); clear BK349; clear BK350; clear HB; have BK349 := n0_; have BK350 := n1_; have HB := n2_; have BK352 := n3_; have GW352 := n4_; have GE352 := n5_; have NB349_352 := n6_; have NB352_349 := n7_; have NB350_352 := n8_; have NB352_350 := n9_; clear n0_ n1_ n2_ n3_ n4_ n5_ n6_ n7_ n8_ n9_; clear hb hbox hg; have hnb17 := NB352_349.out; have hnc17 := NB349_352.out; have hnb18 := NB352_350.out; have hnc18 := NB350_352.out; have hcz19_0 : w16.cell? ⟨gb352, 0, none⟩ = some (.int .i64 0) := (blk_cell BK352.out 0).trans rfl; have hcz19_1 : w16.cell? ⟨gb352, 1, none⟩ = some (.int .i64 0) := (blk_cell BK352.out 1).trans rfl; have hcz19_2 : w16.cell? ⟨gb352, 2, none⟩ = some (.int .i64 0) := (blk_cell BK352.out 2).trans rfl; have hcz19_3 : w16.cell? ⟨gb352, 3, none⟩ = some (.int .i64 0) := (blk_cell BK352.out 3).trans rfl; have hcz19_4 : w16.cell? ⟨gb352, 4, none⟩ = some (.int .i64 0) := (blk_cell BK352.out 4).trans rfl; have hfz19_0 := blk_frozen BK352.out 0; have hfz19_1 := blk_frozen BK352.out 1; have hfz19_2 := blk_frozen BK352.out 2; have hfz19_3 := blk_frozen BK352.out 3; have hfz19_4 := blk_frozen BK352.out 4) | ((with_reducible refine gate_callee (f := 49) rfl ?_); refine goesL_ (some 34) rfl rfl Try.func49 (by kernel_rfl) rfl #[.slice (some ad351) l0.length c0, .slice none 0 0, .int .i64 ((rd_T46 l0 x26_1).f0)] rfl (by (try simp only [List.map_toArray, List.map_cons, List.map_nil]); first | done | rfl | (simp only [List.length_drop, List.length_take]; rfl)) ?_; (refine (place_Free.calls _ _ l0 _ _ ([] : List (S50)) ((rd_T46 l0 x26_1).f0) t353 t354 t355 _ ?side1 ?side2 ?side3 ?side4 A14.out).mono ?_); (case side1 => exact Kd.C_below HR0.out (by repeat (first | (with_reducible first | exact HB.out | apply below_alloc | apply pw_below_drewN | apply below_drew1 | refine below_set ?_ GE349.out | refine below_set ?_ GE350.out | refine below_set ?_ GE352.out) | exact HB.out))); (case side2 => exact HC0.out); (case side3 => exact Kd.C_nil _ _); (case side4 => exact Nat.le_refl _); rintro e w20 ⟨v356, rfl, ho0, hb⟩; refine ⟨_, rfl, ?_⟩; have n0_ := Aside0.mk (Kd.R_lower ho0 (below_size (by repeat (first | (with_reducible first | exact HB.out | apply below_alloc | apply pw_below_drewN | apply below_drew1 | refine below_set ?_ GE349.out | refine below_set ?_ GE350.out | refine below_set ?_ GE352.out) | exact HB.out)))); have n1_ := Aside0.mk (blk_below (g := gb349) (o := .cells #[.int .i64 t346, .int .i64 t347] 25 (0, 0)) (by (with_reducible repeat (first | refine blk_drewN ?_ _ | refine blk_drew ?_ | refine blk_alloc ?_ _)); refine blk_far ?_ NB349_352.out _; (with_reducible repeat (first | refine blk_drewN ?_ _ | refine blk_drew ?_ | refine blk_alloc ?_ _)); refine blk_far ?_ NB349_352.out _; (with_reducible repeat (first | refine blk_drewN ?_ _ | refine blk_drew ?_ | refine blk_alloc ?_ _)); refine blk_far ?_ NB349_352.out _; (with_reducible repeat (first | refine blk_drewN ?_ _ | refine blk_drew ?_ | refine blk_alloc ?_ _)); refine blk_far ?_ NB349_352.out _; (with_reducible repeat (first | refine blk_drewN ?_ _ | refine blk_drew ?_ | refine blk_alloc ?_ _)); refine blk_far ?_ NB349_352.out _; (with_reducible repeat (first | refine blk_drewN ?_ _ | refine blk_drew ?_ | refine blk_alloc ?_ _)); exact BK349.out) hb); have n2_ := Aside0.mk (blk_below (g := gb350) (o := .cells #[.int .i64 x351000_1, .int .i64 x351001_1] 25 (0, 0)) (by (with_reducible repeat (first | refine blk_drewN ?_ _ | refine blk_drew ?_ | refine blk_alloc ?_ _)); refine blk_far ?_ NB350_352.out _; (with_reducible repeat (first | refine blk_drewN ?_ _ | refine blk_drew ?_ | refine blk_alloc ?_ _)); refine blk_far ?_ NB350_352.out _; (with_reducible repeat (first | refine blk_drewN ?_ _ | refine blk_drew ?_ | refine blk_alloc ?_ _)); refine blk_far ?_ NB350_352.out _; (with_reducible repeat (first | refine blk_drewN ?_ _ | refine blk_drew ?_ | refine blk_alloc ?_ _)); refine blk_far ?_ NB350_352.out _; (with_reducible repeat (first | refine blk_drewN ?_ _ | refine blk_drew ?_ | refine blk_alloc ?_ _)); refine blk_far ?_ NB350_352.out _; (with_reducible repeat (first | refine blk_drewN ?_ _ | refine blk_drew ?_ | refine blk_alloc ?_ _)); exact BK350.out) hb); have n3_ := Aside0.mk (blk_below (g := gb352) (o := .cells #[.int .i64 ((rd_T46 l0 x26_1).f0), .int .i64 ((rd_T46 l0 x26_1).f1), .int .i64 ((rd_T46 l0 x26_1).f2), .int .i64 ((rd_T46 l0 x26_1).f3), .int .i64 ((rd_T46 l0 x26_1).f4)] 46 (0, 0)) (by (with_reducible repeat (first | refine blk_drewN ?_ _ | refine blk_drew ?_ | refine blk_alloc ?_ _)); refine blk_put (cs := #[.int .i64 ((rd_T46 l0 x26_1).f0), .int .i64 ((rd_T46 l0 x26_1).f1), .int .i64 ((rd_T46 l0 x26_1).f2), .int .i64 ((rd_T46 l0 x26_1).f3), .int .i64 0]) ?_ 4 _ rfl; (with_reducible repeat (first | refine blk_drewN ?_ _ | refine blk_drew ?_ | refine blk_alloc ?_ _)); refine blk_put (cs := #[.int .i64 ((rd_T46 l0 x26_1).f0), .int .i64 ((rd_T46 l0 x26_1).f1), .int .i64 ((rd_T46 l0 x26_1).f2), .int .i64 0, .int .i64 0]) ?_ 3 _ rfl; (with_reducible repeat (first | refine blk_drewN ?_ _ | refine blk_drew ?_ | refine blk_alloc ?_ _)); refine blk_put (cs := #[.int .i64 ((rd_T46 l0 x26_1).f0), .int .i64 ((rd_T46 l0 x26_1).f1), .int .i64 0, .int .i64 0, .int .i64 0]) ?_ 2 _ rfl; (with_reducible repeat (first | refine blk_drewN ?_ _ | refine blk_drew ?_ | refine blk_alloc ?_ _)); refine blk_put (cs := #[.int .i64 ((rd_T46 l0 x26_1).f0), .int .i64 0, .int .i64 0, .int .i64 0, .int .i64 0]) ?_ 1 _ rfl; (with_reducible repeat (first | refine blk_drewN ?_ _ | refine blk_drew ?_ | refine blk_alloc ?_ _)); refine blk_put (cs := #[.int .i64 0, .int .i64 0, .int .i64 0, .int .i64 0, .int .i64 0]) ?_ 0 _ rfl; (with_reducible repeat (first | refine blk_drewN ?_ _ | refine blk_drew ?_ | refine blk_alloc ?_ _)); exact BK352.out) hb); have n4_ := Aside0.mk (below_step (by repeat (first | (with_reducible first | exact HB.out | apply below_alloc | apply pw_below_drewN | apply below_drew1 | refine below_set ?_ GE349.out | refine below_set ?_ GE350.out | refine below_set ?_ GE352.out) | exact HB.out)) hb); clear BK349; clear BK350; clear BK352; clear HB; have HO357 := n0_; have BK349 := n1_; have BK350 := n2_; have BK352 := n3_; have HB := n4_; clear n0_ n1_ n2_ n3_ n4_; (try clear hb); (try clear hb2); (try clear hk); (try clear hi); (try clear ho0)))
        (try simp only [Act.put, List.setIfInBounds_toArray, List.set_cons_zero, List.set_cons_succ])
        go_cut [52] (fun v52 wc => ∃ (kq : Nat) (x52_14 : Bool), v52 = .bool x52_14 ∧ Aside0 (furlonglaw07_PlaceAll.j1 kq l0 t353 t354 l0 (l0.length : Int) x26_1 x52_14 t346 t347 x351000_1 x351001_1 = some r) ∧ Aside0 (kq ≤ k1) ∧ Aside0 (Kd.R (Kd.int .i64) 3 wc w.heap.size (fun _ => True) v356 t353) ∧ Aside0 (wc.heap[gb349]? = some (.cells #[.int .i64 t346, .int .i64 t347] 25 (0, 0))) ∧ Aside0 (wc.heap[gb350]? = some (.cells #[.int .i64 x351000_1, .int .i64 x351001_1] 25 (0, 0))) ∧ Aside0 (wc.heap[gb352]? = some (.cells #[.int .i64 ((rd_T46 l0 x26_1).f0), .int .i64 ((rd_T46 l0 x26_1).f1), .int .i64 ((rd_T46 l0 x26_1).f2), .int .i64 ((rd_T46 l0 x26_1).f3), .int .i64 ((rd_T46 l0 x26_1).f4)] 46 (0, 0))) ∧ Aside0 (Below w.heap.size w wc))
        case first =>
         have H := HC15.out
         clear HC15
         by_cases c21 : t355 = 0
         ·
          rw [if_pos c21] at H
          have c21b0 : (t355 == 0) = true := beq_iff_eq.mpr c21
          have c21b1 : (t355 != 0) = false := bne_eq_false_iff_eq.mpr c21
          clear c21
          (first | rw [c21b0] | (simp only [i64_w, i32_w]; rw [c21b0]) | skip)
          by_cases c22 : (t353.length : Int) = ((rd_T46 l0 x26_1).f1)
          ·
           rw [if_pos c22] at H
           have c22b0 : ((t353.length : Int) == ((rd_T46 l0 x26_1).f1)) = true := beq_iff_eq.mpr c22
           have c22b1 : ((t353.length : Int) != ((rd_T46 l0 x26_1).f1)) = false := bne_eq_false_iff_eq.mpr c22
           clear c22
           have H' := Aside0.mk H
           clear H
           obtain ⟨Ao23, co23, eo23⟩ := Kd.R_slice HO357.out
           subst eo23
           have hnb24 := NB352_349.out
           have hnc24 := NB349_352.out
           have hnb25 := NB352_350.out
           have hnc25 := NB350_352.out
           have hcz26_0 : w20.cell? ⟨gb352, 0, none⟩ = some (.int .i64 ((rd_T46 l0 x26_1).f0)) := (blk_cell BK352.out 0).trans rfl
           have hcz26_1 : w20.cell? ⟨gb352, 1, none⟩ = some (.int .i64 ((rd_T46 l0 x26_1).f1)) := (blk_cell BK352.out 1).trans rfl
           have hcz26_2 : w20.cell? ⟨gb352, 2, none⟩ = some (.int .i64 ((rd_T46 l0 x26_1).f2)) := (blk_cell BK352.out 2).trans rfl
           have hcz26_3 : w20.cell? ⟨gb352, 3, none⟩ = some (.int .i64 ((rd_T46 l0 x26_1).f3)) := (blk_cell BK352.out 3).trans rfl
           have hcz26_4 : w20.cell? ⟨gb352, 4, none⟩ = some (.int .i64 ((rd_T46 l0 x26_1).f4)) := (blk_cell BK352.out 4).trans rfl
           have hfz26_0 := blk_frozen BK352.out 0
           have hfz26_1 := blk_frozen BK352.out 1
           have hfz26_2 := blk_frozen BK352.out 2
           have hfz26_3 := blk_frozen BK352.out 3
           have hfz26_4 := blk_frozen BK352.out 4
           go_wp2
           go_meet
           case rel => exact ⟨_, ((t354 != ((rd_T46 l0 x26_1).f2))), (by first | rfl | (simp; done) | (simp [*]; done)), H', ⟨by have := HK1.out; first | omega | exact Nat.le_refl _⟩, ⟨by (with_reducible repeat (first | apply Kd.R_alloc | apply Kd.R_drewN | apply Kd.R_drew)); exact HO357.out⟩, ⟨by (with_reducible repeat (first | refine blk_drewN ?_ _ | refine blk_drew ?_ | refine blk_alloc ?_ _)); exact BK349.out⟩, ⟨by (with_reducible repeat (first | refine blk_drewN ?_ _ | refine blk_drew ?_ | refine blk_alloc ?_ _)); exact BK350.out⟩, ⟨by (with_reducible repeat (first | refine blk_drewN ?_ _ | refine blk_drew ?_ | refine blk_alloc ?_ _)); exact BK352.out⟩, ⟨by repeat (first | (with_reducible first | exact HB.out | apply below_alloc | apply pw_below_drewN | apply below_drew1 | refine below_set ?_ GE349.out | refine below_set ?_ GE350.out | refine below_set ?_ GE352.out) | exact HB.out)⟩⟩
          ·
           rw [if_neg c22] at H
           have c22b0 : ((t353.length : Int) == ((rd_T46 l0 x26_1).f1)) = false := beq_eq_false_iff_ne.mpr c22
           have c22b1 : ((t353.length : Int) != ((rd_T46 l0 x26_1).f1)) = true := bne_iff_ne.mpr c22
           have H' := Aside0.mk H
           clear H
           obtain ⟨Ao27, co27, eo27⟩ := Kd.R_slice HO357.out
           subst eo27
           have hnb28 := NB352_349.out
           have hnc28 := NB349_352.out
           have hnb29 := NB352_350.out
           have hnc29 := NB350_352.out
           have hcz30_0 : w20.cell? ⟨gb352, 0, none⟩ = some (.int .i64 ((rd_T46 l0 x26_1).f0)) := (blk_cell BK352.out 0).trans rfl
           have hcz30_1 : w20.cell? ⟨gb352, 1, none⟩ = some (.int .i64 ((rd_T46 l0 x26_1).f1)) := (blk_cell BK352.out 1).trans rfl
           have hcz30_2 : w20.cell? ⟨gb352, 2, none⟩ = some (.int .i64 ((rd_T46 l0 x26_1).f2)) := (blk_cell BK352.out 2).trans rfl
           have hcz30_3 : w20.cell? ⟨gb352, 3, none⟩ = some (.int .i64 ((rd_T46 l0 x26_1).f3)) := (blk_cell BK352.out 3).trans rfl
           have hcz30_4 : w20.cell? ⟨gb352, 4, none⟩ = some (.int .i64 ((rd_T46 l0 x26_1).f4)) := (blk_cell BK352.out 4).trans rfl
           have hfz30_0 := blk_frozen BK352.out 0
           have hfz30_1 := blk_frozen BK352.out 1
           have hfz30_2 := blk_frozen BK352.out 2
           have hfz30_3 := blk_frozen BK352.out 3
           have hfz30_4 := blk_frozen BK352.out 4
           go_wp2
           go_meet
           case rel => exact ⟨_, (true), (by first | rfl | (simp; done) | (simp [*]; done)), H', ⟨by have := HK1.out; first | omega | exact Nat.le_refl _⟩, ⟨by (with_reducible repeat (first | apply Kd.R_alloc | apply Kd.R_drewN | apply Kd.R_drew)); exact HO357.out⟩, ⟨by (with_reducible repeat (first | refine blk_drewN ?_ _ | refine blk_drew ?_ | refine blk_alloc ?_ _)); exact BK349.out⟩, ⟨by (with_reducible repeat (first | refine blk_drewN ?_ _ | refine blk_drew ?_ | refine blk_alloc ?_ _)); exact BK350.out⟩, ⟨by (with_reducible repeat (first | refine blk_drewN ?_ _ | refine blk_drew ?_ | refine blk_alloc ?_ _)); exact BK352.out⟩, ⟨by repeat (first | (with_reducible first | exact HB.out | apply below_alloc | apply pw_below_drewN | apply below_drew1 | refine below_set ?_ GE349.out | refine below_set ?_ GE350.out | refine below_set ?_ GE352.out) | exact HB.out)⟩⟩
         ·
          rw [if_neg c21] at H
          have c21b0 : (t355 == 0) = false := beq_eq_false_iff_ne.mpr c21
          have c21b1 : (t355 != 0) = true := bne_iff_ne.mpr c21
          (first | rw [c21b0] | (simp only [i64_w, i32_w]; rw [c21b0]) | skip)
          have H' := Aside0.mk H
          clear H
          go_wp2
          go_meet
          case rel => exact ⟨_, (true), (by first | rfl | (simp; done) | (simp [*]; done)), H', ⟨by have := HK1.out; first | omega | exact Nat.le_refl _⟩, ⟨by (with_reducible repeat (first | apply Kd.R_alloc | apply Kd.R_drewN | apply Kd.R_drew)); exact HO357.out⟩, ⟨by (with_reducible repeat (first | refine blk_drewN ?_ _ | refine blk_drew ?_ | refine blk_alloc ?_ _)); exact BK349.out⟩, ⟨by (with_reducible repeat (first | refine blk_drewN ?_ _ | refine blk_drew ?_ | refine blk_alloc ?_ _)); exact BK350.out⟩, ⟨by (with_reducible repeat (first | refine blk_drewN ?_ _ | refine blk_drew ?_ | refine blk_alloc ?_ _)); exact BK352.out⟩, ⟨by repeat (first | (with_reducible first | exact HB.out | apply below_alloc | apply pw_below_drewN | apply below_drew1 | refine below_set ?_ GE349.out | refine below_set ?_ GE350.out | refine below_set ?_ GE352.out) | exact HB.out)⟩⟩
        case rest =>
         clear HC15
         (try clear c1); (try clear c2); (try clear p2); (try clear c3); (try clear p3); (try clear q3); (try clear hx3); (try clear c4); (try clear c5); (try clear c5b0); (try clear c5b1); (try clear c11); (try clear c11b0); (try clear c12); (try clear c12b0); (try clear c13); (try clear c13b0); (try clear c15); (try clear c17); (try clear c18); (try clear c21); (try clear c21b0); (try clear c21b1); (try clear c22); (try clear c22b0); (try clear c22b1); (try clear c24); (try clear c25); (try clear c28); (try clear c29); (try clear hcz19_0); (try clear hcz19_1); (try clear hcz19_2); (try clear hcz19_3); (try clear hcz19_4); (try clear hcz26_0); (try clear hcz26_1); (try clear hcz26_2); (try clear hcz26_3); (try clear hcz26_4); (try clear hcz30_0); (try clear hcz30_1); (try clear hcz30_2); (try clear hcz30_3); (try clear hcz30_4); (try clear hcz9_0); (try clear hcz9_1); (try clear hfz19_0); (try clear hfz19_1); (try clear hfz19_2); (try clear hfz19_3); (try clear hfz19_4); (try clear hfz26_0); (try clear hfz26_1); (try clear hfz26_2); (try clear hfz26_3); (try clear hfz26_4); (try clear hfz30_0); (try clear hfz30_1); (try clear hfz30_2); (try clear hfz30_3); (try clear hfz30_4); (try clear hfz9_0); (try clear hfz9_1); (try clear hx351_0); (try clear hx351_1); (try clear hx351_2); (try clear hx351_3); (try clear hx351_4); (try clear p2); (try clear p351); (try clear q351)
         obtain ⟨kq, x52_14, rfl, HA, HJ14, HO_8, BK349, BK350, BK352, HB⟩ := hcut
         cases kq with
         | zero => exact absurd HA.out (by simp [furlonglaw07_PlaceAll.j1])
         | succ kj14 =>
          have H := HA.out
          clear HA
          simp only [furlonglaw07_PlaceAll.j1] at H
          by_cases c31 : x52_14 = true
          ·
           subst c31
           have H1 : (some false) = some r := by rw [if_pos rfl] at H; exact H
           clear H
           have H := H1
           clear H1
           obtain rfl := Option.some.inj H
           go_wp2
           go_ret
           exact ⟨by first | rfl | (simp [errW_none, errW_some] <;> rfl) | (simp [*, errW_none, errW_some] <;> rfl), by repeat (first | (with_reducible first | exact HB.out | apply below_alloc | apply pw_below_drewN | apply below_drew1 | refine below_set ?_ GE349.out | refine below_set ?_ GE350.out | refine below_set ?_ GE352.out) | exact HB.out)⟩
          ·
           replace c31 := Bool.eq_false_iff.mpr c31
           subst c31
           have H1 : (furlonglaw07_PlaceAll.l1 kj14 l0 t353 t354 l0 (l0.length : Int) x26_1 (t353.length : Int) 0 t346 t347 x351000_1 x351001_1) = some r := by rw [if_neg (show ¬ (false = true) by decide)] at H; exact H
           clear H
           have H := H1
           clear H1
           have H' := Aside0.mk H
           clear H
           obtain ⟨Ao32, co32, eo32⟩ := Kd.R_slice HO_8.out
           subst eo32
           go_wp2
           go_loopg [55] kj14 (fun kq v55 w' => ∃ (x55_3 : Int), v55 = .int .i64 x55_3 ∧ Aside0 (furlonglaw07_PlaceAll.l1 kq l0 t353 t354 l0 (l0.length : Int) x26_1 (t353.length : Int) x55_3 t346 t347 x351000_1 x351001_1 = some r) ∧ Aside0 (kq ≤ kj14) ∧ Aside0 (Kd.R (Kd.int .i64) 3 w' w.heap.size (fun _ => True) (.slice Ao32 t353.length co32) t353) ∧ Aside0 (w'.heap[gb349]? = some (.cells #[.int .i64 t346, .int .i64 t347] 25 (0, 0))) ∧ Aside0 (w'.heap[gb350]? = some (.cells #[.int .i64 x351000_1, .int .i64 x351001_1] 25 (0, 0))) ∧ Aside0 (w'.heap[gb352]? = some (.cells #[.int .i64 ((rd_T46 l0 x26_1).f0), .int .i64 ((rd_T46 l0 x26_1).f1), .int .i64 ((rd_T46 l0 x26_1).f2), .int .i64 ((rd_T46 l0 x26_1).f3), .int .i64 ((rd_T46 l0 x26_1).f4)] 46 (0, 0))) ∧ Aside0 (Below w.heap.size w w'))
           case atStart => exact ⟨(0), (by first | rfl | (simp; done) | (simp [*]; done)), H', ⟨Nat.le_refl _⟩, ⟨by (with_reducible repeat (first | apply Kd.R_alloc | apply Kd.R_drewN | apply Kd.R_drew)); exact HO_8.out⟩, ⟨by (with_reducible repeat (first | refine blk_drewN ?_ _ | refine blk_drew ?_ | refine blk_alloc ?_ _)); exact BK349.out⟩, ⟨by (with_reducible repeat (first | refine blk_drewN ?_ _ | refine blk_drew ?_ | refine blk_alloc ?_ _)); exact BK350.out⟩, ⟨by (with_reducible repeat (first | refine blk_drewN ?_ _ | refine blk_drew ?_ | refine blk_alloc ?_ _)); exact BK352.out⟩, ⟨by repeat (first | (with_reducible first | exact HB.out | apply below_alloc | apply pw_below_drewN | apply below_drew1 | refine below_set ?_ GE349.out | refine below_set ?_ GE350.out | refine below_set ?_ GE352.out) | exact HB.out)⟩⟩
           case round =>
            clear H'
            (try clear c1); (try clear c2); (try clear p2); (try clear c3); (try clear p3); (try clear q3); (try clear hx3); (try clear c4); (try clear c5); (try clear c5b0); (try clear c5b1); (try clear c11); (try clear c11b0); (try clear c12); (try clear c12b0); (try clear c13); (try clear c13b0); (try clear c15); (try clear c17); (try clear c18); (try clear c21); (try clear c21b0); (try clear c21b1); (try clear c22); (try clear c22b0); (try clear c22b1); (try clear c24); (try clear c25); (try clear c28); (try clear c29); (try clear c31); (try clear hcz19_0); (try clear hcz19_1); (try clear hcz19_2); (try clear hcz19_3); (try clear hcz19_4); (try clear hcz26_0); (try clear hcz26_1); (try clear hcz26_2); (try clear hcz26_3); (try clear hcz26_4); (try clear hcz30_0); (try clear hcz30_1); (try clear hcz30_2); (try clear hcz30_3); (try clear hcz30_4); (try clear hcz9_0); (try clear hcz9_1); (try clear hfz19_0); (try clear hfz19_1); (try clear hfz19_2); (try clear hfz19_3); (try clear hfz19_4); (try clear hfz26_0); (try clear hfz26_1); (try clear hfz26_2); (try clear hfz26_3); (try clear hfz26_4); (try clear hfz30_0); (try clear hfz30_1); (try clear hfz30_2); (try clear hfz30_3); (try clear hfz30_4); (try clear hfz9_0); (try clear hfz9_1); (try clear hx351_0); (try clear hx351_1); (try clear hx351_2); (try clear hx351_3); (try clear hx351_4); (try clear p2); (try clear p3); (try clear p351); (try clear q3); (try clear q351)
            obtain ⟨x55_3, rfl, HA, HK3, HO_8, BK349, BK350, BK352, HB⟩ := hrel
            cases gk with
            | zero => exact absurd HA.out (by simp [furlonglaw07_PlaceAll.l1])
            | succ k3 =>
             have H := HA.out
             clear HA
             simp only [furlonglaw07_PlaceAll.l1] at H
             by_cases c33 : x55_3 < (t353.length : Int)
             ·
              rw [if_pos c33] at H
              have c33b0 : decide (x55_3 < (t353.length : Int)) = true := decide_eq_true c33
              clear c33
              by_cases c34 : 0 ≤ x55_3
              ·
               rw [if_pos c34] at H
               have c34b0 : decide (0 ≤ x55_3) = true := decide_eq_true c34
               clear c34
               by_cases c35 : x55_3 < (t353.length : Int)
               ·
                rw [if_pos c35] at H
                have c35b0 : decide (x55_3 < (t353.length : Int)) = true := decide_eq_true c35
                clear c35
                by_cases c36 : (rd t353 x55_3) = x55_3
                ·
                 rw [if_pos c36] at H
                 have c36b0 : ((rd t353 x55_3) == x55_3) = true := beq_iff_eq.mpr c36
                 have c36b1 : ((rd t353 x55_3) != x55_3) = false := bne_eq_false_iff_eq.mpr c36
                 clear c36
                 have H' := Aside0.mk H
                 clear H
                 have p358 : 0 ≤ (x55_3 : Int) := of_decide_eq_true (by first | (with_reducible assumption) | assumption)
                 have q358 : x55_3 < (t353.length : Int) := of_decide_eq_true (by first | (with_reducible assumption) | assumption)
                 obtain ⟨ad358, e358, hx358_0⟩ := Kd.at_int (Kd.R_reads' HO_8.out).2.2 x55_3 p358 q358
                 cases e358
                 replace p358 := eq_true p358
                 replace q358 := eq_true q358
                 go_wp2
                 go_roundg k3
                 case measure => have := HK1.out; have := HJ14.out; have := HK3.out; omega
                 case rel => exact ⟨(wrap64 (x55_3 + 1)), (by first | rfl | (simp; done) | (simp [*]; done)), H', ⟨by have := HK1.out; have := HJ14.out; have := HK3.out; omega⟩, ⟨by (with_reducible repeat (first | apply Kd.R_alloc | apply Kd.R_drewN | apply Kd.R_drew)); exact HO_8.out⟩, ⟨by (with_reducible repeat (first | refine blk_drewN ?_ _ | refine blk_drew ?_ | refine blk_alloc ?_ _)); exact BK349.out⟩, ⟨by (with_reducible repeat (first | refine blk_drewN ?_ _ | refine blk_drew ?_ | refine blk_alloc ?_ _)); exact BK350.out⟩, ⟨by (with_reducible repeat (first | refine blk_drewN ?_ _ | refine blk_drew ?_ | refine blk_alloc ?_ _)); exact BK352.out⟩, ⟨by repeat (first | (with_reducible first | exact HB.out | apply below_alloc | apply pw_below_drewN | apply below_drew1 | refine below_set ?_ GE349.out | refine below_set ?_ GE350.out | refine below_set ?_ GE352.out) | exact HB.out)⟩⟩
                ·
                 rw [if_neg c36] at H
                 have c36b0 : ((rd t353 x55_3) == x55_3) = false := beq_eq_false_iff_ne.mpr c36
                 have c36b1 : ((rd t353 x55_3) != x55_3) = true := bne_iff_ne.mpr c36
                 obtain rfl := Option.some.inj H
                 have p358 : 0 ≤ (x55_3 : Int) := of_decide_eq_true (by first | (with_reducible assumption) | assumption)
                 have q358 : x55_3 < (t353.length : Int) := of_decide_eq_true (by first | (with_reducible assumption) | assumption)
                 obtain ⟨ad358, e358, hx358_0⟩ := Kd.at_int (Kd.R_reads' HO_8.out).2.2 x55_3 p358 q358
                 cases e358
                 replace p358 := eq_true p358
                 replace q358 := eq_true q358
                 go_wp2
                 go_ret
                 exact ⟨by first | rfl | (simp [errW_none, errW_some] <;> rfl) | (simp [*, errW_none, errW_some] <;> rfl), by repeat (first | (with_reducible first | exact HB.out | apply below_alloc | apply pw_below_drewN | apply below_drew1 | refine below_set ?_ GE349.out | refine below_set ?_ GE350.out | refine below_set ?_ GE352.out) | exact HB.out)⟩
               ·
                rw [if_neg c35] at H
                exact absurd H (by simp)
              ·
               rw [if_neg c34] at H
               exact absurd H (by simp)
             ·
              rw [if_neg c33] at H
              have c33b0 : decide (x55_3 < (t353.length : Int)) = false := decide_eq_false c33
              clear c33
              have H' := Aside0.mk H
              clear H
              have hnb37 := NB350_349.out
              have hnc37 := NB349_350.out
              have hnb38 := NB350_352.out
              have hnc38 := NB352_350.out
              have hcz39_0 : wr.cell? ⟨gb350, 0, none⟩ = some (.int .i64 x351000_1) := (blk_cell BK350.out 0).trans rfl
              have hcz39_1 : wr.cell? ⟨gb350, 1, none⟩ = some (.int .i64 x351001_1) := (blk_cell BK350.out 1).trans rfl
              have hfz39_0 := blk_frozen BK350.out 0
              have hfz39_1 := blk_frozen BK350.out 1
              go_wp2
              go_roundg k3
              case measure => have := HK1.out; have := HJ14.out; have := HK3.out; omega
              case rel => exact ⟨(wrap64 (x26_1 + 1)), (wrap64 (x351000_1 + (t353.length : Int))), (wrap64 (x351001_1 + t354)), (by first | rfl | (simp; done) | (simp [*]; done)), H', ⟨by have := HK1.out; have := HJ14.out; have := HK3.out; omega⟩, ⟨by (with_reducible repeat (first | refine blk_drewN ?_ _ | refine blk_drew ?_ | refine blk_alloc ?_ _)); refine blk_far ?_ NB349_350.out _; (with_reducible repeat (first | refine blk_drewN ?_ _ | refine blk_drew ?_ | refine blk_alloc ?_ _)); refine blk_far ?_ NB349_350.out _; (with_reducible repeat (first | refine blk_drewN ?_ _ | refine blk_drew ?_ | refine blk_alloc ?_ _)); exact BK349.out⟩, ⟨by (with_reducible repeat (first | refine blk_drewN ?_ _ | refine blk_drew ?_ | refine blk_alloc ?_ _)); refine blk_put (cs := #[.int .i64 (wrap64 (x351000_1 + (t353.length : Int))), .int .i64 x351001_1]) ?_ 1 _ rfl; (with_reducible repeat (first | refine blk_drewN ?_ _ | refine blk_drew ?_ | refine blk_alloc ?_ _)); refine blk_put (cs := #[.int .i64 x351000_1, .int .i64 x351001_1]) ?_ 0 _ rfl; (with_reducible repeat (first | refine blk_drewN ?_ _ | refine blk_drew ?_ | refine blk_alloc ?_ _)); exact BK350.out⟩, ⟨by repeat (first | (with_reducible first | exact HB.out | apply below_alloc | apply pw_below_drewN | apply below_drew1 | refine below_set ?_ GE349.out | refine below_set ?_ GE350.out | refine below_set ?_ GE352.out) | exact HB.out)⟩⟩
       ·
        rw [if_neg c13] at H
        exact absurd H (by simp)
      ·
       rw [if_neg c12] at H
       exact absurd H (by simp)
     ·
      rw [if_neg c11] at H
      have c11b0 : decide (x26_1 < (l0.length : Int)) = false := decide_eq_false c11
      clear c11
      obtain rfl := Option.some.inj H
      have hnb40 := NB350_349.out
      have hnc40 := NB349_350.out
      have hcz41_0 : wr.cell? ⟨gb350, 0, none⟩ = some (.int .i64 x351000_1) := (blk_cell BK350.out 0).trans rfl
      have hcz41_1 : wr.cell? ⟨gb350, 1, none⟩ = some (.int .i64 x351001_1) := (blk_cell BK350.out 1).trans rfl
      have hfz41_0 := blk_frozen BK350.out 0
      have hfz41_1 := blk_frozen BK350.out 1
      have hcz42_0 : wr.cell? ⟨gb349, 0, none⟩ = some (.int .i64 t346) := (blk_cell BK349.out 0).trans rfl
      have hcz42_1 : wr.cell? ⟨gb349, 1, none⟩ = some (.int .i64 t347) := (blk_cell BK349.out 1).trans rfl
      have hfz42_0 := blk_frozen BK349.out 0
      have hfz42_1 := blk_frozen BK349.out 1
      go_wp2
      go_ret
      exact ⟨by first | rfl | (simp [errW_none, errW_some] <;> rfl) | (simp [*, errW_none, errW_some] <;> rfl), by repeat (first | (with_reducible first | exact HB.out | apply below_alloc | apply pw_below_drewN | apply below_drew1 | refine below_set ?_ GE349.out | refine below_set ?_ GE350.out) | exact HB.out)⟩
  ·
   rw [if_neg c5] at H
   have c5b0 : (t348 == 0) = false := beq_eq_false_iff_ne.mpr c5
   have c5b1 : (t348 != 0) = true := bne_iff_ne.mpr c5
   obtain rfl := Option.some.inj H
   go_enter Try.func15, Try.ntmps15
   go_wp2_with (first | ((with_reducible refine gate_callee (f := 31) rfl ?_); refine goesL_ (some 12) rfl rfl Try.func31 (by kernel_rfl) rfl #[] rfl (by (try simp only [List.map_toArray, List.map_cons, List.map_nil]); first | done | rfl | (simp only [List.length_drop, List.length_take]; rfl)) ?_; (with_reducible refine (furlonglaw07_awake.calls k  true _ A2.out).mono ?_); rintro e w43 ⟨rfl, hb⟩; refine ⟨_, rfl, ?_⟩; have n0_ := Aside0.mk (below_step (by repeat (first | (with_reducible first | exact HB.out | apply below_alloc | apply pw_below_drewN | apply below_drew1) | exact HB.out)) hb); clear HB; have HB := n0_; clear n0_; (try clear hb); (try clear hb2); (try clear hk); (try clear hi)) | ((with_reducible refine gate_callee (f := 53) rfl ?_); refine goesL_ (some 16) rfl rfl Try.func53 (by kernel_rfl) rfl #[.slice A0 l0.length c0] rfl (by (try simp only [List.map_toArray, List.map_cons, List.map_nil]); first | done | rfl | (simp only [List.length_drop, List.length_take]; rfl)) ?_; (with_reducible refine (place_Total.calls _ _ l0 t346 t347 t348 _ ?side1 ?side2 A4.out).mono ?_); (case side1 => repeat (first | exact (Kd.C_below HR0.out HB.out) | (with_reducible refine Kd.C_alloc ?_ _) | (with_reducible refine Kd.C_drewN ?_ _) | (with_reducible refine Kd.C_drew ?_))); (case side2 => exact HC0.out); rintro e w44 ⟨rfl, hb⟩; refine ⟨_, rfl, ?_⟩; have n0_ := Aside0.mk (below_step (by repeat (first | (with_reducible first | exact HB.out | apply below_alloc | apply pw_below_drewN | apply below_drew1) | exact HB.out)) hb); clear HB; have HB := n0_; clear n0_; (try clear hb); (try clear hb2); (try clear hk); (try clear hi)) | ((with_reducible refine gate_dst (N := 3) rfl ?_); (try (refine gate_guard (by rfl) ?_; dsimp only)); refine box_event ?hg (N := 3) ?hd (cs := #[.int .i64 0, .int .i64 0]) (t := 25) ?hr ?_; (case hd => rfl); (case hg => rfl); (case hr => first | (go_simp; done) | (go_simp; rfl)); intro gb349 hg w45 hbox hb; have n0_ := Aside0.mk (below_step (by repeat (first | (with_reducible first | exact HB.out | apply below_alloc | apply pw_below_drewN | apply below_drew1) | exact HB.out)) hb); have n1_ := Aside0.mk (hbox); have n2_ := Aside0.mk ((by rw [hg]; exact (below_size (by repeat (first | (with_reducible first | exact HB.out | apply below_alloc | apply pw_below_drewN | apply below_drew1) | exact HB.out))) : w.heap.size ≤ gb349)); have n3_ := Aside0.mk ((by rw [hg]; exact (below_size (by repeat (first | (with_reducible first | exact HB.out | apply below_alloc | apply pw_below_drewN | apply below_drew1) | exact HB.out))) : w.heap.size ≤ gb349)); clear HB; have HB := n0_; have BK349 := n1_; have GW349 := n2_; have GE349 := n3_; clear n0_ n1_ n2_ n3_; clear hb hbox hg; have hcz46_0 : w45.cell? ⟨gb349, 0, none⟩ = some (.int .i64 0) := (blk_cell BK349.out 0).trans rfl; have hcz46_1 : w45.cell? ⟨gb349, 1, none⟩ = some (.int .i64 0) := (blk_cell BK349.out 1).trans rfl; have hfz46_0 := blk_frozen BK349.out 0; have hfz46_1 := blk_frozen BK349.out 1))
   go_ret
   exact ⟨by first | rfl | (simp [errW_none, errW_some] <;> rfl) | (simp [*, errW_none, errW_some] <;> rfl), by repeat (first | (with_reducible first | exact HB.out | apply below_alloc | apply pw_below_drewN | apply below_drew1 | refine below_set ?_ GE349.out) | exact HB.out)⟩
 ·
  replace c3 := Bool.eq_false_iff.mpr c3
  subst c3
  have H1 : (some false) = some r := by rw [if_neg (show ¬ (false = true) by decide)] at H; exact H
  clear H
  have H := H1
  clear H1
  obtain rfl := Option.some.inj H
  go_enter Try.func15, Try.ntmps15
  go_wp2_with (first | ((with_reducible refine gate_callee (f := 31) rfl ?_); refine goesL_ (some 12) rfl rfl Try.func31 (by kernel_rfl) rfl #[] rfl (by (try simp only [List.map_toArray, List.map_cons, List.map_nil]); first | done | rfl | (simp only [List.length_drop, List.length_take]; rfl)) ?_; (with_reducible refine (furlonglaw07_awake.calls k  false _ A2.out).mono ?_); rintro e w47 ⟨rfl, hb⟩; refine ⟨_, rfl, ?_⟩; have n0_ := Aside0.mk (below_step (by repeat (first | (with_reducible first | exact HB.out | apply below_alloc | apply pw_below_drewN | apply below_drew1) | exact HB.out)) hb); clear HB; have HB := n0_; clear n0_; (try clear hb); (try clear hb2); (try clear hk); (try clear hi)))
  go_ret
  exact ⟨by first | rfl | (simp [errW_none, errW_some] <;> rfl) | (simp [*, errW_none, errW_some] <;> rfl), by repeat (first | (with_reducible first | exact HB.out | apply below_alloc | apply pw_below_drewN | apply below_drew1) | exact HB.out)⟩

end Go.Proofs.Ytkbcjagkacijnaa.PPl
end
section
namespace Go.Proofs.Ytkbcjagkacijnaa.PPl
open Go.RowKit Go.Proofs.YtkbcjagkacijnaaW.PrintWords Go.Proofs.YtkbcjagkacijnaaW.PrintLast
set_option linter.unusedVariables false
set_option linter.unusedSimpArgs false
theorem chk_nil {nodes : List S46} (h : chk nodes [] = 0) : nodes.length ≤ 64 ∧ ∀ n ∈ nodes, 0 ≤ n.f0 ∧ 1 ≤ n.f1 ∧ n.f1 ≤ 64 ∧ 0 ≤ n.f2 ∧ n.f2 ≤ 1099511627776 := ⟨(chk_ok h).1, (nds_all (chk_ok h).2.1).2⟩
theorem wfL_nodes {l0 : List S46} {l1 : List S50} (h : wfL l0 l1) : l0.all (fun n => wfI n.f0) = true := by
  unfold wfL at h
  rw [Bool.and_eq_true] at h
  exact h.1
section
variable (nodes : List S46)
theorem all_l1 {R : Option Bool} (cs : List Int) (hcs : cs.length ≤ 64) (hat : ∀ i, (h : i < cs.length) → cs[i] = (i : Int)) {x9 x25 x26 a b c d : Int}
    (hnext : Ev (fun k => furlonglaw07_PlaceAll.l0 k nodes nodes x25 (wrap64 (x26 + 1)) a b (wrap64 (c + (cs.length : Int))) (wrap64 (d + x9))) true) :
    ∀ (m i : Nat), i + m = cs.length → Ev (fun k => furlonglaw07_PlaceAll.l1 k nodes cs x9 nodes x25 x26 (cs.length : Int) (i : Int) a b c d) true := by
  intro m
  induction m with
  | zero =>
    intro i hi
    refine Ev.step (fun k => ?_) hnext
    simp only [furlonglaw07_PlaceAll.l1]
    rw [if_neg (by omega)]
  | succ m ih =>
    intro i hi
    have hlt : i < cs.length := by omega
    refine Ev.step (fun k => ?_) (ih (i + 1) (by omega))
    simp only [furlonglaw07_PlaceAll.l1]
    rw [if_pos (by omega), if_pos (by omega), if_pos (by omega), rdI_get hlt, if_pos (hat i hlt), w_succ (by omega)]
end
section
variable (nodes : List S46)
theorem all_l0 (hw : wfL nodes []) (h : chk nodes [] = 0) : ∀ (m i : Nat), i + m = nodes.length →
    Ev (fun k => furlonglaw07_PlaceAll.l0 k nodes nodes (nodes.length : Int) (i : Int) (sumC nodes) (sumM nodes) (sumC (nodes.take i)) (sumM (nodes.take i))) true := by
  obtain ⟨h64, hb⟩ := chk_nil h
  intro m
  induction m with
  | zero =>
    intro i hi
    rw [List.take_of_length_le (by omega)]
    refine Ev.step (h := fun _ => some true) (fun k => ?_) (Ev.of fun _ => rfl)
    simp only [furlonglaw07_PlaceAll.l0]
    rw [if_neg (by omega)]
    simp
  | succ m ih =>
    intro i hi
    have hlt : i < nodes.length := by omega
    have hmem := List.getElem_mem hlt
    have hF := freeD_self h hmem
    have next := ih (i + 1) (by omega)
    obtain ⟨b1, b2, b3, b4⟩ := sum_bound hb i (by omega)
    obtain ⟨a1, a2, a3, a4⟩ := sum_bound hb (i + 1) (by omega)
    rw [sumC_snoc hlt, rd46_get hlt] at next a1 a2
    rw [sumM_snoc hlt, rd46_get hlt] at next a3 a4
    have hbn := hb _ hmem
    generalize hn : nodes[i] = n at hmem hF next hbn a1 a2 a3 a4
    have hlen : ((freeCores [] n).length : Int) = n.f1 := by
      rw [freeCores_all]
      simp
      omega
    have hmm : memOf n.f0 [] = 0 := rfl
    rw [hmm, Int.sub_zero] at hF
    refine Ev.step (h := fun k => furlonglaw07_PlaceAll.j1 k nodes (freeCores [] n) n.f2 nodes (nodes.length : Int) (i : Int) false (sumC nodes) (sumM nodes) (sumC (nodes.take i)) (sumM (nodes.take i))) (fun k => ?_)
      (Ev.step (h := fun k => furlonglaw07_PlaceAll.l1 k nodes (freeCores [] n) n.f2 nodes (nodes.length : Int) (i : Int) ((freeCores [] n).length : Int) ((0 : Nat) : Int) (sumC nodes) (sumM nodes) (sumC (nodes.take i)) (sumM (nodes.take i))) (fun k => ?_) ?_)
    · simp only [furlonglaw07_PlaceAll.l0]
      rw [if_pos (by omega), if_pos (by omega), if_pos (by omega), rd46_get hlt, hn, free_law nodes [] _ hw, hF]
      simp only [Option.bind_some, ↓reduceIte]
      rw [if_pos hlen, show (n.f2 != n.f2) = false by simp]
    · simp only [furlonglaw07_PlaceAll.j1, Bool.false_eq_true, ↓reduceIte]
      rfl
    · refine all_l1 nodes (R := none) (freeCores [] n) (by omega) (fun j hj => ?_) ?_ _ 0 (Nat.zero_add _)
      · have : (freeCores [] n) = (List.range n.f1.toNat).map (fun (c : Nat) => (c : Int)) := freeCores_all n
        simp only [this]
        simp
      · rw [w_succ (by omega), hlen, w64_id (by omega), w64_id (by omega)]
        exact next
end
/-- P7.1: All. -/
theorem all_ev (nodes : List S46) (hw : wfL nodes []) (hN : nodes.length < 1048577) : Ev (fun k => furlonglaw07_PlaceAll.f k nodes) true := by
  unfold furlonglaw07_PlaceAll.f
  refine Ev.bind awake_ev ?_
  simp only [if_true]
  rw [show place_Total.f nodes = some (totalV nodes) from if_pos (wfL_nodes hw)]
  simp only [Option.bind_some]
  have e0 : (roomsF nodes []).1 = chk nodes [] := by rw [roomsF_eq]
  unfold totalV
  rw [e0]
  by_cases h : chk nodes [] = 0
  · rw [if_neg (by omega)]
    cases hg : goodV (sumC nodes) (sumM nodes)
    · simp only [Bool.false_eq_true, ↓reduceIte]
      exact Ev.of fun _ => rfl
    · simp only [↓reduceIte]
      have := all_l0 nodes hw h nodes.length 0 (by omega)
      simpa [sumC, sumM] using this
  · rw [if_pos h]
    simp only [if_neg h]
    exact Ev.of fun _ => rfl
end Go.Proofs.Ytkbcjagkacijnaa.PPl
end
section
namespace Go.Proofs.Ytkbcjagkacijnaa.Open
set_option linter.unusedVariables false
set_option linter.unusedSimpArgs false
open Go.RowKit Go.Proofs.YtkbcjagkacijnaaW.PrintWords

/-- Values of type T read as what k says; good: what is known of them; bulk: no more than the data's. -/
def Opens {α : Type} (P : Program) (T : TypeId) (k : Kd α) (good : α → Prop) (bulk : α → Nat) : Prop :=
  ∀ (H : Type) (enc : TypeId × Value → H) (W : World) (fuel : Nat) (cs : List Value) (x : DataW H × List MemPlace),
    DataW.trod enc P W 0 (fun _ => true) true fuel T cs = some x → ∃ a : α, k.K W a cs ∧ good a ∧ bulk a ≤ Rows.uptoBulk x.1

theorem Opens.int {P : Program} {T : TypeId} {q : IntKind} (h : P.underlying T = some (.int q)) : Opens P T (Kd.int q) (fun n => (Lit.int q n).wf = true) (fun _ => 1) := by
  intro H enc W fuel cs x hx
  obtain ⟨n, rfl, rfl, hw⟩ := DataW.trod_int h hx
  exact ⟨n, rfl, hw, by simp [Rows.uptoBulk]⟩
theorem Opens.bool {P : Program} {T : TypeId} (h : P.underlying T = some .bool) : Opens P T Kd.bool (fun _ => True) (fun _ => 1) := by
  intro H enc W fuel cs x hx
  obtain ⟨n, rfl, rfl⟩ := DataW.trod_bool h hx
  exact ⟨n, rfl, trivial, by simp [Rows.uptoBulk]⟩

theorem list_of {α : Type} (n : Nat) : ∀ (R : Nat → α → Prop), (∀ i, i < n → ∃ a, R i a) → ∃ l : List α, l.length = n ∧ ∀ i a, l[i]? = some a → R i a := by
  induction n with
  | zero => intro R _; exact ⟨[], rfl, fun i a h => by simp at h⟩
  | succ n ih =>
    intro R h
    obtain ⟨a, ha⟩ := h 0 (by omega)
    obtain ⟨l, hl, hr⟩ := ih (fun i a => R (i + 1) a) (fun i hi => h (i + 1) (by omega))
    refine ⟨a :: l, by simp [hl], fun i b hb => ?_⟩
    cases i with
    | zero => simp at hb; subst hb; exact ha
    | succ i => exact hr i b (by simpa using hb)

theorem cells_get {w : World} {base : Nat} {a : Addr} {n : Nat} {cs : List Value} (h : w.cells? base a n = some cs) (j : Nat) (u : Value) (hu : cs[j]? = some u) : w.cell? (a.add j) = some u := by
  unfold World.cells? at h
  split at h
  · have hl := mapM_some_length h
    have hj : j < n := by
      have := (List.getElem?_eq_some_iff.1 hu).1
      simp at hl; omega
    have := mapM_some_get h j j (by simp [hj])
    rw [this, hu]
  · cases h

theorem add_add (a : Addr) (m j : Nat) : (a.add m).add j = a.add (m + j) := by
  unfold Addr.add
  by_cases h1 : m = 0 <;> by_cases h2 : j = 0 <;> simp [h1, h2, Nat.add_assoc]
theorem bulk_sum {α H : Type} (bulk : α → Nat) : ∀ (l : List α) (ds : List (DataW H)), l.length = ds.length → (∀ (i : Nat) (a : α) (d : DataW H), l[i]? = some a → ds[i]? = some d → bulk a ≤ Rows.uptoBulk d) → (l.map bulk).sum ≤ Rows.uptoBulkAll ds
  | [], [], _, _ => by simp
  | a :: l, d :: ds, hl, h => by
    have h0 := h 0 a d rfl rfl
    have h1 := bulk_sum bulk l ds (by simpa using hl) (fun i b e hb he => h (i + 1) b e (by simpa using hb) (by simpa using he))
    simp only [List.map_cons, List.sum_cons, Rows.uptoBulkAll]
    omega
  | [], _ :: _, hl, _ => by simp at hl
  | _ :: _, [], hl, _ => by simp at hl

theorem Opens.slice {α : Type} {P : Program} {T e : TypeId} {k : Kd α} {good : α → Prop} {bulk : α → Nat} (ht : P.underlying T = some (.slice e)) (hz : P.cellsOf e = k.sz) (h : Opens P e k good bulk) :
    Opens P T (Kd.slice e k) (fun l => l.length ≤ maxLen ∧ ∀ a ∈ l, good a) (fun l => (l.map bulk).sum + 1) := by
  intro H enc W fuel cs x hx
  rcases DataW.trod_slice ht hx with ⟨rfl, rfl⟩ | ⟨a, len, cap, elems, rest, n, _, rfl, rfl, _, hl, hm, hlen, hel, _, _⟩
  · exact ⟨[], ⟨none, 0, rfl, Nat.le_refl _, Kd.C_nil k W⟩, ⟨Nat.zero_le _, fun a h => by cases h⟩, by simp [Rows.uptoBulk]⟩
  · have hone : ∀ i, i < len → ∃ v : α, ∃ c, (∃ y, elems[i]? = some y ∧ bulk v ≤ Rows.uptoBulk y.1) ∧ k.K W v c ∧ good v ∧ ∀ j u, c[j]? = some u → W.cell? (a.add (i * k.sz + j)) = some u := by
      intro i hi
      have he := hel i hi
      have hy : elems[i]? = some (elems[i]'(by omega)) := List.getElem?_eq_getElem (by omega)
      rw [hy, Option.bind_eq_some_iff] at he
      obtain ⟨c, hc, ht'⟩ := he
      obtain ⟨v, hv, hg, hb⟩ := h H enc W n c _ ht'
      refine ⟨v, c, ⟨_, hy, hb⟩, hv, hg, fun j u hu => ?_⟩
      have := cells_get hc j u hu
      rw [hz] at this
      rw [← add_add]
      exact this
    obtain ⟨l, hll, hr⟩ := list_of len _ hone
    have hmem : ∀ v ∈ l, good v := by
      intro v hv
      obtain ⟨i, hi⟩ := List.getElem?_of_mem hv
      obtain ⟨c, _, _, hg, _⟩ := hr i v hi
      exact hg
    refine ⟨l, ⟨some a, cap, by rw [hll], by omega, by omega, ?_, fun hpos => ⟨a, rfl, fun j p hp => ?_⟩⟩, ⟨by omega, hmem⟩, ?_⟩
    · unfold maxLen at hm; omega
    · obtain ⟨c, _, hk, _, hc⟩ := hr j p hp
      exact ⟨c, k.K_len hk, hk, hc⟩
    · have hs := bulk_sum (H := H) bulk l (elems.map (·.1)) (by simp [hll, hlen]) (fun i b d hb hd => by
        obtain ⟨c, ⟨y, hy, hby⟩, _⟩ := hr i b hb
        rw [List.getElem?_map, hy] at hd
        simp at hd
        subst hd
        exact hby)
      simp only [Rows.uptoBulk]
      omega

/-- Fields, one behind the other. -/
def OpensFs {α : Type} (P : Program) (ts : List TypeId) (k : Kd α) (good : α → Prop) (bulk : α → Nat) : Prop :=
  ∀ (H : Type) (enc : TypeId × Value → H) (W : World) (n : Nat) (cs : List Value) (xs : List (DataW H × List MemPlace)), cs.length = (ts.map P.cellsOf).sum → xs.length = ts.length →
    (∀ i t, ts[i]? = some t → DataW.trod enc P W 0 (fun _ => true) true n t ((cs.drop ((ts.take i).map P.cellsOf).sum).take (P.cellsOf t)) = xs[i]?) →
    ∃ a : α, k.K W a cs ∧ good a ∧ bulk a ≤ Rows.uptoBulkAll (xs.map (·.1))

theorem OpensFs.one {α : Type} {P : Program} {t : TypeId} {k : Kd α} {good : α → Prop} {bulk : α → Nat} (h : Opens P t k good bulk) : OpensFs P [t] k good bulk := by
  intro H enc W n cs xs hl hx hf
  match xs, hx with
  | [x], _ =>
    have h0 := hf 0 t rfl
    simp at h0 hl
    rw [List.take_of_length_le (by omega)] at h0
    obtain ⟨a, h1, h2, h3⟩ := h H enc W n cs x h0
    exact ⟨a, h1, h2, by simpa [Rows.uptoBulkAll] using h3⟩

theorem OpensFs.cons {α β : Type} {P : Program} {t : TypeId} {ts : List TypeId} {k : Kd α} {ks : Kd β} {g : α → Prop} {gs : β → Prop} {b : α → Nat} {bs : β → Nat} (h : Opens P t k g b) (hs : OpensFs P ts ks gs bs) :
    OpensFs P (t :: ts) (Kd.pair k ks) (fun x => g x.1 ∧ gs x.2) (fun x => b x.1 + bs x.2) := by
  intro H enc W n cs xs hl hx hf
  match xs, hx with
  | x :: xs, hx =>
    have h0 := hf 0 t rfl
    simp at h0 hl
    obtain ⟨a, h1, h2, h3⟩ := h H enc W n _ x h0
    obtain ⟨c, g1, g2, g3⟩ := hs H enc W n (cs.drop (P.cellsOf t)) xs (by rw [List.length_drop]; omega) (by simpa using hx) (fun i t' ht' => by
      have := hf (i + 1) t' (by simpa using ht')
      simp only [List.take_succ_cons, List.map_cons, List.sum_cons, List.getElem?_cons_succ] at this
      rw [List.drop_drop]
      exact this)
    exact ⟨(a, c), ⟨_, _, (List.take_append_drop (P.cellsOf t) cs).symm, h1, g1⟩, ⟨h2, g2⟩, by simp only [List.map_cons, Rows.uptoBulkAll]; omega⟩

theorem Opens.struct {α : Type} {P : Program} {T : TypeId} {fs : Array Field} {ts : List TypeId} {k : Kd α} {good : α → Prop} {bulk : α → Nat} (ht : P.underlying T = some (.struct fs))
    (hts : fs.toList.map (·.type) = ts) (hoff : fs.toList.map (·.offset) = (List.range ts.length).map fun i => ((ts.take i).map P.cellsOf).sum) (hsz : P.cellsOf T = (ts.map P.cellsOf).sum) (h : OpensFs P ts k good bulk) :
    Opens P T k good (fun a => bulk a + 1) := by
  intro H enc W fuel cs x hx
  obtain ⟨xs, n, _, rfl, hl, hlen, hf⟩ := DataW.trod_struct ht hx
  have hn : ts.length = fs.size := by rw [← hts]; simp
  obtain ⟨a, h1, h2, h3⟩ := h H enc W n cs xs (by rw [hl, hsz]) (by rw [hlen, hn]) (fun i t hi => by
    have hlt : i < fs.size := by have := (List.getElem?_eq_some_iff.1 hi).1; omega
    have hfi : fs[i]? = some fs[i] := Array.getElem?_eq_getElem hlt
    have e1 : fs[i].type = t := by
      have := congrArg (fun l => l[i]?) hts
      simp [hi, hlt] at this
      exact this
    have e2 : fs[i].offset = ((ts.take i).map P.cellsOf).sum := by
      have := congrArg (fun l => l[i]?) hoff
      simp [hlt, hn] at this
      rw [List.map_take]
      exact this
    have := hf i _ hfi
    rw [e1, e2] at this
    exact this)
  exact ⟨a, h1, h2, by simp only [Rows.uptoBulk]; omega⟩

theorem Opens.iso {α β : Type} {P : Program} {T : TypeId} {k : Kd α} {good : α → Prop} {bulk : α → Nat} (f : β → α) (g : α → β) (hfg : ∀ a, f (g a) = a) (h : Opens P T k good bulk) :
    Opens P T (Kd.iso k f) (fun b => good (f b)) (fun b => bulk (f b)) := by
  intro H enc W fuel cs x hx
  obtain ⟨a, h1, h2, h3⟩ := h H enc W fuel cs x hx
  exact ⟨g a, by show k.K W (f (g a)) cs; rw [hfg]; exact h1, by show good (f (g a)); rw [hfg]; exact h2, by show bulk (f (g a)) ≤ _; rw [hfg]; exact h3⟩
end Go.Proofs.Ytkbcjagkacijnaa.Open
end
section
namespace Go.Proofs.Ytkbcjagkacijnaa.Open
open Go.RowKit Go.Proofs.YtkbcjagkacijnaaW.PrintWords Go.Proofs.Ytkbcjagkacijnaa.PPl
set_option linter.unusedVariables false
theorem Opens.less {α : Type} {P : Program} {T : TypeId} {k : Kd α} {good : α → Prop} {b b' : α → Nat} (h : Opens P T k good b) (hb : ∀ a, b' a ≤ b a) : Opens P T k good b' := by
  intro H enc W fuel cs x hx
  obtain ⟨a, h1, h2, h3⟩ := h H enc W fuel cs x hx
  exact ⟨a, h1, h2, Nat.le_trans (hb a) h3⟩
theorem ones : ∀ (l : List Int), (l.map fun _ => (1 : Nat)).sum = l.length
  | [] => rfl
  | a :: l => by rw [List.map_cons, List.sum_cons, ones l, List.length_cons]; omega
def wf64' (z : Int) : Prop := (Lit.int .i64 z).wf = true
def okN (x : S46) : Prop := wf64' x.f0 ∧ wf64' x.f1 ∧ wf64' x.f2 ∧ wf64' x.f3 ∧ wf64' x.f4
def okL (x : S50) : Prop := wf64' x.f0 ∧ wf64' x.f1 ∧ wf64' x.f2 ∧ (x.f3.length ≤ maxLen ∧ ∀ a ∈ x.f3, (Lit.int .i64 a).wf = true) ∧ wf64' x.f4 ∧ wf64' x.f5 ∧ wf64' x.f6 ∧ True
def bulkN (l : List S46) : Nat := l.length
def bulkL (l : List S50) : Nat := l.length + (l.map fun x => x.f3.length).sum
set_option maxRecDepth 100000 in
theorem node : Opens Try.prog 46 k46 okN (fun _ => 1 + (1 + (1 + (1 + 1))) + 1) :=
  Opens.iso (fun x : S46 => (x.f0, x.f1, x.f2, x.f3, x.f4)) (fun y => ⟨y.1, y.2.1, y.2.2.1, y.2.2.2.1, y.2.2.2.2⟩) (fun _ => rfl)
    (Opens.struct (ts := [3, 3, 2, 3, 3]) Try.underlying46 (by kernel_rfl) (by kernel_rfl) (by kernel_rfl)
      (OpensFs.cons (Opens.int Try.underlying3) (OpensFs.cons (Opens.int Try.underlying3) (OpensFs.cons (Opens.int Try.underlying2) (OpensFs.cons (Opens.int Try.underlying3) (OpensFs.one (Opens.int Try.underlying3)))))))
set_option maxRecDepth 100000 in
theorem cores : Opens Try.prog 28 (Kd.slice 3 (Kd.int .i64)) (fun l => l.length ≤ maxLen ∧ ∀ a ∈ l, (Lit.int .i64 a).wf = true) (fun l => (l.map fun _ => 1).sum + 1) :=
  Opens.slice Try.underlying28 (by kernel_rfl) (Opens.int Try.underlying3)
set_option maxRecDepth 100000 in
theorem lease : Opens Try.prog 50 k50 okL (fun x => 1 + (1 + (1 + (((x.f3.map fun _ => 1).sum + 1) + (1 + (1 + (1 + 1)))))) + 1) :=
  Opens.iso (fun x : S50 => (x.f0, x.f1, x.f2, x.f3, x.f4, x.f5, x.f6, x.f7)) (fun y => ⟨y.1, y.2.1, y.2.2.1, y.2.2.2.1, y.2.2.2.2.1, y.2.2.2.2.2.1, y.2.2.2.2.2.2.1, y.2.2.2.2.2.2.2⟩) (fun _ => rfl)
    (Opens.struct (ts := [3, 3, 3, 28, 2, 2, 2, 4]) Try.underlying50 (by kernel_rfl) (by kernel_rfl) (by kernel_rfl)
      (OpensFs.cons (Opens.int Try.underlying3) (OpensFs.cons (Opens.int Try.underlying3) (OpensFs.cons (Opens.int Try.underlying3) (OpensFs.cons cores (OpensFs.cons (Opens.int Try.underlying2) (OpensFs.cons (Opens.int Try.underlying2) (OpensFs.cons (Opens.int Try.underlying2) (OpensFs.one (Opens.bool Try.underlying4))))))))))
set_option maxRecDepth 100000 in
theorem nodes : Opens Try.prog 22 (Kd.slice 46 k46) (fun l => l.length ≤ maxLen ∧ ∀ a ∈ l, okN a) bulkN :=
  Opens.less (Opens.slice Try.underlying22 (by kernel_rfl) node) fun l => by
    show l.length ≤ (l.map fun _ => 1 + (1 + (1 + (1 + 1))) + 1).sum + 1
    induction l with
    | nil => simp
    | cons a l ih => simp only [List.map_cons, List.sum_cons, List.length_cons] at ih ⊢; omega
set_option maxRecDepth 100000 in
theorem leases : Opens Try.prog 23 (Kd.slice 50 k50) (fun l => l.length ≤ maxLen ∧ ∀ a ∈ l, okL a) bulkL :=
  Opens.less (Opens.slice Try.underlying23 (by kernel_rfl) lease) fun l => by
    show l.length + (l.map fun x => x.f3.length).sum ≤ (l.map fun x => 1 + (1 + (1 + (((x.f3.map fun _ => 1).sum + 1) + (1 + (1 + (1 + 1)))))) + 1).sum + 1
    induction l with
    | nil => simp
    | cons a l ih =>
      have := ones a.f3
      simp only [List.map_cons, List.sum_cons, List.length_cons] at ih ⊢
      omega
end Go.Proofs.Ytkbcjagkacijnaa.Open
end
section
namespace Go.Proofs.Ytkbcjagkacijnaa.Walk
set_option linter.unusedVariables false
open Go.RowKit Go.Proofs.YtkbcjagkacijnaaW.PrintWords Go.Proofs.Ytkbcjagkacijnaa.PPl
theorem wfL_of {l0 : List S46} {l1 : List S50} (g0 : ∀ a ∈ l0, Open.okN a) (g1 : ∀ a ∈ l1, Open.okL a) : wfL l0 l1 := by
  unfold wfL
  rw [Bool.and_eq_true, List.all_eq_true, List.all_eq_true]
  exact ⟨fun a h => (g0 a h).1, fun a h => (g1 a h).2.2.1⟩
end Go.Proofs.Ytkbcjagkacijnaa.Walk
end
section
namespace Go.Proofs.Ytkbcjagkacijnaa.Walk
set_option linter.unusedVariables false
open Go.RowKit Go.Proofs.YtkbcjagkacijnaaW.PrintWords Go.Proofs.Ytkbcjagkacijnaa.PPl
theorem PlaceAll (W : World) (A0 : Option Addr) (c0 : Nat) (l0 : List S46) (hc0 : l0.length ≤ c0) (hr0 : k46.C W A0 l0.length l0) (g0 : l0.length ≤ maxLen ∧ ∀ a ∈ l0, Open.okN a) (hb : Open.bulkN l0 ≤ 1048576) :
    Calls Try.prog 15 #[.slice A0 l0.length c0] W fun e w' => e = .returned (.bool true) ∧ Below W.heap.size W w' := by
  have hn : Open.bulkN l0 = l0.length := rfl
  obtain ⟨k, h⟩ := all_ev l0 (wfL_of g0.2 (fun a h => by cases h)) (by omega)
  exact furlonglaw07_PlaceAll.calls k A0 c0 l0 true W hr0 hc0 (h k (Nat.le_refl _))
end Go.Proofs.Ytkbcjagkacijnaa.Walk
end
