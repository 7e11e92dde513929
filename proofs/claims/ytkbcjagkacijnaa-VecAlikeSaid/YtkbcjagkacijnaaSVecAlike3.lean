/- What the law VecAlike needs of the seat's contracts and plain laws, several texts one behind the other; no conditions. -/
import Derived.Test.YtkbcjagkacijnaaSVecAlike0
import Derived.Test.YtkbcjagkacijnaaSVecAlike1
import Derived.Test.YtkbcjagkacijnaaSVecAlike2
import Derived.Test.YtkbcjagkacijnaaWMore
import Derived.Test.YtkbcjagkacijnaaWNEv
import Derived.Test.YtkbcjagkacijnaaRows
import Derived.ProofKit
import Derived.OpenShut
section
-- Written for this claim by this project's own driver over the kit's print: functions and their contracts.
namespace Go.Proofs.Ytkbcjagkacijnaa.PVec
open Go.RowKit Go.Proofs.YtkbcjagkacijnaaW.PrintWords Go.Proofs.YtkbcjagkacijnaaW.PrintLast Go.Proofs.YtkbcjagkacijnaaW.PrintMore
attribute [local go_sem] max2_int min2_int max_two min_two max_three min_three max_four min_four   -- for this text's walks alone
set_option linter.unusedVariables false
set_option linter.unusedSimpArgs false

mutual
def furlonglaw02_VecTurns.j0 : Nat → Int → Int → Int → Int → Int → Int → Int → Int → Bool → Int → Int → Int → Int → Int → Int → Int → Int → Int → Option (Bool)
  | 0, _, _, _, _, _, _, _, _, _, _, _, _, _, _, _, _, _, _ => none
  | k + 1, x11, x12, x13, x14, x15, x16, x17, x18, x82, x239000, x239001, x240000, x240001, x242000, x242001, x242002, x243000, x243001 => if x82 = true then (if x12 = 0 then (if x16 = 0 then (some (x18 != 0)) else (some true)) else (if x14 = 0 then (if x16 = 0 then (some (x18 != 0)) else (some true)) else (some true))) else (if x11 = (wrap64 (-x13)) then (if x11 ≤ 0 then (if x15 ≤ 0 then (furlonglaw02_VecTurns.j1 k (decide (x17 > 0)) x239000 x239001 x240000 x240001 x242000 x242001 x242002 x243000 x243001) else (furlonglaw02_VecTurns.j1 k false x239000 x239001 x240000 x240001 x242000 x242001 x242002 x243000 x243001)) else (furlonglaw02_VecTurns.j1 k false x239000 x239001 x240000 x240001 x242000 x242001 x242002 x243000 x243001)) else (furlonglaw02_VecTurns.j1 k true x239000 x239001 x240000 x240001 x242000 x242001 x242002 x243000 x243001))
def furlonglaw02_VecTurns.j1 : Nat → Bool → Int → Int → Int → Int → Int → Int → Int → Int → Int → Option (Bool)
  | 0, _, _, _, _, _, _, _, _, _, _ => none
  | k + 1, x112, x239000, x239001, x240000, x240001, x242000, x242001, x242002, x243000, x243001 => if x112 = true then (some false) else ((vec_Add.f k x239000 x239001 x240000 x240001).bind fun bt252 => (if bt252.2.2 = 0 then ((vec_Less.f k x239000 x239001 x242000 bt252.1 bt252.2.1 x242000 x243000 x243001).bind fun bt256 => (if bt256.2 = 0 then (some (decide (bt256.1 ≤ 0))) else (some false))) else (some true)))
end
def furlonglaw02_VecTurns.f (k : Nat) (a0_0 : Int) (a0_1 : Int) (a1_0 : Int) (a1_1 : Int) (a2_0 : Int) (a2_1 : Int) (a3_0 : Int) (a3_1 : Int) (a3_2 : Int) (a4_0 : Int) (a4_1 : Int) : Option (Bool) := (furlonglaw02_awake.f k).bind fun t243 => (if t243 = true then ((vec_Less.f k a0_0 a0_1 a3_0 a1_0 a1_1 a3_1 a4_0 a4_1).bind fun bt244 => ((vec_Less.f k a1_0 a1_1 a3_1 a0_0 a0_1 a3_0 a4_0 a4_1).bind fun bt246 => ((vec_Less.f k a1_0 a1_1 a3_1 a2_0 a2_1 a3_2 a4_0 a4_1).bind fun bt248 => ((vec_Less.f k a0_0 a0_1 a3_0 a2_0 a2_1 a3_2 a4_0 a4_1).bind fun bt250 => (if bt244.2 = 0 then (if bt246.2 = 0 then (if bt248.2 = 0 then (furlonglaw02_VecTurns.j0 k bt244.1 bt244.2 bt246.1 bt246.2 bt248.1 bt248.2 bt250.1 bt250.2 (bt250.2 != 0) a0_0 a0_1 a1_0 a1_1 a3_0 a3_1 a3_2 a4_0 a4_1) else (furlonglaw02_VecTurns.j0 k bt244.1 bt244.2 bt246.1 bt246.2 bt248.1 bt248.2 bt250.1 bt250.2 true a0_0 a0_1 a1_0 a1_1 a3_0 a3_1 a3_2 a4_0 a4_1)) else (furlonglaw02_VecTurns.j0 k bt244.1 bt244.2 bt246.1 bt246.2 bt248.1 bt248.2 bt250.1 bt250.2 true a0_0 a0_1 a1_0 a1_1 a3_0 a3_1 a3_2 a4_0 a4_1)) else (furlonglaw02_VecTurns.j0 k bt244.1 bt244.2 bt246.1 bt246.2 bt248.1 bt248.2 bt250.1 bt250.2 true a0_0 a0_1 a1_0 a1_1 a3_0 a3_1 a3_2 a4_0 a4_1)))))) else (some false))
theorem furlonglaw02_VecTurns.mono_l : ∀ k, (∀ y0 y1 y2 y3 y4 y5 y6 y7 y8 y9 y10 y11 y12 y13 y14 y15 y16 y17, LeO (furlonglaw02_VecTurns.j0 k y0 y1 y2 y3 y4 y5 y6 y7 y8 y9 y10 y11 y12 y13 y14 y15 y16 y17) (furlonglaw02_VecTurns.j0 (k + 1) y0 y1 y2 y3 y4 y5 y6 y7 y8 y9 y10 y11 y12 y13 y14 y15 y16 y17)) ∧ (∀ y0 y1 y2 y3 y4 y5 y6 y7 y8 y9, LeO (furlonglaw02_VecTurns.j1 k y0 y1 y2 y3 y4 y5 y6 y7 y8 y9) (furlonglaw02_VecTurns.j1 (k + 1) y0 y1 y2 y3 y4 y5 y6 y7 y8 y9))
  | 0 => ⟨fun _ _ _ _ _ _ _ _ _ _ _ _ _ _ _ _ _ _ r h => by simp [furlonglaw02_VecTurns.j0] at h, fun _ _ _ _ _ _ _ _ _ _ r h => by simp [furlonglaw02_VecTurns.j1] at h⟩
  | k + 1 => by
    obtain ⟨ih0, ih1⟩ := furlonglaw02_VecTurns.mono_l k
    refine ⟨?_, ?_⟩
    · intro y0 y1 y2 y3 y4 y5 y6 y7 y8 y9 y10 y11 y12 y13 y14 y15 y16 y17
      unfold furlonglaw02_VecTurns.j0
      repeat' first
      | (with_reducible exact ih0 _ _ _ _ _ _ _ _ _ _ _ _ _ _ _ _ _ _)
      | (with_reducible exact ih1 _ _ _ _ _ _ _ _ _ _)
      | (with_reducible exact furlonglaw02_awake.mono _)
      | (with_reducible exact vec_Add.mono _ _ _ _ _)
      | (with_reducible exact vec_Less.mono _ _ _ _ _ _ _ _ _)
      | (with_reducible exact LeO.refl _)
      | (with_reducible exact LeO.none _)
      | (with_reducible refine LeO.ite ?_ ?_)
      | (with_reducible refine LeO.bind ?_ (fun _ => ?_))
      | exact ih0 _ _ _ _ _ _ _ _ _ _ _ _ _ _ _ _ _ _
      | exact ih1 _ _ _ _ _ _ _ _ _ _
      | exact furlonglaw02_awake.mono _
      | exact vec_Add.mono _ _ _ _ _
      | exact vec_Less.mono _ _ _ _ _ _ _ _ _
      | exact LeO.none _
      | refine LeO.ite ?_ ?_
      | refine LeO.bind ?_ (fun _ => ?_)
    · intro y0 y1 y2 y3 y4 y5 y6 y7 y8 y9
      unfold furlonglaw02_VecTurns.j1
      repeat' first
      | (with_reducible exact ih0 _ _ _ _ _ _ _ _ _ _ _ _ _ _ _ _ _ _)
      | (with_reducible exact ih1 _ _ _ _ _ _ _ _ _ _)
      | (with_reducible exact furlonglaw02_awake.mono _)
      | (with_reducible exact vec_Add.mono _ _ _ _ _)
      | (with_reducible exact vec_Less.mono _ _ _ _ _ _ _ _ _)
      | (with_reducible exact LeO.refl _)
      | (with_reducible exact LeO.none _)
      | (with_reducible refine LeO.ite ?_ ?_)
      | (with_reducible refine LeO.bind ?_ (fun _ => ?_))
      | exact ih0 _ _ _ _ _ _ _ _ _ _ _ _ _ _ _ _ _ _
      | exact ih1 _ _ _ _ _ _ _ _ _ _
      | exact furlonglaw02_awake.mono _
      | exact vec_Add.mono _ _ _ _ _
      | exact vec_Less.mono _ _ _ _ _ _ _ _ _
      | exact LeO.none _
      | refine LeO.ite ?_ ?_
      | refine LeO.bind ?_ (fun _ => ?_)
theorem furlonglaw02_VecTurns.mono : ∀ a0 a1 a2 a3 a4 a5 a6 a7 a8 a9 a10 k, LeO (furlonglaw02_VecTurns.f k a0 a1 a2 a3 a4 a5 a6 a7 a8 a9 a10) (furlonglaw02_VecTurns.f (k + 1) a0 a1 a2 a3 a4 a5 a6 a7 a8 a9 a10) := by
  intro a0 a1 a2 a3 a4 a5 a6 a7 a8 a9 a10 k
  obtain ⟨ih0, ih1⟩ := furlonglaw02_VecTurns.mono_l k
  unfold furlonglaw02_VecTurns.f
  repeat' first
      | (with_reducible exact ih0 _ _ _ _ _ _ _ _ _ _ _ _ _ _ _ _ _ _)
      | (with_reducible exact ih1 _ _ _ _ _ _ _ _ _ _)
      | (with_reducible exact furlonglaw02_awake.mono _)
      | (with_reducible exact vec_Add.mono _ _ _ _ _)
      | (with_reducible exact vec_Less.mono _ _ _ _ _ _ _ _ _)
      | (with_reducible exact LeO.refl _)
      | (with_reducible exact LeO.none _)
      | (with_reducible refine LeO.ite ?_ ?_)
      | (with_reducible refine LeO.bind ?_ (fun _ => ?_))
      | exact ih0 _ _ _ _ _ _ _ _ _ _ _ _ _ _ _ _ _ _
      | exact ih1 _ _ _ _ _ _ _ _ _ _
      | exact furlonglaw02_awake.mono _
      | exact vec_Add.mono _ _ _ _ _
      | exact vec_Less.mono _ _ _ _ _ _ _ _ _
      | exact LeO.none _
      | refine LeO.ite ?_ ?_
      | refine LeO.bind ?_ (fun _ => ?_)
def furlonglaw02_VecAlike.f (k : Nat) (a0_0 : Int) (a0_1 : Int) (a1 : Int) (a2_0 : Int) (a2_1 : Int) : Option (Bool) := (furlonglaw02_awake.f k).bind fun t260 => (if t260 = true then ((furlongref02_Check.f k (([(⟨a0_0, a0_1⟩ : S25), (⟨a2_0, a2_1⟩ : S25)] : List (S25)))).bind fun t264 => (if t264 = 0 then (if a1 < 1 then (some true) else (if a1 > 524288 then (some true) else (if a0_0 > 549755813888 then (some true) else (if a0_1 > 549755813888 then (some true) else ((vec_Less.f k a0_0 a0_1 a1 (wrap64 (2 * a0_0)) (wrap64 (2 * a0_1)) (wrap64 (2 * a1)) a2_0 a2_1).bind fun bt265 => (if bt265.2 = 0 then (some (bt265.1 == 0)) else (some false))))))) else (some true))) else (some false))
theorem furlonglaw02_VecAlike.mono : ∀ a0 a1 a2 a3 a4 k, LeO (furlonglaw02_VecAlike.f k a0 a1 a2 a3 a4) (furlonglaw02_VecAlike.f (k + 1) a0 a1 a2 a3 a4) := by
  intro a0 a1 a2 a3 a4 k
  unfold furlonglaw02_VecAlike.f
  repeat' first
      | (with_reducible exact furlonglaw02_awake.mono _)
      | (with_reducible exact furlongref02_Check.mono _ _)
      | (with_reducible exact vec_Less.mono _ _ _ _ _ _ _ _ _)
      | (with_reducible exact LeO.refl _)
      | (with_reducible exact LeO.none _)
      | (with_reducible refine LeO.ite ?_ ?_)
      | (with_reducible refine LeO.bind ?_ (fun _ => ?_))
      | exact furlonglaw02_awake.mono _
      | exact furlongref02_Check.mono _ _
      | exact vec_Less.mono _ _ _ _ _ _ _ _ _
      | exact LeO.none _
      | refine LeO.ite ?_ ?_
      | refine LeO.bind ?_ (fun _ => ?_)
set_option maxHeartbeats 8000000 in
set_option maxRecDepth 100000 in
theorem furlonglaw02_VecAlike.calls (k : Nat) (a0_0 : Int) (a0_1 : Int) (a1 : Int) (a2_0 : Int) (a2_1 : Int) (r : Bool) (w : World) (h : furlonglaw02_VecAlike.f k a0_0 a0_1 a1 a2_0 a2_1 = some r) :
    Calls Try.prog 13 #[.agg #[.int .i64 a0_0, .int .i64 a0_1], .int .i64 a1, .agg #[.int .i64 a2_0, .int .i64 a2_1]] w fun e w' => e = .returned (.bool r) ∧ Below w.heap.size w w' := by
  have hu25 := Try.underlying25
  have HB := Aside0.mk (Below.refl w.heap.size w)
  have H : ((furlonglaw02_awake.f k).bind fun t260 => (if t260 = true then ((furlongref02_Check.f k (([(⟨a0_0, a0_1⟩ : S25), (⟨a2_0, a2_1⟩ : S25)] : List (S25)))).bind fun t264 => (if t264 = 0 then (if a1 < 1 then (some true) else (if a1 > 524288 then (some true) else (if a0_0 > 549755813888 then (some true) else (if a0_1 > 549755813888 then (some true) else ((vec_Less.f k a0_0 a0_1 a1 (wrap64 (2 * a0_0)) (wrap64 (2 * a0_1)) (wrap64 (2 * a1)) a2_0 a2_1).bind fun bt265 => (if bt265.2 = 0 then (some (bt265.1 == 0)) else (some false))))))) else (some true))) else (some false))) = some r := h
  clear h
  replace H := Option.bind_eq_some_iff.mp H
  obtain ⟨t260, A40, H⟩ := H
  replace H : (if t260 = true then ((furlongref02_Check.f k (([(⟨a0_0, a0_1⟩ : S25), (⟨a2_0, a2_1⟩ : S25)] : List (S25)))).bind fun t264 => (if t264 = 0 then (if a1 < 1 then (some true) else (if a1 > 524288 then (some true) else (if a0_0 > 549755813888 then (some true) else (if a0_1 > 549755813888 then (some true) else ((vec_Less.f k a0_0 a0_1 a1 (wrap64 (2 * a0_0)) (wrap64 (2 * a0_1)) (wrap64 (2 * a1)) a2_0 a2_1).bind fun bt265 => (if bt265.2 = 0 then (some (bt265.1 == 0)) else (some false))))))) else (some true))) else (some false)) = some r := H
  have A4 := Aside0.mk A40
  clear A40
  by_cases c5 : t260 = true
  · subst c5
    have H1 : ((furlongref02_Check.f k (([(⟨a0_0, a0_1⟩ : S25), (⟨a2_0, a2_1⟩ : S25)] : List (S25)))).bind fun t264 => (if t264 = 0 then (if a1 < 1 then (some true) else (if a1 > 524288 then (some true) else (if a0_0 > 549755813888 then (some true) else (if a0_1 > 549755813888 then (some true) else ((vec_Less.f k a0_0 a0_1 a1 (wrap64 (2 * a0_0)) (wrap64 (2 * a0_1)) (wrap64 (2 * a1)) a2_0 a2_1).bind fun bt265 => (if bt265.2 = 0 then (some (bt265.1 == 0)) else (some false))))))) else (some true))) = some r := by rw [if_pos rfl] at H; exact H
    clear H
    have H := H1
    clear H1
    obtain ⟨y261, hy261⟩ : ∃ y_ : List (S25), y_ = (([(⟨a0_0, a0_1⟩ : S25), (⟨a2_0, a2_1⟩ : S25)] : List (S25))) := ⟨_, rfl⟩
    replace H : ((furlongref02_Check.f k y261).bind fun t264 => (if t264 = 0 then (if a1 < 1 then (some true) else (if a1 > 524288 then (some true) else (if a0_0 > 549755813888 then (some true) else (if a0_1 > 549755813888 then (some true) else ((vec_Less.f k a0_0 a0_1 a1 (wrap64 (2 * a0_0)) (wrap64 (2 * a0_1)) (wrap64 (2 * a1)) a2_0 a2_1).bind fun bt265 => (if bt265.2 = 0 then (some (bt265.1 == 0)) else (some false))))))) else (some true))) = some r := by first | (rw [hy261]; with_reducible exact H) | (have H2_ := (Option.bind_some _ _).symm.trans H; rw [hy261]; with_reducible exact H2_) | (have H2_ := (Option.bind_some _ _).symm.trans H; with_reducible exact H2_) | with_reducible exact H | (rw [hy261]; exact H) | exact H
    have Ny261 := Aside0.mk hy261
    clear hy261
    replace H := Option.bind_eq_some_iff.mp H
    obtain ⟨t264, A60, H⟩ := H
    replace H : (if t264 = 0 then (if a1 < 1 then (some true) else (if a1 > 524288 then (some true) else (if a0_0 > 549755813888 then (some true) else (if a0_1 > 549755813888 then (some true) else ((vec_Less.f k a0_0 a0_1 a1 (wrap64 (2 * a0_0)) (wrap64 (2 * a0_1)) (wrap64 (2 * a1)) a2_0 a2_1).bind fun bt265 => (if bt265.2 = 0 then (some (bt265.1 == 0)) else (some false))))))) else (some true)) = some r := H
    have A6 := Aside0.mk A60
    clear A60
    by_cases c7 : t264 = 0
    · rw [if_pos c7] at H
      have c7b0 : (t264 == 0) = true := beq_iff_eq.mpr c7
      have c7b1 : (t264 != 0) = false := bne_eq_false_iff_eq.mpr c7
      clear c7
      by_cases c8 : a1 < 1
      · rw [if_pos c8] at H
        have c8b0 : decide (a1 < 1) = true := decide_eq_true c8
        clear c8
        obtain rfl := Option.some.inj H
        go_enter Try.func13, Try.ntmps13
        go_wp2_with (first | ((with_reducible refine gate_dst (N := 3) rfl ?_); refine box_event ?hg (N := 3) ?hd (cs := #[.int .i64 a0_0, .int .i64 a0_1]) (t := 25) ?hr ?_; (case hd => rfl); (case hg => rfl); (case hr => first | (go_simp; done) | (go_simp; rfl)); intro gb258 hg w9 hbox hb; have n0_ := Aside0.mk (below_step (by repeat (first | (with_reducible first | exact HB.out | apply below_alloc | apply pw_below_drewN | apply below_drew1) | exact HB.out)) hb); have n1_ := Aside0.mk (hbox); have n2_ := Aside0.mk ((by rw [hg]; exact (below_size (by repeat (first | (with_reducible first | exact HB.out | apply below_alloc | apply pw_below_drewN | apply below_drew1) | exact HB.out))) : w.heap.size ≤ gb258)); have n3_ := Aside0.mk ((by rw [hg]; exact (below_size (by repeat (first | (with_reducible first | exact HB.out | apply below_alloc | apply pw_below_drewN | apply below_drew1) | exact HB.out))) : w.heap.size ≤ gb258)); clear HB; have HB := n0_; have BK258 := n1_; have GW258 := n2_; have GE258 := n3_; clear n0_ n1_ n2_ n3_; clear hb hbox hg) | ((with_reducible refine gate_dst (N := 5) rfl ?_); refine box_event ?hg (N := 5) ?hd (cs := #[.int .i64 a2_0, .int .i64 a2_1]) (t := 25) ?hr ?_; (case hd => rfl); (case hg => rfl); (case hr => first | (go_simp; done) | (go_simp; rfl)); intro gb259 hg w10 hbox hb; have n0_ := Aside0.mk (blk_below (g := gb258) (o := .cells #[.int .i64 a0_0, .int .i64 a0_1] 25 (0, 0)) (by (with_reducible repeat (first | refine blk_drewN ?_ _ | refine blk_drew ?_ | refine blk_alloc ?_ _)); exact BK258.out) hb); have n1_ := Aside0.mk (below_step (by repeat (first | (with_reducible first | exact HB.out | apply below_alloc | apply pw_below_drewN | apply below_drew1 | refine below_set ?_ GE258.out) | exact HB.out)) hb); have n2_ := Aside0.mk (hbox); have n3_ := Aside0.mk ((by rw [hg]; exact (below_size (by repeat (first | (with_reducible first | exact HB.out | apply below_alloc | apply pw_below_drewN | apply below_drew1 | refine below_set ?_ GE258.out) | exact HB.out))) : w.heap.size ≤ gb259)); have n4_ := Aside0.mk ((by rw [hg]; exact (below_size (by repeat (first | (with_reducible first | exact HB.out | apply below_alloc | apply pw_below_drewN | apply below_drew1 | refine below_set ?_ GE258.out) | exact HB.out))) : w.heap.size ≤ gb259)); have n5_ := Aside0.mk ((by rw [hg]; exact Nat.ne_of_lt (blk_lt (g := gb258) (o := .cells #[.int .i64 a0_0, .int .i64 a0_1] 25 (0, 0)) (by (with_reducible repeat (first | refine blk_drewN ?_ _ | refine blk_drew ?_ | refine blk_alloc ?_ _)); exact BK258.out)) : gb258 ≠ gb259)); have n6_ := Aside0.mk ((by rw [hg]; exact Nat.ne_of_gt (blk_lt (g := gb258) (o := .cells #[.int .i64 a0_0, .int .i64 a0_1] 25 (0, 0)) (by (with_reducible repeat (first | refine blk_drewN ?_ _ | refine blk_drew ?_ | refine blk_alloc ?_ _)); exact BK258.out)) : gb259 ≠ gb258)); clear BK258; clear HB; have BK258 := n0_; have HB := n1_; have BK259 := n2_; have GW259 := n3_; have GE259 := n4_; have NB258_259 := n5_; have NB259_258 := n6_; clear n0_ n1_ n2_ n3_ n4_ n5_ n6_; clear hb hbox hg) | ((with_reducible refine gate_callee (f := 37) rfl ?_); refine goesL_ (some 9) rfl rfl Try.func37 (by kernel_rfl) rfl #[] rfl (by (try simp only [List.map_toArray, List.map_cons, List.map_nil]); first | done | rfl | (simp only [List.length_drop, List.length_take]; rfl)) ?_; (with_reducible refine (furlonglaw02_awake.calls k  true _ A4.out).mono ?_); rintro e w11 ⟨rfl, hb⟩; refine ⟨_, rfl, ?_⟩; have n0_ := Aside0.mk (blk_below (g := gb258) (o := .cells #[.int .i64 a0_0, .int .i64 a0_1] 25 (0, 0)) (by (with_reducible repeat (first | refine blk_drewN ?_ _ | refine blk_drew ?_ | refine blk_alloc ?_ _)); exact BK258.out) hb); have n1_ := Aside0.mk (blk_below (g := gb259) (o := .cells #[.int .i64 a2_0, .int .i64 a2_1] 25 (0, 0)) (by (with_reducible repeat (first | refine blk_drewN ?_ _ | refine blk_drew ?_ | refine blk_alloc ?_ _)); exact BK259.out) hb); have n2_ := Aside0.mk (below_step (by repeat (first | (with_reducible first | exact HB.out | apply below_alloc | apply pw_below_drewN | apply below_drew1 | refine below_set ?_ GE258.out | refine below_set ?_ GE259.out) | exact HB.out)) hb); clear BK258; clear BK259; clear HB; have BK258 := n0_; have BK259 := n1_; have HB := n2_; clear n0_ n1_ n2_; (try clear hb); (try clear hb2); (try clear hk); (try clear hi); have hnb12 := NB258_259.out; have hnc12 := NB259_258.out; have hcz13_0 : w11.cell? ⟨gb258, 0, none⟩ = some (.int .i64 a0_0) := (blk_cell BK258.out 0).trans rfl; have hcz13_1 : w11.cell? ⟨gb258, 1, none⟩ = some (.int .i64 a0_1) := (blk_cell BK258.out 1).trans rfl; have hfz13_0 := blk_frozen BK258.out 0; have hfz13_1 := blk_frozen BK258.out 1; have hcz14_0 : w11.cell? ⟨gb259, 0, none⟩ = some (.int .i64 a2_0) := (blk_cell BK259.out 0).trans rfl; have hcz14_1 : w11.cell? ⟨gb259, 1, none⟩ = some (.int .i64 a2_1) := (blk_cell BK259.out 1).trans rfl; have hfz14_0 := blk_frozen BK259.out 0; have hfz14_1 := blk_frozen BK259.out 1) | ((with_reducible refine gate_dst (N := 13) rfl ?_); refine Kd.R_lit k25 _ 25 ?hg (N := 13) ?hd (xs := ([(⟨a0_0, a0_1⟩ : S25), (⟨a2_0, a2_1⟩ : S25)] : List (S25))) (inner := [.int .i64 a0_0, .int .i64 a0_1, .int .i64 a2_0, .int .i64 a2_1]) (ok := fun _ => True) (okp := fun _ => True) ?hr ?hp (fun _ hk => hk) trivial (Below.refl _ _) (Nat.le_refl _) (by simp) ?_; (case hd => rfl); (case hg => rfl); (case hr => first | (go_simp; done) | (go_simp; rfl)); (case hp => exact (Reps.c2 (show Kd.M k25 _ _ _ (⟨a0_0, a0_1⟩ : S25) [.int .i64 a0_0, .int .i64 a0_1] from (k25_mkM _ _ _ (⟨a0_0, a0_1⟩ : S25) )) (Reps.c2 (show Kd.M k25 _ _ _ (⟨a2_0, a2_1⟩ : S25) [.int .i64 a2_0, .int .i64 a2_1] from (k25_mkM _ _ _ (⟨a2_0, a2_1⟩ : S25) )) (Reps.none _ _)))); intro v262 w15 ho16 hb hg_ hnew_; clear hg_ hnew_; (first | rw [← Ny261.out] at ho16 | (simp only [Int.reduceToNat] at ho16; rw [← Ny261.out] at ho16)); have n0_ := Aside0.mk (Kd.R_lower (Kd.R_newB (Kd.R_newB ho16 (g := gb258) (o := .cells #[.int .i64 a0_0, .int .i64 a0_1] 25 (0, 0)) (by (with_reducible repeat (first | refine blk_drewN ?_ _ | refine blk_drew ?_ | refine blk_alloc ?_ _)); exact BK258.out)) (g := gb259) (o := .cells #[.int .i64 a2_0, .int .i64 a2_1] 25 (0, 0)) (by (with_reducible repeat (first | refine blk_drewN ?_ _ | refine blk_drew ?_ | refine blk_alloc ?_ _)); exact BK259.out)) (below_size (by repeat (first | (with_reducible first | exact HB.out | apply below_alloc | apply pw_below_drewN | apply below_drew1 | refine below_set ?_ GE258.out | refine below_set ?_ GE259.out) | exact HB.out)))); have n1_ := Aside0.mk (blk_below (g := gb258) (o := .cells #[.int .i64 a0_0, .int .i64 a0_1] 25 (0, 0)) (by (with_reducible repeat (first | refine blk_drewN ?_ _ | refine blk_drew ?_ | refine blk_alloc ?_ _)); exact BK258.out) hb); have n2_ := Aside0.mk (blk_below (g := gb259) (o := .cells #[.int .i64 a2_0, .int .i64 a2_1] 25 (0, 0)) (by (with_reducible repeat (first | refine blk_drewN ?_ _ | refine blk_drew ?_ | refine blk_alloc ?_ _)); exact BK259.out) hb); have n3_ := Aside0.mk (below_step (by repeat (first | (with_reducible first | exact HB.out | apply below_alloc | apply pw_below_drewN | apply below_drew1 | refine below_set ?_ GE258.out | refine below_set ?_ GE259.out) | exact HB.out)) hb); clear BK258; clear BK259; clear HB; have HO263 := n0_; have BK258 := n1_; have BK259 := n2_; have HB := n3_; clear n0_ n1_ n2_ n3_; clear hb ho16; obtain ⟨Ao17, co17, eo17⟩ := Kd.R_slice HO263.out; subst eo17) | ((with_reducible refine gate_callee (f := 45) rfl ?_); refine goesL_ (some 14) rfl rfl Try.func45 (by kernel_rfl) rfl #[.slice Ao17 y261.length co17] rfl (by (try simp only [List.map_toArray, List.map_cons, List.map_nil]); first | done | rfl | (simp only [List.length_drop, List.length_take]; rfl)) ?_; (with_reducible refine (furlongref02_Check.calls k _ _ y261 t264 _ ?side1 ?side2 A6.out).mono ?_); (case side1 => repeat (first | exact (Kd.R_reads' HO263.out).2.2 | (with_reducible refine Kd.C_alloc ?_ _) | (with_reducible refine Kd.C_drewN ?_ _) | (with_reducible refine Kd.C_drew ?_))); (case side2 => exact (Kd.R_reads' HO263.out).2.1); rintro e w18 ⟨rfl, hb⟩; refine ⟨_, rfl, ?_⟩; have n0_ := Aside0.mk (Kd.R_below (by (with_reducible repeat (first | apply Kd.R_alloc | apply Kd.R_drewN | apply Kd.R_drew)); exact HO263.out) hb); have n1_ := Aside0.mk (blk_below (g := gb258) (o := .cells #[.int .i64 a0_0, .int .i64 a0_1] 25 (0, 0)) (by (with_reducible repeat (first | refine blk_drewN ?_ _ | refine blk_drew ?_ | refine blk_alloc ?_ _)); exact BK258.out) hb); have n2_ := Aside0.mk (blk_below (g := gb259) (o := .cells #[.int .i64 a2_0, .int .i64 a2_1] 25 (0, 0)) (by (with_reducible repeat (first | refine blk_drewN ?_ _ | refine blk_drew ?_ | refine blk_alloc ?_ _)); exact BK259.out) hb); have n3_ := Aside0.mk (below_step (by repeat (first | (with_reducible first | exact HB.out | apply below_alloc | apply pw_below_drewN | apply below_drew1 | refine below_set ?_ GE258.out | refine below_set ?_ GE259.out) | exact HB.out)) hb); clear HO263; clear BK258; clear BK259; clear HB; have HO263 := n0_; have BK258 := n1_; have BK259 := n2_; have HB := n3_; clear n0_ n1_ n2_ n3_; (try clear hb); (try clear hb2); (try clear hk); (try clear hi)))
        go_ret
        exact ⟨by first | rfl | (simp [errW_none, errW_some] <;> rfl) | (simp [*, errW_none, errW_some] <;> rfl), by repeat (first | (with_reducible first | exact HB.out | apply below_alloc | apply pw_below_drewN | apply below_drew1 | refine below_set ?_ GE258.out | refine below_set ?_ GE259.out) | exact HB.out)⟩
      · rw [if_neg c8] at H
        have c8b0 : decide (a1 < 1) = false := decide_eq_false c8
        clear c8
        by_cases c19 : a1 > 524288
        · rw [if_pos c19] at H
          have c19b0 : decide (524288 < a1) = true := decide_eq_true c19
          clear c19
          obtain rfl := Option.some.inj H
          go_enter Try.func13, Try.ntmps13
          go_wp2_with (first | ((with_reducible refine gate_dst (N := 3) rfl ?_); refine box_event ?hg (N := 3) ?hd (cs := #[.int .i64 a0_0, .int .i64 a0_1]) (t := 25) ?hr ?_; (case hd => rfl); (case hg => rfl); (case hr => first | (go_simp; done) | (go_simp; rfl)); intro gb258 hg w20 hbox hb; have n0_ := Aside0.mk (below_step (by repeat (first | (with_reducible first | exact HB.out | apply below_alloc | apply pw_below_drewN | apply below_drew1) | exact HB.out)) hb); have n1_ := Aside0.mk (hbox); have n2_ := Aside0.mk ((by rw [hg]; exact (below_size (by repeat (first | (with_reducible first | exact HB.out | apply below_alloc | apply pw_below_drewN | apply below_drew1) | exact HB.out))) : w.heap.size ≤ gb258)); have n3_ := Aside0.mk ((by rw [hg]; exact (below_size (by repeat (first | (with_reducible first | exact HB.out | apply below_alloc | apply pw_below_drewN | apply below_drew1) | exact HB.out))) : w.heap.size ≤ gb258)); clear HB; have HB := n0_; have BK258 := n1_; have GW258 := n2_; have GE258 := n3_; clear n0_ n1_ n2_ n3_; clear hb hbox hg) | ((with_reducible refine gate_dst (N := 5) rfl ?_); refine box_event ?hg (N := 5) ?hd (cs := #[.int .i64 a2_0, .int .i64 a2_1]) (t := 25) ?hr ?_; (case hd => rfl); (case hg => rfl); (case hr => first | (go_simp; done) | (go_simp; rfl)); intro gb259 hg w21 hbox hb; have n0_ := Aside0.mk (blk_below (g := gb258) (o := .cells #[.int .i64 a0_0, .int .i64 a0_1] 25 (0, 0)) (by (with_reducible repeat (first | refine blk_drewN ?_ _ | refine blk_drew ?_ | refine blk_alloc ?_ _)); exact BK258.out) hb); have n1_ := Aside0.mk (below_step (by repeat (first | (with_reducible first | exact HB.out | apply below_alloc | apply pw_below_drewN | apply below_drew1 | refine below_set ?_ GE258.out) | exact HB.out)) hb); have n2_ := Aside0.mk (hbox); have n3_ := Aside0.mk ((by rw [hg]; exact (below_size (by repeat (first | (with_reducible first | exact HB.out | apply below_alloc | apply pw_below_drewN | apply below_drew1 | refine below_set ?_ GE258.out) | exact HB.out))) : w.heap.size ≤ gb259)); have n4_ := Aside0.mk ((by rw [hg]; exact (below_size (by repeat (first | (with_reducible first | exact HB.out | apply below_alloc | apply pw_below_drewN | apply below_drew1 | refine below_set ?_ GE258.out) | exact HB.out))) : w.heap.size ≤ gb259)); have n5_ := Aside0.mk ((by rw [hg]; exact Nat.ne_of_lt (blk_lt (g := gb258) (o := .cells #[.int .i64 a0_0, .int .i64 a0_1] 25 (0, 0)) (by (with_reducible repeat (first | refine blk_drewN ?_ _ | refine blk_drew ?_ | refine blk_alloc ?_ _)); exact BK258.out)) : gb258 ≠ gb259)); have n6_ := Aside0.mk ((by rw [hg]; exact Nat.ne_of_gt (blk_lt (g := gb258) (o := .cells #[.int .i64 a0_0, .int .i64 a0_1] 25 (0, 0)) (by (with_reducible repeat (first | refine blk_drewN ?_ _ | refine blk_drew ?_ | refine blk_alloc ?_ _)); exact BK258.out)) : gb259 ≠ gb258)); clear BK258; clear HB; have BK258 := n0_; have HB := n1_; have BK259 := n2_; have GW259 := n3_; have GE259 := n4_; have NB258_259 := n5_; have NB259_258 := n6_; clear n0_ n1_ n2_ n3_ n4_ n5_ n6_; clear hb hbox hg) | ((with_reducible refine gate_callee (f := 37) rfl ?_); refine goesL_ (some 9) rfl rfl Try.func37 (by kernel_rfl) rfl #[] rfl (by (try simp only [List.map_toArray, List.map_cons, List.map_nil]); first | done | rfl | (simp only [List.length_drop, List.length_take]; rfl)) ?_; (with_reducible refine (furlonglaw02_awake.calls k  true _ A4.out).mono ?_); rintro e w22 ⟨rfl, hb⟩; refine ⟨_, rfl, ?_⟩; have n0_ := Aside0.mk (blk_below (g := gb258) (o := .cells #[.int .i64 a0_0, .int .i64 a0_1] 25 (0, 0)) (by (with_reducible repeat (first | refine blk_drewN ?_ _ | refine blk_drew ?_ | refine blk_alloc ?_ _)); exact BK258.out) hb); have n1_ := Aside0.mk (blk_below (g := gb259) (o := .cells #[.int .i64 a2_0, .int .i64 a2_1] 25 (0, 0)) (by (with_reducible repeat (first | refine blk_drewN ?_ _ | refine blk_drew ?_ | refine blk_alloc ?_ _)); exact BK259.out) hb); have n2_ := Aside0.mk (below_step (by repeat (first | (with_reducible first | exact HB.out | apply below_alloc | apply pw_below_drewN | apply below_drew1 | refine below_set ?_ GE258.out | refine below_set ?_ GE259.out) | exact HB.out)) hb); clear BK258; clear BK259; clear HB; have BK258 := n0_; have BK259 := n1_; have HB := n2_; clear n0_ n1_ n2_; (try clear hb); (try clear hb2); (try clear hk); (try clear hi); have hnb23 := NB258_259.out; have hnc23 := NB259_258.out; have hcz24_0 : w22.cell? ⟨gb258, 0, none⟩ = some (.int .i64 a0_0) := (blk_cell BK258.out 0).trans rfl; have hcz24_1 : w22.cell? ⟨gb258, 1, none⟩ = some (.int .i64 a0_1) := (blk_cell BK258.out 1).trans rfl; have hfz24_0 := blk_frozen BK258.out 0; have hfz24_1 := blk_frozen BK258.out 1; have hcz25_0 : w22.cell? ⟨gb259, 0, none⟩ = some (.int .i64 a2_0) := (blk_cell BK259.out 0).trans rfl; have hcz25_1 : w22.cell? ⟨gb259, 1, none⟩ = some (.int .i64 a2_1) := (blk_cell BK259.out 1).trans rfl; have hfz25_0 := blk_frozen BK259.out 0; have hfz25_1 := blk_frozen BK259.out 1) | ((with_reducible refine gate_dst (N := 13) rfl ?_); refine Kd.R_lit k25 _ 25 ?hg (N := 13) ?hd (xs := ([(⟨a0_0, a0_1⟩ : S25), (⟨a2_0, a2_1⟩ : S25)] : List (S25))) (inner := [.int .i64 a0_0, .int .i64 a0_1, .int .i64 a2_0, .int .i64 a2_1]) (ok := fun _ => True) (okp := fun _ => True) ?hr ?hp (fun _ hk => hk) trivial (Below.refl _ _) (Nat.le_refl _) (by simp) ?_; (case hd => rfl); (case hg => rfl); (case hr => first | (go_simp; done) | (go_simp; rfl)); (case hp => exact (Reps.c2 (show Kd.M k25 _ _ _ (⟨a0_0, a0_1⟩ : S25) [.int .i64 a0_0, .int .i64 a0_1] from (k25_mkM _ _ _ (⟨a0_0, a0_1⟩ : S25) )) (Reps.c2 (show Kd.M k25 _ _ _ (⟨a2_0, a2_1⟩ : S25) [.int .i64 a2_0, .int .i64 a2_1] from (k25_mkM _ _ _ (⟨a2_0, a2_1⟩ : S25) )) (Reps.none _ _)))); intro v262 w26 ho27 hb hg_ hnew_; clear hg_ hnew_; (first | rw [← Ny261.out] at ho27 | (simp only [Int.reduceToNat] at ho27; rw [← Ny261.out] at ho27)); have n0_ := Aside0.mk (Kd.R_lower (Kd.R_newB (Kd.R_newB ho27 (g := gb258) (o := .cells #[.int .i64 a0_0, .int .i64 a0_1] 25 (0, 0)) (by (with_reducible repeat (first | refine blk_drewN ?_ _ | refine blk_drew ?_ | refine blk_alloc ?_ _)); exact BK258.out)) (g := gb259) (o := .cells #[.int .i64 a2_0, .int .i64 a2_1] 25 (0, 0)) (by (with_reducible repeat (first | refine blk_drewN ?_ _ | refine blk_drew ?_ | refine blk_alloc ?_ _)); exact BK259.out)) (below_size (by repeat (first | (with_reducible first | exact HB.out | apply below_alloc | apply pw_below_drewN | apply below_drew1 | refine below_set ?_ GE258.out | refine below_set ?_ GE259.out) | exact HB.out)))); have n1_ := Aside0.mk (blk_below (g := gb258) (o := .cells #[.int .i64 a0_0, .int .i64 a0_1] 25 (0, 0)) (by (with_reducible repeat (first | refine blk_drewN ?_ _ | refine blk_drew ?_ | refine blk_alloc ?_ _)); exact BK258.out) hb); have n2_ := Aside0.mk (blk_below (g := gb259) (o := .cells #[.int .i64 a2_0, .int .i64 a2_1] 25 (0, 0)) (by (with_reducible repeat (first | refine blk_drewN ?_ _ | refine blk_drew ?_ | refine blk_alloc ?_ _)); exact BK259.out) hb); have n3_ := Aside0.mk (below_step (by repeat (first | (with_reducible first | exact HB.out | apply below_alloc | apply pw_below_drewN | apply below_drew1 | refine below_set ?_ GE258.out | refine below_set ?_ GE259.out) | exact HB.out)) hb); clear BK258; clear BK259; clear HB; have HO263 := n0_; have BK258 := n1_; have BK259 := n2_; have HB := n3_; clear n0_ n1_ n2_ n3_; clear hb ho27; obtain ⟨Ao28, co28, eo28⟩ := Kd.R_slice HO263.out; subst eo28) | ((with_reducible refine gate_callee (f := 45) rfl ?_); refine goesL_ (some 14) rfl rfl Try.func45 (by kernel_rfl) rfl #[.slice Ao28 y261.length co28] rfl (by (try simp only [List.map_toArray, List.map_cons, List.map_nil]); first | done | rfl | (simp only [List.length_drop, List.length_take]; rfl)) ?_; (with_reducible refine (furlongref02_Check.calls k _ _ y261 t264 _ ?side1 ?side2 A6.out).mono ?_); (case side1 => repeat (first | exact (Kd.R_reads' HO263.out).2.2 | (with_reducible refine Kd.C_alloc ?_ _) | (with_reducible refine Kd.C_drewN ?_ _) | (with_reducible refine Kd.C_drew ?_))); (case side2 => exact (Kd.R_reads' HO263.out).2.1); rintro e w29 ⟨rfl, hb⟩; refine ⟨_, rfl, ?_⟩; have n0_ := Aside0.mk (Kd.R_below (by (with_reducible repeat (first | apply Kd.R_alloc | apply Kd.R_drewN | apply Kd.R_drew)); exact HO263.out) hb); have n1_ := Aside0.mk (blk_below (g := gb258) (o := .cells #[.int .i64 a0_0, .int .i64 a0_1] 25 (0, 0)) (by (with_reducible repeat (first | refine blk_drewN ?_ _ | refine blk_drew ?_ | refine blk_alloc ?_ _)); exact BK258.out) hb); have n2_ := Aside0.mk (blk_below (g := gb259) (o := .cells #[.int .i64 a2_0, .int .i64 a2_1] 25 (0, 0)) (by (with_reducible repeat (first | refine blk_drewN ?_ _ | refine blk_drew ?_ | refine blk_alloc ?_ _)); exact BK259.out) hb); have n3_ := Aside0.mk (below_step (by repeat (first | (with_reducible first | exact HB.out | apply below_alloc | apply pw_below_drewN | apply below_drew1 | refine below_set ?_ GE258.out | refine below_set ?_ GE259.out) | exact HB.out)) hb); clear HO263; clear BK258; clear BK259; clear HB; have HO263 := n0_; have BK258 := n1_; have BK259 := n2_; have HB := n3_; clear n0_ n1_ n2_ n3_; (try clear hb); (try clear hb2); (try clear hk); (try clear hi)))
          go_ret
          exact ⟨by first | rfl | (simp [errW_none, errW_some] <;> rfl) | (simp [*, errW_none, errW_some] <;> rfl), by repeat (first | (with_reducible first | exact HB.out | apply below_alloc | apply pw_below_drewN | apply below_drew1 | refine below_set ?_ GE258.out | refine below_set ?_ GE259.out) | exact HB.out)⟩
        · rw [if_neg c19] at H
          have c19b0 : decide (524288 < a1) = false := decide_eq_false c19
          clear c19
          by_cases c30 : a0_0 > 549755813888
          · rw [if_pos c30] at H
            have c30b0 : decide (549755813888 < a0_0) = true := decide_eq_true c30
            clear c30
            obtain rfl := Option.some.inj H
            go_enter Try.func13, Try.ntmps13
            go_wp2_with (first | ((with_reducible refine gate_dst (N := 3) rfl ?_); refine box_event ?hg (N := 3) ?hd (cs := #[.int .i64 a0_0, .int .i64 a0_1]) (t := 25) ?hr ?_; (case hd => rfl); (case hg => rfl); (case hr => first | (go_simp; done) | (go_simp; rfl)); intro gb258 hg w31 hbox hb; have n0_ := Aside0.mk (below_step (by repeat (first | (with_reducible first | exact HB.out | apply below_alloc | apply pw_below_drewN | apply below_drew1) | exact HB.out)) hb); have n1_ := Aside0.mk (hbox); have n2_ := Aside0.mk ((by rw [hg]; exact (below_size (by repeat (first | (with_reducible first | exact HB.out | apply below_alloc | apply pw_below_drewN | apply below_drew1) | exact HB.out))) : w.heap.size ≤ gb258)); have n3_ := Aside0.mk ((by rw [hg]; exact (below_size (by repeat (first | (with_reducible first | exact HB.out | apply below_alloc | apply pw_below_drewN | apply below_drew1) | exact HB.out))) : w.heap.size ≤ gb258)); clear HB; have HB := n0_; have BK258 := n1_; have GW258 := n2_; have GE258 := n3_; clear n0_ n1_ n2_ n3_; clear hb hbox hg) | ((with_reducible refine gate_dst (N := 5) rfl ?_); refine box_event ?hg (N := 5) ?hd (cs := #[.int .i64 a2_0, .int .i64 a2_1]) (t := 25) ?hr ?_; (case hd => rfl); (case hg => rfl); (case hr => first | (go_simp; done) | (go_simp; rfl)); intro gb259 hg w32 hbox hb; have n0_ := Aside0.mk (blk_below (g := gb258) (o := .cells #[.int .i64 a0_0, .int .i64 a0_1] 25 (0, 0)) (by (with_reducible repeat (first | refine blk_drewN ?_ _ | refine blk_drew ?_ | refine blk_alloc ?_ _)); exact BK258.out) hb); have n1_ := Aside0.mk (below_step (by repeat (first | (with_reducible first | exact HB.out | apply below_alloc | apply pw_below_drewN | apply below_drew1 | refine below_set ?_ GE258.out) | exact HB.out)) hb); have n2_ := Aside0.mk (hbox); have n3_ := Aside0.mk ((by rw [hg]; exact (below_size (by repeat (first | (with_reducible first | exact HB.out | apply below_alloc | apply pw_below_drewN | apply below_drew1 | refine below_set ?_ GE258.out) | exact HB.out))) : w.heap.size ≤ gb259)); have n4_ := Aside0.mk ((by rw [hg]; exact (below_size (by repeat (first | (with_reducible first | exact HB.out | apply below_alloc | apply pw_below_drewN | apply below_drew1 | refine below_set ?_ GE258.out) | exact HB.out))) : w.heap.size ≤ gb259)); have n5_ := Aside0.mk ((by rw [hg]; exact Nat.ne_of_lt (blk_lt (g := gb258) (o := .cells #[.int .i64 a0_0, .int .i64 a0_1] 25 (0, 0)) (by (with_reducible repeat (first | refine blk_drewN ?_ _ | refine blk_drew ?_ | refine blk_alloc ?_ _)); exact BK258.out)) : gb258 ≠ gb259)); have n6_ := Aside0.mk ((by rw [hg]; exact Nat.ne_of_gt (blk_lt (g := gb258) (o := .cells #[.int .i64 a0_0, .int .i64 a0_1] 25 (0, 0)) (by (with_reducible repeat (first | refine blk_drewN ?_ _ | refine blk_drew ?_ | refine blk_alloc ?_ _)); exact BK258.out)) : gb259 ≠ gb258)); clear BK258; clear HB; have BK258 := n0_; have HB := n1_; have BK259 := n2_; have GW259 := n3_; have GE259 := n4_; have NB258_259 := n5_; have NB259_258 := n6_; clear n0_ n1_ n2_ n3_ n4_ n5_ n6_; clear hb hbox hg) | ((with_reducible refine gate_callee (f := 37) rfl ?_); refine goesL_ (some 9) rfl rfl Try.func37 (by kernel_rfl) rfl #[] rfl (by (try simp only [List.map_toArray, List.map_cons, List.map_nil]); first | done | rfl | (simp only [List.length_drop, List.length_take]; rfl)) ?_; (with_reducible refine (furlonglaw02_awake.calls k  true _ A4.out).mono ?_); rintro e w33 ⟨rfl, hb⟩; refine ⟨_, rfl, ?_⟩; have n0_ := Aside0.mk (blk_below (g := gb258) (o := .cells #[.int .i64 a0_0, .int .i64 a0_1] 25 (0, 0)) (by (with_reducible repeat (first | refine blk_drewN ?_ _ | refine blk_drew ?_ | refine blk_alloc ?_ _)); exact BK258.out) hb); have n1_ := Aside0.mk (blk_below (g := gb259) (o := .cells #[.int .i64 a2_0, .int .i64 a2_1] 25 (0, 0)) (by (with_reducible repeat (first | refine blk_drewN ?_ _ | refine blk_drew ?_ | refine blk_alloc ?_ _)); exact BK259.out) hb); have n2_ := Aside0.mk (below_step (by repeat (first | (with_reducible first | exact HB.out | apply below_alloc | apply pw_below_drewN | apply below_drew1 | refine below_set ?_ GE258.out | refine below_set ?_ GE259.out) | exact HB.out)) hb); clear BK258; clear BK259; clear HB; have BK258 := n0_; have BK259 := n1_; have HB := n2_; clear n0_ n1_ n2_; (try clear hb); (try clear hb2); (try clear hk); (try clear hi); have hnb34 := NB258_259.out; have hnc34 := NB259_258.out; have hcz35_0 : w33.cell? ⟨gb258, 0, none⟩ = some (.int .i64 a0_0) := (blk_cell BK258.out 0).trans rfl; have hcz35_1 : w33.cell? ⟨gb258, 1, none⟩ = some (.int .i64 a0_1) := (blk_cell BK258.out 1).trans rfl; have hfz35_0 := blk_frozen BK258.out 0; have hfz35_1 := blk_frozen BK258.out 1; have hcz36_0 : w33.cell? ⟨gb259, 0, none⟩ = some (.int .i64 a2_0) := (blk_cell BK259.out 0).trans rfl; have hcz36_1 : w33.cell? ⟨gb259, 1, none⟩ = some (.int .i64 a2_1) := (blk_cell BK259.out 1).trans rfl; have hfz36_0 := blk_frozen BK259.out 0; have hfz36_1 := blk_frozen BK259.out 1) | ((with_reducible refine gate_dst (N := 13) rfl ?_); refine Kd.R_lit k25 _ 25 ?hg (N := 13) ?hd (xs := ([(⟨a0_0, a0_1⟩ : S25), (⟨a2_0, a2_1⟩ : S25)] : List (S25))) (inner := [.int .i64 a0_0, .int .i64 a0_1, .int .i64 a2_0, .int .i64 a2_1]) (ok := fun _ => True) (okp := fun _ => True) ?hr ?hp (fun _ hk => hk) trivial (Below.refl _ _) (Nat.le_refl _) (by simp) ?_; (case hd => rfl); (case hg => rfl); (case hr => first | (go_simp; done) | (go_simp; rfl)); (case hp => exact (Reps.c2 (show Kd.M k25 _ _ _ (⟨a0_0, a0_1⟩ : S25) [.int .i64 a0_0, .int .i64 a0_1] from (k25_mkM _ _ _ (⟨a0_0, a0_1⟩ : S25) )) (Reps.c2 (show Kd.M k25 _ _ _ (⟨a2_0, a2_1⟩ : S25) [.int .i64 a2_0, .int .i64 a2_1] from (k25_mkM _ _ _ (⟨a2_0, a2_1⟩ : S25) )) (Reps.none _ _)))); intro v262 w37 ho38 hb hg_ hnew_; clear hg_ hnew_; (first | rw [← Ny261.out] at ho38 | (simp only [Int.reduceToNat] at ho38; rw [← Ny261.out] at ho38)); have n0_ := Aside0.mk (Kd.R_lower (Kd.R_newB (Kd.R_newB ho38 (g := gb258) (o := .cells #[.int .i64 a0_0, .int .i64 a0_1] 25 (0, 0)) (by (with_reducible repeat (first | refine blk_drewN ?_ _ | refine blk_drew ?_ | refine blk_alloc ?_ _)); exact BK258.out)) (g := gb259) (o := .cells #[.int .i64 a2_0, .int .i64 a2_1] 25 (0, 0)) (by (with_reducible repeat (first | refine blk_drewN ?_ _ | refine blk_drew ?_ | refine blk_alloc ?_ _)); exact BK259.out)) (below_size (by repeat (first | (with_reducible first | exact HB.out | apply below_alloc | apply pw_below_drewN | apply below_drew1 | refine below_set ?_ GE258.out | refine below_set ?_ GE259.out) | exact HB.out)))); have n1_ := Aside0.mk (blk_below (g := gb258) (o := .cells #[.int .i64 a0_0, .int .i64 a0_1] 25 (0, 0)) (by (with_reducible repeat (first | refine blk_drewN ?_ _ | refine blk_drew ?_ | refine blk_alloc ?_ _)); exact BK258.out) hb); have n2_ := Aside0.mk (blk_below (g := gb259) (o := .cells #[.int .i64 a2_0, .int .i64 a2_1] 25 (0, 0)) (by (with_reducible repeat (first | refine blk_drewN ?_ _ | refine blk_drew ?_ | refine blk_alloc ?_ _)); exact BK259.out) hb); have n3_ := Aside0.mk (below_step (by repeat (first | (with_reducible first | exact HB.out | apply below_alloc | apply pw_below_drewN | apply below_drew1 | refine below_set ?_ GE258.out | refine below_set ?_ GE259.out) | exact HB.out)) hb); clear BK258; clear BK259; clear HB; have HO263 := n0_; have BK258 := n1_; have BK259 := n2_; have HB := n3_; clear n0_ n1_ n2_ n3_; clear hb ho38; obtain ⟨Ao39, co39, eo39⟩ := Kd.R_slice HO263.out; subst eo39) | ((with_reducible refine gate_callee (f := 45) rfl ?_); refine goesL_ (some 14) rfl rfl Try.func45 (by kernel_rfl) rfl #[.slice Ao39 y261.length co39] rfl (by (try simp only [List.map_toArray, List.map_cons, List.map_nil]); first | done | rfl | (simp only [List.length_drop, List.length_take]; rfl)) ?_; (with_reducible refine (furlongref02_Check.calls k _ _ y261 t264 _ ?side1 ?side2 A6.out).mono ?_); (case side1 => repeat (first | exact (Kd.R_reads' HO263.out).2.2 | (with_reducible refine Kd.C_alloc ?_ _) | (with_reducible refine Kd.C_drewN ?_ _) | (with_reducible refine Kd.C_drew ?_))); (case side2 => exact (Kd.R_reads' HO263.out).2.1); rintro e w40 ⟨rfl, hb⟩; refine ⟨_, rfl, ?_⟩; have n0_ := Aside0.mk (Kd.R_below (by (with_reducible repeat (first | apply Kd.R_alloc | apply Kd.R_drewN | apply Kd.R_drew)); exact HO263.out) hb); have n1_ := Aside0.mk (blk_below (g := gb258) (o := .cells #[.int .i64 a0_0, .int .i64 a0_1] 25 (0, 0)) (by (with_reducible repeat (first | refine blk_drewN ?_ _ | refine blk_drew ?_ | refine blk_alloc ?_ _)); exact BK258.out) hb); have n2_ := Aside0.mk (blk_below (g := gb259) (o := .cells #[.int .i64 a2_0, .int .i64 a2_1] 25 (0, 0)) (by (with_reducible repeat (first | refine blk_drewN ?_ _ | refine blk_drew ?_ | refine blk_alloc ?_ _)); exact BK259.out) hb); have n3_ := Aside0.mk (below_step (by repeat (first | (with_reducible first | exact HB.out | apply below_alloc | apply pw_below_drewN | apply below_drew1 | refine below_set ?_ GE258.out | refine below_set ?_ GE259.out) | exact HB.out)) hb); clear HO263; clear BK258; clear BK259; clear HB; have HO263 := n0_; have BK258 := n1_; have BK259 := n2_; have HB := n3_; clear n0_ n1_ n2_ n3_; (try clear hb); (try clear hb2); (try clear hk); (try clear hi); have hcz41_0 : w40.cell? ⟨gb258, 0, none⟩ = some (.int .i64 a0_0) := (blk_cell BK258.out 0).trans rfl; have hcz41_1 : w40.cell? ⟨gb258, 1, none⟩ = some (.int .i64 a0_1) := (blk_cell BK258.out 1).trans rfl; have hfz41_0 := blk_frozen BK258.out 0; have hfz41_1 := blk_frozen BK258.out 1))
            go_ret
            exact ⟨by first | rfl | (simp [errW_none, errW_some] <;> rfl) | (simp [*, errW_none, errW_some] <;> rfl), by repeat (first | (with_reducible first | exact HB.out | apply below_alloc | apply pw_below_drewN | apply below_drew1 | refine below_set ?_ GE258.out | refine below_set ?_ GE259.out) | exact HB.out)⟩
          · rw [if_neg c30] at H
            have c30b0 : decide (549755813888 < a0_0) = false := decide_eq_false c30
            clear c30
            by_cases c42 : a0_1 > 549755813888
            · rw [if_pos c42] at H
              have c42b0 : decide (549755813888 < a0_1) = true := decide_eq_true c42
              clear c42
              obtain rfl := Option.some.inj H
              go_enter Try.func13, Try.ntmps13
              go_wp2_with (first | ((with_reducible refine gate_dst (N := 3) rfl ?_); refine box_event ?hg (N := 3) ?hd (cs := #[.int .i64 a0_0, .int .i64 a0_1]) (t := 25) ?hr ?_; (case hd => rfl); (case hg => rfl); (case hr => first | (go_simp; done) | (go_simp; rfl)); intro gb258 hg w43 hbox hb; have n0_ := Aside0.mk (below_step (by repeat (first | (with_reducible first | exact HB.out | apply below_alloc | apply pw_below_drewN | apply below_drew1) | exact HB.out)) hb); have n1_ := Aside0.mk (hbox); have n2_ := Aside0.mk ((by rw [hg]; exact (below_size (by repeat (first | (with_reducible first | exact HB.out | apply below_alloc | apply pw_below_drewN | apply below_drew1) | exact HB.out))) : w.heap.size ≤ gb258)); have n3_ := Aside0.mk ((by rw [hg]; exact (below_size (by repeat (first | (with_reducible first | exact HB.out | apply below_alloc | apply pw_below_drewN | apply below_drew1) | exact HB.out))) : w.heap.size ≤ gb258)); clear HB; have HB := n0_; have BK258 := n1_; have GW258 := n2_; have GE258 := n3_; clear n0_ n1_ n2_ n3_; clear hb hbox hg) | ((with_reducible refine gate_dst (N := 5) rfl ?_); refine box_event ?hg (N := 5) ?hd (cs := #[.int .i64 a2_0, .int .i64 a2_1]) (t := 25) ?hr ?_; (case hd => rfl); (case hg => rfl); (case hr => first | (go_simp; done) | (go_simp; rfl)); intro gb259 hg w44 hbox hb; have n0_ := Aside0.mk (blk_below (g := gb258) (o := .cells #[.int .i64 a0_0, .int .i64 a0_1] 25 (0, 0)) (by (with_reducible repeat (first | refine blk_drewN ?_ _ | refine blk_drew ?_ | refine blk_alloc ?_ _)); exact BK258.out) hb); have n1_ := Aside0.mk (below_step (by repeat (first | (with_reducible first | exact HB.out | apply below_alloc | apply pw_below_drewN | apply below_drew1 | refine below_set ?_ GE258.out) | exact HB.out)) hb); have n2_ := Aside0.mk (hbox); have n3_ := Aside0.mk ((by rw [hg]; exact (below_size (by repeat (first | (with_reducible first | exact HB.out | apply below_alloc | apply pw_below_drewN | apply below_drew1 | refine below_set ?_ GE258.out) | exact HB.out))) : w.heap.size ≤ gb259)); have n4_ := Aside0.mk ((by rw [hg]; exact (below_size (by repeat (first | (with_reducible first | exact HB.out | apply below_alloc | apply pw_below_drewN | apply below_drew1 | refine below_set ?_ GE258.out) | exact HB.out))) : w.heap.size ≤ gb259)); have n5_ := Aside0.mk ((by rw [hg]; exact Nat.ne_of_lt (blk_lt (g := gb258) (o := .cells #[.int .i64 a0_0, .int .i64 a0_1] 25 (0, 0)) (by (with_reducible repeat (first | refine blk_drewN ?_ _ | refine blk_drew ?_ | refine blk_alloc ?_ _)); exact BK258.out)) : gb258 ≠ gb259)); have n6_ := Aside0.mk ((by rw [hg]; exact Nat.ne_of_gt (blk_lt (g := gb258) (o := .cells #[.int .i64 a0_0, .int .i64 a0_1] 25 (0, 0)) (by (with_reducible repeat (first | refine blk_drewN ?_ _ | refine blk_drew ?_ | refine blk_alloc ?_ _)); exact BK258.out)) : gb259 ≠ gb258)); clear BK258; clear HB; have BK258 := n0_; have HB := n1_; have BK259 := n2_; have GW259 := n3_; have GE259 := n4_; have NB258_259 := n5_; have NB259_258 := n6_; clear n0_ n1_ n2_ n3_ n4_ n5_ n6_; clear hb hbox hg) | ((with_reducible refine gate_callee (f := 37) rfl ?_); refine goesL_ (some 9) rfl rfl Try.func37 (by kernel_rfl) rfl #[] rfl (by (try simp only [List.map_toArray, List.map_cons, List.map_nil]); first | done | rfl | (simp only [List.length_drop, List.length_take]; rfl)) ?_; (with_reducible refine (furlonglaw02_awake.calls k  true _ A4.out).mono ?_); rintro e w45 ⟨rfl, hb⟩; refine ⟨_, rfl, ?_⟩; have n0_ := Aside0.mk (blk_below (g := gb258) (o := .cells #[.int .i64 a0_0, .int .i64 a0_1] 25 (0, 0)) (by (with_reducible repeat (first | refine blk_drewN ?_ _ | refine blk_drew ?_ | refine blk_alloc ?_ _)); exact BK258.out) hb); have n1_ := Aside0.mk (blk_below (g := gb259) (o := .cells #[.int .i64 a2_0, .int .i64 a2_1] 25 (0, 0)) (by (with_reducible repeat (first | refine blk_drewN ?_ _ | refine blk_drew ?_ | refine blk_alloc ?_ _)); exact BK259.out) hb); have n2_ := Aside0.mk (below_step (by repeat (first | (with_reducible first | exact HB.out | apply below_alloc | apply pw_below_drewN | apply below_drew1 | refine below_set ?_ GE258.out | refine below_set ?_ GE259.out) | exact HB.out)) hb); clear BK258; clear BK259; clear HB; have BK258 := n0_; have BK259 := n1_; have HB := n2_; clear n0_ n1_ n2_; (try clear hb); (try clear hb2); (try clear hk); (try clear hi); have hnb46 := NB258_259.out; have hnc46 := NB259_258.out; have hcz47_0 : w45.cell? ⟨gb258, 0, none⟩ = some (.int .i64 a0_0) := (blk_cell BK258.out 0).trans rfl; have hcz47_1 : w45.cell? ⟨gb258, 1, none⟩ = some (.int .i64 a0_1) := (blk_cell BK258.out 1).trans rfl; have hfz47_0 := blk_frozen BK258.out 0; have hfz47_1 := blk_frozen BK258.out 1; have hcz48_0 : w45.cell? ⟨gb259, 0, none⟩ = some (.int .i64 a2_0) := (blk_cell BK259.out 0).trans rfl; have hcz48_1 : w45.cell? ⟨gb259, 1, none⟩ = some (.int .i64 a2_1) := (blk_cell BK259.out 1).trans rfl; have hfz48_0 := blk_frozen BK259.out 0; have hfz48_1 := blk_frozen BK259.out 1) | ((with_reducible refine gate_dst (N := 13) rfl ?_); refine Kd.R_lit k25 _ 25 ?hg (N := 13) ?hd (xs := ([(⟨a0_0, a0_1⟩ : S25), (⟨a2_0, a2_1⟩ : S25)] : List (S25))) (inner := [.int .i64 a0_0, .int .i64 a0_1, .int .i64 a2_0, .int .i64 a2_1]) (ok := fun _ => True) (okp := fun _ => True) ?hr ?hp (fun _ hk => hk) trivial (Below.refl _ _) (Nat.le_refl _) (by simp) ?_; (case hd => rfl); (case hg => rfl); (case hr => first | (go_simp; done) | (go_simp; rfl)); (case hp => exact (Reps.c2 (show Kd.M k25 _ _ _ (⟨a0_0, a0_1⟩ : S25) [.int .i64 a0_0, .int .i64 a0_1] from (k25_mkM _ _ _ (⟨a0_0, a0_1⟩ : S25) )) (Reps.c2 (show Kd.M k25 _ _ _ (⟨a2_0, a2_1⟩ : S25) [.int .i64 a2_0, .int .i64 a2_1] from (k25_mkM _ _ _ (⟨a2_0, a2_1⟩ : S25) )) (Reps.none _ _)))); intro v262 w49 ho50 hb hg_ hnew_; clear hg_ hnew_; (first | rw [← Ny261.out] at ho50 | (simp only [Int.reduceToNat] at ho50; rw [← Ny261.out] at ho50)); have n0_ := Aside0.mk (Kd.R_lower (Kd.R_newB (Kd.R_newB ho50 (g := gb258) (o := .cells #[.int .i64 a0_0, .int .i64 a0_1] 25 (0, 0)) (by (with_reducible repeat (first | refine blk_drewN ?_ _ | refine blk_drew ?_ | refine blk_alloc ?_ _)); exact BK258.out)) (g := gb259) (o := .cells #[.int .i64 a2_0, .int .i64 a2_1] 25 (0, 0)) (by (with_reducible repeat (first | refine blk_drewN ?_ _ | refine blk_drew ?_ | refine blk_alloc ?_ _)); exact BK259.out)) (below_size (by repeat (first | (with_reducible first | exact HB.out | apply below_alloc | apply pw_below_drewN | apply below_drew1 | refine below_set ?_ GE258.out | refine below_set ?_ GE259.out) | exact HB.out)))); have n1_ := Aside0.mk (blk_below (g := gb258) (o := .cells #[.int .i64 a0_0, .int .i64 a0_1] 25 (0, 0)) (by (with_reducible repeat (first | refine blk_drewN ?_ _ | refine blk_drew ?_ | refine blk_alloc ?_ _)); exact BK258.out) hb); have n2_ := Aside0.mk (blk_below (g := gb259) (o := .cells #[.int .i64 a2_0, .int .i64 a2_1] 25 (0, 0)) (by (with_reducible repeat (first | refine blk_drewN ?_ _ | refine blk_drew ?_ | refine blk_alloc ?_ _)); exact BK259.out) hb); have n3_ := Aside0.mk (below_step (by repeat (first | (with_reducible first | exact HB.out | apply below_alloc | apply pw_below_drewN | apply below_drew1 | refine below_set ?_ GE258.out | refine below_set ?_ GE259.out) | exact HB.out)) hb); clear BK258; clear BK259; clear HB; have HO263 := n0_; have BK258 := n1_; have BK259 := n2_; have HB := n3_; clear n0_ n1_ n2_ n3_; clear hb ho50; obtain ⟨Ao51, co51, eo51⟩ := Kd.R_slice HO263.out; subst eo51) | ((with_reducible refine gate_callee (f := 45) rfl ?_); refine goesL_ (some 14) rfl rfl Try.func45 (by kernel_rfl) rfl #[.slice Ao51 y261.length co51] rfl (by (try simp only [List.map_toArray, List.map_cons, List.map_nil]); first | done | rfl | (simp only [List.length_drop, List.length_take]; rfl)) ?_; (with_reducible refine (furlongref02_Check.calls k _ _ y261 t264 _ ?side1 ?side2 A6.out).mono ?_); (case side1 => repeat (first | exact (Kd.R_reads' HO263.out).2.2 | (with_reducible refine Kd.C_alloc ?_ _) | (with_reducible refine Kd.C_drewN ?_ _) | (with_reducible refine Kd.C_drew ?_))); (case side2 => exact (Kd.R_reads' HO263.out).2.1); rintro e w52 ⟨rfl, hb⟩; refine ⟨_, rfl, ?_⟩; have n0_ := Aside0.mk (Kd.R_below (by (with_reducible repeat (first | apply Kd.R_alloc | apply Kd.R_drewN | apply Kd.R_drew)); exact HO263.out) hb); have n1_ := Aside0.mk (blk_below (g := gb258) (o := .cells #[.int .i64 a0_0, .int .i64 a0_1] 25 (0, 0)) (by (with_reducible repeat (first | refine blk_drewN ?_ _ | refine blk_drew ?_ | refine blk_alloc ?_ _)); exact BK258.out) hb); have n2_ := Aside0.mk (blk_below (g := gb259) (o := .cells #[.int .i64 a2_0, .int .i64 a2_1] 25 (0, 0)) (by (with_reducible repeat (first | refine blk_drewN ?_ _ | refine blk_drew ?_ | refine blk_alloc ?_ _)); exact BK259.out) hb); have n3_ := Aside0.mk (below_step (by repeat (first | (with_reducible first | exact HB.out | apply below_alloc | apply pw_below_drewN | apply below_drew1 | refine below_set ?_ GE258.out | refine below_set ?_ GE259.out) | exact HB.out)) hb); clear HO263; clear BK258; clear BK259; clear HB; have HO263 := n0_; have BK258 := n1_; have BK259 := n2_; have HB := n3_; clear n0_ n1_ n2_ n3_; (try clear hb); (try clear hb2); (try clear hk); (try clear hi); have hcz53_0 : w52.cell? ⟨gb258, 0, none⟩ = some (.int .i64 a0_0) := (blk_cell BK258.out 0).trans rfl; have hcz53_1 : w52.cell? ⟨gb258, 1, none⟩ = some (.int .i64 a0_1) := (blk_cell BK258.out 1).trans rfl; have hfz53_0 := blk_frozen BK258.out 0; have hfz53_1 := blk_frozen BK258.out 1))
              go_ret
              exact ⟨by first | rfl | (simp [errW_none, errW_some] <;> rfl) | (simp [*, errW_none, errW_some] <;> rfl), by repeat (first | (with_reducible first | exact HB.out | apply below_alloc | apply pw_below_drewN | apply below_drew1 | refine below_set ?_ GE258.out | refine below_set ?_ GE259.out) | exact HB.out)⟩
            · rw [if_neg c42] at H
              have c42b0 : decide (549755813888 < a0_1) = false := decide_eq_false c42
              clear c42
              replace H := Option.bind_eq_some_iff.mp H
              obtain ⟨⟨t265, t266⟩, A540, H⟩ := H
              replace H : (if t266 = 0 then (some (t265 == 0)) else (some false)) = some r := H
              have A54 := Aside0.mk A540
              clear A540
              by_cases c55 : t266 = 0
              · rw [if_pos c55] at H
                have c55b0 : (t266 == 0) = true := beq_iff_eq.mpr c55
                have c55b1 : (t266 != 0) = false := bne_eq_false_iff_eq.mpr c55
                clear c55
                obtain rfl := Option.some.inj H
                go_enter Try.func13, Try.ntmps13
                go_wp2_with (first | ((with_reducible refine gate_dst (N := 3) rfl ?_); refine box_event ?hg (N := 3) ?hd (cs := #[.int .i64 a0_0, .int .i64 a0_1]) (t := 25) ?hr ?_; (case hd => rfl); (case hg => rfl); (case hr => first | (go_simp; done) | (go_simp; rfl)); intro gb258 hg w56 hbox hb; have n0_ := Aside0.mk (below_step (by repeat (first | (with_reducible first | exact HB.out | apply below_alloc | apply pw_below_drewN | apply below_drew1) | exact HB.out)) hb); have n1_ := Aside0.mk (hbox); have n2_ := Aside0.mk ((by rw [hg]; exact (below_size (by repeat (first | (with_reducible first | exact HB.out | apply below_alloc | apply pw_below_drewN | apply below_drew1) | exact HB.out))) : w.heap.size ≤ gb258)); have n3_ := Aside0.mk ((by rw [hg]; exact (below_size (by repeat (first | (with_reducible first | exact HB.out | apply below_alloc | apply pw_below_drewN | apply below_drew1) | exact HB.out))) : w.heap.size ≤ gb258)); clear HB; have HB := n0_; have BK258 := n1_; have GW258 := n2_; have GE258 := n3_; clear n0_ n1_ n2_ n3_; clear hb hbox hg) | ((with_reducible refine gate_dst (N := 5) rfl ?_); refine box_event ?hg (N := 5) ?hd (cs := #[.int .i64 a2_0, .int .i64 a2_1]) (t := 25) ?hr ?_; (case hd => rfl); (case hg => rfl); (case hr => first | (go_simp; done) | (go_simp; rfl)); intro gb259 hg w57 hbox hb; have n0_ := Aside0.mk (blk_below (g := gb258) (o := .cells #[.int .i64 a0_0, .int .i64 a0_1] 25 (0, 0)) (by (with_reducible repeat (first | refine blk_drewN ?_ _ | refine blk_drew ?_ | refine blk_alloc ?_ _)); exact BK258.out) hb); have n1_ := Aside0.mk (below_step (by repeat (first | (with_reducible first | exact HB.out | apply below_alloc | apply pw_below_drewN | apply below_drew1 | refine below_set ?_ GE258.out) | exact HB.out)) hb); have n2_ := Aside0.mk (hbox); have n3_ := Aside0.mk ((by rw [hg]; exact (below_size (by repeat (first | (with_reducible first | exact HB.out | apply below_alloc | apply pw_below_drewN | apply below_drew1 | refine below_set ?_ GE258.out) | exact HB.out))) : w.heap.size ≤ gb259)); have n4_ := Aside0.mk ((by rw [hg]; exact (below_size (by repeat (first | (with_reducible first | exact HB.out | apply below_alloc | apply pw_below_drewN | apply below_drew1 | refine below_set ?_ GE258.out) | exact HB.out))) : w.heap.size ≤ gb259)); have n5_ := Aside0.mk ((by rw [hg]; exact Nat.ne_of_lt (blk_lt (g := gb258) (o := .cells #[.int .i64 a0_0, .int .i64 a0_1] 25 (0, 0)) (by (with_reducible repeat (first | refine blk_drewN ?_ _ | refine blk_drew ?_ | refine blk_alloc ?_ _)); exact BK258.out)) : gb258 ≠ gb259)); have n6_ := Aside0.mk ((by rw [hg]; exact Nat.ne_of_gt (blk_lt (g := gb258) (o := .cells #[.int .i64 a0_0, .int .i64 a0_1] 25 (0, 0)) (by (with_reducible repeat (first | refine blk_drewN ?_ _ | refine blk_drew ?_ | refine blk_alloc ?_ _)); exact BK258.out)) : gb259 ≠ gb258)); clear BK258; clear HB; have BK258 := n0_; have HB := n1_; have BK259 := n2_; have GW259 := n3_; have GE259 := n4_; have NB258_259 := n5_; have NB259_258 := n6_; clear n0_ n1_ n2_ n3_ n4_ n5_ n6_; clear hb hbox hg) | ((with_reducible refine gate_callee (f := 37) rfl ?_); refine goesL_ (some 9) rfl rfl Try.func37 (by kernel_rfl) rfl #[] rfl (by (try simp only [List.map_toArray, List.map_cons, List.map_nil]); first | done | rfl | (simp only [List.length_drop, List.length_take]; rfl)) ?_; (with_reducible refine (furlonglaw02_awake.calls k  true _ A4.out).mono ?_); rintro e w58 ⟨rfl, hb⟩; refine ⟨_, rfl, ?_⟩; have n0_ := Aside0.mk (blk_below (g := gb258) (o := .cells #[.int .i64 a0_0, .int .i64 a0_1] 25 (0, 0)) (by (with_reducible repeat (first | refine blk_drewN ?_ _ | refine blk_drew ?_ | refine blk_alloc ?_ _)); exact BK258.out) hb); have n1_ := Aside0.mk (blk_below (g := gb259) (o := .cells #[.int .i64 a2_0, .int .i64 a2_1] 25 (0, 0)) (by (with_reducible repeat (first | refine blk_drewN ?_ _ | refine blk_drew ?_ | refine blk_alloc ?_ _)); exact BK259.out) hb); have n2_ := Aside0.mk (below_step (by repeat (first | (with_reducible first | exact HB.out | apply below_alloc | apply pw_below_drewN | apply below_drew1 | refine below_set ?_ GE258.out | refine below_set ?_ GE259.out) | exact HB.out)) hb); clear BK258; clear BK259; clear HB; have BK258 := n0_; have BK259 := n1_; have HB := n2_; clear n0_ n1_ n2_; (try clear hb); (try clear hb2); (try clear hk); (try clear hi); have hnb59 := NB258_259.out; have hnc59 := NB259_258.out; have hcz60_0 : w58.cell? ⟨gb258, 0, none⟩ = some (.int .i64 a0_0) := (blk_cell BK258.out 0).trans rfl; have hcz60_1 : w58.cell? ⟨gb258, 1, none⟩ = some (.int .i64 a0_1) := (blk_cell BK258.out 1).trans rfl; have hfz60_0 := blk_frozen BK258.out 0; have hfz60_1 := blk_frozen BK258.out 1; have hcz61_0 : w58.cell? ⟨gb259, 0, none⟩ = some (.int .i64 a2_0) := (blk_cell BK259.out 0).trans rfl; have hcz61_1 : w58.cell? ⟨gb259, 1, none⟩ = some (.int .i64 a2_1) := (blk_cell BK259.out 1).trans rfl; have hfz61_0 := blk_frozen BK259.out 0; have hfz61_1 := blk_frozen BK259.out 1) | ((with_reducible refine gate_dst (N := 13) rfl ?_); refine Kd.R_lit k25 _ 25 ?hg (N := 13) ?hd (xs := ([(⟨a0_0, a0_1⟩ : S25), (⟨a2_0, a2_1⟩ : S25)] : List (S25))) (inner := [.int .i64 a0_0, .int .i64 a0_1, .int .i64 a2_0, .int .i64 a2_1]) (ok := fun _ => True) (okp := fun _ => True) ?hr ?hp (fun _ hk => hk) trivial (Below.refl _ _) (Nat.le_refl _) (by simp) ?_; (case hd => rfl); (case hg => rfl); (case hr => first | (go_simp; done) | (go_simp; rfl)); (case hp => exact (Reps.c2 (show Kd.M k25 _ _ _ (⟨a0_0, a0_1⟩ : S25) [.int .i64 a0_0, .int .i64 a0_1] from (k25_mkM _ _ _ (⟨a0_0, a0_1⟩ : S25) )) (Reps.c2 (show Kd.M k25 _ _ _ (⟨a2_0, a2_1⟩ : S25) [.int .i64 a2_0, .int .i64 a2_1] from (k25_mkM _ _ _ (⟨a2_0, a2_1⟩ : S25) )) (Reps.none _ _)))); intro v262 w62 ho63 hb hg_ hnew_; clear hg_ hnew_; (first | rw [← Ny261.out] at ho63 | (simp only [Int.reduceToNat] at ho63; rw [← Ny261.out] at ho63)); have n0_ := Aside0.mk (Kd.R_lower (Kd.R_newB (Kd.R_newB ho63 (g := gb258) (o := .cells #[.int .i64 a0_0, .int .i64 a0_1] 25 (0, 0)) (by (with_reducible repeat (first | refine blk_drewN ?_ _ | refine blk_drew ?_ | refine blk_alloc ?_ _)); exact BK258.out)) (g := gb259) (o := .cells #[.int .i64 a2_0, .int .i64 a2_1] 25 (0, 0)) (by (with_reducible repeat (first | refine blk_drewN ?_ _ | refine blk_drew ?_ | refine blk_alloc ?_ _)); exact BK259.out)) (below_size (by repeat (first | (with_reducible first | exact HB.out | apply below_alloc | apply pw_below_drewN | apply below_drew1 | refine below_set ?_ GE258.out | refine below_set ?_ GE259.out) | exact HB.out)))); have n1_ := Aside0.mk (blk_below (g := gb258) (o := .cells #[.int .i64 a0_0, .int .i64 a0_1] 25 (0, 0)) (by (with_reducible repeat (first | refine blk_drewN ?_ _ | refine blk_drew ?_ | refine blk_alloc ?_ _)); exact BK258.out) hb); have n2_ := Aside0.mk (blk_below (g := gb259) (o := .cells #[.int .i64 a2_0, .int .i64 a2_1] 25 (0, 0)) (by (with_reducible repeat (first | refine blk_drewN ?_ _ | refine blk_drew ?_ | refine blk_alloc ?_ _)); exact BK259.out) hb); have n3_ := Aside0.mk (below_step (by repeat (first | (with_reducible first | exact HB.out | apply below_alloc | apply pw_below_drewN | apply below_drew1 | refine below_set ?_ GE258.out | refine below_set ?_ GE259.out) | exact HB.out)) hb); clear BK258; clear BK259; clear HB; have HO263 := n0_; have BK258 := n1_; have BK259 := n2_; have HB := n3_; clear n0_ n1_ n2_ n3_; clear hb ho63; obtain ⟨Ao64, co64, eo64⟩ := Kd.R_slice HO263.out; subst eo64) | ((with_reducible refine gate_callee (f := 45) rfl ?_); refine goesL_ (some 14) rfl rfl Try.func45 (by kernel_rfl) rfl #[.slice Ao64 y261.length co64] rfl (by (try simp only [List.map_toArray, List.map_cons, List.map_nil]); first | done | rfl | (simp only [List.length_drop, List.length_take]; rfl)) ?_; (with_reducible refine (furlongref02_Check.calls k _ _ y261 t264 _ ?side1 ?side2 A6.out).mono ?_); (case side1 => repeat (first | exact (Kd.R_reads' HO263.out).2.2 | (with_reducible refine Kd.C_alloc ?_ _) | (with_reducible refine Kd.C_drewN ?_ _) | (with_reducible refine Kd.C_drew ?_))); (case side2 => exact (Kd.R_reads' HO263.out).2.1); rintro e w65 ⟨rfl, hb⟩; refine ⟨_, rfl, ?_⟩; have n0_ := Aside0.mk (Kd.R_below (by (with_reducible repeat (first | apply Kd.R_alloc | apply Kd.R_drewN | apply Kd.R_drew)); exact HO263.out) hb); have n1_ := Aside0.mk (blk_below (g := gb258) (o := .cells #[.int .i64 a0_0, .int .i64 a0_1] 25 (0, 0)) (by (with_reducible repeat (first | refine blk_drewN ?_ _ | refine blk_drew ?_ | refine blk_alloc ?_ _)); exact BK258.out) hb); have n2_ := Aside0.mk (blk_below (g := gb259) (o := .cells #[.int .i64 a2_0, .int .i64 a2_1] 25 (0, 0)) (by (with_reducible repeat (first | refine blk_drewN ?_ _ | refine blk_drew ?_ | refine blk_alloc ?_ _)); exact BK259.out) hb); have n3_ := Aside0.mk (below_step (by repeat (first | (with_reducible first | exact HB.out | apply below_alloc | apply pw_below_drewN | apply below_drew1 | refine below_set ?_ GE258.out | refine below_set ?_ GE259.out) | exact HB.out)) hb); clear HO263; clear BK258; clear BK259; clear HB; have HO263 := n0_; have BK258 := n1_; have BK259 := n2_; have HB := n3_; clear n0_ n1_ n2_ n3_; (try clear hb); (try clear hb2); (try clear hk); (try clear hi); have hcz66_0 : w65.cell? ⟨gb258, 0, none⟩ = some (.int .i64 a0_0) := (blk_cell BK258.out 0).trans rfl; have hcz66_1 : w65.cell? ⟨gb258, 1, none⟩ = some (.int .i64 a0_1) := (blk_cell BK258.out 1).trans rfl; have hfz66_0 := blk_frozen BK258.out 0; have hfz66_1 := blk_frozen BK258.out 1; have hcz67_0 : w65.cell? ⟨gb259, 0, none⟩ = some (.int .i64 a2_0) := (blk_cell BK259.out 0).trans rfl; have hcz67_1 : w65.cell? ⟨gb259, 1, none⟩ = some (.int .i64 a2_1) := (blk_cell BK259.out 1).trans rfl; have hfz67_0 := blk_frozen BK259.out 0; have hfz67_1 := blk_frozen BK259.out 1) | ((with_reducible refine gate_callee (f := 51) rfl ?_); refine goesL_ (some 47) rfl rfl Try.func51 (by kernel_rfl) rfl #[.agg #[.int .i64 a0_0, .int .i64 a0_1], .int .i64 a1, .agg #[.int .i64 (wrap64 (2 * a0_0)), .int .i64 (wrap64 (2 * a0_1))], .int .i64 (wrap64 (2 * a1)), .agg #[.int .i64 a2_0, .int .i64 a2_1]] rfl (by (try simp only [List.map_toArray, List.map_cons, List.map_nil]); first | done | rfl | (simp only [List.length_drop, List.length_take]; rfl)) ?_; (with_reducible refine (vec_Less.calls k a0_0 a0_1 a1 (wrap64 (2 * a0_0)) (wrap64 (2 * a0_1)) (wrap64 (2 * a1)) a2_0 a2_1 t265 t266 _ A54.out).mono ?_); rintro e w68 ⟨rfl, hb⟩; refine ⟨_, rfl, ?_⟩; have n0_ := Aside0.mk (Kd.R_below (by (with_reducible repeat (first | apply Kd.R_alloc | apply Kd.R_drewN | apply Kd.R_drew)); exact HO263.out) hb); have n1_ := Aside0.mk (blk_below (g := gb258) (o := .cells #[.int .i64 a0_0, .int .i64 a0_1] 25 (0, 0)) (by (with_reducible repeat (first | refine blk_drewN ?_ _ | refine blk_drew ?_ | refine blk_alloc ?_ _)); exact BK258.out) hb); have n2_ := Aside0.mk (blk_below (g := gb259) (o := .cells #[.int .i64 a2_0, .int .i64 a2_1] 25 (0, 0)) (by (with_reducible repeat (first | refine blk_drewN ?_ _ | refine blk_drew ?_ | refine blk_alloc ?_ _)); exact BK259.out) hb); have n3_ := Aside0.mk (below_step (by repeat (first | (with_reducible first | exact HB.out | apply below_alloc | apply pw_below_drewN | apply below_drew1 | refine below_set ?_ GE258.out | refine below_set ?_ GE259.out) | exact HB.out)) hb); clear HO263; clear BK258; clear BK259; clear HB; have HO263 := n0_; have BK258 := n1_; have BK259 := n2_; have HB := n3_; clear n0_ n1_ n2_ n3_; (try clear hb); (try clear hb2); (try clear hk); (try clear hi)))
                go_ret
                exact ⟨by first | rfl | (simp [errW_none, errW_some] <;> rfl) | (simp [*, errW_none, errW_some] <;> rfl), by repeat (first | (with_reducible first | exact HB.out | apply below_alloc | apply pw_below_drewN | apply below_drew1 | refine below_set ?_ GE258.out | refine below_set ?_ GE259.out) | exact HB.out)⟩
              · rw [if_neg c55] at H
                have c55b0 : (t266 == 0) = false := beq_eq_false_iff_ne.mpr c55
                have c55b1 : (t266 != 0) = true := bne_iff_ne.mpr c55
                obtain rfl := Option.some.inj H
                go_enter Try.func13, Try.ntmps13
                go_wp2_with (first | ((with_reducible refine gate_dst (N := 3) rfl ?_); refine box_event ?hg (N := 3) ?hd (cs := #[.int .i64 a0_0, .int .i64 a0_1]) (t := 25) ?hr ?_; (case hd => rfl); (case hg => rfl); (case hr => first | (go_simp; done) | (go_simp; rfl)); intro gb258 hg w69 hbox hb; have n0_ := Aside0.mk (below_step (by repeat (first | (with_reducible first | exact HB.out | apply below_alloc | apply pw_below_drewN | apply below_drew1) | exact HB.out)) hb); have n1_ := Aside0.mk (hbox); have n2_ := Aside0.mk ((by rw [hg]; exact (below_size (by repeat (first | (with_reducible first | exact HB.out | apply below_alloc | apply pw_below_drewN | apply below_drew1) | exact HB.out))) : w.heap.size ≤ gb258)); have n3_ := Aside0.mk ((by rw [hg]; exact (below_size (by repeat (first | (with_reducible first | exact HB.out | apply below_alloc | apply pw_below_drewN | apply below_drew1) | exact HB.out))) : w.heap.size ≤ gb258)); clear HB; have HB := n0_; have BK258 := n1_; have GW258 := n2_; have GE258 := n3_; clear n0_ n1_ n2_ n3_; clear hb hbox hg) | ((with_reducible refine gate_dst (N := 5) rfl ?_); refine box_event ?hg (N := 5) ?hd (cs := #[.int .i64 a2_0, .int .i64 a2_1]) (t := 25) ?hr ?_; (case hd => rfl); (case hg => rfl); (case hr => first | (go_simp; done) | (go_simp; rfl)); intro gb259 hg w70 hbox hb; have n0_ := Aside0.mk (blk_below (g := gb258) (o := .cells #[.int .i64 a0_0, .int .i64 a0_1] 25 (0, 0)) (by (with_reducible repeat (first | refine blk_drewN ?_ _ | refine blk_drew ?_ | refine blk_alloc ?_ _)); exact BK258.out) hb); have n1_ := Aside0.mk (below_step (by repeat (first | (with_reducible first | exact HB.out | apply below_alloc | apply pw_below_drewN | apply below_drew1 | refine below_set ?_ GE258.out) | exact HB.out)) hb); have n2_ := Aside0.mk (hbox); have n3_ := Aside0.mk ((by rw [hg]; exact (below_size (by repeat (first | (with_reducible first | exact HB.out | apply below_alloc | apply pw_below_drewN | apply below_drew1 | refine below_set ?_ GE258.out) | exact HB.out))) : w.heap.size ≤ gb259)); have n4_ := Aside0.mk ((by rw [hg]; exact (below_size (by repeat (first | (with_reducible first | exact HB.out | apply below_alloc | apply pw_below_drewN | apply below_drew1 | refine below_set ?_ GE258.out) | exact HB.out))) : w.heap.size ≤ gb259)); have n5_ := Aside0.mk ((by rw [hg]; exact Nat.ne_of_lt (blk_lt (g := gb258) (o := .cells #[.int .i64 a0_0, .int .i64 a0_1] 25 (0, 0)) (by (with_reducible repeat (first | refine blk_drewN ?_ _ | refine blk_drew ?_ | refine blk_alloc ?_ _)); exact BK258.out)) : gb258 ≠ gb259)); have n6_ := Aside0.mk ((by rw [hg]; exact Nat.ne_of_gt (blk_lt (g := gb258) (o := .cells #[.int .i64 a0_0, .int .i64 a0_1] 25 (0, 0)) (by (with_reducible repeat (first | refine blk_drewN ?_ _ | refine blk_drew ?_ | refine blk_alloc ?_ _)); exact BK258.out)) : gb259 ≠ gb258)); clear BK258; clear HB; have BK258 := n0_; have HB := n1_; have BK259 := n2_; have GW259 := n3_; have GE259 := n4_; have NB258_259 := n5_; have NB259_258 := n6_; clear n0_ n1_ n2_ n3_ n4_ n5_ n6_; clear hb hbox hg) | ((with_reducible refine gate_callee (f := 37) rfl ?_); refine goesL_ (some 9) rfl rfl Try.func37 (by kernel_rfl) rfl #[] rfl (by (try simp only [List.map_toArray, List.map_cons, List.map_nil]); first | done | rfl | (simp only [List.length_drop, List.length_take]; rfl)) ?_; (with_reducible refine (furlonglaw02_awake.calls k  true _ A4.out).mono ?_); rintro e w71 ⟨rfl, hb⟩; refine ⟨_, rfl, ?_⟩; have n0_ := Aside0.mk (blk_below (g := gb258) (o := .cells #[.int .i64 a0_0, .int .i64 a0_1] 25 (0, 0)) (by (with_reducible repeat (first | refine blk_drewN ?_ _ | refine blk_drew ?_ | refine blk_alloc ?_ _)); exact BK258.out) hb); have n1_ := Aside0.mk (blk_below (g := gb259) (o := .cells #[.int .i64 a2_0, .int .i64 a2_1] 25 (0, 0)) (by (with_reducible repeat (first | refine blk_drewN ?_ _ | refine blk_drew ?_ | refine blk_alloc ?_ _)); exact BK259.out) hb); have n2_ := Aside0.mk (below_step (by repeat (first | (with_reducible first | exact HB.out | apply below_alloc | apply pw_below_drewN | apply below_drew1 | refine below_set ?_ GE258.out | refine below_set ?_ GE259.out) | exact HB.out)) hb); clear BK258; clear BK259; clear HB; have BK258 := n0_; have BK259 := n1_; have HB := n2_; clear n0_ n1_ n2_; (try clear hb); (try clear hb2); (try clear hk); (try clear hi); have hnb72 := NB258_259.out; have hnc72 := NB259_258.out; have hcz73_0 : w71.cell? ⟨gb258, 0, none⟩ = some (.int .i64 a0_0) := (blk_cell BK258.out 0).trans rfl; have hcz73_1 : w71.cell? ⟨gb258, 1, none⟩ = some (.int .i64 a0_1) := (blk_cell BK258.out 1).trans rfl; have hfz73_0 := blk_frozen BK258.out 0; have hfz73_1 := blk_frozen BK258.out 1; have hcz74_0 : w71.cell? ⟨gb259, 0, none⟩ = some (.int .i64 a2_0) := (blk_cell BK259.out 0).trans rfl; have hcz74_1 : w71.cell? ⟨gb259, 1, none⟩ = some (.int .i64 a2_1) := (blk_cell BK259.out 1).trans rfl; have hfz74_0 := blk_frozen BK259.out 0; have hfz74_1 := blk_frozen BK259.out 1) | ((with_reducible refine gate_dst (N := 13) rfl ?_); refine Kd.R_lit k25 _ 25 ?hg (N := 13) ?hd (xs := ([(⟨a0_0, a0_1⟩ : S25), (⟨a2_0, a2_1⟩ : S25)] : List (S25))) (inner := [.int .i64 a0_0, .int .i64 a0_1, .int .i64 a2_0, .int .i64 a2_1]) (ok := fun _ => True) (okp := fun _ => True) ?hr ?hp (fun _ hk => hk) trivial (Below.refl _ _) (Nat.le_refl _) (by simp) ?_; (case hd => rfl); (case hg => rfl); (case hr => first | (go_simp; done) | (go_simp; rfl)); (case hp => exact (Reps.c2 (show Kd.M k25 _ _ _ (⟨a0_0, a0_1⟩ : S25) [.int .i64 a0_0, .int .i64 a0_1] from (k25_mkM _ _ _ (⟨a0_0, a0_1⟩ : S25) )) (Reps.c2 (show Kd.M k25 _ _ _ (⟨a2_0, a2_1⟩ : S25) [.int .i64 a2_0, .int .i64 a2_1] from (k25_mkM _ _ _ (⟨a2_0, a2_1⟩ : S25) )) (Reps.none _ _)))); intro v262 w75 ho76 hb hg_ hnew_; clear hg_ hnew_; (first | rw [← Ny261.out] at ho76 | (simp only [Int.reduceToNat] at ho76; rw [← Ny261.out] at ho76)); have n0_ := Aside0.mk (Kd.R_lower (Kd.R_newB (Kd.R_newB ho76 (g := gb258) (o := .cells #[.int .i64 a0_0, .int .i64 a0_1] 25 (0, 0)) (by (with_reducible repeat (first | refine blk_drewN ?_ _ | refine blk_drew ?_ | refine blk_alloc ?_ _)); exact BK258.out)) (g := gb259) (o := .cells #[.int .i64 a2_0, .int .i64 a2_1] 25 (0, 0)) (by (with_reducible repeat (first | refine blk_drewN ?_ _ | refine blk_drew ?_ | refine blk_alloc ?_ _)); exact BK259.out)) (below_size (by repeat (first | (with_reducible first | exact HB.out | apply below_alloc | apply pw_below_drewN | apply below_drew1 | refine below_set ?_ GE258.out | refine below_set ?_ GE259.out) | exact HB.out)))); have n1_ := Aside0.mk (blk_below (g := gb258) (o := .cells #[.int .i64 a0_0, .int .i64 a0_1] 25 (0, 0)) (by (with_reducible repeat (first | refine blk_drewN ?_ _ | refine blk_drew ?_ | refine blk_alloc ?_ _)); exact BK258.out) hb); have n2_ := Aside0.mk (blk_below (g := gb259) (o := .cells #[.int .i64 a2_0, .int .i64 a2_1] 25 (0, 0)) (by (with_reducible repeat (first | refine blk_drewN ?_ _ | refine blk_drew ?_ | refine blk_alloc ?_ _)); exact BK259.out) hb); have n3_ := Aside0.mk (below_step (by repeat (first | (with_reducible first | exact HB.out | apply below_alloc | apply pw_below_drewN | apply below_drew1 | refine below_set ?_ GE258.out | refine below_set ?_ GE259.out) | exact HB.out)) hb); clear BK258; clear BK259; clear HB; have HO263 := n0_; have BK258 := n1_; have BK259 := n2_; have HB := n3_; clear n0_ n1_ n2_ n3_; clear hb ho76; obtain ⟨Ao77, co77, eo77⟩ := Kd.R_slice HO263.out; subst eo77) | ((with_reducible refine gate_callee (f := 45) rfl ?_); refine goesL_ (some 14) rfl rfl Try.func45 (by kernel_rfl) rfl #[.slice Ao77 y261.length co77] rfl (by (try simp only [List.map_toArray, List.map_cons, List.map_nil]); first | done | rfl | (simp only [List.length_drop, List.length_take]; rfl)) ?_; (with_reducible refine (furlongref02_Check.calls k _ _ y261 t264 _ ?side1 ?side2 A6.out).mono ?_); (case side1 => repeat (first | exact (Kd.R_reads' HO263.out).2.2 | (with_reducible refine Kd.C_alloc ?_ _) | (with_reducible refine Kd.C_drewN ?_ _) | (with_reducible refine Kd.C_drew ?_))); (case side2 => exact (Kd.R_reads' HO263.out).2.1); rintro e w78 ⟨rfl, hb⟩; refine ⟨_, rfl, ?_⟩; have n0_ := Aside0.mk (Kd.R_below (by (with_reducible repeat (first | apply Kd.R_alloc | apply Kd.R_drewN | apply Kd.R_drew)); exact HO263.out) hb); have n1_ := Aside0.mk (blk_below (g := gb258) (o := .cells #[.int .i64 a0_0, .int .i64 a0_1] 25 (0, 0)) (by (with_reducible repeat (first | refine blk_drewN ?_ _ | refine blk_drew ?_ | refine blk_alloc ?_ _)); exact BK258.out) hb); have n2_ := Aside0.mk (blk_below (g := gb259) (o := .cells #[.int .i64 a2_0, .int .i64 a2_1] 25 (0, 0)) (by (with_reducible repeat (first | refine blk_drewN ?_ _ | refine blk_drew ?_ | refine blk_alloc ?_ _)); exact BK259.out) hb); have n3_ := Aside0.mk (below_step (by repeat (first | (with_reducible first | exact HB.out | apply below_alloc | apply pw_below_drewN | apply below_drew1 | refine below_set ?_ GE258.out | refine below_set ?_ GE259.out) | exact HB.out)) hb); clear HO263; clear BK258; clear BK259; clear HB; have HO263 := n0_; have BK258 := n1_; have BK259 := n2_; have HB := n3_; clear n0_ n1_ n2_ n3_; (try clear hb); (try clear hb2); (try clear hk); (try clear hi); have hcz79_0 : w78.cell? ⟨gb258, 0, none⟩ = some (.int .i64 a0_0) := (blk_cell BK258.out 0).trans rfl; have hcz79_1 : w78.cell? ⟨gb258, 1, none⟩ = some (.int .i64 a0_1) := (blk_cell BK258.out 1).trans rfl; have hfz79_0 := blk_frozen BK258.out 0; have hfz79_1 := blk_frozen BK258.out 1; have hcz80_0 : w78.cell? ⟨gb259, 0, none⟩ = some (.int .i64 a2_0) := (blk_cell BK259.out 0).trans rfl; have hcz80_1 : w78.cell? ⟨gb259, 1, none⟩ = some (.int .i64 a2_1) := (blk_cell BK259.out 1).trans rfl; have hfz80_0 := blk_frozen BK259.out 0; have hfz80_1 := blk_frozen BK259.out 1) | ((with_reducible refine gate_callee (f := 51) rfl ?_); refine goesL_ (some 47) rfl rfl Try.func51 (by kernel_rfl) rfl #[.agg #[.int .i64 a0_0, .int .i64 a0_1], .int .i64 a1, .agg #[.int .i64 (wrap64 (2 * a0_0)), .int .i64 (wrap64 (2 * a0_1))], .int .i64 (wrap64 (2 * a1)), .agg #[.int .i64 a2_0, .int .i64 a2_1]] rfl (by (try simp only [List.map_toArray, List.map_cons, List.map_nil]); first | done | rfl | (simp only [List.length_drop, List.length_take]; rfl)) ?_; (with_reducible refine (vec_Less.calls k a0_0 a0_1 a1 (wrap64 (2 * a0_0)) (wrap64 (2 * a0_1)) (wrap64 (2 * a1)) a2_0 a2_1 t265 t266 _ A54.out).mono ?_); rintro e w81 ⟨rfl, hb⟩; refine ⟨_, rfl, ?_⟩; have n0_ := Aside0.mk (Kd.R_below (by (with_reducible repeat (first | apply Kd.R_alloc | apply Kd.R_drewN | apply Kd.R_drew)); exact HO263.out) hb); have n1_ := Aside0.mk (blk_below (g := gb258) (o := .cells #[.int .i64 a0_0, .int .i64 a0_1] 25 (0, 0)) (by (with_reducible repeat (first | refine blk_drewN ?_ _ | refine blk_drew ?_ | refine blk_alloc ?_ _)); exact BK258.out) hb); have n2_ := Aside0.mk (blk_below (g := gb259) (o := .cells #[.int .i64 a2_0, .int .i64 a2_1] 25 (0, 0)) (by (with_reducible repeat (first | refine blk_drewN ?_ _ | refine blk_drew ?_ | refine blk_alloc ?_ _)); exact BK259.out) hb); have n3_ := Aside0.mk (below_step (by repeat (first | (with_reducible first | exact HB.out | apply below_alloc | apply pw_below_drewN | apply below_drew1 | refine below_set ?_ GE258.out | refine below_set ?_ GE259.out) | exact HB.out)) hb); clear HO263; clear BK258; clear BK259; clear HB; have HO263 := n0_; have BK258 := n1_; have BK259 := n2_; have HB := n3_; clear n0_ n1_ n2_ n3_; (try clear hb); (try clear hb2); (try clear hk); (try clear hi)))
                go_ret
                exact ⟨by first | rfl | (simp [errW_none, errW_some] <;> rfl) | (simp [*, errW_none, errW_some] <;> rfl), by repeat (first | (with_reducible first | exact HB.out | apply below_alloc | apply pw_below_drewN | apply below_drew1 | refine below_set ?_ GE258.out | refine below_set ?_ GE259.out) | exact HB.out)⟩
    · rw [if_neg c7] at H
      have c7b0 : (t264 == 0) = false := beq_eq_false_iff_ne.mpr c7
      have c7b1 : (t264 != 0) = true := bne_iff_ne.mpr c7
      obtain rfl := Option.some.inj H
      go_enter Try.func13, Try.ntmps13
      go_wp2_with (first | ((with_reducible refine gate_dst (N := 3) rfl ?_); refine box_event ?hg (N := 3) ?hd (cs := #[.int .i64 a0_0, .int .i64 a0_1]) (t := 25) ?hr ?_; (case hd => rfl); (case hg => rfl); (case hr => first | (go_simp; done) | (go_simp; rfl)); intro gb258 hg w82 hbox hb; have n0_ := Aside0.mk (below_step (by repeat (first | (with_reducible first | exact HB.out | apply below_alloc | apply pw_below_drewN | apply below_drew1) | exact HB.out)) hb); have n1_ := Aside0.mk (hbox); have n2_ := Aside0.mk ((by rw [hg]; exact (below_size (by repeat (first | (with_reducible first | exact HB.out | apply below_alloc | apply pw_below_drewN | apply below_drew1) | exact HB.out))) : w.heap.size ≤ gb258)); have n3_ := Aside0.mk ((by rw [hg]; exact (below_size (by repeat (first | (with_reducible first | exact HB.out | apply below_alloc | apply pw_below_drewN | apply below_drew1) | exact HB.out))) : w.heap.size ≤ gb258)); clear HB; have HB := n0_; have BK258 := n1_; have GW258 := n2_; have GE258 := n3_; clear n0_ n1_ n2_ n3_; clear hb hbox hg) | ((with_reducible refine gate_dst (N := 5) rfl ?_); refine box_event ?hg (N := 5) ?hd (cs := #[.int .i64 a2_0, .int .i64 a2_1]) (t := 25) ?hr ?_; (case hd => rfl); (case hg => rfl); (case hr => first | (go_simp; done) | (go_simp; rfl)); intro gb259 hg w83 hbox hb; have n0_ := Aside0.mk (blk_below (g := gb258) (o := .cells #[.int .i64 a0_0, .int .i64 a0_1] 25 (0, 0)) (by (with_reducible repeat (first | refine blk_drewN ?_ _ | refine blk_drew ?_ | refine blk_alloc ?_ _)); exact BK258.out) hb); have n1_ := Aside0.mk (below_step (by repeat (first | (with_reducible first | exact HB.out | apply below_alloc | apply pw_below_drewN | apply below_drew1 | refine below_set ?_ GE258.out) | exact HB.out)) hb); have n2_ := Aside0.mk (hbox); have n3_ := Aside0.mk ((by rw [hg]; exact (below_size (by repeat (first | (with_reducible first | exact HB.out | apply below_alloc | apply pw_below_drewN | apply below_drew1 | refine below_set ?_ GE258.out) | exact HB.out))) : w.heap.size ≤ gb259)); have n4_ := Aside0.mk ((by rw [hg]; exact (below_size (by repeat (first | (with_reducible first | exact HB.out | apply below_alloc | apply pw_below_drewN | apply below_drew1 | refine below_set ?_ GE258.out) | exact HB.out))) : w.heap.size ≤ gb259)); have n5_ := Aside0.mk ((by rw [hg]; exact Nat.ne_of_lt (blk_lt (g := gb258) (o := .cells #[.int .i64 a0_0, .int .i64 a0_1] 25 (0, 0)) (by (with_reducible repeat (first | refine blk_drewN ?_ _ | refine blk_drew ?_ | refine blk_alloc ?_ _)); exact BK258.out)) : gb258 ≠ gb259)); have n6_ := Aside0.mk ((by rw [hg]; exact Nat.ne_of_gt (blk_lt (g := gb258) (o := .cells #[.int .i64 a0_0, .int .i64 a0_1] 25 (0, 0)) (by (with_reducible repeat (first | refine blk_drewN ?_ _ | refine blk_drew ?_ | refine blk_alloc ?_ _)); exact BK258.out)) : gb259 ≠ gb258)); clear BK258; clear HB; have BK258 := n0_; have HB := n1_; have BK259 := n2_; have GW259 := n3_; have GE259 := n4_; have NB258_259 := n5_; have NB259_258 := n6_; clear n0_ n1_ n2_ n3_ n4_ n5_ n6_; clear hb hbox hg) | ((with_reducible refine gate_callee (f := 37) rfl ?_); refine goesL_ (some 9) rfl rfl Try.func37 (by kernel_rfl) rfl #[] rfl (by (try simp only [List.map_toArray, List.map_cons, List.map_nil]); first | done | rfl | (simp only [List.length_drop, List.length_take]; rfl)) ?_; (with_reducible refine (furlonglaw02_awake.calls k  true _ A4.out).mono ?_); rintro e w84 ⟨rfl, hb⟩; refine ⟨_, rfl, ?_⟩; have n0_ := Aside0.mk (blk_below (g := gb258) (o := .cells #[.int .i64 a0_0, .int .i64 a0_1] 25 (0, 0)) (by (with_reducible repeat (first | refine blk_drewN ?_ _ | refine blk_drew ?_ | refine blk_alloc ?_ _)); exact BK258.out) hb); have n1_ := Aside0.mk (blk_below (g := gb259) (o := .cells #[.int .i64 a2_0, .int .i64 a2_1] 25 (0, 0)) (by (with_reducible repeat (first | refine blk_drewN ?_ _ | refine blk_drew ?_ | refine blk_alloc ?_ _)); exact BK259.out) hb); have n2_ := Aside0.mk (below_step (by repeat (first | (with_reducible first | exact HB.out | apply below_alloc | apply pw_below_drewN | apply below_drew1 | refine below_set ?_ GE258.out | refine below_set ?_ GE259.out) | exact HB.out)) hb); clear BK258; clear BK259; clear HB; have BK258 := n0_; have BK259 := n1_; have HB := n2_; clear n0_ n1_ n2_; (try clear hb); (try clear hb2); (try clear hk); (try clear hi); have hnb85 := NB258_259.out; have hnc85 := NB259_258.out; have hcz86_0 : w84.cell? ⟨gb258, 0, none⟩ = some (.int .i64 a0_0) := (blk_cell BK258.out 0).trans rfl; have hcz86_1 : w84.cell? ⟨gb258, 1, none⟩ = some (.int .i64 a0_1) := (blk_cell BK258.out 1).trans rfl; have hfz86_0 := blk_frozen BK258.out 0; have hfz86_1 := blk_frozen BK258.out 1; have hcz87_0 : w84.cell? ⟨gb259, 0, none⟩ = some (.int .i64 a2_0) := (blk_cell BK259.out 0).trans rfl; have hcz87_1 : w84.cell? ⟨gb259, 1, none⟩ = some (.int .i64 a2_1) := (blk_cell BK259.out 1).trans rfl; have hfz87_0 := blk_frozen BK259.out 0; have hfz87_1 := blk_frozen BK259.out 1) | ((with_reducible refine gate_dst (N := 13) rfl ?_); refine Kd.R_lit k25 _ 25 ?hg (N := 13) ?hd (xs := ([(⟨a0_0, a0_1⟩ : S25), (⟨a2_0, a2_1⟩ : S25)] : List (S25))) (inner := [.int .i64 a0_0, .int .i64 a0_1, .int .i64 a2_0, .int .i64 a2_1]) (ok := fun _ => True) (okp := fun _ => True) ?hr ?hp (fun _ hk => hk) trivial (Below.refl _ _) (Nat.le_refl _) (by simp) ?_; (case hd => rfl); (case hg => rfl); (case hr => first | (go_simp; done) | (go_simp; rfl)); (case hp => exact (Reps.c2 (show Kd.M k25 _ _ _ (⟨a0_0, a0_1⟩ : S25) [.int .i64 a0_0, .int .i64 a0_1] from (k25_mkM _ _ _ (⟨a0_0, a0_1⟩ : S25) )) (Reps.c2 (show Kd.M k25 _ _ _ (⟨a2_0, a2_1⟩ : S25) [.int .i64 a2_0, .int .i64 a2_1] from (k25_mkM _ _ _ (⟨a2_0, a2_1⟩ : S25) )) (Reps.none _ _)))); intro v262 w88 ho89 hb hg_ hnew_; clear hg_ hnew_; (first | rw [← Ny261.out] at ho89 | (simp only [Int.reduceToNat] at ho89; rw [← Ny261.out] at ho89)); have n0_ := Aside0.mk (Kd.R_lower (Kd.R_newB (Kd.R_newB ho89 (g := gb258) (o := .cells #[.int .i64 a0_0, .int .i64 a0_1] 25 (0, 0)) (by (with_reducible repeat (first | refine blk_drewN ?_ _ | refine blk_drew ?_ | refine blk_alloc ?_ _)); exact BK258.out)) (g := gb259) (o := .cells #[.int .i64 a2_0, .int .i64 a2_1] 25 (0, 0)) (by (with_reducible repeat (first | refine blk_drewN ?_ _ | refine blk_drew ?_ | refine blk_alloc ?_ _)); exact BK259.out)) (below_size (by repeat (first | (with_reducible first | exact HB.out | apply below_alloc | apply pw_below_drewN | apply below_drew1 | refine below_set ?_ GE258.out | refine below_set ?_ GE259.out) | exact HB.out)))); have n1_ := Aside0.mk (blk_below (g := gb258) (o := .cells #[.int .i64 a0_0, .int .i64 a0_1] 25 (0, 0)) (by (with_reducible repeat (first | refine blk_drewN ?_ _ | refine blk_drew ?_ | refine blk_alloc ?_ _)); exact BK258.out) hb); have n2_ := Aside0.mk (blk_below (g := gb259) (o := .cells #[.int .i64 a2_0, .int .i64 a2_1] 25 (0, 0)) (by (with_reducible repeat (first | refine blk_drewN ?_ _ | refine blk_drew ?_ | refine blk_alloc ?_ _)); exact BK259.out) hb); have n3_ := Aside0.mk (below_step (by repeat (first | (with_reducible first | exact HB.out | apply below_alloc | apply pw_below_drewN | apply below_drew1 | refine below_set ?_ GE258.out | refine below_set ?_ GE259.out) | exact HB.out)) hb); clear BK258; clear BK259; clear HB; have HO263 := n0_; have BK258 := n1_; have BK259 := n2_; have HB := n3_; clear n0_ n1_ n2_ n3_; clear hb ho89; obtain ⟨Ao90, co90, eo90⟩ := Kd.R_slice HO263.out; subst eo90) | ((with_reducible refine gate_callee (f := 45) rfl ?_); refine goesL_ (some 14) rfl rfl Try.func45 (by kernel_rfl) rfl #[.slice Ao90 y261.length co90] rfl (by (try simp only [List.map_toArray, List.map_cons, List.map_nil]); first | done | rfl | (simp only [List.length_drop, List.length_take]; rfl)) ?_; (with_reducible refine (furlongref02_Check.calls k _ _ y261 t264 _ ?side1 ?side2 A6.out).mono ?_); (case side1 => repeat (first | exact (Kd.R_reads' HO263.out).2.2 | (with_reducible refine Kd.C_alloc ?_ _) | (with_reducible refine Kd.C_drewN ?_ _) | (with_reducible refine Kd.C_drew ?_))); (case side2 => exact (Kd.R_reads' HO263.out).2.1); rintro e w91 ⟨rfl, hb⟩; refine ⟨_, rfl, ?_⟩; have n0_ := Aside0.mk (Kd.R_below (by (with_reducible repeat (first | apply Kd.R_alloc | apply Kd.R_drewN | apply Kd.R_drew)); exact HO263.out) hb); have n1_ := Aside0.mk (blk_below (g := gb258) (o := .cells #[.int .i64 a0_0, .int .i64 a0_1] 25 (0, 0)) (by (with_reducible repeat (first | refine blk_drewN ?_ _ | refine blk_drew ?_ | refine blk_alloc ?_ _)); exact BK258.out) hb); have n2_ := Aside0.mk (blk_below (g := gb259) (o := .cells #[.int .i64 a2_0, .int .i64 a2_1] 25 (0, 0)) (by (with_reducible repeat (first | refine blk_drewN ?_ _ | refine blk_drew ?_ | refine blk_alloc ?_ _)); exact BK259.out) hb); have n3_ := Aside0.mk (below_step (by repeat (first | (with_reducible first | exact HB.out | apply below_alloc | apply pw_below_drewN | apply below_drew1 | refine below_set ?_ GE258.out | refine below_set ?_ GE259.out) | exact HB.out)) hb); clear HO263; clear BK258; clear BK259; clear HB; have HO263 := n0_; have BK258 := n1_; have BK259 := n2_; have HB := n3_; clear n0_ n1_ n2_ n3_; (try clear hb); (try clear hb2); (try clear hk); (try clear hi)))
      go_ret
      exact ⟨by first | rfl | (simp [errW_none, errW_some] <;> rfl) | (simp [*, errW_none, errW_some] <;> rfl), by repeat (first | (with_reducible first | exact HB.out | apply below_alloc | apply pw_below_drewN | apply below_drew1 | refine below_set ?_ GE258.out | refine below_set ?_ GE259.out) | exact HB.out)⟩
  · replace c5 := Bool.eq_false_iff.mpr c5
    subst c5
    have H1 : (some false) = some r := by rw [if_neg (show ¬ (false = true) by decide)] at H; exact H
    clear H
    have H := H1
    clear H1
    obtain rfl := Option.some.inj H
    go_enter Try.func13, Try.ntmps13
    go_wp2_with (first | ((with_reducible refine gate_dst (N := 3) rfl ?_); refine box_event ?hg (N := 3) ?hd (cs := #[.int .i64 a0_0, .int .i64 a0_1]) (t := 25) ?hr ?_; (case hd => rfl); (case hg => rfl); (case hr => first | (go_simp; done) | (go_simp; rfl)); intro gb258 hg w92 hbox hb; have n0_ := Aside0.mk (below_step (by repeat (first | (with_reducible first | exact HB.out | apply below_alloc | apply pw_below_drewN | apply below_drew1) | exact HB.out)) hb); have n1_ := Aside0.mk (hbox); have n2_ := Aside0.mk ((by rw [hg]; exact (below_size (by repeat (first | (with_reducible first | exact HB.out | apply below_alloc | apply pw_below_drewN | apply below_drew1) | exact HB.out))) : w.heap.size ≤ gb258)); have n3_ := Aside0.mk ((by rw [hg]; exact (below_size (by repeat (first | (with_reducible first | exact HB.out | apply below_alloc | apply pw_below_drewN | apply below_drew1) | exact HB.out))) : w.heap.size ≤ gb258)); clear HB; have HB := n0_; have BK258 := n1_; have GW258 := n2_; have GE258 := n3_; clear n0_ n1_ n2_ n3_; clear hb hbox hg) | ((with_reducible refine gate_dst (N := 5) rfl ?_); refine box_event ?hg (N := 5) ?hd (cs := #[.int .i64 a2_0, .int .i64 a2_1]) (t := 25) ?hr ?_; (case hd => rfl); (case hg => rfl); (case hr => first | (go_simp; done) | (go_simp; rfl)); intro gb259 hg w93 hbox hb; have n0_ := Aside0.mk (blk_below (g := gb258) (o := .cells #[.int .i64 a0_0, .int .i64 a0_1] 25 (0, 0)) (by (with_reducible repeat (first | refine blk_drewN ?_ _ | refine blk_drew ?_ | refine blk_alloc ?_ _)); exact BK258.out) hb); have n1_ := Aside0.mk (below_step (by repeat (first | (with_reducible first | exact HB.out | apply below_alloc | apply pw_below_drewN | apply below_drew1 | refine below_set ?_ GE258.out) | exact HB.out)) hb); have n2_ := Aside0.mk (hbox); have n3_ := Aside0.mk ((by rw [hg]; exact (below_size (by repeat (first | (with_reducible first | exact HB.out | apply below_alloc | apply pw_below_drewN | apply below_drew1 | refine below_set ?_ GE258.out) | exact HB.out))) : w.heap.size ≤ gb259)); have n4_ := Aside0.mk ((by rw [hg]; exact (below_size (by repeat (first | (with_reducible first | exact HB.out | apply below_alloc | apply pw_below_drewN | apply below_drew1 | refine below_set ?_ GE258.out) | exact HB.out))) : w.heap.size ≤ gb259)); have n5_ := Aside0.mk ((by rw [hg]; exact Nat.ne_of_lt (blk_lt (g := gb258) (o := .cells #[.int .i64 a0_0, .int .i64 a0_1] 25 (0, 0)) (by (with_reducible repeat (first | refine blk_drewN ?_ _ | refine blk_drew ?_ | refine blk_alloc ?_ _)); exact BK258.out)) : gb258 ≠ gb259)); have n6_ := Aside0.mk ((by rw [hg]; exact Nat.ne_of_gt (blk_lt (g := gb258) (o := .cells #[.int .i64 a0_0, .int .i64 a0_1] 25 (0, 0)) (by (with_reducible repeat (first | refine blk_drewN ?_ _ | refine blk_drew ?_ | refine blk_alloc ?_ _)); exact BK258.out)) : gb259 ≠ gb258)); clear BK258; clear HB; have BK258 := n0_; have HB := n1_; have BK259 := n2_; have GW259 := n3_; have GE259 := n4_; have NB258_259 := n5_; have NB259_258 := n6_; clear n0_ n1_ n2_ n3_ n4_ n5_ n6_; clear hb hbox hg) | ((with_reducible refine gate_callee (f := 37) rfl ?_); refine goesL_ (some 9) rfl rfl Try.func37 (by kernel_rfl) rfl #[] rfl (by (try simp only [List.map_toArray, List.map_cons, List.map_nil]); first | done | rfl | (simp only [List.length_drop, List.length_take]; rfl)) ?_; (with_reducible refine (furlonglaw02_awake.calls k  false _ A4.out).mono ?_); rintro e w94 ⟨rfl, hb⟩; refine ⟨_, rfl, ?_⟩; have n0_ := Aside0.mk (blk_below (g := gb258) (o := .cells #[.int .i64 a0_0, .int .i64 a0_1] 25 (0, 0)) (by (with_reducible repeat (first | refine blk_drewN ?_ _ | refine blk_drew ?_ | refine blk_alloc ?_ _)); exact BK258.out) hb); have n1_ := Aside0.mk (blk_below (g := gb259) (o := .cells #[.int .i64 a2_0, .int .i64 a2_1] 25 (0, 0)) (by (with_reducible repeat (first | refine blk_drewN ?_ _ | refine blk_drew ?_ | refine blk_alloc ?_ _)); exact BK259.out) hb); have n2_ := Aside0.mk (below_step (by repeat (first | (with_reducible first | exact HB.out | apply below_alloc | apply pw_below_drewN | apply below_drew1 | refine below_set ?_ GE258.out | refine below_set ?_ GE259.out) | exact HB.out)) hb); clear BK258; clear BK259; clear HB; have BK258 := n0_; have BK259 := n1_; have HB := n2_; clear n0_ n1_ n2_; (try clear hb); (try clear hb2); (try clear hk); (try clear hi)))
    go_ret
    exact ⟨by first | rfl | (simp [errW_none, errW_some] <;> rfl) | (simp [*, errW_none, errW_some] <;> rfl), by repeat (first | (with_reducible first | exact HB.out | apply below_alloc | apply pw_below_drewN | apply below_drew1 | refine below_set ?_ GE258.out | refine below_set ?_ GE259.out) | exact HB.out)⟩

end Go.Proofs.Ytkbcjagkacijnaa.PVec
end
section
namespace Go.Proofs.Ytkbcjagkacijnaa.VecLib
set_option linter.unusedVariables false
set_option linter.unusedSimpArgs false
open Go.RowKit Go.Proofs.Ytkbcjagkacijnaa.NumLib Go.Proofs.Ytkbcjagkacijnaa.PVec Go.Proofs.YtkbcjagkacijnaaW.PrintWords Go.Proofs.YtkbcjagkacijnaaW.PrintLast

theorem okRes_iff {x : Int} : okRes x = true ↔ 0 ≤ x ∧ x ≤ 1099511627776 := by simp [okRes]
def good (a0 a1 : Int) : Bool := okRes a0 && okRes a1
theorem good_iff {a0 a1 : Int} : good a0 a1 = true ↔ (0 ≤ a0 ∧ a0 ≤ 1099511627776) ∧ (0 ≤ a1 ∧ a1 ≤ 1099511627776) := by
  unfold good; rw [Bool.and_eq_true, okRes_iff, okRes_iff]
theorem good_f (a0 a1 : Int) : vec_Good.f a0 a1 = some (good a0 a1) := rfl
theorem rgood_f (a0 a1 : Int) : furlongref02_Good.f a0 a1 = some (good a0 a1) := by
  unfold furlongref02_Good.f
  by_cases h1 : 0 ≤ a0 <;> by_cases h2 : a0 ≤ 1099511627776 <;> by_cases h3 : 0 ≤ a1 <;> by_cases h4 : a1 ≤ 1099511627776 <;> simp [good, okRes, h1, h2, h3, h4]
theorem rcheck_l0 (l : List S25) (hl : l.length ≤ 100) (n : Nat) : ∀ (k i : Nat), i + n = l.length → n < k →
    furlongref02_Check.l0 k l (l.length : Int) (i : Int) = some (if (l.drop i).all (fun x => good x.f0 x.f1) = true then 0 else 1) := by
  induction n with
  | zero =>
    intro k i hi hk
    obtain ⟨k, rfl⟩ : ∃ m, k = m + 1 := ⟨k - 1, by omega⟩
    unfold furlongref02_Check.l0
    rw [if_neg (by omega), List.drop_of_length_le (by omega)]
    rfl
  | succ n ih =>
    intro k i hi hk
    obtain ⟨k, rfl⟩ : ∃ m, k = m + 1 := ⟨k - 1, by omega⟩
    unfold furlongref02_Check.l0
    rw [if_pos (by omega), if_pos (by omega), if_pos (by omega), rgood_f, Option.bind_some]
    have hd : l.drop i = rd_T25 l (i : Int) :: l.drop (i + 1) := by
      rw [List.drop_eq_getElem_cons (by omega)]
      simp [rd_T25, show i < l.length by omega]
    rw [hd, List.all_cons]
    cases good (rd_T25 l (i : Int)).f0 (rd_T25 l (i : Int)).f1
    · simp
    · rw [if_pos rfl, Bool.true_and, w64_id (by omega)]
      exact ih k (i + 1) (by omega) (by omega)
theorem rcheck_f {k : Nat} (l : List S25) (hl : l.length ≤ 100) (hk : l.length < k) : furlongref02_Check.f k l = some (if l.all (fun x => good x.f0 x.f1) = true then 0 else 1) := by
  have := rcheck_l0 l hl l.length k 0 (by omega) hk
  simpa [furlongref02_Check.f] using this

theorem done_f {k : Nat} (a0 a1 b0 b1 c0 c1 : Int) : vec_done.f (k + 1) a0 a1 b0 b1 c0 c1 = some (if (good a0 a1 && good b0 b1) = true then (if good c0 c1 = true then (c0, c1, 0) else (0, 0, 2)) else (0, 0, 1)) := by
  unfold vec_done.f
  simp only [good_f, Option.bind_some, vec_done.j0]
  cases good a0 a1 <;> cases good b0 b1 <;> cases good c0 c1 <;> rfl
theorem add_f {k : Nat} {a0 a1 b0 b1 : Int} (ha0 : in64 a0) (ha1 : in64 a1) (hb0 : in64 b0) (hb1 : in64 b1) :
    vec_Add.f (k + 1) a0 a1 b0 b1 = some (if (good a0 a1 && good b0 b1) = true then (if good (a0 + b0) (a1 + b1) = true then (a0 + b0, a1 + b1, 0) else (0, 0, 2)) else (0, 0, 1)) := by
  unfold vec_Add.f
  rw [done_f, Option.bind_some]
  cases h : good a0 a1 && good b0 b1
  · rfl
  · rw [Bool.and_eq_true, good_iff, good_iff] at h
    rw [w64_id (by omega), w64_id (by omega)]
/-- A part's fraction. -/
def pt (u t : Int) : Int × Int := if t > 0 then (u, t) else if u > 0 then (1, 0) else (0, 1)
/-- The dominant share. -/
def dshr (a0 a1 b0 b1 : Int) : Int × Int := if (pt a0 b0).1 * (pt a1 b1).2 < (pt a1 b1).1 * (pt a0 b0).2 then pt a1 b1 else pt a0 b0
theorem fixd_pt {u t : Int} (hu : 0 ≤ u) (ht : 0 ≤ t) : fixd (u, t) = pt u t := by
  unfold fixd pt
  simp only
  by_cases h : t = 0
  · subst h
    by_cases h' : 0 < u
    · simp [h']
    · have : u = 0 := by omega
      subst this
      simp
  · rw [if_neg h, if_pos (by omega)]
theorem pt_ok {u t : Int} (hu : 0 ≤ u) (ht : 0 ≤ t) : 0 ≤ (pt u t).1 ∧ 0 ≤ (pt u t).2 ∧ ((pt u t).2 = 0 → (pt u t).1 = 1) := by
  unfold pt
  split
  · exact ⟨hu, ht, fun h => by simp at h; omega⟩
  · split <;> simp
theorem sgn_pos_iff {x : Int} : 0 < sgn x ↔ 0 < x := by
  unfold sgn
  split
  · omega
  · split <;> omega
theorem shareV_shr {a0 a1 b0 b1 : Int} (ha : good a0 a1 = true) (hb : good b0 b1 = true) : shareV (a0, a1) (b0, b1) = dshr a0 a1 b0 b1 := by
  rw [good_iff] at ha hb
  have h0 := pt_ok ha.1.1 hb.1.1
  unfold shareV
  simp only
  have e : stepS (-1, 1) (a0, b0) = pt a0 b0 := by
    unfold stepS
    rw [fixd_pt ha.1.1 hb.1.1, if_pos]
    rw [sgn_pos_iff]
    simp only
    by_cases h : (pt a0 b0).2 = 0
    · have := h0.2.2 h; omega
    · omega
  rw [e]
  unfold stepS dshr
  rw [fixd_pt ha.2.1 hb.2.1]
  simp only [sgn_pos_iff]
  by_cases h : (pt a0 b0).1 * (pt a1 b1).2 < (pt a1 b1).1 * (pt a0 b0).2
  · rw [if_pos h, if_pos (by omega)]
  · rw [if_neg h, if_neg (by omega)]
theorem in64_good {a0 a1 : Int} (h : good a0 a1 = true) : in64 a0 ∧ in64 a1 := by
  rw [good_iff] at h
  unfold in64
  omega
theorem share_f {a0 a1 b0 b1 : Int} (ha : good a0 a1 = true) (hb : good b0 b1 = true) : vec_share.f a0 a1 b0 b1 = some (dshr a0 a1 b0 b1) := by
  unfold vec_share.f
  rw [if_pos ⟨in64_good ha, in64_good hb⟩, shareV_shr ha hb]
theorem pt_in {u t : Int} (hu : 0 ≤ u) (hu' : u ≤ 1099511627776) (ht : t ≤ 1099511627776) : (0 ≤ (pt u t).1 ∧ (pt u t).1 ≤ 1099511627776) ∧ 0 ≤ (pt u t).2 ∧ (pt u t).2 ≤ 1099511627776 := by
  unfold pt
  split
  · simp only; omega
  · split <;> simp
theorem dshr_in {a0 a1 b0 b1 : Int} (ha : good a0 a1 = true) (hb : good b0 b1 = true) : (0 ≤ (dshr a0 a1 b0 b1).1 ∧ (dshr a0 a1 b0 b1).1 ≤ 1099511627776) ∧ (0 ≤ (dshr a0 a1 b0 b1).2 ∧ (dshr a0 a1 b0 b1).2 ≤ 1099511627776) ∧ ((dshr a0 a1 b0 b1).2 = 0 → (dshr a0 a1 b0 b1).1 = 1) := by
  rw [good_iff] at ha hb
  have hc := pt_in ha.1.1 ha.1.2 hb.1.2
  have hm := pt_in ha.2.1 ha.2.2 hb.2.2
  have hc' := pt_ok ha.1.1 hb.1.1
  have hm' := pt_ok ha.2.1 hb.2.1
  unfold dshr
  split
  · exact ⟨hm.1, hm.2, hm'.2.2⟩
  · exact ⟨hc.1, hc.2, hc'.2.2⟩

theorem awake_f (k : Nat) : furlonglaw02_awake.f (k + 1) = some true := by
  unfold furlonglaw02_awake.f
  rw [add_f (by decide) (by decide) (by decide) (by decide)]
  have h : vec_Share.f 2 1 9 2 = some (1, 2, 0) := by
    unfold vec_Share.f
    rw [good_f, good_f, share_f (by decide) (by decide)]
    decide
  rw [h]
  decide

end Go.Proofs.Ytkbcjagkacijnaa.VecLib
end
section
namespace Go.Proofs.Ytkbcjagkacijnaa.VecLib
set_option linter.unusedVariables false
set_option linter.unusedSimpArgs false
open Go.RowKit Go.Proofs.Ytkbcjagkacijnaa.NumLib Go.Proofs.Ytkbcjagkacijnaa.PVec Go.Proofs.YtkbcjagkacijnaaW.PrintWords Go.Proofs.YtkbcjagkacijnaaW.PrintLast

theorem natAbs_nn {x : Int} (h : 0 ≤ x) : (x.natAbs : Int) = x := by omega
theorem mul_nn {a b A B : Int} (h0 : 0 ≤ a) (h1 : a ≤ A) (h2 : 0 ≤ b) (h3 : b ≤ B) : 0 ≤ a * b ∧ a * b ≤ A * B := by
  refine ⟨Int.mul_nonneg h0 h2, ?_⟩
  exact Int.le_trans (Int.mul_le_mul_of_nonneg_right h1 h2) (Int.mul_le_mul_of_nonneg_left h3 (by omega))
theorem product_f {a b : Int} (ha : in64 a) (hb : in64 b) : PVec.num_Product.f a b = some (((a * b).natAbs : Int) / 18446744073709551616, ((a * b).natAbs : Int) % 18446744073709551616, decide (a * b < 0)) := product_eq ha hb
theorem times_f {a b w : Int} (ha0 : 0 ≤ a) (ha : a ≤ 1099511627776) (hb0 : 0 ≤ b) (hb : b ≤ 1099511627776) (hw0 : 0 ≤ w) (hw : w ≤ 1048576) :
    vec_times.f a b w = some ((a * b * w) / 18446744073709551616, (a * b * w) % 18446744073709551616, false) := by
  have hp := mul_nn ha0 ha hb0 hb
  unfold vec_times.f
  rw [product_f (by unfold in64; omega) (by unfold in64; omega), Option.bind_some]
  simp only [natAbs_nn hp.1]
  generalize a * b = p at *
  have hm : PVec.bits_Mul64.f (p % 18446744073709551616) (IntKind.u64.wrap w) = some ((p % 18446744073709551616) * w / 18446744073709551616, (p % 18446744073709551616) * w % 18446744073709551616) := by
    rw [u64w, show w % 18446744073709551616 = w by omega]
    exact mul64_eq (by omega) (by omega) (by omega) (by omega)
  rw [hm, Option.bind_some]
  simp only
  obtain ⟨q, hq⟩ : ∃ q, q = p / 18446744073709551616 := ⟨_, rfl⟩
  obtain ⟨l, hl⟩ : ∃ l, l = p % 18446744073709551616 := ⟨_, rfl⟩
  have hpe : p = 18446744073709551616 * q + l := by omega
  have h1 := mul_nn (a := q) (b := w) (A := 65536) (B := 1048576) (by omega) (by omega) hw0 hw
  have h2 := mul_nn (a := l) (b := w) (A := 18446744073709551615) (B := 1048576) (by omega) (by omega) hw0 hw
  have e : p * w = 18446744073709551616 * (q * w) + l * w := by rw [hpe, Int.add_mul, Int.mul_assoc]
  rw [← hq, ← hl, e, u64w, u64w, u64w, show w % 18446744073709551616 = w by omega]
  generalize q * w = X at *
  generalize l * w = Y at *
  congr 2
  · omega
  · congr 1
    omega

/-- The comparison of weighted shares. -/
def cmpF (f : Int × Int) (wa : Int) (g : Int × Int) (wb : Int) : Int := if f.2 = 0 then (if g.2 = 0 then 0 else 1) else if g.2 = 0 then -1 else sgn (f.1 * g.2 * wb - g.1 * f.2 * wa)
theorem compare_f {k : Nat} {x y : Int} (hx : 0 ≤ x) (hy : 0 ≤ y) : PVec.num_Compare.f (k + 1) (x / 18446744073709551616) (x % 18446744073709551616) false (y / 18446744073709551616) (y % 18446744073709551616) false = some (sgn (x - y)) := by
  have h : PNum.num_Compare.f (k + 1) (x / 18446744073709551616) (x % 18446744073709551616) false (y / 18446744073709551616) (y % 18446744073709551616) false = some (sgn (wv (x / 18446744073709551616) (x % 18446744073709551616) false - wv (y / 18446744073709551616) (y % 18446744073709551616) false)) :=
    compare_eq ⟨by omega, by omega, by omega, by simp⟩ ⟨by omega, by omega, by omega, by simp⟩
  have e1 : wv (x / 18446744073709551616) (x % 18446744073709551616) false = x := by simp [wv]; omega
  have e2 : wv (y / 18446744073709551616) (y % 18446744073709551616) false = y := by simp [wv]; omega
  rw [e1, e2] at h
  exact h
theorem mn_def (a b : Int) : mn a b = min a b := by unfold mn; omega
theorem order_j {k : Nat} {f g : Int × Int} {wa wb : Int} (hf : (0 ≤ f.1 ∧ f.1 ≤ 1099511627776) ∧ (0 ≤ f.2 ∧ f.2 ≤ 1099511627776)) (hg : (0 ≤ g.1 ∧ g.1 ≤ 1099511627776) ∧ (0 ≤ g.2 ∧ g.2 ≤ 1099511627776)) (ha : 1 ≤ wa ∧ wa ≤ 1048576) (hb : 1 ≤ wb ∧ wb ≤ 1048576) (x : Bool) (hx : x = (decide (f.2 = 0) || decide (g.2 = 0))) :
    vec_Order.j0 (k + 2) wa wb f.1 f.2 g.1 g.2 x = some (cmpF f wa g wb) := by
  simp only [vec_Order.j0]
  subst hx
  unfold cmpF
  by_cases h1 : f.2 = 0
  · by_cases h2 : g.2 = 0
    · simp [h1, h2, mn_def]
      rw [w64_id (by omega)]
    · have : min g.2 1 = 1 := by omega
      simp [h1, h2, mn_def, this]
      rw [w64_id (by omega)]
      omega
  · have m1 : min f.2 1 = 1 := by omega
    by_cases h2 : g.2 = 0
    · simp [h1, h2, mn_def, m1]
      rw [w64_id (by omega)]
      omega
    · simp only [h1, h2, decide_false, Bool.or_self, Bool.false_eq_true, if_false]
      rw [times_f hf.1.1 hf.1.2 hg.2.1 hg.2.2 (by omega) hb.2, times_f hg.1.1 hg.1.2 hf.2.1 hf.2.2 (by omega) ha.2]
      simp only [Option.bind_some]
      rw [compare_f (Int.mul_nonneg (Int.mul_nonneg hf.1.1 hg.2.1) (by omega)) (Int.mul_nonneg (Int.mul_nonneg hg.1.1 hf.2.1) (by omega)), Option.bind_some]
theorem order_f {k : Nat} {a0 a1 b0 b1 t0 t1 wa wb : Int} (ga : good a0 a1 = true) (gb : good b0 b1 = true) (gt : good t0 t1 = true) (ha : 1 ≤ wa ∧ wa ≤ 1048576) (hb : 1 ≤ wb ∧ wb ≤ 1048576) :
    vec_Order.f (k + 2) a0 a1 wa b0 b1 wb t0 t1 = some (cmpF (dshr a0 a1 t0 t1) wa (dshr b0 b1 t0 t1) wb) := by
  unfold vec_Order.f
  have hf := dshr_in ga gt
  have hg := dshr_in gb gt
  rw [share_f ga gt, Option.bind_some, share_f gb gt, Option.bind_some]
  by_cases h : (dshr a0 a1 t0 t1).2 = 0
  · rw [if_pos h, order_j ⟨hf.1, hf.2.1⟩ ⟨hg.1, hg.2.1⟩ ha hb _ (by simp [h])]
  · rw [if_neg h, order_j ⟨hf.1, hf.2.1⟩ ⟨hg.1, hg.2.1⟩ ha hb _ (by rw [decide_eq_false h, Bool.false_or]; rfl)]
theorem less_f {k : Nat} (a0 a1 b0 b1 t0 t1 wa wb : Int) :
    vec_Less.f (k + 2) a0 a1 wa b0 b1 wb t0 t1 = some (if (good a0 a1 = true ∧ good b0 b1 = true ∧ good t0 t1 = true) ∧ (1 ≤ wa ∧ wa ≤ 1048576) ∧ (1 ≤ wb ∧ wb ≤ 1048576) then (cmpF (dshr a0 a1 t0 t1) wa (dshr b0 b1 t0 t1) wb, 0) else (0, 1)) := by
  unfold vec_Less.f
  simp only [good_f, Option.bind_some]
  by_cases h : (good a0 a1 = true ∧ good b0 b1 = true ∧ good t0 t1 = true) ∧ (1 ≤ wa ∧ wa ≤ 1048576) ∧ (1 ≤ wb ∧ wb ≤ 1048576)
  · obtain ⟨⟨h1, h2, h3⟩, h4, h5⟩ := h
    rw [if_pos h1, if_pos h2, if_pos h3, if_neg (by omega), if_neg (by omega), if_neg (by omega), if_neg (by omega), order_f h1 h2 h3 h4 h5, Option.bind_some, if_pos ⟨⟨h1, h2, h3⟩, h4, h5⟩]
  · rw [if_neg h]
    by_cases h1 : good a0 a1 = true
    · by_cases h2 : good b0 b1 = true
      · by_cases h3 : good t0 t1 = true
        · rw [if_pos h1, if_pos h2, if_pos h3]
          by_cases c1 : wa < 1
          · rw [if_pos c1]
          · by_cases c2 : wa > 1048576
            · rw [if_neg c1, if_pos c2]
            · by_cases c3 : wb < 1
              · rw [if_neg c1, if_neg c2, if_pos c3]
              · by_cases c4 : wb > 1048576
                · rw [if_neg c1, if_neg c2, if_neg c3, if_pos c4]
                · exact absurd ⟨⟨h1, h2, h3⟩, by omega, by omega⟩ h
        · rw [if_pos h1, if_pos h2, if_neg h3]
      · rw [if_pos h1, if_neg h2]
    · rw [if_neg h1]
theorem VecAlike {a0 a1 w t0 t1 : Int} (hw : in64 w) : furlonglaw02_VecAlike.f 30 a0 a1 w t0 t1 = some true := by
  unfold furlonglaw02_VecAlike.f
  rw [awake_f, Option.bind_some, if_pos rfl, rcheck_f _ (by simp) (by simp), Option.bind_some]
  simp only [List.all_cons, List.all_nil, Bool.and_true]
  cases hg : good a0 a1 && good t0 t1
  · simp
  · rw [Bool.and_eq_true] at hg
    have ga := good_iff.mp hg.1
    have gt := good_iff.mp hg.2
    rw [if_pos (by simp)]
    by_cases c1 : w < 1
    · rw [if_pos c1]
    · rw [if_neg c1]
      by_cases c2 : w > 524288
      · rw [if_pos c2]
      · rw [if_neg c2]
        by_cases c3 : a0 > 549755813888
        · rw [if_pos c3]
        · rw [if_neg c3]
          by_cases c4 : a1 > 549755813888
          · rw [if_pos c4]
          · rw [if_neg c4, w64_id (by omega), w64_id (by omega), w64_id (by omega), less_f, if_pos ⟨⟨hg.1, by rw [good_iff]; omega, hg.2⟩, by omega, by omega⟩, Option.bind_some]
            simp only [if_true]
            have key : ∃ f : Int × Int, dshr a0 a1 t0 t1 = f ∧ dshr (2 * a0) (2 * a1) t0 t1 = (if f.2 = 0 then f else (2 * f.1, f.2)) := by
              have p2 : ∀ u t : Int, 0 ≤ u → 0 ≤ t → pt (2 * u) t = if (pt u t).2 = 0 then pt u t else (2 * (pt u t).1, (pt u t).2) := by
                intro u t hu ht
                unfold pt
                by_cases h1 : t > 0
                · simp only [h1, if_true]; rw [if_neg (by omega)]
                · by_cases h2 : u > 0
                  · simp [h1, h2, show 2 * u > 0 by omega]
                  · simp [h1, h2, show ¬ 2 * u > 0 by omega]
              refine ⟨_, rfl, ?_⟩
              have q0 := pt_ok ga.1.1 gt.1.1
              have q1 := pt_ok ga.2.1 gt.2.1
              unfold dshr
              rw [p2 a0 t0 ga.1.1 gt.1.1, p2 a1 t1 ga.2.1 gt.2.1]
              generalize pt a0 t0 = c at *
              generalize pt a1 t1 = m at *
              by_cases hc : c.2 = 0
              · have r0 := q0.2.2 hc
                by_cases hm : m.2 = 0
                · simp [hc, hm]
                · have n1 : ¬ m.2 < 0 := by have := q1.2.1; omega
                  simp [hc, hm, r0, n1]
              · by_cases hm : m.2 = 0
                · have r1 := q1.2.2 hm
                  have p1 : 0 < c.2 := by have := q0.2.1; omega
                  simp [hc, hm, r1, p1]
                · simp only [hc, hm, if_false]
                  rw [Int.mul_assoc, Int.mul_assoc]
                  by_cases hl : c.1 * m.2 < m.1 * c.2
                  · rw [if_pos (by omega), if_pos hl, if_neg hm]
                  · rw [if_neg (by omega), if_neg hl, if_neg hc]
            obtain ⟨f, h1, h2⟩ := key
            rw [h1, h2]
            have e : cmpF f w (if f.2 = 0 then f else (2 * f.1, f.2)) (2 * w) = 0 := by
              unfold cmpF
              by_cases hz : f.2 = 0
              · simp [hz]
              · simp only [hz, if_false]
                refine sgn_zero ?_
                have : f.1 * f.2 * (2 * w) = 2 * f.1 * f.2 * w := by rw [Int.mul_left_comm, Int.mul_assoc, Int.mul_assoc, Int.mul_assoc]
                omega
            rw [e]
            rfl

end Go.Proofs.Ytkbcjagkacijnaa.VecLib
end
section
namespace Go.Proofs.Ytkbcjagkacijnaa.Open
set_option linter.unusedVariables false
set_option linter.unusedSimpArgs false
open Go.RowKit Go.Proofs.YtkbcjagkacijnaaW.PrintWords

/-- Values of type T read as what k says; good: what is known of them; bulk: no more than the data's. -/
def Opens {α : Type} (P : Program) (T : TypeId) (k : Kd α) (good : α → Prop) (bulk : α → Nat) : Prop :=
  ∀ (H : Type) (enc : TypeId × Value → H) (W : World) (fuel : Nat) (cs : List Value) (x : DataW H × List MemPlace),
    DataW.trod enc P W 0 (fun _ => true) true fuel T cs = some x → ∃ a : α, k.K W a cs ∧ good a ∧ bulk a ≤ Rows.uptoBulk x.1

theorem Opens.int {P : Program} {T : TypeId} {q : IntKind} (h : P.underlying T = some (.int q)) : Opens P T (Kd.int q) (fun n => (Lit.int q n).wf = true) (fun _ => 1) := by
  intro H enc W fuel cs x hx
  obtain ⟨n, rfl, rfl, hw⟩ := DataW.trod_int h hx
  exact ⟨n, rfl, hw, by simp [Rows.uptoBulk]⟩
theorem Opens.bool {P : Program} {T : TypeId} (h : P.underlying T = some .bool) : Opens P T Kd.bool (fun _ => True) (fun _ => 1) := by
  intro H enc W fuel cs x hx
  obtain ⟨n, rfl, rfl⟩ := DataW.trod_bool h hx
  exact ⟨n, rfl, trivial, by simp [Rows.uptoBulk]⟩

theorem list_of {α : Type} (n : Nat) : ∀ (R : Nat → α → Prop), (∀ i, i < n → ∃ a, R i a) → ∃ l : List α, l.length = n ∧ ∀ i a, l[i]? = some a → R i a := by
  induction n with
  | zero => intro R _; exact ⟨[], rfl, fun i a h => by simp at h⟩
  | succ n ih =>
    intro R h
    obtain ⟨a, ha⟩ := h 0 (by omega)
    obtain ⟨l, hl, hr⟩ := ih (fun i a => R (i + 1) a) (fun i hi => h (i + 1) (by omega))
    refine ⟨a :: l, by simp [hl], fun i b hb => ?_⟩
    cases i with
    | zero => simp at hb; subst hb; exact ha
    | succ i => exact hr i b (by simpa using hb)

theorem cells_get {w : World} {base : Nat} {a : Addr} {n : Nat} {cs : List Value} (h : w.cells? base a n = some cs) (j : Nat) (u : Value) (hu : cs[j]? = some u) : w.cell? (a.add j) = some u := by
  unfold World.cells? at h
  split at h
  · have hl := mapM_some_length h
    have hj : j < n := by
      have := (List.getElem?_eq_some_iff.1 hu).1
      simp at hl; omega
    have := mapM_some_get h j j (by simp [hj])
    rw [this, hu]
  · cases h

theorem add_add (a : Addr) (m j : Nat) : (a.add m).add j = a.add (m + j) := by
  unfold Addr.add
  by_cases h1 : m = 0 <;> by_cases h2 : j = 0 <;> simp [h1, h2, Nat.add_assoc]
theorem bulk_sum {α H : Type} (bulk : α → Nat) : ∀ (l : List α) (ds : List (DataW H)), l.length = ds.length → (∀ (i : Nat) (a : α) (d : DataW H), l[i]? = some a → ds[i]? = some d → bulk a ≤ Rows.uptoBulk d) → (l.map bulk).sum ≤ Rows.uptoBulkAll ds
  | [], [], _, _ => by simp
  | a :: l, d :: ds, hl, h => by
    have h0 := h 0 a d rfl rfl
    have h1 := bulk_sum bulk l ds (by simpa using hl) (fun i b e hb he => h (i + 1) b e (by simpa using hb) (by simpa using he))
    simp only [List.map_cons, List.sum_cons, Rows.uptoBulkAll]
    omega
  | [], _ :: _, hl, _ => by simp at hl
  | _ :: _, [], hl, _ => by simp at hl

theorem Opens.slice {α : Type} {P : Program} {T e : TypeId} {k : Kd α} {good : α → Prop} {bulk : α → Nat} (ht : P.underlying T = some (.slice e)) (hz : P.cellsOf e = k.sz) (h : Opens P e k good bulk) :
    Opens P T (Kd.slice e k) (fun l => l.length ≤ maxLen ∧ ∀ a ∈ l, good a) (fun l => (l.map bulk).sum + 1) := by
  intro H enc W fuel cs x hx
  rcases DataW.trod_slice ht hx with ⟨rfl, rfl⟩ | ⟨a, len, cap, elems, rest, n, _, rfl, rfl, _, hl, hm, hlen, hel, _, _⟩
  · exact ⟨[], ⟨none, 0, rfl, Nat.le_refl _, Kd.C_nil k W⟩, ⟨Nat.zero_le _, fun a h => by cases h⟩, by simp [Rows.uptoBulk]⟩
  · have hone : ∀ i, i < len → ∃ v : α, ∃ c, (∃ y, elems[i]? = some y ∧ bulk v ≤ Rows.uptoBulk y.1) ∧ k.K W v c ∧ good v ∧ ∀ j u, c[j]? = some u → W.cell? (a.add (i * k.sz + j)) = some u := by
      intro i hi
      have he := hel i hi
      have hy : elems[i]? = some (elems[i]'(by omega)) := List.getElem?_eq_getElem (by omega)
      rw [hy, Option.bind_eq_some_iff] at he
      obtain ⟨c, hc, ht'⟩ := he
      obtain ⟨v, hv, hg, hb⟩ := h H enc W n c _ ht'
      refine ⟨v, c, ⟨_, hy, hb⟩, hv, hg, fun j u hu => ?_⟩
      have := cells_get hc j u hu
      rw [hz] at this
      rw [← add_add]
      exact this
    obtain ⟨l, hll, hr⟩ := list_of len _ hone
    have hmem : ∀ v ∈ l, good v := by
      intro v hv
      obtain ⟨i, hi⟩ := List.getElem?_of_mem hv
      obtain ⟨c, _, _, hg, _⟩ := hr i v hi
      exact hg
    refine ⟨l, ⟨some a, cap, by rw [hll], by omega, by omega, ?_, fun hpos => ⟨a, rfl, fun j p hp => ?_⟩⟩, ⟨by omega, hmem⟩, ?_⟩
    · unfold maxLen at hm; omega
    · obtain ⟨c, _, hk, _, hc⟩ := hr j p hp
      exact ⟨c, k.K_len hk, hk, hc⟩
    · have hs := bulk_sum (H := H) bulk l (elems.map (·.1)) (by simp [hll, hlen]) (fun i b d hb hd => by
        obtain ⟨c, ⟨y, hy, hby⟩, _⟩ := hr i b hb
        rw [List.getElem?_map, hy] at hd
        simp at hd
        subst hd
        exact hby)
      simp only [Rows.uptoBulk]
      omega

/-- Fields, one behind the other. -/
def OpensFs {α : Type} (P : Program) (ts : List TypeId) (k : Kd α) (good : α → Prop) (bulk : α → Nat) : Prop :=
  ∀ (H : Type) (enc : TypeId × Value → H) (W : World) (n : Nat) (cs : List Value) (xs : List (DataW H × List MemPlace)), cs.length = (ts.map P.cellsOf).sum → xs.length = ts.length →
    (∀ i t, ts[i]? = some t → DataW.trod enc P W 0 (fun _ => true) true n t ((cs.drop ((ts.take i).map P.cellsOf).sum).take (P.cellsOf t)) = xs[i]?) →
    ∃ a : α, k.K W a cs ∧ good a ∧ bulk a ≤ Rows.uptoBulkAll (xs.map (·.1))

theorem OpensFs.one {α : Type} {P : Program} {t : TypeId} {k : Kd α} {good : α → Prop} {bulk : α → Nat} (h : Opens P t k good bulk) : OpensFs P [t] k good bulk := by
  intro H enc W n cs xs hl hx hf
  match xs, hx with
  | [x], _ =>
    have h0 := hf 0 t rfl
    simp at h0 hl
    rw [List.take_of_length_le (by omega)] at h0
    obtain ⟨a, h1, h2, h3⟩ := h H enc W n cs x h0
    exact ⟨a, h1, h2, by simpa [Rows.uptoBulkAll] using h3⟩

theorem OpensFs.cons {α β : Type} {P : Program} {t : TypeId} {ts : List TypeId} {k : Kd α} {ks : Kd β} {g : α → Prop} {gs : β → Prop} {b : α → Nat} {bs : β → Nat} (h : Opens P t k g b) (hs : OpensFs P ts ks gs bs) :
    OpensFs P (t :: ts) (Kd.pair k ks) (fun x => g x.1 ∧ gs x.2) (fun x => b x.1 + bs x.2) := by
  intro H enc W n cs xs hl hx hf
  match xs, hx with
  | x :: xs, hx =>
    have h0 := hf 0 t rfl
    simp at h0 hl
    obtain ⟨a, h1, h2, h3⟩ := h H enc W n _ x h0
    obtain ⟨c, g1, g2, g3⟩ := hs H enc W n (cs.drop (P.cellsOf t)) xs (by rw [List.length_drop]; omega) (by simpa using hx) (fun i t' ht' => by
      have := hf (i + 1) t' (by simpa using ht')
      simp only [List.take_succ_cons, List.map_cons, List.sum_cons, List.getElem?_cons_succ] at this
      rw [List.drop_drop]
      exact this)
    exact ⟨(a, c), ⟨_, _, (List.take_append_drop (P.cellsOf t) cs).symm, h1, g1⟩, ⟨h2, g2⟩, by simp only [List.map_cons, Rows.uptoBulkAll]; omega⟩

theorem Opens.struct {α : Type} {P : Program} {T : TypeId} {fs : Array Field} {ts : List TypeId} {k : Kd α} {good : α → Prop} {bulk : α → Nat} (ht : P.underlying T = some (.struct fs))
    (hts : fs.toList.map (·.type) = ts) (hoff : fs.toList.map (·.offset) = (List.range ts.length).map fun i => ((ts.take i).map P.cellsOf).sum) (hsz : P.cellsOf T = (ts.map P.cellsOf).sum) (h : OpensFs P ts k good bulk) :
    Opens P T k good (fun a => bulk a + 1) := by
  intro H enc W fuel cs x hx
  obtain ⟨xs, n, _, rfl, hl, hlen, hf⟩ := DataW.trod_struct ht hx
  have hn : ts.length = fs.size := by rw [← hts]; simp
  obtain ⟨a, h1, h2, h3⟩ := h H enc W n cs xs (by rw [hl, hsz]) (by rw [hlen, hn]) (fun i t hi => by
    have hlt : i < fs.size := by have := (List.getElem?_eq_some_iff.1 hi).1; omega
    have hfi : fs[i]? = some fs[i] := Array.getElem?_eq_getElem hlt
    have e1 : fs[i].type = t := by
      have := congrArg (fun l => l[i]?) hts
      simp [hi, hlt] at this
      exact this
    have e2 : fs[i].offset = ((ts.take i).map P.cellsOf).sum := by
      have := congrArg (fun l => l[i]?) hoff
      simp [hlt, hn] at this
      rw [List.map_take]
      exact this
    have := hf i _ hfi
    rw [e1, e2] at this
    exact this)
  exact ⟨a, h1, h2, by simp only [Rows.uptoBulk]; omega⟩

theorem Opens.iso {α β : Type} {P : Program} {T : TypeId} {k : Kd α} {good : α → Prop} {bulk : α → Nat} (f : β → α) (g : α → β) (hfg : ∀ a, f (g a) = a) (h : Opens P T k good bulk) :
    Opens P T (Kd.iso k f) (fun b => good (f b)) (fun b => bulk (f b)) := by
  intro H enc W fuel cs x hx
  obtain ⟨a, h1, h2, h3⟩ := h H enc W fuel cs x hx
  exact ⟨g a, by show k.K W (f (g a)) cs; rw [hfg]; exact h1, by show good (f (g a)); rw [hfg]; exact h2, by show bulk (f (g a)) ≤ _; rw [hfg]; exact h3⟩
end Go.Proofs.Ytkbcjagkacijnaa.Open
end
section
namespace Go.Proofs.Ytkbcjagkacijnaa.Open
open Go.RowKit Go.Proofs.YtkbcjagkacijnaaW.PrintWords
set_option linter.unusedVariables false
abbrev kV : Kd (Int × Int) := Kd.pair (Kd.int .i64) (Kd.int .i64)
abbrev okV (x : Int × Int) : Prop := (Lit.int .i64 x.1).wf = true ∧ (Lit.int .i64 x.2).wf = true
set_option maxRecDepth 100000 in
theorem vec : Opens Try.prog 25 kV okV (fun _ => 1 + 1 + 1) :=
  Opens.struct (ts := [2, 2]) Try.underlying25 (by kernel_rfl) (by kernel_rfl) (by kernel_rfl) (OpensFs.cons (Opens.int Try.underlying2) (OpensFs.one (Opens.int Try.underlying2)))
theorem of_vec {W : World} {c : Array Value} {x : Int × Int} (h : kV.K W x c.toList) : c = #[.int .i64 x.1, .int .i64 x.2] := by
  obtain ⟨d, e, h1, rfl, rfl⟩ := h
  exact Array.toList_inj.mp (by simpa using h1)
end Go.Proofs.Ytkbcjagkacijnaa.Open
end
section
namespace Go.Proofs.Ytkbcjagkacijnaa.Walk
set_option linter.unusedVariables false
open Go.RowKit Go.Proofs.Ytkbcjagkacijnaa.NumLib Go.Proofs.YtkbcjagkacijnaaW.PrintWords
theorem VecAlike (W : World) (a : Array Value) (x : Int × Int) (ha : Open.kV.K W x a.toList) (ga : Open.okV x) (wa : Int) (gwa : (Lit.int .i64 wa).wf = true) (t : Array Value) (u : Int × Int) (ht : Open.kV.K W u t.toList) (gt : Open.okV u) :
    Calls Try.prog 13 #[.agg a, .int .i64 wa, .agg t] W fun e w' => e = .returned (.bool true) ∧ Below W.heap.size W w' := by
  obtain rfl := Open.of_vec ha
  obtain rfl := Open.of_vec ht
  exact PVec.furlonglaw02_VecAlike.calls _ _ _ _ _ _ _ W (VecLib.VecAlike (wf64.mp gwa))
end Go.Proofs.Ytkbcjagkacijnaa.Walk
end
