/- What the law VecMost needs of the seat's contracts and plain laws, several texts one behind the other; no conditions. -/
import Derived.Test.YtkbcjagkacijnaaSVecMost0
import Derived.Test.YtkbcjagkacijnaaSVecMost1
import Derived.Test.YtkbcjagkacijnaaProg
import Derived.Below
import Derived.Deep.Draws
import Derived.Deep.AppendLies
import Derived.Maps.AppendAt
import Derived.OwnWalk
import Derived.Laws.BytesArg
import Derived.Laws.MakeOwn
import Derived.Laws.OwnMore
import Derived.Deep.OwnRows
import Derived.Tactics
import Derived.Lib.ConvBytes
import Derived.Laws.Slices
import Derived.WalkKit
import Derived.KernelRfl
import Derived.RowKit3
import Derived.Deep.LoopGhost
import Derived.Deep.QuietTactic
import Derived.BigQuiet
import Derived.WideLaws
import Derived.Deep.DeepCutAuto
import Derived.Deep.CutBlock
import Derived.Deep.RegionHeld3
import Derived.Laws.Rows
import Derived.Lib.AppendStr
import Derived.ArgAppend
import Derived.Laws.IdiomCopy
import Derived.OrdersHeld
import Derived.Laws.BitsLemmas
import Derived.RowKit
import Derived.Test.YtkbcjagkacijnaaWWords
import Derived.Test.YtkbcjagkacijnaaWLast
import Derived.Test.YtkbcjagkacijnaaWTab
import Derived.Test.YtkbcjagkacijnaaWFour
import Derived.Test.YtkbcjagkacijnaaWQPut
import Derived.Test.YtkbcjagkacijnaaWApart
import Derived.Test.YtkbcjagkacijnaaWArr
import Derived.Test.YtkbcjagkacijnaaWZeros
import Derived.Test.YtkbcjagkacijnaaWFoot
import Derived.Test.YtkbcjagkacijnaaWKept
import Derived.Test.YtkbcjagkacijnaaWShare
import Derived.Test.YtkbcjagkacijnaaWN
import Derived.Test.YtkbcjagkacijnaaWFootNe
import Derived.Test.YtkbcjagkacijnaaWAt
import Derived.Test.YtkbcjagkacijnaaWEqStruct
import Derived.Test.YtkbcjagkacijnaaWRepsOne
import Derived.Test.YtkbcjagkacijnaaWInv
import Derived.Test.YtkbcjagkacijnaaWInvWords
import Derived.Test.YtkbcjagkacijnaaWGuard
import Derived.Test.YtkbcjagkacijnaaWNEv
import Derived.Test.YtkbcjagkacijnaaWMore
import Derived.Test.YtkbcjagkacijnaaRows
import Derived.ProofKit
import Derived.OpenShut
section
-- Written for this claim by this project's own driver over the kit's print: functions and their contracts.
namespace Go.Proofs.Ytkbcjagkacijnaa.PVec
open Go.RowKit Go.Proofs.YtkbcjagkacijnaaW.PrintWords Go.Proofs.YtkbcjagkacijnaaW.PrintLast Go.Proofs.YtkbcjagkacijnaaW.PrintMore
attribute [local go_sem] max2_int min2_int max_two min_two max_three min_three max_four min_four   -- for this text's walks alone
set_option linter.unusedVariables false
set_option linter.unusedSimpArgs false

def furlonglaw02_VecMost.j0 : Nat → Int → Int → Bool → Int → Int → Int → Int → Option (Bool)
  | 0, _, _, _, _, _, _, _ => none
  | k + 1, x5, x6, x46, x182000, x182001, x183000, x183001 => if x46 = true then (if x6 = 0 then (some true) else (if x183000 = 0 then (if x182000 = 0 then (some true) else (if x183001 = 0 then (some (x182001 == 0)) else (some false))) else (if x183001 = 0 then (some (x182001 == 0)) else (some false)))) else ((num_Cmp.f k x182000 x183000 x5 x6).bind fun bt189 => ((num_Cmp.f k x182001 x183001 x5 x6).bind fun bt191 => (if bt189.2 = 0 then (if bt191.2 = 0 then (if bt189.1 ≤ 0 then (if bt191.1 ≤ 0 then (if bt189.1 = 0 then (some true) else (some (bt191.1 == 0))) else (some false)) else (some false)) else (some false)) else (some false))))
def furlonglaw02_VecMost.f (k : Nat) (a0_0 : Int) (a0_1 : Int) (a1_0 : Int) (a1_1 : Int) : Option (Bool) := (furlonglaw02_awake.f k).bind fun t183 => (if t183 = true then ((vec_Share.f a0_0 a0_1 a1_0 a1_1).bind fun bt184 => (if bt184.2.2 = 0 then (if a1_0 = 0 then (furlonglaw02_VecMost.j0 k bt184.1 bt184.2.1 true a0_0 a0_1 a1_0 a1_1) else (furlonglaw02_VecMost.j0 k bt184.1 bt184.2.1 (a1_1 == 0) a0_0 a0_1 a1_0 a1_1)) else ((vec_Check.f a0_0 a0_1).bind fun t187 => (if t187 = 0 then ((vec_Check.f a1_0 a1_1).bind fun t188 => (if t188 = 0 then (some false) else (if bt184.1 = 0 then (some (bt184.2.1 == 0)) else (some false)))) else (if bt184.1 = 0 then (some (bt184.2.1 == 0)) else (some false)))))) else (some false))
theorem furlonglaw02_VecMost.mono_l : ∀ k, (∀ y0 y1 y2 y3 y4 y5 y6, LeO (furlonglaw02_VecMost.j0 k y0 y1 y2 y3 y4 y5 y6) (furlonglaw02_VecMost.j0 (k + 1) y0 y1 y2 y3 y4 y5 y6))
  | 0 => fun _ _ _ _ _ _ _ r h => by simp [furlonglaw02_VecMost.j0] at h
  | k + 1 => by
    have ih0 := furlonglaw02_VecMost.mono_l k
    · intro y0 y1 y2 y3 y4 y5 y6
      unfold furlonglaw02_VecMost.j0
      repeat' first
      | (with_reducible exact ih0 _ _ _ _ _ _ _)
      | (with_reducible exact furlonglaw02_awake.mono _)
      | (with_reducible exact num_Cmp.mono _ _ _ _ _)
      | (with_reducible exact LeO.refl _)
      | (with_reducible exact LeO.none _)
      | (with_reducible refine LeO.ite ?_ ?_)
      | (with_reducible refine LeO.bind ?_ (fun _ => ?_))
      | exact ih0 _ _ _ _ _ _ _
      | exact furlonglaw02_awake.mono _
      | exact num_Cmp.mono _ _ _ _ _
      | exact LeO.none _
      | refine LeO.ite ?_ ?_
      | refine LeO.bind ?_ (fun _ => ?_)
theorem furlonglaw02_VecMost.mono : ∀ a0 a1 a2 a3 k, LeO (furlonglaw02_VecMost.f k a0 a1 a2 a3) (furlonglaw02_VecMost.f (k + 1) a0 a1 a2 a3) := by
  intro a0 a1 a2 a3 k
  have ih0 := furlonglaw02_VecMost.mono_l k
  unfold furlonglaw02_VecMost.f
  repeat' first
      | (with_reducible exact ih0 _ _ _ _ _ _ _)
      | (with_reducible exact furlonglaw02_awake.mono _)
      | (with_reducible exact num_Cmp.mono _ _ _ _ _)
      | (with_reducible exact LeO.refl _)
      | (with_reducible exact LeO.none _)
      | (with_reducible refine LeO.ite ?_ ?_)
      | (with_reducible refine LeO.bind ?_ (fun _ => ?_))
      | exact ih0 _ _ _ _ _ _ _
      | exact furlonglaw02_awake.mono _
      | exact num_Cmp.mono _ _ _ _ _
      | exact LeO.none _
      | refine LeO.ite ?_ ?_
      | refine LeO.bind ?_ (fun _ => ?_)
set_option maxHeartbeats 8000000 in
set_option maxRecDepth 100000 in
theorem furlonglaw02_VecMost.calls (k : Nat) (a0_0 : Int) (a0_1 : Int) (a1_0 : Int) (a1_1 : Int) (r : Bool) (w : World) (h : furlonglaw02_VecMost.f k a0_0 a0_1 a1_0 a1_1 = some r) :
    Calls Try.prog 7 #[.agg #[.int .i64 a0_0, .int .i64 a0_1], .agg #[.int .i64 a1_0, .int .i64 a1_1]] w fun e w' => e = .returned (.bool r) ∧ Below w.heap.size w w' := by
  have hu25 := Try.underlying25
  have HB := Aside0.mk (Below.refl w.heap.size w)
  have H : ((furlonglaw02_awake.f k).bind fun t183 => (if t183 = true then ((vec_Share.f a0_0 a0_1 a1_0 a1_1).bind fun bt184 => (if bt184.2.2 = 0 then (if a1_0 = 0 then (furlonglaw02_VecMost.j0 k bt184.1 bt184.2.1 true a0_0 a0_1 a1_0 a1_1) else (furlonglaw02_VecMost.j0 k bt184.1 bt184.2.1 (a1_1 == 0) a0_0 a0_1 a1_0 a1_1)) else ((vec_Check.f a0_0 a0_1).bind fun t187 => (if t187 = 0 then ((vec_Check.f a1_0 a1_1).bind fun t188 => (if t188 = 0 then (some false) else (if bt184.1 = 0 then (some (bt184.2.1 == 0)) else (some false)))) else (if bt184.1 = 0 then (some (bt184.2.1 == 0)) else (some false)))))) else (some false))) = some r := h
  clear h
  replace H := Option.bind_eq_some_iff.mp H
  obtain ⟨t183, A30, H⟩ := H
  replace H : (if t183 = true then ((vec_Share.f a0_0 a0_1 a1_0 a1_1).bind fun bt184 => (if bt184.2.2 = 0 then (if a1_0 = 0 then (furlonglaw02_VecMost.j0 k bt184.1 bt184.2.1 true a0_0 a0_1 a1_0 a1_1) else (furlonglaw02_VecMost.j0 k bt184.1 bt184.2.1 (a1_1 == 0) a0_0 a0_1 a1_0 a1_1)) else ((vec_Check.f a0_0 a0_1).bind fun t187 => (if t187 = 0 then ((vec_Check.f a1_0 a1_1).bind fun t188 => (if t188 = 0 then (some false) else (if bt184.1 = 0 then (some (bt184.2.1 == 0)) else (some false)))) else (if bt184.1 = 0 then (some (bt184.2.1 == 0)) else (some false)))))) else (some false)) = some r := H
  have A3 := Aside0.mk A30
  clear A30
  by_cases c4 : t183 = true
  · subst c4
    have H1 : ((vec_Share.f a0_0 a0_1 a1_0 a1_1).bind fun bt184 => (if bt184.2.2 = 0 then (if a1_0 = 0 then (furlonglaw02_VecMost.j0 k bt184.1 bt184.2.1 true a0_0 a0_1 a1_0 a1_1) else (furlonglaw02_VecMost.j0 k bt184.1 bt184.2.1 (a1_1 == 0) a0_0 a0_1 a1_0 a1_1)) else ((vec_Check.f a0_0 a0_1).bind fun t187 => (if t187 = 0 then ((vec_Check.f a1_0 a1_1).bind fun t188 => (if t188 = 0 then (some false) else (if bt184.1 = 0 then (some (bt184.2.1 == 0)) else (some false)))) else (if bt184.1 = 0 then (some (bt184.2.1 == 0)) else (some false)))))) = some r := by rw [if_pos rfl] at H; exact H
    clear H
    have H := H1
    clear H1
    replace H := Option.bind_eq_some_iff.mp H
    obtain ⟨⟨t184, t185, t186⟩, A50, H⟩ := H
    replace H : (if t186 = 0 then (if a1_0 = 0 then (furlonglaw02_VecMost.j0 k t184 t185 true a0_0 a0_1 a1_0 a1_1) else (furlonglaw02_VecMost.j0 k t184 t185 (a1_1 == 0) a0_0 a0_1 a1_0 a1_1)) else ((vec_Check.f a0_0 a0_1).bind fun t187 => (if t187 = 0 then ((vec_Check.f a1_0 a1_1).bind fun t188 => (if t188 = 0 then (some false) else (if t184 = 0 then (some (t185 == 0)) else (some false)))) else (if t184 = 0 then (some (t185 == 0)) else (some false))))) = some r := H
    have A5 := Aside0.mk A50
    clear A50
    by_cases c6 : t186 = 0
    · rw [if_pos c6] at H
      have c6b0 : (t186 == 0) = true := beq_iff_eq.mpr c6
      have c6b1 : (t186 != 0) = false := bne_eq_false_iff_eq.mpr c6
      clear c6
      have HC7 := Aside0.mk H
      clear H
      go_enter Try.func7, Try.ntmps7
      go_upto_region 6 with (first | ((with_reducible refine gate_dst (N := 2) rfl ?_); refine box_event ?hg (N := 2) ?hd (cs := #[.int .i64 a0_0, .int .i64 a0_1]) (t := 25) ?hr ?_; (case hd => rfl); (case hg => rfl); (case hr => first | (go_simp; done) | (go_simp; rfl)); intro gb181 hg w8 hbox hb; have n0_ := Aside0.mk (below_step (by repeat (first | (with_reducible first | exact HB.out | apply below_alloc | apply pw_below_drewN | apply below_drew1) | exact HB.out)) hb); have n1_ := Aside0.mk (hbox); have n2_ := Aside0.mk ((by rw [hg]; exact (below_size (by repeat (first | (with_reducible first | exact HB.out | apply below_alloc | apply pw_below_drewN | apply below_drew1) | exact HB.out))) : w.heap.size ≤ gb181)); have n3_ := Aside0.mk ((by rw [hg]; exact (below_size (by repeat (first | (with_reducible first | exact HB.out | apply below_alloc | apply pw_below_drewN | apply below_drew1) | exact HB.out))) : w.heap.size ≤ gb181)); clear HB; have HB := n0_; have BK181 := n1_; have GW181 := n2_; have GE181 := n3_; clear n0_ n1_ n2_ n3_; clear hb hbox hg) | ((with_reducible refine gate_dst (N := 3) rfl ?_); refine box_event ?hg (N := 3) ?hd (cs := #[.int .i64 a1_0, .int .i64 a1_1]) (t := 25) ?hr ?_; (case hd => rfl); (case hg => rfl); (case hr => first | (go_simp; done) | (go_simp; rfl)); intro gb182 hg w9 hbox hb; have n0_ := Aside0.mk (blk_below (g := gb181) (o := .cells #[.int .i64 a0_0, .int .i64 a0_1] 25 (0, 0)) (by (with_reducible repeat (first | refine blk_drewN ?_ _ | refine blk_drew ?_ | refine blk_alloc ?_ _)); exact BK181.out) hb); have n1_ := Aside0.mk (below_step (by repeat (first | (with_reducible first | exact HB.out | apply below_alloc | apply pw_below_drewN | apply below_drew1 | refine below_set ?_ GE181.out) | exact HB.out)) hb); have n2_ := Aside0.mk (hbox); have n3_ := Aside0.mk ((by rw [hg]; exact (below_size (by repeat (first | (with_reducible first | exact HB.out | apply below_alloc | apply pw_below_drewN | apply below_drew1 | refine below_set ?_ GE181.out) | exact HB.out))) : w.heap.size ≤ gb182)); have n4_ := Aside0.mk ((by rw [hg]; exact (below_size (by repeat (first | (with_reducible first | exact HB.out | apply below_alloc | apply pw_below_drewN | apply below_drew1 | refine below_set ?_ GE181.out) | exact HB.out))) : w.heap.size ≤ gb182)); have n5_ := Aside0.mk ((by rw [hg]; exact Nat.ne_of_lt (blk_lt (g := gb181) (o := .cells #[.int .i64 a0_0, .int .i64 a0_1] 25 (0, 0)) (by (with_reducible repeat (first | refine blk_drewN ?_ _ | refine blk_drew ?_ | refine blk_alloc ?_ _)); exact BK181.out)) : gb181 ≠ gb182)); have n6_ := Aside0.mk ((by rw [hg]; exact Nat.ne_of_gt (blk_lt (g := gb181) (o := .cells #[.int .i64 a0_0, .int .i64 a0_1] 25 (0, 0)) (by (with_reducible repeat (first | refine blk_drewN ?_ _ | refine blk_drew ?_ | refine blk_alloc ?_ _)); exact BK181.out)) : gb182 ≠ gb181)); clear BK181; clear HB; have BK181 := n0_; have HB := n1_; have BK182 := n2_; have GW182 := n3_; have GE182 := n4_; have NB181_182 := n5_; have NB182_181 := n6_; clear n0_ n1_ n2_ n3_ n4_ n5_ n6_; clear hb hbox hg) | ((with_reducible refine gate_callee (f := 37) rfl ?_); refine goesL_ (some 12) rfl rfl Try.func37 (by kernel_rfl) rfl #[] rfl (by (try simp only [List.map_toArray, List.map_cons, List.map_nil]); first | done | rfl | (simp only [List.length_drop, List.length_take]; rfl)) ?_; (with_reducible refine (furlonglaw02_awake.calls k  true _ A3.out).mono ?_); rintro e w10 ⟨rfl, hb⟩; refine ⟨_, rfl, ?_⟩; have n0_ := Aside0.mk (blk_below (g := gb181) (o := .cells #[.int .i64 a0_0, .int .i64 a0_1] 25 (0, 0)) (by (with_reducible repeat (first | refine blk_drewN ?_ _ | refine blk_drew ?_ | refine blk_alloc ?_ _)); exact BK181.out) hb); have n1_ := Aside0.mk (blk_below (g := gb182) (o := .cells #[.int .i64 a1_0, .int .i64 a1_1] 25 (0, 0)) (by (with_reducible repeat (first | refine blk_drewN ?_ _ | refine blk_drew ?_ | refine blk_alloc ?_ _)); exact BK182.out) hb); have n2_ := Aside0.mk (below_step (by repeat (first | (with_reducible first | exact HB.out | apply below_alloc | apply pw_below_drewN | apply below_drew1 | refine below_set ?_ GE181.out | refine below_set ?_ GE182.out) | exact HB.out)) hb); clear BK181; clear BK182; clear HB; have BK181 := n0_; have BK182 := n1_; have HB := n2_; clear n0_ n1_ n2_; (try clear hb); (try clear hb2); (try clear hk); (try clear hi); have hnb11 := NB181_182.out; have hnc11 := NB182_181.out; have hcz12_0 : w10.cell? ⟨gb181, 0, none⟩ = some (.int .i64 a0_0) := (blk_cell BK181.out 0).trans rfl; have hcz12_1 : w10.cell? ⟨gb181, 1, none⟩ = some (.int .i64 a0_1) := (blk_cell BK181.out 1).trans rfl; have hfz12_0 := blk_frozen BK181.out 0; have hfz12_1 := blk_frozen BK181.out 1; have hcz13_0 : w10.cell? ⟨gb182, 0, none⟩ = some (.int .i64 a1_0) := (blk_cell BK182.out 0).trans rfl; have hcz13_1 : w10.cell? ⟨gb182, 1, none⟩ = some (.int .i64 a1_1) := (blk_cell BK182.out 1).trans rfl; have hfz13_0 := blk_frozen BK182.out 0; have hfz13_1 := blk_frozen BK182.out 1) | ((with_reducible refine gate_callee (f := 38) rfl ?_); refine goesL_ (some 17) rfl rfl Try.func38 (by kernel_rfl) rfl #[.agg #[.int .i64 a0_0, .int .i64 a0_1], .agg #[.int .i64 a1_0, .int .i64 a1_1]] rfl (by (try simp only [List.map_toArray, List.map_cons, List.map_nil]); first | done | rfl | (simp only [List.length_drop, List.length_take]; rfl)) ?_; (with_reducible refine (vec_Share.calls a0_0 a0_1 a1_0 a1_1 t184 t185 t186 _ A5.out).mono ?_); rintro e w14 ⟨rfl, hb⟩; refine ⟨_, rfl, ?_⟩; have n0_ := Aside0.mk (blk_below (g := gb181) (o := .cells #[.int .i64 a0_0, .int .i64 a0_1] 25 (0, 0)) (by (with_reducible repeat (first | refine blk_drewN ?_ _ | refine blk_drew ?_ | refine blk_alloc ?_ _)); exact BK181.out) hb); have n1_ := Aside0.mk (blk_below (g := gb182) (o := .cells #[.int .i64 a1_0, .int .i64 a1_1] 25 (0, 0)) (by (with_reducible repeat (first | refine blk_drewN ?_ _ | refine blk_drew ?_ | refine blk_alloc ?_ _)); exact BK182.out) hb); have n2_ := Aside0.mk (below_step (by repeat (first | (with_reducible first | exact HB.out | apply below_alloc | apply pw_below_drewN | apply below_drew1 | refine below_set ?_ GE181.out | refine below_set ?_ GE182.out) | exact HB.out)) hb); clear BK181; clear BK182; clear HB; have BK181 := n0_; have BK182 := n1_; have HB := n2_; clear n0_ n1_ n2_; (try clear hb); (try clear hb2); (try clear hk); (try clear hi)))
      (try simp only [Act.put, List.setIfInBounds_toArray, List.set_cons_zero, List.set_cons_succ])
      go_cut [46] (fun v46 wc => ∃ (kq : Nat) (x46_6 : Bool), v46 = .bool x46_6 ∧ Aside0 (furlonglaw02_VecMost.j0 kq t184 t185 x46_6 a0_0 a0_1 a1_0 a1_1 = some r) ∧ Aside0 (kq ≤ k) ∧ Aside0 (wc.heap[gb181]? = some (.cells #[.int .i64 a0_0, .int .i64 a0_1] 25 (0, 0))) ∧ Aside0 (wc.heap[gb182]? = some (.cells #[.int .i64 a1_0, .int .i64 a1_1] 25 (0, 0))) ∧ Aside0 (Below w.heap.size w wc))
      case first =>
        have H := HC7.out
        clear HC7
        by_cases c15 : a1_0 = 0
        · rw [if_pos c15] at H
          have c15b0 : (a1_0 == 0) = true := beq_iff_eq.mpr c15
          have c15b1 : (a1_0 != 0) = false := bne_eq_false_iff_eq.mpr c15
          clear c15
          (first | rw [c15b0] | (simp only [i64_w, i32_w]; rw [c15b0]) | skip)
          have H' := Aside0.mk H
          clear H
          have hnb16 := NB182_181.out
          have hnc16 := NB181_182.out
          have hcz17_0 : w14.cell? ⟨gb182, 0, none⟩ = some (.int .i64 a1_0) := (blk_cell BK182.out 0).trans rfl
          have hcz17_1 : w14.cell? ⟨gb182, 1, none⟩ = some (.int .i64 a1_1) := (blk_cell BK182.out 1).trans rfl
          have hfz17_0 := blk_frozen BK182.out 0
          have hfz17_1 := blk_frozen BK182.out 1
          go_wp2
          go_meet
          case rel => exact ⟨_, (true), (by first | rfl | (simp; done) | (simp [*]; done)), H', ⟨by first | omega | exact Nat.le_refl _⟩, ⟨by (with_reducible repeat (first | refine blk_drewN ?_ _ | refine blk_drew ?_ | refine blk_alloc ?_ _)); exact BK181.out⟩, ⟨by (with_reducible repeat (first | refine blk_drewN ?_ _ | refine blk_drew ?_ | refine blk_alloc ?_ _)); exact BK182.out⟩, ⟨by repeat (first | (with_reducible first | exact HB.out | apply below_alloc | apply pw_below_drewN | apply below_drew1 | refine below_set ?_ GE181.out | refine below_set ?_ GE182.out) | exact HB.out)⟩⟩
        · rw [if_neg c15] at H
          have c15b0 : (a1_0 == 0) = false := beq_eq_false_iff_ne.mpr c15
          have c15b1 : (a1_0 != 0) = true := bne_iff_ne.mpr c15
          (first | rw [c15b0] | (simp only [i64_w, i32_w]; rw [c15b0]) | skip)
          have H' := Aside0.mk H
          clear H
          have hnb18 := NB182_181.out
          have hnc18 := NB181_182.out
          have hcz19_0 : w14.cell? ⟨gb182, 0, none⟩ = some (.int .i64 a1_0) := (blk_cell BK182.out 0).trans rfl
          have hcz19_1 : w14.cell? ⟨gb182, 1, none⟩ = some (.int .i64 a1_1) := (blk_cell BK182.out 1).trans rfl
          have hfz19_0 := blk_frozen BK182.out 0
          have hfz19_1 := blk_frozen BK182.out 1
          go_wp2
          go_meet
          case rel => exact ⟨_, ((a1_1 == 0)), (by first | rfl | (simp; done) | (simp [*]; done)), H', ⟨by first | omega | exact Nat.le_refl _⟩, ⟨by (with_reducible repeat (first | refine blk_drewN ?_ _ | refine blk_drew ?_ | refine blk_alloc ?_ _)); exact BK181.out⟩, ⟨by (with_reducible repeat (first | refine blk_drewN ?_ _ | refine blk_drew ?_ | refine blk_alloc ?_ _)); exact BK182.out⟩, ⟨by repeat (first | (with_reducible first | exact HB.out | apply below_alloc | apply pw_below_drewN | apply below_drew1 | refine below_set ?_ GE181.out | refine below_set ?_ GE182.out) | exact HB.out)⟩⟩
      case rest =>
        clear HC7
        try clear c1
        try clear p2
        try clear c3
        try clear c4
        try clear c6
        try clear c6b0
        try clear c6b1
        try clear c7
        try clear c11
        try clear c15
        try clear c15b0
        try clear c15b1
        try clear c16
        try clear c18
        try clear hcz12_0
        try clear hcz12_1
        try clear hcz13_0
        try clear hcz13_1
        try clear hcz17_0
        try clear hcz17_1
        try clear hcz19_0
        try clear hcz19_1
        try clear hfz12_0
        try clear hfz12_1
        try clear hfz13_0
        try clear hfz13_1
        try clear hfz17_0
        try clear hfz17_1
        try clear hfz19_0
        try clear hfz19_1
        obtain ⟨kq, x46_6, rfl, HA, HJ6, BK181, BK182, HB⟩ := hcut
        cases kq with
        | zero => exact absurd HA.out (by simp [furlonglaw02_VecMost.j0])
        | succ kj6 =>
          have H := HA.out
          clear HA
          simp only [furlonglaw02_VecMost.j0] at H
          by_cases c20 : x46_6 = true
          · subst c20
            have H1 : (if t185 = 0 then (some true) else (if a1_0 = 0 then (if a0_0 = 0 then (some true) else (if a1_1 = 0 then (some (a0_1 == 0)) else (some false))) else (if a1_1 = 0 then (some (a0_1 == 0)) else (some false)))) = some r := by rw [if_pos rfl] at H; exact H
            clear H
            have H := H1
            clear H1
            by_cases c21 : t185 = 0
            · rw [if_pos c21] at H
              have c21b0 : (t185 == 0) = true := beq_iff_eq.mpr c21
              have c21b1 : (t185 != 0) = false := bne_eq_false_iff_eq.mpr c21
              clear c21
              obtain rfl := Option.some.inj H
              go_wp2
              go_ret
              exact ⟨by first | rfl | (simp [errW_none, errW_some] <;> rfl) | (simp [*, errW_none, errW_some] <;> rfl), by repeat (first | (with_reducible first | exact HB.out | apply below_alloc | apply pw_below_drewN | apply below_drew1 | refine below_set ?_ GE181.out | refine below_set ?_ GE182.out) | exact HB.out)⟩
            · rw [if_neg c21] at H
              have c21b0 : (t185 == 0) = false := beq_eq_false_iff_ne.mpr c21
              have c21b1 : (t185 != 0) = true := bne_iff_ne.mpr c21
              by_cases c22 : a1_0 = 0
              · rw [if_pos c22] at H
                have c22b0 : (a1_0 == 0) = true := beq_iff_eq.mpr c22
                have c22b1 : (a1_0 != 0) = false := bne_eq_false_iff_eq.mpr c22
                clear c22
                by_cases c23 : a0_0 = 0
                · rw [if_pos c23] at H
                  have c23b0 : (a0_0 == 0) = true := beq_iff_eq.mpr c23
                  have c23b1 : (a0_0 != 0) = false := bne_eq_false_iff_eq.mpr c23
                  clear c23
                  obtain rfl := Option.some.inj H
                  have hnb24 := NB182_181.out
                  have hnc24 := NB181_182.out
                  have hcz25_0 : wc.cell? ⟨gb182, 0, none⟩ = some (.int .i64 a1_0) := (blk_cell BK182.out 0).trans rfl
                  have hcz25_1 : wc.cell? ⟨gb182, 1, none⟩ = some (.int .i64 a1_1) := (blk_cell BK182.out 1).trans rfl
                  have hfz25_0 := blk_frozen BK182.out 0
                  have hfz25_1 := blk_frozen BK182.out 1
                  have hcz26_0 : wc.cell? ⟨gb181, 0, none⟩ = some (.int .i64 a0_0) := (blk_cell BK181.out 0).trans rfl
                  have hcz26_1 : wc.cell? ⟨gb181, 1, none⟩ = some (.int .i64 a0_1) := (blk_cell BK181.out 1).trans rfl
                  have hfz26_0 := blk_frozen BK181.out 0
                  have hfz26_1 := blk_frozen BK181.out 1
                  go_wp2
                  go_ret
                  exact ⟨by first | rfl | (simp [errW_none, errW_some] <;> rfl) | (simp [*, errW_none, errW_some] <;> rfl), by repeat (first | (with_reducible first | exact HB.out | apply below_alloc | apply pw_below_drewN | apply below_drew1 | refine below_set ?_ GE181.out | refine below_set ?_ GE182.out) | exact HB.out)⟩
                · rw [if_neg c23] at H
                  have c23b0 : (a0_0 == 0) = false := beq_eq_false_iff_ne.mpr c23
                  have c23b1 : (a0_0 != 0) = true := bne_iff_ne.mpr c23
                  by_cases c27 : a1_1 = 0
                  · rw [if_pos c27] at H
                    have c27b0 : (a1_1 == 0) = true := beq_iff_eq.mpr c27
                    have c27b1 : (a1_1 != 0) = false := bne_eq_false_iff_eq.mpr c27
                    clear c27
                    obtain rfl := Option.some.inj H
                    have hnb28 := NB182_181.out
                    have hnc28 := NB181_182.out
                    have hcz29_0 : wc.cell? ⟨gb182, 0, none⟩ = some (.int .i64 a1_0) := (blk_cell BK182.out 0).trans rfl
                    have hcz29_1 : wc.cell? ⟨gb182, 1, none⟩ = some (.int .i64 a1_1) := (blk_cell BK182.out 1).trans rfl
                    have hfz29_0 := blk_frozen BK182.out 0
                    have hfz29_1 := blk_frozen BK182.out 1
                    have hcz30_0 : wc.cell? ⟨gb181, 0, none⟩ = some (.int .i64 a0_0) := (blk_cell BK181.out 0).trans rfl
                    have hcz30_1 : wc.cell? ⟨gb181, 1, none⟩ = some (.int .i64 a0_1) := (blk_cell BK181.out 1).trans rfl
                    have hfz30_0 := blk_frozen BK181.out 0
                    have hfz30_1 := blk_frozen BK181.out 1
                    go_wp2
                    go_ret
                    exact ⟨by first | rfl | (simp [errW_none, errW_some] <;> rfl) | (simp [*, errW_none, errW_some] <;> rfl), by repeat (first | (with_reducible first | exact HB.out | apply below_alloc | apply pw_below_drewN | apply below_drew1 | refine below_set ?_ GE181.out | refine below_set ?_ GE182.out) | exact HB.out)⟩
                  · rw [if_neg c27] at H
                    have c27b0 : (a1_1 == 0) = false := beq_eq_false_iff_ne.mpr c27
                    have c27b1 : (a1_1 != 0) = true := bne_iff_ne.mpr c27
                    obtain rfl := Option.some.inj H
                    have hnb31 := NB182_181.out
                    have hnc31 := NB181_182.out
                    have hcz32_0 : wc.cell? ⟨gb182, 0, none⟩ = some (.int .i64 a1_0) := (blk_cell BK182.out 0).trans rfl
                    have hcz32_1 : wc.cell? ⟨gb182, 1, none⟩ = some (.int .i64 a1_1) := (blk_cell BK182.out 1).trans rfl
                    have hfz32_0 := blk_frozen BK182.out 0
                    have hfz32_1 := blk_frozen BK182.out 1
                    have hcz33_0 : wc.cell? ⟨gb181, 0, none⟩ = some (.int .i64 a0_0) := (blk_cell BK181.out 0).trans rfl
                    have hcz33_1 : wc.cell? ⟨gb181, 1, none⟩ = some (.int .i64 a0_1) := (blk_cell BK181.out 1).trans rfl
                    have hfz33_0 := blk_frozen BK181.out 0
                    have hfz33_1 := blk_frozen BK181.out 1
                    go_wp2
                    go_ret
                    exact ⟨by first | rfl | (simp [errW_none, errW_some] <;> rfl) | (simp [*, errW_none, errW_some] <;> rfl), by repeat (first | (with_reducible first | exact HB.out | apply below_alloc | apply pw_below_drewN | apply below_drew1 | refine below_set ?_ GE181.out | refine below_set ?_ GE182.out) | exact HB.out)⟩
              · rw [if_neg c22] at H
                have c22b0 : (a1_0 == 0) = false := beq_eq_false_iff_ne.mpr c22
                have c22b1 : (a1_0 != 0) = true := bne_iff_ne.mpr c22
                by_cases c34 : a1_1 = 0
                · rw [if_pos c34] at H
                  have c34b0 : (a1_1 == 0) = true := beq_iff_eq.mpr c34
                  have c34b1 : (a1_1 != 0) = false := bne_eq_false_iff_eq.mpr c34
                  clear c34
                  obtain rfl := Option.some.inj H
                  have hnb35 := NB182_181.out
                  have hnc35 := NB181_182.out
                  have hcz36_0 : wc.cell? ⟨gb182, 0, none⟩ = some (.int .i64 a1_0) := (blk_cell BK182.out 0).trans rfl
                  have hcz36_1 : wc.cell? ⟨gb182, 1, none⟩ = some (.int .i64 a1_1) := (blk_cell BK182.out 1).trans rfl
                  have hfz36_0 := blk_frozen BK182.out 0
                  have hfz36_1 := blk_frozen BK182.out 1
                  have hcz37_0 : wc.cell? ⟨gb181, 0, none⟩ = some (.int .i64 a0_0) := (blk_cell BK181.out 0).trans rfl
                  have hcz37_1 : wc.cell? ⟨gb181, 1, none⟩ = some (.int .i64 a0_1) := (blk_cell BK181.out 1).trans rfl
                  have hfz37_0 := blk_frozen BK181.out 0
                  have hfz37_1 := blk_frozen BK181.out 1
                  go_wp2
                  go_ret
                  exact ⟨by first | rfl | (simp [errW_none, errW_some] <;> rfl) | (simp [*, errW_none, errW_some] <;> rfl), by repeat (first | (with_reducible first | exact HB.out | apply below_alloc | apply pw_below_drewN | apply below_drew1 | refine below_set ?_ GE181.out | refine below_set ?_ GE182.out) | exact HB.out)⟩
                · rw [if_neg c34] at H
                  have c34b0 : (a1_1 == 0) = false := beq_eq_false_iff_ne.mpr c34
                  have c34b1 : (a1_1 != 0) = true := bne_iff_ne.mpr c34
                  obtain rfl := Option.some.inj H
                  have hnb38 := NB182_181.out
                  have hnc38 := NB181_182.out
                  have hcz39_0 : wc.cell? ⟨gb182, 0, none⟩ = some (.int .i64 a1_0) := (blk_cell BK182.out 0).trans rfl
                  have hcz39_1 : wc.cell? ⟨gb182, 1, none⟩ = some (.int .i64 a1_1) := (blk_cell BK182.out 1).trans rfl
                  have hfz39_0 := blk_frozen BK182.out 0
                  have hfz39_1 := blk_frozen BK182.out 1
                  go_wp2
                  go_ret
                  exact ⟨by first | rfl | (simp [errW_none, errW_some] <;> rfl) | (simp [*, errW_none, errW_some] <;> rfl), by repeat (first | (with_reducible first | exact HB.out | apply below_alloc | apply pw_below_drewN | apply below_drew1 | refine below_set ?_ GE181.out | refine below_set ?_ GE182.out) | exact HB.out)⟩
          · replace c20 := Bool.eq_false_iff.mpr c20
            subst c20
            have H1 : ((num_Cmp.f kj6 a0_0 a1_0 t184 t185).bind fun bt189 => ((num_Cmp.f kj6 a0_1 a1_1 t184 t185).bind fun bt191 => (if bt189.2 = 0 then (if bt191.2 = 0 then (if bt189.1 ≤ 0 then (if bt191.1 ≤ 0 then (if bt189.1 = 0 then (some true) else (some (bt191.1 == 0))) else (some false)) else (some false)) else (some false)) else (some false)))) = some r := by rw [if_neg (show ¬ (false = true) by decide)] at H; exact H
            clear H
            have H := H1
            clear H1
            replace H := Option.bind_eq_some_iff.mp H
            obtain ⟨⟨t189, t190⟩, A400, H⟩ := H
            replace H : ((num_Cmp.f kj6 a0_1 a1_1 t184 t185).bind fun bt191 => (if t190 = 0 then (if bt191.2 = 0 then (if t189 ≤ 0 then (if bt191.1 ≤ 0 then (if t189 = 0 then (some true) else (some (bt191.1 == 0))) else (some false)) else (some false)) else (some false)) else (some false))) = some r := H
            have A40 := Aside0.mk A400
            clear A400
            replace H := Option.bind_eq_some_iff.mp H
            obtain ⟨⟨t191, t192⟩, A410, H⟩ := H
            replace H : (if t190 = 0 then (if t192 = 0 then (if t189 ≤ 0 then (if t191 ≤ 0 then (if t189 = 0 then (some true) else (some (t191 == 0))) else (some false)) else (some false)) else (some false)) else (some false)) = some r := H
            have A41 := Aside0.mk A410
            clear A410
            by_cases c42 : t190 = 0
            · rw [if_pos c42] at H
              have c42b0 : (t190 == 0) = true := beq_iff_eq.mpr c42
              have c42b1 : (t190 != 0) = false := bne_eq_false_iff_eq.mpr c42
              clear c42
              by_cases c43 : t192 = 0
              · rw [if_pos c43] at H
                have c43b0 : (t192 == 0) = true := beq_iff_eq.mpr c43
                have c43b1 : (t192 != 0) = false := bne_eq_false_iff_eq.mpr c43
                clear c43
                by_cases c44 : t189 ≤ 0
                · rw [if_pos c44] at H
                  have c44b0 : decide (t189 ≤ 0) = true := decide_eq_true c44
                  clear c44
                  by_cases c45 : t191 ≤ 0
                  · rw [if_pos c45] at H
                    have c45b0 : decide (t191 ≤ 0) = true := decide_eq_true c45
                    clear c45
                    by_cases c46 : t189 = 0
                    · rw [if_pos c46] at H
                      have c46b0 : (t189 == 0) = true := beq_iff_eq.mpr c46
                      have c46b1 : (t189 != 0) = false := bne_eq_false_iff_eq.mpr c46
                      clear c46
                      obtain rfl := Option.some.inj H
                      have hnb47 := NB181_182.out
                      have hnc47 := NB182_181.out
                      have hcz48_0 : wc.cell? ⟨gb181, 0, none⟩ = some (.int .i64 a0_0) := (blk_cell BK181.out 0).trans rfl
                      have hcz48_1 : wc.cell? ⟨gb181, 1, none⟩ = some (.int .i64 a0_1) := (blk_cell BK181.out 1).trans rfl
                      have hfz48_0 := blk_frozen BK181.out 0
                      have hfz48_1 := blk_frozen BK181.out 1
                      have hcz49_0 : wc.cell? ⟨gb182, 0, none⟩ = some (.int .i64 a1_0) := (blk_cell BK182.out 0).trans rfl
                      have hcz49_1 : wc.cell? ⟨gb182, 1, none⟩ = some (.int .i64 a1_1) := (blk_cell BK182.out 1).trans rfl
                      have hfz49_0 := blk_frozen BK182.out 0
                      have hfz49_1 := blk_frozen BK182.out 1
                      go_wp2_with (first | ((with_reducible refine gate_callee (f := 48) rfl ?_); refine goesL_ (some 76) rfl rfl Try.func48 (by kernel_rfl) rfl #[.int .i64 a0_0, .int .i64 a1_0, .int .i64 t184, .int .i64 t185] rfl (by (try simp only [List.map_toArray, List.map_cons, List.map_nil]); first | done | rfl | (simp only [List.length_drop, List.length_take]; rfl)) ?_; (with_reducible refine (num_Cmp.calls kj6 a0_0 a1_0 t184 t185 t189 t190 _ A40.out).mono ?_); rintro e w50 ⟨rfl, hb⟩; refine ⟨_, rfl, ?_⟩; have n0_ := Aside0.mk (blk_below (g := gb181) (o := .cells #[.int .i64 a0_0, .int .i64 a0_1] 25 (0, 0)) (by (with_reducible repeat (first | refine blk_drewN ?_ _ | refine blk_drew ?_ | refine blk_alloc ?_ _)); exact BK181.out) hb); have n1_ := Aside0.mk (blk_below (g := gb182) (o := .cells #[.int .i64 a1_0, .int .i64 a1_1] 25 (0, 0)) (by (with_reducible repeat (first | refine blk_drewN ?_ _ | refine blk_drew ?_ | refine blk_alloc ?_ _)); exact BK182.out) hb); have n2_ := Aside0.mk (below_step (by repeat (first | (with_reducible first | exact HB.out | apply below_alloc | apply pw_below_drewN | apply below_drew1 | refine below_set ?_ GE181.out | refine below_set ?_ GE182.out) | exact HB.out)) hb); clear BK181; clear BK182; clear HB; have BK181 := n0_; have BK182 := n1_; have HB := n2_; clear n0_ n1_ n2_; (try clear hb); (try clear hb2); (try clear hk); (try clear hi); have hcz51_0 : w50.cell? ⟨gb181, 0, none⟩ = some (.int .i64 a0_0) := (blk_cell BK181.out 0).trans rfl; have hcz51_1 : w50.cell? ⟨gb181, 1, none⟩ = some (.int .i64 a0_1) := (blk_cell BK181.out 1).trans rfl; have hfz51_0 := blk_frozen BK181.out 0; have hfz51_1 := blk_frozen BK181.out 1; have hcz52_0 : w50.cell? ⟨gb182, 0, none⟩ = some (.int .i64 a1_0) := (blk_cell BK182.out 0).trans rfl; have hcz52_1 : w50.cell? ⟨gb182, 1, none⟩ = some (.int .i64 a1_1) := (blk_cell BK182.out 1).trans rfl; have hfz52_0 := blk_frozen BK182.out 0; have hfz52_1 := blk_frozen BK182.out 1) | ((with_reducible refine gate_callee (f := 48) rfl ?_); refine goesL_ (some 86) rfl rfl Try.func48 (by kernel_rfl) rfl #[.int .i64 a0_1, .int .i64 a1_1, .int .i64 t184, .int .i64 t185] rfl (by (try simp only [List.map_toArray, List.map_cons, List.map_nil]); first | done | rfl | (simp only [List.length_drop, List.length_take]; rfl)) ?_; (with_reducible refine (num_Cmp.calls kj6 a0_1 a1_1 t184 t185 t191 t192 _ A41.out).mono ?_); rintro e w53 ⟨rfl, hb⟩; refine ⟨_, rfl, ?_⟩; have n0_ := Aside0.mk (blk_below (g := gb181) (o := .cells #[.int .i64 a0_0, .int .i64 a0_1] 25 (0, 0)) (by (with_reducible repeat (first | refine blk_drewN ?_ _ | refine blk_drew ?_ | refine blk_alloc ?_ _)); exact BK181.out) hb); have n1_ := Aside0.mk (blk_below (g := gb182) (o := .cells #[.int .i64 a1_0, .int .i64 a1_1] 25 (0, 0)) (by (with_reducible repeat (first | refine blk_drewN ?_ _ | refine blk_drew ?_ | refine blk_alloc ?_ _)); exact BK182.out) hb); have n2_ := Aside0.mk (below_step (by repeat (first | (with_reducible first | exact HB.out | apply below_alloc | apply pw_below_drewN | apply below_drew1 | refine below_set ?_ GE181.out | refine below_set ?_ GE182.out) | exact HB.out)) hb); clear BK181; clear BK182; clear HB; have BK181 := n0_; have BK182 := n1_; have HB := n2_; clear n0_ n1_ n2_; (try clear hb); (try clear hb2); (try clear hk); (try clear hi)))
                      go_ret
                      exact ⟨by first | rfl | (simp [errW_none, errW_some] <;> rfl) | (simp [*, errW_none, errW_some] <;> rfl), by repeat (first | (with_reducible first | exact HB.out | apply below_alloc | apply pw_below_drewN | apply below_drew1 | refine below_set ?_ GE181.out | refine below_set ?_ GE182.out) | exact HB.out)⟩
                    · rw [if_neg c46] at H
                      have c46b0 : (t189 == 0) = false := beq_eq_false_iff_ne.mpr c46
                      have c46b1 : (t189 != 0) = true := bne_iff_ne.mpr c46
                      obtain rfl := Option.some.inj H
                      have hnb54 := NB181_182.out
                      have hnc54 := NB182_181.out
                      have hcz55_0 : wc.cell? ⟨gb181, 0, none⟩ = some (.int .i64 a0_0) := (blk_cell BK181.out 0).trans rfl
                      have hcz55_1 : wc.cell? ⟨gb181, 1, none⟩ = some (.int .i64 a0_1) := (blk_cell BK181.out 1).trans rfl
                      have hfz55_0 := blk_frozen BK181.out 0
                      have hfz55_1 := blk_frozen BK181.out 1
                      have hcz56_0 : wc.cell? ⟨gb182, 0, none⟩ = some (.int .i64 a1_0) := (blk_cell BK182.out 0).trans rfl
                      have hcz56_1 : wc.cell? ⟨gb182, 1, none⟩ = some (.int .i64 a1_1) := (blk_cell BK182.out 1).trans rfl
                      have hfz56_0 := blk_frozen BK182.out 0
                      have hfz56_1 := blk_frozen BK182.out 1
                      go_wp2_with (first | ((with_reducible refine gate_callee (f := 48) rfl ?_); refine goesL_ (some 76) rfl rfl Try.func48 (by kernel_rfl) rfl #[.int .i64 a0_0, .int .i64 a1_0, .int .i64 t184, .int .i64 t185] rfl (by (try simp only [List.map_toArray, List.map_cons, List.map_nil]); first | done | rfl | (simp only [List.length_drop, List.length_take]; rfl)) ?_; (with_reducible refine (num_Cmp.calls kj6 a0_0 a1_0 t184 t185 t189 t190 _ A40.out).mono ?_); rintro e w57 ⟨rfl, hb⟩; refine ⟨_, rfl, ?_⟩; have n0_ := Aside0.mk (blk_below (g := gb181) (o := .cells #[.int .i64 a0_0, .int .i64 a0_1] 25 (0, 0)) (by (with_reducible repeat (first | refine blk_drewN ?_ _ | refine blk_drew ?_ | refine blk_alloc ?_ _)); exact BK181.out) hb); have n1_ := Aside0.mk (blk_below (g := gb182) (o := .cells #[.int .i64 a1_0, .int .i64 a1_1] 25 (0, 0)) (by (with_reducible repeat (first | refine blk_drewN ?_ _ | refine blk_drew ?_ | refine blk_alloc ?_ _)); exact BK182.out) hb); have n2_ := Aside0.mk (below_step (by repeat (first | (with_reducible first | exact HB.out | apply below_alloc | apply pw_below_drewN | apply below_drew1 | refine below_set ?_ GE181.out | refine below_set ?_ GE182.out) | exact HB.out)) hb); clear BK181; clear BK182; clear HB; have BK181 := n0_; have BK182 := n1_; have HB := n2_; clear n0_ n1_ n2_; (try clear hb); (try clear hb2); (try clear hk); (try clear hi); have hcz58_0 : w57.cell? ⟨gb181, 0, none⟩ = some (.int .i64 a0_0) := (blk_cell BK181.out 0).trans rfl; have hcz58_1 : w57.cell? ⟨gb181, 1, none⟩ = some (.int .i64 a0_1) := (blk_cell BK181.out 1).trans rfl; have hfz58_0 := blk_frozen BK181.out 0; have hfz58_1 := blk_frozen BK181.out 1; have hcz59_0 : w57.cell? ⟨gb182, 0, none⟩ = some (.int .i64 a1_0) := (blk_cell BK182.out 0).trans rfl; have hcz59_1 : w57.cell? ⟨gb182, 1, none⟩ = some (.int .i64 a1_1) := (blk_cell BK182.out 1).trans rfl; have hfz59_0 := blk_frozen BK182.out 0; have hfz59_1 := blk_frozen BK182.out 1) | ((with_reducible refine gate_callee (f := 48) rfl ?_); refine goesL_ (some 86) rfl rfl Try.func48 (by kernel_rfl) rfl #[.int .i64 a0_1, .int .i64 a1_1, .int .i64 t184, .int .i64 t185] rfl (by (try simp only [List.map_toArray, List.map_cons, List.map_nil]); first | done | rfl | (simp only [List.length_drop, List.length_take]; rfl)) ?_; (with_reducible refine (num_Cmp.calls kj6 a0_1 a1_1 t184 t185 t191 t192 _ A41.out).mono ?_); rintro e w60 ⟨rfl, hb⟩; refine ⟨_, rfl, ?_⟩; have n0_ := Aside0.mk (blk_below (g := gb181) (o := .cells #[.int .i64 a0_0, .int .i64 a0_1] 25 (0, 0)) (by (with_reducible repeat (first | refine blk_drewN ?_ _ | refine blk_drew ?_ | refine blk_alloc ?_ _)); exact BK181.out) hb); have n1_ := Aside0.mk (blk_below (g := gb182) (o := .cells #[.int .i64 a1_0, .int .i64 a1_1] 25 (0, 0)) (by (with_reducible repeat (first | refine blk_drewN ?_ _ | refine blk_drew ?_ | refine blk_alloc ?_ _)); exact BK182.out) hb); have n2_ := Aside0.mk (below_step (by repeat (first | (with_reducible first | exact HB.out | apply below_alloc | apply pw_below_drewN | apply below_drew1 | refine below_set ?_ GE181.out | refine below_set ?_ GE182.out) | exact HB.out)) hb); clear BK181; clear BK182; clear HB; have BK181 := n0_; have BK182 := n1_; have HB := n2_; clear n0_ n1_ n2_; (try clear hb); (try clear hb2); (try clear hk); (try clear hi)))
                      go_ret
                      exact ⟨by first | rfl | (simp [errW_none, errW_some] <;> rfl) | (simp [*, errW_none, errW_some] <;> rfl), by repeat (first | (with_reducible first | exact HB.out | apply below_alloc | apply pw_below_drewN | apply below_drew1 | refine below_set ?_ GE181.out | refine below_set ?_ GE182.out) | exact HB.out)⟩
                  · rw [if_neg c45] at H
                    have c45b0 : decide (t191 ≤ 0) = false := decide_eq_false c45
                    clear c45
                    obtain rfl := Option.some.inj H
                    have hnb61 := NB181_182.out
                    have hnc61 := NB182_181.out
                    have hcz62_0 : wc.cell? ⟨gb181, 0, none⟩ = some (.int .i64 a0_0) := (blk_cell BK181.out 0).trans rfl
                    have hcz62_1 : wc.cell? ⟨gb181, 1, none⟩ = some (.int .i64 a0_1) := (blk_cell BK181.out 1).trans rfl
                    have hfz62_0 := blk_frozen BK181.out 0
                    have hfz62_1 := blk_frozen BK181.out 1
                    have hcz63_0 : wc.cell? ⟨gb182, 0, none⟩ = some (.int .i64 a1_0) := (blk_cell BK182.out 0).trans rfl
                    have hcz63_1 : wc.cell? ⟨gb182, 1, none⟩ = some (.int .i64 a1_1) := (blk_cell BK182.out 1).trans rfl
                    have hfz63_0 := blk_frozen BK182.out 0
                    have hfz63_1 := blk_frozen BK182.out 1
                    go_wp2_with (first | ((with_reducible refine gate_callee (f := 48) rfl ?_); refine goesL_ (some 76) rfl rfl Try.func48 (by kernel_rfl) rfl #[.int .i64 a0_0, .int .i64 a1_0, .int .i64 t184, .int .i64 t185] rfl (by (try simp only [List.map_toArray, List.map_cons, List.map_nil]); first | done | rfl | (simp only [List.length_drop, List.length_take]; rfl)) ?_; (with_reducible refine (num_Cmp.calls kj6 a0_0 a1_0 t184 t185 t189 t190 _ A40.out).mono ?_); rintro e w64 ⟨rfl, hb⟩; refine ⟨_, rfl, ?_⟩; have n0_ := Aside0.mk (blk_below (g := gb181) (o := .cells #[.int .i64 a0_0, .int .i64 a0_1] 25 (0, 0)) (by (with_reducible repeat (first | refine blk_drewN ?_ _ | refine blk_drew ?_ | refine blk_alloc ?_ _)); exact BK181.out) hb); have n1_ := Aside0.mk (blk_below (g := gb182) (o := .cells #[.int .i64 a1_0, .int .i64 a1_1] 25 (0, 0)) (by (with_reducible repeat (first | refine blk_drewN ?_ _ | refine blk_drew ?_ | refine blk_alloc ?_ _)); exact BK182.out) hb); have n2_ := Aside0.mk (below_step (by repeat (first | (with_reducible first | exact HB.out | apply below_alloc | apply pw_below_drewN | apply below_drew1 | refine below_set ?_ GE181.out | refine below_set ?_ GE182.out) | exact HB.out)) hb); clear BK181; clear BK182; clear HB; have BK181 := n0_; have BK182 := n1_; have HB := n2_; clear n0_ n1_ n2_; (try clear hb); (try clear hb2); (try clear hk); (try clear hi); have hcz65_0 : w64.cell? ⟨gb181, 0, none⟩ = some (.int .i64 a0_0) := (blk_cell BK181.out 0).trans rfl; have hcz65_1 : w64.cell? ⟨gb181, 1, none⟩ = some (.int .i64 a0_1) := (blk_cell BK181.out 1).trans rfl; have hfz65_0 := blk_frozen BK181.out 0; have hfz65_1 := blk_frozen BK181.out 1; have hcz66_0 : w64.cell? ⟨gb182, 0, none⟩ = some (.int .i64 a1_0) := (blk_cell BK182.out 0).trans rfl; have hcz66_1 : w64.cell? ⟨gb182, 1, none⟩ = some (.int .i64 a1_1) := (blk_cell BK182.out 1).trans rfl; have hfz66_0 := blk_frozen BK182.out 0; have hfz66_1 := blk_frozen BK182.out 1) | ((with_reducible refine gate_callee (f := 48) rfl ?_); refine goesL_ (some 86) rfl rfl Try.func48 (by kernel_rfl) rfl #[.int .i64 a0_1, .int .i64 a1_1, .int .i64 t184, .int .i64 t185] rfl (by (try simp only [List.map_toArray, List.map_cons, List.map_nil]); first | done | rfl | (simp only [List.length_drop, List.length_take]; rfl)) ?_; (with_reducible refine (num_Cmp.calls kj6 a0_1 a1_1 t184 t185 t191 t192 _ A41.out).mono ?_); rintro e w67 ⟨rfl, hb⟩; refine ⟨_, rfl, ?_⟩; have n0_ := Aside0.mk (blk_below (g := gb181) (o := .cells #[.int .i64 a0_0, .int .i64 a0_1] 25 (0, 0)) (by (with_reducible repeat (first | refine blk_drewN ?_ _ | refine blk_drew ?_ | refine blk_alloc ?_ _)); exact BK181.out) hb); have n1_ := Aside0.mk (blk_below (g := gb182) (o := .cells #[.int .i64 a1_0, .int .i64 a1_1] 25 (0, 0)) (by (with_reducible repeat (first | refine blk_drewN ?_ _ | refine blk_drew ?_ | refine blk_alloc ?_ _)); exact BK182.out) hb); have n2_ := Aside0.mk (below_step (by repeat (first | (with_reducible first | exact HB.out | apply below_alloc | apply pw_below_drewN | apply below_drew1 | refine below_set ?_ GE181.out | refine below_set ?_ GE182.out) | exact HB.out)) hb); clear BK181; clear BK182; clear HB; have BK181 := n0_; have BK182 := n1_; have HB := n2_; clear n0_ n1_ n2_; (try clear hb); (try clear hb2); (try clear hk); (try clear hi)))
                    go_ret
                    exact ⟨by first | rfl | (simp [errW_none, errW_some] <;> rfl) | (simp [*, errW_none, errW_some] <;> rfl), by repeat (first | (with_reducible first | exact HB.out | apply below_alloc | apply pw_below_drewN | apply below_drew1 | refine below_set ?_ GE181.out | refine below_set ?_ GE182.out) | exact HB.out)⟩
                · rw [if_neg c44] at H
                  have c44b0 : decide (t189 ≤ 0) = false := decide_eq_false c44
                  clear c44
                  obtain rfl := Option.some.inj H
                  have hnb68 := NB181_182.out
                  have hnc68 := NB182_181.out
                  have hcz69_0 : wc.cell? ⟨gb181, 0, none⟩ = some (.int .i64 a0_0) := (blk_cell BK181.out 0).trans rfl
                  have hcz69_1 : wc.cell? ⟨gb181, 1, none⟩ = some (.int .i64 a0_1) := (blk_cell BK181.out 1).trans rfl
                  have hfz69_0 := blk_frozen BK181.out 0
                  have hfz69_1 := blk_frozen BK181.out 1
                  have hcz70_0 : wc.cell? ⟨gb182, 0, none⟩ = some (.int .i64 a1_0) := (blk_cell BK182.out 0).trans rfl
                  have hcz70_1 : wc.cell? ⟨gb182, 1, none⟩ = some (.int .i64 a1_1) := (blk_cell BK182.out 1).trans rfl
                  have hfz70_0 := blk_frozen BK182.out 0
                  have hfz70_1 := blk_frozen BK182.out 1
                  go_wp2_with (first | ((with_reducible refine gate_callee (f := 48) rfl ?_); refine goesL_ (some 76) rfl rfl Try.func48 (by kernel_rfl) rfl #[.int .i64 a0_0, .int .i64 a1_0, .int .i64 t184, .int .i64 t185] rfl (by (try simp only [List.map_toArray, List.map_cons, List.map_nil]); first | done | rfl | (simp only [List.length_drop, List.length_take]; rfl)) ?_; (with_reducible refine (num_Cmp.calls kj6 a0_0 a1_0 t184 t185 t189 t190 _ A40.out).mono ?_); rintro e w71 ⟨rfl, hb⟩; refine ⟨_, rfl, ?_⟩; have n0_ := Aside0.mk (blk_below (g := gb181) (o := .cells #[.int .i64 a0_0, .int .i64 a0_1] 25 (0, 0)) (by (with_reducible repeat (first | refine blk_drewN ?_ _ | refine blk_drew ?_ | refine blk_alloc ?_ _)); exact BK181.out) hb); have n1_ := Aside0.mk (blk_below (g := gb182) (o := .cells #[.int .i64 a1_0, .int .i64 a1_1] 25 (0, 0)) (by (with_reducible repeat (first | refine blk_drewN ?_ _ | refine blk_drew ?_ | refine blk_alloc ?_ _)); exact BK182.out) hb); have n2_ := Aside0.mk (below_step (by repeat (first | (with_reducible first | exact HB.out | apply below_alloc | apply pw_below_drewN | apply below_drew1 | refine below_set ?_ GE181.out | refine below_set ?_ GE182.out) | exact HB.out)) hb); clear BK181; clear BK182; clear HB; have BK181 := n0_; have BK182 := n1_; have HB := n2_; clear n0_ n1_ n2_; (try clear hb); (try clear hb2); (try clear hk); (try clear hi); have hcz72_0 : w71.cell? ⟨gb181, 0, none⟩ = some (.int .i64 a0_0) := (blk_cell BK181.out 0).trans rfl; have hcz72_1 : w71.cell? ⟨gb181, 1, none⟩ = some (.int .i64 a0_1) := (blk_cell BK181.out 1).trans rfl; have hfz72_0 := blk_frozen BK181.out 0; have hfz72_1 := blk_frozen BK181.out 1; have hcz73_0 : w71.cell? ⟨gb182, 0, none⟩ = some (.int .i64 a1_0) := (blk_cell BK182.out 0).trans rfl; have hcz73_1 : w71.cell? ⟨gb182, 1, none⟩ = some (.int .i64 a1_1) := (blk_cell BK182.out 1).trans rfl; have hfz73_0 := blk_frozen BK182.out 0; have hfz73_1 := blk_frozen BK182.out 1) | ((with_reducible refine gate_callee (f := 48) rfl ?_); refine goesL_ (some 86) rfl rfl Try.func48 (by kernel_rfl) rfl #[.int .i64 a0_1, .int .i64 a1_1, .int .i64 t184, .int .i64 t185] rfl (by (try simp only [List.map_toArray, List.map_cons, List.map_nil]); first | done | rfl | (simp only [List.length_drop, List.length_take]; rfl)) ?_; (with_reducible refine (num_Cmp.calls kj6 a0_1 a1_1 t184 t185 t191 t192 _ A41.out).mono ?_); rintro e w74 ⟨rfl, hb⟩; refine ⟨_, rfl, ?_⟩; have n0_ := Aside0.mk (blk_below (g := gb181) (o := .cells #[.int .i64 a0_0, .int .i64 a0_1] 25 (0, 0)) (by (with_reducible repeat (first | refine blk_drewN ?_ _ | refine blk_drew ?_ | refine blk_alloc ?_ _)); exact BK181.out) hb); have n1_ := Aside0.mk (blk_below (g := gb182) (o := .cells #[.int .i64 a1_0, .int .i64 a1_1] 25 (0, 0)) (by (with_reducible repeat (first | refine blk_drewN ?_ _ | refine blk_drew ?_ | refine blk_alloc ?_ _)); exact BK182.out) hb); have n2_ := Aside0.mk (below_step (by repeat (first | (with_reducible first | exact HB.out | apply below_alloc | apply pw_below_drewN | apply below_drew1 | refine below_set ?_ GE181.out | refine below_set ?_ GE182.out) | exact HB.out)) hb); clear BK181; clear BK182; clear HB; have BK181 := n0_; have BK182 := n1_; have HB := n2_; clear n0_ n1_ n2_; (try clear hb); (try clear hb2); (try clear hk); (try clear hi)))
                  go_ret
                  exact ⟨by first | rfl | (simp [errW_none, errW_some] <;> rfl) | (simp [*, errW_none, errW_some] <;> rfl), by repeat (first | (with_reducible first | exact HB.out | apply below_alloc | apply pw_below_drewN | apply below_drew1 | refine below_set ?_ GE181.out | refine below_set ?_ GE182.out) | exact HB.out)⟩
              · rw [if_neg c43] at H
                have c43b0 : (t192 == 0) = false := beq_eq_false_iff_ne.mpr c43
                have c43b1 : (t192 != 0) = true := bne_iff_ne.mpr c43
                obtain rfl := Option.some.inj H
                have hnb75 := NB181_182.out
                have hnc75 := NB182_181.out
                have hcz76_0 : wc.cell? ⟨gb181, 0, none⟩ = some (.int .i64 a0_0) := (blk_cell BK181.out 0).trans rfl
                have hcz76_1 : wc.cell? ⟨gb181, 1, none⟩ = some (.int .i64 a0_1) := (blk_cell BK181.out 1).trans rfl
                have hfz76_0 := blk_frozen BK181.out 0
                have hfz76_1 := blk_frozen BK181.out 1
                have hcz77_0 : wc.cell? ⟨gb182, 0, none⟩ = some (.int .i64 a1_0) := (blk_cell BK182.out 0).trans rfl
                have hcz77_1 : wc.cell? ⟨gb182, 1, none⟩ = some (.int .i64 a1_1) := (blk_cell BK182.out 1).trans rfl
                have hfz77_0 := blk_frozen BK182.out 0
                have hfz77_1 := blk_frozen BK182.out 1
                go_wp2_with (first | ((with_reducible refine gate_callee (f := 48) rfl ?_); refine goesL_ (some 76) rfl rfl Try.func48 (by kernel_rfl) rfl #[.int .i64 a0_0, .int .i64 a1_0, .int .i64 t184, .int .i64 t185] rfl (by (try simp only [List.map_toArray, List.map_cons, List.map_nil]); first | done | rfl | (simp only [List.length_drop, List.length_take]; rfl)) ?_; (with_reducible refine (num_Cmp.calls kj6 a0_0 a1_0 t184 t185 t189 t190 _ A40.out).mono ?_); rintro e w78 ⟨rfl, hb⟩; refine ⟨_, rfl, ?_⟩; have n0_ := Aside0.mk (blk_below (g := gb181) (o := .cells #[.int .i64 a0_0, .int .i64 a0_1] 25 (0, 0)) (by (with_reducible repeat (first | refine blk_drewN ?_ _ | refine blk_drew ?_ | refine blk_alloc ?_ _)); exact BK181.out) hb); have n1_ := Aside0.mk (blk_below (g := gb182) (o := .cells #[.int .i64 a1_0, .int .i64 a1_1] 25 (0, 0)) (by (with_reducible repeat (first | refine blk_drewN ?_ _ | refine blk_drew ?_ | refine blk_alloc ?_ _)); exact BK182.out) hb); have n2_ := Aside0.mk (below_step (by repeat (first | (with_reducible first | exact HB.out | apply below_alloc | apply pw_below_drewN | apply below_drew1 | refine below_set ?_ GE181.out | refine below_set ?_ GE182.out) | exact HB.out)) hb); clear BK181; clear BK182; clear HB; have BK181 := n0_; have BK182 := n1_; have HB := n2_; clear n0_ n1_ n2_; (try clear hb); (try clear hb2); (try clear hk); (try clear hi); have hcz79_0 : w78.cell? ⟨gb181, 0, none⟩ = some (.int .i64 a0_0) := (blk_cell BK181.out 0).trans rfl; have hcz79_1 : w78.cell? ⟨gb181, 1, none⟩ = some (.int .i64 a0_1) := (blk_cell BK181.out 1).trans rfl; have hfz79_0 := blk_frozen BK181.out 0; have hfz79_1 := blk_frozen BK181.out 1; have hcz80_0 : w78.cell? ⟨gb182, 0, none⟩ = some (.int .i64 a1_0) := (blk_cell BK182.out 0).trans rfl; have hcz80_1 : w78.cell? ⟨gb182, 1, none⟩ = some (.int .i64 a1_1) := (blk_cell BK182.out 1).trans rfl; have hfz80_0 := blk_frozen BK182.out 0; have hfz80_1 := blk_frozen BK182.out 1) | ((with_reducible refine gate_callee (f := 48) rfl ?_); refine goesL_ (some 86) rfl rfl Try.func48 (by kernel_rfl) rfl #[.int .i64 a0_1, .int .i64 a1_1, .int .i64 t184, .int .i64 t185] rfl (by (try simp only [List.map_toArray, List.map_cons, List.map_nil]); first | done | rfl | (simp only [List.length_drop, List.length_take]; rfl)) ?_; (with_reducible refine (num_Cmp.calls kj6 a0_1 a1_1 t184 t185 t191 t192 _ A41.out).mono ?_); rintro e w81 ⟨rfl, hb⟩; refine ⟨_, rfl, ?_⟩; have n0_ := Aside0.mk (blk_below (g := gb181) (o := .cells #[.int .i64 a0_0, .int .i64 a0_1] 25 (0, 0)) (by (with_reducible repeat (first | refine blk_drewN ?_ _ | refine blk_drew ?_ | refine blk_alloc ?_ _)); exact BK181.out) hb); have n1_ := Aside0.mk (blk_below (g := gb182) (o := .cells #[.int .i64 a1_0, .int .i64 a1_1] 25 (0, 0)) (by (with_reducible repeat (first | refine blk_drewN ?_ _ | refine blk_drew ?_ | refine blk_alloc ?_ _)); exact BK182.out) hb); have n2_ := Aside0.mk (below_step (by repeat (first | (with_reducible first | exact HB.out | apply below_alloc | apply pw_below_drewN | apply below_drew1 | refine below_set ?_ GE181.out | refine below_set ?_ GE182.out) | exact HB.out)) hb); clear BK181; clear BK182; clear HB; have BK181 := n0_; have BK182 := n1_; have HB := n2_; clear n0_ n1_ n2_; (try clear hb); (try clear hb2); (try clear hk); (try clear hi)))
                go_ret
                exact ⟨by first | rfl | (simp [errW_none, errW_some] <;> rfl) | (simp [*, errW_none, errW_some] <;> rfl), by repeat (first | (with_reducible first | exact HB.out | apply below_alloc | apply pw_below_drewN | apply below_drew1 | refine below_set ?_ GE181.out | refine below_set ?_ GE182.out) | exact HB.out)⟩
            · rw [if_neg c42] at H
              have c42b0 : (t190 == 0) = false := beq_eq_false_iff_ne.mpr c42
              have c42b1 : (t190 != 0) = true := bne_iff_ne.mpr c42
              obtain rfl := Option.some.inj H
              have hnb82 := NB181_182.out
              have hnc82 := NB182_181.out
              have hcz83_0 : wc.cell? ⟨gb181, 0, none⟩ = some (.int .i64 a0_0) := (blk_cell BK181.out 0).trans rfl
              have hcz83_1 : wc.cell? ⟨gb181, 1, none⟩ = some (.int .i64 a0_1) := (blk_cell BK181.out 1).trans rfl
              have hfz83_0 := blk_frozen BK181.out 0
              have hfz83_1 := blk_frozen BK181.out 1
              have hcz84_0 : wc.cell? ⟨gb182, 0, none⟩ = some (.int .i64 a1_0) := (blk_cell BK182.out 0).trans rfl
              have hcz84_1 : wc.cell? ⟨gb182, 1, none⟩ = some (.int .i64 a1_1) := (blk_cell BK182.out 1).trans rfl
              have hfz84_0 := blk_frozen BK182.out 0
              have hfz84_1 := blk_frozen BK182.out 1
              go_wp2_with (first | ((with_reducible refine gate_callee (f := 48) rfl ?_); refine goesL_ (some 76) rfl rfl Try.func48 (by kernel_rfl) rfl #[.int .i64 a0_0, .int .i64 a1_0, .int .i64 t184, .int .i64 t185] rfl (by (try simp only [List.map_toArray, List.map_cons, List.map_nil]); first | done | rfl | (simp only [List.length_drop, List.length_take]; rfl)) ?_; (with_reducible refine (num_Cmp.calls kj6 a0_0 a1_0 t184 t185 t189 t190 _ A40.out).mono ?_); rintro e w85 ⟨rfl, hb⟩; refine ⟨_, rfl, ?_⟩; have n0_ := Aside0.mk (blk_below (g := gb181) (o := .cells #[.int .i64 a0_0, .int .i64 a0_1] 25 (0, 0)) (by (with_reducible repeat (first | refine blk_drewN ?_ _ | refine blk_drew ?_ | refine blk_alloc ?_ _)); exact BK181.out) hb); have n1_ := Aside0.mk (blk_below (g := gb182) (o := .cells #[.int .i64 a1_0, .int .i64 a1_1] 25 (0, 0)) (by (with_reducible repeat (first | refine blk_drewN ?_ _ | refine blk_drew ?_ | refine blk_alloc ?_ _)); exact BK182.out) hb); have n2_ := Aside0.mk (below_step (by repeat (first | (with_reducible first | exact HB.out | apply below_alloc | apply pw_below_drewN | apply below_drew1 | refine below_set ?_ GE181.out | refine below_set ?_ GE182.out) | exact HB.out)) hb); clear BK181; clear BK182; clear HB; have BK181 := n0_; have BK182 := n1_; have HB := n2_; clear n0_ n1_ n2_; (try clear hb); (try clear hb2); (try clear hk); (try clear hi); have hcz86_0 : w85.cell? ⟨gb181, 0, none⟩ = some (.int .i64 a0_0) := (blk_cell BK181.out 0).trans rfl; have hcz86_1 : w85.cell? ⟨gb181, 1, none⟩ = some (.int .i64 a0_1) := (blk_cell BK181.out 1).trans rfl; have hfz86_0 := blk_frozen BK181.out 0; have hfz86_1 := blk_frozen BK181.out 1; have hcz87_0 : w85.cell? ⟨gb182, 0, none⟩ = some (.int .i64 a1_0) := (blk_cell BK182.out 0).trans rfl; have hcz87_1 : w85.cell? ⟨gb182, 1, none⟩ = some (.int .i64 a1_1) := (blk_cell BK182.out 1).trans rfl; have hfz87_0 := blk_frozen BK182.out 0; have hfz87_1 := blk_frozen BK182.out 1) | ((with_reducible refine gate_callee (f := 48) rfl ?_); refine goesL_ (some 86) rfl rfl Try.func48 (by kernel_rfl) rfl #[.int .i64 a0_1, .int .i64 a1_1, .int .i64 t184, .int .i64 t185] rfl (by (try simp only [List.map_toArray, List.map_cons, List.map_nil]); first | done | rfl | (simp only [List.length_drop, List.length_take]; rfl)) ?_; (with_reducible refine (num_Cmp.calls kj6 a0_1 a1_1 t184 t185 t191 t192 _ A41.out).mono ?_); rintro e w88 ⟨rfl, hb⟩; refine ⟨_, rfl, ?_⟩; have n0_ := Aside0.mk (blk_below (g := gb181) (o := .cells #[.int .i64 a0_0, .int .i64 a0_1] 25 (0, 0)) (by (with_reducible repeat (first | refine blk_drewN ?_ _ | refine blk_drew ?_ | refine blk_alloc ?_ _)); exact BK181.out) hb); have n1_ := Aside0.mk (blk_below (g := gb182) (o := .cells #[.int .i64 a1_0, .int .i64 a1_1] 25 (0, 0)) (by (with_reducible repeat (first | refine blk_drewN ?_ _ | refine blk_drew ?_ | refine blk_alloc ?_ _)); exact BK182.out) hb); have n2_ := Aside0.mk (below_step (by repeat (first | (with_reducible first | exact HB.out | apply below_alloc | apply pw_below_drewN | apply below_drew1 | refine below_set ?_ GE181.out | refine below_set ?_ GE182.out) | exact HB.out)) hb); clear BK181; clear BK182; clear HB; have BK181 := n0_; have BK182 := n1_; have HB := n2_; clear n0_ n1_ n2_; (try clear hb); (try clear hb2); (try clear hk); (try clear hi)))
              go_ret
              exact ⟨by first | rfl | (simp [errW_none, errW_some] <;> rfl) | (simp [*, errW_none, errW_some] <;> rfl), by repeat (first | (with_reducible first | exact HB.out | apply below_alloc | apply pw_below_drewN | apply below_drew1 | refine below_set ?_ GE181.out | refine below_set ?_ GE182.out) | exact HB.out)⟩
    · rw [if_neg c6] at H
      have c6b0 : (t186 == 0) = false := beq_eq_false_iff_ne.mpr c6
      have c6b1 : (t186 != 0) = true := bne_iff_ne.mpr c6
      replace H := Option.bind_eq_some_iff.mp H
      obtain ⟨t187, A890, H⟩ := H
      replace H : (if t187 = 0 then ((vec_Check.f a1_0 a1_1).bind fun t188 => (if t188 = 0 then (some false) else (if t184 = 0 then (some (t185 == 0)) else (some false)))) else (if t184 = 0 then (some (t185 == 0)) else (some false))) = some r := H
      have A89 := Aside0.mk A890
      clear A890
      by_cases c90 : t187 = 0
      · rw [if_pos c90] at H
        have c90b0 : (t187 == 0) = true := beq_iff_eq.mpr c90
        have c90b1 : (t187 != 0) = false := bne_eq_false_iff_eq.mpr c90
        clear c90
        replace H := Option.bind_eq_some_iff.mp H
        obtain ⟨t188, A910, H⟩ := H
        replace H : (if t188 = 0 then (some false) else (if t184 = 0 then (some (t185 == 0)) else (some false))) = some r := H
        have A91 := Aside0.mk A910
        clear A910
        by_cases c92 : t188 = 0
        · rw [if_pos c92] at H
          have c92b0 : (t188 == 0) = true := beq_iff_eq.mpr c92
          have c92b1 : (t188 != 0) = false := bne_eq_false_iff_eq.mpr c92
          clear c92
          obtain rfl := Option.some.inj H
          go_enter Try.func7, Try.ntmps7
          go_wp2_with (first | ((with_reducible refine gate_dst (N := 2) rfl ?_); refine box_event ?hg (N := 2) ?hd (cs := #[.int .i64 a0_0, .int .i64 a0_1]) (t := 25) ?hr ?_; (case hd => rfl); (case hg => rfl); (case hr => first | (go_simp; done) | (go_simp; rfl)); intro gb181 hg w93 hbox hb; have n0_ := Aside0.mk (below_step (by repeat (first | (with_reducible first | exact HB.out | apply below_alloc | apply pw_below_drewN | apply below_drew1) | exact HB.out)) hb); have n1_ := Aside0.mk (hbox); have n2_ := Aside0.mk ((by rw [hg]; exact (below_size (by repeat (first | (with_reducible first | exact HB.out | apply below_alloc | apply pw_below_drewN | apply below_drew1) | exact HB.out))) : w.heap.size ≤ gb181)); have n3_ := Aside0.mk ((by rw [hg]; exact (below_size (by repeat (first | (with_reducible first | exact HB.out | apply below_alloc | apply pw_below_drewN | apply below_drew1) | exact HB.out))) : w.heap.size ≤ gb181)); clear HB; have HB := n0_; have BK181 := n1_; have GW181 := n2_; have GE181 := n3_; clear n0_ n1_ n2_ n3_; clear hb hbox hg) | ((with_reducible refine gate_dst (N := 3) rfl ?_); refine box_event ?hg (N := 3) ?hd (cs := #[.int .i64 a1_0, .int .i64 a1_1]) (t := 25) ?hr ?_; (case hd => rfl); (case hg => rfl); (case hr => first | (go_simp; done) | (go_simp; rfl)); intro gb182 hg w94 hbox hb; have n0_ := Aside0.mk (blk_below (g := gb181) (o := .cells #[.int .i64 a0_0, .int .i64 a0_1] 25 (0, 0)) (by (with_reducible repeat (first | refine blk_drewN ?_ _ | refine blk_drew ?_ | refine blk_alloc ?_ _)); exact BK181.out) hb); have n1_ := Aside0.mk (below_step (by repeat (first | (with_reducible first | exact HB.out | apply below_alloc | apply pw_below_drewN | apply below_drew1 | refine below_set ?_ GE181.out) | exact HB.out)) hb); have n2_ := Aside0.mk (hbox); have n3_ := Aside0.mk ((by rw [hg]; exact (below_size (by repeat (first | (with_reducible first | exact HB.out | apply below_alloc | apply pw_below_drewN | apply below_drew1 | refine below_set ?_ GE181.out) | exact HB.out))) : w.heap.size ≤ gb182)); have n4_ := Aside0.mk ((by rw [hg]; exact (below_size (by repeat (first | (with_reducible first | exact HB.out | apply below_alloc | apply pw_below_drewN | apply below_drew1 | refine below_set ?_ GE181.out) | exact HB.out))) : w.heap.size ≤ gb182)); have n5_ := Aside0.mk ((by rw [hg]; exact Nat.ne_of_lt (blk_lt (g := gb181) (o := .cells #[.int .i64 a0_0, .int .i64 a0_1] 25 (0, 0)) (by (with_reducible repeat (first | refine blk_drewN ?_ _ | refine blk_drew ?_ | refine blk_alloc ?_ _)); exact BK181.out)) : gb181 ≠ gb182)); have n6_ := Aside0.mk ((by rw [hg]; exact Nat.ne_of_gt (blk_lt (g := gb181) (o := .cells #[.int .i64 a0_0, .int .i64 a0_1] 25 (0, 0)) (by (with_reducible repeat (first | refine blk_drewN ?_ _ | refine blk_drew ?_ | refine blk_alloc ?_ _)); exact BK181.out)) : gb182 ≠ gb181)); clear BK181; clear HB; have BK181 := n0_; have HB := n1_; have BK182 := n2_; have GW182 := n3_; have GE182 := n4_; have NB181_182 := n5_; have NB182_181 := n6_; clear n0_ n1_ n2_ n3_ n4_ n5_ n6_; clear hb hbox hg) | ((with_reducible refine gate_callee (f := 37) rfl ?_); refine goesL_ (some 12) rfl rfl Try.func37 (by kernel_rfl) rfl #[] rfl (by (try simp only [List.map_toArray, List.map_cons, List.map_nil]); first | done | rfl | (simp only [List.length_drop, List.length_take]; rfl)) ?_; (with_reducible refine (furlonglaw02_awake.calls k  true _ A3.out).mono ?_); rintro e w95 ⟨rfl, hb⟩; refine ⟨_, rfl, ?_⟩; have n0_ := Aside0.mk (blk_below (g := gb181) (o := .cells #[.int .i64 a0_0, .int .i64 a0_1] 25 (0, 0)) (by (with_reducible repeat (first | refine blk_drewN ?_ _ | refine blk_drew ?_ | refine blk_alloc ?_ _)); exact BK181.out) hb); have n1_ := Aside0.mk (blk_below (g := gb182) (o := .cells #[.int .i64 a1_0, .int .i64 a1_1] 25 (0, 0)) (by (with_reducible repeat (first | refine blk_drewN ?_ _ | refine blk_drew ?_ | refine blk_alloc ?_ _)); exact BK182.out) hb); have n2_ := Aside0.mk (below_step (by repeat (first | (with_reducible first | exact HB.out | apply below_alloc | apply pw_below_drewN | apply below_drew1 | refine below_set ?_ GE181.out | refine below_set ?_ GE182.out) | exact HB.out)) hb); clear BK181; clear BK182; clear HB; have BK181 := n0_; have BK182 := n1_; have HB := n2_; clear n0_ n1_ n2_; (try clear hb); (try clear hb2); (try clear hk); (try clear hi); have hnb96 := NB181_182.out; have hnc96 := NB182_181.out; have hcz97_0 : w95.cell? ⟨gb181, 0, none⟩ = some (.int .i64 a0_0) := (blk_cell BK181.out 0).trans rfl; have hcz97_1 : w95.cell? ⟨gb181, 1, none⟩ = some (.int .i64 a0_1) := (blk_cell BK181.out 1).trans rfl; have hfz97_0 := blk_frozen BK181.out 0; have hfz97_1 := blk_frozen BK181.out 1; have hcz98_0 : w95.cell? ⟨gb182, 0, none⟩ = some (.int .i64 a1_0) := (blk_cell BK182.out 0).trans rfl; have hcz98_1 : w95.cell? ⟨gb182, 1, none⟩ = some (.int .i64 a1_1) := (blk_cell BK182.out 1).trans rfl; have hfz98_0 := blk_frozen BK182.out 0; have hfz98_1 := blk_frozen BK182.out 1) | ((with_reducible refine gate_callee (f := 38) rfl ?_); refine goesL_ (some 17) rfl rfl Try.func38 (by kernel_rfl) rfl #[.agg #[.int .i64 a0_0, .int .i64 a0_1], .agg #[.int .i64 a1_0, .int .i64 a1_1]] rfl (by (try simp only [List.map_toArray, List.map_cons, List.map_nil]); first | done | rfl | (simp only [List.length_drop, List.length_take]; rfl)) ?_; (with_reducible refine (vec_Share.calls a0_0 a0_1 a1_0 a1_1 t184 t185 t186 _ A5.out).mono ?_); rintro e w99 ⟨rfl, hb⟩; refine ⟨_, rfl, ?_⟩; have n0_ := Aside0.mk (blk_below (g := gb181) (o := .cells #[.int .i64 a0_0, .int .i64 a0_1] 25 (0, 0)) (by (with_reducible repeat (first | refine blk_drewN ?_ _ | refine blk_drew ?_ | refine blk_alloc ?_ _)); exact BK181.out) hb); have n1_ := Aside0.mk (blk_below (g := gb182) (o := .cells #[.int .i64 a1_0, .int .i64 a1_1] 25 (0, 0)) (by (with_reducible repeat (first | refine blk_drewN ?_ _ | refine blk_drew ?_ | refine blk_alloc ?_ _)); exact BK182.out) hb); have n2_ := Aside0.mk (below_step (by repeat (first | (with_reducible first | exact HB.out | apply below_alloc | apply pw_below_drewN | apply below_drew1 | refine below_set ?_ GE181.out | refine below_set ?_ GE182.out) | exact HB.out)) hb); clear BK181; clear BK182; clear HB; have BK181 := n0_; have BK182 := n1_; have HB := n2_; clear n0_ n1_ n2_; (try clear hb); (try clear hb2); (try clear hk); (try clear hi); have hcz100_0 : w99.cell? ⟨gb181, 0, none⟩ = some (.int .i64 a0_0) := (blk_cell BK181.out 0).trans rfl; have hcz100_1 : w99.cell? ⟨gb181, 1, none⟩ = some (.int .i64 a0_1) := (blk_cell BK181.out 1).trans rfl; have hfz100_0 := blk_frozen BK181.out 0; have hfz100_1 := blk_frozen BK181.out 1) | ((with_reducible refine gate_callee (f := 44) rfl ?_); refine goesL_ (some 24) rfl rfl Try.func44 (by kernel_rfl) rfl #[.agg #[.int .i64 a0_0, .int .i64 a0_1]] rfl (by (try simp only [List.map_toArray, List.map_cons, List.map_nil]); first | done | rfl | (simp only [List.length_drop, List.length_take]; rfl)) ?_; (with_reducible refine (vec_Check.calls a0_0 a0_1 t187 _ A89.out).mono ?_); rintro e w101 ⟨rfl, hb⟩; refine ⟨_, rfl, ?_⟩; have n0_ := Aside0.mk (blk_below (g := gb181) (o := .cells #[.int .i64 a0_0, .int .i64 a0_1] 25 (0, 0)) (by (with_reducible repeat (first | refine blk_drewN ?_ _ | refine blk_drew ?_ | refine blk_alloc ?_ _)); exact BK181.out) hb); have n1_ := Aside0.mk (blk_below (g := gb182) (o := .cells #[.int .i64 a1_0, .int .i64 a1_1] 25 (0, 0)) (by (with_reducible repeat (first | refine blk_drewN ?_ _ | refine blk_drew ?_ | refine blk_alloc ?_ _)); exact BK182.out) hb); have n2_ := Aside0.mk (below_step (by repeat (first | (with_reducible first | exact HB.out | apply below_alloc | apply pw_below_drewN | apply below_drew1 | refine below_set ?_ GE181.out | refine below_set ?_ GE182.out) | exact HB.out)) hb); clear BK181; clear BK182; clear HB; have BK181 := n0_; have BK182 := n1_; have HB := n2_; clear n0_ n1_ n2_; (try clear hb); (try clear hb2); (try clear hk); (try clear hi); have hcz102_0 : w101.cell? ⟨gb182, 0, none⟩ = some (.int .i64 a1_0) := (blk_cell BK182.out 0).trans rfl; have hcz102_1 : w101.cell? ⟨gb182, 1, none⟩ = some (.int .i64 a1_1) := (blk_cell BK182.out 1).trans rfl; have hfz102_0 := blk_frozen BK182.out 0; have hfz102_1 := blk_frozen BK182.out 1) | (go_at_call 44; (with_reducible refine (vec_Check.calls a1_0 a1_1 t188 _ A91.out).mono ?_); rintro e w103 ⟨rfl, hb⟩; have n0_ := Aside0.mk (blk_below (g := gb181) (o := .cells #[.int .i64 a0_0, .int .i64 a0_1] 25 (0, 0)) (by (with_reducible repeat (first | refine blk_drewN ?_ _ | refine blk_drew ?_ | refine blk_alloc ?_ _)); exact BK181.out) hb); have n1_ := Aside0.mk (blk_below (g := gb182) (o := .cells #[.int .i64 a1_0, .int .i64 a1_1] 25 (0, 0)) (by (with_reducible repeat (first | refine blk_drewN ?_ _ | refine blk_drew ?_ | refine blk_alloc ?_ _)); exact BK182.out) hb); have n2_ := Aside0.mk (below_step (by repeat (first | (with_reducible first | exact HB.out | apply below_alloc | apply pw_below_drewN | apply below_drew1 | refine below_set ?_ GE181.out | refine below_set ?_ GE182.out) | exact HB.out)) hb); clear BK181; clear BK182; clear HB; have BK181 := n0_; have BK182 := n1_; have HB := n2_; clear n0_ n1_ n2_; (try clear hb); (try clear hb2); (try clear hk); (try clear hi)))
          go_ret
          exact ⟨by first | rfl | (simp [errW_none, errW_some] <;> rfl) | (simp [*, errW_none, errW_some] <;> rfl), by repeat (first | (with_reducible first | exact HB.out | apply below_alloc | apply pw_below_drewN | apply below_drew1 | refine below_set ?_ GE181.out | refine below_set ?_ GE182.out) | exact HB.out)⟩
        · rw [if_neg c92] at H
          have c92b0 : (t188 == 0) = false := beq_eq_false_iff_ne.mpr c92
          have c92b1 : (t188 != 0) = true := bne_iff_ne.mpr c92
          by_cases c104 : t184 = 0
          · rw [if_pos c104] at H
            have c104b0 : (t184 == 0) = true := beq_iff_eq.mpr c104
            have c104b1 : (t184 != 0) = false := bne_eq_false_iff_eq.mpr c104
            clear c104
            obtain rfl := Option.some.inj H
            go_enter Try.func7, Try.ntmps7
            go_wp2_with (first | ((with_reducible refine gate_dst (N := 2) rfl ?_); refine box_event ?hg (N := 2) ?hd (cs := #[.int .i64 a0_0, .int .i64 a0_1]) (t := 25) ?hr ?_; (case hd => rfl); (case hg => rfl); (case hr => first | (go_simp; done) | (go_simp; rfl)); intro gb181 hg w105 hbox hb; have n0_ := Aside0.mk (below_step (by repeat (first | (with_reducible first | exact HB.out | apply below_alloc | apply pw_below_drewN | apply below_drew1) | exact HB.out)) hb); have n1_ := Aside0.mk (hbox); have n2_ := Aside0.mk ((by rw [hg]; exact (below_size (by repeat (first | (with_reducible first | exact HB.out | apply below_alloc | apply pw_below_drewN | apply below_drew1) | exact HB.out))) : w.heap.size ≤ gb181)); have n3_ := Aside0.mk ((by rw [hg]; exact (below_size (by repeat (first | (with_reducible first | exact HB.out | apply below_alloc | apply pw_below_drewN | apply below_drew1) | exact HB.out))) : w.heap.size ≤ gb181)); clear HB; have HB := n0_; have BK181 := n1_; have GW181 := n2_; have GE181 := n3_; clear n0_ n1_ n2_ n3_; clear hb hbox hg) | ((with_reducible refine gate_dst (N := 3) rfl ?_); refine box_event ?hg (N := 3) ?hd (cs := #[.int .i64 a1_0, .int .i64 a1_1]) (t := 25) ?hr ?_; (case hd => rfl); (case hg => rfl); (case hr => first | (go_simp; done) | (go_simp; rfl)); intro gb182 hg w106 hbox hb; have n0_ := Aside0.mk (blk_below (g := gb181) (o := .cells #[.int .i64 a0_0, .int .i64 a0_1] 25 (0, 0)) (by (with_reducible repeat (first | refine blk_drewN ?_ _ | refine blk_drew ?_ | refine blk_alloc ?_ _)); exact BK181.out) hb); have n1_ := Aside0.mk (below_step (by repeat (first | (with_reducible first | exact HB.out | apply below_alloc | apply pw_below_drewN | apply below_drew1 | refine below_set ?_ GE181.out) | exact HB.out)) hb); have n2_ := Aside0.mk (hbox); have n3_ := Aside0.mk ((by rw [hg]; exact (below_size (by repeat (first | (with_reducible first | exact HB.out | apply below_alloc | apply pw_below_drewN | apply below_drew1 | refine below_set ?_ GE181.out) | exact HB.out))) : w.heap.size ≤ gb182)); have n4_ := Aside0.mk ((by rw [hg]; exact (below_size (by repeat (first | (with_reducible first | exact HB.out | apply below_alloc | apply pw_below_drewN | apply below_drew1 | refine below_set ?_ GE181.out) | exact HB.out))) : w.heap.size ≤ gb182)); have n5_ := Aside0.mk ((by rw [hg]; exact Nat.ne_of_lt (blk_lt (g := gb181) (o := .cells #[.int .i64 a0_0, .int .i64 a0_1] 25 (0, 0)) (by (with_reducible repeat (first | refine blk_drewN ?_ _ | refine blk_drew ?_ | refine blk_alloc ?_ _)); exact BK181.out)) : gb181 ≠ gb182)); have n6_ := Aside0.mk ((by rw [hg]; exact Nat.ne_of_gt (blk_lt (g := gb181) (o := .cells #[.int .i64 a0_0, .int .i64 a0_1] 25 (0, 0)) (by (with_reducible repeat (first | refine blk_drewN ?_ _ | refine blk_drew ?_ | refine blk_alloc ?_ _)); exact BK181.out)) : gb182 ≠ gb181)); clear BK181; clear HB; have BK181 := n0_; have HB := n1_; have BK182 := n2_; have GW182 := n3_; have GE182 := n4_; have NB181_182 := n5_; have NB182_181 := n6_; clear n0_ n1_ n2_ n3_ n4_ n5_ n6_; clear hb hbox hg) | ((with_reducible refine gate_callee (f := 37) rfl ?_); refine goesL_ (some 12) rfl rfl Try.func37 (by kernel_rfl) rfl #[] rfl (by (try simp only [List.map_toArray, List.map_cons, List.map_nil]); first | done | rfl | (simp only [List.length_drop, List.length_take]; rfl)) ?_; (with_reducible refine (furlonglaw02_awake.calls k  true _ A3.out).mono ?_); rintro e w107 ⟨rfl, hb⟩; refine ⟨_, rfl, ?_⟩; have n0_ := Aside0.mk (blk_below (g := gb181) (o := .cells #[.int .i64 a0_0, .int .i64 a0_1] 25 (0, 0)) (by (with_reducible repeat (first | refine blk_drewN ?_ _ | refine blk_drew ?_ | refine blk_alloc ?_ _)); exact BK181.out) hb); have n1_ := Aside0.mk (blk_below (g := gb182) (o := .cells #[.int .i64 a1_0, .int .i64 a1_1] 25 (0, 0)) (by (with_reducible repeat (first | refine blk_drewN ?_ _ | refine blk_drew ?_ | refine blk_alloc ?_ _)); exact BK182.out) hb); have n2_ := Aside0.mk (below_step (by repeat (first | (with_reducible first | exact HB.out | apply below_alloc | apply pw_below_drewN | apply below_drew1 | refine below_set ?_ GE181.out | refine below_set ?_ GE182.out) | exact HB.out)) hb); clear BK181; clear BK182; clear HB; have BK181 := n0_; have BK182 := n1_; have HB := n2_; clear n0_ n1_ n2_; (try clear hb); (try clear hb2); (try clear hk); (try clear hi); have hnb108 := NB181_182.out; have hnc108 := NB182_181.out; have hcz109_0 : w107.cell? ⟨gb181, 0, none⟩ = some (.int .i64 a0_0) := (blk_cell BK181.out 0).trans rfl; have hcz109_1 : w107.cell? ⟨gb181, 1, none⟩ = some (.int .i64 a0_1) := (blk_cell BK181.out 1).trans rfl; have hfz109_0 := blk_frozen BK181.out 0; have hfz109_1 := blk_frozen BK181.out 1; have hcz110_0 : w107.cell? ⟨gb182, 0, none⟩ = some (.int .i64 a1_0) := (blk_cell BK182.out 0).trans rfl; have hcz110_1 : w107.cell? ⟨gb182, 1, none⟩ = some (.int .i64 a1_1) := (blk_cell BK182.out 1).trans rfl; have hfz110_0 := blk_frozen BK182.out 0; have hfz110_1 := blk_frozen BK182.out 1) | ((with_reducible refine gate_callee (f := 38) rfl ?_); refine goesL_ (some 17) rfl rfl Try.func38 (by kernel_rfl) rfl #[.agg #[.int .i64 a0_0, .int .i64 a0_1], .agg #[.int .i64 a1_0, .int .i64 a1_1]] rfl (by (try simp only [List.map_toArray, List.map_cons, List.map_nil]); first | done | rfl | (simp only [List.length_drop, List.length_take]; rfl)) ?_; (with_reducible refine (vec_Share.calls a0_0 a0_1 a1_0 a1_1 t184 t185 t186 _ A5.out).mono ?_); rintro e w111 ⟨rfl, hb⟩; refine ⟨_, rfl, ?_⟩; have n0_ := Aside0.mk (blk_below (g := gb181) (o := .cells #[.int .i64 a0_0, .int .i64 a0_1] 25 (0, 0)) (by (with_reducible repeat (first | refine blk_drewN ?_ _ | refine blk_drew ?_ | refine blk_alloc ?_ _)); exact BK181.out) hb); have n1_ := Aside0.mk (blk_below (g := gb182) (o := .cells #[.int .i64 a1_0, .int .i64 a1_1] 25 (0, 0)) (by (with_reducible repeat (first | refine blk_drewN ?_ _ | refine blk_drew ?_ | refine blk_alloc ?_ _)); exact BK182.out) hb); have n2_ := Aside0.mk (below_step (by repeat (first | (with_reducible first | exact HB.out | apply below_alloc | apply pw_below_drewN | apply below_drew1 | refine below_set ?_ GE181.out | refine below_set ?_ GE182.out) | exact HB.out)) hb); clear BK181; clear BK182; clear HB; have BK181 := n0_; have BK182 := n1_; have HB := n2_; clear n0_ n1_ n2_; (try clear hb); (try clear hb2); (try clear hk); (try clear hi); have hcz112_0 : w111.cell? ⟨gb181, 0, none⟩ = some (.int .i64 a0_0) := (blk_cell BK181.out 0).trans rfl; have hcz112_1 : w111.cell? ⟨gb181, 1, none⟩ = some (.int .i64 a0_1) := (blk_cell BK181.out 1).trans rfl; have hfz112_0 := blk_frozen BK181.out 0; have hfz112_1 := blk_frozen BK181.out 1) | ((with_reducible refine gate_callee (f := 44) rfl ?_); refine goesL_ (some 24) rfl rfl Try.func44 (by kernel_rfl) rfl #[.agg #[.int .i64 a0_0, .int .i64 a0_1]] rfl (by (try simp only [List.map_toArray, List.map_cons, List.map_nil]); first | done | rfl | (simp only [List.length_drop, List.length_take]; rfl)) ?_; (with_reducible refine (vec_Check.calls a0_0 a0_1 t187 _ A89.out).mono ?_); rintro e w113 ⟨rfl, hb⟩; refine ⟨_, rfl, ?_⟩; have n0_ := Aside0.mk (blk_below (g := gb181) (o := .cells #[.int .i64 a0_0, .int .i64 a0_1] 25 (0, 0)) (by (with_reducible repeat (first | refine blk_drewN ?_ _ | refine blk_drew ?_ | refine blk_alloc ?_ _)); exact BK181.out) hb); have n1_ := Aside0.mk (blk_below (g := gb182) (o := .cells #[.int .i64 a1_0, .int .i64 a1_1] 25 (0, 0)) (by (with_reducible repeat (first | refine blk_drewN ?_ _ | refine blk_drew ?_ | refine blk_alloc ?_ _)); exact BK182.out) hb); have n2_ := Aside0.mk (below_step (by repeat (first | (with_reducible first | exact HB.out | apply below_alloc | apply pw_below_drewN | apply below_drew1 | refine below_set ?_ GE181.out | refine below_set ?_ GE182.out) | exact HB.out)) hb); clear BK181; clear BK182; clear HB; have BK181 := n0_; have BK182 := n1_; have HB := n2_; clear n0_ n1_ n2_; (try clear hb); (try clear hb2); (try clear hk); (try clear hi); have hcz114_0 : w113.cell? ⟨gb182, 0, none⟩ = some (.int .i64 a1_0) := (blk_cell BK182.out 0).trans rfl; have hcz114_1 : w113.cell? ⟨gb182, 1, none⟩ = some (.int .i64 a1_1) := (blk_cell BK182.out 1).trans rfl; have hfz114_0 := blk_frozen BK182.out 0; have hfz114_1 := blk_frozen BK182.out 1) | (go_at_call 44; (with_reducible refine (vec_Check.calls a1_0 a1_1 t188 _ A91.out).mono ?_); rintro e w115 ⟨rfl, hb⟩; have n0_ := Aside0.mk (blk_below (g := gb181) (o := .cells #[.int .i64 a0_0, .int .i64 a0_1] 25 (0, 0)) (by (with_reducible repeat (first | refine blk_drewN ?_ _ | refine blk_drew ?_ | refine blk_alloc ?_ _)); exact BK181.out) hb); have n1_ := Aside0.mk (blk_below (g := gb182) (o := .cells #[.int .i64 a1_0, .int .i64 a1_1] 25 (0, 0)) (by (with_reducible repeat (first | refine blk_drewN ?_ _ | refine blk_drew ?_ | refine blk_alloc ?_ _)); exact BK182.out) hb); have n2_ := Aside0.mk (below_step (by repeat (first | (with_reducible first | exact HB.out | apply below_alloc | apply pw_below_drewN | apply below_drew1 | refine below_set ?_ GE181.out | refine below_set ?_ GE182.out) | exact HB.out)) hb); clear BK181; clear BK182; clear HB; have BK181 := n0_; have BK182 := n1_; have HB := n2_; clear n0_ n1_ n2_; (try clear hb); (try clear hb2); (try clear hk); (try clear hi)))
            go_ret
            exact ⟨by first | rfl | (simp [errW_none, errW_some] <;> rfl) | (simp [*, errW_none, errW_some] <;> rfl), by repeat (first | (with_reducible first | exact HB.out | apply below_alloc | apply pw_below_drewN | apply below_drew1 | refine below_set ?_ GE181.out | refine below_set ?_ GE182.out) | exact HB.out)⟩
          · rw [if_neg c104] at H
            have c104b0 : (t184 == 0) = false := beq_eq_false_iff_ne.mpr c104
            have c104b1 : (t184 != 0) = true := bne_iff_ne.mpr c104
            obtain rfl := Option.some.inj H
            go_enter Try.func7, Try.ntmps7
            go_wp2_with (first | ((with_reducible refine gate_dst (N := 2) rfl ?_); refine box_event ?hg (N := 2) ?hd (cs := #[.int .i64 a0_0, .int .i64 a0_1]) (t := 25) ?hr ?_; (case hd => rfl); (case hg => rfl); (case hr => first | (go_simp; done) | (go_simp; rfl)); intro gb181 hg w116 hbox hb; have n0_ := Aside0.mk (below_step (by repeat (first | (with_reducible first | exact HB.out | apply below_alloc | apply pw_below_drewN | apply below_drew1) | exact HB.out)) hb); have n1_ := Aside0.mk (hbox); have n2_ := Aside0.mk ((by rw [hg]; exact (below_size (by repeat (first | (with_reducible first | exact HB.out | apply below_alloc | apply pw_below_drewN | apply below_drew1) | exact HB.out))) : w.heap.size ≤ gb181)); have n3_ := Aside0.mk ((by rw [hg]; exact (below_size (by repeat (first | (with_reducible first | exact HB.out | apply below_alloc | apply pw_below_drewN | apply below_drew1) | exact HB.out))) : w.heap.size ≤ gb181)); clear HB; have HB := n0_; have BK181 := n1_; have GW181 := n2_; have GE181 := n3_; clear n0_ n1_ n2_ n3_; clear hb hbox hg) | ((with_reducible refine gate_dst (N := 3) rfl ?_); refine box_event ?hg (N := 3) ?hd (cs := #[.int .i64 a1_0, .int .i64 a1_1]) (t := 25) ?hr ?_; (case hd => rfl); (case hg => rfl); (case hr => first | (go_simp; done) | (go_simp; rfl)); intro gb182 hg w117 hbox hb; have n0_ := Aside0.mk (blk_below (g := gb181) (o := .cells #[.int .i64 a0_0, .int .i64 a0_1] 25 (0, 0)) (by (with_reducible repeat (first | refine blk_drewN ?_ _ | refine blk_drew ?_ | refine blk_alloc ?_ _)); exact BK181.out) hb); have n1_ := Aside0.mk (below_step (by repeat (first | (with_reducible first | exact HB.out | apply below_alloc | apply pw_below_drewN | apply below_drew1 | refine below_set ?_ GE181.out) | exact HB.out)) hb); have n2_ := Aside0.mk (hbox); have n3_ := Aside0.mk ((by rw [hg]; exact (below_size (by repeat (first | (with_reducible first | exact HB.out | apply below_alloc | apply pw_below_drewN | apply below_drew1 | refine below_set ?_ GE181.out) | exact HB.out))) : w.heap.size ≤ gb182)); have n4_ := Aside0.mk ((by rw [hg]; exact (below_size (by repeat (first | (with_reducible first | exact HB.out | apply below_alloc | apply pw_below_drewN | apply below_drew1 | refine below_set ?_ GE181.out) | exact HB.out))) : w.heap.size ≤ gb182)); have n5_ := Aside0.mk ((by rw [hg]; exact Nat.ne_of_lt (blk_lt (g := gb181) (o := .cells #[.int .i64 a0_0, .int .i64 a0_1] 25 (0, 0)) (by (with_reducible repeat (first | refine blk_drewN ?_ _ | refine blk_drew ?_ | refine blk_alloc ?_ _)); exact BK181.out)) : gb181 ≠ gb182)); have n6_ := Aside0.mk ((by rw [hg]; exact Nat.ne_of_gt (blk_lt (g := gb181) (o := .cells #[.int .i64 a0_0, .int .i64 a0_1] 25 (0, 0)) (by (with_reducible repeat (first | refine blk_drewN ?_ _ | refine blk_drew ?_ | refine blk_alloc ?_ _)); exact BK181.out)) : gb182 ≠ gb181)); clear BK181; clear HB; have BK181 := n0_; have HB := n1_; have BK182 := n2_; have GW182 := n3_; have GE182 := n4_; have NB181_182 := n5_; have NB182_181 := n6_; clear n0_ n1_ n2_ n3_ n4_ n5_ n6_; clear hb hbox hg) | ((with_reducible refine gate_callee (f := 37) rfl ?_); refine goesL_ (some 12) rfl rfl Try.func37 (by kernel_rfl) rfl #[] rfl (by (try simp only [List.map_toArray, List.map_cons, List.map_nil]); first | done | rfl | (simp only [List.length_drop, List.length_take]; rfl)) ?_; (with_reducible refine (furlonglaw02_awake.calls k  true _ A3.out).mono ?_); rintro e w118 ⟨rfl, hb⟩; refine ⟨_, rfl, ?_⟩; have n0_ := Aside0.mk (blk_below (g := gb181) (o := .cells #[.int .i64 a0_0, .int .i64 a0_1] 25 (0, 0)) (by (with_reducible repeat (first | refine blk_drewN ?_ _ | refine blk_drew ?_ | refine blk_alloc ?_ _)); exact BK181.out) hb); have n1_ := Aside0.mk (blk_below (g := gb182) (o := .cells #[.int .i64 a1_0, .int .i64 a1_1] 25 (0, 0)) (by (with_reducible repeat (first | refine blk_drewN ?_ _ | refine blk_drew ?_ | refine blk_alloc ?_ _)); exact BK182.out) hb); have n2_ := Aside0.mk (below_step (by repeat (first | (with_reducible first | exact HB.out | apply below_alloc | apply pw_below_drewN | apply below_drew1 | refine below_set ?_ GE181.out | refine below_set ?_ GE182.out) | exact HB.out)) hb); clear BK181; clear BK182; clear HB; have BK181 := n0_; have BK182 := n1_; have HB := n2_; clear n0_ n1_ n2_; (try clear hb); (try clear hb2); (try clear hk); (try clear hi); have hnb119 := NB181_182.out; have hnc119 := NB182_181.out; have hcz120_0 : w118.cell? ⟨gb181, 0, none⟩ = some (.int .i64 a0_0) := (blk_cell BK181.out 0).trans rfl; have hcz120_1 : w118.cell? ⟨gb181, 1, none⟩ = some (.int .i64 a0_1) := (blk_cell BK181.out 1).trans rfl; have hfz120_0 := blk_frozen BK181.out 0; have hfz120_1 := blk_frozen BK181.out 1; have hcz121_0 : w118.cell? ⟨gb182, 0, none⟩ = some (.int .i64 a1_0) := (blk_cell BK182.out 0).trans rfl; have hcz121_1 : w118.cell? ⟨gb182, 1, none⟩ = some (.int .i64 a1_1) := (blk_cell BK182.out 1).trans rfl; have hfz121_0 := blk_frozen BK182.out 0; have hfz121_1 := blk_frozen BK182.out 1) | ((with_reducible refine gate_callee (f := 38) rfl ?_); refine goesL_ (some 17) rfl rfl Try.func38 (by kernel_rfl) rfl #[.agg #[.int .i64 a0_0, .int .i64 a0_1], .agg #[.int .i64 a1_0, .int .i64 a1_1]] rfl (by (try simp only [List.map_toArray, List.map_cons, List.map_nil]); first | done | rfl | (simp only [List.length_drop, List.length_take]; rfl)) ?_; (with_reducible refine (vec_Share.calls a0_0 a0_1 a1_0 a1_1 t184 t185 t186 _ A5.out).mono ?_); rintro e w122 ⟨rfl, hb⟩; refine ⟨_, rfl, ?_⟩; have n0_ := Aside0.mk (blk_below (g := gb181) (o := .cells #[.int .i64 a0_0, .int .i64 a0_1] 25 (0, 0)) (by (with_reducible repeat (first | refine blk_drewN ?_ _ | refine blk_drew ?_ | refine blk_alloc ?_ _)); exact BK181.out) hb); have n1_ := Aside0.mk (blk_below (g := gb182) (o := .cells #[.int .i64 a1_0, .int .i64 a1_1] 25 (0, 0)) (by (with_reducible repeat (first | refine blk_drewN ?_ _ | refine blk_drew ?_ | refine blk_alloc ?_ _)); exact BK182.out) hb); have n2_ := Aside0.mk (below_step (by repeat (first | (with_reducible first | exact HB.out | apply below_alloc | apply pw_below_drewN | apply below_drew1 | refine below_set ?_ GE181.out | refine below_set ?_ GE182.out) | exact HB.out)) hb); clear BK181; clear BK182; clear HB; have BK181 := n0_; have BK182 := n1_; have HB := n2_; clear n0_ n1_ n2_; (try clear hb); (try clear hb2); (try clear hk); (try clear hi); have hcz123_0 : w122.cell? ⟨gb181, 0, none⟩ = some (.int .i64 a0_0) := (blk_cell BK181.out 0).trans rfl; have hcz123_1 : w122.cell? ⟨gb181, 1, none⟩ = some (.int .i64 a0_1) := (blk_cell BK181.out 1).trans rfl; have hfz123_0 := blk_frozen BK181.out 0; have hfz123_1 := blk_frozen BK181.out 1) | ((with_reducible refine gate_callee (f := 44) rfl ?_); refine goesL_ (some 24) rfl rfl Try.func44 (by kernel_rfl) rfl #[.agg #[.int .i64 a0_0, .int .i64 a0_1]] rfl (by (try simp only [List.map_toArray, List.map_cons, List.map_nil]); first | done | rfl | (simp only [List.length_drop, List.length_take]; rfl)) ?_; (with_reducible refine (vec_Check.calls a0_0 a0_1 t187 _ A89.out).mono ?_); rintro e w124 ⟨rfl, hb⟩; refine ⟨_, rfl, ?_⟩; have n0_ := Aside0.mk (blk_below (g := gb181) (o := .cells #[.int .i64 a0_0, .int .i64 a0_1] 25 (0, 0)) (by (with_reducible repeat (first | refine blk_drewN ?_ _ | refine blk_drew ?_ | refine blk_alloc ?_ _)); exact BK181.out) hb); have n1_ := Aside0.mk (blk_below (g := gb182) (o := .cells #[.int .i64 a1_0, .int .i64 a1_1] 25 (0, 0)) (by (with_reducible repeat (first | refine blk_drewN ?_ _ | refine blk_drew ?_ | refine blk_alloc ?_ _)); exact BK182.out) hb); have n2_ := Aside0.mk (below_step (by repeat (first | (with_reducible first | exact HB.out | apply below_alloc | apply pw_below_drewN | apply below_drew1 | refine below_set ?_ GE181.out | refine below_set ?_ GE182.out) | exact HB.out)) hb); clear BK181; clear BK182; clear HB; have BK181 := n0_; have BK182 := n1_; have HB := n2_; clear n0_ n1_ n2_; (try clear hb); (try clear hb2); (try clear hk); (try clear hi); have hcz125_0 : w124.cell? ⟨gb182, 0, none⟩ = some (.int .i64 a1_0) := (blk_cell BK182.out 0).trans rfl; have hcz125_1 : w124.cell? ⟨gb182, 1, none⟩ = some (.int .i64 a1_1) := (blk_cell BK182.out 1).trans rfl; have hfz125_0 := blk_frozen BK182.out 0; have hfz125_1 := blk_frozen BK182.out 1) | (go_at_call 44; (with_reducible refine (vec_Check.calls a1_0 a1_1 t188 _ A91.out).mono ?_); rintro e w126 ⟨rfl, hb⟩; have n0_ := Aside0.mk (blk_below (g := gb181) (o := .cells #[.int .i64 a0_0, .int .i64 a0_1] 25 (0, 0)) (by (with_reducible repeat (first | refine blk_drewN ?_ _ | refine blk_drew ?_ | refine blk_alloc ?_ _)); exact BK181.out) hb); have n1_ := Aside0.mk (blk_below (g := gb182) (o := .cells #[.int .i64 a1_0, .int .i64 a1_1] 25 (0, 0)) (by (with_reducible repeat (first | refine blk_drewN ?_ _ | refine blk_drew ?_ | refine blk_alloc ?_ _)); exact BK182.out) hb); have n2_ := Aside0.mk (below_step (by repeat (first | (with_reducible first | exact HB.out | apply below_alloc | apply pw_below_drewN | apply below_drew1 | refine below_set ?_ GE181.out | refine below_set ?_ GE182.out) | exact HB.out)) hb); clear BK181; clear BK182; clear HB; have BK181 := n0_; have BK182 := n1_; have HB := n2_; clear n0_ n1_ n2_; (try clear hb); (try clear hb2); (try clear hk); (try clear hi)))
            go_ret
            exact ⟨by first | rfl | (simp [errW_none, errW_some] <;> rfl) | (simp [*, errW_none, errW_some] <;> rfl), by repeat (first | (with_reducible first | exact HB.out | apply below_alloc | apply pw_below_drewN | apply below_drew1 | refine below_set ?_ GE181.out | refine below_set ?_ GE182.out) | exact HB.out)⟩
      · rw [if_neg c90] at H
        have c90b0 : (t187 == 0) = false := beq_eq_false_iff_ne.mpr c90
        have c90b1 : (t187 != 0) = true := bne_iff_ne.mpr c90
        by_cases c127 : t184 = 0
        · rw [if_pos c127] at H
          have c127b0 : (t184 == 0) = true := beq_iff_eq.mpr c127
          have c127b1 : (t184 != 0) = false := bne_eq_false_iff_eq.mpr c127
          clear c127
          obtain rfl := Option.some.inj H
          go_enter Try.func7, Try.ntmps7
          go_wp2_with (first | ((with_reducible refine gate_dst (N := 2) rfl ?_); refine box_event ?hg (N := 2) ?hd (cs := #[.int .i64 a0_0, .int .i64 a0_1]) (t := 25) ?hr ?_; (case hd => rfl); (case hg => rfl); (case hr => first | (go_simp; done) | (go_simp; rfl)); intro gb181 hg w128 hbox hb; have n0_ := Aside0.mk (below_step (by repeat (first | (with_reducible first | exact HB.out | apply below_alloc | apply pw_below_drewN | apply below_drew1) | exact HB.out)) hb); have n1_ := Aside0.mk (hbox); have n2_ := Aside0.mk ((by rw [hg]; exact (below_size (by repeat (first | (with_reducible first | exact HB.out | apply below_alloc | apply pw_below_drewN | apply below_drew1) | exact HB.out))) : w.heap.size ≤ gb181)); have n3_ := Aside0.mk ((by rw [hg]; exact (below_size (by repeat (first | (with_reducible first | exact HB.out | apply below_alloc | apply pw_below_drewN | apply below_drew1) | exact HB.out))) : w.heap.size ≤ gb181)); clear HB; have HB := n0_; have BK181 := n1_; have GW181 := n2_; have GE181 := n3_; clear n0_ n1_ n2_ n3_; clear hb hbox hg) | ((with_reducible refine gate_dst (N := 3) rfl ?_); refine box_event ?hg (N := 3) ?hd (cs := #[.int .i64 a1_0, .int .i64 a1_1]) (t := 25) ?hr ?_; (case hd => rfl); (case hg => rfl); (case hr => first | (go_simp; done) | (go_simp; rfl)); intro gb182 hg w129 hbox hb; have n0_ := Aside0.mk (blk_below (g := gb181) (o := .cells #[.int .i64 a0_0, .int .i64 a0_1] 25 (0, 0)) (by (with_reducible repeat (first | refine blk_drewN ?_ _ | refine blk_drew ?_ | refine blk_alloc ?_ _)); exact BK181.out) hb); have n1_ := Aside0.mk (below_step (by repeat (first | (with_reducible first | exact HB.out | apply below_alloc | apply pw_below_drewN | apply below_drew1 | refine below_set ?_ GE181.out) | exact HB.out)) hb); have n2_ := Aside0.mk (hbox); have n3_ := Aside0.mk ((by rw [hg]; exact (below_size (by repeat (first | (with_reducible first | exact HB.out | apply below_alloc | apply pw_below_drewN | apply below_drew1 | refine below_set ?_ GE181.out) | exact HB.out))) : w.heap.size ≤ gb182)); have n4_ := Aside0.mk ((by rw [hg]; exact (below_size (by repeat (first | (with_reducible first | exact HB.out | apply below_alloc | apply pw_below_drewN | apply below_drew1 | refine below_set ?_ GE181.out) | exact HB.out))) : w.heap.size ≤ gb182)); have n5_ := Aside0.mk ((by rw [hg]; exact Nat.ne_of_lt (blk_lt (g := gb181) (o := .cells #[.int .i64 a0_0, .int .i64 a0_1] 25 (0, 0)) (by (with_reducible repeat (first | refine blk_drewN ?_ _ | refine blk_drew ?_ | refine blk_alloc ?_ _)); exact BK181.out)) : gb181 ≠ gb182)); have n6_ := Aside0.mk ((by rw [hg]; exact Nat.ne_of_gt (blk_lt (g := gb181) (o := .cells #[.int .i64 a0_0, .int .i64 a0_1] 25 (0, 0)) (by (with_reducible repeat (first | refine blk_drewN ?_ _ | refine blk_drew ?_ | refine blk_alloc ?_ _)); exact BK181.out)) : gb182 ≠ gb181)); clear BK181; clear HB; have BK181 := n0_; have HB := n1_; have BK182 := n2_; have GW182 := n3_; have GE182 := n4_; have NB181_182 := n5_; have NB182_181 := n6_; clear n0_ n1_ n2_ n3_ n4_ n5_ n6_; clear hb hbox hg) | ((with_reducible refine gate_callee (f := 37) rfl ?_); refine goesL_ (some 12) rfl rfl Try.func37 (by kernel_rfl) rfl #[] rfl (by (try simp only [List.map_toArray, List.map_cons, List.map_nil]); first | done | rfl | (simp only [List.length_drop, List.length_take]; rfl)) ?_; (with_reducible refine (furlonglaw02_awake.calls k  true _ A3.out).mono ?_); rintro e w130 ⟨rfl, hb⟩; refine ⟨_, rfl, ?_⟩; have n0_ := Aside0.mk (blk_below (g := gb181) (o := .cells #[.int .i64 a0_0, .int .i64 a0_1] 25 (0, 0)) (by (with_reducible repeat (first | refine blk_drewN ?_ _ | refine blk_drew ?_ | refine blk_alloc ?_ _)); exact BK181.out) hb); have n1_ := Aside0.mk (blk_below (g := gb182) (o := .cells #[.int .i64 a1_0, .int .i64 a1_1] 25 (0, 0)) (by (with_reducible repeat (first | refine blk_drewN ?_ _ | refine blk_drew ?_ | refine blk_alloc ?_ _)); exact BK182.out) hb); have n2_ := Aside0.mk (below_step (by repeat (first | (with_reducible first | exact HB.out | apply below_alloc | apply pw_below_drewN | apply below_drew1 | refine below_set ?_ GE181.out | refine below_set ?_ GE182.out) | exact HB.out)) hb); clear BK181; clear BK182; clear HB; have BK181 := n0_; have BK182 := n1_; have HB := n2_; clear n0_ n1_ n2_; (try clear hb); (try clear hb2); (try clear hk); (try clear hi); have hnb131 := NB181_182.out; have hnc131 := NB182_181.out; have hcz132_0 : w130.cell? ⟨gb181, 0, none⟩ = some (.int .i64 a0_0) := (blk_cell BK181.out 0).trans rfl; have hcz132_1 : w130.cell? ⟨gb181, 1, none⟩ = some (.int .i64 a0_1) := (blk_cell BK181.out 1).trans rfl; have hfz132_0 := blk_frozen BK181.out 0; have hfz132_1 := blk_frozen BK181.out 1; have hcz133_0 : w130.cell? ⟨gb182, 0, none⟩ = some (.int .i64 a1_0) := (blk_cell BK182.out 0).trans rfl; have hcz133_1 : w130.cell? ⟨gb182, 1, none⟩ = some (.int .i64 a1_1) := (blk_cell BK182.out 1).trans rfl; have hfz133_0 := blk_frozen BK182.out 0; have hfz133_1 := blk_frozen BK182.out 1) | ((with_reducible refine gate_callee (f := 38) rfl ?_); refine goesL_ (some 17) rfl rfl Try.func38 (by kernel_rfl) rfl #[.agg #[.int .i64 a0_0, .int .i64 a0_1], .agg #[.int .i64 a1_0, .int .i64 a1_1]] rfl (by (try simp only [List.map_toArray, List.map_cons, List.map_nil]); first | done | rfl | (simp only [List.length_drop, List.length_take]; rfl)) ?_; (with_reducible refine (vec_Share.calls a0_0 a0_1 a1_0 a1_1 t184 t185 t186 _ A5.out).mono ?_); rintro e w134 ⟨rfl, hb⟩; refine ⟨_, rfl, ?_⟩; have n0_ := Aside0.mk (blk_below (g := gb181) (o := .cells #[.int .i64 a0_0, .int .i64 a0_1] 25 (0, 0)) (by (with_reducible repeat (first | refine blk_drewN ?_ _ | refine blk_drew ?_ | refine blk_alloc ?_ _)); exact BK181.out) hb); have n1_ := Aside0.mk (blk_below (g := gb182) (o := .cells #[.int .i64 a1_0, .int .i64 a1_1] 25 (0, 0)) (by (with_reducible repeat (first | refine blk_drewN ?_ _ | refine blk_drew ?_ | refine blk_alloc ?_ _)); exact BK182.out) hb); have n2_ := Aside0.mk (below_step (by repeat (first | (with_reducible first | exact HB.out | apply below_alloc | apply pw_below_drewN | apply below_drew1 | refine below_set ?_ GE181.out | refine below_set ?_ GE182.out) | exact HB.out)) hb); clear BK181; clear BK182; clear HB; have BK181 := n0_; have BK182 := n1_; have HB := n2_; clear n0_ n1_ n2_; (try clear hb); (try clear hb2); (try clear hk); (try clear hi); have hcz135_0 : w134.cell? ⟨gb181, 0, none⟩ = some (.int .i64 a0_0) := (blk_cell BK181.out 0).trans rfl; have hcz135_1 : w134.cell? ⟨gb181, 1, none⟩ = some (.int .i64 a0_1) := (blk_cell BK181.out 1).trans rfl; have hfz135_0 := blk_frozen BK181.out 0; have hfz135_1 := blk_frozen BK181.out 1) | ((with_reducible refine gate_callee (f := 44) rfl ?_); refine goesL_ (some 24) rfl rfl Try.func44 (by kernel_rfl) rfl #[.agg #[.int .i64 a0_0, .int .i64 a0_1]] rfl (by (try simp only [List.map_toArray, List.map_cons, List.map_nil]); first | done | rfl | (simp only [List.length_drop, List.length_take]; rfl)) ?_; (with_reducible refine (vec_Check.calls a0_0 a0_1 t187 _ A89.out).mono ?_); rintro e w136 ⟨rfl, hb⟩; refine ⟨_, rfl, ?_⟩; have n0_ := Aside0.mk (blk_below (g := gb181) (o := .cells #[.int .i64 a0_0, .int .i64 a0_1] 25 (0, 0)) (by (with_reducible repeat (first | refine blk_drewN ?_ _ | refine blk_drew ?_ | refine blk_alloc ?_ _)); exact BK181.out) hb); have n1_ := Aside0.mk (blk_below (g := gb182) (o := .cells #[.int .i64 a1_0, .int .i64 a1_1] 25 (0, 0)) (by (with_reducible repeat (first | refine blk_drewN ?_ _ | refine blk_drew ?_ | refine blk_alloc ?_ _)); exact BK182.out) hb); have n2_ := Aside0.mk (below_step (by repeat (first | (with_reducible first | exact HB.out | apply below_alloc | apply pw_below_drewN | apply below_drew1 | refine below_set ?_ GE181.out | refine below_set ?_ GE182.out) | exact HB.out)) hb); clear BK181; clear BK182; clear HB; have BK181 := n0_; have BK182 := n1_; have HB := n2_; clear n0_ n1_ n2_; (try clear hb); (try clear hb2); (try clear hk); (try clear hi)))
          go_ret
          exact ⟨by first | rfl | (simp [errW_none, errW_some] <;> rfl) | (simp [*, errW_none, errW_some] <;> rfl), by repeat (first | (with_reducible first | exact HB.out | apply below_alloc | apply pw_below_drewN | apply below_drew1 | refine below_set ?_ GE181.out | refine below_set ?_ GE182.out) | exact HB.out)⟩
        · rw [if_neg c127] at H
          have c127b0 : (t184 == 0) = false := beq_eq_false_iff_ne.mpr c127
          have c127b1 : (t184 != 0) = true := bne_iff_ne.mpr c127
          obtain rfl := Option.some.inj H
          go_enter Try.func7, Try.ntmps7
          go_wp2_with (first | ((with_reducible refine gate_dst (N := 2) rfl ?_); refine box_event ?hg (N := 2) ?hd (cs := #[.int .i64 a0_0, .int .i64 a0_1]) (t := 25) ?hr ?_; (case hd => rfl); (case hg => rfl); (case hr => first | (go_simp; done) | (go_simp; rfl)); intro gb181 hg w137 hbox hb; have n0_ := Aside0.mk (below_step (by repeat (first | (with_reducible first | exact HB.out | apply below_alloc | apply pw_below_drewN | apply below_drew1) | exact HB.out)) hb); have n1_ := Aside0.mk (hbox); have n2_ := Aside0.mk ((by rw [hg]; exact (below_size (by repeat (first | (with_reducible first | exact HB.out | apply below_alloc | apply pw_below_drewN | apply below_drew1) | exact HB.out))) : w.heap.size ≤ gb181)); have n3_ := Aside0.mk ((by rw [hg]; exact (below_size (by repeat (first | (with_reducible first | exact HB.out | apply below_alloc | apply pw_below_drewN | apply below_drew1) | exact HB.out))) : w.heap.size ≤ gb181)); clear HB; have HB := n0_; have BK181 := n1_; have GW181 := n2_; have GE181 := n3_; clear n0_ n1_ n2_ n3_; clear hb hbox hg) | ((with_reducible refine gate_dst (N := 3) rfl ?_); refine box_event ?hg (N := 3) ?hd (cs := #[.int .i64 a1_0, .int .i64 a1_1]) (t := 25) ?hr ?_; (case hd => rfl); (case hg => rfl); (case hr => first | (go_simp; done) | (go_simp; rfl)); intro gb182 hg w138 hbox hb; have n0_ := Aside0.mk (blk_below (g := gb181) (o := .cells #[.int .i64 a0_0, .int .i64 a0_1] 25 (0, 0)) (by (with_reducible repeat (first | refine blk_drewN ?_ _ | refine blk_drew ?_ | refine blk_alloc ?_ _)); exact BK181.out) hb); have n1_ := Aside0.mk (below_step (by repeat (first | (with_reducible first | exact HB.out | apply below_alloc | apply pw_below_drewN | apply below_drew1 | refine below_set ?_ GE181.out) | exact HB.out)) hb); have n2_ := Aside0.mk (hbox); have n3_ := Aside0.mk ((by rw [hg]; exact (below_size (by repeat (first | (with_reducible first | exact HB.out | apply below_alloc | apply pw_below_drewN | apply below_drew1 | refine below_set ?_ GE181.out) | exact HB.out))) : w.heap.size ≤ gb182)); have n4_ := Aside0.mk ((by rw [hg]; exact (below_size (by repeat (first | (with_reducible first | exact HB.out | apply below_alloc | apply pw_below_drewN | apply below_drew1 | refine below_set ?_ GE181.out) | exact HB.out))) : w.heap.size ≤ gb182)); have n5_ := Aside0.mk ((by rw [hg]; exact Nat.ne_of_lt (blk_lt (g := gb181) (o := .cells #[.int .i64 a0_0, .int .i64 a0_1] 25 (0, 0)) (by (with_reducible repeat (first | refine blk_drewN ?_ _ | refine blk_drew ?_ | refine blk_alloc ?_ _)); exact BK181.out)) : gb181 ≠ gb182)); have n6_ := Aside0.mk ((by rw [hg]; exact Nat.ne_of_gt (blk_lt (g := gb181) (o := .cells #[.int .i64 a0_0, .int .i64 a0_1] 25 (0, 0)) (by (with_reducible repeat (first | refine blk_drewN ?_ _ | refine blk_drew ?_ | refine blk_alloc ?_ _)); exact BK181.out)) : gb182 ≠ gb181)); clear BK181; clear HB; have BK181 := n0_; have HB := n1_; have BK182 := n2_; have GW182 := n3_; have GE182 := n4_; have NB181_182 := n5_; have NB182_181 := n6_; clear n0_ n1_ n2_ n3_ n4_ n5_ n6_; clear hb hbox hg) | ((with_reducible refine gate_callee (f := 37) rfl ?_); refine goesL_ (some 12) rfl rfl Try.func37 (by kernel_rfl) rfl #[] rfl (by (try simp only [List.map_toArray, List.map_cons, List.map_nil]); first | done | rfl | (simp only [List.length_drop, List.length_take]; rfl)) ?_; (with_reducible refine (furlonglaw02_awake.calls k  true _ A3.out).mono ?_); rintro e w139 ⟨rfl, hb⟩; refine ⟨_, rfl, ?_⟩; have n0_ := Aside0.mk (blk_below (g := gb181) (o := .cells #[.int .i64 a0_0, .int .i64 a0_1] 25 (0, 0)) (by (with_reducible repeat (first | refine blk_drewN ?_ _ | refine blk_drew ?_ | refine blk_alloc ?_ _)); exact BK181.out) hb); have n1_ := Aside0.mk (blk_below (g := gb182) (o := .cells #[.int .i64 a1_0, .int .i64 a1_1] 25 (0, 0)) (by (with_reducible repeat (first | refine blk_drewN ?_ _ | refine blk_drew ?_ | refine blk_alloc ?_ _)); exact BK182.out) hb); have n2_ := Aside0.mk (below_step (by repeat (first | (with_reducible first | exact HB.out | apply below_alloc | apply pw_below_drewN | apply below_drew1 | refine below_set ?_ GE181.out | refine below_set ?_ GE182.out) | exact HB.out)) hb); clear BK181; clear BK182; clear HB; have BK181 := n0_; have BK182 := n1_; have HB := n2_; clear n0_ n1_ n2_; (try clear hb); (try clear hb2); (try clear hk); (try clear hi); have hnb140 := NB181_182.out; have hnc140 := NB182_181.out; have hcz141_0 : w139.cell? ⟨gb181, 0, none⟩ = some (.int .i64 a0_0) := (blk_cell BK181.out 0).trans rfl; have hcz141_1 : w139.cell? ⟨gb181, 1, none⟩ = some (.int .i64 a0_1) := (blk_cell BK181.out 1).trans rfl; have hfz141_0 := blk_frozen BK181.out 0; have hfz141_1 := blk_frozen BK181.out 1; have hcz142_0 : w139.cell? ⟨gb182, 0, none⟩ = some (.int .i64 a1_0) := (blk_cell BK182.out 0).trans rfl; have hcz142_1 : w139.cell? ⟨gb182, 1, none⟩ = some (.int .i64 a1_1) := (blk_cell BK182.out 1).trans rfl; have hfz142_0 := blk_frozen BK182.out 0; have hfz142_1 := blk_frozen BK182.out 1) | ((with_reducible refine gate_callee (f := 38) rfl ?_); refine goesL_ (some 17) rfl rfl Try.func38 (by kernel_rfl) rfl #[.agg #[.int .i64 a0_0, .int .i64 a0_1], .agg #[.int .i64 a1_0, .int .i64 a1_1]] rfl (by (try simp only [List.map_toArray, List.map_cons, List.map_nil]); first | done | rfl | (simp only [List.length_drop, List.length_take]; rfl)) ?_; (with_reducible refine (vec_Share.calls a0_0 a0_1 a1_0 a1_1 t184 t185 t186 _ A5.out).mono ?_); rintro e w143 ⟨rfl, hb⟩; refine ⟨_, rfl, ?_⟩; have n0_ := Aside0.mk (blk_below (g := gb181) (o := .cells #[.int .i64 a0_0, .int .i64 a0_1] 25 (0, 0)) (by (with_reducible repeat (first | refine blk_drewN ?_ _ | refine blk_drew ?_ | refine blk_alloc ?_ _)); exact BK181.out) hb); have n1_ := Aside0.mk (blk_below (g := gb182) (o := .cells #[.int .i64 a1_0, .int .i64 a1_1] 25 (0, 0)) (by (with_reducible repeat (first | refine blk_drewN ?_ _ | refine blk_drew ?_ | refine blk_alloc ?_ _)); exact BK182.out) hb); have n2_ := Aside0.mk (below_step (by repeat (first | (with_reducible first | exact HB.out | apply below_alloc | apply pw_below_drewN | apply below_drew1 | refine below_set ?_ GE181.out | refine below_set ?_ GE182.out) | exact HB.out)) hb); clear BK181; clear BK182; clear HB; have BK181 := n0_; have BK182 := n1_; have HB := n2_; clear n0_ n1_ n2_; (try clear hb); (try clear hb2); (try clear hk); (try clear hi); have hcz144_0 : w143.cell? ⟨gb181, 0, none⟩ = some (.int .i64 a0_0) := (blk_cell BK181.out 0).trans rfl; have hcz144_1 : w143.cell? ⟨gb181, 1, none⟩ = some (.int .i64 a0_1) := (blk_cell BK181.out 1).trans rfl; have hfz144_0 := blk_frozen BK181.out 0; have hfz144_1 := blk_frozen BK181.out 1) | ((with_reducible refine gate_callee (f := 44) rfl ?_); refine goesL_ (some 24) rfl rfl Try.func44 (by kernel_rfl) rfl #[.agg #[.int .i64 a0_0, .int .i64 a0_1]] rfl (by (try simp only [List.map_toArray, List.map_cons, List.map_nil]); first | done | rfl | (simp only [List.length_drop, List.length_take]; rfl)) ?_; (with_reducible refine (vec_Check.calls a0_0 a0_1 t187 _ A89.out).mono ?_); rintro e w145 ⟨rfl, hb⟩; refine ⟨_, rfl, ?_⟩; have n0_ := Aside0.mk (blk_below (g := gb181) (o := .cells #[.int .i64 a0_0, .int .i64 a0_1] 25 (0, 0)) (by (with_reducible repeat (first | refine blk_drewN ?_ _ | refine blk_drew ?_ | refine blk_alloc ?_ _)); exact BK181.out) hb); have n1_ := Aside0.mk (blk_below (g := gb182) (o := .cells #[.int .i64 a1_0, .int .i64 a1_1] 25 (0, 0)) (by (with_reducible repeat (first | refine blk_drewN ?_ _ | refine blk_drew ?_ | refine blk_alloc ?_ _)); exact BK182.out) hb); have n2_ := Aside0.mk (below_step (by repeat (first | (with_reducible first | exact HB.out | apply below_alloc | apply pw_below_drewN | apply below_drew1 | refine below_set ?_ GE181.out | refine below_set ?_ GE182.out) | exact HB.out)) hb); clear BK181; clear BK182; clear HB; have BK181 := n0_; have BK182 := n1_; have HB := n2_; clear n0_ n1_ n2_; (try clear hb); (try clear hb2); (try clear hk); (try clear hi)))
          go_ret
          exact ⟨by first | rfl | (simp [errW_none, errW_some] <;> rfl) | (simp [*, errW_none, errW_some] <;> rfl), by repeat (first | (with_reducible first | exact HB.out | apply below_alloc | apply pw_below_drewN | apply below_drew1 | refine below_set ?_ GE181.out | refine below_set ?_ GE182.out) | exact HB.out)⟩
  · replace c4 := Bool.eq_false_iff.mpr c4
    subst c4
    have H1 : (some false) = some r := by rw [if_neg (show ¬ (false = true) by decide)] at H; exact H
    clear H
    have H := H1
    clear H1
    obtain rfl := Option.some.inj H
    go_enter Try.func7, Try.ntmps7
    go_wp2_with (first | ((with_reducible refine gate_dst (N := 2) rfl ?_); refine box_event ?hg (N := 2) ?hd (cs := #[.int .i64 a0_0, .int .i64 a0_1]) (t := 25) ?hr ?_; (case hd => rfl); (case hg => rfl); (case hr => first | (go_simp; done) | (go_simp; rfl)); intro gb181 hg w146 hbox hb; have n0_ := Aside0.mk (below_step (by repeat (first | (with_reducible first | exact HB.out | apply below_alloc | apply pw_below_drewN | apply below_drew1) | exact HB.out)) hb); have n1_ := Aside0.mk (hbox); have n2_ := Aside0.mk ((by rw [hg]; exact (below_size (by repeat (first | (with_reducible first | exact HB.out | apply below_alloc | apply pw_below_drewN | apply below_drew1) | exact HB.out))) : w.heap.size ≤ gb181)); have n3_ := Aside0.mk ((by rw [hg]; exact (below_size (by repeat (first | (with_reducible first | exact HB.out | apply below_alloc | apply pw_below_drewN | apply below_drew1) | exact HB.out))) : w.heap.size ≤ gb181)); clear HB; have HB := n0_; have BK181 := n1_; have GW181 := n2_; have GE181 := n3_; clear n0_ n1_ n2_ n3_; clear hb hbox hg) | ((with_reducible refine gate_dst (N := 3) rfl ?_); refine box_event ?hg (N := 3) ?hd (cs := #[.int .i64 a1_0, .int .i64 a1_1]) (t := 25) ?hr ?_; (case hd => rfl); (case hg => rfl); (case hr => first | (go_simp; done) | (go_simp; rfl)); intro gb182 hg w147 hbox hb; have n0_ := Aside0.mk (blk_below (g := gb181) (o := .cells #[.int .i64 a0_0, .int .i64 a0_1] 25 (0, 0)) (by (with_reducible repeat (first | refine blk_drewN ?_ _ | refine blk_drew ?_ | refine blk_alloc ?_ _)); exact BK181.out) hb); have n1_ := Aside0.mk (below_step (by repeat (first | (with_reducible first | exact HB.out | apply below_alloc | apply pw_below_drewN | apply below_drew1 | refine below_set ?_ GE181.out) | exact HB.out)) hb); have n2_ := Aside0.mk (hbox); have n3_ := Aside0.mk ((by rw [hg]; exact (below_size (by repeat (first | (with_reducible first | exact HB.out | apply below_alloc | apply pw_below_drewN | apply below_drew1 | refine below_set ?_ GE181.out) | exact HB.out))) : w.heap.size ≤ gb182)); have n4_ := Aside0.mk ((by rw [hg]; exact (below_size (by repeat (first | (with_reducible first | exact HB.out | apply below_alloc | apply pw_below_drewN | apply below_drew1 | refine below_set ?_ GE181.out) | exact HB.out))) : w.heap.size ≤ gb182)); have n5_ := Aside0.mk ((by rw [hg]; exact Nat.ne_of_lt (blk_lt (g := gb181) (o := .cells #[.int .i64 a0_0, .int .i64 a0_1] 25 (0, 0)) (by (with_reducible repeat (first | refine blk_drewN ?_ _ | refine blk_drew ?_ | refine blk_alloc ?_ _)); exact BK181.out)) : gb181 ≠ gb182)); have n6_ := Aside0.mk ((by rw [hg]; exact Nat.ne_of_gt (blk_lt (g := gb181) (o := .cells #[.int .i64 a0_0, .int .i64 a0_1] 25 (0, 0)) (by (with_reducible repeat (first | refine blk_drewN ?_ _ | refine blk_drew ?_ | refine blk_alloc ?_ _)); exact BK181.out)) : gb182 ≠ gb181)); clear BK181; clear HB; have BK181 := n0_; have HB := n1_; have BK182 := n2_; have GW182 := n3_; have GE182 := n4_; have NB181_182 := n5_; have NB182_181 := n6_; clear n0_ n1_ n2_ n3_ n4_ n5_ n6_; clear hb hbox hg) | ((with_reducible refine gate_callee (f := 37) rfl ?_); refine goesL_ (some 12) rfl rfl Try.func37 (by kernel_rfl) rfl #[] rfl (by (try simp only [List.map_toArray, List.map_cons, List.map_nil]); first | done | rfl | (simp only [List.length_drop, List.length_take]; rfl)) ?_; (with_reducible refine (furlonglaw02_awake.calls k  false _ A3.out).mono ?_); rintro e w148 ⟨rfl, hb⟩; refine ⟨_, rfl, ?_⟩; have n0_ := Aside0.mk (blk_below (g := gb181) (o := .cells #[.int .i64 a0_0, .int .i64 a0_1] 25 (0, 0)) (by (with_reducible repeat (first | refine blk_drewN ?_ _ | refine blk_drew ?_ | refine blk_alloc ?_ _)); exact BK181.out) hb); have n1_ := Aside0.mk (blk_below (g := gb182) (o := .cells #[.int .i64 a1_0, .int .i64 a1_1] 25 (0, 0)) (by (with_reducible repeat (first | refine blk_drewN ?_ _ | refine blk_drew ?_ | refine blk_alloc ?_ _)); exact BK182.out) hb); have n2_ := Aside0.mk (below_step (by repeat (first | (with_reducible first | exact HB.out | apply below_alloc | apply pw_below_drewN | apply below_drew1 | refine below_set ?_ GE181.out | refine below_set ?_ GE182.out) | exact HB.out)) hb); clear BK181; clear BK182; clear HB; have BK181 := n0_; have BK182 := n1_; have HB := n2_; clear n0_ n1_ n2_; (try clear hb); (try clear hb2); (try clear hk); (try clear hi)))
    go_ret
    exact ⟨by first | rfl | (simp [errW_none, errW_some] <;> rfl) | (simp [*, errW_none, errW_some] <;> rfl), by repeat (first | (with_reducible first | exact HB.out | apply below_alloc | apply pw_below_drewN | apply below_drew1 | refine below_set ?_ GE181.out | refine below_set ?_ GE182.out) | exact HB.out)⟩

def vec_times.f (a0 : Int) (a1 : Int) (a2 : Int) : Option (Int × Int × Bool) := (num_Product.f a0 a1).bind fun bt194 => ((bits_Mul64.f bt194.2.1 (IntKind.u64.wrap (a2))).bind fun bt198 => (some (IntKind.u64.wrap (bt198.1 + (IntKind.u64.wrap (bt194.1 * (IntKind.u64.wrap (a2))))), bt198.2, false)))
def vec_Order.j0 : Nat → Int → Int → Int → Int → Int → Int → Bool → Option (Int)
  | 0, _, _, _, _, _, _, _ => none
  | k + 1, x1, x3, x11, x12, x13, x14, x32 => if x32 = true then (some (wrap64 ((mn x14 1) - (mn x12 1)))) else ((vec_times.f x11 x14 x3).bind fun bt207 => ((vec_times.f x13 x12 x1).bind fun bt210 => ((num_Compare.f k bt207.1 bt207.2.1 bt207.2.2 bt210.1 bt210.2.1 bt210.2.2).bind fun t213 => (some t213))))
def vec_Order.f (k : Nat) (a0_0 : Int) (a0_1 : Int) (a1 : Int) (a2_0 : Int) (a2_1 : Int) (a3 : Int) (a4_0 : Int) (a4_1 : Int) : Option (Int) := (vec_share.f a0_0 a0_1 a4_0 a4_1).bind fun bt203 => ((vec_share.f a2_0 a2_1 a4_0 a4_1).bind fun bt205 => (if bt203.2 = 0 then (vec_Order.j0 k a1 a3 bt203.1 bt203.2 bt205.1 bt205.2 true) else (vec_Order.j0 k a1 a3 bt203.1 bt203.2 bt205.1 bt205.2 (bt205.2 == 0))))
theorem vec_Order.mono_l : ∀ k, (∀ y0 y1 y2 y3 y4 y5 y6, LeO (vec_Order.j0 k y0 y1 y2 y3 y4 y5 y6) (vec_Order.j0 (k + 1) y0 y1 y2 y3 y4 y5 y6))
  | 0 => fun _ _ _ _ _ _ _ r h => by simp [vec_Order.j0] at h
  | k + 1 => by
    have ih0 := vec_Order.mono_l k
    · intro y0 y1 y2 y3 y4 y5 y6
      unfold vec_Order.j0
      repeat' first
      | (with_reducible exact ih0 _ _ _ _ _ _ _)
      | (with_reducible exact num_Compare.mono _ _ _ _ _ _ _)
      | (with_reducible exact LeO.refl _)
      | (with_reducible exact LeO.none _)
      | (with_reducible refine LeO.ite ?_ ?_)
      | (with_reducible refine LeO.bind ?_ (fun _ => ?_))
      | exact ih0 _ _ _ _ _ _ _
      | exact num_Compare.mono _ _ _ _ _ _ _
      | exact LeO.none _
      | refine LeO.ite ?_ ?_
      | refine LeO.bind ?_ (fun _ => ?_)
theorem vec_Order.mono : ∀ a0 a1 a2 a3 a4 a5 a6 a7 k, LeO (vec_Order.f k a0 a1 a2 a3 a4 a5 a6 a7) (vec_Order.f (k + 1) a0 a1 a2 a3 a4 a5 a6 a7) := by
  intro a0 a1 a2 a3 a4 a5 a6 a7 k
  have ih0 := vec_Order.mono_l k
  unfold vec_Order.f
  repeat' first
      | (with_reducible exact ih0 _ _ _ _ _ _ _)
      | (with_reducible exact num_Compare.mono _ _ _ _ _ _ _)
      | (with_reducible exact LeO.refl _)
      | (with_reducible exact LeO.none _)
      | (with_reducible refine LeO.ite ?_ ?_)
      | (with_reducible refine LeO.bind ?_ (fun _ => ?_))
      | exact ih0 _ _ _ _ _ _ _
      | exact num_Compare.mono _ _ _ _ _ _ _
      | exact LeO.none _
      | refine LeO.ite ?_ ?_
      | refine LeO.bind ?_ (fun _ => ?_)
end Go.Proofs.Ytkbcjagkacijnaa.PVec
end
section
-- Written for this claim by this project's own driver over the kit's print: functions and their contracts.
namespace Go.Proofs.Ytkbcjagkacijnaa.PVq
open Go.RowKit Go.Proofs.YtkbcjagkacijnaaW.PrintWords Go.Proofs.YtkbcjagkacijnaaW.PrintLast Go.Proofs.YtkbcjagkacijnaaW.PrintMore
attribute [local go_sem] max2_int min2_int max_two min_two max_three min_three max_four min_four   -- for this text's walks alone
set_option linter.unusedVariables false
set_option linter.unusedSimpArgs false



def errW : Option Int → Value
  | none => .nilIface
  | some c => .iface 0 (.int .i64 c)
theorem errW_none : errW none = .nilIface := rfl
theorem errW_some (c : Int) : errW (some c) = .iface 0 (.int .i64 c) := rfl

-- the values' own types
end Go.Proofs.Ytkbcjagkacijnaa.PVq
end
section
namespace Go.Proofs.Ytkbcjagkacijnaa.PVq
open Go.RowKit Go.Proofs.YtkbcjagkacijnaaW.PrintWords Go.Proofs.YtkbcjagkacijnaaW.PrintLast
set_option linter.unusedVariables false
abbrev furlongref01_Times.f := @PNum.furlongref01_Times.f
abbrev furlongref01_Plus.f := @PNum.furlongref01_Plus.f
end Go.Proofs.Ytkbcjagkacijnaa.PVq
end
section
-- Written for this claim by this project's own driver over the kit's print: functions and their contracts.
namespace Go.Proofs.Ytkbcjagkacijnaa.PVq
open Go.RowKit Go.Proofs.YtkbcjagkacijnaaW.PrintWords Go.Proofs.YtkbcjagkacijnaaW.PrintLast Go.Proofs.YtkbcjagkacijnaaW.PrintMore
attribute [local go_sem] max2_int min2_int max_two min_two max_three min_three max_four min_four   -- for this text's walks alone
set_option linter.unusedVariables false
set_option linter.unusedSimpArgs false

def furlongref02_times.l0 : Nat → Int → Int → Int → Int → Int → Int → Option (Int × Int)
  | 0, _, _, _, _, _, _ => none
  | k + 1, x2, x9, x105000, x105001, x106000, x106001 => if x9 ≥ 0 then ((furlongref01_Plus.f x106000 x106001 x106000 x106001).bind fun bt106 => (if 0 ≤ x9 then (if (Go.bits .and .i64 (shr .i64 x2 x9) 1) = 1 then ((furlongref01_Plus.f bt106.1 bt106.2 x105000 x105001).bind fun bt108 => (furlongref02_times.l0 k x2 (wrap64 (x9 - 1)) x105000 x105001 bt108.1 bt108.2)) else (furlongref02_times.l0 k x2 (wrap64 (x9 - 1)) x105000 x105001 bt106.1 bt106.2)) else (none))) else (some (x106000, x106001))
def furlongref02_times.f (k : Nat) (a0 : Int) (a1 : Int) (a2 : Int) : Option (Int × Int) := (furlongref01_Times.f a0 a1).bind fun bt102 => (furlongref02_times.l0 k a2 20 bt102.1 bt102.2 0 0)
theorem furlongref02_times.mono_l : ∀ k, (∀ y0 y1 y2 y3 y4 y5, LeO (furlongref02_times.l0 k y0 y1 y2 y3 y4 y5) (furlongref02_times.l0 (k + 1) y0 y1 y2 y3 y4 y5))
  | 0 => fun _ _ _ _ _ _ r h => by simp [furlongref02_times.l0] at h
  | k + 1 => by
    have ih0 := furlongref02_times.mono_l k
    · intro y0 y1 y2 y3 y4 y5
      unfold furlongref02_times.l0
      repeat' first
      | (with_reducible exact ih0 _ _ _ _ _ _)
      | (with_reducible exact LeO.refl _)
      | (with_reducible exact LeO.none _)
      | (with_reducible refine LeO.ite ?_ ?_)
      | (with_reducible refine LeO.bind ?_ (fun _ => ?_))
      | exact ih0 _ _ _ _ _ _
      | exact LeO.none _
      | refine LeO.ite ?_ ?_
      | refine LeO.bind ?_ (fun _ => ?_)
theorem furlongref02_times.mono : ∀ a0 a1 a2 k, LeO (furlongref02_times.f k a0 a1 a2) (furlongref02_times.f (k + 1) a0 a1 a2) := by
  intro a0 a1 a2 k
  have ih0 := furlongref02_times.mono_l k
  unfold furlongref02_times.f
  repeat' first
      | (with_reducible exact ih0 _ _ _ _ _ _)
      | (with_reducible exact LeO.refl _)
      | (with_reducible exact LeO.none _)
      | (with_reducible refine LeO.ite ?_ ?_)
      | (with_reducible refine LeO.bind ?_ (fun _ => ?_))
      | exact ih0 _ _ _ _ _ _
      | exact LeO.none _
      | refine LeO.ite ?_ ?_
      | refine LeO.bind ?_ (fun _ => ?_)
end Go.Proofs.Ytkbcjagkacijnaa.PVq
end
section
namespace Go.Proofs.Ytkbcjagkacijnaa.PVec
open Go.Proofs.Ytkbcjagkacijnaa.PVq
open Go.RowKit Go.Shelf Go.Proofs.Ytkbcjagkacijnaa.Iter Go.Proofs.YtkbcjagkacijnaaW.PrintWords Go.Proofs.YtkbcjagkacijnaaW.PrintLast
set_option linter.unusedVariables false
set_option linter.unusedSimpArgs false

def furlongref02_Less.f (k : Nat) (a0 a1 wa b0 b1 wb t0 t1 : Int) : Option Int := (furlongref02_Share.f a0 a1 t0 t1).bind fun f => (furlongref02_Share.f b0 b1 t0 t1).bind fun g =>
  if f.2 = 0 then (if g.2 = 0 then some 0 else some 1) else if g.2 = 0 then some (-1) else
  (furlongref02_times.f k f.1 g.2 wb).bind fun x => (furlongref02_times.f k g.1 f.2 wa).bind fun y =>
  (PNum.furlongref01_Less.f x.1 x.2 y.1 y.2).bind fun t => if t = true then some (-1) else (PNum.furlongref01_Less.f y.1 y.2 x.1 x.2).bind fun u => if u = true then some 1 else some 0
theorem furlongref02_Less.mono : ∀ a0 a1 a2 a3 a4 a5 a6 a7 k, LeO (furlongref02_Less.f k a0 a1 a2 a3 a4 a5 a6 a7) (furlongref02_Less.f (k + 1) a0 a1 a2 a3 a4 a5 a6 a7) := by
  intro a0 a1 a2 a3 a4 a5 a6 a7 k
  unfold furlongref02_Less.f
  repeat' first
      | (with_reducible exact furlongref02_times.mono _ _ _ _)
      | (with_reducible exact LeO.refl _)
      | (with_reducible exact LeO.none _)
      | (with_reducible refine LeO.ite ?_ ?_)
      | (with_reducible refine LeO.bind ?_ (fun _ => ?_))

end Go.Proofs.Ytkbcjagkacijnaa.PVec
end
section
-- Written for this claim by this project's own driver over the kit's print: functions and their contracts.
namespace Go.Proofs.Ytkbcjagkacijnaa.PVec
open Go.RowKit Go.Proofs.YtkbcjagkacijnaaW.PrintWords Go.Proofs.YtkbcjagkacijnaaW.PrintLast Go.Proofs.YtkbcjagkacijnaaW.PrintMore
attribute [local go_sem] max2_int min2_int max_two min_two max_three min_three max_four min_four   -- for this text's walks alone
set_option linter.unusedVariables false
set_option linter.unusedSimpArgs false

def vec_Less.f (k : Nat) (a0_0 : Int) (a0_1 : Int) (a1 : Int) (a2_0 : Int) (a2_1 : Int) (a3 : Int) (a4_0 : Int) (a4_1 : Int) : Option (Int × Int) := (vec_Good.f a0_0 a0_1).bind fun t217 => (if t217 = true then ((vec_Good.f a2_0 a2_1).bind fun t218 => (if t218 = true then ((vec_Good.f a4_0 a4_1).bind fun t219 => (if t219 = true then (if a1 < 1 then (some (0, 1)) else (if a1 > 1048576 then (some (0, 1)) else (if a3 < 1 then (some (0, 1)) else (if a3 > 1048576 then (some (0, 1)) else ((vec_Order.f k a0_0 a0_1 a1 a2_0 a2_1 a3 a4_0 a4_1).bind fun t220 => (some (t220, 0))))))) else (some (0, 1)))) else (some (0, 1)))) else (some (0, 1)))
theorem vec_Less.mono : ∀ a0 a1 a2 a3 a4 a5 a6 a7 k, LeO (vec_Less.f k a0 a1 a2 a3 a4 a5 a6 a7) (vec_Less.f (k + 1) a0 a1 a2 a3 a4 a5 a6 a7) := by
  intro a0 a1 a2 a3 a4 a5 a6 a7 k
  unfold vec_Less.f
  repeat' first
      | (with_reducible exact vec_Order.mono _ _ _ _ _ _ _ _ _)
      | (with_reducible exact LeO.refl _)
      | (with_reducible exact LeO.none _)
      | (with_reducible refine LeO.ite ?_ ?_)
      | (with_reducible refine LeO.bind ?_ (fun _ => ?_))
      | exact vec_Order.mono _ _ _ _ _ _ _ _ _
      | exact LeO.none _
      | refine LeO.ite ?_ ?_
      | refine LeO.bind ?_ (fun _ => ?_)
def furlongref02_DocLess.j0 : Nat → Int → Int → Int → Bool → Int → Int → Int → Int → Int → Int → Option (Int × Int)
  | 0, _, _, _, _, _, _, _, _, _, _ => none
  | k + 1, x1, x3, x12, x31, x222000, x222001, x223000, x223001, x224000, x224001 => if x31 = true then (if 1 = 0 then ((furlongref02_Less.f k x222000 x222001 x1 x223000 x223001 x3 x224000 x224001).bind fun t228 => (some (t228, 1))) else (some (0, 1))) else (if x12 = 0 then ((furlongref02_Less.f k x222000 x222001 x1 x223000 x223001 x3 x224000 x224001).bind fun t229 => (some (t229, x12))) else (some (0, x12)))
def furlongref02_DocLess.f (k : Nat) (a0_0 : Int) (a0_1 : Int) (a1 : Int) (a2_0 : Int) (a2_1 : Int) (a3 : Int) (a4_0 : Int) (a4_1 : Int) : Option (Int × Int) := (furlongref02_Check.f k (([(⟨a0_0, a0_1⟩ : S25), (⟨a2_0, a2_1⟩ : S25), (⟨a4_0, a4_1⟩ : S25)] : List (S25)))).bind fun t227 => (if a1 < 1 then (furlongref02_DocLess.j0 k a1 a3 t227 true a0_0 a0_1 a2_0 a2_1 a4_0 a4_1) else (if a1 > 1048576 then (furlongref02_DocLess.j0 k a1 a3 t227 true a0_0 a0_1 a2_0 a2_1 a4_0 a4_1) else (if a3 < 1 then (furlongref02_DocLess.j0 k a1 a3 t227 true a0_0 a0_1 a2_0 a2_1 a4_0 a4_1) else (furlongref02_DocLess.j0 k a1 a3 t227 (decide (a3 > 1048576)) a0_0 a0_1 a2_0 a2_1 a4_0 a4_1))))
theorem furlongref02_DocLess.mono_l : ∀ k, (∀ y0 y1 y2 y3 y4 y5 y6 y7 y8 y9, LeO (furlongref02_DocLess.j0 k y0 y1 y2 y3 y4 y5 y6 y7 y8 y9) (furlongref02_DocLess.j0 (k + 1) y0 y1 y2 y3 y4 y5 y6 y7 y8 y9))
  | 0 => fun _ _ _ _ _ _ _ _ _ _ r h => by simp [furlongref02_DocLess.j0] at h
  | k + 1 => by
    have ih0 := furlongref02_DocLess.mono_l k
    · intro y0 y1 y2 y3 y4 y5 y6 y7 y8 y9
      unfold furlongref02_DocLess.j0
      repeat' first
      | (with_reducible exact ih0 _ _ _ _ _ _ _ _ _ _)
      | (with_reducible exact furlongref02_Check.mono _ _)
      | (with_reducible exact furlongref02_Less.mono _ _ _ _ _ _ _ _ _)
      | (with_reducible exact LeO.refl _)
      | (with_reducible exact LeO.none _)
      | (with_reducible refine LeO.ite ?_ ?_)
      | (with_reducible refine LeO.bind ?_ (fun _ => ?_))
      | exact ih0 _ _ _ _ _ _ _ _ _ _
      | exact furlongref02_Check.mono _ _
      | exact furlongref02_Less.mono _ _ _ _ _ _ _ _ _
      | exact LeO.none _
      | refine LeO.ite ?_ ?_
      | refine LeO.bind ?_ (fun _ => ?_)
theorem furlongref02_DocLess.mono : ∀ a0 a1 a2 a3 a4 a5 a6 a7 k, LeO (furlongref02_DocLess.f k a0 a1 a2 a3 a4 a5 a6 a7) (furlongref02_DocLess.f (k + 1) a0 a1 a2 a3 a4 a5 a6 a7) := by
  intro a0 a1 a2 a3 a4 a5 a6 a7 k
  have ih0 := furlongref02_DocLess.mono_l k
  unfold furlongref02_DocLess.f
  repeat' first
      | (with_reducible exact ih0 _ _ _ _ _ _ _ _ _ _)
      | (with_reducible exact furlongref02_Check.mono _ _)
      | (with_reducible exact furlongref02_Less.mono _ _ _ _ _ _ _ _ _)
      | (with_reducible exact LeO.refl _)
      | (with_reducible exact LeO.none _)
      | (with_reducible refine LeO.ite ?_ ?_)
      | (with_reducible refine LeO.bind ?_ (fun _ => ?_))
      | exact ih0 _ _ _ _ _ _ _ _ _ _
      | exact furlongref02_Check.mono _ _
      | exact furlongref02_Less.mono _ _ _ _ _ _ _ _ _
      | exact LeO.none _
      | refine LeO.ite ?_ ?_
      | refine LeO.bind ?_ (fun _ => ?_)
def furlonglaw02_VecOrders.f (k : Nat) (a0_0 : Int) (a0_1 : Int) (a1 : Int) (a2_0 : Int) (a2_1 : Int) (a3 : Int) (a4_0 : Int) (a4_1 : Int) : Option (Bool) := (furlonglaw02_awake.f k).bind fun t233 => (if t233 = true then ((vec_Less.f k a0_0 a0_1 a1 a2_0 a2_1 a3 a4_0 a4_1).bind fun bt234 => ((furlongref02_DocLess.f k a0_0 a0_1 a1 a2_0 a2_1 a3 a4_0 a4_1).bind fun bt236 => (if bt234.1 = bt236.1 then (some (bt234.2 == bt236.2)) else (some false)))) else (some false))
theorem furlonglaw02_VecOrders.mono : ∀ a0 a1 a2 a3 a4 a5 a6 a7 k, LeO (furlonglaw02_VecOrders.f k a0 a1 a2 a3 a4 a5 a6 a7) (furlonglaw02_VecOrders.f (k + 1) a0 a1 a2 a3 a4 a5 a6 a7) := by
  intro a0 a1 a2 a3 a4 a5 a6 a7 k
  unfold furlonglaw02_VecOrders.f
  repeat' first
      | (with_reducible exact furlonglaw02_awake.mono _)
      | (with_reducible exact furlongref02_DocLess.mono _ _ _ _ _ _ _ _ _)
      | (with_reducible exact vec_Less.mono _ _ _ _ _ _ _ _ _)
      | (with_reducible exact LeO.refl _)
      | (with_reducible exact LeO.none _)
      | (with_reducible refine LeO.ite ?_ ?_)
      | (with_reducible refine LeO.bind ?_ (fun _ => ?_))
      | exact furlonglaw02_awake.mono _
      | exact furlongref02_DocLess.mono _ _ _ _ _ _ _ _ _
      | exact vec_Less.mono _ _ _ _ _ _ _ _ _
      | exact LeO.none _
      | refine LeO.ite ?_ ?_
      | refine LeO.bind ?_ (fun _ => ?_)
end Go.Proofs.Ytkbcjagkacijnaa.PVec
end
section
-- Written for this claim by this project's own driver over the kit's print: functions and their contracts.
namespace Go.Proofs.Ytkbcjagkacijnaa.PVec
open Go.RowKit Go.Proofs.YtkbcjagkacijnaaW.PrintWords Go.Proofs.YtkbcjagkacijnaaW.PrintLast Go.Proofs.YtkbcjagkacijnaaW.PrintMore
attribute [local go_sem] max2_int min2_int max_two min_two max_three min_three max_four min_four   -- for this text's walks alone
set_option linter.unusedVariables false
set_option linter.unusedSimpArgs false

mutual
def furlonglaw02_VecTurns.j0 : Nat → Int → Int → Int → Int → Int → Int → Int → Int → Bool → Int → Int → Int → Int → Int → Int → Int → Int → Int → Option (Bool)
  | 0, _, _, _, _, _, _, _, _, _, _, _, _, _, _, _, _, _, _ => none
  | k + 1, x11, x12, x13, x14, x15, x16, x17, x18, x82, x239000, x239001, x240000, x240001, x242000, x242001, x242002, x243000, x243001 => if x82 = true then (if x12 = 0 then (if x16 = 0 then (some (x18 != 0)) else (some true)) else (if x14 = 0 then (if x16 = 0 then (some (x18 != 0)) else (some true)) else (some true))) else (if x11 = (wrap64 (-x13)) then (if x11 ≤ 0 then (if x15 ≤ 0 then (furlonglaw02_VecTurns.j1 k (decide (x17 > 0)) x239000 x239001 x240000 x240001 x242000 x242001 x242002 x243000 x243001) else (furlonglaw02_VecTurns.j1 k false x239000 x239001 x240000 x240001 x242000 x242001 x242002 x243000 x243001)) else (furlonglaw02_VecTurns.j1 k false x239000 x239001 x240000 x240001 x242000 x242001 x242002 x243000 x243001)) else (furlonglaw02_VecTurns.j1 k true x239000 x239001 x240000 x240001 x242000 x242001 x242002 x243000 x243001))
def furlonglaw02_VecTurns.j1 : Nat → Bool → Int → Int → Int → Int → Int → Int → Int → Int → Int → Option (Bool)
  | 0, _, _, _, _, _, _, _, _, _, _ => none
  | k + 1, x112, x239000, x239001, x240000, x240001, x242000, x242001, x242002, x243000, x243001 => if x112 = true then (some false) else ((vec_Add.f k x239000 x239001 x240000 x240001).bind fun bt252 => (if bt252.2.2 = 0 then ((vec_Less.f k x239000 x239001 x242000 bt252.1 bt252.2.1 x242000 x243000 x243001).bind fun bt256 => (if bt256.2 = 0 then (some (decide (bt256.1 ≤ 0))) else (some false))) else (some true)))
end
def furlonglaw02_VecTurns.f (k : Nat) (a0_0 : Int) (a0_1 : Int) (a1_0 : Int) (a1_1 : Int) (a2_0 : Int) (a2_1 : Int) (a3_0 : Int) (a3_1 : Int) (a3_2 : Int) (a4_0 : Int) (a4_1 : Int) : Option (Bool) := (furlonglaw02_awake.f k).bind fun t243 => (if t243 = true then ((vec_Less.f k a0_0 a0_1 a3_0 a1_0 a1_1 a3_1 a4_0 a4_1).bind fun bt244 => ((vec_Less.f k a1_0 a1_1 a3_1 a0_0 a0_1 a3_0 a4_0 a4_1).bind fun bt246 => ((vec_Less.f k a1_0 a1_1 a3_1 a2_0 a2_1 a3_2 a4_0 a4_1).bind fun bt248 => ((vec_Less.f k a0_0 a0_1 a3_0 a2_0 a2_1 a3_2 a4_0 a4_1).bind fun bt250 => (if bt244.2 = 0 then (if bt246.2 = 0 then (if bt248.2 = 0 then (furlonglaw02_VecTurns.j0 k bt244.1 bt244.2 bt246.1 bt246.2 bt248.1 bt248.2 bt250.1 bt250.2 (bt250.2 != 0) a0_0 a0_1 a1_0 a1_1 a3_0 a3_1 a3_2 a4_0 a4_1) else (furlonglaw02_VecTurns.j0 k bt244.1 bt244.2 bt246.1 bt246.2 bt248.1 bt248.2 bt250.1 bt250.2 true a0_0 a0_1 a1_0 a1_1 a3_0 a3_1 a3_2 a4_0 a4_1)) else (furlonglaw02_VecTurns.j0 k bt244.1 bt244.2 bt246.1 bt246.2 bt248.1 bt248.2 bt250.1 bt250.2 true a0_0 a0_1 a1_0 a1_1 a3_0 a3_1 a3_2 a4_0 a4_1)) else (furlonglaw02_VecTurns.j0 k bt244.1 bt244.2 bt246.1 bt246.2 bt248.1 bt248.2 bt250.1 bt250.2 true a0_0 a0_1 a1_0 a1_1 a3_0 a3_1 a3_2 a4_0 a4_1)))))) else (some false))
theorem furlonglaw02_VecTurns.mono_l : ∀ k, (∀ y0 y1 y2 y3 y4 y5 y6 y7 y8 y9 y10 y11 y12 y13 y14 y15 y16 y17, LeO (furlonglaw02_VecTurns.j0 k y0 y1 y2 y3 y4 y5 y6 y7 y8 y9 y10 y11 y12 y13 y14 y15 y16 y17) (furlonglaw02_VecTurns.j0 (k + 1) y0 y1 y2 y3 y4 y5 y6 y7 y8 y9 y10 y11 y12 y13 y14 y15 y16 y17)) ∧ (∀ y0 y1 y2 y3 y4 y5 y6 y7 y8 y9, LeO (furlonglaw02_VecTurns.j1 k y0 y1 y2 y3 y4 y5 y6 y7 y8 y9) (furlonglaw02_VecTurns.j1 (k + 1) y0 y1 y2 y3 y4 y5 y6 y7 y8 y9))
  | 0 => ⟨fun _ _ _ _ _ _ _ _ _ _ _ _ _ _ _ _ _ _ r h => by simp [furlonglaw02_VecTurns.j0] at h, fun _ _ _ _ _ _ _ _ _ _ r h => by simp [furlonglaw02_VecTurns.j1] at h⟩
  | k + 1 => by
    obtain ⟨ih0, ih1⟩ := furlonglaw02_VecTurns.mono_l k
    refine ⟨?_, ?_⟩
    · intro y0 y1 y2 y3 y4 y5 y6 y7 y8 y9 y10 y11 y12 y13 y14 y15 y16 y17
      unfold furlonglaw02_VecTurns.j0
      repeat' first
      | (with_reducible exact ih0 _ _ _ _ _ _ _ _ _ _ _ _ _ _ _ _ _ _)
      | (with_reducible exact ih1 _ _ _ _ _ _ _ _ _ _)
      | (with_reducible exact furlonglaw02_awake.mono _)
      | (with_reducible exact vec_Add.mono _ _ _ _ _)
      | (with_reducible exact vec_Less.mono _ _ _ _ _ _ _ _ _)
      | (with_reducible exact LeO.refl _)
      | (with_reducible exact LeO.none _)
      | (with_reducible refine LeO.ite ?_ ?_)
      | (with_reducible refine LeO.bind ?_ (fun _ => ?_))
      | exact ih0 _ _ _ _ _ _ _ _ _ _ _ _ _ _ _ _ _ _
      | exact ih1 _ _ _ _ _ _ _ _ _ _
      | exact furlonglaw02_awake.mono _
      | exact vec_Add.mono _ _ _ _ _
      | exact vec_Less.mono _ _ _ _ _ _ _ _ _
      | exact LeO.none _
      | refine LeO.ite ?_ ?_
      | refine LeO.bind ?_ (fun _ => ?_)
    · intro y0 y1 y2 y3 y4 y5 y6 y7 y8 y9
      unfold furlonglaw02_VecTurns.j1
      repeat' first
      | (with_reducible exact ih0 _ _ _ _ _ _ _ _ _ _ _ _ _ _ _ _ _ _)
      | (with_reducible exact ih1 _ _ _ _ _ _ _ _ _ _)
      | (with_reducible exact furlonglaw02_awake.mono _)
      | (with_reducible exact vec_Add.mono _ _ _ _ _)
      | (with_reducible exact vec_Less.mono _ _ _ _ _ _ _ _ _)
      | (with_reducible exact LeO.refl _)
      | (with_reducible exact LeO.none _)
      | (with_reducible refine LeO.ite ?_ ?_)
      | (with_reducible refine LeO.bind ?_ (fun _ => ?_))
      | exact ih0 _ _ _ _ _ _ _ _ _ _ _ _ _ _ _ _ _ _
      | exact ih1 _ _ _ _ _ _ _ _ _ _
      | exact furlonglaw02_awake.mono _
      | exact vec_Add.mono _ _ _ _ _
      | exact vec_Less.mono _ _ _ _ _ _ _ _ _
      | exact LeO.none _
      | refine LeO.ite ?_ ?_
      | refine LeO.bind ?_ (fun _ => ?_)
theorem furlonglaw02_VecTurns.mono : ∀ a0 a1 a2 a3 a4 a5 a6 a7 a8 a9 a10 k, LeO (furlonglaw02_VecTurns.f k a0 a1 a2 a3 a4 a5 a6 a7 a8 a9 a10) (furlonglaw02_VecTurns.f (k + 1) a0 a1 a2 a3 a4 a5 a6 a7 a8 a9 a10) := by
  intro a0 a1 a2 a3 a4 a5 a6 a7 a8 a9 a10 k
  obtain ⟨ih0, ih1⟩ := furlonglaw02_VecTurns.mono_l k
  unfold furlonglaw02_VecTurns.f
  repeat' first
      | (with_reducible exact ih0 _ _ _ _ _ _ _ _ _ _ _ _ _ _ _ _ _ _)
      | (with_reducible exact ih1 _ _ _ _ _ _ _ _ _ _)
      | (with_reducible exact furlonglaw02_awake.mono _)
      | (with_reducible exact vec_Add.mono _ _ _ _ _)
      | (with_reducible exact vec_Less.mono _ _ _ _ _ _ _ _ _)
      | (with_reducible exact LeO.refl _)
      | (with_reducible exact LeO.none _)
      | (with_reducible refine LeO.ite ?_ ?_)
      | (with_reducible refine LeO.bind ?_ (fun _ => ?_))
      | exact ih0 _ _ _ _ _ _ _ _ _ _ _ _ _ _ _ _ _ _
      | exact ih1 _ _ _ _ _ _ _ _ _ _
      | exact furlonglaw02_awake.mono _
      | exact vec_Add.mono _ _ _ _ _
      | exact vec_Less.mono _ _ _ _ _ _ _ _ _
      | exact LeO.none _
      | refine LeO.ite ?_ ?_
      | refine LeO.bind ?_ (fun _ => ?_)
def furlonglaw02_VecAlike.f (k : Nat) (a0_0 : Int) (a0_1 : Int) (a1 : Int) (a2_0 : Int) (a2_1 : Int) : Option (Bool) := (furlonglaw02_awake.f k).bind fun t260 => (if t260 = true then ((furlongref02_Check.f k (([(⟨a0_0, a0_1⟩ : S25), (⟨a2_0, a2_1⟩ : S25)] : List (S25)))).bind fun t264 => (if t264 = 0 then (if a1 < 1 then (some true) else (if a1 > 524288 then (some true) else (if a0_0 > 549755813888 then (some true) else (if a0_1 > 549755813888 then (some true) else ((vec_Less.f k a0_0 a0_1 a1 (wrap64 (2 * a0_0)) (wrap64 (2 * a0_1)) (wrap64 (2 * a1)) a2_0 a2_1).bind fun bt265 => (if bt265.2 = 0 then (some (bt265.1 == 0)) else (some false))))))) else (some true))) else (some false))
theorem furlonglaw02_VecAlike.mono : ∀ a0 a1 a2 a3 a4 k, LeO (furlonglaw02_VecAlike.f k a0 a1 a2 a3 a4) (furlonglaw02_VecAlike.f (k + 1) a0 a1 a2 a3 a4) := by
  intro a0 a1 a2 a3 a4 k
  unfold furlonglaw02_VecAlike.f
  repeat' first
      | (with_reducible exact furlonglaw02_awake.mono _)
      | (with_reducible exact furlongref02_Check.mono _ _)
      | (with_reducible exact vec_Less.mono _ _ _ _ _ _ _ _ _)
      | (with_reducible exact LeO.refl _)
      | (with_reducible exact LeO.none _)
      | (with_reducible refine LeO.ite ?_ ?_)
      | (with_reducible refine LeO.bind ?_ (fun _ => ?_))
      | exact furlonglaw02_awake.mono _
      | exact furlongref02_Check.mono _ _
      | exact vec_Less.mono _ _ _ _ _ _ _ _ _
      | exact LeO.none _
      | refine LeO.ite ?_ ?_
      | refine LeO.bind ?_ (fun _ => ?_)
end Go.Proofs.Ytkbcjagkacijnaa.PVec
end
section
namespace Go.Proofs.Ytkbcjagkacijnaa.VecLib
set_option linter.unusedVariables false
set_option linter.unusedSimpArgs false
open Go.RowKit Go.Proofs.Ytkbcjagkacijnaa.NumLib Go.Proofs.Ytkbcjagkacijnaa.PVec Go.Proofs.YtkbcjagkacijnaaW.PrintWords Go.Proofs.YtkbcjagkacijnaaW.PrintLast

theorem okRes_iff {x : Int} : okRes x = true ↔ 0 ≤ x ∧ x ≤ 1099511627776 := by simp [okRes]
def good (a0 a1 : Int) : Bool := okRes a0 && okRes a1
theorem good_iff {a0 a1 : Int} : good a0 a1 = true ↔ (0 ≤ a0 ∧ a0 ≤ 1099511627776) ∧ (0 ≤ a1 ∧ a1 ≤ 1099511627776) := by
  unfold good; rw [Bool.and_eq_true, okRes_iff, okRes_iff]
theorem good_f (a0 a1 : Int) : vec_Good.f a0 a1 = some (good a0 a1) := rfl
theorem check_f (a0 a1 : Int) : vec_Check.f a0 a1 = some (if good a0 a1 = true then 0 else 1) := by
  unfold vec_Check.f
  rw [good_f, Option.bind_some]
  cases good a0 a1 <;> rfl
theorem done_f {k : Nat} (a0 a1 b0 b1 c0 c1 : Int) : vec_done.f (k + 1) a0 a1 b0 b1 c0 c1 = some (if (good a0 a1 && good b0 b1) = true then (if good c0 c1 = true then (c0, c1, 0) else (0, 0, 2)) else (0, 0, 1)) := by
  unfold vec_done.f
  simp only [good_f, Option.bind_some, vec_done.j0]
  cases good a0 a1 <;> cases good b0 b1 <;> cases good c0 c1 <;> rfl
theorem add_f {k : Nat} {a0 a1 b0 b1 : Int} (ha0 : in64 a0) (ha1 : in64 a1) (hb0 : in64 b0) (hb1 : in64 b1) :
    vec_Add.f (k + 1) a0 a1 b0 b1 = some (if (good a0 a1 && good b0 b1) = true then (if good (a0 + b0) (a1 + b1) = true then (a0 + b0, a1 + b1, 0) else (0, 0, 2)) else (0, 0, 1)) := by
  unfold vec_Add.f
  rw [done_f, Option.bind_some]
  cases h : good a0 a1 && good b0 b1
  · rfl
  · rw [Bool.and_eq_true, good_iff, good_iff] at h
    rw [w64_id (by omega), w64_id (by omega)]
/-- A part's fraction. -/
def pt (u t : Int) : Int × Int := if t > 0 then (u, t) else if u > 0 then (1, 0) else (0, 1)
/-- The dominant share. -/
def dshr (a0 a1 b0 b1 : Int) : Int × Int := if (pt a0 b0).1 * (pt a1 b1).2 < (pt a1 b1).1 * (pt a0 b0).2 then pt a1 b1 else pt a0 b0
theorem fixd_pt {u t : Int} (hu : 0 ≤ u) (ht : 0 ≤ t) : fixd (u, t) = pt u t := by
  unfold fixd pt
  simp only
  by_cases h : t = 0
  · subst h
    by_cases h' : 0 < u
    · simp [h']
    · have : u = 0 := by omega
      subst this
      simp
  · rw [if_neg h, if_pos (by omega)]
theorem pt_ok {u t : Int} (hu : 0 ≤ u) (ht : 0 ≤ t) : 0 ≤ (pt u t).1 ∧ 0 ≤ (pt u t).2 ∧ ((pt u t).2 = 0 → (pt u t).1 = 1) := by
  unfold pt
  split
  · exact ⟨hu, ht, fun h => by simp at h; omega⟩
  · split <;> simp
theorem sgn_pos_iff {x : Int} : 0 < sgn x ↔ 0 < x := by
  unfold sgn
  split
  · omega
  · split <;> omega
theorem shareV_shr {a0 a1 b0 b1 : Int} (ha : good a0 a1 = true) (hb : good b0 b1 = true) : shareV (a0, a1) (b0, b1) = dshr a0 a1 b0 b1 := by
  rw [good_iff] at ha hb
  have h0 := pt_ok ha.1.1 hb.1.1
  unfold shareV
  simp only
  have e : stepS (-1, 1) (a0, b0) = pt a0 b0 := by
    unfold stepS
    rw [fixd_pt ha.1.1 hb.1.1, if_pos]
    rw [sgn_pos_iff]
    simp only
    by_cases h : (pt a0 b0).2 = 0
    · have := h0.2.2 h; omega
    · omega
  rw [e]
  unfold stepS dshr
  rw [fixd_pt ha.2.1 hb.2.1]
  simp only [sgn_pos_iff]
  by_cases h : (pt a0 b0).1 * (pt a1 b1).2 < (pt a1 b1).1 * (pt a0 b0).2
  · rw [if_pos h, if_pos (by omega)]
  · rw [if_neg h, if_neg (by omega)]
theorem in64_good {a0 a1 : Int} (h : good a0 a1 = true) : in64 a0 ∧ in64 a1 := by
  rw [good_iff] at h
  unfold in64
  omega
theorem share_f {a0 a1 b0 b1 : Int} (ha : good a0 a1 = true) (hb : good b0 b1 = true) : vec_share.f a0 a1 b0 b1 = some (dshr a0 a1 b0 b1) := by
  unfold vec_share.f
  rw [if_pos ⟨in64_good ha, in64_good hb⟩, shareV_shr ha hb]
theorem pt_in {u t : Int} (hu : 0 ≤ u) (hu' : u ≤ 1099511627776) (ht : t ≤ 1099511627776) : (0 ≤ (pt u t).1 ∧ (pt u t).1 ≤ 1099511627776) ∧ 0 ≤ (pt u t).2 ∧ (pt u t).2 ≤ 1099511627776 := by
  unfold pt
  split
  · simp only; omega
  · split <;> simp
theorem dshr_in {a0 a1 b0 b1 : Int} (ha : good a0 a1 = true) (hb : good b0 b1 = true) : (0 ≤ (dshr a0 a1 b0 b1).1 ∧ (dshr a0 a1 b0 b1).1 ≤ 1099511627776) ∧ (0 ≤ (dshr a0 a1 b0 b1).2 ∧ (dshr a0 a1 b0 b1).2 ≤ 1099511627776) ∧ ((dshr a0 a1 b0 b1).2 = 0 → (dshr a0 a1 b0 b1).1 = 1) := by
  rw [good_iff] at ha hb
  have hc := pt_in ha.1.1 ha.1.2 hb.1.2
  have hm := pt_in ha.2.1 ha.2.2 hb.2.2
  have hc' := pt_ok ha.1.1 hb.1.1
  have hm' := pt_ok ha.2.1 hb.2.1
  unfold dshr
  split
  · exact ⟨hm.1, hm.2, hm'.2.2⟩
  · exact ⟨hc.1, hc.2, hc'.2.2⟩

theorem awake_f (k : Nat) : furlonglaw02_awake.f (k + 1) = some true := by
  unfold furlonglaw02_awake.f
  rw [add_f (by decide) (by decide) (by decide) (by decide)]
  have h : vec_Share.f 2 1 9 2 = some (1, 2, 0) := by
    unfold vec_Share.f
    rw [good_f, good_f, share_f (by decide) (by decide)]
    decide
  rw [h]
  decide

theorem share_full (a0 a1 b0 b1 : Int) : vec_Share.f a0 a1 b0 b1 = some (if (good a0 a1 && good b0 b1) = true then ((dshr a0 a1 b0 b1).1, (dshr a0 a1 b0 b1).2, 0) else (0, 0, 1)) := by
  unfold vec_Share.f
  simp only [good_f, Option.bind_some]
  cases ha : good a0 a1
  · rfl
  · cases hb : good b0 b1
    · rfl
    · rw [share_f ha hb]
      rfl
end Go.Proofs.Ytkbcjagkacijnaa.VecLib
end
section
namespace Go.Proofs.Ytkbcjagkacijnaa.VecLib
set_option linter.unusedVariables false
set_option linter.unusedSimpArgs false
open Go.RowKit Go.Proofs.Ytkbcjagkacijnaa.NumLib Go.Proofs.Ytkbcjagkacijnaa.PVec Go.Proofs.YtkbcjagkacijnaaW.PrintWords Go.Proofs.YtkbcjagkacijnaaW.PrintLast

/-- A fraction that may be, and their order. -/
def okF (f : Int × Int) : Prop := 0 ≤ f.1 ∧ 0 ≤ f.2 ∧ (f.2 = 0 → f.1 = 1)
def leF (f g : Int × Int) : Prop := f.1 * g.2 ≤ g.1 * f.2
theorem leF_max {a0 a1 t0 t1 : Int} (g : good a0 a1 = true) (gt : good t0 t1 = true) : okF (dshr a0 a1 t0 t1) ∧ leF (pt a0 t0) (dshr a0 a1 t0 t1) ∧ leF (pt a1 t1) (dshr a0 a1 t0 t1) ∧ (dshr a0 a1 t0 t1 = pt a0 t0 ∨ dshr a0 a1 t0 t1 = pt a1 t1) := by
  have hi := dshr_in g gt
  refine ⟨⟨hi.1.1, hi.2.1.1, hi.2.2⟩, ?_⟩
  unfold dshr leF
  split
  · exact ⟨by omega, by omega, .inr rfl⟩
  · exact ⟨by omega, by omega, .inl rfl⟩
theorem sgn_le {x : Int} : sgn x ≤ 0 ↔ x ≤ 0 := by
  unfold sgn
  split
  · omega
  · split <;> omega
theorem share_yes {a0 a1 b0 b1 : Int} (ha : good a0 a1 = true) (hb : good b0 b1 = true) : vec_Share.f a0 a1 b0 b1 = some ((dshr a0 a1 b0 b1).1, (dshr a0 a1 b0 b1).2, 0) := by
  rw [share_full, ha, hb]
  rfl
theorem share_no {a0 a1 b0 b1 : Int} (h : ¬ (good a0 a1 = true ∧ good b0 b1 = true)) : vec_Share.f a0 a1 b0 b1 = some (0, 0, 1) := by
  rw [share_full, if_neg (by rw [Bool.and_eq_true]; exact h)]
theorem VecMost {u0 u1 t0 t1 : Int} (hu0 : in64 u0) (hu1 : in64 u1) (ht0 : in64 t0) (ht1 : in64 t1) : furlonglaw02_VecMost.f 30 u0 u1 t0 t1 = some true := by
  unfold furlonglaw02_VecMost.f
  rw [awake_f, Option.bind_some, if_pos rfl]
  by_cases hg : good u0 u1 = true ∧ good t0 t1 = true
  · obtain ⟨gu, gt⟩ := hg
    have U := good_iff.mp gu
    have T := good_iff.mp gt
    rw [share_yes gu gt, Option.bind_some]
    simp only [if_true]
    obtain ⟨ok, l0, l1, hc⟩ := leF_max gu gt
    have hi := dshr_in gu gt
    by_cases z0 : t0 = 0
    · rw [if_pos z0]
      simp only [furlonglaw02_VecMost.j0, if_true]
      by_cases d0 : (dshr u0 u1 t0 t1).2 = 0
      · rw [if_pos d0]
      · rw [if_neg d0, if_pos z0]
        by_cases v0 : u0 = 0
        · rw [if_pos v0]
        · exfalso
          have : pt u0 t0 = (1, 0) := by unfold pt; rw [if_neg (by omega), if_pos (by omega)]
          rw [this] at l0
          unfold leF at l0
          simp at l0
          have := hi.2.1.1
          omega
    · rw [if_neg z0]
      by_cases z1 : t1 = 0
      · simp only [furlonglaw02_VecMost.j0, z1, beq_self_eq_true, if_true]
        by_cases d0 : (dshr u0 u1 t0 0).2 = 0
        · rw [if_pos d0]
        · rw [if_neg d0, if_neg z0]
          by_cases v0 : u1 = 0
          · simp [v0]
          · exfalso
            subst z1
            have : pt u1 0 = (1, 0) := by unfold pt; rw [if_neg (by omega), if_pos (by omega)]
            rw [this] at l1
            unfold leF at l1
            simp at l1
            have := hi.2.1.1
            omega
      · have e0 : pt u0 t0 = (u0, t0) := by unfold pt; rw [if_pos (by omega)]
        have e1 : pt u1 t1 = (u1, t1) := by unfold pt; rw [if_pos (by omega)]
        rw [e0] at l0 hc
        rw [e1] at l1 hc
        unfold leF at l0 l1
        simp only at l0 l1
        have hd : 0 < (dshr u0 u1 t0 t1).2 := by rcases hc with h | h <;> rw [h] <;> simp only <;> omega
        have hor : u0 * (dshr u0 u1 t0 t1).2 - (dshr u0 u1 t0 t1).1 * t0 = 0 ∨ u1 * (dshr u0 u1 t0 t1).2 - (dshr u0 u1 t0 t1).1 * t1 = 0 := by
          rcases hc with h | h <;> rw [h] <;> simp only
          · left; omega
          · right; omega
        have cm : ∀ {a b c d : Int}, in64 a → in64 b → in64 c → in64 d → PVec.num_Cmp.f 29 a b c d = some (if b < 1 ∨ d < 1 then (0, 1) else (sgn (a * d - c * b), 0)) := fun h1 h2 h3 h4 => cmp_eq (k := 27) h1 h2 h3 h4
        rw [show (t1 == 0) = false by simpa using z1]
        simp only [furlonglaw02_VecMost.j0, Bool.false_eq_true, if_false]
        rw [cm hu0 ht0 (by unfold in64; omega) (by unfold in64; omega), cm hu1 ht1 (by unfold in64; omega) (by unfold in64; omega), if_neg (by omega), if_neg (by omega)]
        simp only [Option.bind_some, if_true]
        generalize u0 * (dshr u0 u1 t0 t1).2 = X at *
        generalize (dshr u0 u1 t0 t1).1 * t0 = Y at *
        generalize u1 * (dshr u0 u1 t0 t1).2 = Z at *
        generalize (dshr u0 u1 t0 t1).1 * t1 = V at *
        rw [if_pos (sgn_le.mpr (by omega)), if_pos (sgn_le.mpr (by omega))]
        rcases hor with h | h
        · rw [if_pos (sgn_zero h)]
        · rw [sgn_zero h]
          split <;> rfl
  · rw [share_no hg, Option.bind_some]
    simp only [if_neg (show ¬ (1 : Int) = 0 by omega), check_f, Option.bind_some, if_true]
    by_cases h1 : good u0 u1 = true
    · have h2 : good t0 t1 = false := by cases h : good t0 t1; rfl; exact absurd ⟨h1, h⟩ hg
      simp [h1, h2]
    · simp [h1]
end Go.Proofs.Ytkbcjagkacijnaa.VecLib
end
section
namespace Go.Proofs.Ytkbcjagkacijnaa.Open
set_option linter.unusedVariables false
set_option linter.unusedSimpArgs false
open Go.RowKit Go.Proofs.YtkbcjagkacijnaaW.PrintWords

/-- Values of type T read as what k says; good: what is known of them; bulk: no more than the data's. -/
def Opens {α : Type} (P : Program) (T : TypeId) (k : Kd α) (good : α → Prop) (bulk : α → Nat) : Prop :=
  ∀ (H : Type) (enc : TypeId × Value → H) (W : World) (fuel : Nat) (cs : List Value) (x : DataW H × List MemPlace),
    DataW.trod enc P W 0 (fun _ => true) true fuel T cs = some x → ∃ a : α, k.K W a cs ∧ good a ∧ bulk a ≤ Rows.uptoBulk x.1

theorem Opens.int {P : Program} {T : TypeId} {q : IntKind} (h : P.underlying T = some (.int q)) : Opens P T (Kd.int q) (fun n => (Lit.int q n).wf = true) (fun _ => 1) := by
  intro H enc W fuel cs x hx
  obtain ⟨n, rfl, rfl, hw⟩ := DataW.trod_int h hx
  exact ⟨n, rfl, hw, by simp [Rows.uptoBulk]⟩
theorem Opens.bool {P : Program} {T : TypeId} (h : P.underlying T = some .bool) : Opens P T Kd.bool (fun _ => True) (fun _ => 1) := by
  intro H enc W fuel cs x hx
  obtain ⟨n, rfl, rfl⟩ := DataW.trod_bool h hx
  exact ⟨n, rfl, trivial, by simp [Rows.uptoBulk]⟩

/-- Fields, one behind the other. -/
def OpensFs {α : Type} (P : Program) (ts : List TypeId) (k : Kd α) (good : α → Prop) (bulk : α → Nat) : Prop :=
  ∀ (H : Type) (enc : TypeId × Value → H) (W : World) (n : Nat) (cs : List Value) (xs : List (DataW H × List MemPlace)), cs.length = (ts.map P.cellsOf).sum → xs.length = ts.length →
    (∀ i t, ts[i]? = some t → DataW.trod enc P W 0 (fun _ => true) true n t ((cs.drop ((ts.take i).map P.cellsOf).sum).take (P.cellsOf t)) = xs[i]?) →
    ∃ a : α, k.K W a cs ∧ good a ∧ bulk a ≤ Rows.uptoBulkAll (xs.map (·.1))

theorem OpensFs.one {α : Type} {P : Program} {t : TypeId} {k : Kd α} {good : α → Prop} {bulk : α → Nat} (h : Opens P t k good bulk) : OpensFs P [t] k good bulk := by
  intro H enc W n cs xs hl hx hf
  match xs, hx with
  | [x], _ =>
    have h0 := hf 0 t rfl
    simp at h0 hl
    rw [List.take_of_length_le (by omega)] at h0
    obtain ⟨a, h1, h2, h3⟩ := h H enc W n cs x h0
    exact ⟨a, h1, h2, by simpa [Rows.uptoBulkAll] using h3⟩

theorem OpensFs.cons {α β : Type} {P : Program} {t : TypeId} {ts : List TypeId} {k : Kd α} {ks : Kd β} {g : α → Prop} {gs : β → Prop} {b : α → Nat} {bs : β → Nat} (h : Opens P t k g b) (hs : OpensFs P ts ks gs bs) :
    OpensFs P (t :: ts) (Kd.pair k ks) (fun x => g x.1 ∧ gs x.2) (fun x => b x.1 + bs x.2) := by
  intro H enc W n cs xs hl hx hf
  match xs, hx with
  | x :: xs, hx =>
    have h0 := hf 0 t rfl
    simp at h0 hl
    obtain ⟨a, h1, h2, h3⟩ := h H enc W n _ x h0
    obtain ⟨c, g1, g2, g3⟩ := hs H enc W n (cs.drop (P.cellsOf t)) xs (by rw [List.length_drop]; omega) (by simpa using hx) (fun i t' ht' => by
      have := hf (i + 1) t' (by simpa using ht')
      simp only [List.take_succ_cons, List.map_cons, List.sum_cons, List.getElem?_cons_succ] at this
      rw [List.drop_drop]
      exact this)
    exact ⟨(a, c), ⟨_, _, (List.take_append_drop (P.cellsOf t) cs).symm, h1, g1⟩, ⟨h2, g2⟩, by simp only [List.map_cons, Rows.uptoBulkAll]; omega⟩

theorem Opens.struct {α : Type} {P : Program} {T : TypeId} {fs : Array Field} {ts : List TypeId} {k : Kd α} {good : α → Prop} {bulk : α → Nat} (ht : P.underlying T = some (.struct fs))
    (hts : fs.toList.map (·.type) = ts) (hoff : fs.toList.map (·.offset) = (List.range ts.length).map fun i => ((ts.take i).map P.cellsOf).sum) (hsz : P.cellsOf T = (ts.map P.cellsOf).sum) (h : OpensFs P ts k good bulk) :
    Opens P T k good (fun a => bulk a + 1) := by
  intro H enc W fuel cs x hx
  obtain ⟨xs, n, _, rfl, hl, hlen, hf⟩ := DataW.trod_struct ht hx
  have hn : ts.length = fs.size := by rw [← hts]; simp
  obtain ⟨a, h1, h2, h3⟩ := h H enc W n cs xs (by rw [hl, hsz]) (by rw [hlen, hn]) (fun i t hi => by
    have hlt : i < fs.size := by have := (List.getElem?_eq_some_iff.1 hi).1; omega
    have hfi : fs[i]? = some fs[i] := Array.getElem?_eq_getElem hlt
    have e1 : fs[i].type = t := by
      have := congrArg (fun l => l[i]?) hts
      simp [hi, hlt] at this
      exact this
    have e2 : fs[i].offset = ((ts.take i).map P.cellsOf).sum := by
      have := congrArg (fun l => l[i]?) hoff
      simp [hlt, hn] at this
      rw [List.map_take]
      exact this
    have := hf i _ hfi
    rw [e1, e2] at this
    exact this)
  exact ⟨a, h1, h2, by simp only [Rows.uptoBulk]; omega⟩

end Go.Proofs.Ytkbcjagkacijnaa.Open
end
section
namespace Go.Proofs.Ytkbcjagkacijnaa.Open
open Go.RowKit Go.Proofs.YtkbcjagkacijnaaW.PrintWords
set_option linter.unusedVariables false
abbrev kV : Kd (Int × Int) := Kd.pair (Kd.int .i64) (Kd.int .i64)
abbrev okV (x : Int × Int) : Prop := (Lit.int .i64 x.1).wf = true ∧ (Lit.int .i64 x.2).wf = true
set_option maxRecDepth 100000 in
theorem vec : Opens Try.prog 25 kV okV (fun _ => 1 + 1 + 1) :=
  Opens.struct (ts := [2, 2]) Try.underlying25 (by kernel_rfl) (by kernel_rfl) (by kernel_rfl) (OpensFs.cons (Opens.int Try.underlying2) (OpensFs.one (Opens.int Try.underlying2)))
theorem of_vec {W : World} {c : Array Value} {x : Int × Int} (h : kV.K W x c.toList) : c = #[.int .i64 x.1, .int .i64 x.2] := by
  obtain ⟨d, e, h1, rfl, rfl⟩ := h
  exact Array.toList_inj.mp (by simpa using h1)
end Go.Proofs.Ytkbcjagkacijnaa.Open
end
section
namespace Go.Proofs.Ytkbcjagkacijnaa.Walk
set_option linter.unusedVariables false
open Go.RowKit Go.Proofs.Ytkbcjagkacijnaa.NumLib Go.Proofs.YtkbcjagkacijnaaW.PrintWords
theorem VecMost (W : World) (a : Array Value) (x : Int × Int) (ha : Open.kV.K W x a.toList) (ga : Open.okV x) (b : Array Value) (y : Int × Int) (hb : Open.kV.K W y b.toList) (gb : Open.okV y) :
    Calls Try.prog 7 #[.agg a, .agg b] W fun e w' => e = .returned (.bool true) ∧ Below W.heap.size W w' := by
  obtain rfl := Open.of_vec ha
  obtain rfl := Open.of_vec hb
  exact PVec.furlonglaw02_VecMost.calls _ _ _ _ _ _ W (VecLib.VecMost (wf64.mp ga.1) (wf64.mp ga.2) (wf64.mp gb.1) (wf64.mp gb.2))
end Go.Proofs.Ytkbcjagkacijnaa.Walk
end
