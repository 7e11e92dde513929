/- What the law VecTurns needs of the seat's contracts and plain laws, several texts one behind the other; no conditions. -/
import Derived.Test.YtkbcjagkacijnaaSVecTurns0
import Derived.Test.YtkbcjagkacijnaaSVecTurns1
import Derived.Test.YtkbcjagkacijnaaSVecTurns2
import Derived.Test.YtkbcjagkacijnaaWMore
import Derived.Test.YtkbcjagkacijnaaWNEv
import Derived.Test.YtkbcjagkacijnaaRows
import Derived.ProofKit
import Derived.OpenShut
section
-- Written for this claim by this project's own driver over the kit's print: functions and their contracts.
namespace Go.Proofs.Ytkbcjagkacijnaa.PVec
open Go.RowKit Go.Proofs.YtkbcjagkacijnaaW.PrintWords Go.Proofs.YtkbcjagkacijnaaW.PrintLast Go.Proofs.YtkbcjagkacijnaaW.PrintMore
attribute [local go_sem] max2_int min2_int max_two min_two max_three min_three max_four min_four   -- for this text's walks alone
set_option linter.unusedVariables false
set_option linter.unusedSimpArgs false

mutual
def furlonglaw02_VecTurns.j0 : Nat → Int → Int → Int → Int → Int → Int → Int → Int → Bool → Int → Int → Int → Int → Int → Int → Int → Int → Int → Option (Bool)
  | 0, _, _, _, _, _, _, _, _, _, _, _, _, _, _, _, _, _, _ => none
  | k + 1, x11, x12, x13, x14, x15, x16, x17, x18, x82, x239000, x239001, x240000, x240001, x242000, x242001, x242002, x243000, x243001 => if x82 = true then (if x12 = 0 then (if x16 = 0 then (some (x18 != 0)) else (some true)) else (if x14 = 0 then (if x16 = 0 then (some (x18 != 0)) else (some true)) else (some true))) else (if x11 = (wrap64 (-x13)) then (if x11 ≤ 0 then (if x15 ≤ 0 then (furlonglaw02_VecTurns.j1 k (decide (x17 > 0)) x239000 x239001 x240000 x240001 x242000 x242001 x242002 x243000 x243001) else (furlonglaw02_VecTurns.j1 k false x239000 x239001 x240000 x240001 x242000 x242001 x242002 x243000 x243001)) else (furlonglaw02_VecTurns.j1 k false x239000 x239001 x240000 x240001 x242000 x242001 x242002 x243000 x243001)) else (furlonglaw02_VecTurns.j1 k true x239000 x239001 x240000 x240001 x242000 x242001 x242002 x243000 x243001))
def furlonglaw02_VecTurns.j1 : Nat → Bool → Int → Int → Int → Int → Int → Int → Int → Int → Int → Option (Bool)
  | 0, _, _, _, _, _, _, _, _, _, _ => none
  | k + 1, x112, x239000, x239001, x240000, x240001, x242000, x242001, x242002, x243000, x243001 => if x112 = true then (some false) else ((vec_Add.f k x239000 x239001 x240000 x240001).bind fun bt252 => (if bt252.2.2 = 0 then ((vec_Less.f k x239000 x239001 x242000 bt252.1 bt252.2.1 x242000 x243000 x243001).bind fun bt256 => (if bt256.2 = 0 then (some (decide (bt256.1 ≤ 0))) else (some false))) else (some true)))
end
def furlonglaw02_VecTurns.f (k : Nat) (a0_0 : Int) (a0_1 : Int) (a1_0 : Int) (a1_1 : Int) (a2_0 : Int) (a2_1 : Int) (a3_0 : Int) (a3_1 : Int) (a3_2 : Int) (a4_0 : Int) (a4_1 : Int) : Option (Bool) := (furlonglaw02_awake.f k).bind fun t243 => (if t243 = true then ((vec_Less.f k a0_0 a0_1 a3_0 a1_0 a1_1 a3_1 a4_0 a4_1).bind fun bt244 => ((vec_Less.f k a1_0 a1_1 a3_1 a0_0 a0_1 a3_0 a4_0 a4_1).bind fun bt246 => ((vec_Less.f k a1_0 a1_1 a3_1 a2_0 a2_1 a3_2 a4_0 a4_1).bind fun bt248 => ((vec_Less.f k a0_0 a0_1 a3_0 a2_0 a2_1 a3_2 a4_0 a4_1).bind fun bt250 => (if bt244.2 = 0 then (if bt246.2 = 0 then (if bt248.2 = 0 then (furlonglaw02_VecTurns.j0 k bt244.1 bt244.2 bt246.1 bt246.2 bt248.1 bt248.2 bt250.1 bt250.2 (bt250.2 != 0) a0_0 a0_1 a1_0 a1_1 a3_0 a3_1 a3_2 a4_0 a4_1) else (furlonglaw02_VecTurns.j0 k bt244.1 bt244.2 bt246.1 bt246.2 bt248.1 bt248.2 bt250.1 bt250.2 true a0_0 a0_1 a1_0 a1_1 a3_0 a3_1 a3_2 a4_0 a4_1)) else (furlonglaw02_VecTurns.j0 k bt244.1 bt244.2 bt246.1 bt246.2 bt248.1 bt248.2 bt250.1 bt250.2 true a0_0 a0_1 a1_0 a1_1 a3_0 a3_1 a3_2 a4_0 a4_1)) else (furlonglaw02_VecTurns.j0 k bt244.1 bt244.2 bt246.1 bt246.2 bt248.1 bt248.2 bt250.1 bt250.2 true a0_0 a0_1 a1_0 a1_1 a3_0 a3_1 a3_2 a4_0 a4_1)))))) else (some false))
theorem furlonglaw02_VecTurns.mono_l : ∀ k, (∀ y0 y1 y2 y3 y4 y5 y6 y7 y8 y9 y10 y11 y12 y13 y14 y15 y16 y17, LeO (furlonglaw02_VecTurns.j0 k y0 y1 y2 y3 y4 y5 y6 y7 y8 y9 y10 y11 y12 y13 y14 y15 y16 y17) (furlonglaw02_VecTurns.j0 (k + 1) y0 y1 y2 y3 y4 y5 y6 y7 y8 y9 y10 y11 y12 y13 y14 y15 y16 y17)) ∧ (∀ y0 y1 y2 y3 y4 y5 y6 y7 y8 y9, LeO (furlonglaw02_VecTurns.j1 k y0 y1 y2 y3 y4 y5 y6 y7 y8 y9) (furlonglaw02_VecTurns.j1 (k + 1) y0 y1 y2 y3 y4 y5 y6 y7 y8 y9))
  | 0 => ⟨fun _ _ _ _ _ _ _ _ _ _ _ _ _ _ _ _ _ _ r h => by simp [furlonglaw02_VecTurns.j0] at h, fun _ _ _ _ _ _ _ _ _ _ r h => by simp [furlonglaw02_VecTurns.j1] at h⟩
  | k + 1 => by
    obtain ⟨ih0, ih1⟩ := furlonglaw02_VecTurns.mono_l k
    refine ⟨?_, ?_⟩
    · intro y0 y1 y2 y3 y4 y5 y6 y7 y8 y9 y10 y11 y12 y13 y14 y15 y16 y17
      unfold furlonglaw02_VecTurns.j0
      repeat' first
      | (with_reducible exact ih0 _ _ _ _ _ _ _ _ _ _ _ _ _ _ _ _ _ _)
      | (with_reducible exact ih1 _ _ _ _ _ _ _ _ _ _)
      | (with_reducible exact furlonglaw02_awake.mono _)
      | (with_reducible exact vec_Add.mono _ _ _ _ _)
      | (with_reducible exact vec_Less.mono _ _ _ _ _ _ _ _ _)
      | (with_reducible exact LeO.refl _)
      | (with_reducible exact LeO.none _)
      | (with_reducible refine LeO.ite ?_ ?_)
      | (with_reducible refine LeO.bind ?_ (fun _ => ?_))
      | exact ih0 _ _ _ _ _ _ _ _ _ _ _ _ _ _ _ _ _ _
      | exact ih1 _ _ _ _ _ _ _ _ _ _
      | exact furlonglaw02_awake.mono _
      | exact vec_Add.mono _ _ _ _ _
      | exact vec_Less.mono _ _ _ _ _ _ _ _ _
      | exact LeO.none _
      | refine LeO.ite ?_ ?_
      | refine LeO.bind ?_ (fun _ => ?_)
    · intro y0 y1 y2 y3 y4 y5 y6 y7 y8 y9
      unfold furlonglaw02_VecTurns.j1
      repeat' first
      | (with_reducible exact ih0 _ _ _ _ _ _ _ _ _ _ _ _ _ _ _ _ _ _)
      | (with_reducible exact ih1 _ _ _ _ _ _ _ _ _ _)
      | (with_reducible exact furlonglaw02_awake.mono _)
      | (with_reducible exact vec_Add.mono _ _ _ _ _)
      | (with_reducible exact vec_Less.mono _ _ _ _ _ _ _ _ _)
      | (with_reducible exact LeO.refl _)
      | (with_reducible exact LeO.none _)
      | (with_reducible refine LeO.ite ?_ ?_)
      | (with_reducible refine LeO.bind ?_ (fun _ => ?_))
      | exact ih0 _ _ _ _ _ _ _ _ _ _ _ _ _ _ _ _ _ _
      | exact ih1 _ _ _ _ _ _ _ _ _ _
      | exact furlonglaw02_awake.mono _
      | exact vec_Add.mono _ _ _ _ _
      | exact vec_Less.mono _ _ _ _ _ _ _ _ _
      | exact LeO.none _
      | refine LeO.ite ?_ ?_
      | refine LeO.bind ?_ (fun _ => ?_)
theorem furlonglaw02_VecTurns.mono : ∀ a0 a1 a2 a3 a4 a5 a6 a7 a8 a9 a10 k, LeO (furlonglaw02_VecTurns.f k a0 a1 a2 a3 a4 a5 a6 a7 a8 a9 a10) (furlonglaw02_VecTurns.f (k + 1) a0 a1 a2 a3 a4 a5 a6 a7 a8 a9 a10) := by
  intro a0 a1 a2 a3 a4 a5 a6 a7 a8 a9 a10 k
  obtain ⟨ih0, ih1⟩ := furlonglaw02_VecTurns.mono_l k
  unfold furlonglaw02_VecTurns.f
  repeat' first
      | (with_reducible exact ih0 _ _ _ _ _ _ _ _ _ _ _ _ _ _ _ _ _ _)
      | (with_reducible exact ih1 _ _ _ _ _ _ _ _ _ _)
      | (with_reducible exact furlonglaw02_awake.mono _)
      | (with_reducible exact vec_Add.mono _ _ _ _ _)
      | (with_reducible exact vec_Less.mono _ _ _ _ _ _ _ _ _)
      | (with_reducible exact LeO.refl _)
      | (with_reducible exact LeO.none _)
      | (with_reducible refine LeO.ite ?_ ?_)
      | (with_reducible refine LeO.bind ?_ (fun _ => ?_))
      | exact ih0 _ _ _ _ _ _ _ _ _ _ _ _ _ _ _ _ _ _
      | exact ih1 _ _ _ _ _ _ _ _ _ _
      | exact furlonglaw02_awake.mono _
      | exact vec_Add.mono _ _ _ _ _
      | exact vec_Less.mono _ _ _ _ _ _ _ _ _
      | exact LeO.none _
      | refine LeO.ite ?_ ?_
      | refine LeO.bind ?_ (fun _ => ?_)
set_option maxHeartbeats 8000000 in
set_option maxRecDepth 100000 in
theorem furlonglaw02_VecTurns.calls (k : Nat) (a0_0 : Int) (a0_1 : Int) (a1_0 : Int) (a1_1 : Int) (a2_0 : Int) (a2_1 : Int) (a3_0 : Int) (a3_1 : Int) (a3_2 : Int) (a4_0 : Int) (a4_1 : Int) (r : Bool) (w : World) (h : furlonglaw02_VecTurns.f k a0_0 a0_1 a1_0 a1_1 a2_0 a2_1 a3_0 a3_1 a3_2 a4_0 a4_1 = some r) :
    Calls Try.prog 12 #[.agg #[.int .i64 a0_0, .int .i64 a0_1], .agg #[.int .i64 a1_0, .int .i64 a1_1], .agg #[.int .i64 a2_0, .int .i64 a2_1], .agg #[.int .i64 a3_0, .int .i64 a3_1, .int .i64 a3_2], .agg #[.int .i64 a4_0, .int .i64 a4_1]] w fun e w' => e = .returned (.bool r) ∧ Below w.heap.size w w' := by
  have hu25 := Try.underlying25
  have hu54 := Try.underlying54
  have HB := Aside0.mk (Below.refl w.heap.size w)
  have H : ((furlonglaw02_awake.f k).bind fun t243 => (if t243 = true then ((vec_Less.f k a0_0 a0_1 a3_0 a1_0 a1_1 a3_1 a4_0 a4_1).bind fun bt244 => ((vec_Less.f k a1_0 a1_1 a3_1 a0_0 a0_1 a3_0 a4_0 a4_1).bind fun bt246 => ((vec_Less.f k a1_0 a1_1 a3_1 a2_0 a2_1 a3_2 a4_0 a4_1).bind fun bt248 => ((vec_Less.f k a0_0 a0_1 a3_0 a2_0 a2_1 a3_2 a4_0 a4_1).bind fun bt250 => (if bt244.2 = 0 then (if bt246.2 = 0 then (if bt248.2 = 0 then (furlonglaw02_VecTurns.j0 k bt244.1 bt244.2 bt246.1 bt246.2 bt248.1 bt248.2 bt250.1 bt250.2 (bt250.2 != 0) a0_0 a0_1 a1_0 a1_1 a3_0 a3_1 a3_2 a4_0 a4_1) else (furlonglaw02_VecTurns.j0 k bt244.1 bt244.2 bt246.1 bt246.2 bt248.1 bt248.2 bt250.1 bt250.2 true a0_0 a0_1 a1_0 a1_1 a3_0 a3_1 a3_2 a4_0 a4_1)) else (furlonglaw02_VecTurns.j0 k bt244.1 bt244.2 bt246.1 bt246.2 bt248.1 bt248.2 bt250.1 bt250.2 true a0_0 a0_1 a1_0 a1_1 a3_0 a3_1 a3_2 a4_0 a4_1)) else (furlonglaw02_VecTurns.j0 k bt244.1 bt244.2 bt246.1 bt246.2 bt248.1 bt248.2 bt250.1 bt250.2 true a0_0 a0_1 a1_0 a1_1 a3_0 a3_1 a3_2 a4_0 a4_1)))))) else (some false))) = some r := h
  clear h
  replace H := Option.bind_eq_some_iff.mp H
  obtain ⟨t243, A60, H⟩ := H
  replace H : (if t243 = true then ((vec_Less.f k a0_0 a0_1 a3_0 a1_0 a1_1 a3_1 a4_0 a4_1).bind fun bt244 => ((vec_Less.f k a1_0 a1_1 a3_1 a0_0 a0_1 a3_0 a4_0 a4_1).bind fun bt246 => ((vec_Less.f k a1_0 a1_1 a3_1 a2_0 a2_1 a3_2 a4_0 a4_1).bind fun bt248 => ((vec_Less.f k a0_0 a0_1 a3_0 a2_0 a2_1 a3_2 a4_0 a4_1).bind fun bt250 => (if bt244.2 = 0 then (if bt246.2 = 0 then (if bt248.2 = 0 then (furlonglaw02_VecTurns.j0 k bt244.1 bt244.2 bt246.1 bt246.2 bt248.1 bt248.2 bt250.1 bt250.2 (bt250.2 != 0) a0_0 a0_1 a1_0 a1_1 a3_0 a3_1 a3_2 a4_0 a4_1) else (furlonglaw02_VecTurns.j0 k bt244.1 bt244.2 bt246.1 bt246.2 bt248.1 bt248.2 bt250.1 bt250.2 true a0_0 a0_1 a1_0 a1_1 a3_0 a3_1 a3_2 a4_0 a4_1)) else (furlonglaw02_VecTurns.j0 k bt244.1 bt244.2 bt246.1 bt246.2 bt248.1 bt248.2 bt250.1 bt250.2 true a0_0 a0_1 a1_0 a1_1 a3_0 a3_1 a3_2 a4_0 a4_1)) else (furlonglaw02_VecTurns.j0 k bt244.1 bt244.2 bt246.1 bt246.2 bt248.1 bt248.2 bt250.1 bt250.2 true a0_0 a0_1 a1_0 a1_1 a3_0 a3_1 a3_2 a4_0 a4_1)))))) else (some false)) = some r := H
  have A6 := Aside0.mk A60
  clear A60
  by_cases c7 : t243 = true
  · subst c7
    have H1 : ((vec_Less.f k a0_0 a0_1 a3_0 a1_0 a1_1 a3_1 a4_0 a4_1).bind fun bt244 => ((vec_Less.f k a1_0 a1_1 a3_1 a0_0 a0_1 a3_0 a4_0 a4_1).bind fun bt246 => ((vec_Less.f k a1_0 a1_1 a3_1 a2_0 a2_1 a3_2 a4_0 a4_1).bind fun bt248 => ((vec_Less.f k a0_0 a0_1 a3_0 a2_0 a2_1 a3_2 a4_0 a4_1).bind fun bt250 => (if bt244.2 = 0 then (if bt246.2 = 0 then (if bt248.2 = 0 then (furlonglaw02_VecTurns.j0 k bt244.1 bt244.2 bt246.1 bt246.2 bt248.1 bt248.2 bt250.1 bt250.2 (bt250.2 != 0) a0_0 a0_1 a1_0 a1_1 a3_0 a3_1 a3_2 a4_0 a4_1) else (furlonglaw02_VecTurns.j0 k bt244.1 bt244.2 bt246.1 bt246.2 bt248.1 bt248.2 bt250.1 bt250.2 true a0_0 a0_1 a1_0 a1_1 a3_0 a3_1 a3_2 a4_0 a4_1)) else (furlonglaw02_VecTurns.j0 k bt244.1 bt244.2 bt246.1 bt246.2 bt248.1 bt248.2 bt250.1 bt250.2 true a0_0 a0_1 a1_0 a1_1 a3_0 a3_1 a3_2 a4_0 a4_1)) else (furlonglaw02_VecTurns.j0 k bt244.1 bt244.2 bt246.1 bt246.2 bt248.1 bt248.2 bt250.1 bt250.2 true a0_0 a0_1 a1_0 a1_1 a3_0 a3_1 a3_2 a4_0 a4_1)))))) = some r := by rw [if_pos rfl] at H; exact H
    clear H
    have H := H1
    clear H1
    replace H := Option.bind_eq_some_iff.mp H
    obtain ⟨⟨t244, t245⟩, A80, H⟩ := H
    replace H : ((vec_Less.f k a1_0 a1_1 a3_1 a0_0 a0_1 a3_0 a4_0 a4_1).bind fun bt246 => ((vec_Less.f k a1_0 a1_1 a3_1 a2_0 a2_1 a3_2 a4_0 a4_1).bind fun bt248 => ((vec_Less.f k a0_0 a0_1 a3_0 a2_0 a2_1 a3_2 a4_0 a4_1).bind fun bt250 => (if t245 = 0 then (if bt246.2 = 0 then (if bt248.2 = 0 then (furlonglaw02_VecTurns.j0 k t244 t245 bt246.1 bt246.2 bt248.1 bt248.2 bt250.1 bt250.2 (bt250.2 != 0) a0_0 a0_1 a1_0 a1_1 a3_0 a3_1 a3_2 a4_0 a4_1) else (furlonglaw02_VecTurns.j0 k t244 t245 bt246.1 bt246.2 bt248.1 bt248.2 bt250.1 bt250.2 true a0_0 a0_1 a1_0 a1_1 a3_0 a3_1 a3_2 a4_0 a4_1)) else (furlonglaw02_VecTurns.j0 k t244 t245 bt246.1 bt246.2 bt248.1 bt248.2 bt250.1 bt250.2 true a0_0 a0_1 a1_0 a1_1 a3_0 a3_1 a3_2 a4_0 a4_1)) else (furlonglaw02_VecTurns.j0 k t244 t245 bt246.1 bt246.2 bt248.1 bt248.2 bt250.1 bt250.2 true a0_0 a0_1 a1_0 a1_1 a3_0 a3_1 a3_2 a4_0 a4_1))))) = some r := H
    have A8 := Aside0.mk A80
    clear A80
    replace H := Option.bind_eq_some_iff.mp H
    obtain ⟨⟨t246, t247⟩, A90, H⟩ := H
    replace H : ((vec_Less.f k a1_0 a1_1 a3_1 a2_0 a2_1 a3_2 a4_0 a4_1).bind fun bt248 => ((vec_Less.f k a0_0 a0_1 a3_0 a2_0 a2_1 a3_2 a4_0 a4_1).bind fun bt250 => (if t245 = 0 then (if t247 = 0 then (if bt248.2 = 0 then (furlonglaw02_VecTurns.j0 k t244 t245 t246 t247 bt248.1 bt248.2 bt250.1 bt250.2 (bt250.2 != 0) a0_0 a0_1 a1_0 a1_1 a3_0 a3_1 a3_2 a4_0 a4_1) else (furlonglaw02_VecTurns.j0 k t244 t245 t246 t247 bt248.1 bt248.2 bt250.1 bt250.2 true a0_0 a0_1 a1_0 a1_1 a3_0 a3_1 a3_2 a4_0 a4_1)) else (furlonglaw02_VecTurns.j0 k t244 t245 t246 t247 bt248.1 bt248.2 bt250.1 bt250.2 true a0_0 a0_1 a1_0 a1_1 a3_0 a3_1 a3_2 a4_0 a4_1)) else (furlonglaw02_VecTurns.j0 k t244 t245 t246 t247 bt248.1 bt248.2 bt250.1 bt250.2 true a0_0 a0_1 a1_0 a1_1 a3_0 a3_1 a3_2 a4_0 a4_1)))) = some r := H
    have A9 := Aside0.mk A90
    clear A90
    replace H := Option.bind_eq_some_iff.mp H
    obtain ⟨⟨t248, t249⟩, A100, H⟩ := H
    replace H : ((vec_Less.f k a0_0 a0_1 a3_0 a2_0 a2_1 a3_2 a4_0 a4_1).bind fun bt250 => (if t245 = 0 then (if t247 = 0 then (if t249 = 0 then (furlonglaw02_VecTurns.j0 k t244 t245 t246 t247 t248 t249 bt250.1 bt250.2 (bt250.2 != 0) a0_0 a0_1 a1_0 a1_1 a3_0 a3_1 a3_2 a4_0 a4_1) else (furlonglaw02_VecTurns.j0 k t244 t245 t246 t247 t248 t249 bt250.1 bt250.2 true a0_0 a0_1 a1_0 a1_1 a3_0 a3_1 a3_2 a4_0 a4_1)) else (furlonglaw02_VecTurns.j0 k t244 t245 t246 t247 t248 t249 bt250.1 bt250.2 true a0_0 a0_1 a1_0 a1_1 a3_0 a3_1 a3_2 a4_0 a4_1)) else (furlonglaw02_VecTurns.j0 k t244 t245 t246 t247 t248 t249 bt250.1 bt250.2 true a0_0 a0_1 a1_0 a1_1 a3_0 a3_1 a3_2 a4_0 a4_1))) = some r := H
    have A10 := Aside0.mk A100
    clear A100
    replace H := Option.bind_eq_some_iff.mp H
    obtain ⟨⟨t250, t251⟩, A110, H⟩ := H
    replace H : (if t245 = 0 then (if t247 = 0 then (if t249 = 0 then (furlonglaw02_VecTurns.j0 k t244 t245 t246 t247 t248 t249 t250 t251 (t251 != 0) a0_0 a0_1 a1_0 a1_1 a3_0 a3_1 a3_2 a4_0 a4_1) else (furlonglaw02_VecTurns.j0 k t244 t245 t246 t247 t248 t249 t250 t251 true a0_0 a0_1 a1_0 a1_1 a3_0 a3_1 a3_2 a4_0 a4_1)) else (furlonglaw02_VecTurns.j0 k t244 t245 t246 t247 t248 t249 t250 t251 true a0_0 a0_1 a1_0 a1_1 a3_0 a3_1 a3_2 a4_0 a4_1)) else (furlonglaw02_VecTurns.j0 k t244 t245 t246 t247 t248 t249 t250 t251 true a0_0 a0_1 a1_0 a1_1 a3_0 a3_1 a3_2 a4_0 a4_1)) = some r := H
    have A11 := Aside0.mk A110
    clear A110
    have HC12 := Aside0.mk H
    clear H
    go_enter Try.func12, Try.ntmps12
    go_upto_region 7 with (first | ((with_reducible refine gate_dst (N := 5) rfl ?_); refine box_event ?hg (N := 5) ?hd (cs := #[.int .i64 a0_0, .int .i64 a0_1]) (t := 25) ?hr ?_; (case hd => rfl); (case hg => rfl); (case hr => first | (go_simp; done) | (go_simp; rfl)); intro gb238 hg w13 hbox hb; have n0_ := Aside0.mk (below_step (by repeat (first | (with_reducible first | exact HB.out | apply below_alloc | apply pw_below_drewN | apply below_drew1) | exact HB.out)) hb); have n1_ := Aside0.mk (hbox); have n2_ := Aside0.mk ((by rw [hg]; exact (below_size (by repeat (first | (with_reducible first | exact HB.out | apply below_alloc | apply pw_below_drewN | apply below_drew1) | exact HB.out))) : w.heap.size ≤ gb238)); have n3_ := Aside0.mk ((by rw [hg]; exact (below_size (by repeat (first | (with_reducible first | exact HB.out | apply below_alloc | apply pw_below_drewN | apply below_drew1) | exact HB.out))) : w.heap.size ≤ gb238)); clear HB; have HB := n0_; have BK238 := n1_; have GW238 := n2_; have GE238 := n3_; clear n0_ n1_ n2_ n3_; clear hb hbox hg) | ((with_reducible refine gate_dst (N := 6) rfl ?_); refine box_event ?hg (N := 6) ?hd (cs := #[.int .i64 a1_0, .int .i64 a1_1]) (t := 25) ?hr ?_; (case hd => rfl); (case hg => rfl); (case hr => first | (go_simp; done) | (go_simp; rfl)); intro gb239 hg w14 hbox hb; have n0_ := Aside0.mk (blk_below (g := gb238) (o := .cells #[.int .i64 a0_0, .int .i64 a0_1] 25 (0, 0)) (by (with_reducible repeat (first | refine blk_drewN ?_ _ | refine blk_drew ?_ | refine blk_alloc ?_ _)); exact BK238.out) hb); have n1_ := Aside0.mk (below_step (by repeat (first | (with_reducible first | exact HB.out | apply below_alloc | apply pw_below_drewN | apply below_drew1 | refine below_set ?_ GE238.out) | exact HB.out)) hb); have n2_ := Aside0.mk (hbox); have n3_ := Aside0.mk ((by rw [hg]; exact (below_size (by repeat (first | (with_reducible first | exact HB.out | apply below_alloc | apply pw_below_drewN | apply below_drew1 | refine below_set ?_ GE238.out) | exact HB.out))) : w.heap.size ≤ gb239)); have n4_ := Aside0.mk ((by rw [hg]; exact (below_size (by repeat (first | (with_reducible first | exact HB.out | apply below_alloc | apply pw_below_drewN | apply below_drew1 | refine below_set ?_ GE238.out) | exact HB.out))) : w.heap.size ≤ gb239)); have n5_ := Aside0.mk ((by rw [hg]; exact Nat.ne_of_lt (blk_lt (g := gb238) (o := .cells #[.int .i64 a0_0, .int .i64 a0_1] 25 (0, 0)) (by (with_reducible repeat (first | refine blk_drewN ?_ _ | refine blk_drew ?_ | refine blk_alloc ?_ _)); exact BK238.out)) : gb238 ≠ gb239)); have n6_ := Aside0.mk ((by rw [hg]; exact Nat.ne_of_gt (blk_lt (g := gb238) (o := .cells #[.int .i64 a0_0, .int .i64 a0_1] 25 (0, 0)) (by (with_reducible repeat (first | refine blk_drewN ?_ _ | refine blk_drew ?_ | refine blk_alloc ?_ _)); exact BK238.out)) : gb239 ≠ gb238)); clear BK238; clear HB; have BK238 := n0_; have HB := n1_; have BK239 := n2_; have GW239 := n3_; have GE239 := n4_; have NB238_239 := n5_; have NB239_238 := n6_; clear n0_ n1_ n2_ n3_ n4_ n5_ n6_; clear hb hbox hg) | ((with_reducible refine gate_dst (N := 7) rfl ?_); refine box_event ?hg (N := 7) ?hd (cs := #[.int .i64 a2_0, .int .i64 a2_1]) (t := 25) ?hr ?_; (case hd => rfl); (case hg => rfl); (case hr => first | (go_simp; done) | (go_simp; rfl)); intro gb240 hg w15 hbox hb; have n0_ := Aside0.mk (blk_below (g := gb238) (o := .cells #[.int .i64 a0_0, .int .i64 a0_1] 25 (0, 0)) (by (with_reducible repeat (first | refine blk_drewN ?_ _ | refine blk_drew ?_ | refine blk_alloc ?_ _)); exact BK238.out) hb); have n1_ := Aside0.mk (blk_below (g := gb239) (o := .cells #[.int .i64 a1_0, .int .i64 a1_1] 25 (0, 0)) (by (with_reducible repeat (first | refine blk_drewN ?_ _ | refine blk_drew ?_ | refine blk_alloc ?_ _)); exact BK239.out) hb); have n2_ := Aside0.mk (below_step (by repeat (first | (with_reducible first | exact HB.out | apply below_alloc | apply pw_below_drewN | apply below_drew1 | refine below_set ?_ GE238.out | refine below_set ?_ GE239.out) | exact HB.out)) hb); have n3_ := Aside0.mk (hbox); have n4_ := Aside0.mk ((by rw [hg]; exact (below_size (by repeat (first | (with_reducible first | exact HB.out | apply below_alloc | apply pw_below_drewN | apply below_drew1 | refine below_set ?_ GE238.out | refine below_set ?_ GE239.out) | exact HB.out))) : w.heap.size ≤ gb240)); have n5_ := Aside0.mk ((by rw [hg]; exact (below_size (by repeat (first | (with_reducible first | exact HB.out | apply below_alloc | apply pw_below_drewN | apply below_drew1 | refine below_set ?_ GE238.out | refine below_set ?_ GE239.out) | exact HB.out))) : w.heap.size ≤ gb240)); have n6_ := Aside0.mk ((by rw [hg]; exact Nat.ne_of_lt (blk_lt (g := gb238) (o := .cells #[.int .i64 a0_0, .int .i64 a0_1] 25 (0, 0)) (by (with_reducible repeat (first | refine blk_drewN ?_ _ | refine blk_drew ?_ | refine blk_alloc ?_ _)); exact BK238.out)) : gb238 ≠ gb240)); have n7_ := Aside0.mk ((by rw [hg]; exact Nat.ne_of_gt (blk_lt (g := gb238) (o := .cells #[.int .i64 a0_0, .int .i64 a0_1] 25 (0, 0)) (by (with_reducible repeat (first | refine blk_drewN ?_ _ | refine blk_drew ?_ | refine blk_alloc ?_ _)); exact BK238.out)) : gb240 ≠ gb238)); have n8_ := Aside0.mk ((by rw [hg]; exact Nat.ne_of_lt (blk_lt (g := gb239) (o := .cells #[.int .i64 a1_0, .int .i64 a1_1] 25 (0, 0)) (by (with_reducible repeat (first | refine blk_drewN ?_ _ | refine blk_drew ?_ | refine blk_alloc ?_ _)); exact BK239.out)) : gb239 ≠ gb240)); have n9_ := Aside0.mk ((by rw [hg]; exact Nat.ne_of_gt (blk_lt (g := gb239) (o := .cells #[.int .i64 a1_0, .int .i64 a1_1] 25 (0, 0)) (by (with_reducible repeat (first | refine blk_drewN ?_ _ | refine blk_drew ?_ | refine blk_alloc ?_ _)); exact BK239.out)) : gb240 ≠ gb239)); clear BK238; clear BK239; clear HB; have BK238 := n0_; have BK239 := n1_; have HB := n2_; have BK240 := n3_; have GW240 := n4_; have GE240 := n5_; have NB238_240 := n6_; have NB240_238 := n7_; have NB239_240 := n8_; have NB240_239 := n9_; clear n0_ n1_ n2_ n3_ n4_ n5_ n6_ n7_ n8_ n9_; clear hb hbox hg) | ((with_reducible refine gate_dst (N := 8) rfl ?_); refine box_event ?hg (N := 8) ?hd (cs := #[.int .i64 a3_0, .int .i64 a3_1, .int .i64 a3_2]) (t := 54) ?hr ?_; (case hd => rfl); (case hg => rfl); (case hr => first | (go_simp; done) | (go_simp; rfl)); intro gb241 hg w16 hbox hb; have n0_ := Aside0.mk (blk_below (g := gb238) (o := .cells #[.int .i64 a0_0, .int .i64 a0_1] 25 (0, 0)) (by (with_reducible repeat (first | refine blk_drewN ?_ _ | refine blk_drew ?_ | refine blk_alloc ?_ _)); exact BK238.out) hb); have n1_ := Aside0.mk (blk_below (g := gb239) (o := .cells #[.int .i64 a1_0, .int .i64 a1_1] 25 (0, 0)) (by (with_reducible repeat (first | refine blk_drewN ?_ _ | refine blk_drew ?_ | refine blk_alloc ?_ _)); exact BK239.out) hb); have n2_ := Aside0.mk (blk_below (g := gb240) (o := .cells #[.int .i64 a2_0, .int .i64 a2_1] 25 (0, 0)) (by (with_reducible repeat (first | refine blk_drewN ?_ _ | refine blk_drew ?_ | refine blk_alloc ?_ _)); exact BK240.out) hb); have n3_ := Aside0.mk (below_step (by repeat (first | (with_reducible first | exact HB.out | apply below_alloc | apply pw_below_drewN | apply below_drew1 | refine below_set ?_ GE238.out | refine below_set ?_ GE239.out | refine below_set ?_ GE240.out) | exact HB.out)) hb); have n4_ := Aside0.mk (hbox); have n5_ := Aside0.mk ((by rw [hg]; exact (below_size (by repeat (first | (with_reducible first | exact HB.out | apply below_alloc | apply pw_below_drewN | apply below_drew1 | refine below_set ?_ GE238.out | refine below_set ?_ GE239.out | refine below_set ?_ GE240.out) | exact HB.out))) : w.heap.size ≤ gb241)); have n6_ := Aside0.mk ((by rw [hg]; exact (below_size (by repeat (first | (with_reducible first | exact HB.out | apply below_alloc | apply pw_below_drewN | apply below_drew1 | refine below_set ?_ GE238.out | refine below_set ?_ GE239.out | refine below_set ?_ GE240.out) | exact HB.out))) : w.heap.size ≤ gb241)); have n7_ := Aside0.mk ((by rw [hg]; exact Nat.ne_of_lt (blk_lt (g := gb238) (o := .cells #[.int .i64 a0_0, .int .i64 a0_1] 25 (0, 0)) (by (with_reducible repeat (first | refine blk_drewN ?_ _ | refine blk_drew ?_ | refine blk_alloc ?_ _)); exact BK238.out)) : gb238 ≠ gb241)); have n8_ := Aside0.mk ((by rw [hg]; exact Nat.ne_of_gt (blk_lt (g := gb238) (o := .cells #[.int .i64 a0_0, .int .i64 a0_1] 25 (0, 0)) (by (with_reducible repeat (first | refine blk_drewN ?_ _ | refine blk_drew ?_ | refine blk_alloc ?_ _)); exact BK238.out)) : gb241 ≠ gb238)); have n9_ := Aside0.mk ((by rw [hg]; exact Nat.ne_of_lt (blk_lt (g := gb239) (o := .cells #[.int .i64 a1_0, .int .i64 a1_1] 25 (0, 0)) (by (with_reducible repeat (first | refine blk_drewN ?_ _ | refine blk_drew ?_ | refine blk_alloc ?_ _)); exact BK239.out)) : gb239 ≠ gb241)); have n10_ := Aside0.mk ((by rw [hg]; exact Nat.ne_of_gt (blk_lt (g := gb239) (o := .cells #[.int .i64 a1_0, .int .i64 a1_1] 25 (0, 0)) (by (with_reducible repeat (first | refine blk_drewN ?_ _ | refine blk_drew ?_ | refine blk_alloc ?_ _)); exact BK239.out)) : gb241 ≠ gb239)); have n11_ := Aside0.mk ((by rw [hg]; exact Nat.ne_of_lt (blk_lt (g := gb240) (o := .cells #[.int .i64 a2_0, .int .i64 a2_1] 25 (0, 0)) (by (with_reducible repeat (first | refine blk_drewN ?_ _ | refine blk_drew ?_ | refine blk_alloc ?_ _)); exact BK240.out)) : gb240 ≠ gb241)); have n12_ := Aside0.mk ((by rw [hg]; exact Nat.ne_of_gt (blk_lt (g := gb240) (o := .cells #[.int .i64 a2_0, .int .i64 a2_1] 25 (0, 0)) (by (with_reducible repeat (first | refine blk_drewN ?_ _ | refine blk_drew ?_ | refine blk_alloc ?_ _)); exact BK240.out)) : gb241 ≠ gb240)); clear BK238; clear BK239; clear BK240; clear HB; have BK238 := n0_; have BK239 := n1_; have BK240 := n2_; have HB := n3_; have BK241 := n4_; have GW241 := n5_; have GE241 := n6_; have NB238_241 := n7_; have NB241_238 := n8_; have NB239_241 := n9_; have NB241_239 := n10_; have NB240_241 := n11_; have NB241_240 := n12_; clear n0_ n1_ n2_ n3_ n4_ n5_ n6_ n7_ n8_ n9_ n10_ n11_ n12_; clear hb hbox hg) | ((with_reducible refine gate_dst (N := 9) rfl ?_); refine box_event ?hg (N := 9) ?hd (cs := #[.int .i64 a4_0, .int .i64 a4_1]) (t := 25) ?hr ?_; (case hd => rfl); (case hg => rfl); (case hr => first | (go_simp; done) | (go_simp; rfl)); intro gb242 hg w17 hbox hb; have n0_ := Aside0.mk (blk_below (g := gb238) (o := .cells #[.int .i64 a0_0, .int .i64 a0_1] 25 (0, 0)) (by (with_reducible repeat (first | refine blk_drewN ?_ _ | refine blk_drew ?_ | refine blk_alloc ?_ _)); exact BK238.out) hb); have n1_ := Aside0.mk (blk_below (g := gb239) (o := .cells #[.int .i64 a1_0, .int .i64 a1_1] 25 (0, 0)) (by (with_reducible repeat (first | refine blk_drewN ?_ _ | refine blk_drew ?_ | refine blk_alloc ?_ _)); exact BK239.out) hb); have n2_ := Aside0.mk (blk_below (g := gb240) (o := .cells #[.int .i64 a2_0, .int .i64 a2_1] 25 (0, 0)) (by (with_reducible repeat (first | refine blk_drewN ?_ _ | refine blk_drew ?_ | refine blk_alloc ?_ _)); exact BK240.out) hb); have n3_ := Aside0.mk (blk_below (g := gb241) (o := .cells #[.int .i64 a3_0, .int .i64 a3_1, .int .i64 a3_2] 54 (0, 0)) (by (with_reducible repeat (first | refine blk_drewN ?_ _ | refine blk_drew ?_ | refine blk_alloc ?_ _)); exact BK241.out) hb); have n4_ := Aside0.mk (below_step (by repeat (first | (with_reducible first | exact HB.out | apply below_alloc | apply pw_below_drewN | apply below_drew1 | refine below_set ?_ GE238.out | refine below_set ?_ GE239.out | refine below_set ?_ GE240.out | refine below_set ?_ GE241.out) | exact HB.out)) hb); have n5_ := Aside0.mk (hbox); have n6_ := Aside0.mk ((by rw [hg]; exact (below_size (by repeat (first | (with_reducible first | exact HB.out | apply below_alloc | apply pw_below_drewN | apply below_drew1 | refine below_set ?_ GE238.out | refine below_set ?_ GE239.out | refine below_set ?_ GE240.out | refine below_set ?_ GE241.out) | exact HB.out))) : w.heap.size ≤ gb242)); have n7_ := Aside0.mk ((by rw [hg]; exact (below_size (by repeat (first | (with_reducible first | exact HB.out | apply below_alloc | apply pw_below_drewN | apply below_drew1 | refine below_set ?_ GE238.out | refine below_set ?_ GE239.out | refine below_set ?_ GE240.out | refine below_set ?_ GE241.out) | exact HB.out))) : w.heap.size ≤ gb242)); have n8_ := Aside0.mk ((by rw [hg]; exact Nat.ne_of_lt (blk_lt (g := gb238) (o := .cells #[.int .i64 a0_0, .int .i64 a0_1] 25 (0, 0)) (by (with_reducible repeat (first | refine blk_drewN ?_ _ | refine blk_drew ?_ | refine blk_alloc ?_ _)); exact BK238.out)) : gb238 ≠ gb242)); have n9_ := Aside0.mk ((by rw [hg]; exact Nat.ne_of_gt (blk_lt (g := gb238) (o := .cells #[.int .i64 a0_0, .int .i64 a0_1] 25 (0, 0)) (by (with_reducible repeat (first | refine blk_drewN ?_ _ | refine blk_drew ?_ | refine blk_alloc ?_ _)); exact BK238.out)) : gb242 ≠ gb238)); have n10_ := Aside0.mk ((by rw [hg]; exact Nat.ne_of_lt (blk_lt (g := gb239) (o := .cells #[.int .i64 a1_0, .int .i64 a1_1] 25 (0, 0)) (by (with_reducible repeat (first | refine blk_drewN ?_ _ | refine blk_drew ?_ | refine blk_alloc ?_ _)); exact BK239.out)) : gb239 ≠ gb242)); have n11_ := Aside0.mk ((by rw [hg]; exact Nat.ne_of_gt (blk_lt (g := gb239) (o := .cells #[.int .i64 a1_0, .int .i64 a1_1] 25 (0, 0)) (by (with_reducible repeat (first | refine blk_drewN ?_ _ | refine blk_drew ?_ | refine blk_alloc ?_ _)); exact BK239.out)) : gb242 ≠ gb239)); have n12_ := Aside0.mk ((by rw [hg]; exact Nat.ne_of_lt (blk_lt (g := gb240) (o := .cells #[.int .i64 a2_0, .int .i64 a2_1] 25 (0, 0)) (by (with_reducible repeat (first | refine blk_drewN ?_ _ | refine blk_drew ?_ | refine blk_alloc ?_ _)); exact BK240.out)) : gb240 ≠ gb242)); have n13_ := Aside0.mk ((by rw [hg]; exact Nat.ne_of_gt (blk_lt (g := gb240) (o := .cells #[.int .i64 a2_0, .int .i64 a2_1] 25 (0, 0)) (by (with_reducible repeat (first | refine blk_drewN ?_ _ | refine blk_drew ?_ | refine blk_alloc ?_ _)); exact BK240.out)) : gb242 ≠ gb240)); have n14_ := Aside0.mk ((by rw [hg]; exact Nat.ne_of_lt (blk_lt (g := gb241) (o := .cells #[.int .i64 a3_0, .int .i64 a3_1, .int .i64 a3_2] 54 (0, 0)) (by (with_reducible repeat (first | refine blk_drewN ?_ _ | refine blk_drew ?_ | refine blk_alloc ?_ _)); exact BK241.out)) : gb241 ≠ gb242)); have n15_ := Aside0.mk ((by rw [hg]; exact Nat.ne_of_gt (blk_lt (g := gb241) (o := .cells #[.int .i64 a3_0, .int .i64 a3_1, .int .i64 a3_2] 54 (0, 0)) (by (with_reducible repeat (first | refine blk_drewN ?_ _ | refine blk_drew ?_ | refine blk_alloc ?_ _)); exact BK241.out)) : gb242 ≠ gb241)); clear BK238; clear BK239; clear BK240; clear BK241; clear HB; have BK238 := n0_; have BK239 := n1_; have BK240 := n2_; have BK241 := n3_; have HB := n4_; have BK242 := n5_; have GW242 := n6_; have GE242 := n7_; have NB238_242 := n8_; have NB242_238 := n9_; have NB239_242 := n10_; have NB242_239 := n11_; have NB240_242 := n12_; have NB242_240 := n13_; have NB241_242 := n14_; have NB242_241 := n15_; clear n0_ n1_ n2_ n3_ n4_ n5_ n6_ n7_ n8_ n9_ n10_ n11_ n12_ n13_ n14_ n15_; clear hb hbox hg) | ((with_reducible refine gate_callee (f := 37) rfl ?_); refine goesL_ (some 23) rfl rfl Try.func37 (by kernel_rfl) rfl #[] rfl (by (try simp only [List.map_toArray, List.map_cons, List.map_nil]); first | done | rfl | (simp only [List.length_drop, List.length_take]; rfl)) ?_; (with_reducible refine (furlonglaw02_awake.calls k  true _ A6.out).mono ?_); rintro e w18 ⟨rfl, hb⟩; refine ⟨_, rfl, ?_⟩; have n0_ := Aside0.mk (blk_below (g := gb238) (o := .cells #[.int .i64 a0_0, .int .i64 a0_1] 25 (0, 0)) (by (with_reducible repeat (first | refine blk_drewN ?_ _ | refine blk_drew ?_ | refine blk_alloc ?_ _)); exact BK238.out) hb); have n1_ := Aside0.mk (blk_below (g := gb239) (o := .cells #[.int .i64 a1_0, .int .i64 a1_1] 25 (0, 0)) (by (with_reducible repeat (first | refine blk_drewN ?_ _ | refine blk_drew ?_ | refine blk_alloc ?_ _)); exact BK239.out) hb); have n2_ := Aside0.mk (blk_below (g := gb240) (o := .cells #[.int .i64 a2_0, .int .i64 a2_1] 25 (0, 0)) (by (with_reducible repeat (first | refine blk_drewN ?_ _ | refine blk_drew ?_ | refine blk_alloc ?_ _)); exact BK240.out) hb); have n3_ := Aside0.mk (blk_below (g := gb241) (o := .cells #[.int .i64 a3_0, .int .i64 a3_1, .int .i64 a3_2] 54 (0, 0)) (by (with_reducible repeat (first | refine blk_drewN ?_ _ | refine blk_drew ?_ | refine blk_alloc ?_ _)); exact BK241.out) hb); have n4_ := Aside0.mk (blk_below (g := gb242) (o := .cells #[.int .i64 a4_0, .int .i64 a4_1] 25 (0, 0)) (by (with_reducible repeat (first | refine blk_drewN ?_ _ | refine blk_drew ?_ | refine blk_alloc ?_ _)); exact BK242.out) hb); have n5_ := Aside0.mk (below_step (by repeat (first | (with_reducible first | exact HB.out | apply below_alloc | apply pw_below_drewN | apply below_drew1 | refine below_set ?_ GE238.out | refine below_set ?_ GE239.out | refine below_set ?_ GE240.out | refine below_set ?_ GE241.out | refine below_set ?_ GE242.out) | exact HB.out)) hb); clear BK238; clear BK239; clear BK240; clear BK241; clear BK242; clear HB; have BK238 := n0_; have BK239 := n1_; have BK240 := n2_; have BK241 := n3_; have BK242 := n4_; have HB := n5_; clear n0_ n1_ n2_ n3_ n4_ n5_; (try clear hb); (try clear hb2); (try clear hk); (try clear hi); have hnb19 := NB238_239.out; have hnc19 := NB239_238.out; have hnb20 := NB238_240.out; have hnc20 := NB240_238.out; have hnb21 := NB238_241.out; have hnc21 := NB241_238.out; have hnb22 := NB238_242.out; have hnc22 := NB242_238.out; have hcz23_0 : w18.cell? ⟨gb238, 0, none⟩ = some (.int .i64 a0_0) := (blk_cell BK238.out 0).trans rfl; have hcz23_1 : w18.cell? ⟨gb238, 1, none⟩ = some (.int .i64 a0_1) := (blk_cell BK238.out 1).trans rfl; have hfz23_0 := blk_frozen BK238.out 0; have hfz23_1 := blk_frozen BK238.out 1; have hnb24 := NB241_239.out; have hnc24 := NB239_241.out; have hnb25 := NB241_240.out; have hnc25 := NB240_241.out; have hnb26 := NB241_242.out; have hnc26 := NB242_241.out; have hcz27_0 : w18.cell? ⟨gb241, 0, none⟩ = some (.int .i64 a3_0) := (blk_cell BK241.out 0).trans rfl; have hcz27_1 : w18.cell? ⟨gb241, 1, none⟩ = some (.int .i64 a3_1) := (blk_cell BK241.out 1).trans rfl; have hcz27_2 : w18.cell? ⟨gb241, 2, none⟩ = some (.int .i64 a3_2) := (blk_cell BK241.out 2).trans rfl; have hfz27_0 := blk_frozen BK241.out 0; have hfz27_1 := blk_frozen BK241.out 1; have hfz27_2 := blk_frozen BK241.out 2; have hnb28 := NB239_240.out; have hnc28 := NB240_239.out; have hnb29 := NB239_242.out; have hnc29 := NB242_239.out; have hcz30_0 : w18.cell? ⟨gb239, 0, none⟩ = some (.int .i64 a1_0) := (blk_cell BK239.out 0).trans rfl; have hcz30_1 : w18.cell? ⟨gb239, 1, none⟩ = some (.int .i64 a1_1) := (blk_cell BK239.out 1).trans rfl; have hfz30_0 := blk_frozen BK239.out 0; have hfz30_1 := blk_frozen BK239.out 1; have hnb31 := NB242_240.out; have hnc31 := NB240_242.out; have hcz32_0 : w18.cell? ⟨gb242, 0, none⟩ = some (.int .i64 a4_0) := (blk_cell BK242.out 0).trans rfl; have hcz32_1 : w18.cell? ⟨gb242, 1, none⟩ = some (.int .i64 a4_1) := (blk_cell BK242.out 1).trans rfl; have hfz32_0 := blk_frozen BK242.out 0; have hfz32_1 := blk_frozen BK242.out 1) | ((with_reducible refine gate_callee (f := 51) rfl ?_); refine goesL_ (some 33) rfl rfl Try.func51 (by kernel_rfl) rfl #[.agg #[.int .i64 a0_0, .int .i64 a0_1], .int .i64 a3_0, .agg #[.int .i64 a1_0, .int .i64 a1_1], .int .i64 a3_1, .agg #[.int .i64 a4_0, .int .i64 a4_1]] rfl (by (try simp only [List.map_toArray, List.map_cons, List.map_nil]); first | done | rfl | (simp only [List.length_drop, List.length_take]; rfl)) ?_; (with_reducible refine (vec_Less.calls k a0_0 a0_1 a3_0 a1_0 a1_1 a3_1 a4_0 a4_1 t244 t245 _ A8.out).mono ?_); rintro e w33 ⟨rfl, hb⟩; refine ⟨_, rfl, ?_⟩; have n0_ := Aside0.mk (blk_below (g := gb238) (o := .cells #[.int .i64 a0_0, .int .i64 a0_1] 25 (0, 0)) (by (with_reducible repeat (first | refine blk_drewN ?_ _ | refine blk_drew ?_ | refine blk_alloc ?_ _)); exact BK238.out) hb); have n1_ := Aside0.mk (blk_below (g := gb239) (o := .cells #[.int .i64 a1_0, .int .i64 a1_1] 25 (0, 0)) (by (with_reducible repeat (first | refine blk_drewN ?_ _ | refine blk_drew ?_ | refine blk_alloc ?_ _)); exact BK239.out) hb); have n2_ := Aside0.mk (blk_below (g := gb240) (o := .cells #[.int .i64 a2_0, .int .i64 a2_1] 25 (0, 0)) (by (with_reducible repeat (first | refine blk_drewN ?_ _ | refine blk_drew ?_ | refine blk_alloc ?_ _)); exact BK240.out) hb); have n3_ := Aside0.mk (blk_below (g := gb241) (o := .cells #[.int .i64 a3_0, .int .i64 a3_1, .int .i64 a3_2] 54 (0, 0)) (by (with_reducible repeat (first | refine blk_drewN ?_ _ | refine blk_drew ?_ | refine blk_alloc ?_ _)); exact BK241.out) hb); have n4_ := Aside0.mk (blk_below (g := gb242) (o := .cells #[.int .i64 a4_0, .int .i64 a4_1] 25 (0, 0)) (by (with_reducible repeat (first | refine blk_drewN ?_ _ | refine blk_drew ?_ | refine blk_alloc ?_ _)); exact BK242.out) hb); have n5_ := Aside0.mk (below_step (by repeat (first | (with_reducible first | exact HB.out | apply below_alloc | apply pw_below_drewN | apply below_drew1 | refine below_set ?_ GE238.out | refine below_set ?_ GE239.out | refine below_set ?_ GE240.out | refine below_set ?_ GE241.out | refine below_set ?_ GE242.out) | exact HB.out)) hb); clear BK238; clear BK239; clear BK240; clear BK241; clear BK242; clear HB; have BK238 := n0_; have BK239 := n1_; have BK240 := n2_; have BK241 := n3_; have BK242 := n4_; have HB := n5_; clear n0_ n1_ n2_ n3_ n4_ n5_; (try clear hb); (try clear hb2); (try clear hk); (try clear hi); have hcz34_0 : w33.cell? ⟨gb239, 0, none⟩ = some (.int .i64 a1_0) := (blk_cell BK239.out 0).trans rfl; have hcz34_1 : w33.cell? ⟨gb239, 1, none⟩ = some (.int .i64 a1_1) := (blk_cell BK239.out 1).trans rfl; have hfz34_0 := blk_frozen BK239.out 0; have hfz34_1 := blk_frozen BK239.out 1; have hcz35_0 : w33.cell? ⟨gb241, 0, none⟩ = some (.int .i64 a3_0) := (blk_cell BK241.out 0).trans rfl; have hcz35_1 : w33.cell? ⟨gb241, 1, none⟩ = some (.int .i64 a3_1) := (blk_cell BK241.out 1).trans rfl; have hcz35_2 : w33.cell? ⟨gb241, 2, none⟩ = some (.int .i64 a3_2) := (blk_cell BK241.out 2).trans rfl; have hfz35_0 := blk_frozen BK241.out 0; have hfz35_1 := blk_frozen BK241.out 1; have hfz35_2 := blk_frozen BK241.out 2; have hcz36_0 : w33.cell? ⟨gb238, 0, none⟩ = some (.int .i64 a0_0) := (blk_cell BK238.out 0).trans rfl; have hcz36_1 : w33.cell? ⟨gb238, 1, none⟩ = some (.int .i64 a0_1) := (blk_cell BK238.out 1).trans rfl; have hfz36_0 := blk_frozen BK238.out 0; have hfz36_1 := blk_frozen BK238.out 1; have hcz37_0 : w33.cell? ⟨gb242, 0, none⟩ = some (.int .i64 a4_0) := (blk_cell BK242.out 0).trans rfl; have hcz37_1 : w33.cell? ⟨gb242, 1, none⟩ = some (.int .i64 a4_1) := (blk_cell BK242.out 1).trans rfl; have hfz37_0 := blk_frozen BK242.out 0; have hfz37_1 := blk_frozen BK242.out 1) | ((with_reducible refine gate_callee (f := 51) rfl ?_); refine goesL_ (some 44) rfl rfl Try.func51 (by kernel_rfl) rfl #[.agg #[.int .i64 a1_0, .int .i64 a1_1], .int .i64 a3_1, .agg #[.int .i64 a0_0, .int .i64 a0_1], .int .i64 a3_0, .agg #[.int .i64 a4_0, .int .i64 a4_1]] rfl (by (try simp only [List.map_toArray, List.map_cons, List.map_nil]); first | done | rfl | (simp only [List.length_drop, List.length_take]; rfl)) ?_; (with_reducible refine (vec_Less.calls k a1_0 a1_1 a3_1 a0_0 a0_1 a3_0 a4_0 a4_1 t246 t247 _ A9.out).mono ?_); rintro e w38 ⟨rfl, hb⟩; refine ⟨_, rfl, ?_⟩; have n0_ := Aside0.mk (blk_below (g := gb238) (o := .cells #[.int .i64 a0_0, .int .i64 a0_1] 25 (0, 0)) (by (with_reducible repeat (first | refine blk_drewN ?_ _ | refine blk_drew ?_ | refine blk_alloc ?_ _)); exact BK238.out) hb); have n1_ := Aside0.mk (blk_below (g := gb239) (o := .cells #[.int .i64 a1_0, .int .i64 a1_1] 25 (0, 0)) (by (with_reducible repeat (first | refine blk_drewN ?_ _ | refine blk_drew ?_ | refine blk_alloc ?_ _)); exact BK239.out) hb); have n2_ := Aside0.mk (blk_below (g := gb240) (o := .cells #[.int .i64 a2_0, .int .i64 a2_1] 25 (0, 0)) (by (with_reducible repeat (first | refine blk_drewN ?_ _ | refine blk_drew ?_ | refine blk_alloc ?_ _)); exact BK240.out) hb); have n3_ := Aside0.mk (blk_below (g := gb241) (o := .cells #[.int .i64 a3_0, .int .i64 a3_1, .int .i64 a3_2] 54 (0, 0)) (by (with_reducible repeat (first | refine blk_drewN ?_ _ | refine blk_drew ?_ | refine blk_alloc ?_ _)); exact BK241.out) hb); have n4_ := Aside0.mk (blk_below (g := gb242) (o := .cells #[.int .i64 a4_0, .int .i64 a4_1] 25 (0, 0)) (by (with_reducible repeat (first | refine blk_drewN ?_ _ | refine blk_drew ?_ | refine blk_alloc ?_ _)); exact BK242.out) hb); have n5_ := Aside0.mk (below_step (by repeat (first | (with_reducible first | exact HB.out | apply below_alloc | apply pw_below_drewN | apply below_drew1 | refine below_set ?_ GE238.out | refine below_set ?_ GE239.out | refine below_set ?_ GE240.out | refine below_set ?_ GE241.out | refine below_set ?_ GE242.out) | exact HB.out)) hb); clear BK238; clear BK239; clear BK240; clear BK241; clear BK242; clear HB; have BK238 := n0_; have BK239 := n1_; have BK240 := n2_; have BK241 := n3_; have BK242 := n4_; have HB := n5_; clear n0_ n1_ n2_ n3_ n4_ n5_; (try clear hb); (try clear hb2); (try clear hk); (try clear hi); have hcz39_0 : w38.cell? ⟨gb239, 0, none⟩ = some (.int .i64 a1_0) := (blk_cell BK239.out 0).trans rfl; have hcz39_1 : w38.cell? ⟨gb239, 1, none⟩ = some (.int .i64 a1_1) := (blk_cell BK239.out 1).trans rfl; have hfz39_0 := blk_frozen BK239.out 0; have hfz39_1 := blk_frozen BK239.out 1; have hcz40_0 : w38.cell? ⟨gb241, 0, none⟩ = some (.int .i64 a3_0) := (blk_cell BK241.out 0).trans rfl; have hcz40_1 : w38.cell? ⟨gb241, 1, none⟩ = some (.int .i64 a3_1) := (blk_cell BK241.out 1).trans rfl; have hcz40_2 : w38.cell? ⟨gb241, 2, none⟩ = some (.int .i64 a3_2) := (blk_cell BK241.out 2).trans rfl; have hfz40_0 := blk_frozen BK241.out 0; have hfz40_1 := blk_frozen BK241.out 1; have hfz40_2 := blk_frozen BK241.out 2; have hcz41_0 : w38.cell? ⟨gb240, 0, none⟩ = some (.int .i64 a2_0) := (blk_cell BK240.out 0).trans rfl; have hcz41_1 : w38.cell? ⟨gb240, 1, none⟩ = some (.int .i64 a2_1) := (blk_cell BK240.out 1).trans rfl; have hfz41_0 := blk_frozen BK240.out 0; have hfz41_1 := blk_frozen BK240.out 1; have hcz42_0 : w38.cell? ⟨gb242, 0, none⟩ = some (.int .i64 a4_0) := (blk_cell BK242.out 0).trans rfl; have hcz42_1 : w38.cell? ⟨gb242, 1, none⟩ = some (.int .i64 a4_1) := (blk_cell BK242.out 1).trans rfl; have hfz42_0 := blk_frozen BK242.out 0; have hfz42_1 := blk_frozen BK242.out 1) | ((with_reducible refine gate_callee (f := 51) rfl ?_); refine goesL_ (some 55) rfl rfl Try.func51 (by kernel_rfl) rfl #[.agg #[.int .i64 a1_0, .int .i64 a1_1], .int .i64 a3_1, .agg #[.int .i64 a2_0, .int .i64 a2_1], .int .i64 a3_2, .agg #[.int .i64 a4_0, .int .i64 a4_1]] rfl (by (try simp only [List.map_toArray, List.map_cons, List.map_nil]); first | done | rfl | (simp only [List.length_drop, List.length_take]; rfl)) ?_; (with_reducible refine (vec_Less.calls k a1_0 a1_1 a3_1 a2_0 a2_1 a3_2 a4_0 a4_1 t248 t249 _ A10.out).mono ?_); rintro e w43 ⟨rfl, hb⟩; refine ⟨_, rfl, ?_⟩; have n0_ := Aside0.mk (blk_below (g := gb238) (o := .cells #[.int .i64 a0_0, .int .i64 a0_1] 25 (0, 0)) (by (with_reducible repeat (first | refine blk_drewN ?_ _ | refine blk_drew ?_ | refine blk_alloc ?_ _)); exact BK238.out) hb); have n1_ := Aside0.mk (blk_below (g := gb239) (o := .cells #[.int .i64 a1_0, .int .i64 a1_1] 25 (0, 0)) (by (with_reducible repeat (first | refine blk_drewN ?_ _ | refine blk_drew ?_ | refine blk_alloc ?_ _)); exact BK239.out) hb); have n2_ := Aside0.mk (blk_below (g := gb240) (o := .cells #[.int .i64 a2_0, .int .i64 a2_1] 25 (0, 0)) (by (with_reducible repeat (first | refine blk_drewN ?_ _ | refine blk_drew ?_ | refine blk_alloc ?_ _)); exact BK240.out) hb); have n3_ := Aside0.mk (blk_below (g := gb241) (o := .cells #[.int .i64 a3_0, .int .i64 a3_1, .int .i64 a3_2] 54 (0, 0)) (by (with_reducible repeat (first | refine blk_drewN ?_ _ | refine blk_drew ?_ | refine blk_alloc ?_ _)); exact BK241.out) hb); have n4_ := Aside0.mk (blk_below (g := gb242) (o := .cells #[.int .i64 a4_0, .int .i64 a4_1] 25 (0, 0)) (by (with_reducible repeat (first | refine blk_drewN ?_ _ | refine blk_drew ?_ | refine blk_alloc ?_ _)); exact BK242.out) hb); have n5_ := Aside0.mk (below_step (by repeat (first | (with_reducible first | exact HB.out | apply below_alloc | apply pw_below_drewN | apply below_drew1 | refine below_set ?_ GE238.out | refine below_set ?_ GE239.out | refine below_set ?_ GE240.out | refine below_set ?_ GE241.out | refine below_set ?_ GE242.out) | exact HB.out)) hb); clear BK238; clear BK239; clear BK240; clear BK241; clear BK242; clear HB; have BK238 := n0_; have BK239 := n1_; have BK240 := n2_; have BK241 := n3_; have BK242 := n4_; have HB := n5_; clear n0_ n1_ n2_ n3_ n4_ n5_; (try clear hb); (try clear hb2); (try clear hk); (try clear hi); have hcz44_0 : w43.cell? ⟨gb238, 0, none⟩ = some (.int .i64 a0_0) := (blk_cell BK238.out 0).trans rfl; have hcz44_1 : w43.cell? ⟨gb238, 1, none⟩ = some (.int .i64 a0_1) := (blk_cell BK238.out 1).trans rfl; have hfz44_0 := blk_frozen BK238.out 0; have hfz44_1 := blk_frozen BK238.out 1; have hcz45_0 : w43.cell? ⟨gb241, 0, none⟩ = some (.int .i64 a3_0) := (blk_cell BK241.out 0).trans rfl; have hcz45_1 : w43.cell? ⟨gb241, 1, none⟩ = some (.int .i64 a3_1) := (blk_cell BK241.out 1).trans rfl; have hcz45_2 : w43.cell? ⟨gb241, 2, none⟩ = some (.int .i64 a3_2) := (blk_cell BK241.out 2).trans rfl; have hfz45_0 := blk_frozen BK241.out 0; have hfz45_1 := blk_frozen BK241.out 1; have hfz45_2 := blk_frozen BK241.out 2; have hcz46_0 : w43.cell? ⟨gb240, 0, none⟩ = some (.int .i64 a2_0) := (blk_cell BK240.out 0).trans rfl; have hcz46_1 : w43.cell? ⟨gb240, 1, none⟩ = some (.int .i64 a2_1) := (blk_cell BK240.out 1).trans rfl; have hfz46_0 := blk_frozen BK240.out 0; have hfz46_1 := blk_frozen BK240.out 1; have hcz47_0 : w43.cell? ⟨gb242, 0, none⟩ = some (.int .i64 a4_0) := (blk_cell BK242.out 0).trans rfl; have hcz47_1 : w43.cell? ⟨gb242, 1, none⟩ = some (.int .i64 a4_1) := (blk_cell BK242.out 1).trans rfl; have hfz47_0 := blk_frozen BK242.out 0; have hfz47_1 := blk_frozen BK242.out 1) | ((with_reducible refine gate_callee (f := 51) rfl ?_); refine goesL_ (some 66) rfl rfl Try.func51 (by kernel_rfl) rfl #[.agg #[.int .i64 a0_0, .int .i64 a0_1], .int .i64 a3_0, .agg #[.int .i64 a2_0, .int .i64 a2_1], .int .i64 a3_2, .agg #[.int .i64 a4_0, .int .i64 a4_1]] rfl (by (try simp only [List.map_toArray, List.map_cons, List.map_nil]); first | done | rfl | (simp only [List.length_drop, List.length_take]; rfl)) ?_; (with_reducible refine (vec_Less.calls k a0_0 a0_1 a3_0 a2_0 a2_1 a3_2 a4_0 a4_1 t250 t251 _ A11.out).mono ?_); rintro e w48 ⟨rfl, hb⟩; refine ⟨_, rfl, ?_⟩; have n0_ := Aside0.mk (blk_below (g := gb238) (o := .cells #[.int .i64 a0_0, .int .i64 a0_1] 25 (0, 0)) (by (with_reducible repeat (first | refine blk_drewN ?_ _ | refine blk_drew ?_ | refine blk_alloc ?_ _)); exact BK238.out) hb); have n1_ := Aside0.mk (blk_below (g := gb239) (o := .cells #[.int .i64 a1_0, .int .i64 a1_1] 25 (0, 0)) (by (with_reducible repeat (first | refine blk_drewN ?_ _ | refine blk_drew ?_ | refine blk_alloc ?_ _)); exact BK239.out) hb); have n2_ := Aside0.mk (blk_below (g := gb240) (o := .cells #[.int .i64 a2_0, .int .i64 a2_1] 25 (0, 0)) (by (with_reducible repeat (first | refine blk_drewN ?_ _ | refine blk_drew ?_ | refine blk_alloc ?_ _)); exact BK240.out) hb); have n3_ := Aside0.mk (blk_below (g := gb241) (o := .cells #[.int .i64 a3_0, .int .i64 a3_1, .int .i64 a3_2] 54 (0, 0)) (by (with_reducible repeat (first | refine blk_drewN ?_ _ | refine blk_drew ?_ | refine blk_alloc ?_ _)); exact BK241.out) hb); have n4_ := Aside0.mk (blk_below (g := gb242) (o := .cells #[.int .i64 a4_0, .int .i64 a4_1] 25 (0, 0)) (by (with_reducible repeat (first | refine blk_drewN ?_ _ | refine blk_drew ?_ | refine blk_alloc ?_ _)); exact BK242.out) hb); have n5_ := Aside0.mk (below_step (by repeat (first | (with_reducible first | exact HB.out | apply below_alloc | apply pw_below_drewN | apply below_drew1 | refine below_set ?_ GE238.out | refine below_set ?_ GE239.out | refine below_set ?_ GE240.out | refine below_set ?_ GE241.out | refine below_set ?_ GE242.out) | exact HB.out)) hb); clear BK238; clear BK239; clear BK240; clear BK241; clear BK242; clear HB; have BK238 := n0_; have BK239 := n1_; have BK240 := n2_; have BK241 := n3_; have BK242 := n4_; have HB := n5_; clear n0_ n1_ n2_ n3_ n4_ n5_; (try clear hb); (try clear hb2); (try clear hk); (try clear hi)))
    (try simp only [Act.put, List.setIfInBounds_toArray, List.set_cons_zero, List.set_cons_succ])
    go_cut [82] (fun v82 wc => ∃ (kq : Nat) (x82_11 : Bool), v82 = .bool x82_11 ∧ Aside0 (furlonglaw02_VecTurns.j0 kq t244 t245 t246 t247 t248 t249 t250 t251 x82_11 a0_0 a0_1 a1_0 a1_1 a3_0 a3_1 a3_2 a4_0 a4_1 = some r) ∧ Aside0 (kq ≤ k) ∧ Aside0 (wc.heap[gb238]? = some (.cells #[.int .i64 a0_0, .int .i64 a0_1] 25 (0, 0))) ∧ Aside0 (wc.heap[gb239]? = some (.cells #[.int .i64 a1_0, .int .i64 a1_1] 25 (0, 0))) ∧ Aside0 (wc.heap[gb240]? = some (.cells #[.int .i64 a2_0, .int .i64 a2_1] 25 (0, 0))) ∧ Aside0 (wc.heap[gb241]? = some (.cells #[.int .i64 a3_0, .int .i64 a3_1, .int .i64 a3_2] 54 (0, 0))) ∧ Aside0 (wc.heap[gb242]? = some (.cells #[.int .i64 a4_0, .int .i64 a4_1] 25 (0, 0))) ∧ Aside0 (Below w.heap.size w wc))
    case first =>
      have H := HC12.out
      clear HC12
      by_cases c49 : t245 = 0
      · rw [if_pos c49] at H
        have c49b0 : (t245 == 0) = true := beq_iff_eq.mpr c49
        have c49b1 : (t245 != 0) = false := bne_eq_false_iff_eq.mpr c49
        clear c49
        (first | rw [c49b0] | (simp only [i64_w, i32_w]; rw [c49b0]) | skip)
        by_cases c50 : t247 = 0
        · rw [if_pos c50] at H
          have c50b0 : (t247 == 0) = true := beq_iff_eq.mpr c50
          have c50b1 : (t247 != 0) = false := bne_eq_false_iff_eq.mpr c50
          clear c50
          by_cases c51 : t249 = 0
          · rw [if_pos c51] at H
            have c51b0 : (t249 == 0) = true := beq_iff_eq.mpr c51
            have c51b1 : (t249 != 0) = false := bne_eq_false_iff_eq.mpr c51
            clear c51
            have H' := Aside0.mk H
            clear H
            go_wp2
            go_meet
            case rel => exact ⟨_, ((t251 != 0)), (by first | rfl | (simp; done) | (simp [*]; done)), H', ⟨by first | omega | exact Nat.le_refl _⟩, ⟨by (with_reducible repeat (first | refine blk_drewN ?_ _ | refine blk_drew ?_ | refine blk_alloc ?_ _)); exact BK238.out⟩, ⟨by (with_reducible repeat (first | refine blk_drewN ?_ _ | refine blk_drew ?_ | refine blk_alloc ?_ _)); exact BK239.out⟩, ⟨by (with_reducible repeat (first | refine blk_drewN ?_ _ | refine blk_drew ?_ | refine blk_alloc ?_ _)); exact BK240.out⟩, ⟨by (with_reducible repeat (first | refine blk_drewN ?_ _ | refine blk_drew ?_ | refine blk_alloc ?_ _)); exact BK241.out⟩, ⟨by (with_reducible repeat (first | refine blk_drewN ?_ _ | refine blk_drew ?_ | refine blk_alloc ?_ _)); exact BK242.out⟩, ⟨by repeat (first | (with_reducible first | exact HB.out | apply below_alloc | apply pw_below_drewN | apply below_drew1 | refine below_set ?_ GE238.out | refine below_set ?_ GE239.out | refine below_set ?_ GE240.out | refine below_set ?_ GE241.out | refine below_set ?_ GE242.out) | exact HB.out)⟩⟩
          · rw [if_neg c51] at H
            have c51b0 : (t249 == 0) = false := beq_eq_false_iff_ne.mpr c51
            have c51b1 : (t249 != 0) = true := bne_iff_ne.mpr c51
            have H' := Aside0.mk H
            clear H
            go_wp2
            go_meet
            case rel => exact ⟨_, (true), (by first | rfl | (simp; done) | (simp [*]; done)), H', ⟨by first | omega | exact Nat.le_refl _⟩, ⟨by (with_reducible repeat (first | refine blk_drewN ?_ _ | refine blk_drew ?_ | refine blk_alloc ?_ _)); exact BK238.out⟩, ⟨by (with_reducible repeat (first | refine blk_drewN ?_ _ | refine blk_drew ?_ | refine blk_alloc ?_ _)); exact BK239.out⟩, ⟨by (with_reducible repeat (first | refine blk_drewN ?_ _ | refine blk_drew ?_ | refine blk_alloc ?_ _)); exact BK240.out⟩, ⟨by (with_reducible repeat (first | refine blk_drewN ?_ _ | refine blk_drew ?_ | refine blk_alloc ?_ _)); exact BK241.out⟩, ⟨by (with_reducible repeat (first | refine blk_drewN ?_ _ | refine blk_drew ?_ | refine blk_alloc ?_ _)); exact BK242.out⟩, ⟨by repeat (first | (with_reducible first | exact HB.out | apply below_alloc | apply pw_below_drewN | apply below_drew1 | refine below_set ?_ GE238.out | refine below_set ?_ GE239.out | refine below_set ?_ GE240.out | refine below_set ?_ GE241.out | refine below_set ?_ GE242.out) | exact HB.out)⟩⟩
        · rw [if_neg c50] at H
          have c50b0 : (t247 == 0) = false := beq_eq_false_iff_ne.mpr c50
          have c50b1 : (t247 != 0) = true := bne_iff_ne.mpr c50
          have H' := Aside0.mk H
          clear H
          go_wp2
          go_meet
          case rel => exact ⟨_, (true), (by first | rfl | (simp; done) | (simp [*]; done)), H', ⟨by first | omega | exact Nat.le_refl _⟩, ⟨by (with_reducible repeat (first | refine blk_drewN ?_ _ | refine blk_drew ?_ | refine blk_alloc ?_ _)); exact BK238.out⟩, ⟨by (with_reducible repeat (first | refine blk_drewN ?_ _ | refine blk_drew ?_ | refine blk_alloc ?_ _)); exact BK239.out⟩, ⟨by (with_reducible repeat (first | refine blk_drewN ?_ _ | refine blk_drew ?_ | refine blk_alloc ?_ _)); exact BK240.out⟩, ⟨by (with_reducible repeat (first | refine blk_drewN ?_ _ | refine blk_drew ?_ | refine blk_alloc ?_ _)); exact BK241.out⟩, ⟨by (with_reducible repeat (first | refine blk_drewN ?_ _ | refine blk_drew ?_ | refine blk_alloc ?_ _)); exact BK242.out⟩, ⟨by repeat (first | (with_reducible first | exact HB.out | apply below_alloc | apply pw_below_drewN | apply below_drew1 | refine below_set ?_ GE238.out | refine below_set ?_ GE239.out | refine below_set ?_ GE240.out | refine below_set ?_ GE241.out | refine below_set ?_ GE242.out) | exact HB.out)⟩⟩
      · rw [if_neg c49] at H
        have c49b0 : (t245 == 0) = false := beq_eq_false_iff_ne.mpr c49
        have c49b1 : (t245 != 0) = true := bne_iff_ne.mpr c49
        (first | rw [c49b0] | (simp only [i64_w, i32_w]; rw [c49b0]) | skip)
        have H' := Aside0.mk H
        clear H
        go_wp2
        go_meet
        case rel => exact ⟨_, (true), (by first | rfl | (simp; done) | (simp [*]; done)), H', ⟨by first | omega | exact Nat.le_refl _⟩, ⟨by (with_reducible repeat (first | refine blk_drewN ?_ _ | refine blk_drew ?_ | refine blk_alloc ?_ _)); exact BK238.out⟩, ⟨by (with_reducible repeat (first | refine blk_drewN ?_ _ | refine blk_drew ?_ | refine blk_alloc ?_ _)); exact BK239.out⟩, ⟨by (with_reducible repeat (first | refine blk_drewN ?_ _ | refine blk_drew ?_ | refine blk_alloc ?_ _)); exact BK240.out⟩, ⟨by (with_reducible repeat (first | refine blk_drewN ?_ _ | refine blk_drew ?_ | refine blk_alloc ?_ _)); exact BK241.out⟩, ⟨by (with_reducible repeat (first | refine blk_drewN ?_ _ | refine blk_drew ?_ | refine blk_alloc ?_ _)); exact BK242.out⟩, ⟨by repeat (first | (with_reducible first | exact HB.out | apply below_alloc | apply pw_below_drewN | apply below_drew1 | refine below_set ?_ GE238.out | refine below_set ?_ GE239.out | refine below_set ?_ GE240.out | refine below_set ?_ GE241.out | refine below_set ?_ GE242.out) | exact HB.out)⟩⟩
    case rest =>
      clear HC12
      try clear c1
      try clear c2
      try clear p2
      try clear c3
      try clear c4
      try clear c5
      try clear c7
      try clear c12
      try clear c19
      try clear c20
      try clear c21
      try clear c22
      try clear c24
      try clear c25
      try clear c26
      try clear c28
      try clear c29
      try clear c31
      try clear c37
      try clear c49
      try clear c49b0
      try clear c49b1
      try clear c50
      try clear c50b0
      try clear c50b1
      try clear c51
      try clear c51b0
      try clear c51b1
      try clear hcz23_0
      try clear hcz23_1
      try clear hcz27_0
      try clear hcz27_1
      try clear hcz27_2
      try clear hcz30_0
      try clear hcz30_1
      try clear hcz32_0
      try clear hcz32_1
      try clear hcz34_0
      try clear hcz34_1
      try clear hcz35_0
      try clear hcz35_1
      try clear hcz35_2
      try clear hcz36_0
      try clear hcz36_1
      try clear hcz37_0
      try clear hcz37_1
      try clear hcz39_0
      try clear hcz39_1
      try clear hcz40_0
      try clear hcz40_1
      try clear hcz40_2
      try clear hcz41_0
      try clear hcz41_1
      try clear hcz42_0
      try clear hcz42_1
      try clear hcz44_0
      try clear hcz44_1
      try clear hcz45_0
      try clear hcz45_1
      try clear hcz45_2
      try clear hcz46_0
      try clear hcz46_1
      try clear hcz47_0
      try clear hcz47_1
      try clear hfz23_0
      try clear hfz23_1
      try clear hfz27_0
      try clear hfz27_1
      try clear hfz27_2
      try clear hfz30_0
      try clear hfz30_1
      try clear hfz32_0
      try clear hfz32_1
      try clear hfz34_0
      try clear hfz34_1
      try clear hfz35_0
      try clear hfz35_1
      try clear hfz35_2
      try clear hfz36_0
      try clear hfz36_1
      try clear hfz37_0
      try clear hfz37_1
      try clear hfz39_0
      try clear hfz39_1
      try clear hfz40_0
      try clear hfz40_1
      try clear hfz40_2
      try clear hfz41_0
      try clear hfz41_1
      try clear hfz42_0
      try clear hfz42_1
      try clear hfz44_0
      try clear hfz44_1
      try clear hfz45_0
      try clear hfz45_1
      try clear hfz45_2
      try clear hfz46_0
      try clear hfz46_1
      try clear hfz47_0
      try clear hfz47_1
      obtain ⟨kq, x82_11, rfl, HA, HJ11, BK238, BK239, BK240, BK241, BK242, HB⟩ := hcut
      cases kq with
      | zero => exact absurd HA.out (by simp [furlonglaw02_VecTurns.j0])
      | succ kj11 =>
        have H := HA.out
        clear HA
        simp only [furlonglaw02_VecTurns.j0] at H
        by_cases c52 : x82_11 = true
        · subst c52
          have H1 : (if t245 = 0 then (if t249 = 0 then (some (t251 != 0)) else (some true)) else (if t247 = 0 then (if t249 = 0 then (some (t251 != 0)) else (some true)) else (some true))) = some r := by rw [if_pos rfl] at H; exact H
          clear H
          have H := H1
          clear H1
          by_cases c53 : t245 = 0
          · rw [if_pos c53] at H
            have c53b0 : (t245 == 0) = true := beq_iff_eq.mpr c53
            have c53b1 : (t245 != 0) = false := bne_eq_false_iff_eq.mpr c53
            clear c53
            by_cases c54 : t249 = 0
            · rw [if_pos c54] at H
              have c54b0 : (t249 == 0) = true := beq_iff_eq.mpr c54
              have c54b1 : (t249 != 0) = false := bne_eq_false_iff_eq.mpr c54
              clear c54
              obtain rfl := Option.some.inj H
              go_wp2
              go_ret
              exact ⟨by first | rfl | (simp [errW_none, errW_some] <;> rfl) | (simp [*, errW_none, errW_some] <;> rfl), by repeat (first | (with_reducible first | exact HB.out | apply below_alloc | apply pw_below_drewN | apply below_drew1 | refine below_set ?_ GE238.out | refine below_set ?_ GE239.out | refine below_set ?_ GE240.out | refine below_set ?_ GE241.out | refine below_set ?_ GE242.out) | exact HB.out)⟩
            · rw [if_neg c54] at H
              have c54b0 : (t249 == 0) = false := beq_eq_false_iff_ne.mpr c54
              have c54b1 : (t249 != 0) = true := bne_iff_ne.mpr c54
              obtain rfl := Option.some.inj H
              go_wp2
              go_ret
              exact ⟨by first | rfl | (simp [errW_none, errW_some] <;> rfl) | (simp [*, errW_none, errW_some] <;> rfl), by repeat (first | (with_reducible first | exact HB.out | apply below_alloc | apply pw_below_drewN | apply below_drew1 | refine below_set ?_ GE238.out | refine below_set ?_ GE239.out | refine below_set ?_ GE240.out | refine below_set ?_ GE241.out | refine below_set ?_ GE242.out) | exact HB.out)⟩
          · rw [if_neg c53] at H
            have c53b0 : (t245 == 0) = false := beq_eq_false_iff_ne.mpr c53
            have c53b1 : (t245 != 0) = true := bne_iff_ne.mpr c53
            by_cases c55 : t247 = 0
            · rw [if_pos c55] at H
              have c55b0 : (t247 == 0) = true := beq_iff_eq.mpr c55
              have c55b1 : (t247 != 0) = false := bne_eq_false_iff_eq.mpr c55
              clear c55
              by_cases c56 : t249 = 0
              · rw [if_pos c56] at H
                have c56b0 : (t249 == 0) = true := beq_iff_eq.mpr c56
                have c56b1 : (t249 != 0) = false := bne_eq_false_iff_eq.mpr c56
                clear c56
                obtain rfl := Option.some.inj H
                go_wp2
                go_ret
                exact ⟨by first | rfl | (simp [errW_none, errW_some] <;> rfl) | (simp [*, errW_none, errW_some] <;> rfl), by repeat (first | (with_reducible first | exact HB.out | apply below_alloc | apply pw_below_drewN | apply below_drew1 | refine below_set ?_ GE238.out | refine below_set ?_ GE239.out | refine below_set ?_ GE240.out | refine below_set ?_ GE241.out | refine below_set ?_ GE242.out) | exact HB.out)⟩
              · rw [if_neg c56] at H
                have c56b0 : (t249 == 0) = false := beq_eq_false_iff_ne.mpr c56
                have c56b1 : (t249 != 0) = true := bne_iff_ne.mpr c56
                obtain rfl := Option.some.inj H
                go_wp2
                go_ret
                exact ⟨by first | rfl | (simp [errW_none, errW_some] <;> rfl) | (simp [*, errW_none, errW_some] <;> rfl), by repeat (first | (with_reducible first | exact HB.out | apply below_alloc | apply pw_below_drewN | apply below_drew1 | refine below_set ?_ GE238.out | refine below_set ?_ GE239.out | refine below_set ?_ GE240.out | refine below_set ?_ GE241.out | refine below_set ?_ GE242.out) | exact HB.out)⟩
            · rw [if_neg c55] at H
              have c55b0 : (t247 == 0) = false := beq_eq_false_iff_ne.mpr c55
              have c55b1 : (t247 != 0) = true := bne_iff_ne.mpr c55
              obtain rfl := Option.some.inj H
              go_wp2
              go_ret
              exact ⟨by first | rfl | (simp [errW_none, errW_some] <;> rfl) | (simp [*, errW_none, errW_some] <;> rfl), by repeat (first | (with_reducible first | exact HB.out | apply below_alloc | apply pw_below_drewN | apply below_drew1 | refine below_set ?_ GE238.out | refine below_set ?_ GE239.out | refine below_set ?_ GE240.out | refine below_set ?_ GE241.out | refine below_set ?_ GE242.out) | exact HB.out)⟩
        · replace c52 := Bool.eq_false_iff.mpr c52
          subst c52
          have H1 : (if t244 = (wrap64 (-t246)) then (if t244 ≤ 0 then (if t248 ≤ 0 then (furlonglaw02_VecTurns.j1 kj11 (decide (t250 > 0)) a0_0 a0_1 a1_0 a1_1 a3_0 a3_1 a3_2 a4_0 a4_1) else (furlonglaw02_VecTurns.j1 kj11 false a0_0 a0_1 a1_0 a1_1 a3_0 a3_1 a3_2 a4_0 a4_1)) else (furlonglaw02_VecTurns.j1 kj11 false a0_0 a0_1 a1_0 a1_1 a3_0 a3_1 a3_2 a4_0 a4_1)) else (furlonglaw02_VecTurns.j1 kj11 true a0_0 a0_1 a1_0 a1_1 a3_0 a3_1 a3_2 a4_0 a4_1)) = some r := by rw [if_neg (show ¬ (false = true) by decide)] at H; exact H
          clear H
          have H := H1
          clear H1
          have HC57 := Aside0.mk H
          clear H
          go_upto_region 9 with (fail)
          go_cut [112] (fun v112 wc => ∃ (kq : Nat) (x112_56 : Bool), v112 = .bool x112_56 ∧ Aside0 (furlonglaw02_VecTurns.j1 kq x112_56 a0_0 a0_1 a1_0 a1_1 a3_0 a3_1 a3_2 a4_0 a4_1 = some r) ∧ Aside0 (kq ≤ kj11) ∧ Aside0 (wc.heap[gb238]? = some (.cells #[.int .i64 a0_0, .int .i64 a0_1] 25 (0, 0))) ∧ Aside0 (wc.heap[gb239]? = some (.cells #[.int .i64 a1_0, .int .i64 a1_1] 25 (0, 0))) ∧ Aside0 (wc.heap[gb240]? = some (.cells #[.int .i64 a2_0, .int .i64 a2_1] 25 (0, 0))) ∧ Aside0 (wc.heap[gb241]? = some (.cells #[.int .i64 a3_0, .int .i64 a3_1, .int .i64 a3_2] 54 (0, 0))) ∧ Aside0 (wc.heap[gb242]? = some (.cells #[.int .i64 a4_0, .int .i64 a4_1] 25 (0, 0))) ∧ Aside0 (Below w.heap.size w wc))
          case first =>
            have H := HC57.out
            clear HC57
            by_cases c58 : t244 = (wrap64 (-t246))
            · rw [if_pos c58] at H
              have c58b0 : (t244 == (wrap64 (-t246))) = true := beq_iff_eq.mpr c58
              have c58b1 : (t244 != (wrap64 (-t246))) = false := bne_eq_false_iff_eq.mpr c58
              clear c58
              (first | rw [c58b0] | (simp only [i64_w, i32_w]; rw [c58b0]) | skip)
              by_cases c59 : t244 ≤ 0
              · rw [if_pos c59] at H
                have c59b0 : decide (t244 ≤ 0) = true := decide_eq_true c59
                clear c59
                by_cases c60 : t248 ≤ 0
                · rw [if_pos c60] at H
                  have c60b0 : decide (t248 ≤ 0) = true := decide_eq_true c60
                  clear c60
                  have H' := Aside0.mk H
                  clear H
                  go_wp2
                  go_meet
                  case rel => exact ⟨_, (decide (t250 > 0)), (by first | rfl | (simp; done) | (simp [*]; done)), H', ⟨by have := HJ11.out; first | omega | exact Nat.le_refl _⟩, ⟨by (with_reducible repeat (first | refine blk_drewN ?_ _ | refine blk_drew ?_ | refine blk_alloc ?_ _)); exact BK238.out⟩, ⟨by (with_reducible repeat (first | refine blk_drewN ?_ _ | refine blk_drew ?_ | refine blk_alloc ?_ _)); exact BK239.out⟩, ⟨by (with_reducible repeat (first | refine blk_drewN ?_ _ | refine blk_drew ?_ | refine blk_alloc ?_ _)); exact BK240.out⟩, ⟨by (with_reducible repeat (first | refine blk_drewN ?_ _ | refine blk_drew ?_ | refine blk_alloc ?_ _)); exact BK241.out⟩, ⟨by (with_reducible repeat (first | refine blk_drewN ?_ _ | refine blk_drew ?_ | refine blk_alloc ?_ _)); exact BK242.out⟩, ⟨by repeat (first | (with_reducible first | exact HB.out | apply below_alloc | apply pw_below_drewN | apply below_drew1 | refine below_set ?_ GE238.out | refine below_set ?_ GE239.out | refine below_set ?_ GE240.out | refine below_set ?_ GE241.out | refine below_set ?_ GE242.out) | exact HB.out)⟩⟩
                · rw [if_neg c60] at H
                  have c60b0 : decide (t248 ≤ 0) = false := decide_eq_false c60
                  clear c60
                  have H' := Aside0.mk H
                  clear H
                  go_wp2
                  go_meet
                  case rel => exact ⟨_, (false), (by first | rfl | (simp; done) | (simp [*]; done)), H', ⟨by have := HJ11.out; first | omega | exact Nat.le_refl _⟩, ⟨by (with_reducible repeat (first | refine blk_drewN ?_ _ | refine blk_drew ?_ | refine blk_alloc ?_ _)); exact BK238.out⟩, ⟨by (with_reducible repeat (first | refine blk_drewN ?_ _ | refine blk_drew ?_ | refine blk_alloc ?_ _)); exact BK239.out⟩, ⟨by (with_reducible repeat (first | refine blk_drewN ?_ _ | refine blk_drew ?_ | refine blk_alloc ?_ _)); exact BK240.out⟩, ⟨by (with_reducible repeat (first | refine blk_drewN ?_ _ | refine blk_drew ?_ | refine blk_alloc ?_ _)); exact BK241.out⟩, ⟨by (with_reducible repeat (first | refine blk_drewN ?_ _ | refine blk_drew ?_ | refine blk_alloc ?_ _)); exact BK242.out⟩, ⟨by repeat (first | (with_reducible first | exact HB.out | apply below_alloc | apply pw_below_drewN | apply below_drew1 | refine below_set ?_ GE238.out | refine below_set ?_ GE239.out | refine below_set ?_ GE240.out | refine below_set ?_ GE241.out | refine below_set ?_ GE242.out) | exact HB.out)⟩⟩
              · rw [if_neg c59] at H
                have c59b0 : decide (t244 ≤ 0) = false := decide_eq_false c59
                clear c59
                have H' := Aside0.mk H
                clear H
                go_wp2
                go_meet
                case rel => exact ⟨_, (false), (by first | rfl | (simp; done) | (simp [*]; done)), H', ⟨by have := HJ11.out; first | omega | exact Nat.le_refl _⟩, ⟨by (with_reducible repeat (first | refine blk_drewN ?_ _ | refine blk_drew ?_ | refine blk_alloc ?_ _)); exact BK238.out⟩, ⟨by (with_reducible repeat (first | refine blk_drewN ?_ _ | refine blk_drew ?_ | refine blk_alloc ?_ _)); exact BK239.out⟩, ⟨by (with_reducible repeat (first | refine blk_drewN ?_ _ | refine blk_drew ?_ | refine blk_alloc ?_ _)); exact BK240.out⟩, ⟨by (with_reducible repeat (first | refine blk_drewN ?_ _ | refine blk_drew ?_ | refine blk_alloc ?_ _)); exact BK241.out⟩, ⟨by (with_reducible repeat (first | refine blk_drewN ?_ _ | refine blk_drew ?_ | refine blk_alloc ?_ _)); exact BK242.out⟩, ⟨by repeat (first | (with_reducible first | exact HB.out | apply below_alloc | apply pw_below_drewN | apply below_drew1 | refine below_set ?_ GE238.out | refine below_set ?_ GE239.out | refine below_set ?_ GE240.out | refine below_set ?_ GE241.out | refine below_set ?_ GE242.out) | exact HB.out)⟩⟩
            · rw [if_neg c58] at H
              have c58b0 : (t244 == (wrap64 (-t246))) = false := beq_eq_false_iff_ne.mpr c58
              have c58b1 : (t244 != (wrap64 (-t246))) = true := bne_iff_ne.mpr c58
              (first | rw [c58b0] | (simp only [i64_w, i32_w]; rw [c58b0]) | skip)
              have H' := Aside0.mk H
              clear H
              go_wp2
              go_meet
              case rel => exact ⟨_, (true), (by first | rfl | (simp; done) | (simp [*]; done)), H', ⟨by have := HJ11.out; first | omega | exact Nat.le_refl _⟩, ⟨by (with_reducible repeat (first | refine blk_drewN ?_ _ | refine blk_drew ?_ | refine blk_alloc ?_ _)); exact BK238.out⟩, ⟨by (with_reducible repeat (first | refine blk_drewN ?_ _ | refine blk_drew ?_ | refine blk_alloc ?_ _)); exact BK239.out⟩, ⟨by (with_reducible repeat (first | refine blk_drewN ?_ _ | refine blk_drew ?_ | refine blk_alloc ?_ _)); exact BK240.out⟩, ⟨by (with_reducible repeat (first | refine blk_drewN ?_ _ | refine blk_drew ?_ | refine blk_alloc ?_ _)); exact BK241.out⟩, ⟨by (with_reducible repeat (first | refine blk_drewN ?_ _ | refine blk_drew ?_ | refine blk_alloc ?_ _)); exact BK242.out⟩, ⟨by repeat (first | (with_reducible first | exact HB.out | apply below_alloc | apply pw_below_drewN | apply below_drew1 | refine below_set ?_ GE238.out | refine below_set ?_ GE239.out | refine below_set ?_ GE240.out | refine below_set ?_ GE241.out | refine below_set ?_ GE242.out) | exact HB.out)⟩⟩
          case rest =>
            clear HC57
            try clear c1
            try clear c2
            try clear p2
            try clear c3
            try clear c4
            try clear c5
            try clear c6
            try clear p6
            try clear c7
            try clear c12
            try clear c19
            try clear c20
            try clear c21
            try clear c22
            try clear c24
            try clear c25
            try clear c26
            try clear c28
            try clear c29
            try clear c31
            try clear c37
            try clear c49
            try clear c49b0
            try clear c49b1
            try clear c50
            try clear c50b0
            try clear c50b1
            try clear c51
            try clear c51b0
            try clear c51b1
            try clear c52
            try clear c53
            try clear c53b0
            try clear c53b1
            try clear c54
            try clear c54b0
            try clear c54b1
            try clear c55
            try clear c55b0
            try clear c55b1
            try clear c56
            try clear c56b0
            try clear c56b1
            try clear c58
            try clear c58b0
            try clear c58b1
            try clear c59
            try clear c59b0
            try clear c60
            try clear c60b0
            try clear hcz23_0
            try clear hcz23_1
            try clear hcz27_0
            try clear hcz27_1
            try clear hcz27_2
            try clear hcz30_0
            try clear hcz30_1
            try clear hcz32_0
            try clear hcz32_1
            try clear hcz34_0
            try clear hcz34_1
            try clear hcz35_0
            try clear hcz35_1
            try clear hcz35_2
            try clear hcz36_0
            try clear hcz36_1
            try clear hcz37_0
            try clear hcz37_1
            try clear hcz39_0
            try clear hcz39_1
            try clear hcz40_0
            try clear hcz40_1
            try clear hcz40_2
            try clear hcz41_0
            try clear hcz41_1
            try clear hcz42_0
            try clear hcz42_1
            try clear hcz44_0
            try clear hcz44_1
            try clear hcz45_0
            try clear hcz45_1
            try clear hcz45_2
            try clear hcz46_0
            try clear hcz46_1
            try clear hcz47_0
            try clear hcz47_1
            try clear hfz23_0
            try clear hfz23_1
            try clear hfz27_0
            try clear hfz27_1
            try clear hfz27_2
            try clear hfz30_0
            try clear hfz30_1
            try clear hfz32_0
            try clear hfz32_1
            try clear hfz34_0
            try clear hfz34_1
            try clear hfz35_0
            try clear hfz35_1
            try clear hfz35_2
            try clear hfz36_0
            try clear hfz36_1
            try clear hfz37_0
            try clear hfz37_1
            try clear hfz39_0
            try clear hfz39_1
            try clear hfz40_0
            try clear hfz40_1
            try clear hfz40_2
            try clear hfz41_0
            try clear hfz41_1
            try clear hfz42_0
            try clear hfz42_1
            try clear hfz44_0
            try clear hfz44_1
            try clear hfz45_0
            try clear hfz45_1
            try clear hfz45_2
            try clear hfz46_0
            try clear hfz46_1
            try clear hfz47_0
            try clear hfz47_1
            try clear p2
            obtain ⟨kq, x112_56, rfl, HA, HJ56, BK238, BK239, BK240, BK241, BK242, HB⟩ := hcut
            cases kq with
            | zero => exact absurd HA.out (by simp [furlonglaw02_VecTurns.j1])
            | succ kj56 =>
              have H := HA.out
              clear HA
              simp only [furlonglaw02_VecTurns.j1] at H
              by_cases c61 : x112_56 = true
              · subst c61
                have H1 : (some false) = some r := by rw [if_pos rfl] at H; exact H
                clear H
                have H := H1
                clear H1
                obtain rfl := Option.some.inj H
                go_wp2
                go_ret
                exact ⟨by first | rfl | (simp [errW_none, errW_some] <;> rfl) | (simp [*, errW_none, errW_some] <;> rfl), by repeat (first | (with_reducible first | exact HB.out | apply below_alloc | apply pw_below_drewN | apply below_drew1 | refine below_set ?_ GE238.out | refine below_set ?_ GE239.out | refine below_set ?_ GE240.out | refine below_set ?_ GE241.out | refine below_set ?_ GE242.out) | exact HB.out)⟩
              · replace c61 := Bool.eq_false_iff.mpr c61
                subst c61
                have H1 : ((vec_Add.f kj56 a0_0 a0_1 a1_0 a1_1).bind fun bt252 => (if bt252.2.2 = 0 then ((vec_Less.f kj56 a0_0 a0_1 a3_0 bt252.1 bt252.2.1 a3_0 a4_0 a4_1).bind fun bt256 => (if bt256.2 = 0 then (some (decide (bt256.1 ≤ 0))) else (some false))) else (some true))) = some r := by rw [if_neg (show ¬ (false = true) by decide)] at H; exact H
                clear H
                have H := H1
                clear H1
                replace H := Option.bind_eq_some_iff.mp H
                obtain ⟨⟨t252, t253, t254⟩, A620, H⟩ := H
                replace H : (if t254 = 0 then ((vec_Less.f kj56 a0_0 a0_1 a3_0 t252 t253 a3_0 a4_0 a4_1).bind fun bt256 => (if bt256.2 = 0 then (some (decide (bt256.1 ≤ 0))) else (some false))) else (some true)) = some r := H
                have A62 := Aside0.mk A620
                clear A620
                by_cases c63 : t254 = 0
                · rw [if_pos c63] at H
                  have c63b0 : (t254 == 0) = true := beq_iff_eq.mpr c63
                  have c63b1 : (t254 != 0) = false := bne_eq_false_iff_eq.mpr c63
                  clear c63
                  replace H := Option.bind_eq_some_iff.mp H
                  obtain ⟨⟨t256, t257⟩, A640, H⟩ := H
                  replace H : (if t257 = 0 then (some (decide (t256 ≤ 0))) else (some false)) = some r := H
                  have A64 := Aside0.mk A640
                  clear A640
                  by_cases c65 : t257 = 0
                  · rw [if_pos c65] at H
                    have c65b0 : (t257 == 0) = true := beq_iff_eq.mpr c65
                    have c65b1 : (t257 != 0) = false := bne_eq_false_iff_eq.mpr c65
                    clear c65
                    obtain rfl := Option.some.inj H
                    have hnb66 := NB238_239.out
                    have hnc66 := NB239_238.out
                    have hnb67 := NB238_240.out
                    have hnc67 := NB240_238.out
                    have hnb68 := NB238_241.out
                    have hnc68 := NB241_238.out
                    have hnb69 := NB238_242.out
                    have hnc69 := NB242_238.out
                    have hcz70_0 : wc.cell? ⟨gb238, 0, none⟩ = some (.int .i64 a0_0) := (blk_cell BK238.out 0).trans rfl
                    have hcz70_1 : wc.cell? ⟨gb238, 1, none⟩ = some (.int .i64 a0_1) := (blk_cell BK238.out 1).trans rfl
                    have hfz70_0 := blk_frozen BK238.out 0
                    have hfz70_1 := blk_frozen BK238.out 1
                    have hnb71 := NB239_240.out
                    have hnc71 := NB240_239.out
                    have hnb72 := NB239_241.out
                    have hnc72 := NB241_239.out
                    have hnb73 := NB239_242.out
                    have hnc73 := NB242_239.out
                    have hcz74_0 : wc.cell? ⟨gb239, 0, none⟩ = some (.int .i64 a1_0) := (blk_cell BK239.out 0).trans rfl
                    have hcz74_1 : wc.cell? ⟨gb239, 1, none⟩ = some (.int .i64 a1_1) := (blk_cell BK239.out 1).trans rfl
                    have hfz74_0 := blk_frozen BK239.out 0
                    have hfz74_1 := blk_frozen BK239.out 1
                    go_wp2_with (first | ((with_reducible refine gate_callee (f := 40) rfl ?_); refine goesL_ (some 116) rfl rfl Try.func40 (by kernel_rfl) rfl #[.agg #[.int .i64 a0_0, .int .i64 a0_1], .agg #[.int .i64 a1_0, .int .i64 a1_1]] rfl (by (try simp only [List.map_toArray, List.map_cons, List.map_nil]); first | done | rfl | (simp only [List.length_drop, List.length_take]; rfl)) ?_; (with_reducible refine (vec_Add.calls kj56 a0_0 a0_1 a1_0 a1_1 t252 t253 t254 _ A62.out).mono ?_); rintro e w75 ⟨rfl, hb⟩; refine ⟨_, rfl, ?_⟩; have n0_ := Aside0.mk (blk_below (g := gb238) (o := .cells #[.int .i64 a0_0, .int .i64 a0_1] 25 (0, 0)) (by (with_reducible repeat (first | refine blk_drewN ?_ _ | refine blk_drew ?_ | refine blk_alloc ?_ _)); exact BK238.out) hb); have n1_ := Aside0.mk (blk_below (g := gb239) (o := .cells #[.int .i64 a1_0, .int .i64 a1_1] 25 (0, 0)) (by (with_reducible repeat (first | refine blk_drewN ?_ _ | refine blk_drew ?_ | refine blk_alloc ?_ _)); exact BK239.out) hb); have n2_ := Aside0.mk (blk_below (g := gb240) (o := .cells #[.int .i64 a2_0, .int .i64 a2_1] 25 (0, 0)) (by (with_reducible repeat (first | refine blk_drewN ?_ _ | refine blk_drew ?_ | refine blk_alloc ?_ _)); exact BK240.out) hb); have n3_ := Aside0.mk (blk_below (g := gb241) (o := .cells #[.int .i64 a3_0, .int .i64 a3_1, .int .i64 a3_2] 54 (0, 0)) (by (with_reducible repeat (first | refine blk_drewN ?_ _ | refine blk_drew ?_ | refine blk_alloc ?_ _)); exact BK241.out) hb); have n4_ := Aside0.mk (blk_below (g := gb242) (o := .cells #[.int .i64 a4_0, .int .i64 a4_1] 25 (0, 0)) (by (with_reducible repeat (first | refine blk_drewN ?_ _ | refine blk_drew ?_ | refine blk_alloc ?_ _)); exact BK242.out) hb); have n5_ := Aside0.mk (below_step (by repeat (first | (with_reducible first | exact HB.out | apply below_alloc | apply pw_below_drewN | apply below_drew1 | refine below_set ?_ GE238.out | refine below_set ?_ GE239.out | refine below_set ?_ GE240.out | refine below_set ?_ GE241.out | refine below_set ?_ GE242.out) | exact HB.out)) hb); clear BK238; clear BK239; clear BK240; clear BK241; clear BK242; clear HB; have BK238 := n0_; have BK239 := n1_; have BK240 := n2_; have BK241 := n3_; have BK242 := n4_; have HB := n5_; clear n0_ n1_ n2_ n3_ n4_ n5_; (try clear hb); (try clear hb2); (try clear hk); (try clear hi)) | ((with_reducible refine gate_dst (N := 19) rfl ?_); refine box_event ?hg (N := 19) ?hd (cs := #[.int .i64 0, .int .i64 0]) (t := 25) ?hr ?_; (case hd => rfl); (case hg => rfl); (case hr => first | (go_simp; done) | (go_simp; rfl)); intro gb255 hg w76 hbox hb; have n0_ := Aside0.mk (blk_below (g := gb238) (o := .cells #[.int .i64 a0_0, .int .i64 a0_1] 25 (0, 0)) (by (with_reducible repeat (first | refine blk_drewN ?_ _ | refine blk_drew ?_ | refine blk_alloc ?_ _)); exact BK238.out) hb); have n1_ := Aside0.mk (blk_below (g := gb239) (o := .cells #[.int .i64 a1_0, .int .i64 a1_1] 25 (0, 0)) (by (with_reducible repeat (first | refine blk_drewN ?_ _ | refine blk_drew ?_ | refine blk_alloc ?_ _)); exact BK239.out) hb); have n2_ := Aside0.mk (blk_below (g := gb240) (o := .cells #[.int .i64 a2_0, .int .i64 a2_1] 25 (0, 0)) (by (with_reducible repeat (first | refine blk_drewN ?_ _ | refine blk_drew ?_ | refine blk_alloc ?_ _)); exact BK240.out) hb); have n3_ := Aside0.mk (blk_below (g := gb241) (o := .cells #[.int .i64 a3_0, .int .i64 a3_1, .int .i64 a3_2] 54 (0, 0)) (by (with_reducible repeat (first | refine blk_drewN ?_ _ | refine blk_drew ?_ | refine blk_alloc ?_ _)); exact BK241.out) hb); have n4_ := Aside0.mk (blk_below (g := gb242) (o := .cells #[.int .i64 a4_0, .int .i64 a4_1] 25 (0, 0)) (by (with_reducible repeat (first | refine blk_drewN ?_ _ | refine blk_drew ?_ | refine blk_alloc ?_ _)); exact BK242.out) hb); have n5_ := Aside0.mk (below_step (by repeat (first | (with_reducible first | exact HB.out | apply below_alloc | apply pw_below_drewN | apply below_drew1 | refine below_set ?_ GE238.out | refine below_set ?_ GE239.out | refine below_set ?_ GE240.out | refine below_set ?_ GE241.out | refine below_set ?_ GE242.out) | exact HB.out)) hb); have n6_ := Aside0.mk (hbox); have n7_ := Aside0.mk ((by rw [hg]; exact (below_size (by repeat (first | (with_reducible first | exact HB.out | apply below_alloc | apply pw_below_drewN | apply below_drew1 | refine below_set ?_ GE238.out | refine below_set ?_ GE239.out | refine below_set ?_ GE240.out | refine below_set ?_ GE241.out | refine below_set ?_ GE242.out) | exact HB.out))) : w.heap.size ≤ gb255)); have n8_ := Aside0.mk ((by rw [hg]; exact (below_size (by repeat (first | (with_reducible first | exact HB.out | apply below_alloc | apply pw_below_drewN | apply below_drew1 | refine below_set ?_ GE238.out | refine below_set ?_ GE239.out | refine below_set ?_ GE240.out | refine below_set ?_ GE241.out | refine below_set ?_ GE242.out) | exact HB.out))) : w.heap.size ≤ gb255)); have n9_ := Aside0.mk ((by rw [hg]; exact Nat.ne_of_lt (blk_lt (g := gb238) (o := .cells #[.int .i64 a0_0, .int .i64 a0_1] 25 (0, 0)) (by (with_reducible repeat (first | refine blk_drewN ?_ _ | refine blk_drew ?_ | refine blk_alloc ?_ _)); exact BK238.out)) : gb238 ≠ gb255)); have n10_ := Aside0.mk ((by rw [hg]; exact Nat.ne_of_gt (blk_lt (g := gb238) (o := .cells #[.int .i64 a0_0, .int .i64 a0_1] 25 (0, 0)) (by (with_reducible repeat (first | refine blk_drewN ?_ _ | refine blk_drew ?_ | refine blk_alloc ?_ _)); exact BK238.out)) : gb255 ≠ gb238)); have n11_ := Aside0.mk ((by rw [hg]; exact Nat.ne_of_lt (blk_lt (g := gb239) (o := .cells #[.int .i64 a1_0, .int .i64 a1_1] 25 (0, 0)) (by (with_reducible repeat (first | refine blk_drewN ?_ _ | refine blk_drew ?_ | refine blk_alloc ?_ _)); exact BK239.out)) : gb239 ≠ gb255)); have n12_ := Aside0.mk ((by rw [hg]; exact Nat.ne_of_gt (blk_lt (g := gb239) (o := .cells #[.int .i64 a1_0, .int .i64 a1_1] 25 (0, 0)) (by (with_reducible repeat (first | refine blk_drewN ?_ _ | refine blk_drew ?_ | refine blk_alloc ?_ _)); exact BK239.out)) : gb255 ≠ gb239)); have n13_ := Aside0.mk ((by rw [hg]; exact Nat.ne_of_lt (blk_lt (g := gb240) (o := .cells #[.int .i64 a2_0, .int .i64 a2_1] 25 (0, 0)) (by (with_reducible repeat (first | refine blk_drewN ?_ _ | refine blk_drew ?_ | refine blk_alloc ?_ _)); exact BK240.out)) : gb240 ≠ gb255)); have n14_ := Aside0.mk ((by rw [hg]; exact Nat.ne_of_gt (blk_lt (g := gb240) (o := .cells #[.int .i64 a2_0, .int .i64 a2_1] 25 (0, 0)) (by (with_reducible repeat (first | refine blk_drewN ?_ _ | refine blk_drew ?_ | refine blk_alloc ?_ _)); exact BK240.out)) : gb255 ≠ gb240)); have n15_ := Aside0.mk ((by rw [hg]; exact Nat.ne_of_lt (blk_lt (g := gb241) (o := .cells #[.int .i64 a3_0, .int .i64 a3_1, .int .i64 a3_2] 54 (0, 0)) (by (with_reducible repeat (first | refine blk_drewN ?_ _ | refine blk_drew ?_ | refine blk_alloc ?_ _)); exact BK241.out)) : gb241 ≠ gb255)); have n16_ := Aside0.mk ((by rw [hg]; exact Nat.ne_of_gt (blk_lt (g := gb241) (o := .cells #[.int .i64 a3_0, .int .i64 a3_1, .int .i64 a3_2] 54 (0, 0)) (by (with_reducible repeat (first | refine blk_drewN ?_ _ | refine blk_drew ?_ | refine blk_alloc ?_ _)); exact BK241.out)) : gb255 ≠ gb241)); have n17_ := Aside0.mk ((by rw [hg]; exact Nat.ne_of_lt (blk_lt (g := gb242) (o := .cells #[.int .i64 a4_0, .int .i64 a4_1] 25 (0, 0)) (by (with_reducible repeat (first | refine blk_drewN ?_ _ | refine blk_drew ?_ | refine blk_alloc ?_ _)); exact BK242.out)) : gb242 ≠ gb255)); have n18_ := Aside0.mk ((by rw [hg]; exact Nat.ne_of_gt (blk_lt (g := gb242) (o := .cells #[.int .i64 a4_0, .int .i64 a4_1] 25 (0, 0)) (by (with_reducible repeat (first | refine blk_drewN ?_ _ | refine blk_drew ?_ | refine blk_alloc ?_ _)); exact BK242.out)) : gb255 ≠ gb242)); clear BK238; clear BK239; clear BK240; clear BK241; clear BK242; clear HB; have BK238 := n0_; have BK239 := n1_; have BK240 := n2_; have BK241 := n3_; have BK242 := n4_; have HB := n5_; have BK255 := n6_; have GW255 := n7_; have GE255 := n8_; have NB238_255 := n9_; have NB255_238 := n10_; have NB239_255 := n11_; have NB255_239 := n12_; have NB240_255 := n13_; have NB255_240 := n14_; have NB241_255 := n15_; have NB255_241 := n16_; have NB242_255 := n17_; have NB255_242 := n18_; clear n0_ n1_ n2_ n3_ n4_ n5_ n6_ n7_ n8_ n9_ n10_ n11_ n12_ n13_ n14_ n15_ n16_ n17_ n18_; clear hb hbox hg; have hnb77 := NB255_238.out; have hnc77 := NB238_255.out; have hnb78 := NB255_239.out; have hnc78 := NB239_255.out; have hnb79 := NB255_240.out; have hnc79 := NB240_255.out; have hnb80 := NB255_241.out; have hnc80 := NB241_255.out; have hnb81 := NB255_242.out; have hnc81 := NB242_255.out; have hcz82_0 : w76.cell? ⟨gb255, 0, none⟩ = some (.int .i64 0) := (blk_cell BK255.out 0).trans rfl; have hcz82_1 : w76.cell? ⟨gb255, 1, none⟩ = some (.int .i64 0) := (blk_cell BK255.out 1).trans rfl; have hfz82_0 := blk_frozen BK255.out 0; have hfz82_1 := blk_frozen BK255.out 1; have hcz83_0 : w76.cell? ⟨gb238, 0, none⟩ = some (.int .i64 a0_0) := (blk_cell BK238.out 0).trans rfl; have hcz83_1 : w76.cell? ⟨gb238, 1, none⟩ = some (.int .i64 a0_1) := (blk_cell BK238.out 1).trans rfl; have hfz83_0 := blk_frozen BK238.out 0; have hfz83_1 := blk_frozen BK238.out 1; have hnb84 := NB241_240.out; have hnc84 := NB240_241.out; have hnb85 := NB241_242.out; have hnc85 := NB242_241.out; have hcz86_0 : w76.cell? ⟨gb241, 0, none⟩ = some (.int .i64 a3_0) := (blk_cell BK241.out 0).trans rfl; have hcz86_1 : w76.cell? ⟨gb241, 1, none⟩ = some (.int .i64 a3_1) := (blk_cell BK241.out 1).trans rfl; have hcz86_2 : w76.cell? ⟨gb241, 2, none⟩ = some (.int .i64 a3_2) := (blk_cell BK241.out 2).trans rfl; have hfz86_0 := blk_frozen BK241.out 0; have hfz86_1 := blk_frozen BK241.out 1; have hfz86_2 := blk_frozen BK241.out 2; have hnb87 := NB242_240.out; have hnc87 := NB240_242.out; have hcz88_0 : w76.cell? ⟨gb242, 0, none⟩ = some (.int .i64 a4_0) := (blk_cell BK242.out 0).trans rfl; have hcz88_1 : w76.cell? ⟨gb242, 1, none⟩ = some (.int .i64 a4_1) := (blk_cell BK242.out 1).trans rfl; have hfz88_0 := blk_frozen BK242.out 0; have hfz88_1 := blk_frozen BK242.out 1) | ((with_reducible refine gate_callee (f := 51) rfl ?_); refine goesL_ (some 129) rfl rfl Try.func51 (by kernel_rfl) rfl #[.agg #[.int .i64 a0_0, .int .i64 a0_1], .int .i64 a3_0, .agg #[.int .i64 t252, .int .i64 t253], .int .i64 a3_0, .agg #[.int .i64 a4_0, .int .i64 a4_1]] rfl (by (try simp only [List.map_toArray, List.map_cons, List.map_nil]); first | done | rfl | (simp only [List.length_drop, List.length_take]; rfl)) ?_; (with_reducible refine (vec_Less.calls kj56 a0_0 a0_1 a3_0 t252 t253 a3_0 a4_0 a4_1 t256 t257 _ A64.out).mono ?_); rintro e w89 ⟨rfl, hb⟩; refine ⟨_, rfl, ?_⟩; have n0_ := Aside0.mk (blk_below (g := gb238) (o := .cells #[.int .i64 a0_0, .int .i64 a0_1] 25 (0, 0)) (by (with_reducible repeat (first | refine blk_drewN ?_ _ | refine blk_drew ?_ | refine blk_alloc ?_ _)); refine blk_far ?_ NB238_255.out _; (with_reducible repeat (first | refine blk_drewN ?_ _ | refine blk_drew ?_ | refine blk_alloc ?_ _)); refine blk_far ?_ NB238_255.out _; (with_reducible repeat (first | refine blk_drewN ?_ _ | refine blk_drew ?_ | refine blk_alloc ?_ _)); exact BK238.out) hb); have n1_ := Aside0.mk (blk_below (g := gb239) (o := .cells #[.int .i64 a1_0, .int .i64 a1_1] 25 (0, 0)) (by (with_reducible repeat (first | refine blk_drewN ?_ _ | refine blk_drew ?_ | refine blk_alloc ?_ _)); refine blk_far ?_ NB239_255.out _; (with_reducible repeat (first | refine blk_drewN ?_ _ | refine blk_drew ?_ | refine blk_alloc ?_ _)); refine blk_far ?_ NB239_255.out _; (with_reducible repeat (first | refine blk_drewN ?_ _ | refine blk_drew ?_ | refine blk_alloc ?_ _)); exact BK239.out) hb); have n2_ := Aside0.mk (blk_below (g := gb240) (o := .cells #[.int .i64 a2_0, .int .i64 a2_1] 25 (0, 0)) (by (with_reducible repeat (first | refine blk_drewN ?_ _ | refine blk_drew ?_ | refine blk_alloc ?_ _)); refine blk_far ?_ NB240_255.out _; (with_reducible repeat (first | refine blk_drewN ?_ _ | refine blk_drew ?_ | refine blk_alloc ?_ _)); refine blk_far ?_ NB240_255.out _; (with_reducible repeat (first | refine blk_drewN ?_ _ | refine blk_drew ?_ | refine blk_alloc ?_ _)); exact BK240.out) hb); have n3_ := Aside0.mk (blk_below (g := gb241) (o := .cells #[.int .i64 a3_0, .int .i64 a3_1, .int .i64 a3_2] 54 (0, 0)) (by (with_reducible repeat (first | refine blk_drewN ?_ _ | refine blk_drew ?_ | refine blk_alloc ?_ _)); refine blk_far ?_ NB241_255.out _; (with_reducible repeat (first | refine blk_drewN ?_ _ | refine blk_drew ?_ | refine blk_alloc ?_ _)); refine blk_far ?_ NB241_255.out _; (with_reducible repeat (first | refine blk_drewN ?_ _ | refine blk_drew ?_ | refine blk_alloc ?_ _)); exact BK241.out) hb); have n4_ := Aside0.mk (blk_below (g := gb242) (o := .cells #[.int .i64 a4_0, .int .i64 a4_1] 25 (0, 0)) (by (with_reducible repeat (first | refine blk_drewN ?_ _ | refine blk_drew ?_ | refine blk_alloc ?_ _)); refine blk_far ?_ NB242_255.out _; (with_reducible repeat (first | refine blk_drewN ?_ _ | refine blk_drew ?_ | refine blk_alloc ?_ _)); refine blk_far ?_ NB242_255.out _; (with_reducible repeat (first | refine blk_drewN ?_ _ | refine blk_drew ?_ | refine blk_alloc ?_ _)); exact BK242.out) hb); have n5_ := Aside0.mk (blk_below (g := gb255) (o := .cells #[.int .i64 t252, .int .i64 t253] 25 (0, 0)) (by (with_reducible repeat (first | refine blk_drewN ?_ _ | refine blk_drew ?_ | refine blk_alloc ?_ _)); refine blk_put (cs := #[.int .i64 t252, .int .i64 0]) ?_ 1 _ rfl; (with_reducible repeat (first | refine blk_drewN ?_ _ | refine blk_drew ?_ | refine blk_alloc ?_ _)); refine blk_put (cs := #[.int .i64 0, .int .i64 0]) ?_ 0 _ rfl; (with_reducible repeat (first | refine blk_drewN ?_ _ | refine blk_drew ?_ | refine blk_alloc ?_ _)); exact BK255.out) hb); have n6_ := Aside0.mk (below_step (by repeat (first | (with_reducible first | exact HB.out | apply below_alloc | apply pw_below_drewN | apply below_drew1 | refine below_set ?_ GE238.out | refine below_set ?_ GE239.out | refine below_set ?_ GE240.out | refine below_set ?_ GE241.out | refine below_set ?_ GE242.out | refine below_set ?_ GE255.out) | exact HB.out)) hb); clear BK238; clear BK239; clear BK240; clear BK241; clear BK242; clear BK255; clear HB; have BK238 := n0_; have BK239 := n1_; have BK240 := n2_; have BK241 := n3_; have BK242 := n4_; have BK255 := n5_; have HB := n6_; clear n0_ n1_ n2_ n3_ n4_ n5_ n6_; (try clear hb); (try clear hb2); (try clear hk); (try clear hi)))
                    go_ret
                    exact ⟨by first | rfl | (simp [errW_none, errW_some] <;> rfl) | (simp [*, errW_none, errW_some] <;> rfl), by repeat (first | (with_reducible first | exact HB.out | apply below_alloc | apply pw_below_drewN | apply below_drew1 | refine below_set ?_ GE238.out | refine below_set ?_ GE239.out | refine below_set ?_ GE240.out | refine below_set ?_ GE241.out | refine below_set ?_ GE242.out | refine below_set ?_ GE255.out) | exact HB.out)⟩
                  · rw [if_neg c65] at H
                    have c65b0 : (t257 == 0) = false := beq_eq_false_iff_ne.mpr c65
                    have c65b1 : (t257 != 0) = true := bne_iff_ne.mpr c65
                    obtain rfl := Option.some.inj H
                    have hnb90 := NB238_239.out
                    have hnc90 := NB239_238.out
                    have hnb91 := NB238_240.out
                    have hnc91 := NB240_238.out
                    have hnb92 := NB238_241.out
                    have hnc92 := NB241_238.out
                    have hnb93 := NB238_242.out
                    have hnc93 := NB242_238.out
                    have hcz94_0 : wc.cell? ⟨gb238, 0, none⟩ = some (.int .i64 a0_0) := (blk_cell BK238.out 0).trans rfl
                    have hcz94_1 : wc.cell? ⟨gb238, 1, none⟩ = some (.int .i64 a0_1) := (blk_cell BK238.out 1).trans rfl
                    have hfz94_0 := blk_frozen BK238.out 0
                    have hfz94_1 := blk_frozen BK238.out 1
                    have hnb95 := NB239_240.out
                    have hnc95 := NB240_239.out
                    have hnb96 := NB239_241.out
                    have hnc96 := NB241_239.out
                    have hnb97 := NB239_242.out
                    have hnc97 := NB242_239.out
                    have hcz98_0 : wc.cell? ⟨gb239, 0, none⟩ = some (.int .i64 a1_0) := (blk_cell BK239.out 0).trans rfl
                    have hcz98_1 : wc.cell? ⟨gb239, 1, none⟩ = some (.int .i64 a1_1) := (blk_cell BK239.out 1).trans rfl
                    have hfz98_0 := blk_frozen BK239.out 0
                    have hfz98_1 := blk_frozen BK239.out 1
                    go_wp2_with (first | ((with_reducible refine gate_callee (f := 40) rfl ?_); refine goesL_ (some 116) rfl rfl Try.func40 (by kernel_rfl) rfl #[.agg #[.int .i64 a0_0, .int .i64 a0_1], .agg #[.int .i64 a1_0, .int .i64 a1_1]] rfl (by (try simp only [List.map_toArray, List.map_cons, List.map_nil]); first | done | rfl | (simp only [List.length_drop, List.length_take]; rfl)) ?_; (with_reducible refine (vec_Add.calls kj56 a0_0 a0_1 a1_0 a1_1 t252 t253 t254 _ A62.out).mono ?_); rintro e w99 ⟨rfl, hb⟩; refine ⟨_, rfl, ?_⟩; have n0_ := Aside0.mk (blk_below (g := gb238) (o := .cells #[.int .i64 a0_0, .int .i64 a0_1] 25 (0, 0)) (by (with_reducible repeat (first | refine blk_drewN ?_ _ | refine blk_drew ?_ | refine blk_alloc ?_ _)); exact BK238.out) hb); have n1_ := Aside0.mk (blk_below (g := gb239) (o := .cells #[.int .i64 a1_0, .int .i64 a1_1] 25 (0, 0)) (by (with_reducible repeat (first | refine blk_drewN ?_ _ | refine blk_drew ?_ | refine blk_alloc ?_ _)); exact BK239.out) hb); have n2_ := Aside0.mk (blk_below (g := gb240) (o := .cells #[.int .i64 a2_0, .int .i64 a2_1] 25 (0, 0)) (by (with_reducible repeat (first | refine blk_drewN ?_ _ | refine blk_drew ?_ | refine blk_alloc ?_ _)); exact BK240.out) hb); have n3_ := Aside0.mk (blk_below (g := gb241) (o := .cells #[.int .i64 a3_0, .int .i64 a3_1, .int .i64 a3_2] 54 (0, 0)) (by (with_reducible repeat (first | refine blk_drewN ?_ _ | refine blk_drew ?_ | refine blk_alloc ?_ _)); exact BK241.out) hb); have n4_ := Aside0.mk (blk_below (g := gb242) (o := .cells #[.int .i64 a4_0, .int .i64 a4_1] 25 (0, 0)) (by (with_reducible repeat (first | refine blk_drewN ?_ _ | refine blk_drew ?_ | refine blk_alloc ?_ _)); exact BK242.out) hb); have n5_ := Aside0.mk (below_step (by repeat (first | (with_reducible first | exact HB.out | apply below_alloc | apply pw_below_drewN | apply below_drew1 | refine below_set ?_ GE238.out | refine below_set ?_ GE239.out | refine below_set ?_ GE240.out | refine below_set ?_ GE241.out | refine below_set ?_ GE242.out) | exact HB.out)) hb); clear BK238; clear BK239; clear BK240; clear BK241; clear BK242; clear HB; have BK238 := n0_; have BK239 := n1_; have BK240 := n2_; have BK241 := n3_; have BK242 := n4_; have HB := n5_; clear n0_ n1_ n2_ n3_ n4_ n5_; (try clear hb); (try clear hb2); (try clear hk); (try clear hi)) | ((with_reducible refine gate_dst (N := 19) rfl ?_); refine box_event ?hg (N := 19) ?hd (cs := #[.int .i64 0, .int .i64 0]) (t := 25) ?hr ?_; (case hd => rfl); (case hg => rfl); (case hr => first | (go_simp; done) | (go_simp; rfl)); intro gb255 hg w100 hbox hb; have n0_ := Aside0.mk (blk_below (g := gb238) (o := .cells #[.int .i64 a0_0, .int .i64 a0_1] 25 (0, 0)) (by (with_reducible repeat (first | refine blk_drewN ?_ _ | refine blk_drew ?_ | refine blk_alloc ?_ _)); exact BK238.out) hb); have n1_ := Aside0.mk (blk_below (g := gb239) (o := .cells #[.int .i64 a1_0, .int .i64 a1_1] 25 (0, 0)) (by (with_reducible repeat (first | refine blk_drewN ?_ _ | refine blk_drew ?_ | refine blk_alloc ?_ _)); exact BK239.out) hb); have n2_ := Aside0.mk (blk_below (g := gb240) (o := .cells #[.int .i64 a2_0, .int .i64 a2_1] 25 (0, 0)) (by (with_reducible repeat (first | refine blk_drewN ?_ _ | refine blk_drew ?_ | refine blk_alloc ?_ _)); exact BK240.out) hb); have n3_ := Aside0.mk (blk_below (g := gb241) (o := .cells #[.int .i64 a3_0, .int .i64 a3_1, .int .i64 a3_2] 54 (0, 0)) (by (with_reducible repeat (first | refine blk_drewN ?_ _ | refine blk_drew ?_ | refine blk_alloc ?_ _)); exact BK241.out) hb); have n4_ := Aside0.mk (blk_below (g := gb242) (o := .cells #[.int .i64 a4_0, .int .i64 a4_1] 25 (0, 0)) (by (with_reducible repeat (first | refine blk_drewN ?_ _ | refine blk_drew ?_ | refine blk_alloc ?_ _)); exact BK242.out) hb); have n5_ := Aside0.mk (below_step (by repeat (first | (with_reducible first | exact HB.out | apply below_alloc | apply pw_below_drewN | apply below_drew1 | refine below_set ?_ GE238.out | refine below_set ?_ GE239.out | refine below_set ?_ GE240.out | refine below_set ?_ GE241.out | refine below_set ?_ GE242.out) | exact HB.out)) hb); have n6_ := Aside0.mk (hbox); have n7_ := Aside0.mk ((by rw [hg]; exact (below_size (by repeat (first | (with_reducible first | exact HB.out | apply below_alloc | apply pw_below_drewN | apply below_drew1 | refine below_set ?_ GE238.out | refine below_set ?_ GE239.out | refine below_set ?_ GE240.out | refine below_set ?_ GE241.out | refine below_set ?_ GE242.out) | exact HB.out))) : w.heap.size ≤ gb255)); have n8_ := Aside0.mk ((by rw [hg]; exact (below_size (by repeat (first | (with_reducible first | exact HB.out | apply below_alloc | apply pw_below_drewN | apply below_drew1 | refine below_set ?_ GE238.out | refine below_set ?_ GE239.out | refine below_set ?_ GE240.out | refine below_set ?_ GE241.out | refine below_set ?_ GE242.out) | exact HB.out))) : w.heap.size ≤ gb255)); have n9_ := Aside0.mk ((by rw [hg]; exact Nat.ne_of_lt (blk_lt (g := gb238) (o := .cells #[.int .i64 a0_0, .int .i64 a0_1] 25 (0, 0)) (by (with_reducible repeat (first | refine blk_drewN ?_ _ | refine blk_drew ?_ | refine blk_alloc ?_ _)); exact BK238.out)) : gb238 ≠ gb255)); have n10_ := Aside0.mk ((by rw [hg]; exact Nat.ne_of_gt (blk_lt (g := gb238) (o := .cells #[.int .i64 a0_0, .int .i64 a0_1] 25 (0, 0)) (by (with_reducible repeat (first | refine blk_drewN ?_ _ | refine blk_drew ?_ | refine blk_alloc ?_ _)); exact BK238.out)) : gb255 ≠ gb238)); have n11_ := Aside0.mk ((by rw [hg]; exact Nat.ne_of_lt (blk_lt (g := gb239) (o := .cells #[.int .i64 a1_0, .int .i64 a1_1] 25 (0, 0)) (by (with_reducible repeat (first | refine blk_drewN ?_ _ | refine blk_drew ?_ | refine blk_alloc ?_ _)); exact BK239.out)) : gb239 ≠ gb255)); have n12_ := Aside0.mk ((by rw [hg]; exact Nat.ne_of_gt (blk_lt (g := gb239) (o := .cells #[.int .i64 a1_0, .int .i64 a1_1] 25 (0, 0)) (by (with_reducible repeat (first | refine blk_drewN ?_ _ | refine blk_drew ?_ | refine blk_alloc ?_ _)); exact BK239.out)) : gb255 ≠ gb239)); have n13_ := Aside0.mk ((by rw [hg]; exact Nat.ne_of_lt (blk_lt (g := gb240) (o := .cells #[.int .i64 a2_0, .int .i64 a2_1] 25 (0, 0)) (by (with_reducible repeat (first | refine blk_drewN ?_ _ | refine blk_drew ?_ | refine blk_alloc ?_ _)); exact BK240.out)) : gb240 ≠ gb255)); have n14_ := Aside0.mk ((by rw [hg]; exact Nat.ne_of_gt (blk_lt (g := gb240) (o := .cells #[.int .i64 a2_0, .int .i64 a2_1] 25 (0, 0)) (by (with_reducible repeat (first | refine blk_drewN ?_ _ | refine blk_drew ?_ | refine blk_alloc ?_ _)); exact BK240.out)) : gb255 ≠ gb240)); have n15_ := Aside0.mk ((by rw [hg]; exact Nat.ne_of_lt (blk_lt (g := gb241) (o := .cells #[.int .i64 a3_0, .int .i64 a3_1, .int .i64 a3_2] 54 (0, 0)) (by (with_reducible repeat (first | refine blk_drewN ?_ _ | refine blk_drew ?_ | refine blk_alloc ?_ _)); exact BK241.out)) : gb241 ≠ gb255)); have n16_ := Aside0.mk ((by rw [hg]; exact Nat.ne_of_gt (blk_lt (g := gb241) (o := .cells #[.int .i64 a3_0, .int .i64 a3_1, .int .i64 a3_2] 54 (0, 0)) (by (with_reducible repeat (first | refine blk_drewN ?_ _ | refine blk_drew ?_ | refine blk_alloc ?_ _)); exact BK241.out)) : gb255 ≠ gb241)); have n17_ := Aside0.mk ((by rw [hg]; exact Nat.ne_of_lt (blk_lt (g := gb242) (o := .cells #[.int .i64 a4_0, .int .i64 a4_1] 25 (0, 0)) (by (with_reducible repeat (first | refine blk_drewN ?_ _ | refine blk_drew ?_ | refine blk_alloc ?_ _)); exact BK242.out)) : gb242 ≠ gb255)); have n18_ := Aside0.mk ((by rw [hg]; exact Nat.ne_of_gt (blk_lt (g := gb242) (o := .cells #[.int .i64 a4_0, .int .i64 a4_1] 25 (0, 0)) (by (with_reducible repeat (first | refine blk_drewN ?_ _ | refine blk_drew ?_ | refine blk_alloc ?_ _)); exact BK242.out)) : gb255 ≠ gb242)); clear BK238; clear BK239; clear BK240; clear BK241; clear BK242; clear HB; have BK238 := n0_; have BK239 := n1_; have BK240 := n2_; have BK241 := n3_; have BK242 := n4_; have HB := n5_; have BK255 := n6_; have GW255 := n7_; have GE255 := n8_; have NB238_255 := n9_; have NB255_238 := n10_; have NB239_255 := n11_; have NB255_239 := n12_; have NB240_255 := n13_; have NB255_240 := n14_; have NB241_255 := n15_; have NB255_241 := n16_; have NB242_255 := n17_; have NB255_242 := n18_; clear n0_ n1_ n2_ n3_ n4_ n5_ n6_ n7_ n8_ n9_ n10_ n11_ n12_ n13_ n14_ n15_ n16_ n17_ n18_; clear hb hbox hg; have hnb101 := NB255_238.out; have hnc101 := NB238_255.out; have hnb102 := NB255_239.out; have hnc102 := NB239_255.out; have hnb103 := NB255_240.out; have hnc103 := NB240_255.out; have hnb104 := NB255_241.out; have hnc104 := NB241_255.out; have hnb105 := NB255_242.out; have hnc105 := NB242_255.out; have hcz106_0 : w100.cell? ⟨gb255, 0, none⟩ = some (.int .i64 0) := (blk_cell BK255.out 0).trans rfl; have hcz106_1 : w100.cell? ⟨gb255, 1, none⟩ = some (.int .i64 0) := (blk_cell BK255.out 1).trans rfl; have hfz106_0 := blk_frozen BK255.out 0; have hfz106_1 := blk_frozen BK255.out 1; have hcz107_0 : w100.cell? ⟨gb238, 0, none⟩ = some (.int .i64 a0_0) := (blk_cell BK238.out 0).trans rfl; have hcz107_1 : w100.cell? ⟨gb238, 1, none⟩ = some (.int .i64 a0_1) := (blk_cell BK238.out 1).trans rfl; have hfz107_0 := blk_frozen BK238.out 0; have hfz107_1 := blk_frozen BK238.out 1; have hnb108 := NB241_240.out; have hnc108 := NB240_241.out; have hnb109 := NB241_242.out; have hnc109 := NB242_241.out; have hcz110_0 : w100.cell? ⟨gb241, 0, none⟩ = some (.int .i64 a3_0) := (blk_cell BK241.out 0).trans rfl; have hcz110_1 : w100.cell? ⟨gb241, 1, none⟩ = some (.int .i64 a3_1) := (blk_cell BK241.out 1).trans rfl; have hcz110_2 : w100.cell? ⟨gb241, 2, none⟩ = some (.int .i64 a3_2) := (blk_cell BK241.out 2).trans rfl; have hfz110_0 := blk_frozen BK241.out 0; have hfz110_1 := blk_frozen BK241.out 1; have hfz110_2 := blk_frozen BK241.out 2; have hnb111 := NB242_240.out; have hnc111 := NB240_242.out; have hcz112_0 : w100.cell? ⟨gb242, 0, none⟩ = some (.int .i64 a4_0) := (blk_cell BK242.out 0).trans rfl; have hcz112_1 : w100.cell? ⟨gb242, 1, none⟩ = some (.int .i64 a4_1) := (blk_cell BK242.out 1).trans rfl; have hfz112_0 := blk_frozen BK242.out 0; have hfz112_1 := blk_frozen BK242.out 1) | ((with_reducible refine gate_callee (f := 51) rfl ?_); refine goesL_ (some 129) rfl rfl Try.func51 (by kernel_rfl) rfl #[.agg #[.int .i64 a0_0, .int .i64 a0_1], .int .i64 a3_0, .agg #[.int .i64 t252, .int .i64 t253], .int .i64 a3_0, .agg #[.int .i64 a4_0, .int .i64 a4_1]] rfl (by (try simp only [List.map_toArray, List.map_cons, List.map_nil]); first | done | rfl | (simp only [List.length_drop, List.length_take]; rfl)) ?_; (with_reducible refine (vec_Less.calls kj56 a0_0 a0_1 a3_0 t252 t253 a3_0 a4_0 a4_1 t256 t257 _ A64.out).mono ?_); rintro e w113 ⟨rfl, hb⟩; refine ⟨_, rfl, ?_⟩; have n0_ := Aside0.mk (blk_below (g := gb238) (o := .cells #[.int .i64 a0_0, .int .i64 a0_1] 25 (0, 0)) (by (with_reducible repeat (first | refine blk_drewN ?_ _ | refine blk_drew ?_ | refine blk_alloc ?_ _)); refine blk_far ?_ NB238_255.out _; (with_reducible repeat (first | refine blk_drewN ?_ _ | refine blk_drew ?_ | refine blk_alloc ?_ _)); refine blk_far ?_ NB238_255.out _; (with_reducible repeat (first | refine blk_drewN ?_ _ | refine blk_drew ?_ | refine blk_alloc ?_ _)); exact BK238.out) hb); have n1_ := Aside0.mk (blk_below (g := gb239) (o := .cells #[.int .i64 a1_0, .int .i64 a1_1] 25 (0, 0)) (by (with_reducible repeat (first | refine blk_drewN ?_ _ | refine blk_drew ?_ | refine blk_alloc ?_ _)); refine blk_far ?_ NB239_255.out _; (with_reducible repeat (first | refine blk_drewN ?_ _ | refine blk_drew ?_ | refine blk_alloc ?_ _)); refine blk_far ?_ NB239_255.out _; (with_reducible repeat (first | refine blk_drewN ?_ _ | refine blk_drew ?_ | refine blk_alloc ?_ _)); exact BK239.out) hb); have n2_ := Aside0.mk (blk_below (g := gb240) (o := .cells #[.int .i64 a2_0, .int .i64 a2_1] 25 (0, 0)) (by (with_reducible repeat (first | refine blk_drewN ?_ _ | refine blk_drew ?_ | refine blk_alloc ?_ _)); refine blk_far ?_ NB240_255.out _; (with_reducible repeat (first | refine blk_drewN ?_ _ | refine blk_drew ?_ | refine blk_alloc ?_ _)); refine blk_far ?_ NB240_255.out _; (with_reducible repeat (first | refine blk_drewN ?_ _ | refine blk_drew ?_ | refine blk_alloc ?_ _)); exact BK240.out) hb); have n3_ := Aside0.mk (blk_below (g := gb241) (o := .cells #[.int .i64 a3_0, .int .i64 a3_1, .int .i64 a3_2] 54 (0, 0)) (by (with_reducible repeat (first | refine blk_drewN ?_ _ | refine blk_drew ?_ | refine blk_alloc ?_ _)); refine blk_far ?_ NB241_255.out _; (with_reducible repeat (first | refine blk_drewN ?_ _ | refine blk_drew ?_ | refine blk_alloc ?_ _)); refine blk_far ?_ NB241_255.out _; (with_reducible repeat (first | refine blk_drewN ?_ _ | refine blk_drew ?_ | refine blk_alloc ?_ _)); exact BK241.out) hb); have n4_ := Aside0.mk (blk_below (g := gb242) (o := .cells #[.int .i64 a4_0, .int .i64 a4_1] 25 (0, 0)) (by (with_reducible repeat (first | refine blk_drewN ?_ _ | refine blk_drew ?_ | refine blk_alloc ?_ _)); refine blk_far ?_ NB242_255.out _; (with_reducible repeat (first | refine blk_drewN ?_ _ | refine blk_drew ?_ | refine blk_alloc ?_ _)); refine blk_far ?_ NB242_255.out _; (with_reducible repeat (first | refine blk_drewN ?_ _ | refine blk_drew ?_ | refine blk_alloc ?_ _)); exact BK242.out) hb); have n5_ := Aside0.mk (blk_below (g := gb255) (o := .cells #[.int .i64 t252, .int .i64 t253] 25 (0, 0)) (by (with_reducible repeat (first | refine blk_drewN ?_ _ | refine blk_drew ?_ | refine blk_alloc ?_ _)); refine blk_put (cs := #[.int .i64 t252, .int .i64 0]) ?_ 1 _ rfl; (with_reducible repeat (first | refine blk_drewN ?_ _ | refine blk_drew ?_ | refine blk_alloc ?_ _)); refine blk_put (cs := #[.int .i64 0, .int .i64 0]) ?_ 0 _ rfl; (with_reducible repeat (first | refine blk_drewN ?_ _ | refine blk_drew ?_ | refine blk_alloc ?_ _)); exact BK255.out) hb); have n6_ := Aside0.mk (below_step (by repeat (first | (with_reducible first | exact HB.out | apply below_alloc | apply pw_below_drewN | apply below_drew1 | refine below_set ?_ GE238.out | refine below_set ?_ GE239.out | refine below_set ?_ GE240.out | refine below_set ?_ GE241.out | refine below_set ?_ GE242.out | refine below_set ?_ GE255.out) | exact HB.out)) hb); clear BK238; clear BK239; clear BK240; clear BK241; clear BK242; clear BK255; clear HB; have BK238 := n0_; have BK239 := n1_; have BK240 := n2_; have BK241 := n3_; have BK242 := n4_; have BK255 := n5_; have HB := n6_; clear n0_ n1_ n2_ n3_ n4_ n5_ n6_; (try clear hb); (try clear hb2); (try clear hk); (try clear hi)))
                    go_ret
                    exact ⟨by first | rfl | (simp [errW_none, errW_some] <;> rfl) | (simp [*, errW_none, errW_some] <;> rfl), by repeat (first | (with_reducible first | exact HB.out | apply below_alloc | apply pw_below_drewN | apply below_drew1 | refine below_set ?_ GE238.out | refine below_set ?_ GE239.out | refine below_set ?_ GE240.out | refine below_set ?_ GE241.out | refine below_set ?_ GE242.out | refine below_set ?_ GE255.out) | exact HB.out)⟩
                · rw [if_neg c63] at H
                  have c63b0 : (t254 == 0) = false := beq_eq_false_iff_ne.mpr c63
                  have c63b1 : (t254 != 0) = true := bne_iff_ne.mpr c63
                  obtain rfl := Option.some.inj H
                  have hnb114 := NB238_239.out
                  have hnc114 := NB239_238.out
                  have hnb115 := NB238_240.out
                  have hnc115 := NB240_238.out
                  have hnb116 := NB238_241.out
                  have hnc116 := NB241_238.out
                  have hnb117 := NB238_242.out
                  have hnc117 := NB242_238.out
                  have hcz118_0 : wc.cell? ⟨gb238, 0, none⟩ = some (.int .i64 a0_0) := (blk_cell BK238.out 0).trans rfl
                  have hcz118_1 : wc.cell? ⟨gb238, 1, none⟩ = some (.int .i64 a0_1) := (blk_cell BK238.out 1).trans rfl
                  have hfz118_0 := blk_frozen BK238.out 0
                  have hfz118_1 := blk_frozen BK238.out 1
                  have hnb119 := NB239_240.out
                  have hnc119 := NB240_239.out
                  have hnb120 := NB239_241.out
                  have hnc120 := NB241_239.out
                  have hnb121 := NB239_242.out
                  have hnc121 := NB242_239.out
                  have hcz122_0 : wc.cell? ⟨gb239, 0, none⟩ = some (.int .i64 a1_0) := (blk_cell BK239.out 0).trans rfl
                  have hcz122_1 : wc.cell? ⟨gb239, 1, none⟩ = some (.int .i64 a1_1) := (blk_cell BK239.out 1).trans rfl
                  have hfz122_0 := blk_frozen BK239.out 0
                  have hfz122_1 := blk_frozen BK239.out 1
                  go_wp2_with (first | ((with_reducible refine gate_callee (f := 40) rfl ?_); refine goesL_ (some 116) rfl rfl Try.func40 (by kernel_rfl) rfl #[.agg #[.int .i64 a0_0, .int .i64 a0_1], .agg #[.int .i64 a1_0, .int .i64 a1_1]] rfl (by (try simp only [List.map_toArray, List.map_cons, List.map_nil]); first | done | rfl | (simp only [List.length_drop, List.length_take]; rfl)) ?_; (with_reducible refine (vec_Add.calls kj56 a0_0 a0_1 a1_0 a1_1 t252 t253 t254 _ A62.out).mono ?_); rintro e w123 ⟨rfl, hb⟩; refine ⟨_, rfl, ?_⟩; have n0_ := Aside0.mk (blk_below (g := gb238) (o := .cells #[.int .i64 a0_0, .int .i64 a0_1] 25 (0, 0)) (by (with_reducible repeat (first | refine blk_drewN ?_ _ | refine blk_drew ?_ | refine blk_alloc ?_ _)); exact BK238.out) hb); have n1_ := Aside0.mk (blk_below (g := gb239) (o := .cells #[.int .i64 a1_0, .int .i64 a1_1] 25 (0, 0)) (by (with_reducible repeat (first | refine blk_drewN ?_ _ | refine blk_drew ?_ | refine blk_alloc ?_ _)); exact BK239.out) hb); have n2_ := Aside0.mk (blk_below (g := gb240) (o := .cells #[.int .i64 a2_0, .int .i64 a2_1] 25 (0, 0)) (by (with_reducible repeat (first | refine blk_drewN ?_ _ | refine blk_drew ?_ | refine blk_alloc ?_ _)); exact BK240.out) hb); have n3_ := Aside0.mk (blk_below (g := gb241) (o := .cells #[.int .i64 a3_0, .int .i64 a3_1, .int .i64 a3_2] 54 (0, 0)) (by (with_reducible repeat (first | refine blk_drewN ?_ _ | refine blk_drew ?_ | refine blk_alloc ?_ _)); exact BK241.out) hb); have n4_ := Aside0.mk (blk_below (g := gb242) (o := .cells #[.int .i64 a4_0, .int .i64 a4_1] 25 (0, 0)) (by (with_reducible repeat (first | refine blk_drewN ?_ _ | refine blk_drew ?_ | refine blk_alloc ?_ _)); exact BK242.out) hb); have n5_ := Aside0.mk (below_step (by repeat (first | (with_reducible first | exact HB.out | apply below_alloc | apply pw_below_drewN | apply below_drew1 | refine below_set ?_ GE238.out | refine below_set ?_ GE239.out | refine below_set ?_ GE240.out | refine below_set ?_ GE241.out | refine below_set ?_ GE242.out) | exact HB.out)) hb); clear BK238; clear BK239; clear BK240; clear BK241; clear BK242; clear HB; have BK238 := n0_; have BK239 := n1_; have BK240 := n2_; have BK241 := n3_; have BK242 := n4_; have HB := n5_; clear n0_ n1_ n2_ n3_ n4_ n5_; (try clear hb); (try clear hb2); (try clear hk); (try clear hi)) | ((with_reducible refine gate_dst (N := 19) rfl ?_); refine box_event ?hg (N := 19) ?hd (cs := #[.int .i64 0, .int .i64 0]) (t := 25) ?hr ?_; (case hd => rfl); (case hg => rfl); (case hr => first | (go_simp; done) | (go_simp; rfl)); intro gb255 hg w124 hbox hb; have n0_ := Aside0.mk (blk_below (g := gb238) (o := .cells #[.int .i64 a0_0, .int .i64 a0_1] 25 (0, 0)) (by (with_reducible repeat (first | refine blk_drewN ?_ _ | refine blk_drew ?_ | refine blk_alloc ?_ _)); exact BK238.out) hb); have n1_ := Aside0.mk (blk_below (g := gb239) (o := .cells #[.int .i64 a1_0, .int .i64 a1_1] 25 (0, 0)) (by (with_reducible repeat (first | refine blk_drewN ?_ _ | refine blk_drew ?_ | refine blk_alloc ?_ _)); exact BK239.out) hb); have n2_ := Aside0.mk (blk_below (g := gb240) (o := .cells #[.int .i64 a2_0, .int .i64 a2_1] 25 (0, 0)) (by (with_reducible repeat (first | refine blk_drewN ?_ _ | refine blk_drew ?_ | refine blk_alloc ?_ _)); exact BK240.out) hb); have n3_ := Aside0.mk (blk_below (g := gb241) (o := .cells #[.int .i64 a3_0, .int .i64 a3_1, .int .i64 a3_2] 54 (0, 0)) (by (with_reducible repeat (first | refine blk_drewN ?_ _ | refine blk_drew ?_ | refine blk_alloc ?_ _)); exact BK241.out) hb); have n4_ := Aside0.mk (blk_below (g := gb242) (o := .cells #[.int .i64 a4_0, .int .i64 a4_1] 25 (0, 0)) (by (with_reducible repeat (first | refine blk_drewN ?_ _ | refine blk_drew ?_ | refine blk_alloc ?_ _)); exact BK242.out) hb); have n5_ := Aside0.mk (below_step (by repeat (first | (with_reducible first | exact HB.out | apply below_alloc | apply pw_below_drewN | apply below_drew1 | refine below_set ?_ GE238.out | refine below_set ?_ GE239.out | refine below_set ?_ GE240.out | refine below_set ?_ GE241.out | refine below_set ?_ GE242.out) | exact HB.out)) hb); have n6_ := Aside0.mk (hbox); have n7_ := Aside0.mk ((by rw [hg]; exact (below_size (by repeat (first | (with_reducible first | exact HB.out | apply below_alloc | apply pw_below_drewN | apply below_drew1 | refine below_set ?_ GE238.out | refine below_set ?_ GE239.out | refine below_set ?_ GE240.out | refine below_set ?_ GE241.out | refine below_set ?_ GE242.out) | exact HB.out))) : w.heap.size ≤ gb255)); have n8_ := Aside0.mk ((by rw [hg]; exact (below_size (by repeat (first | (with_reducible first | exact HB.out | apply below_alloc | apply pw_below_drewN | apply below_drew1 | refine below_set ?_ GE238.out | refine below_set ?_ GE239.out | refine below_set ?_ GE240.out | refine below_set ?_ GE241.out | refine below_set ?_ GE242.out) | exact HB.out))) : w.heap.size ≤ gb255)); have n9_ := Aside0.mk ((by rw [hg]; exact Nat.ne_of_lt (blk_lt (g := gb238) (o := .cells #[.int .i64 a0_0, .int .i64 a0_1] 25 (0, 0)) (by (with_reducible repeat (first | refine blk_drewN ?_ _ | refine blk_drew ?_ | refine blk_alloc ?_ _)); exact BK238.out)) : gb238 ≠ gb255)); have n10_ := Aside0.mk ((by rw [hg]; exact Nat.ne_of_gt (blk_lt (g := gb238) (o := .cells #[.int .i64 a0_0, .int .i64 a0_1] 25 (0, 0)) (by (with_reducible repeat (first | refine blk_drewN ?_ _ | refine blk_drew ?_ | refine blk_alloc ?_ _)); exact BK238.out)) : gb255 ≠ gb238)); have n11_ := Aside0.mk ((by rw [hg]; exact Nat.ne_of_lt (blk_lt (g := gb239) (o := .cells #[.int .i64 a1_0, .int .i64 a1_1] 25 (0, 0)) (by (with_reducible repeat (first | refine blk_drewN ?_ _ | refine blk_drew ?_ | refine blk_alloc ?_ _)); exact BK239.out)) : gb239 ≠ gb255)); have n12_ := Aside0.mk ((by rw [hg]; exact Nat.ne_of_gt (blk_lt (g := gb239) (o := .cells #[.int .i64 a1_0, .int .i64 a1_1] 25 (0, 0)) (by (with_reducible repeat (first | refine blk_drewN ?_ _ | refine blk_drew ?_ | refine blk_alloc ?_ _)); exact BK239.out)) : gb255 ≠ gb239)); have n13_ := Aside0.mk ((by rw [hg]; exact Nat.ne_of_lt (blk_lt (g := gb240) (o := .cells #[.int .i64 a2_0, .int .i64 a2_1] 25 (0, 0)) (by (with_reducible repeat (first | refine blk_drewN ?_ _ | refine blk_drew ?_ | refine blk_alloc ?_ _)); exact BK240.out)) : gb240 ≠ gb255)); have n14_ := Aside0.mk ((by rw [hg]; exact Nat.ne_of_gt (blk_lt (g := gb240) (o := .cells #[.int .i64 a2_0, .int .i64 a2_1] 25 (0, 0)) (by (with_reducible repeat (first | refine blk_drewN ?_ _ | refine blk_drew ?_ | refine blk_alloc ?_ _)); exact BK240.out)) : gb255 ≠ gb240)); have n15_ := Aside0.mk ((by rw [hg]; exact Nat.ne_of_lt (blk_lt (g := gb241) (o := .cells #[.int .i64 a3_0, .int .i64 a3_1, .int .i64 a3_2] 54 (0, 0)) (by (with_reducible repeat (first | refine blk_drewN ?_ _ | refine blk_drew ?_ | refine blk_alloc ?_ _)); exact BK241.out)) : gb241 ≠ gb255)); have n16_ := Aside0.mk ((by rw [hg]; exact Nat.ne_of_gt (blk_lt (g := gb241) (o := .cells #[.int .i64 a3_0, .int .i64 a3_1, .int .i64 a3_2] 54 (0, 0)) (by (with_reducible repeat (first | refine blk_drewN ?_ _ | refine blk_drew ?_ | refine blk_alloc ?_ _)); exact BK241.out)) : gb255 ≠ gb241)); have n17_ := Aside0.mk ((by rw [hg]; exact Nat.ne_of_lt (blk_lt (g := gb242) (o := .cells #[.int .i64 a4_0, .int .i64 a4_1] 25 (0, 0)) (by (with_reducible repeat (first | refine blk_drewN ?_ _ | refine blk_drew ?_ | refine blk_alloc ?_ _)); exact BK242.out)) : gb242 ≠ gb255)); have n18_ := Aside0.mk ((by rw [hg]; exact Nat.ne_of_gt (blk_lt (g := gb242) (o := .cells #[.int .i64 a4_0, .int .i64 a4_1] 25 (0, 0)) (by (with_reducible repeat (first | refine blk_drewN ?_ _ | refine blk_drew ?_ | refine blk_alloc ?_ _)); exact BK242.out)) : gb255 ≠ gb242)); clear BK238; clear BK239; clear BK240; clear BK241; clear BK242; clear HB; have BK238 := n0_; have BK239 := n1_; have BK240 := n2_; have BK241 := n3_; have BK242 := n4_; have HB := n5_; have BK255 := n6_; have GW255 := n7_; have GE255 := n8_; have NB238_255 := n9_; have NB255_238 := n10_; have NB239_255 := n11_; have NB255_239 := n12_; have NB240_255 := n13_; have NB255_240 := n14_; have NB241_255 := n15_; have NB255_241 := n16_; have NB242_255 := n17_; have NB255_242 := n18_; clear n0_ n1_ n2_ n3_ n4_ n5_ n6_ n7_ n8_ n9_ n10_ n11_ n12_ n13_ n14_ n15_ n16_ n17_ n18_; clear hb hbox hg; have hnb125 := NB255_238.out; have hnc125 := NB238_255.out; have hnb126 := NB255_239.out; have hnc126 := NB239_255.out; have hnb127 := NB255_240.out; have hnc127 := NB240_255.out; have hnb128 := NB255_241.out; have hnc128 := NB241_255.out; have hnb129 := NB255_242.out; have hnc129 := NB242_255.out; have hcz130_0 : w124.cell? ⟨gb255, 0, none⟩ = some (.int .i64 0) := (blk_cell BK255.out 0).trans rfl; have hcz130_1 : w124.cell? ⟨gb255, 1, none⟩ = some (.int .i64 0) := (blk_cell BK255.out 1).trans rfl; have hfz130_0 := blk_frozen BK255.out 0; have hfz130_1 := blk_frozen BK255.out 1))
                  go_ret
                  exact ⟨by first | rfl | (simp [errW_none, errW_some] <;> rfl) | (simp [*, errW_none, errW_some] <;> rfl), by repeat (first | (with_reducible first | exact HB.out | apply below_alloc | apply pw_below_drewN | apply below_drew1 | refine below_set ?_ GE238.out | refine below_set ?_ GE239.out | refine below_set ?_ GE240.out | refine below_set ?_ GE241.out | refine below_set ?_ GE242.out | refine below_set ?_ GE255.out) | exact HB.out)⟩
  · replace c7 := Bool.eq_false_iff.mpr c7
    subst c7
    have H1 : (some false) = some r := by rw [if_neg (show ¬ (false = true) by decide)] at H; exact H
    clear H
    have H := H1
    clear H1
    obtain rfl := Option.some.inj H
    go_enter Try.func12, Try.ntmps12
    go_wp2_with (first | ((with_reducible refine gate_dst (N := 5) rfl ?_); refine box_event ?hg (N := 5) ?hd (cs := #[.int .i64 a0_0, .int .i64 a0_1]) (t := 25) ?hr ?_; (case hd => rfl); (case hg => rfl); (case hr => first | (go_simp; done) | (go_simp; rfl)); intro gb238 hg w131 hbox hb; have n0_ := Aside0.mk (below_step (by repeat (first | (with_reducible first | exact HB.out | apply below_alloc | apply pw_below_drewN | apply below_drew1) | exact HB.out)) hb); have n1_ := Aside0.mk (hbox); have n2_ := Aside0.mk ((by rw [hg]; exact (below_size (by repeat (first | (with_reducible first | exact HB.out | apply below_alloc | apply pw_below_drewN | apply below_drew1) | exact HB.out))) : w.heap.size ≤ gb238)); have n3_ := Aside0.mk ((by rw [hg]; exact (below_size (by repeat (first | (with_reducible first | exact HB.out | apply below_alloc | apply pw_below_drewN | apply below_drew1) | exact HB.out))) : w.heap.size ≤ gb238)); clear HB; have HB := n0_; have BK238 := n1_; have GW238 := n2_; have GE238 := n3_; clear n0_ n1_ n2_ n3_; clear hb hbox hg) | ((with_reducible refine gate_dst (N := 6) rfl ?_); refine box_event ?hg (N := 6) ?hd (cs := #[.int .i64 a1_0, .int .i64 a1_1]) (t := 25) ?hr ?_; (case hd => rfl); (case hg => rfl); (case hr => first | (go_simp; done) | (go_simp; rfl)); intro gb239 hg w132 hbox hb; have n0_ := Aside0.mk (blk_below (g := gb238) (o := .cells #[.int .i64 a0_0, .int .i64 a0_1] 25 (0, 0)) (by (with_reducible repeat (first | refine blk_drewN ?_ _ | refine blk_drew ?_ | refine blk_alloc ?_ _)); exact BK238.out) hb); have n1_ := Aside0.mk (below_step (by repeat (first | (with_reducible first | exact HB.out | apply below_alloc | apply pw_below_drewN | apply below_drew1 | refine below_set ?_ GE238.out) | exact HB.out)) hb); have n2_ := Aside0.mk (hbox); have n3_ := Aside0.mk ((by rw [hg]; exact (below_size (by repeat (first | (with_reducible first | exact HB.out | apply below_alloc | apply pw_below_drewN | apply below_drew1 | refine below_set ?_ GE238.out) | exact HB.out))) : w.heap.size ≤ gb239)); have n4_ := Aside0.mk ((by rw [hg]; exact (below_size (by repeat (first | (with_reducible first | exact HB.out | apply below_alloc | apply pw_below_drewN | apply below_drew1 | refine below_set ?_ GE238.out) | exact HB.out))) : w.heap.size ≤ gb239)); have n5_ := Aside0.mk ((by rw [hg]; exact Nat.ne_of_lt (blk_lt (g := gb238) (o := .cells #[.int .i64 a0_0, .int .i64 a0_1] 25 (0, 0)) (by (with_reducible repeat (first | refine blk_drewN ?_ _ | refine blk_drew ?_ | refine blk_alloc ?_ _)); exact BK238.out)) : gb238 ≠ gb239)); have n6_ := Aside0.mk ((by rw [hg]; exact Nat.ne_of_gt (blk_lt (g := gb238) (o := .cells #[.int .i64 a0_0, .int .i64 a0_1] 25 (0, 0)) (by (with_reducible repeat (first | refine blk_drewN ?_ _ | refine blk_drew ?_ | refine blk_alloc ?_ _)); exact BK238.out)) : gb239 ≠ gb238)); clear BK238; clear HB; have BK238 := n0_; have HB := n1_; have BK239 := n2_; have GW239 := n3_; have GE239 := n4_; have NB238_239 := n5_; have NB239_238 := n6_; clear n0_ n1_ n2_ n3_ n4_ n5_ n6_; clear hb hbox hg) | ((with_reducible refine gate_dst (N := 7) rfl ?_); refine box_event ?hg (N := 7) ?hd (cs := #[.int .i64 a2_0, .int .i64 a2_1]) (t := 25) ?hr ?_; (case hd => rfl); (case hg => rfl); (case hr => first | (go_simp; done) | (go_simp; rfl)); intro gb240 hg w133 hbox hb; have n0_ := Aside0.mk (blk_below (g := gb238) (o := .cells #[.int .i64 a0_0, .int .i64 a0_1] 25 (0, 0)) (by (with_reducible repeat (first | refine blk_drewN ?_ _ | refine blk_drew ?_ | refine blk_alloc ?_ _)); exact BK238.out) hb); have n1_ := Aside0.mk (blk_below (g := gb239) (o := .cells #[.int .i64 a1_0, .int .i64 a1_1] 25 (0, 0)) (by (with_reducible repeat (first | refine blk_drewN ?_ _ | refine blk_drew ?_ | refine blk_alloc ?_ _)); exact BK239.out) hb); have n2_ := Aside0.mk (below_step (by repeat (first | (with_reducible first | exact HB.out | apply below_alloc | apply pw_below_drewN | apply below_drew1 | refine below_set ?_ GE238.out | refine below_set ?_ GE239.out) | exact HB.out)) hb); have n3_ := Aside0.mk (hbox); have n4_ := Aside0.mk ((by rw [hg]; exact (below_size (by repeat (first | (with_reducible first | exact HB.out | apply below_alloc | apply pw_below_drewN | apply below_drew1 | refine below_set ?_ GE238.out | refine below_set ?_ GE239.out) | exact HB.out))) : w.heap.size ≤ gb240)); have n5_ := Aside0.mk ((by rw [hg]; exact (below_size (by repeat (first | (with_reducible first | exact HB.out | apply below_alloc | apply pw_below_drewN | apply below_drew1 | refine below_set ?_ GE238.out | refine below_set ?_ GE239.out) | exact HB.out))) : w.heap.size ≤ gb240)); have n6_ := Aside0.mk ((by rw [hg]; exact Nat.ne_of_lt (blk_lt (g := gb238) (o := .cells #[.int .i64 a0_0, .int .i64 a0_1] 25 (0, 0)) (by (with_reducible repeat (first | refine blk_drewN ?_ _ | refine blk_drew ?_ | refine blk_alloc ?_ _)); exact BK238.out)) : gb238 ≠ gb240)); have n7_ := Aside0.mk ((by rw [hg]; exact Nat.ne_of_gt (blk_lt (g := gb238) (o := .cells #[.int .i64 a0_0, .int .i64 a0_1] 25 (0, 0)) (by (with_reducible repeat (first | refine blk_drewN ?_ _ | refine blk_drew ?_ | refine blk_alloc ?_ _)); exact BK238.out)) : gb240 ≠ gb238)); have n8_ := Aside0.mk ((by rw [hg]; exact Nat.ne_of_lt (blk_lt (g := gb239) (o := .cells #[.int .i64 a1_0, .int .i64 a1_1] 25 (0, 0)) (by (with_reducible repeat (first | refine blk_drewN ?_ _ | refine blk_drew ?_ | refine blk_alloc ?_ _)); exact BK239.out)) : gb239 ≠ gb240)); have n9_ := Aside0.mk ((by rw [hg]; exact Nat.ne_of_gt (blk_lt (g := gb239) (o := .cells #[.int .i64 a1_0, .int .i64 a1_1] 25 (0, 0)) (by (with_reducible repeat (first | refine blk_drewN ?_ _ | refine blk_drew ?_ | refine blk_alloc ?_ _)); exact BK239.out)) : gb240 ≠ gb239)); clear BK238; clear BK239; clear HB; have BK238 := n0_; have BK239 := n1_; have HB := n2_; have BK240 := n3_; have GW240 := n4_; have GE240 := n5_; have NB238_240 := n6_; have NB240_238 := n7_; have NB239_240 := n8_; have NB240_239 := n9_; clear n0_ n1_ n2_ n3_ n4_ n5_ n6_ n7_ n8_ n9_; clear hb hbox hg) | ((with_reducible refine gate_dst (N := 8) rfl ?_); refine box_event ?hg (N := 8) ?hd (cs := #[.int .i64 a3_0, .int .i64 a3_1, .int .i64 a3_2]) (t := 54) ?hr ?_; (case hd => rfl); (case hg => rfl); (case hr => first | (go_simp; done) | (go_simp; rfl)); intro gb241 hg w134 hbox hb; have n0_ := Aside0.mk (blk_below (g := gb238) (o := .cells #[.int .i64 a0_0, .int .i64 a0_1] 25 (0, 0)) (by (with_reducible repeat (first | refine blk_drewN ?_ _ | refine blk_drew ?_ | refine blk_alloc ?_ _)); exact BK238.out) hb); have n1_ := Aside0.mk (blk_below (g := gb239) (o := .cells #[.int .i64 a1_0, .int .i64 a1_1] 25 (0, 0)) (by (with_reducible repeat (first | refine blk_drewN ?_ _ | refine blk_drew ?_ | refine blk_alloc ?_ _)); exact BK239.out) hb); have n2_ := Aside0.mk (blk_below (g := gb240) (o := .cells #[.int .i64 a2_0, .int .i64 a2_1] 25 (0, 0)) (by (with_reducible repeat (first | refine blk_drewN ?_ _ | refine blk_drew ?_ | refine blk_alloc ?_ _)); exact BK240.out) hb); have n3_ := Aside0.mk (below_step (by repeat (first | (with_reducible first | exact HB.out | apply below_alloc | apply pw_below_drewN | apply below_drew1 | refine below_set ?_ GE238.out | refine below_set ?_ GE239.out | refine below_set ?_ GE240.out) | exact HB.out)) hb); have n4_ := Aside0.mk (hbox); have n5_ := Aside0.mk ((by rw [hg]; exact (below_size (by repeat (first | (with_reducible first | exact HB.out | apply below_alloc | apply pw_below_drewN | apply below_drew1 | refine below_set ?_ GE238.out | refine below_set ?_ GE239.out | refine below_set ?_ GE240.out) | exact HB.out))) : w.heap.size ≤ gb241)); have n6_ := Aside0.mk ((by rw [hg]; exact (below_size (by repeat (first | (with_reducible first | exact HB.out | apply below_alloc | apply pw_below_drewN | apply below_drew1 | refine below_set ?_ GE238.out | refine below_set ?_ GE239.out | refine below_set ?_ GE240.out) | exact HB.out))) : w.heap.size ≤ gb241)); have n7_ := Aside0.mk ((by rw [hg]; exact Nat.ne_of_lt (blk_lt (g := gb238) (o := .cells #[.int .i64 a0_0, .int .i64 a0_1] 25 (0, 0)) (by (with_reducible repeat (first | refine blk_drewN ?_ _ | refine blk_drew ?_ | refine blk_alloc ?_ _)); exact BK238.out)) : gb238 ≠ gb241)); have n8_ := Aside0.mk ((by rw [hg]; exact Nat.ne_of_gt (blk_lt (g := gb238) (o := .cells #[.int .i64 a0_0, .int .i64 a0_1] 25 (0, 0)) (by (with_reducible repeat (first | refine blk_drewN ?_ _ | refine blk_drew ?_ | refine blk_alloc ?_ _)); exact BK238.out)) : gb241 ≠ gb238)); have n9_ := Aside0.mk ((by rw [hg]; exact Nat.ne_of_lt (blk_lt (g := gb239) (o := .cells #[.int .i64 a1_0, .int .i64 a1_1] 25 (0, 0)) (by (with_reducible repeat (first | refine blk_drewN ?_ _ | refine blk_drew ?_ | refine blk_alloc ?_ _)); exact BK239.out)) : gb239 ≠ gb241)); have n10_ := Aside0.mk ((by rw [hg]; exact Nat.ne_of_gt (blk_lt (g := gb239) (o := .cells #[.int .i64 a1_0, .int .i64 a1_1] 25 (0, 0)) (by (with_reducible repeat (first | refine blk_drewN ?_ _ | refine blk_drew ?_ | refine blk_alloc ?_ _)); exact BK239.out)) : gb241 ≠ gb239)); have n11_ := Aside0.mk ((by rw [hg]; exact Nat.ne_of_lt (blk_lt (g := gb240) (o := .cells #[.int .i64 a2_0, .int .i64 a2_1] 25 (0, 0)) (by (with_reducible repeat (first | refine blk_drewN ?_ _ | refine blk_drew ?_ | refine blk_alloc ?_ _)); exact BK240.out)) : gb240 ≠ gb241)); have n12_ := Aside0.mk ((by rw [hg]; exact Nat.ne_of_gt (blk_lt (g := gb240) (o := .cells #[.int .i64 a2_0, .int .i64 a2_1] 25 (0, 0)) (by (with_reducible repeat (first | refine blk_drewN ?_ _ | refine blk_drew ?_ | refine blk_alloc ?_ _)); exact BK240.out)) : gb241 ≠ gb240)); clear BK238; clear BK239; clear BK240; clear HB; have BK238 := n0_; have BK239 := n1_; have BK240 := n2_; have HB := n3_; have BK241 := n4_; have GW241 := n5_; have GE241 := n6_; have NB238_241 := n7_; have NB241_238 := n8_; have NB239_241 := n9_; have NB241_239 := n10_; have NB240_241 := n11_; have NB241_240 := n12_; clear n0_ n1_ n2_ n3_ n4_ n5_ n6_ n7_ n8_ n9_ n10_ n11_ n12_; clear hb hbox hg) | ((with_reducible refine gate_dst (N := 9) rfl ?_); refine box_event ?hg (N := 9) ?hd (cs := #[.int .i64 a4_0, .int .i64 a4_1]) (t := 25) ?hr ?_; (case hd => rfl); (case hg => rfl); (case hr => first | (go_simp; done) | (go_simp; rfl)); intro gb242 hg w135 hbox hb; have n0_ := Aside0.mk (blk_below (g := gb238) (o := .cells #[.int .i64 a0_0, .int .i64 a0_1] 25 (0, 0)) (by (with_reducible repeat (first | refine blk_drewN ?_ _ | refine blk_drew ?_ | refine blk_alloc ?_ _)); exact BK238.out) hb); have n1_ := Aside0.mk (blk_below (g := gb239) (o := .cells #[.int .i64 a1_0, .int .i64 a1_1] 25 (0, 0)) (by (with_reducible repeat (first | refine blk_drewN ?_ _ | refine blk_drew ?_ | refine blk_alloc ?_ _)); exact BK239.out) hb); have n2_ := Aside0.mk (blk_below (g := gb240) (o := .cells #[.int .i64 a2_0, .int .i64 a2_1] 25 (0, 0)) (by (with_reducible repeat (first | refine blk_drewN ?_ _ | refine blk_drew ?_ | refine blk_alloc ?_ _)); exact BK240.out) hb); have n3_ := Aside0.mk (blk_below (g := gb241) (o := .cells #[.int .i64 a3_0, .int .i64 a3_1, .int .i64 a3_2] 54 (0, 0)) (by (with_reducible repeat (first | refine blk_drewN ?_ _ | refine blk_drew ?_ | refine blk_alloc ?_ _)); exact BK241.out) hb); have n4_ := Aside0.mk (below_step (by repeat (first | (with_reducible first | exact HB.out | apply below_alloc | apply pw_below_drewN | apply below_drew1 | refine below_set ?_ GE238.out | refine below_set ?_ GE239.out | refine below_set ?_ GE240.out | refine below_set ?_ GE241.out) | exact HB.out)) hb); have n5_ := Aside0.mk (hbox); have n6_ := Aside0.mk ((by rw [hg]; exact (below_size (by repeat (first | (with_reducible first | exact HB.out | apply below_alloc | apply pw_below_drewN | apply below_drew1 | refine below_set ?_ GE238.out | refine below_set ?_ GE239.out | refine below_set ?_ GE240.out | refine below_set ?_ GE241.out) | exact HB.out))) : w.heap.size ≤ gb242)); have n7_ := Aside0.mk ((by rw [hg]; exact (below_size (by repeat (first | (with_reducible first | exact HB.out | apply below_alloc | apply pw_below_drewN | apply below_drew1 | refine below_set ?_ GE238.out | refine below_set ?_ GE239.out | refine below_set ?_ GE240.out | refine below_set ?_ GE241.out) | exact HB.out))) : w.heap.size ≤ gb242)); have n8_ := Aside0.mk ((by rw [hg]; exact Nat.ne_of_lt (blk_lt (g := gb238) (o := .cells #[.int .i64 a0_0, .int .i64 a0_1] 25 (0, 0)) (by (with_reducible repeat (first | refine blk_drewN ?_ _ | refine blk_drew ?_ | refine blk_alloc ?_ _)); exact BK238.out)) : gb238 ≠ gb242)); have n9_ := Aside0.mk ((by rw [hg]; exact Nat.ne_of_gt (blk_lt (g := gb238) (o := .cells #[.int .i64 a0_0, .int .i64 a0_1] 25 (0, 0)) (by (with_reducible repeat (first | refine blk_drewN ?_ _ | refine blk_drew ?_ | refine blk_alloc ?_ _)); exact BK238.out)) : gb242 ≠ gb238)); have n10_ := Aside0.mk ((by rw [hg]; exact Nat.ne_of_lt (blk_lt (g := gb239) (o := .cells #[.int .i64 a1_0, .int .i64 a1_1] 25 (0, 0)) (by (with_reducible repeat (first | refine blk_drewN ?_ _ | refine blk_drew ?_ | refine blk_alloc ?_ _)); exact BK239.out)) : gb239 ≠ gb242)); have n11_ := Aside0.mk ((by rw [hg]; exact Nat.ne_of_gt (blk_lt (g := gb239) (o := .cells #[.int .i64 a1_0, .int .i64 a1_1] 25 (0, 0)) (by (with_reducible repeat (first | refine blk_drewN ?_ _ | refine blk_drew ?_ | refine blk_alloc ?_ _)); exact BK239.out)) : gb242 ≠ gb239)); have n12_ := Aside0.mk ((by rw [hg]; exact Nat.ne_of_lt (blk_lt (g := gb240) (o := .cells #[.int .i64 a2_0, .int .i64 a2_1] 25 (0, 0)) (by (with_reducible repeat (first | refine blk_drewN ?_ _ | refine blk_drew ?_ | refine blk_alloc ?_ _)); exact BK240.out)) : gb240 ≠ gb242)); have n13_ := Aside0.mk ((by rw [hg]; exact Nat.ne_of_gt (blk_lt (g := gb240) (o := .cells #[.int .i64 a2_0, .int .i64 a2_1] 25 (0, 0)) (by (with_reducible repeat (first | refine blk_drewN ?_ _ | refine blk_drew ?_ | refine blk_alloc ?_ _)); exact BK240.out)) : gb242 ≠ gb240)); have n14_ := Aside0.mk ((by rw [hg]; exact Nat.ne_of_lt (blk_lt (g := gb241) (o := .cells #[.int .i64 a3_0, .int .i64 a3_1, .int .i64 a3_2] 54 (0, 0)) (by (with_reducible repeat (first | refine blk_drewN ?_ _ | refine blk_drew ?_ | refine blk_alloc ?_ _)); exact BK241.out)) : gb241 ≠ gb242)); have n15_ := Aside0.mk ((by rw [hg]; exact Nat.ne_of_gt (blk_lt (g := gb241) (o := .cells #[.int .i64 a3_0, .int .i64 a3_1, .int .i64 a3_2] 54 (0, 0)) (by (with_reducible repeat (first | refine blk_drewN ?_ _ | refine blk_drew ?_ | refine blk_alloc ?_ _)); exact BK241.out)) : gb242 ≠ gb241)); clear BK238; clear BK239; clear BK240; clear BK241; clear HB; have BK238 := n0_; have BK239 := n1_; have BK240 := n2_; have BK241 := n3_; have HB := n4_; have BK242 := n5_; have GW242 := n6_; have GE242 := n7_; have NB238_242 := n8_; have NB242_238 := n9_; have NB239_242 := n10_; have NB242_239 := n11_; have NB240_242 := n12_; have NB242_240 := n13_; have NB241_242 := n14_; have NB242_241 := n15_; clear n0_ n1_ n2_ n3_ n4_ n5_ n6_ n7_ n8_ n9_ n10_ n11_ n12_ n13_ n14_ n15_; clear hb hbox hg) | ((with_reducible refine gate_callee (f := 37) rfl ?_); refine goesL_ (some 23) rfl rfl Try.func37 (by kernel_rfl) rfl #[] rfl (by (try simp only [List.map_toArray, List.map_cons, List.map_nil]); first | done | rfl | (simp only [List.length_drop, List.length_take]; rfl)) ?_; (with_reducible refine (furlonglaw02_awake.calls k  false _ A6.out).mono ?_); rintro e w136 ⟨rfl, hb⟩; refine ⟨_, rfl, ?_⟩; have n0_ := Aside0.mk (blk_below (g := gb238) (o := .cells #[.int .i64 a0_0, .int .i64 a0_1] 25 (0, 0)) (by (with_reducible repeat (first | refine blk_drewN ?_ _ | refine blk_drew ?_ | refine blk_alloc ?_ _)); exact BK238.out) hb); have n1_ := Aside0.mk (blk_below (g := gb239) (o := .cells #[.int .i64 a1_0, .int .i64 a1_1] 25 (0, 0)) (by (with_reducible repeat (first | refine blk_drewN ?_ _ | refine blk_drew ?_ | refine blk_alloc ?_ _)); exact BK239.out) hb); have n2_ := Aside0.mk (blk_below (g := gb240) (o := .cells #[.int .i64 a2_0, .int .i64 a2_1] 25 (0, 0)) (by (with_reducible repeat (first | refine blk_drewN ?_ _ | refine blk_drew ?_ | refine blk_alloc ?_ _)); exact BK240.out) hb); have n3_ := Aside0.mk (blk_below (g := gb241) (o := .cells #[.int .i64 a3_0, .int .i64 a3_1, .int .i64 a3_2] 54 (0, 0)) (by (with_reducible repeat (first | refine blk_drewN ?_ _ | refine blk_drew ?_ | refine blk_alloc ?_ _)); exact BK241.out) hb); have n4_ := Aside0.mk (blk_below (g := gb242) (o := .cells #[.int .i64 a4_0, .int .i64 a4_1] 25 (0, 0)) (by (with_reducible repeat (first | refine blk_drewN ?_ _ | refine blk_drew ?_ | refine blk_alloc ?_ _)); exact BK242.out) hb); have n5_ := Aside0.mk (below_step (by repeat (first | (with_reducible first | exact HB.out | apply below_alloc | apply pw_below_drewN | apply below_drew1 | refine below_set ?_ GE238.out | refine below_set ?_ GE239.out | refine below_set ?_ GE240.out | refine below_set ?_ GE241.out | refine below_set ?_ GE242.out) | exact HB.out)) hb); clear BK238; clear BK239; clear BK240; clear BK241; clear BK242; clear HB; have BK238 := n0_; have BK239 := n1_; have BK240 := n2_; have BK241 := n3_; have BK242 := n4_; have HB := n5_; clear n0_ n1_ n2_ n3_ n4_ n5_; (try clear hb); (try clear hb2); (try clear hk); (try clear hi)))
    go_ret
    exact ⟨by first | rfl | (simp [errW_none, errW_some] <;> rfl) | (simp [*, errW_none, errW_some] <;> rfl), by repeat (first | (with_reducible first | exact HB.out | apply below_alloc | apply pw_below_drewN | apply below_drew1 | refine below_set ?_ GE238.out | refine below_set ?_ GE239.out | refine below_set ?_ GE240.out | refine below_set ?_ GE241.out | refine below_set ?_ GE242.out) | exact HB.out)⟩

def furlonglaw02_VecAlike.f (k : Nat) (a0_0 : Int) (a0_1 : Int) (a1 : Int) (a2_0 : Int) (a2_1 : Int) : Option (Bool) := (furlonglaw02_awake.f k).bind fun t260 => (if t260 = true then ((furlongref02_Check.f k (([(⟨a0_0, a0_1⟩ : S25), (⟨a2_0, a2_1⟩ : S25)] : List (S25)))).bind fun t264 => (if t264 = 0 then (if a1 < 1 then (some true) else (if a1 > 524288 then (some true) else (if a0_0 > 549755813888 then (some true) else (if a0_1 > 549755813888 then (some true) else ((vec_Less.f k a0_0 a0_1 a1 (wrap64 (2 * a0_0)) (wrap64 (2 * a0_1)) (wrap64 (2 * a1)) a2_0 a2_1).bind fun bt265 => (if bt265.2 = 0 then (some (bt265.1 == 0)) else (some false))))))) else (some true))) else (some false))
theorem furlonglaw02_VecAlike.mono : ∀ a0 a1 a2 a3 a4 k, LeO (furlonglaw02_VecAlike.f k a0 a1 a2 a3 a4) (furlonglaw02_VecAlike.f (k + 1) a0 a1 a2 a3 a4) := by
  intro a0 a1 a2 a3 a4 k
  unfold furlonglaw02_VecAlike.f
  repeat' first
      | (with_reducible exact furlonglaw02_awake.mono _)
      | (with_reducible exact furlongref02_Check.mono _ _)
      | (with_reducible exact vec_Less.mono _ _ _ _ _ _ _ _ _)
      | (with_reducible exact LeO.refl _)
      | (with_reducible exact LeO.none _)
      | (with_reducible refine LeO.ite ?_ ?_)
      | (with_reducible refine LeO.bind ?_ (fun _ => ?_))
      | exact furlonglaw02_awake.mono _
      | exact furlongref02_Check.mono _ _
      | exact vec_Less.mono _ _ _ _ _ _ _ _ _
      | exact LeO.none _
      | refine LeO.ite ?_ ?_
      | refine LeO.bind ?_ (fun _ => ?_)
end Go.Proofs.Ytkbcjagkacijnaa.PVec
end
section
namespace Go.Proofs.Ytkbcjagkacijnaa.VecLib
set_option linter.unusedVariables false
set_option linter.unusedSimpArgs false
open Go.RowKit Go.Proofs.Ytkbcjagkacijnaa.NumLib Go.Proofs.Ytkbcjagkacijnaa.PVec Go.Proofs.YtkbcjagkacijnaaW.PrintWords Go.Proofs.YtkbcjagkacijnaaW.PrintLast

theorem okRes_iff {x : Int} : okRes x = true ↔ 0 ≤ x ∧ x ≤ 1099511627776 := by simp [okRes]
def good (a0 a1 : Int) : Bool := okRes a0 && okRes a1
theorem good_iff {a0 a1 : Int} : good a0 a1 = true ↔ (0 ≤ a0 ∧ a0 ≤ 1099511627776) ∧ (0 ≤ a1 ∧ a1 ≤ 1099511627776) := by
  unfold good; rw [Bool.and_eq_true, okRes_iff, okRes_iff]
theorem good_f (a0 a1 : Int) : vec_Good.f a0 a1 = some (good a0 a1) := rfl
theorem done_f {k : Nat} (a0 a1 b0 b1 c0 c1 : Int) : vec_done.f (k + 1) a0 a1 b0 b1 c0 c1 = some (if (good a0 a1 && good b0 b1) = true then (if good c0 c1 = true then (c0, c1, 0) else (0, 0, 2)) else (0, 0, 1)) := by
  unfold vec_done.f
  simp only [good_f, Option.bind_some, vec_done.j0]
  cases good a0 a1 <;> cases good b0 b1 <;> cases good c0 c1 <;> rfl
theorem add_f {k : Nat} {a0 a1 b0 b1 : Int} (ha0 : in64 a0) (ha1 : in64 a1) (hb0 : in64 b0) (hb1 : in64 b1) :
    vec_Add.f (k + 1) a0 a1 b0 b1 = some (if (good a0 a1 && good b0 b1) = true then (if good (a0 + b0) (a1 + b1) = true then (a0 + b0, a1 + b1, 0) else (0, 0, 2)) else (0, 0, 1)) := by
  unfold vec_Add.f
  rw [done_f, Option.bind_some]
  cases h : good a0 a1 && good b0 b1
  · rfl
  · rw [Bool.and_eq_true, good_iff, good_iff] at h
    rw [w64_id (by omega), w64_id (by omega)]
/-- A part's fraction. -/
def pt (u t : Int) : Int × Int := if t > 0 then (u, t) else if u > 0 then (1, 0) else (0, 1)
/-- The dominant share. -/
def dshr (a0 a1 b0 b1 : Int) : Int × Int := if (pt a0 b0).1 * (pt a1 b1).2 < (pt a1 b1).1 * (pt a0 b0).2 then pt a1 b1 else pt a0 b0
theorem fixd_pt {u t : Int} (hu : 0 ≤ u) (ht : 0 ≤ t) : fixd (u, t) = pt u t := by
  unfold fixd pt
  simp only
  by_cases h : t = 0
  · subst h
    by_cases h' : 0 < u
    · simp [h']
    · have : u = 0 := by omega
      subst this
      simp
  · rw [if_neg h, if_pos (by omega)]
theorem pt_ok {u t : Int} (hu : 0 ≤ u) (ht : 0 ≤ t) : 0 ≤ (pt u t).1 ∧ 0 ≤ (pt u t).2 ∧ ((pt u t).2 = 0 → (pt u t).1 = 1) := by
  unfold pt
  split
  · exact ⟨hu, ht, fun h => by simp at h; omega⟩
  · split <;> simp
theorem sgn_pos_iff {x : Int} : 0 < sgn x ↔ 0 < x := by
  unfold sgn
  split
  · omega
  · split <;> omega
theorem shareV_shr {a0 a1 b0 b1 : Int} (ha : good a0 a1 = true) (hb : good b0 b1 = true) : shareV (a0, a1) (b0, b1) = dshr a0 a1 b0 b1 := by
  rw [good_iff] at ha hb
  have h0 := pt_ok ha.1.1 hb.1.1
  unfold shareV
  simp only
  have e : stepS (-1, 1) (a0, b0) = pt a0 b0 := by
    unfold stepS
    rw [fixd_pt ha.1.1 hb.1.1, if_pos]
    rw [sgn_pos_iff]
    simp only
    by_cases h : (pt a0 b0).2 = 0
    · have := h0.2.2 h; omega
    · omega
  rw [e]
  unfold stepS dshr
  rw [fixd_pt ha.2.1 hb.2.1]
  simp only [sgn_pos_iff]
  by_cases h : (pt a0 b0).1 * (pt a1 b1).2 < (pt a1 b1).1 * (pt a0 b0).2
  · rw [if_pos h, if_pos (by omega)]
  · rw [if_neg h, if_neg (by omega)]
theorem in64_good {a0 a1 : Int} (h : good a0 a1 = true) : in64 a0 ∧ in64 a1 := by
  rw [good_iff] at h
  unfold in64
  omega
theorem share_f {a0 a1 b0 b1 : Int} (ha : good a0 a1 = true) (hb : good b0 b1 = true) : vec_share.f a0 a1 b0 b1 = some (dshr a0 a1 b0 b1) := by
  unfold vec_share.f
  rw [if_pos ⟨in64_good ha, in64_good hb⟩, shareV_shr ha hb]
theorem pt_in {u t : Int} (hu : 0 ≤ u) (hu' : u ≤ 1099511627776) (ht : t ≤ 1099511627776) : (0 ≤ (pt u t).1 ∧ (pt u t).1 ≤ 1099511627776) ∧ 0 ≤ (pt u t).2 ∧ (pt u t).2 ≤ 1099511627776 := by
  unfold pt
  split
  · simp only; omega
  · split <;> simp
theorem dshr_in {a0 a1 b0 b1 : Int} (ha : good a0 a1 = true) (hb : good b0 b1 = true) : (0 ≤ (dshr a0 a1 b0 b1).1 ∧ (dshr a0 a1 b0 b1).1 ≤ 1099511627776) ∧ (0 ≤ (dshr a0 a1 b0 b1).2 ∧ (dshr a0 a1 b0 b1).2 ≤ 1099511627776) ∧ ((dshr a0 a1 b0 b1).2 = 0 → (dshr a0 a1 b0 b1).1 = 1) := by
  rw [good_iff] at ha hb
  have hc := pt_in ha.1.1 ha.1.2 hb.1.2
  have hm := pt_in ha.2.1 ha.2.2 hb.2.2
  have hc' := pt_ok ha.1.1 hb.1.1
  have hm' := pt_ok ha.2.1 hb.2.1
  unfold dshr
  split
  · exact ⟨hm.1, hm.2, hm'.2.2⟩
  · exact ⟨hc.1, hc.2, hc'.2.2⟩

theorem awake_f (k : Nat) : furlonglaw02_awake.f (k + 1) = some true := by
  unfold furlonglaw02_awake.f
  rw [add_f (by decide) (by decide) (by decide) (by decide)]
  have h : vec_Share.f 2 1 9 2 = some (1, 2, 0) := by
    unfold vec_Share.f
    rw [good_f, good_f, share_f (by decide) (by decide)]
    decide
  rw [h]
  decide

end Go.Proofs.Ytkbcjagkacijnaa.VecLib
end
section
namespace Go.Proofs.Ytkbcjagkacijnaa.VecLib
set_option linter.unusedVariables false
set_option linter.unusedSimpArgs false
open Go.RowKit Go.Proofs.Ytkbcjagkacijnaa.NumLib Go.Proofs.Ytkbcjagkacijnaa.PVec Go.Proofs.YtkbcjagkacijnaaW.PrintWords Go.Proofs.YtkbcjagkacijnaaW.PrintLast

theorem natAbs_nn {x : Int} (h : 0 ≤ x) : (x.natAbs : Int) = x := by omega
theorem mul_nn {a b A B : Int} (h0 : 0 ≤ a) (h1 : a ≤ A) (h2 : 0 ≤ b) (h3 : b ≤ B) : 0 ≤ a * b ∧ a * b ≤ A * B := by
  refine ⟨Int.mul_nonneg h0 h2, ?_⟩
  exact Int.le_trans (Int.mul_le_mul_of_nonneg_right h1 h2) (Int.mul_le_mul_of_nonneg_left h3 (by omega))
theorem product_f {a b : Int} (ha : in64 a) (hb : in64 b) : PVec.num_Product.f a b = some (((a * b).natAbs : Int) / 18446744073709551616, ((a * b).natAbs : Int) % 18446744073709551616, decide (a * b < 0)) := product_eq ha hb
theorem times_f {a b w : Int} (ha0 : 0 ≤ a) (ha : a ≤ 1099511627776) (hb0 : 0 ≤ b) (hb : b ≤ 1099511627776) (hw0 : 0 ≤ w) (hw : w ≤ 1048576) :
    vec_times.f a b w = some ((a * b * w) / 18446744073709551616, (a * b * w) % 18446744073709551616, false) := by
  have hp := mul_nn ha0 ha hb0 hb
  unfold vec_times.f
  rw [product_f (by unfold in64; omega) (by unfold in64; omega), Option.bind_some]
  simp only [natAbs_nn hp.1]
  generalize a * b = p at *
  have hm : PVec.bits_Mul64.f (p % 18446744073709551616) (IntKind.u64.wrap w) = some ((p % 18446744073709551616) * w / 18446744073709551616, (p % 18446744073709551616) * w % 18446744073709551616) := by
    rw [u64w, show w % 18446744073709551616 = w by omega]
    exact mul64_eq (by omega) (by omega) (by omega) (by omega)
  rw [hm, Option.bind_some]
  simp only
  obtain ⟨q, hq⟩ : ∃ q, q = p / 18446744073709551616 := ⟨_, rfl⟩
  obtain ⟨l, hl⟩ : ∃ l, l = p % 18446744073709551616 := ⟨_, rfl⟩
  have hpe : p = 18446744073709551616 * q + l := by omega
  have h1 := mul_nn (a := q) (b := w) (A := 65536) (B := 1048576) (by omega) (by omega) hw0 hw
  have h2 := mul_nn (a := l) (b := w) (A := 18446744073709551615) (B := 1048576) (by omega) (by omega) hw0 hw
  have e : p * w = 18446744073709551616 * (q * w) + l * w := by rw [hpe, Int.add_mul, Int.mul_assoc]
  rw [← hq, ← hl, e, u64w, u64w, u64w, show w % 18446744073709551616 = w by omega]
  generalize q * w = X at *
  generalize l * w = Y at *
  congr 2
  · omega
  · congr 1
    omega

/-- The comparison of weighted shares. -/
def cmpF (f : Int × Int) (wa : Int) (g : Int × Int) (wb : Int) : Int := if f.2 = 0 then (if g.2 = 0 then 0 else 1) else if g.2 = 0 then -1 else sgn (f.1 * g.2 * wb - g.1 * f.2 * wa)
theorem compare_f {k : Nat} {x y : Int} (hx : 0 ≤ x) (hy : 0 ≤ y) : PVec.num_Compare.f (k + 1) (x / 18446744073709551616) (x % 18446744073709551616) false (y / 18446744073709551616) (y % 18446744073709551616) false = some (sgn (x - y)) := by
  have h : PNum.num_Compare.f (k + 1) (x / 18446744073709551616) (x % 18446744073709551616) false (y / 18446744073709551616) (y % 18446744073709551616) false = some (sgn (wv (x / 18446744073709551616) (x % 18446744073709551616) false - wv (y / 18446744073709551616) (y % 18446744073709551616) false)) :=
    compare_eq ⟨by omega, by omega, by omega, by simp⟩ ⟨by omega, by omega, by omega, by simp⟩
  have e1 : wv (x / 18446744073709551616) (x % 18446744073709551616) false = x := by simp [wv]; omega
  have e2 : wv (y / 18446744073709551616) (y % 18446744073709551616) false = y := by simp [wv]; omega
  rw [e1, e2] at h
  exact h
theorem mn_def (a b : Int) : mn a b = min a b := by unfold mn; omega
theorem order_j {k : Nat} {f g : Int × Int} {wa wb : Int} (hf : (0 ≤ f.1 ∧ f.1 ≤ 1099511627776) ∧ (0 ≤ f.2 ∧ f.2 ≤ 1099511627776)) (hg : (0 ≤ g.1 ∧ g.1 ≤ 1099511627776) ∧ (0 ≤ g.2 ∧ g.2 ≤ 1099511627776)) (ha : 1 ≤ wa ∧ wa ≤ 1048576) (hb : 1 ≤ wb ∧ wb ≤ 1048576) (x : Bool) (hx : x = (decide (f.2 = 0) || decide (g.2 = 0))) :
    vec_Order.j0 (k + 2) wa wb f.1 f.2 g.1 g.2 x = some (cmpF f wa g wb) := by
  simp only [vec_Order.j0]
  subst hx
  unfold cmpF
  by_cases h1 : f.2 = 0
  · by_cases h2 : g.2 = 0
    · simp [h1, h2, mn_def]
      rw [w64_id (by omega)]
    · have : min g.2 1 = 1 := by omega
      simp [h1, h2, mn_def, this]
      rw [w64_id (by omega)]
      omega
  · have m1 : min f.2 1 = 1 := by omega
    by_cases h2 : g.2 = 0
    · simp [h1, h2, mn_def, m1]
      rw [w64_id (by omega)]
      omega
    · simp only [h1, h2, decide_false, Bool.or_self, Bool.false_eq_true, if_false]
      rw [times_f hf.1.1 hf.1.2 hg.2.1 hg.2.2 (by omega) hb.2, times_f hg.1.1 hg.1.2 hf.2.1 hf.2.2 (by omega) ha.2]
      simp only [Option.bind_some]
      rw [compare_f (Int.mul_nonneg (Int.mul_nonneg hf.1.1 hg.2.1) (by omega)) (Int.mul_nonneg (Int.mul_nonneg hg.1.1 hf.2.1) (by omega)), Option.bind_some]
theorem order_f {k : Nat} {a0 a1 b0 b1 t0 t1 wa wb : Int} (ga : good a0 a1 = true) (gb : good b0 b1 = true) (gt : good t0 t1 = true) (ha : 1 ≤ wa ∧ wa ≤ 1048576) (hb : 1 ≤ wb ∧ wb ≤ 1048576) :
    vec_Order.f (k + 2) a0 a1 wa b0 b1 wb t0 t1 = some (cmpF (dshr a0 a1 t0 t1) wa (dshr b0 b1 t0 t1) wb) := by
  unfold vec_Order.f
  have hf := dshr_in ga gt
  have hg := dshr_in gb gt
  rw [share_f ga gt, Option.bind_some, share_f gb gt, Option.bind_some]
  by_cases h : (dshr a0 a1 t0 t1).2 = 0
  · rw [if_pos h, order_j ⟨hf.1, hf.2.1⟩ ⟨hg.1, hg.2.1⟩ ha hb _ (by simp [h])]
  · rw [if_neg h, order_j ⟨hf.1, hf.2.1⟩ ⟨hg.1, hg.2.1⟩ ha hb _ (by rw [decide_eq_false h, Bool.false_or]; rfl)]
theorem less_f {k : Nat} (a0 a1 b0 b1 t0 t1 wa wb : Int) :
    vec_Less.f (k + 2) a0 a1 wa b0 b1 wb t0 t1 = some (if (good a0 a1 = true ∧ good b0 b1 = true ∧ good t0 t1 = true) ∧ (1 ≤ wa ∧ wa ≤ 1048576) ∧ (1 ≤ wb ∧ wb ≤ 1048576) then (cmpF (dshr a0 a1 t0 t1) wa (dshr b0 b1 t0 t1) wb, 0) else (0, 1)) := by
  unfold vec_Less.f
  simp only [good_f, Option.bind_some]
  by_cases h : (good a0 a1 = true ∧ good b0 b1 = true ∧ good t0 t1 = true) ∧ (1 ≤ wa ∧ wa ≤ 1048576) ∧ (1 ≤ wb ∧ wb ≤ 1048576)
  · obtain ⟨⟨h1, h2, h3⟩, h4, h5⟩ := h
    rw [if_pos h1, if_pos h2, if_pos h3, if_neg (by omega), if_neg (by omega), if_neg (by omega), if_neg (by omega), order_f h1 h2 h3 h4 h5, Option.bind_some, if_pos ⟨⟨h1, h2, h3⟩, h4, h5⟩]
  · rw [if_neg h]
    by_cases h1 : good a0 a1 = true
    · by_cases h2 : good b0 b1 = true
      · by_cases h3 : good t0 t1 = true
        · rw [if_pos h1, if_pos h2, if_pos h3]
          by_cases c1 : wa < 1
          · rw [if_pos c1]
          · by_cases c2 : wa > 1048576
            · rw [if_neg c1, if_pos c2]
            · by_cases c3 : wb < 1
              · rw [if_neg c1, if_neg c2, if_pos c3]
              · by_cases c4 : wb > 1048576
                · rw [if_neg c1, if_neg c2, if_neg c3, if_pos c4]
                · exact absurd ⟨⟨h1, h2, h3⟩, by omega, by omega⟩ h
        · rw [if_pos h1, if_pos h2, if_neg h3]
      · rw [if_pos h1, if_neg h2]
    · rw [if_neg h1]
theorem less_yes {k : Nat} {a0 a1 b0 b1 t0 t1 wa wb : Int} (h : (good a0 a1 = true ∧ good b0 b1 = true ∧ good t0 t1 = true) ∧ (1 ≤ wa ∧ wa ≤ 1048576) ∧ (1 ≤ wb ∧ wb ≤ 1048576)) : vec_Less.f (k + 2) a0 a1 wa b0 b1 wb t0 t1 = some (cmpF (dshr a0 a1 t0 t1) wa (dshr b0 b1 t0 t1) wb, 0) := by
  rw [less_f, if_pos h]
theorem less_no {k : Nat} {a0 a1 b0 b1 t0 t1 wa wb : Int} (h : ¬ ((good a0 a1 = true ∧ good b0 b1 = true ∧ good t0 t1 = true) ∧ (1 ≤ wa ∧ wa ≤ 1048576) ∧ (1 ≤ wb ∧ wb ≤ 1048576))) : vec_Less.f (k + 2) a0 a1 wa b0 b1 wb t0 t1 = some (0, 1) := by
  rw [less_f, if_neg h]
theorem less_any (k : Nat) (a0 a1 b0 b1 t0 t1 wa wb : Int) : ∃ x y, vec_Less.f (k + 2) a0 a1 wa b0 b1 wb t0 t1 = some (x, y) := ⟨_, _, (less_f a0 a1 b0 b1 t0 t1 wa wb).trans rfl⟩
/-- A fraction that may be, and their order. -/
def okF (f : Int × Int) : Prop := 0 ≤ f.1 ∧ 0 ≤ f.2 ∧ (f.2 = 0 → f.1 = 1)
def leF (f g : Int × Int) : Prop := f.1 * g.2 ≤ g.1 * f.2
theorem le_of_mul {x y c : Int} (hc : 0 < c) (h : x * c ≤ y * c) : x ≤ y := Int.le_of_mul_le_mul_right h hc
theorem leF_trans {f g h : Int × Int} (hf : okF f) (hg : okF g) (hh : okF h) (h1 : leF f g) (h2 : leF g h) : leF f h := by
  unfold leF at *
  by_cases hz : g.2 = 0
  · have e := hg.2.2 hz
    rw [hz, e, Int.mul_zero, Int.one_mul] at h2
    have hz' : h.2 = 0 := by have := hh.2.1; omega
    rw [hz', hh.2.2 hz', Int.mul_zero, Int.one_mul]
    exact hf.2.1
  · have hp : 0 < g.2 := by have := hg.2.1; omega
    refine le_of_mul hp ?_
    have a1 : f.1 * g.2 * h.2 ≤ g.1 * f.2 * h.2 := Int.mul_le_mul_of_nonneg_right h1 hh.2.1
    have a2 : g.1 * h.2 * f.2 ≤ h.1 * g.2 * f.2 := Int.mul_le_mul_of_nonneg_right h2 hf.2.1
    have e1 : f.1 * h.2 * g.2 = f.1 * g.2 * h.2 := by grind
    have e2 : h.1 * f.2 * g.2 = h.1 * g.2 * f.2 := by grind
    have e3 : g.1 * f.2 * h.2 = g.1 * h.2 * f.2 := by grind
    omega
theorem leF_max {a0 a1 t0 t1 : Int} (g : good a0 a1 = true) (gt : good t0 t1 = true) : okF (dshr a0 a1 t0 t1) ∧ leF (pt a0 t0) (dshr a0 a1 t0 t1) ∧ leF (pt a1 t1) (dshr a0 a1 t0 t1) ∧ (dshr a0 a1 t0 t1 = pt a0 t0 ∨ dshr a0 a1 t0 t1 = pt a1 t1) := by
  have hi := dshr_in g gt
  refine ⟨⟨hi.1.1, hi.2.1.1, hi.2.2⟩, ?_⟩
  unfold dshr leF
  split
  · exact ⟨by omega, by omega, .inr rfl⟩
  · exact ⟨by omega, by omega, .inl rfl⟩
theorem pt_mono {u v t : Int} (hu : 0 ≤ u) (h : u ≤ v) (ht : 0 ≤ t) : leF (pt u t) (pt v t) := by
  unfold leF pt
  by_cases h1 : t > 0
  · simp only [h1, if_true]
    exact Int.mul_le_mul_of_nonneg_right h (by omega)
  · by_cases h2 : u > 0
    · simp [h1, h2, show v > 0 by omega]
    · by_cases h3 : v > 0 <;> simp [h1, h2, h3]
theorem dshr_mono {a0 a1 s0 s1 t0 t1 : Int} (ga : good a0 a1 = true) (gs : good s0 s1 = true) (gt : good t0 t1 = true) (h0 : a0 ≤ s0) (h1 : a1 ≤ s1) : leF (dshr a0 a1 t0 t1) (dshr s0 s1 t0 t1) := by
  obtain ⟨_, _, _, ha⟩ := leF_max ga gt
  obtain ⟨os, l0, l1, _⟩ := leF_max gs gt
  have A := good_iff.mp ga
  have S := good_iff.mp gs
  have T := good_iff.mp gt
  rcases ha with e | e <;> rw [e]
  · exact leF_trans (pt_ok A.1.1 T.1.1) (pt_ok S.1.1 T.1.1) os (pt_mono A.1.1 h0 T.1.1) l0
  · exact leF_trans (pt_ok A.2.1 T.2.1) (pt_ok S.2.1 T.2.1) os (pt_mono A.2.1 h1 T.2.1) l1
theorem sgn_turn' (x y : Int) : sgn (x - y) = -sgn (y - x) := by
  rcases Int.lt_trichotomy x y with h | h | h
  · rw [sgn_neg (by omega), sgn_pos (by omega)]
  · subst h; rw [sgn_zero (by omega)]; rfl
  · rw [sgn_pos (by omega), sgn_neg (by omega)]; rfl
theorem cmpF_turn (f g : Int × Int) (wa wb : Int) : cmpF f wa g wb = -cmpF g wb f wa := by
  unfold cmpF
  by_cases h1 : f.2 = 0 <;> by_cases h2 : g.2 = 0 <;> simp [h1, h2]
  exact sgn_turn' _ _
theorem sgn_in (x : Int) : -1 ≤ sgn x ∧ sgn x ≤ 1 := by
  unfold sgn
  split
  · omega
  · split <;> omega
theorem cmpF_in (f g : Int × Int) (wa wb : Int) : -1 ≤ cmpF f wa g wb ∧ cmpF f wa g wb ≤ 1 := by
  unfold cmpF
  split
  · split <;> omega
  · split
    · omega
    · exact sgn_in _
theorem sgn_le {x : Int} : sgn x ≤ 0 ↔ x ≤ 0 := by
  unfold sgn
  split
  · omega
  · split <;> omega
theorem cmpF_trans {f g h : Int × Int} {wa wb wc : Int} (hf : okF f) (hg : okF g) (hh : okF h) (ha : 1 ≤ wa) (hb : 1 ≤ wb) (hc : 1 ≤ wc) (h1 : cmpF f wa g wb ≤ 0) (h2 : cmpF g wb h wc ≤ 0) : cmpF f wa h wc ≤ 0 := by
  unfold cmpF at *
  by_cases f0 : f.2 = 0
  · rw [if_pos f0] at h1 ⊢
    by_cases g0 : g.2 = 0
    · rw [if_pos g0] at h2
      exact h2
    · rw [if_neg g0] at h1
      omega
  · rw [if_neg f0] at h1 ⊢
    by_cases h0 : h.2 = 0
    · rw [if_pos h0]; omega
    · rw [if_neg h0] at h2 ⊢
      by_cases g0 : g.2 = 0
      · rw [if_pos g0] at h2
        omega
      · rw [if_neg g0] at h1 h2
        replace h1 := sgn_le.mp h1
        rw [if_neg h0] at h2
        replace h2 := sgn_le.mp h2
        refine sgn_le.mpr ?_
        have fp : 0 < f.2 := by have := hf.2.1; omega
        have gp : 0 < g.2 := by have := hg.2.1; omega
        have hp : 0 < h.2 := by have := hh.2.1; omega
        have pos : 0 < g.2 * wb := Int.mul_pos gp (by omega)
        have a1 : (f.1 * g.2 * wb) * (h.2 * wc) ≤ (g.1 * f.2 * wa) * (h.2 * wc) := Int.mul_le_mul_of_nonneg_right (by omega) (Int.mul_nonneg (by omega) (by omega))
        have a2 : (g.1 * h.2 * wc) * (f.2 * wa) ≤ (h.1 * g.2 * wb) * (f.2 * wa) := Int.mul_le_mul_of_nonneg_right (by omega) (Int.mul_nonneg (by omega) (by omega))
        have e1 : (f.1 * h.2 * wc) * (g.2 * wb) = (f.1 * g.2 * wb) * (h.2 * wc) := by grind
        have e2 : (h.1 * f.2 * wa) * (g.2 * wb) = (h.1 * g.2 * wb) * (f.2 * wa) := by grind
        have e3 : (g.1 * f.2 * wa) * (h.2 * wc) = (g.1 * h.2 * wc) * (f.2 * wa) := by grind
        have := le_of_mul pos (show (f.1 * h.2 * wc) * (g.2 * wb) ≤ (h.1 * f.2 * wa) * (g.2 * wb) by omega)
        omega
theorem cmpF_le {f g : Int × Int} {w : Int} (hf : okF f) (hg : okF g) (hw : 1 ≤ w) (h : leF f g) : cmpF f w g w ≤ 0 := by
  unfold cmpF leF at *
  by_cases f0 : f.2 = 0
  · rw [hf.2.2 f0, f0, Int.mul_zero, Int.one_mul] at h
    rw [if_pos f0, if_pos (by have := hg.2.1; omega)]
    omega
  · rw [if_neg f0]
    split
    · omega
    · rw [sgn_le]
      have := Int.mul_le_mul_of_nonneg_right h (show 0 ≤ w by omega)
      omega

theorem VecTurns {a0 a1 b0 b1 c0 c1 wa wb wc t0 t1 : Int} (ha0 : in64 a0) (ha1 : in64 a1) (hb0 : in64 b0) (hb1 : in64 b1) : furlonglaw02_VecTurns.f 30 a0 a1 b0 b1 c0 c1 wa wb wc t0 t1 = some true := by
  unfold furlonglaw02_VecTurns.f
  rw [awake_f, Option.bind_some, if_pos rfl]
  by_cases A : good a0 a1 = true ∧ (1 ≤ wa ∧ wa ≤ 1048576)
  · by_cases B : good b0 b1 = true ∧ (1 ≤ wb ∧ wb ≤ 1048576)
    · by_cases T : good t0 t1 = true
      · by_cases C : good c0 c1 = true ∧ (1 ≤ wc ∧ wc ≤ 1048576)
        · rw [less_yes (k := 28) ⟨⟨A.1, B.1, T⟩, A.2, B.2⟩, less_yes (k := 28) ⟨⟨B.1, A.1, T⟩, B.2, A.2⟩, less_yes (k := 28) ⟨⟨B.1, C.1, T⟩, B.2, C.2⟩, less_yes (k := 28) ⟨⟨A.1, C.1, T⟩, A.2, C.2⟩]
          simp only [Option.bind_some, if_true]
          have oa := (leF_max A.1 T).1
          have ob := (leF_max B.1 T).1
          have oc := (leF_max C.1 T).1
          have j1 : furlonglaw02_VecTurns.j1 29 false a0 a1 b0 b1 wa wb wc t0 t1 = some true := by
            simp only [furlonglaw02_VecTurns.j1, Bool.false_eq_true, if_false]
            rw [add_f ha0 ha1 hb0 hb1, Option.bind_some, A.1, B.1]
            cases hs : good (a0 + b0) (a1 + b1)
            · simp
            · have ga := good_iff.mp A.1
              have gb := good_iff.mp B.1
              simp only [Bool.and_self, if_true]
              rw [less_yes (k := 26) ⟨⟨A.1, hs, T⟩, A.2, A.2⟩, Option.bind_some]
              have := cmpF_le oa (leF_max hs T).1 A.2.1 (dshr_mono A.1 hs T (by omega) (by omega))
              simp [this]
          simp only [furlonglaw02_VecTurns.j0]
          have tr := cmpF_trans (wa := wa) (wb := wb) (wc := wc) oa ob oc A.2.1 B.2.1 C.2.1
          have ti := cmpF_in (dshr b0 b1 t0 t1) (dshr a0 a1 t0 t1) wb wa
          rw [cmpF_turn (dshr a0 a1 t0 t1) (dshr b0 b1 t0 t1) wa wb] at tr ⊢
          generalize cmpF (dshr b0 b1 t0 t1) wb (dshr a0 a1 t0 t1) wa = y at *
          generalize cmpF (dshr b0 b1 t0 t1) wb (dshr c0 c1 t0 t1) wc = z at *
          generalize cmpF (dshr a0 a1 t0 t1) wa (dshr c0 c1 t0 t1) wc = v at *
          rw [w64_id (by omega)]
          simp only [bne_self_eq_false, Bool.false_eq_true, if_false, if_true]
          by_cases c1 : -y ≤ 0
          · rw [if_pos c1]
            by_cases c2 : z ≤ 0
            · have := tr c1 c2
              rw [if_pos c2, show decide (v > 0) = false by simp; omega]
              exact j1
            · rw [if_neg c2]
              exact j1
          · rw [if_neg c1]
            exact j1
        · rw [less_yes (k := 28) ⟨⟨A.1, B.1, T⟩, A.2, B.2⟩, less_yes (k := 28) ⟨⟨B.1, A.1, T⟩, B.2, A.2⟩, less_no (k := 28) (fun h => C ⟨h.1.2.1, h.2.2⟩), less_no (k := 28) (fun h => C ⟨h.1.2.1, h.2.2⟩)]
          simp [furlonglaw02_VecTurns.j0]
      · rw [less_no (k := 28) (fun h => T h.1.2.2), less_no (k := 28) (fun h => T h.1.2.2), less_no (k := 28) (fun h => T h.1.2.2), less_no (k := 28) (fun h => T h.1.2.2)]
        simp [furlonglaw02_VecTurns.j0]
    · skip
      obtain ⟨x1, y1, e1⟩ := less_any 28 b0 b1 c0 c1 t0 t1 wb wc
      obtain ⟨x2, y2, e2⟩ := less_any 28 a0 a1 c0 c1 t0 t1 wa wc
      rw [less_no (k := 28) (fun h => B ⟨h.1.2.1, h.2.2⟩), less_no (k := 28) (fun h => B ⟨h.1.1, h.2.1⟩), e1, e2]
      simp [furlonglaw02_VecTurns.j0]
  · skip
    obtain ⟨x1, y1, e1⟩ := less_any 28 b0 b1 c0 c1 t0 t1 wb wc
    obtain ⟨x2, y2, e2⟩ := less_any 28 a0 a1 c0 c1 t0 t1 wa wc
    rw [less_no (k := 28) (fun h => A ⟨h.1.1, h.2.1⟩), less_no (k := 28) (fun h => A ⟨h.1.2.1, h.2.2⟩), e1, e2]
    simp [furlonglaw02_VecTurns.j0]

end Go.Proofs.Ytkbcjagkacijnaa.VecLib
end
section
namespace Go.Proofs.Ytkbcjagkacijnaa.Open
set_option linter.unusedVariables false
set_option linter.unusedSimpArgs false
open Go.RowKit Go.Proofs.YtkbcjagkacijnaaW.PrintWords

/-- Values of type T read as what k says; good: what is known of them; bulk: no more than the data's. -/
def Opens {α : Type} (P : Program) (T : TypeId) (k : Kd α) (good : α → Prop) (bulk : α → Nat) : Prop :=
  ∀ (H : Type) (enc : TypeId × Value → H) (W : World) (fuel : Nat) (cs : List Value) (x : DataW H × List MemPlace),
    DataW.trod enc P W 0 (fun _ => true) true fuel T cs = some x → ∃ a : α, k.K W a cs ∧ good a ∧ bulk a ≤ Rows.uptoBulk x.1

theorem Opens.int {P : Program} {T : TypeId} {q : IntKind} (h : P.underlying T = some (.int q)) : Opens P T (Kd.int q) (fun n => (Lit.int q n).wf = true) (fun _ => 1) := by
  intro H enc W fuel cs x hx
  obtain ⟨n, rfl, rfl, hw⟩ := DataW.trod_int h hx
  exact ⟨n, rfl, hw, by simp [Rows.uptoBulk]⟩
theorem Opens.bool {P : Program} {T : TypeId} (h : P.underlying T = some .bool) : Opens P T Kd.bool (fun _ => True) (fun _ => 1) := by
  intro H enc W fuel cs x hx
  obtain ⟨n, rfl, rfl⟩ := DataW.trod_bool h hx
  exact ⟨n, rfl, trivial, by simp [Rows.uptoBulk]⟩

/-- Fields, one behind the other. -/
def OpensFs {α : Type} (P : Program) (ts : List TypeId) (k : Kd α) (good : α → Prop) (bulk : α → Nat) : Prop :=
  ∀ (H : Type) (enc : TypeId × Value → H) (W : World) (n : Nat) (cs : List Value) (xs : List (DataW H × List MemPlace)), cs.length = (ts.map P.cellsOf).sum → xs.length = ts.length →
    (∀ i t, ts[i]? = some t → DataW.trod enc P W 0 (fun _ => true) true n t ((cs.drop ((ts.take i).map P.cellsOf).sum).take (P.cellsOf t)) = xs[i]?) →
    ∃ a : α, k.K W a cs ∧ good a ∧ bulk a ≤ Rows.uptoBulkAll (xs.map (·.1))

theorem OpensFs.one {α : Type} {P : Program} {t : TypeId} {k : Kd α} {good : α → Prop} {bulk : α → Nat} (h : Opens P t k good bulk) : OpensFs P [t] k good bulk := by
  intro H enc W n cs xs hl hx hf
  match xs, hx with
  | [x], _ =>
    have h0 := hf 0 t rfl
    simp at h0 hl
    rw [List.take_of_length_le (by omega)] at h0
    obtain ⟨a, h1, h2, h3⟩ := h H enc W n cs x h0
    exact ⟨a, h1, h2, by simpa [Rows.uptoBulkAll] using h3⟩

theorem OpensFs.cons {α β : Type} {P : Program} {t : TypeId} {ts : List TypeId} {k : Kd α} {ks : Kd β} {g : α → Prop} {gs : β → Prop} {b : α → Nat} {bs : β → Nat} (h : Opens P t k g b) (hs : OpensFs P ts ks gs bs) :
    OpensFs P (t :: ts) (Kd.pair k ks) (fun x => g x.1 ∧ gs x.2) (fun x => b x.1 + bs x.2) := by
  intro H enc W n cs xs hl hx hf
  match xs, hx with
  | x :: xs, hx =>
    have h0 := hf 0 t rfl
    simp at h0 hl
    obtain ⟨a, h1, h2, h3⟩ := h H enc W n _ x h0
    obtain ⟨c, g1, g2, g3⟩ := hs H enc W n (cs.drop (P.cellsOf t)) xs (by rw [List.length_drop]; omega) (by simpa using hx) (fun i t' ht' => by
      have := hf (i + 1) t' (by simpa using ht')
      simp only [List.take_succ_cons, List.map_cons, List.sum_cons, List.getElem?_cons_succ] at this
      rw [List.drop_drop]
      exact this)
    exact ⟨(a, c), ⟨_, _, (List.take_append_drop (P.cellsOf t) cs).symm, h1, g1⟩, ⟨h2, g2⟩, by simp only [List.map_cons, Rows.uptoBulkAll]; omega⟩

theorem Opens.struct {α : Type} {P : Program} {T : TypeId} {fs : Array Field} {ts : List TypeId} {k : Kd α} {good : α → Prop} {bulk : α → Nat} (ht : P.underlying T = some (.struct fs))
    (hts : fs.toList.map (·.type) = ts) (hoff : fs.toList.map (·.offset) = (List.range ts.length).map fun i => ((ts.take i).map P.cellsOf).sum) (hsz : P.cellsOf T = (ts.map P.cellsOf).sum) (h : OpensFs P ts k good bulk) :
    Opens P T k good (fun a => bulk a + 1) := by
  intro H enc W fuel cs x hx
  obtain ⟨xs, n, _, rfl, hl, hlen, hf⟩ := DataW.trod_struct ht hx
  have hn : ts.length = fs.size := by rw [← hts]; simp
  obtain ⟨a, h1, h2, h3⟩ := h H enc W n cs xs (by rw [hl, hsz]) (by rw [hlen, hn]) (fun i t hi => by
    have hlt : i < fs.size := by have := (List.getElem?_eq_some_iff.1 hi).1; omega
    have hfi : fs[i]? = some fs[i] := Array.getElem?_eq_getElem hlt
    have e1 : fs[i].type = t := by
      have := congrArg (fun l => l[i]?) hts
      simp [hi, hlt] at this
      exact this
    have e2 : fs[i].offset = ((ts.take i).map P.cellsOf).sum := by
      have := congrArg (fun l => l[i]?) hoff
      simp [hlt, hn] at this
      rw [List.map_take]
      exact this
    have := hf i _ hfi
    rw [e1, e2] at this
    exact this)
  exact ⟨a, h1, h2, by simp only [Rows.uptoBulk]; omega⟩

end Go.Proofs.Ytkbcjagkacijnaa.Open
end
section
namespace Go.Proofs.Ytkbcjagkacijnaa.Open
open Go.RowKit Go.Proofs.YtkbcjagkacijnaaW.PrintWords
set_option linter.unusedVariables false
abbrev kV : Kd (Int × Int) := Kd.pair (Kd.int .i64) (Kd.int .i64)
abbrev okV (x : Int × Int) : Prop := (Lit.int .i64 x.1).wf = true ∧ (Lit.int .i64 x.2).wf = true
set_option maxRecDepth 100000 in
theorem vec : Opens Try.prog 25 kV okV (fun _ => 1 + 1 + 1) :=
  Opens.struct (ts := [2, 2]) Try.underlying25 (by kernel_rfl) (by kernel_rfl) (by kernel_rfl) (OpensFs.cons (Opens.int Try.underlying2) (OpensFs.one (Opens.int Try.underlying2)))
theorem of_vec {W : World} {c : Array Value} {x : Int × Int} (h : kV.K W x c.toList) : c = #[.int .i64 x.1, .int .i64 x.2] := by
  obtain ⟨d, e, h1, rfl, rfl⟩ := h
  exact Array.toList_inj.mp (by simpa using h1)
/-- An array of three. -/
theorem Opens.three {α : Type} {P : Program} {T e : TypeId} {k : Kd α} {good : α → Prop} {bulk : α → Nat} (ht : P.underlying T = some (.array 3 e)) (hz : P.cellsOf T = P.cellsOf e + P.cellsOf e + P.cellsOf e) (h : Opens P e k good bulk) :
    Opens P T (Kd.pair k (Kd.pair k k)) (fun x => good x.1 ∧ good x.2.1 ∧ good x.2.2) (fun x => bulk x.1 + bulk x.2.1 + bulk x.2.2 + 1) := by
  intro H enc W fuel cs x hx
  obtain ⟨xs, m, _, rfl, hl, hn, hel⟩ := DataW.trod_array ht hx
  match xs, hn with
  | [x, y, u], _ =>
    have h0 := hel 0 (by omega)
    have h1 := hel 1 (by omega)
    have h2 := hel 2 (by omega)
    simp only [Nat.zero_mul, List.drop_zero, Nat.one_mul, List.getElem?_cons_zero, List.getElem?_cons_succ] at h0 h1 h2
    obtain ⟨a, a1, a2, a3⟩ := h H enc W m _ x h0
    obtain ⟨b, b1, b2, b3⟩ := h H enc W m _ y h1
    obtain ⟨c, c1, c2, c3⟩ := h H enc W m _ u h2
    refine ⟨(a, b, c), ⟨cs.take (P.cellsOf e), cs.drop (P.cellsOf e), (List.take_append_drop _ _).symm, a1, ⟨(cs.drop (P.cellsOf e)).take (P.cellsOf e), (cs.drop (P.cellsOf e)).drop (P.cellsOf e), (List.take_append_drop _ _).symm, b1, ?_⟩⟩, ⟨a2, b2, c2⟩, by simp [Rows.uptoBulk, Rows.uptoBulkAll]; omega⟩
    rw [show 2 * P.cellsOf e = P.cellsOf e + P.cellsOf e by omega, ← List.drop_drop, List.take_of_length_le (by simp only [List.length_drop]; omega)] at c1
    exact c1
theorem three64 : Opens Try.prog 54 (Kd.pair (Kd.int .i64) kV) (fun x => (Lit.int .i64 x.1).wf = true ∧ okV x.2) (fun _ => 1 + 1 + 1 + 1) :=
  Opens.three Try.underlying54 (by kernel_rfl) (Opens.int Try.underlying2)
theorem of_three {W : World} {c : Array Value} {x : Int × Int × Int} (h : (Kd.pair (Kd.int .i64) kV).K W x c.toList) : c = #[.int .i64 x.1, .int .i64 x.2.1, .int .i64 x.2.2] := by
  obtain ⟨d, e, h1, rfl, f, g, rfl, rfl, rfl⟩ := h
  exact Array.toList_inj.mp (by simpa using h1)
end Go.Proofs.Ytkbcjagkacijnaa.Open
end
section
namespace Go.Proofs.Ytkbcjagkacijnaa.Walk
set_option linter.unusedVariables false
open Go.RowKit Go.Proofs.Ytkbcjagkacijnaa.NumLib Go.Proofs.YtkbcjagkacijnaaW.PrintWords
theorem VecTurns (W : World) (a : Array Value) (x : Int × Int) (ha : Open.kV.K W x a.toList) (ga : Open.okV x) (b : Array Value) (y : Int × Int) (hb : Open.kV.K W y b.toList) (gb : Open.okV y) (c : Array Value) (z : Int × Int) (hc : Open.kV.K W z c.toList) (gc : Open.okV z)
    (v : Array Value) (q : Int × Int × Int) (hv : (Kd.pair (Kd.int .i64) Open.kV).K W q v.toList) (gv : (Lit.int .i64 q.1).wf = true ∧ Open.okV q.2) (t : Array Value) (u : Int × Int) (ht : Open.kV.K W u t.toList) (gt : Open.okV u) :
    Calls Try.prog 12 #[.agg a, .agg b, .agg c, .agg v, .agg t] W fun e w' => e = .returned (.bool true) ∧ Below W.heap.size W w' := by
  obtain rfl := Open.of_vec ha
  obtain rfl := Open.of_vec hb
  obtain rfl := Open.of_vec hc
  obtain rfl := Open.of_three hv
  obtain rfl := Open.of_vec ht
  exact PVec.furlonglaw02_VecTurns.calls _ _ _ _ _ _ _ _ _ _ _ _ _ W (VecLib.VecTurns (wf64.mp ga.1) (wf64.mp ga.2) (wf64.mp gb.1) (wf64.mp gb.2))
end Go.Proofs.Ytkbcjagkacijnaa.Walk
end
