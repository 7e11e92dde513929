/- What the law VecBack needs of the seat's contracts and plain laws, several texts one behind the other; no conditions. -/
import Derived.Test.YtkbcjagkacijnaaSVecBack0
import Derived.Test.YtkbcjagkacijnaaSVecBack1
import Derived.Test.YtkbcjagkacijnaaSVecBack2
import Derived.Test.YtkbcjagkacijnaaWMore
import Derived.Test.YtkbcjagkacijnaaWNEv
import Derived.Test.YtkbcjagkacijnaaRows
import Derived.ProofKit
import Derived.OpenShut
section
-- Written for this claim by this project's own driver over the kit's print: functions and their contracts.
namespace Go.Proofs.Ytkbcjagkacijnaa.PVec
open Go.RowKit Go.Proofs.YtkbcjagkacijnaaW.PrintWords Go.Proofs.YtkbcjagkacijnaaW.PrintLast Go.Proofs.YtkbcjagkacijnaaW.PrintMore
attribute [local go_sem] max2_int min2_int max_two min_two max_three min_three max_four min_four   -- for this text's walks alone
set_option linter.unusedVariables false
set_option linter.unusedSimpArgs false

mutual
def furlonglaw02_VecTurns.j0 : Nat → Int → Int → Int → Int → Int → Int → Int → Int → Bool → Int → Int → Int → Int → Int → Int → Int → Int → Int → Option (Bool)
  | 0, _, _, _, _, _, _, _, _, _, _, _, _, _, _, _, _, _, _ => none
  | k + 1, x11, x12, x13, x14, x15, x16, x17, x18, x82, x239000, x239001, x240000, x240001, x242000, x242001, x242002, x243000, x243001 => if x82 = true then (if x12 = 0 then (if x16 = 0 then (some (x18 != 0)) else (some true)) else (if x14 = 0 then (if x16 = 0 then (some (x18 != 0)) else (some true)) else (some true))) else (if x11 = (wrap64 (-x13)) then (if x11 ≤ 0 then (if x15 ≤ 0 then (furlonglaw02_VecTurns.j1 k (decide (x17 > 0)) x239000 x239001 x240000 x240001 x242000 x242001 x242002 x243000 x243001) else (furlonglaw02_VecTurns.j1 k false x239000 x239001 x240000 x240001 x242000 x242001 x242002 x243000 x243001)) else (furlonglaw02_VecTurns.j1 k false x239000 x239001 x240000 x240001 x242000 x242001 x242002 x243000 x243001)) else (furlonglaw02_VecTurns.j1 k true x239000 x239001 x240000 x240001 x242000 x242001 x242002 x243000 x243001))
def furlonglaw02_VecTurns.j1 : Nat → Bool → Int → Int → Int → Int → Int → Int → Int → Int → Int → Option (Bool)
  | 0, _, _, _, _, _, _, _, _, _, _ => none
  | k + 1, x112, x239000, x239001, x240000, x240001, x242000, x242001, x242002, x243000, x243001 => if x112 = true then (some false) else ((vec_Add.f k x239000 x239001 x240000 x240001).bind fun bt252 => (if bt252.2.2 = 0 then ((vec_Less.f k x239000 x239001 x242000 bt252.1 bt252.2.1 x242000 x243000 x243001).bind fun bt256 => (if bt256.2 = 0 then (some (decide (bt256.1 ≤ 0))) else (some false))) else (some true)))
end
def furlonglaw02_VecTurns.f (k : Nat) (a0_0 : Int) (a0_1 : Int) (a1_0 : Int) (a1_1 : Int) (a2_0 : Int) (a2_1 : Int) (a3_0 : Int) (a3_1 : Int) (a3_2 : Int) (a4_0 : Int) (a4_1 : Int) : Option (Bool) := (furlonglaw02_awake.f k).bind fun t243 => (if t243 = true then ((vec_Less.f k a0_0 a0_1 a3_0 a1_0 a1_1 a3_1 a4_0 a4_1).bind fun bt244 => ((vec_Less.f k a1_0 a1_1 a3_1 a0_0 a0_1 a3_0 a4_0 a4_1).bind fun bt246 => ((vec_Less.f k a1_0 a1_1 a3_1 a2_0 a2_1 a3_2 a4_0 a4_1).bind fun bt248 => ((vec_Less.f k a0_0 a0_1 a3_0 a2_0 a2_1 a3_2 a4_0 a4_1).bind fun bt250 => (if bt244.2 = 0 then (if bt246.2 = 0 then (if bt248.2 = 0 then (furlonglaw02_VecTurns.j0 k bt244.1 bt244.2 bt246.1 bt246.2 bt248.1 bt248.2 bt250.1 bt250.2 (bt250.2 != 0) a0_0 a0_1 a1_0 a1_1 a3_0 a3_1 a3_2 a4_0 a4_1) else (furlonglaw02_VecTurns.j0 k bt244.1 bt244.2 bt246.1 bt246.2 bt248.1 bt248.2 bt250.1 bt250.2 true a0_0 a0_1 a1_0 a1_1 a3_0 a3_1 a3_2 a4_0 a4_1)) else (furlonglaw02_VecTurns.j0 k bt244.1 bt244.2 bt246.1 bt246.2 bt248.1 bt248.2 bt250.1 bt250.2 true a0_0 a0_1 a1_0 a1_1 a3_0 a3_1 a3_2 a4_0 a4_1)) else (furlonglaw02_VecTurns.j0 k bt244.1 bt244.2 bt246.1 bt246.2 bt248.1 bt248.2 bt250.1 bt250.2 true a0_0 a0_1 a1_0 a1_1 a3_0 a3_1 a3_2 a4_0 a4_1)))))) else (some false))
theorem furlonglaw02_VecTurns.mono_l : ∀ k, (∀ y0 y1 y2 y3 y4 y5 y6 y7 y8 y9 y10 y11 y12 y13 y14 y15 y16 y17, LeO (furlonglaw02_VecTurns.j0 k y0 y1 y2 y3 y4 y5 y6 y7 y8 y9 y10 y11 y12 y13 y14 y15 y16 y17) (furlonglaw02_VecTurns.j0 (k + 1) y0 y1 y2 y3 y4 y5 y6 y7 y8 y9 y10 y11 y12 y13 y14 y15 y16 y17)) ∧ (∀ y0 y1 y2 y3 y4 y5 y6 y7 y8 y9, LeO (furlonglaw02_VecTurns.j1 k y0 y1 y2 y3 y4 y5 y6 y7 y8 y9) (furlonglaw02_VecTurns.j1 (k + 1) y0 y1 y2 y3 y4 y5 y6 y7 y8 y9))
  | 0 => ⟨fun _ _ _ _ _ _ _ _ _ _ _ _ _ _ _ _ _ _ r h => by simp [furlonglaw02_VecTurns.j0] at h, fun _ _ _ _ _ _ _ _ _ _ r h => by simp [furlonglaw02_VecTurns.j1] at h⟩
  | k + 1 => by
    obtain ⟨ih0, ih1⟩ := furlonglaw02_VecTurns.mono_l k
    refine ⟨?_, ?_⟩
    · intro y0 y1 y2 y3 y4 y5 y6 y7 y8 y9 y10 y11 y12 y13 y14 y15 y16 y17
      unfold furlonglaw02_VecTurns.j0
      repeat' first
      | (with_reducible exact ih0 _ _ _ _ _ _ _ _ _ _ _ _ _ _ _ _ _ _)
      | (with_reducible exact ih1 _ _ _ _ _ _ _ _ _ _)
      | (with_reducible exact furlonglaw02_awake.mono _)
      | (with_reducible exact vec_Add.mono _ _ _ _ _)
      | (with_reducible exact vec_Less.mono _ _ _ _ _ _ _ _ _)
      | (with_reducible exact LeO.refl _)
      | (with_reducible exact LeO.none _)
      | (with_reducible refine LeO.ite ?_ ?_)
      | (with_reducible refine LeO.bind ?_ (fun _ => ?_))
      | exact ih0 _ _ _ _ _ _ _ _ _ _ _ _ _ _ _ _ _ _
      | exact ih1 _ _ _ _ _ _ _ _ _ _
      | exact furlonglaw02_awake.mono _
      | exact vec_Add.mono _ _ _ _ _
      | exact vec_Less.mono _ _ _ _ _ _ _ _ _
      | exact LeO.none _
      | refine LeO.ite ?_ ?_
      | refine LeO.bind ?_ (fun _ => ?_)
    · intro y0 y1 y2 y3 y4 y5 y6 y7 y8 y9
      unfold furlonglaw02_VecTurns.j1
      repeat' first
      | (with_reducible exact ih0 _ _ _ _ _ _ _ _ _ _ _ _ _ _ _ _ _ _)
      | (with_reducible exact ih1 _ _ _ _ _ _ _ _ _ _)
      | (with_reducible exact furlonglaw02_awake.mono _)
      | (with_reducible exact vec_Add.mono _ _ _ _ _)
      | (with_reducible exact vec_Less.mono _ _ _ _ _ _ _ _ _)
      | (with_reducible exact LeO.refl _)
      | (with_reducible exact LeO.none _)
      | (with_reducible refine LeO.ite ?_ ?_)
      | (with_reducible refine LeO.bind ?_ (fun _ => ?_))
      | exact ih0 _ _ _ _ _ _ _ _ _ _ _ _ _ _ _ _ _ _
      | exact ih1 _ _ _ _ _ _ _ _ _ _
      | exact furlonglaw02_awake.mono _
      | exact vec_Add.mono _ _ _ _ _
      | exact vec_Less.mono _ _ _ _ _ _ _ _ _
      | exact LeO.none _
      | refine LeO.ite ?_ ?_
      | refine LeO.bind ?_ (fun _ => ?_)
theorem furlonglaw02_VecTurns.mono : ∀ a0 a1 a2 a3 a4 a5 a6 a7 a8 a9 a10 k, LeO (furlonglaw02_VecTurns.f k a0 a1 a2 a3 a4 a5 a6 a7 a8 a9 a10) (furlonglaw02_VecTurns.f (k + 1) a0 a1 a2 a3 a4 a5 a6 a7 a8 a9 a10) := by
  intro a0 a1 a2 a3 a4 a5 a6 a7 a8 a9 a10 k
  obtain ⟨ih0, ih1⟩ := furlonglaw02_VecTurns.mono_l k
  unfold furlonglaw02_VecTurns.f
  repeat' first
      | (with_reducible exact ih0 _ _ _ _ _ _ _ _ _ _ _ _ _ _ _ _ _ _)
      | (with_reducible exact ih1 _ _ _ _ _ _ _ _ _ _)
      | (with_reducible exact furlonglaw02_awake.mono _)
      | (with_reducible exact vec_Add.mono _ _ _ _ _)
      | (with_reducible exact vec_Less.mono _ _ _ _ _ _ _ _ _)
      | (with_reducible exact LeO.refl _)
      | (with_reducible exact LeO.none _)
      | (with_reducible refine LeO.ite ?_ ?_)
      | (with_reducible refine LeO.bind ?_ (fun _ => ?_))
      | exact ih0 _ _ _ _ _ _ _ _ _ _ _ _ _ _ _ _ _ _
      | exact ih1 _ _ _ _ _ _ _ _ _ _
      | exact furlonglaw02_awake.mono _
      | exact vec_Add.mono _ _ _ _ _
      | exact vec_Less.mono _ _ _ _ _ _ _ _ _
      | exact LeO.none _
      | refine LeO.ite ?_ ?_
      | refine LeO.bind ?_ (fun _ => ?_)
def furlonglaw02_VecAlike.f (k : Nat) (a0_0 : Int) (a0_1 : Int) (a1 : Int) (a2_0 : Int) (a2_1 : Int) : Option (Bool) := (furlonglaw02_awake.f k).bind fun t260 => (if t260 = true then ((furlongref02_Check.f k (([(⟨a0_0, a0_1⟩ : S25), (⟨a2_0, a2_1⟩ : S25)] : List (S25)))).bind fun t264 => (if t264 = 0 then (if a1 < 1 then (some true) else (if a1 > 524288 then (some true) else (if a0_0 > 549755813888 then (some true) else (if a0_1 > 549755813888 then (some true) else ((vec_Less.f k a0_0 a0_1 a1 (wrap64 (2 * a0_0)) (wrap64 (2 * a0_1)) (wrap64 (2 * a1)) a2_0 a2_1).bind fun bt265 => (if bt265.2 = 0 then (some (bt265.1 == 0)) else (some false))))))) else (some true))) else (some false))
theorem furlonglaw02_VecAlike.mono : ∀ a0 a1 a2 a3 a4 k, LeO (furlonglaw02_VecAlike.f k a0 a1 a2 a3 a4) (furlonglaw02_VecAlike.f (k + 1) a0 a1 a2 a3 a4) := by
  intro a0 a1 a2 a3 a4 k
  unfold furlonglaw02_VecAlike.f
  repeat' first
      | (with_reducible exact furlonglaw02_awake.mono _)
      | (with_reducible exact furlongref02_Check.mono _ _)
      | (with_reducible exact vec_Less.mono _ _ _ _ _ _ _ _ _)
      | (with_reducible exact LeO.refl _)
      | (with_reducible exact LeO.none _)
      | (with_reducible refine LeO.ite ?_ ?_)
      | (with_reducible refine LeO.bind ?_ (fun _ => ?_))
      | exact furlonglaw02_awake.mono _
      | exact furlongref02_Check.mono _ _
      | exact vec_Less.mono _ _ _ _ _ _ _ _ _
      | exact LeO.none _
      | refine LeO.ite ?_ ?_
      | refine LeO.bind ?_ (fun _ => ?_)
end Go.Proofs.Ytkbcjagkacijnaa.PVec
end
section
namespace Go.Proofs.Ytkbcjagkacijnaa.VecLib
set_option linter.unusedVariables false
set_option linter.unusedSimpArgs false
open Go.RowKit Go.Proofs.Ytkbcjagkacijnaa.NumLib Go.Proofs.Ytkbcjagkacijnaa.PVec Go.Proofs.YtkbcjagkacijnaaW.PrintWords Go.Proofs.YtkbcjagkacijnaaW.PrintLast

theorem okRes_iff {x : Int} : okRes x = true ↔ 0 ≤ x ∧ x ≤ 1099511627776 := by simp [okRes]
def good (a0 a1 : Int) : Bool := okRes a0 && okRes a1
theorem good_iff {a0 a1 : Int} : good a0 a1 = true ↔ (0 ≤ a0 ∧ a0 ≤ 1099511627776) ∧ (0 ≤ a1 ∧ a1 ≤ 1099511627776) := by
  unfold good; rw [Bool.and_eq_true, okRes_iff, okRes_iff]
theorem good_f (a0 a1 : Int) : vec_Good.f a0 a1 = some (good a0 a1) := rfl
theorem check_f (a0 a1 : Int) : vec_Check.f a0 a1 = some (if good a0 a1 = true then 0 else 1) := by
  unfold vec_Check.f
  rw [good_f, Option.bind_some]
  cases good a0 a1 <;> rfl
theorem done_f {k : Nat} (a0 a1 b0 b1 c0 c1 : Int) : vec_done.f (k + 1) a0 a1 b0 b1 c0 c1 = some (if (good a0 a1 && good b0 b1) = true then (if good c0 c1 = true then (c0, c1, 0) else (0, 0, 2)) else (0, 0, 1)) := by
  unfold vec_done.f
  simp only [good_f, Option.bind_some, vec_done.j0]
  cases good a0 a1 <;> cases good b0 b1 <;> cases good c0 c1 <;> rfl
theorem add_f {k : Nat} {a0 a1 b0 b1 : Int} (ha0 : in64 a0) (ha1 : in64 a1) (hb0 : in64 b0) (hb1 : in64 b1) :
    vec_Add.f (k + 1) a0 a1 b0 b1 = some (if (good a0 a1 && good b0 b1) = true then (if good (a0 + b0) (a1 + b1) = true then (a0 + b0, a1 + b1, 0) else (0, 0, 2)) else (0, 0, 1)) := by
  unfold vec_Add.f
  rw [done_f, Option.bind_some]
  cases h : good a0 a1 && good b0 b1
  · rfl
  · rw [Bool.and_eq_true, good_iff, good_iff] at h
    rw [w64_id (by omega), w64_id (by omega)]
theorem sub_f {k : Nat} {a0 a1 b0 b1 : Int} (ha0 : in64 a0) (ha1 : in64 a1) (hb0 : in64 b0) (hb1 : in64 b1) :
    vec_Sub.f (k + 1) a0 a1 b0 b1 = some (if (good a0 a1 && good b0 b1) = true then (if good (a0 - b0) (a1 - b1) = true then (a0 - b0, a1 - b1, 0) else (0, 0, 2)) else (0, 0, 1)) := by
  unfold vec_Sub.f
  rw [done_f, Option.bind_some]
  cases h : good a0 a1 && good b0 b1
  · rfl
  · rw [Bool.and_eq_true, good_iff, good_iff] at h
    rw [w64_id (by omega), w64_id (by omega)]
/-- A part's fraction. -/
def pt (u t : Int) : Int × Int := if t > 0 then (u, t) else if u > 0 then (1, 0) else (0, 1)
/-- The dominant share. -/
def dshr (a0 a1 b0 b1 : Int) : Int × Int := if (pt a0 b0).1 * (pt a1 b1).2 < (pt a1 b1).1 * (pt a0 b0).2 then pt a1 b1 else pt a0 b0
theorem fixd_pt {u t : Int} (hu : 0 ≤ u) (ht : 0 ≤ t) : fixd (u, t) = pt u t := by
  unfold fixd pt
  simp only
  by_cases h : t = 0
  · subst h
    by_cases h' : 0 < u
    · simp [h']
    · have : u = 0 := by omega
      subst this
      simp
  · rw [if_neg h, if_pos (by omega)]
theorem pt_ok {u t : Int} (hu : 0 ≤ u) (ht : 0 ≤ t) : 0 ≤ (pt u t).1 ∧ 0 ≤ (pt u t).2 ∧ ((pt u t).2 = 0 → (pt u t).1 = 1) := by
  unfold pt
  split
  · exact ⟨hu, ht, fun h => by simp at h; omega⟩
  · split <;> simp
theorem sgn_pos_iff {x : Int} : 0 < sgn x ↔ 0 < x := by
  unfold sgn
  split
  · omega
  · split <;> omega
theorem shareV_shr {a0 a1 b0 b1 : Int} (ha : good a0 a1 = true) (hb : good b0 b1 = true) : shareV (a0, a1) (b0, b1) = dshr a0 a1 b0 b1 := by
  rw [good_iff] at ha hb
  have h0 := pt_ok ha.1.1 hb.1.1
  unfold shareV
  simp only
  have e : stepS (-1, 1) (a0, b0) = pt a0 b0 := by
    unfold stepS
    rw [fixd_pt ha.1.1 hb.1.1, if_pos]
    rw [sgn_pos_iff]
    simp only
    by_cases h : (pt a0 b0).2 = 0
    · have := h0.2.2 h; omega
    · omega
  rw [e]
  unfold stepS dshr
  rw [fixd_pt ha.2.1 hb.2.1]
  simp only [sgn_pos_iff]
  by_cases h : (pt a0 b0).1 * (pt a1 b1).2 < (pt a1 b1).1 * (pt a0 b0).2
  · rw [if_pos h, if_pos (by omega)]
  · rw [if_neg h, if_neg (by omega)]
theorem in64_good {a0 a1 : Int} (h : good a0 a1 = true) : in64 a0 ∧ in64 a1 := by
  rw [good_iff] at h
  unfold in64
  omega
theorem share_f {a0 a1 b0 b1 : Int} (ha : good a0 a1 = true) (hb : good b0 b1 = true) : vec_share.f a0 a1 b0 b1 = some (dshr a0 a1 b0 b1) := by
  unfold vec_share.f
  rw [if_pos ⟨in64_good ha, in64_good hb⟩, shareV_shr ha hb]
theorem awake_f (k : Nat) : furlonglaw02_awake.f (k + 1) = some true := by
  unfold furlonglaw02_awake.f
  rw [add_f (by decide) (by decide) (by decide) (by decide)]
  have h : vec_Share.f 2 1 9 2 = some (1, 2, 0) := by
    unfold vec_Share.f
    rw [good_f, good_f, share_f (by decide) (by decide)]
    decide
  rw [h]
  decide

theorem VecBack {a0 a1 b0 b1 : Int} (ha0 : in64 a0) (ha1 : in64 a1) (hb0 : in64 b0) (hb1 : in64 b1) : furlonglaw02_VecBack.f 9 a0 a1 b0 b1 = some true := by
  have j0 : furlonglaw02_VecBack.j0 9 a0 a1 b0 b1 = some true := by
    simp only [furlonglaw02_VecBack.j0]
    rw [sub_f ha0 ha1 hb0 hb1, Option.bind_some]
    cases ha : good a0 a1
    · simp [check_f, ha]
    · cases hb : good b0 b1
      · simp [check_f, ha, hb]
      · rw [good_iff] at ha hb
        cases hs : good (a0 - b0) (a1 - b1)
        · have hns : ¬ (good (a0 - b0) (a1 - b1) = true) := by simp [hs]
          rw [good_iff] at hns
          rw [← good_iff] at ha hb
          simp only [Bool.and_self, if_true, check_f, ha, hb, Option.bind_some, vec_Fits.f, Bool.false_eq_true, if_false]
          rw [good_iff] at ha hb
          simp
          omega
        · rw [good_iff] at hs
          simp only [Bool.and_self, if_true, Option.bind_some, vec_Fits.f]
          have e1 : (decide (b0 ≤ a0) && decide (b1 ≤ a1)) = true := by simp; omega
          have e2 : (decide (a0 - b0 ≤ a0) && decide (a1 - b1 ≤ a1)) = true := by simp; omega
          rw [e1, e2]
          rfl
  unfold furlonglaw02_VecBack.f
  rw [awake_f, Option.bind_some, if_pos rfl, add_f ha0 ha1 hb0 hb1, Option.bind_some]
  cases hg : good a0 a1 && good b0 b1
  · simpa using j0
  · rw [Bool.and_eq_true] at hg
    cases hs : good (a0 + b0) (a1 + b1)
    · simpa using j0
    · have i1 := in64_good hs
      have g1 := good_iff.mp hg.1
      have g2 := good_iff.mp hg.2
      simp only [if_true]
      rw [sub_f i1.1 i1.2 hb0 hb1, Option.bind_some, hs, hg.2, show a0 + b0 - b0 = a0 by omega, show a1 + b1 - b1 = a1 by omega, hg.1]
      have e1 : (decide (a0 ≤ a0 + b0) && decide (a1 ≤ a1 + b1)) = true := by simp; omega
      have e2 : (decide (b0 ≤ a0 + b0) && decide (b1 ≤ a1 + b1)) = true := by simp; omega
      simp only [Bool.and_self, if_true, vec_Fits.f, e1, e2, check_f, hs, Option.bind_some]
      simpa using j0

end Go.Proofs.Ytkbcjagkacijnaa.VecLib
end
section
namespace Go.Proofs.Ytkbcjagkacijnaa.Open
set_option linter.unusedVariables false
set_option linter.unusedSimpArgs false
open Go.RowKit Go.Proofs.YtkbcjagkacijnaaW.PrintWords

/-- Values of type T read as what k says; good: what is known of them; bulk: no more than the data's. -/
def Opens {α : Type} (P : Program) (T : TypeId) (k : Kd α) (good : α → Prop) (bulk : α → Nat) : Prop :=
  ∀ (H : Type) (enc : TypeId × Value → H) (W : World) (fuel : Nat) (cs : List Value) (x : DataW H × List MemPlace),
    DataW.trod enc P W 0 (fun _ => true) true fuel T cs = some x → ∃ a : α, k.K W a cs ∧ good a ∧ bulk a ≤ Rows.uptoBulk x.1

theorem Opens.int {P : Program} {T : TypeId} {q : IntKind} (h : P.underlying T = some (.int q)) : Opens P T (Kd.int q) (fun n => (Lit.int q n).wf = true) (fun _ => 1) := by
  intro H enc W fuel cs x hx
  obtain ⟨n, rfl, rfl, hw⟩ := DataW.trod_int h hx
  exact ⟨n, rfl, hw, by simp [Rows.uptoBulk]⟩
theorem Opens.bool {P : Program} {T : TypeId} (h : P.underlying T = some .bool) : Opens P T Kd.bool (fun _ => True) (fun _ => 1) := by
  intro H enc W fuel cs x hx
  obtain ⟨n, rfl, rfl⟩ := DataW.trod_bool h hx
  exact ⟨n, rfl, trivial, by simp [Rows.uptoBulk]⟩

/-- Fields, one behind the other. -/
def OpensFs {α : Type} (P : Program) (ts : List TypeId) (k : Kd α) (good : α → Prop) (bulk : α → Nat) : Prop :=
  ∀ (H : Type) (enc : TypeId × Value → H) (W : World) (n : Nat) (cs : List Value) (xs : List (DataW H × List MemPlace)), cs.length = (ts.map P.cellsOf).sum → xs.length = ts.length →
    (∀ i t, ts[i]? = some t → DataW.trod enc P W 0 (fun _ => true) true n t ((cs.drop ((ts.take i).map P.cellsOf).sum).take (P.cellsOf t)) = xs[i]?) →
    ∃ a : α, k.K W a cs ∧ good a ∧ bulk a ≤ Rows.uptoBulkAll (xs.map (·.1))

theorem OpensFs.one {α : Type} {P : Program} {t : TypeId} {k : Kd α} {good : α → Prop} {bulk : α → Nat} (h : Opens P t k good bulk) : OpensFs P [t] k good bulk := by
  intro H enc W n cs xs hl hx hf
  match xs, hx with
  | [x], _ =>
    have h0 := hf 0 t rfl
    simp at h0 hl
    rw [List.take_of_length_le (by omega)] at h0
    obtain ⟨a, h1, h2, h3⟩ := h H enc W n cs x h0
    exact ⟨a, h1, h2, by simpa [Rows.uptoBulkAll] using h3⟩

theorem OpensFs.cons {α β : Type} {P : Program} {t : TypeId} {ts : List TypeId} {k : Kd α} {ks : Kd β} {g : α → Prop} {gs : β → Prop} {b : α → Nat} {bs : β → Nat} (h : Opens P t k g b) (hs : OpensFs P ts ks gs bs) :
    OpensFs P (t :: ts) (Kd.pair k ks) (fun x => g x.1 ∧ gs x.2) (fun x => b x.1 + bs x.2) := by
  intro H enc W n cs xs hl hx hf
  match xs, hx with
  | x :: xs, hx =>
    have h0 := hf 0 t rfl
    simp at h0 hl
    obtain ⟨a, h1, h2, h3⟩ := h H enc W n _ x h0
    obtain ⟨c, g1, g2, g3⟩ := hs H enc W n (cs.drop (P.cellsOf t)) xs (by rw [List.length_drop]; omega) (by simpa using hx) (fun i t' ht' => by
      have := hf (i + 1) t' (by simpa using ht')
      simp only [List.take_succ_cons, List.map_cons, List.sum_cons, List.getElem?_cons_succ] at this
      rw [List.drop_drop]
      exact this)
    exact ⟨(a, c), ⟨_, _, (List.take_append_drop (P.cellsOf t) cs).symm, h1, g1⟩, ⟨h2, g2⟩, by simp only [List.map_cons, Rows.uptoBulkAll]; omega⟩

theorem Opens.struct {α : Type} {P : Program} {T : TypeId} {fs : Array Field} {ts : List TypeId} {k : Kd α} {good : α → Prop} {bulk : α → Nat} (ht : P.underlying T = some (.struct fs))
    (hts : fs.toList.map (·.type) = ts) (hoff : fs.toList.map (·.offset) = (List.range ts.length).map fun i => ((ts.take i).map P.cellsOf).sum) (hsz : P.cellsOf T = (ts.map P.cellsOf).sum) (h : OpensFs P ts k good bulk) :
    Opens P T k good (fun a => bulk a + 1) := by
  intro H enc W fuel cs x hx
  obtain ⟨xs, n, _, rfl, hl, hlen, hf⟩ := DataW.trod_struct ht hx
  have hn : ts.length = fs.size := by rw [← hts]; simp
  obtain ⟨a, h1, h2, h3⟩ := h H enc W n cs xs (by rw [hl, hsz]) (by rw [hlen, hn]) (fun i t hi => by
    have hlt : i < fs.size := by have := (List.getElem?_eq_some_iff.1 hi).1; omega
    have hfi : fs[i]? = some fs[i] := Array.getElem?_eq_getElem hlt
    have e1 : fs[i].type = t := by
      have := congrArg (fun l => l[i]?) hts
      simp [hi, hlt] at this
      exact this
    have e2 : fs[i].offset = ((ts.take i).map P.cellsOf).sum := by
      have := congrArg (fun l => l[i]?) hoff
      simp [hlt, hn] at this
      rw [List.map_take]
      exact this
    have := hf i _ hfi
    rw [e1, e2] at this
    exact this)
  exact ⟨a, h1, h2, by simp only [Rows.uptoBulk]; omega⟩

end Go.Proofs.Ytkbcjagkacijnaa.Open
end
section
namespace Go.Proofs.Ytkbcjagkacijnaa.Open
open Go.RowKit Go.Proofs.YtkbcjagkacijnaaW.PrintWords
set_option linter.unusedVariables false
abbrev kV : Kd (Int × Int) := Kd.pair (Kd.int .i64) (Kd.int .i64)
abbrev okV (x : Int × Int) : Prop := (Lit.int .i64 x.1).wf = true ∧ (Lit.int .i64 x.2).wf = true
set_option maxRecDepth 100000 in
theorem vec : Opens Try.prog 25 kV okV (fun _ => 1 + 1 + 1) :=
  Opens.struct (ts := [2, 2]) Try.underlying25 (by kernel_rfl) (by kernel_rfl) (by kernel_rfl) (OpensFs.cons (Opens.int Try.underlying2) (OpensFs.one (Opens.int Try.underlying2)))
theorem of_vec {W : World} {c : Array Value} {x : Int × Int} (h : kV.K W x c.toList) : c = #[.int .i64 x.1, .int .i64 x.2] := by
  obtain ⟨d, e, h1, rfl, rfl⟩ := h
  exact Array.toList_inj.mp (by simpa using h1)
end Go.Proofs.Ytkbcjagkacijnaa.Open
end
section
namespace Go.Proofs.Ytkbcjagkacijnaa.Walk
set_option linter.unusedVariables false
open Go.RowKit Go.Proofs.Ytkbcjagkacijnaa.NumLib Go.Proofs.YtkbcjagkacijnaaW.PrintWords
theorem VecBack (W : World) (a : Array Value) (x : Int × Int) (ha : Open.kV.K W x a.toList) (ga : Open.okV x) (b : Array Value) (y : Int × Int) (hb : Open.kV.K W y b.toList) (gb : Open.okV y) :
    Calls Try.prog 6 #[.agg a, .agg b] W fun e w' => e = .returned (.bool true) ∧ Below W.heap.size W w' := by
  obtain rfl := Open.of_vec ha
  obtain rfl := Open.of_vec hb
  exact PVec.furlonglaw02_VecBack.calls _ _ _ _ _ _ W (VecLib.VecBack (wf64.mp ga.1) (wf64.mp ga.2) (wf64.mp gb.1) (wf64.mp gb.2))
end Go.Proofs.Ytkbcjagkacijnaa.Walk
end
