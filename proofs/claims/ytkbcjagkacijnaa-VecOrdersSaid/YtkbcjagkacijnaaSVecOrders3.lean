/- What the law VecOrders needs of the seat's contracts and plain laws, several texts one behind the other; no conditions. -/
import Derived.Test.YtkbcjagkacijnaaSVecOrders0
import Derived.Test.YtkbcjagkacijnaaSVecOrders1
import Derived.Test.YtkbcjagkacijnaaSVecOrders2
import Derived.Test.YtkbcjagkacijnaaProg
import Derived.Below
import Derived.Deep.Draws
import Derived.Deep.AppendLies
import Derived.Maps.AppendAt
import Derived.OwnWalk
import Derived.Laws.BytesArg
import Derived.Laws.MakeOwn
import Derived.Laws.OwnMore
import Derived.Deep.OwnRows
import Derived.Tactics
import Derived.Lib.ConvBytes
import Derived.Laws.Slices
import Derived.WalkKit
import Derived.KernelRfl
import Derived.RowKit3
import Derived.Deep.LoopGhost
import Derived.Deep.QuietTactic
import Derived.BigQuiet
import Derived.WideLaws
import Derived.Deep.DeepCutAuto
import Derived.Deep.CutBlock
import Derived.Deep.RegionHeld3
import Derived.Laws.Rows
import Derived.Lib.AppendStr
import Derived.ArgAppend
import Derived.Laws.IdiomCopy
import Derived.OrdersHeld
import Derived.Laws.BitsLemmas
import Derived.RowKit
import Derived.Test.YtkbcjagkacijnaaWWords
import Derived.Test.YtkbcjagkacijnaaWLast
import Derived.Test.YtkbcjagkacijnaaWTab
import Derived.Test.YtkbcjagkacijnaaWFour
import Derived.Test.YtkbcjagkacijnaaWQPut
import Derived.Test.YtkbcjagkacijnaaWApart
import Derived.Test.YtkbcjagkacijnaaWArr
import Derived.Test.YtkbcjagkacijnaaWZeros
import Derived.Test.YtkbcjagkacijnaaWFoot
import Derived.Test.YtkbcjagkacijnaaWKept
import Derived.Test.YtkbcjagkacijnaaWShare
import Derived.Test.YtkbcjagkacijnaaWN
import Derived.Test.YtkbcjagkacijnaaWFootNe
import Derived.Test.YtkbcjagkacijnaaWAt
import Derived.Test.YtkbcjagkacijnaaWEqStruct
import Derived.Test.YtkbcjagkacijnaaWRepsOne
import Derived.Test.YtkbcjagkacijnaaWInv
import Derived.Test.YtkbcjagkacijnaaWInvWords
import Derived.Test.YtkbcjagkacijnaaWGuard
import Derived.Test.YtkbcjagkacijnaaWNEv
import Derived.Test.YtkbcjagkacijnaaWMore
section
-- Written for this claim by this project's own driver over the kit's print: functions and their contracts.
namespace Go.Proofs.Ytkbcjagkacijnaa.PNum
open Go.RowKit Go.Proofs.YtkbcjagkacijnaaW.PrintWords Go.Proofs.YtkbcjagkacijnaaW.PrintLast Go.Proofs.YtkbcjagkacijnaaW.PrintMore
attribute [local go_sem] max2_int min2_int max_two min_two max_three min_three max_four min_four   -- for this text's walks alone
set_option linter.unusedVariables false
set_option linter.unusedSimpArgs false

mutual
def furlongref01_MulDiv.j0 : Nat → Int → Bool → Int → Int → Option (Int × Int)
  | 0, _, _, _, _ => none
  | k + 1, x2, x30, x161000, x161001 => if x30 = true then (some (0, 2)) else ((furlongref01_Less.f x161000 x161001 0 0).bind fun t171 => (if t171 = true then (furlongref01_MulDiv.j1 k x2 (-9223372036854775808) x161000 x161001) else (furlongref01_MulDiv.j1 k x2 0 x161000 x161001)))
def furlongref01_MulDiv.j1 : Nat → Int → Int → Int → Int → Option (Int × Int)
  | 0, _, _, _, _ => none
  | k + 1, x2, x9, x161000, x161001 => furlongref01_MulDiv.l0 k x2 x9 62 x161000 x161001
def furlongref01_MulDiv.l0 : Nat → Int → Int → Int → Int → Int → Option (Int × Int)
  | 0, _, _, _, _, _ => none
  | k + 1, x2, x9, x10, x161000, x161001 => if x10 ≥ 0 then (if 0 ≤ x10 then ((furlongref01_Times.f (wrap64 (x9 + (shl .i64 1 x10))) x2).bind fun bt172 => ((furlongref01_Less.f x161000 x161001 bt172.1 bt172.2).bind fun t174 => (if t174 = true then (furlongref01_MulDiv.l0 k x2 x9 (wrap64 (x10 - 1)) x161000 x161001) else (furlongref01_MulDiv.l0 k x2 (wrap64 (x9 + (shl .i64 1 x10))) (wrap64 (x10 - 1)) x161000 x161001)))) else (none)) else (some (x9, 0))
end
def furlongref01_MulDiv.f (k : Nat) (a0 : Int) (a1 : Int) (a2 : Int) : Option (Int × Int) := if a2 < 1 then (some (0, 1)) else ((furlongref01_Times.f a0 a1).bind fun bt158 => ((furlongref01_Times.f (-9223372036854775808) a2).bind fun bt161 => ((furlongref01_Less.f bt158.1 bt158.2 bt161.1 bt161.2).bind fun t163 => (if t163 = true then (furlongref01_MulDiv.j0 k a2 true bt158.1 bt158.2) else ((furlongref01_Times.f 9223372036854775807 a2).bind fun bt164 => ((furlongref01_Of.f a2).bind fun bt166 => ((furlongref01_Plus.f bt164.1 bt164.2 bt166.1 bt166.2).bind fun bt168 => ((furlongref01_Less.f bt158.1 bt158.2 bt168.1 bt168.2).bind fun t170 => (furlongref01_MulDiv.j0 k a2 (!t170) bt158.1 bt158.2)))))))))
theorem furlongref01_MulDiv.mono_l : ∀ k, (∀ y0 y1 y2 y3, LeO (furlongref01_MulDiv.j0 k y0 y1 y2 y3) (furlongref01_MulDiv.j0 (k + 1) y0 y1 y2 y3)) ∧ (∀ y0 y1 y2 y3, LeO (furlongref01_MulDiv.j1 k y0 y1 y2 y3) (furlongref01_MulDiv.j1 (k + 1) y0 y1 y2 y3)) ∧ (∀ y0 y1 y2 y3 y4, LeO (furlongref01_MulDiv.l0 k y0 y1 y2 y3 y4) (furlongref01_MulDiv.l0 (k + 1) y0 y1 y2 y3 y4))
  | 0 => ⟨fun _ _ _ _ r h => by simp [furlongref01_MulDiv.j0] at h, fun _ _ _ _ r h => by simp [furlongref01_MulDiv.j1] at h, fun _ _ _ _ _ r h => by simp [furlongref01_MulDiv.l0] at h⟩
  | k + 1 => by
    obtain ⟨ih0, ih1, ih2⟩ := furlongref01_MulDiv.mono_l k
    refine ⟨?_, ?_, ?_⟩
    · intro y0 y1 y2 y3
      unfold furlongref01_MulDiv.j0
      repeat' first
      | (with_reducible exact ih0 _ _ _ _)
      | (with_reducible exact ih1 _ _ _ _)
      | (with_reducible exact ih2 _ _ _ _ _)
      | (with_reducible exact LeO.refl _)
      | (with_reducible exact LeO.none _)
      | (with_reducible refine LeO.ite ?_ ?_)
      | (with_reducible refine LeO.bind ?_ (fun _ => ?_))
      | exact ih0 _ _ _ _
      | exact ih1 _ _ _ _
      | exact ih2 _ _ _ _ _
      | exact LeO.none _
      | refine LeO.ite ?_ ?_
      | refine LeO.bind ?_ (fun _ => ?_)
    · intro y0 y1 y2 y3
      unfold furlongref01_MulDiv.j1
      repeat' first
      | (with_reducible exact ih0 _ _ _ _)
      | (with_reducible exact ih1 _ _ _ _)
      | (with_reducible exact ih2 _ _ _ _ _)
      | (with_reducible exact LeO.refl _)
      | (with_reducible exact LeO.none _)
      | (with_reducible refine LeO.ite ?_ ?_)
      | (with_reducible refine LeO.bind ?_ (fun _ => ?_))
      | exact ih0 _ _ _ _
      | exact ih1 _ _ _ _
      | exact ih2 _ _ _ _ _
      | exact LeO.none _
      | refine LeO.ite ?_ ?_
      | refine LeO.bind ?_ (fun _ => ?_)
    · intro y0 y1 y2 y3 y4
      unfold furlongref01_MulDiv.l0
      repeat' first
      | (with_reducible exact ih0 _ _ _ _)
      | (with_reducible exact ih1 _ _ _ _)
      | (with_reducible exact ih2 _ _ _ _ _)
      | (with_reducible exact LeO.refl _)
      | (with_reducible exact LeO.none _)
      | (with_reducible refine LeO.ite ?_ ?_)
      | (with_reducible refine LeO.bind ?_ (fun _ => ?_))
      | exact ih0 _ _ _ _
      | exact ih1 _ _ _ _
      | exact ih2 _ _ _ _ _
      | exact LeO.none _
      | refine LeO.ite ?_ ?_
      | refine LeO.bind ?_ (fun _ => ?_)
theorem furlongref01_MulDiv.mono : ∀ a0 a1 a2 k, LeO (furlongref01_MulDiv.f k a0 a1 a2) (furlongref01_MulDiv.f (k + 1) a0 a1 a2) := by
  intro a0 a1 a2 k
  obtain ⟨ih0, ih1, ih2⟩ := furlongref01_MulDiv.mono_l k
  unfold furlongref01_MulDiv.f
  repeat' first
      | (with_reducible exact ih0 _ _ _ _)
      | (with_reducible exact ih1 _ _ _ _)
      | (with_reducible exact ih2 _ _ _ _ _)
      | (with_reducible exact LeO.refl _)
      | (with_reducible exact LeO.none _)
      | (with_reducible refine LeO.ite ?_ ?_)
      | (with_reducible refine LeO.bind ?_ (fun _ => ?_))
      | exact ih0 _ _ _ _
      | exact ih1 _ _ _ _
      | exact ih2 _ _ _ _ _
      | exact LeO.none _
      | refine LeO.ite ?_ ?_
      | refine LeO.bind ?_ (fun _ => ?_)
end Go.Proofs.Ytkbcjagkacijnaa.PNum
end
section
-- Written for this claim by this project's own driver over the kit's print: functions and their contracts.
namespace Go.Proofs.Ytkbcjagkacijnaa.PNum
open Go.RowKit Go.Proofs.YtkbcjagkacijnaaW.PrintWords Go.Proofs.YtkbcjagkacijnaaW.PrintLast Go.Proofs.YtkbcjagkacijnaaW.PrintMore
attribute [local go_sem] max2_int min2_int max_two min_two max_three min_three max_four min_four   -- for this text's walks alone
set_option linter.unusedVariables false
set_option linter.unusedSimpArgs false

def furlongref01_order.f (a0_0 : Int) (a0_1 : Int) (a1_0 : Int) (a1_1 : Int) : Option (Int) := (furlongref01_Less.f a0_0 a0_1 a1_0 a1_1).bind fun t177 => (if t177 = true then (some (-1)) else ((furlongref01_Less.f a1_0 a1_1 a0_0 a0_1).bind fun t178 => (if t178 = true then (some 1) else (some 0))))
def furlongref01_Cmp.j0 : Nat → Int → Int → Int → Int → Bool → Option (Int × Int)
  | 0, _, _, _, _, _ => none
  | k + 1, x0, x1, x2, x3, x15 => if x15 = true then (some (0, 1)) else ((furlongref01_Times.f x0 x3).bind fun bt179 => ((furlongref01_Times.f x2 x1).bind fun bt181 => ((furlongref01_order.f bt179.1 bt179.2 bt181.1 bt181.2).bind fun t183 => (some (t183, 0)))))
def furlongref01_Cmp.f (k : Nat) (a0 : Int) (a1 : Int) (a2 : Int) (a3 : Int) : Option (Int × Int) := if a1 < 1 then (furlongref01_Cmp.j0 k a0 a1 a2 a3 true) else (furlongref01_Cmp.j0 k a0 a1 a2 a3 (decide (a3 < 1)))
theorem furlongref01_Cmp.mono_l : ∀ k, (∀ y0 y1 y2 y3 y4, LeO (furlongref01_Cmp.j0 k y0 y1 y2 y3 y4) (furlongref01_Cmp.j0 (k + 1) y0 y1 y2 y3 y4))
  | 0 => fun _ _ _ _ _ r h => by simp [furlongref01_Cmp.j0] at h
  | k + 1 => by
    have ih0 := furlongref01_Cmp.mono_l k
    · intro y0 y1 y2 y3 y4
      unfold furlongref01_Cmp.j0
      repeat' first
      | (with_reducible exact ih0 _ _ _ _ _)
      | (with_reducible exact LeO.refl _)
      | (with_reducible exact LeO.none _)
      | (with_reducible refine LeO.ite ?_ ?_)
      | (with_reducible refine LeO.bind ?_ (fun _ => ?_))
      | exact ih0 _ _ _ _ _
      | exact LeO.none _
      | refine LeO.ite ?_ ?_
      | refine LeO.bind ?_ (fun _ => ?_)
theorem furlongref01_Cmp.mono : ∀ a0 a1 a2 a3 k, LeO (furlongref01_Cmp.f k a0 a1 a2 a3) (furlongref01_Cmp.f (k + 1) a0 a1 a2 a3) := by
  intro a0 a1 a2 a3 k
  have ih0 := furlongref01_Cmp.mono_l k
  unfold furlongref01_Cmp.f
  repeat' first
      | (with_reducible exact ih0 _ _ _ _ _)
      | (with_reducible exact LeO.refl _)
      | (with_reducible exact LeO.none _)
      | (with_reducible refine LeO.ite ?_ ?_)
      | (with_reducible refine LeO.bind ?_ (fun _ => ?_))
      | exact ih0 _ _ _ _ _
      | exact LeO.none _
      | refine LeO.ite ?_ ?_
      | refine LeO.bind ?_ (fun _ => ?_)
def furlonglaw01_NumDivides.f (k : Nat) (a0 : Int) (a1 : Int) (a2 : Int) (a3 : Int) : Option (Bool) := (furlonglaw01_awake.f k).bind fun t184 => (if t184 = true then ((num_MulDiv.f k a0 a1 a2).bind fun bt185 => ((furlongref01_MulDiv.f k a0 a1 a2).bind fun bt187 => ((num_Cmp.f k a0 a1 a2 a3).bind fun bt189 => ((furlongref01_Cmp.f k a0 a1 a2 a3).bind fun bt191 => (if bt185.1 = bt187.1 then (if bt185.2 = bt187.2 then (if bt189.1 = bt191.1 then (some (bt189.2 == bt191.2)) else (some false)) else (some false)) else (some false)))))) else (some false))
theorem furlonglaw01_NumDivides.mono : ∀ a0 a1 a2 a3 k, LeO (furlonglaw01_NumDivides.f k a0 a1 a2 a3) (furlonglaw01_NumDivides.f (k + 1) a0 a1 a2 a3) := by
  intro a0 a1 a2 a3 k
  unfold furlonglaw01_NumDivides.f
  repeat' first
      | (with_reducible exact furlonglaw01_awake.mono _)
      | (with_reducible exact furlongref01_Cmp.mono _ _ _ _ _)
      | (with_reducible exact furlongref01_MulDiv.mono _ _ _ _)
      | (with_reducible exact num_Cmp.mono _ _ _ _ _)
      | (with_reducible exact num_MulDiv.mono _ _ _ _)
      | (with_reducible exact LeO.refl _)
      | (with_reducible exact LeO.none _)
      | (with_reducible refine LeO.ite ?_ ?_)
      | (with_reducible refine LeO.bind ?_ (fun _ => ?_))
      | exact furlonglaw01_awake.mono _
      | exact furlongref01_Cmp.mono _ _ _ _ _
      | exact furlongref01_MulDiv.mono _ _ _ _
      | exact num_Cmp.mono _ _ _ _ _
      | exact num_MulDiv.mono _ _ _ _
      | exact LeO.none _
      | refine LeO.ite ?_ ?_
      | refine LeO.bind ?_ (fun _ => ?_)
def furlongref01_Gcd.l0 : Nat → Int → Int → Option (Int)
  | 0, _, _ => none
  | k + 1, x5, x6 => if x6 = 0 then (if x5 > 9223372036854775807 then (some 0) else (some (wrap64 (x5)))) else (furlongref01_Gcd.l0 k x6 (Int.tmod x5 x6))
def furlongref01_Gcd.f (k : Nat) (a0 : Int) (a1 : Int) : Option (Int) := (furlongref01_size.f a0).bind fun t193 => ((furlongref01_size.f a1).bind fun t194 => (furlongref01_Gcd.l0 k t193 t194))
theorem furlongref01_Gcd.mono_l : ∀ k, (∀ y0 y1, LeO (furlongref01_Gcd.l0 k y0 y1) (furlongref01_Gcd.l0 (k + 1) y0 y1))
  | 0 => fun _ _ r h => by simp [furlongref01_Gcd.l0] at h
  | k + 1 => by
    have ih0 := furlongref01_Gcd.mono_l k
    · intro y0 y1
      unfold furlongref01_Gcd.l0
      repeat' first
      | (with_reducible exact ih0 _ _)
      | (with_reducible exact LeO.refl _)
      | (with_reducible exact LeO.none _)
      | (with_reducible refine LeO.ite ?_ ?_)
      | (with_reducible refine LeO.bind ?_ (fun _ => ?_))
      | exact ih0 _ _
      | exact LeO.none _
      | refine LeO.ite ?_ ?_
      | refine LeO.bind ?_ (fun _ => ?_)
theorem furlongref01_Gcd.mono : ∀ a0 a1 k, LeO (furlongref01_Gcd.f k a0 a1) (furlongref01_Gcd.f (k + 1) a0 a1) := by
  intro a0 a1 k
  have ih0 := furlongref01_Gcd.mono_l k
  unfold furlongref01_Gcd.f
  repeat' first
      | (with_reducible exact ih0 _ _)
      | (with_reducible exact LeO.refl _)
      | (with_reducible exact LeO.none _)
      | (with_reducible refine LeO.ite ?_ ?_)
      | (with_reducible refine LeO.bind ?_ (fun _ => ?_))
      | exact ih0 _ _
      | exact LeO.none _
      | refine LeO.ite ?_ ?_
      | refine LeO.bind ?_ (fun _ => ?_)
def furlonglaw01_NumGcds.f (k : Nat) (a0 : Int) (a1 : Int) : Option (Bool) := (furlonglaw01_awake.f k).bind fun t195 => (if t195 = true then ((num_Gcd.f k a0 a1).bind fun t196 => ((furlongref01_Gcd.f k a0 a1).bind fun t197 => (some (t196 == t197)))) else (some false))
theorem furlonglaw01_NumGcds.mono : ∀ a0 a1 k, LeO (furlonglaw01_NumGcds.f k a0 a1) (furlonglaw01_NumGcds.f (k + 1) a0 a1) := by
  intro a0 a1 k
  unfold furlonglaw01_NumGcds.f
  repeat' first
      | (with_reducible exact furlonglaw01_awake.mono _)
      | (with_reducible exact furlongref01_Gcd.mono _ _ _)
      | (with_reducible exact num_Gcd.mono _ _ _)
      | (with_reducible exact LeO.refl _)
      | (with_reducible exact LeO.none _)
      | (with_reducible refine LeO.ite ?_ ?_)
      | (with_reducible refine LeO.bind ?_ (fun _ => ?_))
      | exact furlonglaw01_awake.mono _
      | exact furlongref01_Gcd.mono _ _ _
      | exact num_Gcd.mono _ _ _
      | exact LeO.none _
      | refine LeO.ite ?_ ?_
      | refine LeO.bind ?_ (fun _ => ?_)
mutual
def furlonglaw01_NumFloor.j0 : Nat → Int → Int → Int → Int → Int → Bool → Option (Bool)
  | 0, _, _, _, _, _, _ => none
  | k + 1, x0, x1, x2, x7, x8, x35 => if x35 = true then (if x8 = 0 then (some true) else (if x8 = 2 then (some (x7 == 0)) else (some false))) else ((num_Cmp.f k x7 x1 x0 x2).bind fun bt201 => (if bt201.2 = 0 then (furlonglaw01_NumFloor.j1 k x0 x1 x2 x7 (decide (bt201.1 > 0))) else (furlonglaw01_NumFloor.j1 k x0 x1 x2 x7 true)))
def furlonglaw01_NumFloor.j1 : Nat → Int → Int → Int → Int → Bool → Option (Bool)
  | 0, _, _, _, _, _ => none
  | k + 1, x0, x1, x2, x7, x59 => if x59 = true then (some false) else (if x7 = 9223372036854775807 then (some true) else ((num_Cmp.f k (wrap64 (x7 + 1)) x1 x0 x2).bind fun bt203 => (if bt203.2 = 0 then (some (decide (bt203.1 > 0))) else (some false))))
end
def furlonglaw01_NumFloor.f (k : Nat) (a0 : Int) (a1 : Int) (a2 : Int) : Option (Bool) := (furlonglaw01_awake.f k).bind fun t198 => (if t198 = true then ((num_MulDiv.f k a0 a1 a2).bind fun bt199 => (if a2 < 1 then (if bt199.2 = 1 then (some (bt199.1 == 0)) else (some false)) else (if bt199.2 = 0 then (furlonglaw01_NumFloor.j0 k a0 a1 a2 bt199.1 bt199.2 (decide (a1 < 1))) else (furlonglaw01_NumFloor.j0 k a0 a1 a2 bt199.1 bt199.2 true)))) else (some false))
theorem furlonglaw01_NumFloor.mono_l : ∀ k, (∀ y0 y1 y2 y3 y4 y5, LeO (furlonglaw01_NumFloor.j0 k y0 y1 y2 y3 y4 y5) (furlonglaw01_NumFloor.j0 (k + 1) y0 y1 y2 y3 y4 y5)) ∧ (∀ y0 y1 y2 y3 y4, LeO (furlonglaw01_NumFloor.j1 k y0 y1 y2 y3 y4) (furlonglaw01_NumFloor.j1 (k + 1) y0 y1 y2 y3 y4))
  | 0 => ⟨fun _ _ _ _ _ _ r h => by simp [furlonglaw01_NumFloor.j0] at h, fun _ _ _ _ _ r h => by simp [furlonglaw01_NumFloor.j1] at h⟩
  | k + 1 => by
    obtain ⟨ih0, ih1⟩ := furlonglaw01_NumFloor.mono_l k
    refine ⟨?_, ?_⟩
    · intro y0 y1 y2 y3 y4 y5
      unfold furlonglaw01_NumFloor.j0
      repeat' first
      | (with_reducible exact ih0 _ _ _ _ _ _)
      | (with_reducible exact ih1 _ _ _ _ _)
      | (with_reducible exact furlonglaw01_awake.mono _)
      | (with_reducible exact num_Cmp.mono _ _ _ _ _)
      | (with_reducible exact num_MulDiv.mono _ _ _ _)
      | (with_reducible exact LeO.refl _)
      | (with_reducible exact LeO.none _)
      | (with_reducible refine LeO.ite ?_ ?_)
      | (with_reducible refine LeO.bind ?_ (fun _ => ?_))
      | exact ih0 _ _ _ _ _ _
      | exact ih1 _ _ _ _ _
      | exact furlonglaw01_awake.mono _
      | exact num_Cmp.mono _ _ _ _ _
      | exact num_MulDiv.mono _ _ _ _
      | exact LeO.none _
      | refine LeO.ite ?_ ?_
      | refine LeO.bind ?_ (fun _ => ?_)
    · intro y0 y1 y2 y3 y4
      unfold furlonglaw01_NumFloor.j1
      repeat' first
      | (with_reducible exact ih0 _ _ _ _ _ _)
      | (with_reducible exact ih1 _ _ _ _ _)
      | (with_reducible exact furlonglaw01_awake.mono _)
      | (with_reducible exact num_Cmp.mono _ _ _ _ _)
      | (with_reducible exact num_MulDiv.mono _ _ _ _)
      | (with_reducible exact LeO.refl _)
      | (with_reducible exact LeO.none _)
      | (with_reducible refine LeO.ite ?_ ?_)
      | (with_reducible refine LeO.bind ?_ (fun _ => ?_))
      | exact ih0 _ _ _ _ _ _
      | exact ih1 _ _ _ _ _
      | exact furlonglaw01_awake.mono _
      | exact num_Cmp.mono _ _ _ _ _
      | exact num_MulDiv.mono _ _ _ _
      | exact LeO.none _
      | refine LeO.ite ?_ ?_
      | refine LeO.bind ?_ (fun _ => ?_)
theorem furlonglaw01_NumFloor.mono : ∀ a0 a1 a2 k, LeO (furlonglaw01_NumFloor.f k a0 a1 a2) (furlonglaw01_NumFloor.f (k + 1) a0 a1 a2) := by
  intro a0 a1 a2 k
  obtain ⟨ih0, ih1⟩ := furlonglaw01_NumFloor.mono_l k
  unfold furlonglaw01_NumFloor.f
  repeat' first
      | (with_reducible exact ih0 _ _ _ _ _ _)
      | (with_reducible exact ih1 _ _ _ _ _)
      | (with_reducible exact furlonglaw01_awake.mono _)
      | (with_reducible exact num_Cmp.mono _ _ _ _ _)
      | (with_reducible exact num_MulDiv.mono _ _ _ _)
      | (with_reducible exact LeO.refl _)
      | (with_reducible exact LeO.none _)
      | (with_reducible refine LeO.ite ?_ ?_)
      | (with_reducible refine LeO.bind ?_ (fun _ => ?_))
      | exact ih0 _ _ _ _ _ _
      | exact ih1 _ _ _ _ _
      | exact furlonglaw01_awake.mono _
      | exact num_Cmp.mono _ _ _ _ _
      | exact num_MulDiv.mono _ _ _ _
      | exact LeO.none _
      | refine LeO.ite ?_ ?_
      | refine LeO.bind ?_ (fun _ => ?_)
end Go.Proofs.Ytkbcjagkacijnaa.PNum
end
section
namespace Go.Proofs.Ytkbcjagkacijnaa.NumLib
set_option linter.unusedVariables false
set_option linter.unusedSimpArgs false
open Go.RowKit Go.Proofs.Ytkbcjagkacijnaa.PNum Go.Proofs.YtkbcjagkacijnaaW.PrintWords Go.Proofs.YtkbcjagkacijnaaW.PrintLast

/-- The words of a number: high and low. -/
def hiW (v : Int) : Int := v / 18446744073709551616
def loW (v : Int) : Int := v % 18446744073709551616
/-- Is this number within 128 bits? -/
def in128 (v : Int) : Prop := -170141183460469231731687303715884105728 ≤ v ∧ v ≤ 170141183460469231731687303715884105727

theorem rsize_eq {a : Int} (h : in64 a) : furlongref01_size.f a = some (a.natAbs : Int) := by
  unfold in64 at h
  unfold furlongref01_size.f
  simp only [u64w]
  split
  · congr 1; omega
  · congr 1; omega

theorem plus_eq {u v : Int} (hu : in128 u) (hv : in128 v) (h : in128 (u + v)) : furlongref01_Plus.f (hiW u) (loW u) (hiW v) (loW v) = some (hiW (u + v), loW (u + v)) := by
  unfold in128 at hu hv h
  unfold furlongref01_Plus.f hiW loW
  simp only [u64w]
  split
  · congr 2
    · rw [w64, w64]; omega
    · omega
  · congr 2
    · rw [w64]; omega
    · omega

theorem ofInt_nat (x : Int) : ((BitVec.ofInt 64 x).toNat : Int) = x % 18446744073709551616 := by
  rw [BitVec.toNat_ofInt]
  have : ((2 ^ 64 : Nat) : Int) = 18446744073709551616 := by rfl
  rw [this]
  omega
theorem not_nat (x : Int) : ((BitVec.allOnes 64 ^^^ BitVec.ofInt 64 x).toNat : Int) = 18446744073709551615 - x % 18446744073709551616 := by
  rw [BitVec.allOnes_xor, BitVec.toNat_not, ← ofInt_nat x]
  have := (BitVec.ofInt 64 x).isLt
  have e : (2 : Nat) ^ 64 = 18446744073709551616 := by rfl
  rw [e] at *
  omega
theorem xor_i64 {x : Int} (h : in64 x) : Go.bits .xor .i64 (-1) x = -1 - x := by
  show IntKind.i64.wrap ((BitVec.ofInt 64 (-1) ^^^ BitVec.ofInt 64 x).toNat : Int) = _
  have e : BitVec.ofInt 64 (-1) = BitVec.allOnes 64 := by decide
  rw [e, not_nat, IntKind.wrap_i64]
  unfold in64 at h
  omega
theorem xor_u64 {x : Int} (h0 : 0 ≤ x) (h1 : x < 18446744073709551616) : Go.bits .xor .u64 18446744073709551615 x = 18446744073709551615 - x := by
  show IntKind.u64.wrap ((BitVec.ofInt 64 18446744073709551615 ^^^ BitVec.ofInt 64 x).toNat : Int) = _
  have e : BitVec.ofInt 64 18446744073709551615 = BitVec.allOnes 64 := by decide
  rw [e, not_nat, u64w]
  omega
theorem minus_eq {u v : Int} (hu : in128 u) (hv : in128 v) (h : in128 (u - v)) (hn : in128 (-v)) : furlongref01_Minus.f (hiW u) (loW u) (hiW v) (loW v) = some (hiW (u - v), loW (u - v)) := by
  unfold furlongref01_Minus.f
  have h1 : in64 (hiW v) := by unfold in128 at hv; unfold in64 hiW; omega
  have h2 : 0 ≤ loW v ∧ loW v < 18446744073709551616 := by unfold loW; omega
  rw [xor_i64 h1, xor_u64 h2.1 h2.2]
  have e1 : -1 - hiW v = hiW (-1 - v) := by unfold hiW; omega
  have e2 : 18446744073709551615 - loW v = loW (-1 - v) := by unfold loW; omega
  have h3 : in128 (-1 - v) := by unfold in128 at *; omega
  have z : furlongref01_Plus.f (hiW (-1 - v)) (loW (-1 - v)) 0 1 = some (hiW (-1 - v + 1), loW (-1 - v + 1)) :=
    plus_eq (v := 1) h3 (by unfold in128; omega) (by unfold in128 at *; omega)
  rw [e1, e2, z]
  simp only [Option.bind_some]
  rw [show -1 - v + 1 = -v by omega, plus_eq hu hn (by rw [show u + -v = u - v by omega]; exact h)]
  simp only [Option.bind_some]
  rw [show u + -v = u - v by omega]

theorem half_eq {a b : Int} (ha : 0 ≤ a) (ha' : a ≤ 9223372036854775808) (hb : 0 ≤ b) (hb' : b ≤ 9223372036854775808) :
    furlongref01_half.f a b = some (hiW (a * b), loW (a * b)) := by
  unfold furlongref01_half.f hiW loW
  simp only [u64w]
  rw [and_mask ha (by omega), and_mask hb (by omega)]
  have hle := Int.mul_le_mul ha' hb' hb (by omega : (0 : Int) ≤ 9223372036854775808)
  have ea : a = 4294967296 * (a / 4294967296) + a % 4294967296 := by omega
  have eb : b = 4294967296 * (b / 4294967296) + b % 4294967296 := by omega
  have hx1 : 0 ≤ a / 4294967296 ∧ a / 4294967296 ≤ 4294967295 := by omega
  have hx0 : 0 ≤ a % 4294967296 ∧ a % 4294967296 ≤ 4294967295 := by omega
  have hy1 : 0 ≤ b / 4294967296 ∧ b / 4294967296 ≤ 4294967295 := by omega
  have hy0 : 0 ≤ b % 4294967296 ∧ b % 4294967296 ≤ 4294967295 := by omega
  have hab := mul_parts (a / 4294967296) (a % 4294967296) (b / 4294967296) (b % 4294967296)
  rw [← ea, ← eb] at hab
  generalize a / 4294967296 = x1 at *
  generalize a % 4294967296 = x0 at *
  generalize b / 4294967296 = y1 at *
  generalize b % 4294967296 = y0 at *
  have b11 := mul_le32 hx1.1 hx1.2 hy1.1 hy1.2
  have b10 := mul_le32 hx1.1 hx1.2 hy0.1 hy0.2
  have b01 := mul_le32 hx0.1 hx0.2 hy1.1 hy1.2
  have b00 := mul_le32 hx0.1 hx0.2 hy0.1 hy0.2
  generalize a * b = p at *
  generalize x1 * y1 = p11 at *
  generalize x1 * y0 = p10 at *
  generalize x0 * y1 = p01 at *
  generalize x0 * y0 = p00 at *
  simp only [and_mask, Int.emod_nonneg, Int.emod_lt_of_pos, ne_eq, reduceCtorEq, not_false_eq_true, show (0 : Int) < 18446744073709551616 by omega, show ¬ ((18446744073709551616 : Int) = 0) by omega]
  congr 1
  refine Prod.ext ?_ ?_
  · show wrap64 _ = _ / _; rw [w64]; omega
  · show _ = _ % _; omega

theorem times_eq {a b : Int} (ha : in64 a) (hb : in64 b) : furlongref01_Times.f a b = some (hiW (a * b), loW (a * b)) := by
  have hb1 := below_iff (a := a) (b := b)
  have hm := abs_mul_lt ha hb
  unfold furlongref01_Times.f
  rw [rsize_eq ha, rsize_eq hb]
  simp only [Option.bind_some]
  have ha' := ha
  have hb' := hb
  unfold in64 at ha' hb'
  rw [half_eq (by omega) (by omega) (by omega) (by omega), natAbs_mul_cast]
  rw [natAbs_mul_cast] at hm
  simp only [Option.bind_some]
  split
  · rename_i hd
    have hz : furlongref01_Minus.f 0 0 (hiW ((a * b).natAbs : Int)) (loW ((a * b).natAbs : Int)) = some (hiW (0 - ((a * b).natAbs : Int)), loW (0 - ((a * b).natAbs : Int))) :=
      minus_eq (u := 0) (by unfold in128; omega) (by unfold in128; omega) (by unfold in128; omega) (by unfold in128; omega)
    rw [hz]
    simp only [Option.bind_some]
    by_cases e : a * b = 0
    · rw [e]; rfl
    · have := hb1.mp ⟨hd, e⟩
      rw [show (0 - ((a * b).natAbs : Int)) = a * b by omega]
  · rename_i hd
    have : ¬ a * b < 0 := fun h => hd (hb1.mpr h).1
    rw [show ((a * b).natAbs : Int) = a * b by omega]

theorem rless_eq (u v : Int) : furlongref01_Less.f (hiW u) (loW u) (hiW v) (loW v) = some (decide (u < v)) := by
  unfold furlongref01_Less.f hiW loW
  split
  · congr 1; symm; simp; omega
  · split
    · congr 1; apply decide_eq_decide.mpr; omega
    · congr 1; symm; simp; omega

end Go.Proofs.Ytkbcjagkacijnaa.NumLib
end
section
-- Written for this claim by this project's own driver over the kit's print: functions and their contracts.
namespace Go.Proofs.Ytkbcjagkacijnaa.PVec
open Go.RowKit Go.Proofs.YtkbcjagkacijnaaW.PrintWords Go.Proofs.YtkbcjagkacijnaaW.PrintLast Go.Proofs.YtkbcjagkacijnaaW.PrintMore
attribute [local go_sem] max2_int min2_int max_two min_two max_three min_three max_four min_four   -- for this text's walks alone
set_option linter.unusedVariables false
set_option linter.unusedSimpArgs false

attribute [local go_sem high] eqA25
def furlonglaw02_VecBack.j0 : Nat → Int → Int → Int → Int → Option (Bool)
  | 0, _, _, _, _ => none
  | k + 1, x159000, x159001, x160000, x160001 => (vec_Sub.f k x159000 x159001 x160000 x160001).bind fun bt172 => (if bt172.2.2 = 0 then ((vec_Fits.f x160000 x160001 x159000 x159001).bind fun t176 => (if t176 = true then ((vec_Fits.f bt172.1 bt172.2.1 x159000 x159001).bind fun t177 => (some t177)) else (some false))) else ((vec_Check.f x159000 x159001).bind fun t178 => (if t178 = 0 then ((vec_Check.f x160000 x160001).bind fun t179 => (if t179 = 0 then ((vec_Fits.f x160000 x160001 x159000 x159001).bind fun t180 => (some (!t180))) else (some true))) else (some true))))
def furlonglaw02_VecBack.f (k : Nat) (a0_0 : Int) (a0_1 : Int) (a1_0 : Int) (a1_1 : Int) : Option (Bool) := (furlonglaw02_awake.f k).bind fun t160 => (if t160 = true then ((vec_Add.f k a0_0 a0_1 a1_0 a1_1).bind fun bt161 => (if bt161.2.2 = 0 then ((vec_Sub.f k bt161.1 bt161.2.1 a1_0 a1_1).bind fun bt165 => (if bt165.2.2 = 0 then (if (!(bt165.1 == a0_0) || (!(bt165.2.1 == a0_1))) = true then (some false) else ((vec_Fits.f a0_0 a0_1 bt161.1 bt161.2.1).bind fun t169 => (if t169 = true then ((vec_Fits.f a1_0 a1_1 bt161.1 bt161.2.1).bind fun t170 => (if t170 = true then ((vec_Check.f bt161.1 bt161.2.1).bind fun t171 => (if t171 = 0 then (furlonglaw02_VecBack.j0 k a0_0 a0_1 a1_0 a1_1) else (some false))) else (some false))) else (some false)))) else (some false))) else (furlonglaw02_VecBack.j0 k a0_0 a0_1 a1_0 a1_1))) else (some false))
theorem furlonglaw02_VecBack.mono_l : ∀ k, (∀ y0 y1 y2 y3, LeO (furlonglaw02_VecBack.j0 k y0 y1 y2 y3) (furlonglaw02_VecBack.j0 (k + 1) y0 y1 y2 y3))
  | 0 => fun _ _ _ _ r h => by simp [furlonglaw02_VecBack.j0] at h
  | k + 1 => by
    have ih0 := furlonglaw02_VecBack.mono_l k
    · intro y0 y1 y2 y3
      unfold furlonglaw02_VecBack.j0
      repeat' first
      | (with_reducible exact ih0 _ _ _ _)
      | (with_reducible exact furlonglaw02_awake.mono _)
      | (with_reducible exact vec_Add.mono _ _ _ _ _)
      | (with_reducible exact vec_Sub.mono _ _ _ _ _)
      | (with_reducible exact LeO.refl _)
      | (with_reducible exact LeO.none _)
      | (with_reducible refine LeO.ite ?_ ?_)
      | (with_reducible refine LeO.bind ?_ (fun _ => ?_))
      | exact ih0 _ _ _ _
      | exact furlonglaw02_awake.mono _
      | exact vec_Add.mono _ _ _ _ _
      | exact vec_Sub.mono _ _ _ _ _
      | exact LeO.none _
      | refine LeO.ite ?_ ?_
      | refine LeO.bind ?_ (fun _ => ?_)
theorem furlonglaw02_VecBack.mono : ∀ a0 a1 a2 a3 k, LeO (furlonglaw02_VecBack.f k a0 a1 a2 a3) (furlonglaw02_VecBack.f (k + 1) a0 a1 a2 a3) := by
  intro a0 a1 a2 a3 k
  have ih0 := furlonglaw02_VecBack.mono_l k
  unfold furlonglaw02_VecBack.f
  repeat' first
      | (with_reducible exact ih0 _ _ _ _)
      | (with_reducible exact furlonglaw02_awake.mono _)
      | (with_reducible exact vec_Add.mono _ _ _ _ _)
      | (with_reducible exact vec_Sub.mono _ _ _ _ _)
      | (with_reducible exact LeO.refl _)
      | (with_reducible exact LeO.none _)
      | (with_reducible refine LeO.ite ?_ ?_)
      | (with_reducible refine LeO.bind ?_ (fun _ => ?_))
      | exact ih0 _ _ _ _
      | exact furlonglaw02_awake.mono _
      | exact vec_Add.mono _ _ _ _ _
      | exact vec_Sub.mono _ _ _ _ _
      | exact LeO.none _
      | refine LeO.ite ?_ ?_
      | refine LeO.bind ?_ (fun _ => ?_)
end Go.Proofs.Ytkbcjagkacijnaa.PVec
end
section
namespace Go.Proofs.Ytkbcjagkacijnaa.PVec
open Go.RowKit Go.Proofs.YtkbcjagkacijnaaW.PrintWords Go.Proofs.YtkbcjagkacijnaaW.PrintLast
set_option linter.unusedVariables false
abbrev num_Compare.f := @PNum.num_Compare.f
theorem num_Compare.mono : ∀ a0 a1 a2 a3 a4 a5 k, LeO (num_Compare.f k a0 a1 a2 a3 a4 a5) (num_Compare.f (k + 1) a0 a1 a2 a3 a4 a5) := PNum.num_Compare.mono
theorem num_Compare.calls (k : Nat) (a0_0 : Int) (a0_1 : Int) (a0_2 : Bool) (a1_0 : Int) (a1_1 : Int) (a1_2 : Bool) (r : Int) (w : World) (h : num_Compare.f k a0_0 a0_1 a0_2 a1_0 a1_1 a1_2 = some r) :
    Calls Try.prog 91 #[.agg #[.int .u64 a0_0, .int .u64 a0_1, .bool a0_2], .agg #[.int .u64 a1_0, .int .u64 a1_1, .bool a1_2]] w fun e w' => e = .returned (.int .i64 r) ∧ Below w.heap.size w w' := PNum.num_Compare.calls k a0_0 a0_1 a0_2 a1_0 a1_1 a1_2 r w h
abbrev num_Product.f := @PNum.num_Product.f
theorem num_Product.calls (a0 : Int) (a1 : Int) (r1 : Int) (r2 : Int) (r3 : Bool) (w : World) (h : num_Product.f a0 a1 = some (r1, r2, r3)) :
    Calls Try.prog 92 #[.int .i64 a0, .int .i64 a1] w fun e w' => e = .returned (.agg #[.int .u64 r1, .int .u64 r2, .bool r3]) ∧ Below w.heap.size w w' := PNum.num_Product.calls a0 a1 r1 r2 r3 w h
abbrev num_Cmp.f := @PNum.num_Cmp.f
theorem num_Cmp.mono : ∀ a0 a1 a2 a3 k, LeO (num_Cmp.f k a0 a1 a2 a3) (num_Cmp.f (k + 1) a0 a1 a2 a3) := PNum.num_Cmp.mono
abbrev bits_Mul64.f := @PNum.bits_Mul64.f
theorem bits_Mul64.calls (a0 : Int) (a1 : Int) (r1 : Int) (r2 : Int) (w : World) (h : bits_Mul64.f a0 a1 = some (r1, r2)) :
    Calls Try.prog 121 #[.int .u64 a0, .int .u64 a1] w fun e w' => e = .returned (.tuple #[.int .u64 r1, .int .u64 r2]) ∧ Below w.heap.size w w' := (PNum.bits_Mul64.calls a0 a1 r1 r2 w h).mono fun e w' h => ⟨h.1, h.2.below⟩
abbrev furlongref01_Times.f := @PNum.furlongref01_Times.f
theorem furlongref01_Times.calls (a0 : Int) (a1 : Int) (r1 : Int) (r2 : Int) (w : World) (h : furlongref01_Times.f a0 a1 = some (r1, r2)) :
    Calls Try.prog 100 #[.int .i64 a0, .int .i64 a1] w fun e w' => e = .returned (.agg #[.int .i64 r1, .int .u64 r2]) ∧ Below w.heap.size w w' := PNum.furlongref01_Times.calls a0 a1 r1 r2 w h
abbrev furlongref01_Less.f := @PNum.furlongref01_Less.f
theorem furlongref01_Less.calls (a0_0 : Int) (a0_1 : Int) (a1_0 : Int) (a1_1 : Int) (r : Bool) (w : World) (h : furlongref01_Less.f a0_0 a0_1 a1_0 a1_1 = some r) :
    Calls Try.prog 101 #[.agg #[.int .i64 a0_0, .int .u64 a0_1], .agg #[.int .i64 a1_0, .int .u64 a1_1]] w fun e w' => e = .returned (.bool r) ∧ Below w.heap.size w w' := PNum.furlongref01_Less.calls a0_0 a0_1 a1_0 a1_1 r w h
abbrev furlongref01_Plus.f := @PNum.furlongref01_Plus.f
theorem furlongref01_Plus.calls (a0_0 : Int) (a0_1 : Int) (a1_0 : Int) (a1_1 : Int) (r1 : Int) (r2 : Int) (w : World) (h : furlongref01_Plus.f a0_0 a0_1 a1_0 a1_1 = some (r1, r2)) :
    Calls Try.prog 102 #[.agg #[.int .i64 a0_0, .int .u64 a0_1], .agg #[.int .i64 a1_0, .int .u64 a1_1]] w fun e w' => e = .returned (.agg #[.int .i64 r1, .int .u64 r2]) ∧ Below w.heap.size w w' := PNum.furlongref01_Plus.calls a0_0 a0_1 a1_0 a1_1 r1 r2 w h
end Go.Proofs.Ytkbcjagkacijnaa.PVec
end
section
-- Written for this claim by this project's own driver over the kit's print: functions and their contracts.
namespace Go.Proofs.Ytkbcjagkacijnaa.PVec
open Go.RowKit Go.Proofs.YtkbcjagkacijnaaW.PrintWords Go.Proofs.YtkbcjagkacijnaaW.PrintLast Go.Proofs.YtkbcjagkacijnaaW.PrintMore
attribute [local go_sem] max2_int min2_int max_two min_two max_three min_three max_four min_four   -- for this text's walks alone
set_option linter.unusedVariables false
set_option linter.unusedSimpArgs false

def furlonglaw02_VecMost.j0 : Nat → Int → Int → Bool → Int → Int → Int → Int → Option (Bool)
  | 0, _, _, _, _, _, _, _ => none
  | k + 1, x5, x6, x46, x182000, x182001, x183000, x183001 => if x46 = true then (if x6 = 0 then (some true) else (if x183000 = 0 then (if x182000 = 0 then (some true) else (if x183001 = 0 then (some (x182001 == 0)) else (some false))) else (if x183001 = 0 then (some (x182001 == 0)) else (some false)))) else ((num_Cmp.f k x182000 x183000 x5 x6).bind fun bt189 => ((num_Cmp.f k x182001 x183001 x5 x6).bind fun bt191 => (if bt189.2 = 0 then (if bt191.2 = 0 then (if bt189.1 ≤ 0 then (if bt191.1 ≤ 0 then (if bt189.1 = 0 then (some true) else (some (bt191.1 == 0))) else (some false)) else (some false)) else (some false)) else (some false))))
def furlonglaw02_VecMost.f (k : Nat) (a0_0 : Int) (a0_1 : Int) (a1_0 : Int) (a1_1 : Int) : Option (Bool) := (furlonglaw02_awake.f k).bind fun t183 => (if t183 = true then ((vec_Share.f a0_0 a0_1 a1_0 a1_1).bind fun bt184 => (if bt184.2.2 = 0 then (if a1_0 = 0 then (furlonglaw02_VecMost.j0 k bt184.1 bt184.2.1 true a0_0 a0_1 a1_0 a1_1) else (furlonglaw02_VecMost.j0 k bt184.1 bt184.2.1 (a1_1 == 0) a0_0 a0_1 a1_0 a1_1)) else ((vec_Check.f a0_0 a0_1).bind fun t187 => (if t187 = 0 then ((vec_Check.f a1_0 a1_1).bind fun t188 => (if t188 = 0 then (some false) else (if bt184.1 = 0 then (some (bt184.2.1 == 0)) else (some false)))) else (if bt184.1 = 0 then (some (bt184.2.1 == 0)) else (some false)))))) else (some false))
theorem furlonglaw02_VecMost.mono_l : ∀ k, (∀ y0 y1 y2 y3 y4 y5 y6, LeO (furlonglaw02_VecMost.j0 k y0 y1 y2 y3 y4 y5 y6) (furlonglaw02_VecMost.j0 (k + 1) y0 y1 y2 y3 y4 y5 y6))
  | 0 => fun _ _ _ _ _ _ _ r h => by simp [furlonglaw02_VecMost.j0] at h
  | k + 1 => by
    have ih0 := furlonglaw02_VecMost.mono_l k
    · intro y0 y1 y2 y3 y4 y5 y6
      unfold furlonglaw02_VecMost.j0
      repeat' first
      | (with_reducible exact ih0 _ _ _ _ _ _ _)
      | (with_reducible exact furlonglaw02_awake.mono _)
      | (with_reducible exact num_Cmp.mono _ _ _ _ _)
      | (with_reducible exact LeO.refl _)
      | (with_reducible exact LeO.none _)
      | (with_reducible refine LeO.ite ?_ ?_)
      | (with_reducible refine LeO.bind ?_ (fun _ => ?_))
      | exact ih0 _ _ _ _ _ _ _
      | exact furlonglaw02_awake.mono _
      | exact num_Cmp.mono _ _ _ _ _
      | exact LeO.none _
      | refine LeO.ite ?_ ?_
      | refine LeO.bind ?_ (fun _ => ?_)
theorem furlonglaw02_VecMost.mono : ∀ a0 a1 a2 a3 k, LeO (furlonglaw02_VecMost.f k a0 a1 a2 a3) (furlonglaw02_VecMost.f (k + 1) a0 a1 a2 a3) := by
  intro a0 a1 a2 a3 k
  have ih0 := furlonglaw02_VecMost.mono_l k
  unfold furlonglaw02_VecMost.f
  repeat' first
      | (with_reducible exact ih0 _ _ _ _ _ _ _)
      | (with_reducible exact furlonglaw02_awake.mono _)
      | (with_reducible exact num_Cmp.mono _ _ _ _ _)
      | (with_reducible exact LeO.refl _)
      | (with_reducible exact LeO.none _)
      | (with_reducible refine LeO.ite ?_ ?_)
      | (with_reducible refine LeO.bind ?_ (fun _ => ?_))
      | exact ih0 _ _ _ _ _ _ _
      | exact furlonglaw02_awake.mono _
      | exact num_Cmp.mono _ _ _ _ _
      | exact LeO.none _
      | refine LeO.ite ?_ ?_
      | refine LeO.bind ?_ (fun _ => ?_)
def vec_times.f (a0 : Int) (a1 : Int) (a2 : Int) : Option (Int × Int × Bool) := (num_Product.f a0 a1).bind fun bt194 => ((bits_Mul64.f bt194.2.1 (IntKind.u64.wrap (a2))).bind fun bt198 => (some (IntKind.u64.wrap (bt198.1 + (IntKind.u64.wrap (bt194.1 * (IntKind.u64.wrap (a2))))), bt198.2, false)))
set_option maxHeartbeats 8000000 in
set_option maxRecDepth 100000 in
theorem vec_times.calls (a0 : Int) (a1 : Int) (a2 : Int) (r1 : Int) (r2 : Int) (r3 : Bool) (w : World) (h : vec_times.f a0 a1 a2 = some (r1, r2, r3)) :
    Calls Try.prog 122 #[.int .i64 a0, .int .i64 a1, .int .i64 a2] w fun e w' => e = .returned (.agg #[.int .u64 r1, .int .u64 r2, .bool r3]) ∧ Below w.heap.size w w' := by
  have hu108 := Try.underlying108
  have HB := Aside0.mk (Below.refl w.heap.size w)
  have H : ((num_Product.f a0 a1).bind fun bt194 => ((bits_Mul64.f bt194.2.1 (IntKind.u64.wrap (a2))).bind fun bt198 => (some (IntKind.u64.wrap (bt198.1 + (IntKind.u64.wrap (bt194.1 * (IntKind.u64.wrap (a2))))), bt198.2, false)))) = some (r1, r2, r3) := h
  clear h
  replace H := Option.bind_eq_some_iff.mp H
  obtain ⟨⟨t194, t195, t196⟩, A40, H⟩ := H
  replace H : ((bits_Mul64.f t195 (IntKind.u64.wrap (a2))).bind fun bt198 => (some (IntKind.u64.wrap (bt198.1 + (IntKind.u64.wrap (t194 * (IntKind.u64.wrap (a2))))), bt198.2, false))) = some (r1, r2, r3) := H
  have A4 := Aside0.mk A40
  clear A40
  replace H := Option.bind_eq_some_iff.mp H
  obtain ⟨⟨t198, t199⟩, A50, H⟩ := H
  replace H : (some (IntKind.u64.wrap (t198 + (IntKind.u64.wrap (t194 * (IntKind.u64.wrap (a2))))), t199, false)) = some (r1, r2, r3) := H
  have A5 := Aside0.mk A50
  clear A50
  simp only [Option.some.injEq, Prod.mk.injEq] at H
  obtain ⟨rfl, rfl, rfl⟩ := H
  go_enter Try.func122, Try.ntmps122
  go_wp2_with (first | ((with_reducible refine gate_dst (N := 6) rfl ?_); refine box_event ?hg (N := 6) ?hd (cs := #[.int .u64 0, .int .u64 0, .bool false]) (t := 108) ?hr ?_; (case hd => rfl); (case hg => rfl); (case hr => first | (go_simp; done) | (go_simp; rfl)); intro gb193 hg w6 hbox hb; have n0_ := Aside0.mk (below_step (by repeat (first | (with_reducible first | exact HB.out | apply below_alloc | apply pw_below_drewN | apply below_drew1) | exact HB.out)) hb); have n1_ := Aside0.mk (hbox); have n2_ := Aside0.mk ((by rw [hg]; exact (below_size (by repeat (first | (with_reducible first | exact HB.out | apply below_alloc | apply pw_below_drewN | apply below_drew1) | exact HB.out))) : w.heap.size ≤ gb193)); have n3_ := Aside0.mk ((by rw [hg]; exact (below_size (by repeat (first | (with_reducible first | exact HB.out | apply below_alloc | apply pw_below_drewN | apply below_drew1) | exact HB.out))) : w.heap.size ≤ gb193)); clear HB; have HB := n0_; have BK193 := n1_; have GW193 := n2_; have GE193 := n3_; clear n0_ n1_ n2_ n3_; clear hb hbox hg) | ((with_reducible refine gate_callee (f := 92) rfl ?_); refine goesL_ (some 12) rfl rfl Try.func92 (by kernel_rfl) rfl #[.int .i64 a0, .int .i64 a1] rfl (by (try simp only [List.map_toArray, List.map_cons, List.map_nil]); first | done | rfl | (simp only [List.length_drop, List.length_take]; rfl)) ?_; (with_reducible refine (num_Product.calls a0 a1 t194 t195 t196 _ A4.out).mono ?_); rintro e w7 ⟨rfl, hb⟩; refine ⟨_, rfl, ?_⟩; have n0_ := Aside0.mk (blk_below (g := gb193) (o := .cells #[.int .u64 0, .int .u64 0, .bool false] 108 (0, 0)) (by (with_reducible repeat (first | refine blk_drewN ?_ _ | refine blk_drew ?_ | refine blk_alloc ?_ _)); exact BK193.out) hb); have n1_ := Aside0.mk (below_step (by repeat (first | (with_reducible first | exact HB.out | apply below_alloc | apply pw_below_drewN | apply below_drew1 | refine below_set ?_ GE193.out) | exact HB.out)) hb); clear BK193; clear HB; have BK193 := n0_; have HB := n1_; clear n0_ n1_; (try clear hb); (try clear hb2); (try clear hk); (try clear hi)) | ((with_reducible refine gate_dst (N := 7) rfl ?_); refine box_event ?hg (N := 7) ?hd (cs := #[.int .u64 0, .int .u64 0, .bool false]) (t := 108) ?hr ?_; (case hd => rfl); (case hg => rfl); (case hr => first | (go_simp; done) | (go_simp; rfl)); intro gb197 hg w8 hbox hb; have n0_ := Aside0.mk (blk_below (g := gb193) (o := .cells #[.int .u64 0, .int .u64 0, .bool false] 108 (0, 0)) (by (with_reducible repeat (first | refine blk_drewN ?_ _ | refine blk_drew ?_ | refine blk_alloc ?_ _)); exact BK193.out) hb); have n1_ := Aside0.mk (below_step (by repeat (first | (with_reducible first | exact HB.out | apply below_alloc | apply pw_below_drewN | apply below_drew1 | refine below_set ?_ GE193.out) | exact HB.out)) hb); have n2_ := Aside0.mk (hbox); have n3_ := Aside0.mk ((by rw [hg]; exact (below_size (by repeat (first | (with_reducible first | exact HB.out | apply below_alloc | apply pw_below_drewN | apply below_drew1 | refine below_set ?_ GE193.out) | exact HB.out))) : w.heap.size ≤ gb197)); have n4_ := Aside0.mk ((by rw [hg]; exact (below_size (by repeat (first | (with_reducible first | exact HB.out | apply below_alloc | apply pw_below_drewN | apply below_drew1 | refine below_set ?_ GE193.out) | exact HB.out))) : w.heap.size ≤ gb197)); have n5_ := Aside0.mk ((by rw [hg]; exact Nat.ne_of_lt (blk_lt (g := gb193) (o := .cells #[.int .u64 0, .int .u64 0, .bool false] 108 (0, 0)) (by (with_reducible repeat (first | refine blk_drewN ?_ _ | refine blk_drew ?_ | refine blk_alloc ?_ _)); exact BK193.out)) : gb193 ≠ gb197)); have n6_ := Aside0.mk ((by rw [hg]; exact Nat.ne_of_gt (blk_lt (g := gb193) (o := .cells #[.int .u64 0, .int .u64 0, .bool false] 108 (0, 0)) (by (with_reducible repeat (first | refine blk_drewN ?_ _ | refine blk_drew ?_ | refine blk_alloc ?_ _)); exact BK193.out)) : gb197 ≠ gb193)); clear BK193; clear HB; have BK193 := n0_; have HB := n1_; have BK197 := n2_; have GW197 := n3_; have GE197 := n4_; have NB193_197 := n5_; have NB197_193 := n6_; clear n0_ n1_ n2_ n3_ n4_ n5_ n6_; clear hb hbox hg; have hnb9 := NB197_193.out; have hnc9 := NB193_197.out; have hcz10_0 : w8.cell? ⟨gb197, 0, none⟩ = some (.int .u64 0) := (blk_cell BK197.out 0).trans rfl; have hcz10_1 : w8.cell? ⟨gb197, 1, none⟩ = some (.int .u64 0) := (blk_cell BK197.out 1).trans rfl; have hcz10_2 : w8.cell? ⟨gb197, 2, none⟩ = some (.bool false) := (blk_cell BK197.out 2).trans rfl; have hfz10_0 := blk_frozen BK197.out 0; have hfz10_1 := blk_frozen BK197.out 1; have hfz10_2 := blk_frozen BK197.out 2) | ((with_reducible refine gate_callee (f := 121) rfl ?_); refine goesL_ (some 18) rfl rfl Try.func121 (by kernel_rfl) rfl #[.int .u64 t195, .int .u64 (IntKind.u64.wrap (a2))] rfl (by (try simp only [List.map_toArray, List.map_cons, List.map_nil]); first | done | rfl | (simp only [List.length_drop, List.length_take]; rfl)) ?_; (with_reducible refine (bits_Mul64.calls t195 (IntKind.u64.wrap (a2)) t198 t199 _ A5.out).mono ?_); rintro e w11 ⟨rfl, hb⟩; refine ⟨_, rfl, ?_⟩; have n0_ := Aside0.mk (blk_below (g := gb193) (o := .cells #[.int .u64 0, .int .u64 0, .bool false] 108 (0, 0)) (by (with_reducible repeat (first | refine blk_drewN ?_ _ | refine blk_drew ?_ | refine blk_alloc ?_ _)); refine blk_far ?_ NB193_197.out _; (with_reducible repeat (first | refine blk_drewN ?_ _ | refine blk_drew ?_ | refine blk_alloc ?_ _)); refine blk_far ?_ NB193_197.out _; (with_reducible repeat (first | refine blk_drewN ?_ _ | refine blk_drew ?_ | refine blk_alloc ?_ _)); refine blk_far ?_ NB193_197.out _; (with_reducible repeat (first | refine blk_drewN ?_ _ | refine blk_drew ?_ | refine blk_alloc ?_ _)); exact BK193.out) hb); have n1_ := Aside0.mk (blk_below (g := gb197) (o := .cells #[.int .u64 t194, .int .u64 t195, .bool t196] 108 (0, 0)) (by (with_reducible repeat (first | refine blk_drewN ?_ _ | refine blk_drew ?_ | refine blk_alloc ?_ _)); refine blk_put (cs := #[.int .u64 t194, .int .u64 t195, .bool false]) ?_ 2 _ rfl; (with_reducible repeat (first | refine blk_drewN ?_ _ | refine blk_drew ?_ | refine blk_alloc ?_ _)); refine blk_put (cs := #[.int .u64 t194, .int .u64 0, .bool false]) ?_ 1 _ rfl; (with_reducible repeat (first | refine blk_drewN ?_ _ | refine blk_drew ?_ | refine blk_alloc ?_ _)); refine blk_put (cs := #[.int .u64 0, .int .u64 0, .bool false]) ?_ 0 _ rfl; (with_reducible repeat (first | refine blk_drewN ?_ _ | refine blk_drew ?_ | refine blk_alloc ?_ _)); exact BK197.out) hb); have n2_ := Aside0.mk (below_step (by repeat (first | (with_reducible first | exact HB.out | apply below_alloc | apply pw_below_drewN | apply below_drew1 | refine below_set ?_ GE193.out | refine below_set ?_ GE197.out) | exact HB.out)) hb); clear BK193; clear BK197; clear HB; have BK193 := n0_; have BK197 := n1_; have HB := n2_; clear n0_ n1_ n2_; (try clear hb); (try clear hb2); (try clear hk); (try clear hi); have hcz12_0 : w11.cell? ⟨gb197, 0, none⟩ = some (.int .u64 t194) := (blk_cell BK197.out 0).trans rfl; have hcz12_1 : w11.cell? ⟨gb197, 1, none⟩ = some (.int .u64 t195) := (blk_cell BK197.out 1).trans rfl; have hcz12_2 : w11.cell? ⟨gb197, 2, none⟩ = some (.bool t196) := (blk_cell BK197.out 2).trans rfl; have hfz12_0 := blk_frozen BK197.out 0; have hfz12_1 := blk_frozen BK197.out 1; have hfz12_2 := blk_frozen BK197.out 2; have hcz13_0 : w11.cell? ⟨gb193, 0, none⟩ = some (.int .u64 0) := (blk_cell BK193.out 0).trans rfl; have hcz13_1 : w11.cell? ⟨gb193, 1, none⟩ = some (.int .u64 0) := (blk_cell BK193.out 1).trans rfl; have hcz13_2 : w11.cell? ⟨gb193, 2, none⟩ = some (.bool false) := (blk_cell BK193.out 2).trans rfl; have hfz13_0 := blk_frozen BK193.out 0; have hfz13_1 := blk_frozen BK193.out 1; have hfz13_2 := blk_frozen BK193.out 2))
  refine bodyPost_ret (results_cell_row rfl _ _ gb193 108 #[.int .u64 (IntKind.u64.wrap (t198 + (IntKind.u64.wrap (t194 * (IntKind.u64.wrap (a2)))))), .int .u64 t199, .bool false] (0, 0) _ rfl (by (with_reducible repeat (first | refine blk_drewN ?_ _ | refine blk_drew ?_ | refine blk_alloc ?_ _)); refine blk_put (cs := #[.int .u64 (IntKind.u64.wrap (t198 + (IntKind.u64.wrap (t194 * (IntKind.u64.wrap (a2)))))), .int .u64 t199, .bool false]) ?_ 2 _ rfl; (with_reducible repeat (first | refine blk_drewN ?_ _ | refine blk_drew ?_ | refine blk_alloc ?_ _)); refine blk_put (cs := #[.int .u64 (IntKind.u64.wrap (t198 + (IntKind.u64.wrap (t194 * (IntKind.u64.wrap (a2)))))), .int .u64 0, .bool false]) ?_ 1 _ rfl; (with_reducible repeat (first | refine blk_drewN ?_ _ | refine blk_drew ?_ | refine blk_alloc ?_ _)); refine blk_put (cs := #[.int .u64 0, .int .u64 0, .bool false]) ?_ 0 _ rfl; (with_reducible repeat (first | refine blk_drewN ?_ _ | refine blk_drew ?_ | refine blk_alloc ?_ _)); exact BK193.out) Try.underlying108 rfl (by kernel_rfl)) rfl ?_
  exact ⟨by first | rfl | (simp [errW_none, errW_some] <;> rfl) | (simp [*, errW_none, errW_some] <;> rfl), by repeat (first | (with_reducible first | exact HB.out | apply below_alloc | apply pw_below_drewN | apply below_drew1 | refine below_set ?_ GE193.out | refine below_set ?_ GE197.out) | exact HB.out)⟩

def vec_Order.j0 : Nat → Int → Int → Int → Int → Int → Int → Bool → Option (Int)
  | 0, _, _, _, _, _, _, _ => none
  | k + 1, x1, x3, x11, x12, x13, x14, x32 => if x32 = true then (some (wrap64 ((mn x14 1) - (mn x12 1)))) else ((vec_times.f x11 x14 x3).bind fun bt207 => ((vec_times.f x13 x12 x1).bind fun bt210 => ((num_Compare.f k bt207.1 bt207.2.1 bt207.2.2 bt210.1 bt210.2.1 bt210.2.2).bind fun t213 => (some t213))))
def vec_Order.f (k : Nat) (a0_0 : Int) (a0_1 : Int) (a1 : Int) (a2_0 : Int) (a2_1 : Int) (a3 : Int) (a4_0 : Int) (a4_1 : Int) : Option (Int) := (vec_share.f a0_0 a0_1 a4_0 a4_1).bind fun bt203 => ((vec_share.f a2_0 a2_1 a4_0 a4_1).bind fun bt205 => (if bt203.2 = 0 then (vec_Order.j0 k a1 a3 bt203.1 bt203.2 bt205.1 bt205.2 true) else (vec_Order.j0 k a1 a3 bt203.1 bt203.2 bt205.1 bt205.2 (bt205.2 == 0))))
theorem vec_Order.mono_l : ∀ k, (∀ y0 y1 y2 y3 y4 y5 y6, LeO (vec_Order.j0 k y0 y1 y2 y3 y4 y5 y6) (vec_Order.j0 (k + 1) y0 y1 y2 y3 y4 y5 y6))
  | 0 => fun _ _ _ _ _ _ _ r h => by simp [vec_Order.j0] at h
  | k + 1 => by
    have ih0 := vec_Order.mono_l k
    · intro y0 y1 y2 y3 y4 y5 y6
      unfold vec_Order.j0
      repeat' first
      | (with_reducible exact ih0 _ _ _ _ _ _ _)
      | (with_reducible exact num_Compare.mono _ _ _ _ _ _ _)
      | (with_reducible exact LeO.refl _)
      | (with_reducible exact LeO.none _)
      | (with_reducible refine LeO.ite ?_ ?_)
      | (with_reducible refine LeO.bind ?_ (fun _ => ?_))
      | exact ih0 _ _ _ _ _ _ _
      | exact num_Compare.mono _ _ _ _ _ _ _
      | exact LeO.none _
      | refine LeO.ite ?_ ?_
      | refine LeO.bind ?_ (fun _ => ?_)
theorem vec_Order.mono : ∀ a0 a1 a2 a3 a4 a5 a6 a7 k, LeO (vec_Order.f k a0 a1 a2 a3 a4 a5 a6 a7) (vec_Order.f (k + 1) a0 a1 a2 a3 a4 a5 a6 a7) := by
  intro a0 a1 a2 a3 a4 a5 a6 a7 k
  have ih0 := vec_Order.mono_l k
  unfold vec_Order.f
  repeat' first
      | (with_reducible exact ih0 _ _ _ _ _ _ _)
      | (with_reducible exact num_Compare.mono _ _ _ _ _ _ _)
      | (with_reducible exact LeO.refl _)
      | (with_reducible exact LeO.none _)
      | (with_reducible refine LeO.ite ?_ ?_)
      | (with_reducible refine LeO.bind ?_ (fun _ => ?_))
      | exact ih0 _ _ _ _ _ _ _
      | exact num_Compare.mono _ _ _ _ _ _ _
      | exact LeO.none _
      | refine LeO.ite ?_ ?_
      | refine LeO.bind ?_ (fun _ => ?_)
set_option maxHeartbeats 8000000 in
set_option maxRecDepth 100000 in
theorem vec_Order.calls (k : Nat) (a0_0 : Int) (a0_1 : Int) (a1 : Int) (a2_0 : Int) (a2_1 : Int) (a3 : Int) (a4_0 : Int) (a4_1 : Int) (r : Int) (w : World) (h : vec_Order.f k a0_0 a0_1 a1 a2_0 a2_1 a3 a4_0 a4_1 = some r) :
    Calls Try.prog 96 #[.agg #[.int .i64 a0_0, .int .i64 a0_1], .int .i64 a1, .agg #[.int .i64 a2_0, .int .i64 a2_1], .int .i64 a3, .agg #[.int .i64 a4_0, .int .i64 a4_1]] w fun e w' => e = .returned (.int .i64 r) ∧ Below w.heap.size w w' := by
  have hu25 := Try.underlying25
  have HB := Aside0.mk (Below.refl w.heap.size w)
  have H : ((vec_share.f a0_0 a0_1 a4_0 a4_1).bind fun bt203 => ((vec_share.f a2_0 a2_1 a4_0 a4_1).bind fun bt205 => (if bt203.2 = 0 then (vec_Order.j0 k a1 a3 bt203.1 bt203.2 bt205.1 bt205.2 true) else (vec_Order.j0 k a1 a3 bt203.1 bt203.2 bt205.1 bt205.2 (bt205.2 == 0))))) = some r := h
  clear h
  replace H := Option.bind_eq_some_iff.mp H
  obtain ⟨⟨t203, t204⟩, A60, H⟩ := H
  replace H : ((vec_share.f a2_0 a2_1 a4_0 a4_1).bind fun bt205 => (if t204 = 0 then (vec_Order.j0 k a1 a3 t203 t204 bt205.1 bt205.2 true) else (vec_Order.j0 k a1 a3 t203 t204 bt205.1 bt205.2 (bt205.2 == 0)))) = some r := H
  have A6 := Aside0.mk A60
  clear A60
  replace H := Option.bind_eq_some_iff.mp H
  obtain ⟨⟨t205, t206⟩, A70, H⟩ := H
  replace H : (if t204 = 0 then (vec_Order.j0 k a1 a3 t203 t204 t205 t206 true) else (vec_Order.j0 k a1 a3 t203 t204 t205 t206 (t206 == 0))) = some r := H
  have A7 := Aside0.mk A70
  clear A70
  have HC8 := Aside0.mk H
  clear H
  go_enter Try.func96, Try.ntmps96
  go_upto_region 3 with (first | ((with_reducible refine gate_dst (N := 5) rfl ?_); refine box_event ?hg (N := 5) ?hd (cs := #[.int .i64 a0_0, .int .i64 a0_1]) (t := 25) ?hr ?_; (case hd => rfl); (case hg => rfl); (case hr => first | (go_simp; done) | (go_simp; rfl)); intro gb200 hg w9 hbox hb; have n0_ := Aside0.mk (below_step (by repeat (first | (with_reducible first | exact HB.out | apply below_alloc | apply pw_below_drewN | apply below_drew1) | exact HB.out)) hb); have n1_ := Aside0.mk (hbox); have n2_ := Aside0.mk ((by rw [hg]; exact (below_size (by repeat (first | (with_reducible first | exact HB.out | apply below_alloc | apply pw_below_drewN | apply below_drew1) | exact HB.out))) : w.heap.size ≤ gb200)); have n3_ := Aside0.mk ((by rw [hg]; exact (below_size (by repeat (first | (with_reducible first | exact HB.out | apply below_alloc | apply pw_below_drewN | apply below_drew1) | exact HB.out))) : w.heap.size ≤ gb200)); clear HB; have HB := n0_; have BK200 := n1_; have GW200 := n2_; have GE200 := n3_; clear n0_ n1_ n2_ n3_; clear hb hbox hg) | ((with_reducible refine gate_dst (N := 7) rfl ?_); refine box_event ?hg (N := 7) ?hd (cs := #[.int .i64 a2_0, .int .i64 a2_1]) (t := 25) ?hr ?_; (case hd => rfl); (case hg => rfl); (case hr => first | (go_simp; done) | (go_simp; rfl)); intro gb201 hg w10 hbox hb; have n0_ := Aside0.mk (blk_below (g := gb200) (o := .cells #[.int .i64 a0_0, .int .i64 a0_1] 25 (0, 0)) (by (with_reducible repeat (first | refine blk_drewN ?_ _ | refine blk_drew ?_ | refine blk_alloc ?_ _)); exact BK200.out) hb); have n1_ := Aside0.mk (below_step (by repeat (first | (with_reducible first | exact HB.out | apply below_alloc | apply pw_below_drewN | apply below_drew1 | refine below_set ?_ GE200.out) | exact HB.out)) hb); have n2_ := Aside0.mk (hbox); have n3_ := Aside0.mk ((by rw [hg]; exact (below_size (by repeat (first | (with_reducible first | exact HB.out | apply below_alloc | apply pw_below_drewN | apply below_drew1 | refine below_set ?_ GE200.out) | exact HB.out))) : w.heap.size ≤ gb201)); have n4_ := Aside0.mk ((by rw [hg]; exact (below_size (by repeat (first | (with_reducible first | exact HB.out | apply below_alloc | apply pw_below_drewN | apply below_drew1 | refine below_set ?_ GE200.out) | exact HB.out))) : w.heap.size ≤ gb201)); have n5_ := Aside0.mk ((by rw [hg]; exact Nat.ne_of_lt (blk_lt (g := gb200) (o := .cells #[.int .i64 a0_0, .int .i64 a0_1] 25 (0, 0)) (by (with_reducible repeat (first | refine blk_drewN ?_ _ | refine blk_drew ?_ | refine blk_alloc ?_ _)); exact BK200.out)) : gb200 ≠ gb201)); have n6_ := Aside0.mk ((by rw [hg]; exact Nat.ne_of_gt (blk_lt (g := gb200) (o := .cells #[.int .i64 a0_0, .int .i64 a0_1] 25 (0, 0)) (by (with_reducible repeat (first | refine blk_drewN ?_ _ | refine blk_drew ?_ | refine blk_alloc ?_ _)); exact BK200.out)) : gb201 ≠ gb200)); clear BK200; clear HB; have BK200 := n0_; have HB := n1_; have BK201 := n2_; have GW201 := n3_; have GE201 := n4_; have NB200_201 := n5_; have NB201_200 := n6_; clear n0_ n1_ n2_ n3_ n4_ n5_ n6_; clear hb hbox hg) | ((with_reducible refine gate_dst (N := 9) rfl ?_); refine box_event ?hg (N := 9) ?hd (cs := #[.int .i64 a4_0, .int .i64 a4_1]) (t := 25) ?hr ?_; (case hd => rfl); (case hg => rfl); (case hr => first | (go_simp; done) | (go_simp; rfl)); intro gb202 hg w11 hbox hb; have n0_ := Aside0.mk (blk_below (g := gb200) (o := .cells #[.int .i64 a0_0, .int .i64 a0_1] 25 (0, 0)) (by (with_reducible repeat (first | refine blk_drewN ?_ _ | refine blk_drew ?_ | refine blk_alloc ?_ _)); exact BK200.out) hb); have n1_ := Aside0.mk (blk_below (g := gb201) (o := .cells #[.int .i64 a2_0, .int .i64 a2_1] 25 (0, 0)) (by (with_reducible repeat (first | refine blk_drewN ?_ _ | refine blk_drew ?_ | refine blk_alloc ?_ _)); exact BK201.out) hb); have n2_ := Aside0.mk (below_step (by repeat (first | (with_reducible first | exact HB.out | apply below_alloc | apply pw_below_drewN | apply below_drew1 | refine below_set ?_ GE200.out | refine below_set ?_ GE201.out) | exact HB.out)) hb); have n3_ := Aside0.mk (hbox); have n4_ := Aside0.mk ((by rw [hg]; exact (below_size (by repeat (first | (with_reducible first | exact HB.out | apply below_alloc | apply pw_below_drewN | apply below_drew1 | refine below_set ?_ GE200.out | refine below_set ?_ GE201.out) | exact HB.out))) : w.heap.size ≤ gb202)); have n5_ := Aside0.mk ((by rw [hg]; exact (below_size (by repeat (first | (with_reducible first | exact HB.out | apply below_alloc | apply pw_below_drewN | apply below_drew1 | refine below_set ?_ GE200.out | refine below_set ?_ GE201.out) | exact HB.out))) : w.heap.size ≤ gb202)); have n6_ := Aside0.mk ((by rw [hg]; exact Nat.ne_of_lt (blk_lt (g := gb200) (o := .cells #[.int .i64 a0_0, .int .i64 a0_1] 25 (0, 0)) (by (with_reducible repeat (first | refine blk_drewN ?_ _ | refine blk_drew ?_ | refine blk_alloc ?_ _)); exact BK200.out)) : gb200 ≠ gb202)); have n7_ := Aside0.mk ((by rw [hg]; exact Nat.ne_of_gt (blk_lt (g := gb200) (o := .cells #[.int .i64 a0_0, .int .i64 a0_1] 25 (0, 0)) (by (with_reducible repeat (first | refine blk_drewN ?_ _ | refine blk_drew ?_ | refine blk_alloc ?_ _)); exact BK200.out)) : gb202 ≠ gb200)); have n8_ := Aside0.mk ((by rw [hg]; exact Nat.ne_of_lt (blk_lt (g := gb201) (o := .cells #[.int .i64 a2_0, .int .i64 a2_1] 25 (0, 0)) (by (with_reducible repeat (first | refine blk_drewN ?_ _ | refine blk_drew ?_ | refine blk_alloc ?_ _)); exact BK201.out)) : gb201 ≠ gb202)); have n9_ := Aside0.mk ((by rw [hg]; exact Nat.ne_of_gt (blk_lt (g := gb201) (o := .cells #[.int .i64 a2_0, .int .i64 a2_1] 25 (0, 0)) (by (with_reducible repeat (first | refine blk_drewN ?_ _ | refine blk_drew ?_ | refine blk_alloc ?_ _)); exact BK201.out)) : gb202 ≠ gb201)); clear BK200; clear BK201; clear HB; have BK200 := n0_; have BK201 := n1_; have HB := n2_; have BK202 := n3_; have GW202 := n4_; have GE202 := n5_; have NB200_202 := n6_; have NB202_200 := n7_; have NB201_202 := n8_; have NB202_201 := n9_; clear n0_ n1_ n2_ n3_ n4_ n5_ n6_ n7_ n8_ n9_; clear hb hbox hg; have hnb12 := NB200_201.out; have hnc12 := NB201_200.out; have hnb13 := NB200_202.out; have hnc13 := NB202_200.out; have hcz14_0 : w11.cell? ⟨gb200, 0, none⟩ = some (.int .i64 a0_0) := (blk_cell BK200.out 0).trans rfl; have hcz14_1 : w11.cell? ⟨gb200, 1, none⟩ = some (.int .i64 a0_1) := (blk_cell BK200.out 1).trans rfl; have hfz14_0 := blk_frozen BK200.out 0; have hfz14_1 := blk_frozen BK200.out 1; have hnb15 := NB202_201.out; have hnc15 := NB201_202.out; have hcz16_0 : w11.cell? ⟨gb202, 0, none⟩ = some (.int .i64 a4_0) := (blk_cell BK202.out 0).trans rfl; have hcz16_1 : w11.cell? ⟨gb202, 1, none⟩ = some (.int .i64 a4_1) := (blk_cell BK202.out 1).trans rfl; have hfz16_0 := blk_frozen BK202.out 0; have hfz16_1 := blk_frozen BK202.out 1) | ((with_reducible refine gate_callee (f := 87) rfl ?_); refine goesL_ (some 18) rfl rfl Try.func87 (by kernel_rfl) rfl #[.agg #[.int .i64 a0_0, .int .i64 a0_1], .agg #[.int .i64 a4_0, .int .i64 a4_1]] rfl (by (try simp only [List.map_toArray, List.map_cons, List.map_nil]); first | done | rfl | (simp only [List.length_drop, List.length_take]; rfl)) ?_; (with_reducible refine (vec_share.calls a0_0 a0_1 a4_0 a4_1 t203 t204 _ A6.out).mono ?_); rintro e w17 ⟨rfl, hb⟩; refine ⟨_, rfl, ?_⟩; have n0_ := Aside0.mk (blk_below (g := gb200) (o := .cells #[.int .i64 a0_0, .int .i64 a0_1] 25 (0, 0)) (by (with_reducible repeat (first | refine blk_drewN ?_ _ | refine blk_drew ?_ | refine blk_alloc ?_ _)); exact BK200.out) hb); have n1_ := Aside0.mk (blk_below (g := gb201) (o := .cells #[.int .i64 a2_0, .int .i64 a2_1] 25 (0, 0)) (by (with_reducible repeat (first | refine blk_drewN ?_ _ | refine blk_drew ?_ | refine blk_alloc ?_ _)); exact BK201.out) hb); have n2_ := Aside0.mk (blk_below (g := gb202) (o := .cells #[.int .i64 a4_0, .int .i64 a4_1] 25 (0, 0)) (by (with_reducible repeat (first | refine blk_drewN ?_ _ | refine blk_drew ?_ | refine blk_alloc ?_ _)); exact BK202.out) hb); have n3_ := Aside0.mk (below_step (by repeat (first | (with_reducible first | exact HB.out | apply below_alloc | apply pw_below_drewN | apply below_drew1 | refine below_set ?_ GE200.out | refine below_set ?_ GE201.out | refine below_set ?_ GE202.out) | exact HB.out)) hb); clear BK200; clear BK201; clear BK202; clear HB; have BK200 := n0_; have BK201 := n1_; have BK202 := n2_; have HB := n3_; clear n0_ n1_ n2_ n3_; (try clear hb); (try clear hb2); (try clear hk); (try clear hi); have hcz18_0 : w17.cell? ⟨gb201, 0, none⟩ = some (.int .i64 a2_0) := (blk_cell BK201.out 0).trans rfl; have hcz18_1 : w17.cell? ⟨gb201, 1, none⟩ = some (.int .i64 a2_1) := (blk_cell BK201.out 1).trans rfl; have hfz18_0 := blk_frozen BK201.out 0; have hfz18_1 := blk_frozen BK201.out 1; have hcz19_0 : w17.cell? ⟨gb202, 0, none⟩ = some (.int .i64 a4_0) := (blk_cell BK202.out 0).trans rfl; have hcz19_1 : w17.cell? ⟨gb202, 1, none⟩ = some (.int .i64 a4_1) := (blk_cell BK202.out 1).trans rfl; have hfz19_0 := blk_frozen BK202.out 0; have hfz19_1 := blk_frozen BK202.out 1) | ((with_reducible refine gate_callee (f := 87) rfl ?_); refine goesL_ (some 24) rfl rfl Try.func87 (by kernel_rfl) rfl #[.agg #[.int .i64 a2_0, .int .i64 a2_1], .agg #[.int .i64 a4_0, .int .i64 a4_1]] rfl (by (try simp only [List.map_toArray, List.map_cons, List.map_nil]); first | done | rfl | (simp only [List.length_drop, List.length_take]; rfl)) ?_; (with_reducible refine (vec_share.calls a2_0 a2_1 a4_0 a4_1 t205 t206 _ A7.out).mono ?_); rintro e w20 ⟨rfl, hb⟩; refine ⟨_, rfl, ?_⟩; have n0_ := Aside0.mk (blk_below (g := gb200) (o := .cells #[.int .i64 a0_0, .int .i64 a0_1] 25 (0, 0)) (by (with_reducible repeat (first | refine blk_drewN ?_ _ | refine blk_drew ?_ | refine blk_alloc ?_ _)); exact BK200.out) hb); have n1_ := Aside0.mk (blk_below (g := gb201) (o := .cells #[.int .i64 a2_0, .int .i64 a2_1] 25 (0, 0)) (by (with_reducible repeat (first | refine blk_drewN ?_ _ | refine blk_drew ?_ | refine blk_alloc ?_ _)); exact BK201.out) hb); have n2_ := Aside0.mk (blk_below (g := gb202) (o := .cells #[.int .i64 a4_0, .int .i64 a4_1] 25 (0, 0)) (by (with_reducible repeat (first | refine blk_drewN ?_ _ | refine blk_drew ?_ | refine blk_alloc ?_ _)); exact BK202.out) hb); have n3_ := Aside0.mk (below_step (by repeat (first | (with_reducible first | exact HB.out | apply below_alloc | apply pw_below_drewN | apply below_drew1 | refine below_set ?_ GE200.out | refine below_set ?_ GE201.out | refine below_set ?_ GE202.out) | exact HB.out)) hb); clear BK200; clear BK201; clear BK202; clear HB; have BK200 := n0_; have BK201 := n1_; have BK202 := n2_; have HB := n3_; clear n0_ n1_ n2_ n3_; (try clear hb); (try clear hb2); (try clear hk); (try clear hi)))
  (try simp only [Act.put, List.setIfInBounds_toArray, List.set_cons_zero, List.set_cons_succ])
  go_cut [32] (fun v32 wc => ∃ (kq : Nat) (x32_7 : Bool), v32 = .bool x32_7 ∧ Aside0 (vec_Order.j0 kq a1 a3 t203 t204 t205 t206 x32_7 = some r) ∧ Aside0 (kq ≤ k) ∧ Aside0 (wc.heap[gb200]? = some (.cells #[.int .i64 a0_0, .int .i64 a0_1] 25 (0, 0))) ∧ Aside0 (wc.heap[gb201]? = some (.cells #[.int .i64 a2_0, .int .i64 a2_1] 25 (0, 0))) ∧ Aside0 (wc.heap[gb202]? = some (.cells #[.int .i64 a4_0, .int .i64 a4_1] 25 (0, 0))) ∧ Aside0 (Below w.heap.size w wc))
  case first =>
    have H := HC8.out
    clear HC8
    by_cases c21 : t204 = 0
    · rw [if_pos c21] at H
      have c21b0 : (t204 == 0) = true := beq_iff_eq.mpr c21
      have c21b1 : (t204 != 0) = false := bne_eq_false_iff_eq.mpr c21
      clear c21
      (first | rw [c21b0] | (simp only [i64_w, i32_w]; rw [c21b0]) | skip)
      have H' := Aside0.mk H
      clear H
      go_wp2
      go_meet
      case rel => exact ⟨_, (true), (by first | rfl | (simp; done) | (simp [*]; done)), H', ⟨by first | omega | exact Nat.le_refl _⟩, ⟨by (with_reducible repeat (first | refine blk_drewN ?_ _ | refine blk_drew ?_ | refine blk_alloc ?_ _)); exact BK200.out⟩, ⟨by (with_reducible repeat (first | refine blk_drewN ?_ _ | refine blk_drew ?_ | refine blk_alloc ?_ _)); exact BK201.out⟩, ⟨by (with_reducible repeat (first | refine blk_drewN ?_ _ | refine blk_drew ?_ | refine blk_alloc ?_ _)); exact BK202.out⟩, ⟨by repeat (first | (with_reducible first | exact HB.out | apply below_alloc | apply pw_below_drewN | apply below_drew1 | refine below_set ?_ GE200.out | refine below_set ?_ GE201.out | refine below_set ?_ GE202.out) | exact HB.out)⟩⟩
    · rw [if_neg c21] at H
      have c21b0 : (t204 == 0) = false := beq_eq_false_iff_ne.mpr c21
      have c21b1 : (t204 != 0) = true := bne_iff_ne.mpr c21
      (first | rw [c21b0] | (simp only [i64_w, i32_w]; rw [c21b0]) | skip)
      have H' := Aside0.mk H
      clear H
      go_wp2
      go_meet
      case rel => exact ⟨_, ((t206 == 0)), (by first | rfl | (simp; done) | (simp [*]; done)), H', ⟨by first | omega | exact Nat.le_refl _⟩, ⟨by (with_reducible repeat (first | refine blk_drewN ?_ _ | refine blk_drew ?_ | refine blk_alloc ?_ _)); exact BK200.out⟩, ⟨by (with_reducible repeat (first | refine blk_drewN ?_ _ | refine blk_drew ?_ | refine blk_alloc ?_ _)); exact BK201.out⟩, ⟨by (with_reducible repeat (first | refine blk_drewN ?_ _ | refine blk_drew ?_ | refine blk_alloc ?_ _)); exact BK202.out⟩, ⟨by repeat (first | (with_reducible first | exact HB.out | apply below_alloc | apply pw_below_drewN | apply below_drew1 | refine below_set ?_ GE200.out | refine below_set ?_ GE201.out | refine below_set ?_ GE202.out) | exact HB.out)⟩⟩
  case rest =>
    clear HC8
    try clear c1
    try clear c2
    try clear p2
    try clear c8
    try clear c9
    try clear c12
    try clear c13
    try clear c15
    try clear c21
    try clear c21b0
    try clear c21b1
    try clear hcz14_0
    try clear hcz14_1
    try clear hcz16_0
    try clear hcz16_1
    try clear hcz18_0
    try clear hcz18_1
    try clear hcz19_0
    try clear hcz19_1
    try clear hfz14_0
    try clear hfz14_1
    try clear hfz16_0
    try clear hfz16_1
    try clear hfz18_0
    try clear hfz18_1
    try clear hfz19_0
    try clear hfz19_1
    obtain ⟨kq, x32_7, rfl, HA, HJ7, BK200, BK201, BK202, HB⟩ := hcut
    cases kq with
    | zero => exact absurd HA.out (by simp [vec_Order.j0])
    | succ kj7 =>
      have H := HA.out
      clear HA
      simp only [vec_Order.j0] at H
      by_cases c22 : x32_7 = true
      · subst c22
        have H1 : (some (wrap64 ((mn t206 1) - (mn t204 1)))) = some r := by rw [if_pos rfl] at H; exact H
        clear H
        have H := H1
        clear H1
        obtain ⟨ji23, hji23⟩ : ∃ j_ : Int, (mn t206 1) = j_ := ⟨_, rfl⟩
        replace H : (some (wrap64 ((ji23) - (mn t204 1)))) = some r := by first | (rw [hji23] at H; exact H) | (simp only [hji23] at H ⊢; exact H)
        have hji23_ : (if 1 < t206 then 1 else t206) = ji23 := hji23
        obtain ⟨ji24, hji24⟩ : ∃ j_ : Int, (mn t204 1) = j_ := ⟨_, rfl⟩
        replace H : (some (wrap64 ((ji23) - (ji24)))) = some r := by first | (rw [hji24] at H; exact H) | (simp only [hji24] at H ⊢; exact H)
        have hji24_ : (if 1 < t204 then 1 else t204) = ji24 := hji24
        obtain rfl := Option.some.inj H
        go_wp2
        go_ret
        exact ⟨by first | rfl | (simp [errW_none, errW_some] <;> rfl) | (simp only [← hji23, ← hji24]; first | rfl | (simp [errW_none, errW_some] <;> rfl)) | (simp [*, errW_none, errW_some] <;> rfl), by repeat (first | (with_reducible first | exact HB.out | apply below_alloc | apply pw_below_drewN | apply below_drew1 | refine below_set ?_ GE200.out | refine below_set ?_ GE201.out | refine below_set ?_ GE202.out) | exact HB.out)⟩
      · replace c22 := Bool.eq_false_iff.mpr c22
        subst c22
        have H1 : ((vec_times.f t203 t206 a3).bind fun bt207 => ((vec_times.f t205 t204 a1).bind fun bt210 => ((num_Compare.f kj7 bt207.1 bt207.2.1 bt207.2.2 bt210.1 bt210.2.1 bt210.2.2).bind fun t213 => (some t213)))) = some r := by rw [if_neg (show ¬ (false = true) by decide)] at H; exact H
        clear H
        have H := H1
        clear H1
        replace H := Option.bind_eq_some_iff.mp H
        obtain ⟨⟨t207, t208, t209⟩, A250, H⟩ := H
        replace H : ((vec_times.f t205 t204 a1).bind fun bt210 => ((num_Compare.f kj7 t207 t208 t209 bt210.1 bt210.2.1 bt210.2.2).bind fun t213 => (some t213))) = some r := H
        have A25 := Aside0.mk A250
        clear A250
        replace H := Option.bind_eq_some_iff.mp H
        obtain ⟨⟨t210, t211, t212⟩, A260, H⟩ := H
        replace H : ((num_Compare.f kj7 t207 t208 t209 t210 t211 t212).bind fun t213 => (some t213)) = some r := H
        have A26 := Aside0.mk A260
        clear A260
        replace H := Option.bind_eq_some_iff.mp H
        obtain ⟨t213, A270, H⟩ := H
        replace H : (some t213) = some r := H
        have A27 := Aside0.mk A270
        clear A270
        obtain rfl := Option.some.inj H
        go_wp2_with (first | ((with_reducible refine gate_callee (f := 122) rfl ?_); refine goesL_ (some 41) rfl rfl Try.func122 (by kernel_rfl) rfl #[.int .i64 t203, .int .i64 t206, .int .i64 a3] rfl (by (try simp only [List.map_toArray, List.map_cons, List.map_nil]); first | done | rfl | (simp only [List.length_drop, List.length_take]; rfl)) ?_; (with_reducible refine (vec_times.calls t203 t206 a3 t207 t208 t209 _ A25.out).mono ?_); rintro e w28 ⟨rfl, hb⟩; refine ⟨_, rfl, ?_⟩; have n0_ := Aside0.mk (blk_below (g := gb200) (o := .cells #[.int .i64 a0_0, .int .i64 a0_1] 25 (0, 0)) (by (with_reducible repeat (first | refine blk_drewN ?_ _ | refine blk_drew ?_ | refine blk_alloc ?_ _)); exact BK200.out) hb); have n1_ := Aside0.mk (blk_below (g := gb201) (o := .cells #[.int .i64 a2_0, .int .i64 a2_1] 25 (0, 0)) (by (with_reducible repeat (first | refine blk_drewN ?_ _ | refine blk_drew ?_ | refine blk_alloc ?_ _)); exact BK201.out) hb); have n2_ := Aside0.mk (blk_below (g := gb202) (o := .cells #[.int .i64 a4_0, .int .i64 a4_1] 25 (0, 0)) (by (with_reducible repeat (first | refine blk_drewN ?_ _ | refine blk_drew ?_ | refine blk_alloc ?_ _)); exact BK202.out) hb); have n3_ := Aside0.mk (below_step (by repeat (first | (with_reducible first | exact HB.out | apply below_alloc | apply pw_below_drewN | apply below_drew1 | refine below_set ?_ GE200.out | refine below_set ?_ GE201.out | refine below_set ?_ GE202.out) | exact HB.out)) hb); clear BK200; clear BK201; clear BK202; clear HB; have BK200 := n0_; have BK201 := n1_; have BK202 := n2_; have HB := n3_; clear n0_ n1_ n2_ n3_; (try clear hb); (try clear hb2); (try clear hk); (try clear hi)) | ((with_reducible refine gate_callee (f := 122) rfl ?_); refine goesL_ (some 45) rfl rfl Try.func122 (by kernel_rfl) rfl #[.int .i64 t205, .int .i64 t204, .int .i64 a1] rfl (by (try simp only [List.map_toArray, List.map_cons, List.map_nil]); first | done | rfl | (simp only [List.length_drop, List.length_take]; rfl)) ?_; (with_reducible refine (vec_times.calls t205 t204 a1 t210 t211 t212 _ A26.out).mono ?_); rintro e w29 ⟨rfl, hb⟩; refine ⟨_, rfl, ?_⟩; have n0_ := Aside0.mk (blk_below (g := gb200) (o := .cells #[.int .i64 a0_0, .int .i64 a0_1] 25 (0, 0)) (by (with_reducible repeat (first | refine blk_drewN ?_ _ | refine blk_drew ?_ | refine blk_alloc ?_ _)); exact BK200.out) hb); have n1_ := Aside0.mk (blk_below (g := gb201) (o := .cells #[.int .i64 a2_0, .int .i64 a2_1] 25 (0, 0)) (by (with_reducible repeat (first | refine blk_drewN ?_ _ | refine blk_drew ?_ | refine blk_alloc ?_ _)); exact BK201.out) hb); have n2_ := Aside0.mk (blk_below (g := gb202) (o := .cells #[.int .i64 a4_0, .int .i64 a4_1] 25 (0, 0)) (by (with_reducible repeat (first | refine blk_drewN ?_ _ | refine blk_drew ?_ | refine blk_alloc ?_ _)); exact BK202.out) hb); have n3_ := Aside0.mk (below_step (by repeat (first | (with_reducible first | exact HB.out | apply below_alloc | apply pw_below_drewN | apply below_drew1 | refine below_set ?_ GE200.out | refine below_set ?_ GE201.out | refine below_set ?_ GE202.out) | exact HB.out)) hb); clear BK200; clear BK201; clear BK202; clear HB; have BK200 := n0_; have BK201 := n1_; have BK202 := n2_; have HB := n3_; clear n0_ n1_ n2_ n3_; (try clear hb); (try clear hb2); (try clear hk); (try clear hi)) | ((with_reducible refine gate_callee (f := 91) rfl ?_); refine goesL_ (some 46) rfl rfl Try.func91 (by kernel_rfl) rfl #[.agg #[.int .u64 t207, .int .u64 t208, .bool t209], .agg #[.int .u64 t210, .int .u64 t211, .bool t212]] rfl (by (try simp only [List.map_toArray, List.map_cons, List.map_nil]); first | done | rfl | (simp only [List.length_drop, List.length_take]; rfl)) ?_; (with_reducible refine (num_Compare.calls kj7 t207 t208 t209 t210 t211 t212 t213 _ A27.out).mono ?_); rintro e w30 ⟨rfl, hb⟩; refine ⟨_, rfl, ?_⟩; have n0_ := Aside0.mk (blk_below (g := gb200) (o := .cells #[.int .i64 a0_0, .int .i64 a0_1] 25 (0, 0)) (by (with_reducible repeat (first | refine blk_drewN ?_ _ | refine blk_drew ?_ | refine blk_alloc ?_ _)); exact BK200.out) hb); have n1_ := Aside0.mk (blk_below (g := gb201) (o := .cells #[.int .i64 a2_0, .int .i64 a2_1] 25 (0, 0)) (by (with_reducible repeat (first | refine blk_drewN ?_ _ | refine blk_drew ?_ | refine blk_alloc ?_ _)); exact BK201.out) hb); have n2_ := Aside0.mk (blk_below (g := gb202) (o := .cells #[.int .i64 a4_0, .int .i64 a4_1] 25 (0, 0)) (by (with_reducible repeat (first | refine blk_drewN ?_ _ | refine blk_drew ?_ | refine blk_alloc ?_ _)); exact BK202.out) hb); have n3_ := Aside0.mk (below_step (by repeat (first | (with_reducible first | exact HB.out | apply below_alloc | apply pw_below_drewN | apply below_drew1 | refine below_set ?_ GE200.out | refine below_set ?_ GE201.out | refine below_set ?_ GE202.out) | exact HB.out)) hb); clear BK200; clear BK201; clear BK202; clear HB; have BK200 := n0_; have BK201 := n1_; have BK202 := n2_; have HB := n3_; clear n0_ n1_ n2_ n3_; (try clear hb); (try clear hb2); (try clear hk); (try clear hi)))
        go_ret
        exact ⟨by first | rfl | (simp [errW_none, errW_some] <;> rfl) | (simp [*, errW_none, errW_some] <;> rfl), by repeat (first | (with_reducible first | exact HB.out | apply below_alloc | apply pw_below_drewN | apply below_drew1 | refine below_set ?_ GE200.out | refine below_set ?_ GE201.out | refine below_set ?_ GE202.out) | exact HB.out)⟩

end Go.Proofs.Ytkbcjagkacijnaa.PVec
end
section
-- Written for this claim by this project's own driver over the kit's print: functions and their contracts.
namespace Go.Proofs.Ytkbcjagkacijnaa.PVq
open Go.RowKit Go.Proofs.YtkbcjagkacijnaaW.PrintWords Go.Proofs.YtkbcjagkacijnaaW.PrintLast Go.Proofs.YtkbcjagkacijnaaW.PrintMore
attribute [local go_sem] max2_int min2_int max_two min_two max_three min_three max_four min_four   -- for this text's walks alone
set_option linter.unusedVariables false
set_option linter.unusedSimpArgs false



def errW : Option Int → Value
  | none => .nilIface
  | some c => .iface 0 (.int .i64 c)
theorem errW_none : errW none = .nilIface := rfl
theorem errW_some (c : Int) : errW (some c) = .iface 0 (.int .i64 c) := rfl

-- the values' own types
end Go.Proofs.Ytkbcjagkacijnaa.PVq
end
section
namespace Go.Proofs.Ytkbcjagkacijnaa.PVq
open Go.RowKit Go.Proofs.YtkbcjagkacijnaaW.PrintWords Go.Proofs.YtkbcjagkacijnaaW.PrintLast
set_option linter.unusedVariables false
abbrev furlongref01_Times.f := @PNum.furlongref01_Times.f
theorem furlongref01_Times.calls (a0 : Int) (a1 : Int) (r1 : Int) (r2 : Int) (w : World) (h : furlongref01_Times.f a0 a1 = some (r1, r2)) :
    Calls Try.prog 100 #[.int .i64 a0, .int .i64 a1] w fun e w' => e = .returned (.agg #[.int .i64 r1, .int .u64 r2]) ∧ Below w.heap.size w w' := PNum.furlongref01_Times.calls a0 a1 r1 r2 w h
abbrev furlongref01_Plus.f := @PNum.furlongref01_Plus.f
theorem furlongref01_Plus.calls (a0_0 : Int) (a0_1 : Int) (a1_0 : Int) (a1_1 : Int) (r1 : Int) (r2 : Int) (w : World) (h : furlongref01_Plus.f a0_0 a0_1 a1_0 a1_1 = some (r1, r2)) :
    Calls Try.prog 102 #[.agg #[.int .i64 a0_0, .int .u64 a0_1], .agg #[.int .i64 a1_0, .int .u64 a1_1]] w fun e w' => e = .returned (.agg #[.int .i64 r1, .int .u64 r2]) ∧ Below w.heap.size w w' := PNum.furlongref01_Plus.calls a0_0 a0_1 a1_0 a1_1 r1 r2 w h
end Go.Proofs.Ytkbcjagkacijnaa.PVq
end
section
-- Written for this claim by this project's own driver over the kit's print: functions and their contracts.
namespace Go.Proofs.Ytkbcjagkacijnaa.PVq
open Go.RowKit Go.Proofs.YtkbcjagkacijnaaW.PrintWords Go.Proofs.YtkbcjagkacijnaaW.PrintLast Go.Proofs.YtkbcjagkacijnaaW.PrintMore
attribute [local go_sem] max2_int min2_int max_two min_two max_three min_three max_four min_four   -- for this text's walks alone
set_option linter.unusedVariables false
set_option linter.unusedSimpArgs false

def furlongref02_times.l0 : Nat → Int → Int → Int → Int → Int → Int → Option (Int × Int)
  | 0, _, _, _, _, _, _ => none
  | k + 1, x2, x9, x105000, x105001, x106000, x106001 => if x9 ≥ 0 then ((furlongref01_Plus.f x106000 x106001 x106000 x106001).bind fun bt106 => (if 0 ≤ x9 then (if (Go.bits .and .i64 (shr .i64 x2 x9) 1) = 1 then ((furlongref01_Plus.f bt106.1 bt106.2 x105000 x105001).bind fun bt108 => (furlongref02_times.l0 k x2 (wrap64 (x9 - 1)) x105000 x105001 bt108.1 bt108.2)) else (furlongref02_times.l0 k x2 (wrap64 (x9 - 1)) x105000 x105001 bt106.1 bt106.2)) else (none))) else (some (x106000, x106001))
def furlongref02_times.f (k : Nat) (a0 : Int) (a1 : Int) (a2 : Int) : Option (Int × Int) := (furlongref01_Times.f a0 a1).bind fun bt102 => (furlongref02_times.l0 k a2 20 bt102.1 bt102.2 0 0)
theorem furlongref02_times.mono_l : ∀ k, (∀ y0 y1 y2 y3 y4 y5, LeO (furlongref02_times.l0 k y0 y1 y2 y3 y4 y5) (furlongref02_times.l0 (k + 1) y0 y1 y2 y3 y4 y5))
  | 0 => fun _ _ _ _ _ _ r h => by simp [furlongref02_times.l0] at h
  | k + 1 => by
    have ih0 := furlongref02_times.mono_l k
    · intro y0 y1 y2 y3 y4 y5
      unfold furlongref02_times.l0
      repeat' first
      | (with_reducible exact ih0 _ _ _ _ _ _)
      | (with_reducible exact LeO.refl _)
      | (with_reducible exact LeO.none _)
      | (with_reducible refine LeO.ite ?_ ?_)
      | (with_reducible refine LeO.bind ?_ (fun _ => ?_))
      | exact ih0 _ _ _ _ _ _
      | exact LeO.none _
      | refine LeO.ite ?_ ?_
      | refine LeO.bind ?_ (fun _ => ?_)
theorem furlongref02_times.mono : ∀ a0 a1 a2 k, LeO (furlongref02_times.f k a0 a1 a2) (furlongref02_times.f (k + 1) a0 a1 a2) := by
  intro a0 a1 a2 k
  have ih0 := furlongref02_times.mono_l k
  unfold furlongref02_times.f
  repeat' first
      | (with_reducible exact ih0 _ _ _ _ _ _)
      | (with_reducible exact LeO.refl _)
      | (with_reducible exact LeO.none _)
      | (with_reducible refine LeO.ite ?_ ?_)
      | (with_reducible refine LeO.bind ?_ (fun _ => ?_))
      | exact ih0 _ _ _ _ _ _
      | exact LeO.none _
      | refine LeO.ite ?_ ?_
      | refine LeO.bind ?_ (fun _ => ?_)
set_option maxHeartbeats 8000000 in
set_option maxRecDepth 100000 in
theorem furlongref02_times.calls (k : Nat) (a0 : Int) (a1 : Int) (a2 : Int) (r1 : Int) (r2 : Int) (w : World) (h : furlongref02_times.f k a0 a1 a2 = some (r1, r2)) :
    Calls Try.prog 123 #[.int .i64 a0, .int .i64 a1, .int .i64 a2] w fun e w' => e = .returned (.agg #[.int .i64 r1, .int .u64 r2]) ∧ Below w.heap.size w w' := by
  have hu119 := Try.underlying119
  have HB := Aside0.mk (Below.refl w.heap.size w)
  have H : ((furlongref01_Times.f a0 a1).bind fun bt102 => (furlongref02_times.l0 k a2 20 bt102.1 bt102.2 0 0)) = some (r1, r2) := h
  clear h
  replace H := Option.bind_eq_some_iff.mp H
  obtain ⟨⟨t102, t103⟩, A40, H⟩ := H
  replace H : (furlongref02_times.l0 k a2 20 t102 t103 0 0) = some (r1, r2) := H
  have A4 := Aside0.mk A40
  clear A40
  have H' := Aside0.mk H
  clear H
  go_enter Try.func123, Try.ntmps123
  go_wp2_with (first | ((with_reducible refine gate_dst (N := 6) rfl ?_); refine box_event ?hg (N := 6) ?hd (cs := #[.int .i64 0, .int .u64 0]) (t := 119) ?hr ?_; (case hd => rfl); (case hg => rfl); (case hr => first | (go_simp; done) | (go_simp; rfl)); intro gb101 hg w5 hbox hb; have n0_ := Aside0.mk (below_step (by repeat (first | (with_reducible first | exact HB.out | apply below_alloc | apply pw_below_drewN | apply below_drew1) | exact HB.out)) hb); have n1_ := Aside0.mk (hbox); have n2_ := Aside0.mk ((by rw [hg]; exact (below_size (by repeat (first | (with_reducible first | exact HB.out | apply below_alloc | apply pw_below_drewN | apply below_drew1) | exact HB.out))) : w.heap.size ≤ gb101)); have n3_ := Aside0.mk ((by rw [hg]; exact (below_size (by repeat (first | (with_reducible first | exact HB.out | apply below_alloc | apply pw_below_drewN | apply below_drew1) | exact HB.out))) : w.heap.size ≤ gb101)); clear HB; have HB := n0_; have BK101 := n1_; have GW101 := n2_; have GE101 := n3_; clear n0_ n1_ n2_ n3_; clear hb hbox hg) | ((with_reducible refine gate_callee (f := 100) rfl ?_); refine goesL_ (some 12) rfl rfl Try.func100 (by kernel_rfl) rfl #[.int .i64 a0, .int .i64 a1] rfl (by (try simp only [List.map_toArray, List.map_cons, List.map_nil]); first | done | rfl | (simp only [List.length_drop, List.length_take]; rfl)) ?_; (with_reducible refine (furlongref01_Times.calls a0 a1 t102 t103 _ A4.out).mono ?_); rintro e w6 ⟨rfl, hb⟩; refine ⟨_, rfl, ?_⟩; have n0_ := Aside0.mk (blk_below (g := gb101) (o := .cells #[.int .i64 0, .int .u64 0] 119 (0, 0)) (by (with_reducible repeat (first | refine blk_drewN ?_ _ | refine blk_drew ?_ | refine blk_alloc ?_ _)); exact BK101.out) hb); have n1_ := Aside0.mk (below_step (by repeat (first | (with_reducible first | exact HB.out | apply below_alloc | apply pw_below_drewN | apply below_drew1 | refine below_set ?_ GE101.out) | exact HB.out)) hb); clear BK101; clear HB; have BK101 := n0_; have HB := n1_; clear n0_ n1_; (try clear hb); (try clear hb2); (try clear hk); (try clear hi)) | ((with_reducible refine gate_dst (N := 7) rfl ?_); refine box_event ?hg (N := 7) ?hd (cs := #[.int .i64 0, .int .u64 0]) (t := 119) ?hr ?_; (case hd => rfl); (case hg => rfl); (case hr => first | (go_simp; done) | (go_simp; rfl)); intro gb104 hg w7 hbox hb; have n0_ := Aside0.mk (blk_below (g := gb101) (o := .cells #[.int .i64 0, .int .u64 0] 119 (0, 0)) (by (with_reducible repeat (first | refine blk_drewN ?_ _ | refine blk_drew ?_ | refine blk_alloc ?_ _)); exact BK101.out) hb); have n1_ := Aside0.mk (below_step (by repeat (first | (with_reducible first | exact HB.out | apply below_alloc | apply pw_below_drewN | apply below_drew1 | refine below_set ?_ GE101.out) | exact HB.out)) hb); have n2_ := Aside0.mk (hbox); have n3_ := Aside0.mk ((by rw [hg]; exact (below_size (by repeat (first | (with_reducible first | exact HB.out | apply below_alloc | apply pw_below_drewN | apply below_drew1 | refine below_set ?_ GE101.out) | exact HB.out))) : w.heap.size ≤ gb104)); have n4_ := Aside0.mk ((by rw [hg]; exact (below_size (by repeat (first | (with_reducible first | exact HB.out | apply below_alloc | apply pw_below_drewN | apply below_drew1 | refine below_set ?_ GE101.out) | exact HB.out))) : w.heap.size ≤ gb104)); have n5_ := Aside0.mk ((by rw [hg]; exact Nat.ne_of_lt (blk_lt (g := gb101) (o := .cells #[.int .i64 0, .int .u64 0] 119 (0, 0)) (by (with_reducible repeat (first | refine blk_drewN ?_ _ | refine blk_drew ?_ | refine blk_alloc ?_ _)); exact BK101.out)) : gb101 ≠ gb104)); have n6_ := Aside0.mk ((by rw [hg]; exact Nat.ne_of_gt (blk_lt (g := gb101) (o := .cells #[.int .i64 0, .int .u64 0] 119 (0, 0)) (by (with_reducible repeat (first | refine blk_drewN ?_ _ | refine blk_drew ?_ | refine blk_alloc ?_ _)); exact BK101.out)) : gb104 ≠ gb101)); clear BK101; clear HB; have BK101 := n0_; have HB := n1_; have BK104 := n2_; have GW104 := n3_; have GE104 := n4_; have NB101_104 := n5_; have NB104_101 := n6_; clear n0_ n1_ n2_ n3_ n4_ n5_ n6_; clear hb hbox hg; have hnb8 := NB104_101.out; have hnc8 := NB101_104.out; have hcz9_0 : w7.cell? ⟨gb104, 0, none⟩ = some (.int .i64 0) := (blk_cell BK104.out 0).trans rfl; have hcz9_1 : w7.cell? ⟨gb104, 1, none⟩ = some (.int .u64 0) := (blk_cell BK104.out 1).trans rfl; have hfz9_0 := blk_frozen BK104.out 0; have hfz9_1 := blk_frozen BK104.out 1) | ((with_reducible refine gate_dst (N := 8) rfl ?_); refine box_event ?hg (N := 8) ?hd (cs := #[.int .i64 0, .int .u64 0]) (t := 119) ?hr ?_; (case hd => rfl); (case hg => rfl); (case hr => first | (go_simp; done) | (go_simp; rfl)); intro gb105 hg w10 hbox hb; have n0_ := Aside0.mk (blk_below (g := gb101) (o := .cells #[.int .i64 0, .int .u64 0] 119 (0, 0)) (by (with_reducible repeat (first | refine blk_drewN ?_ _ | refine blk_drew ?_ | refine blk_alloc ?_ _)); refine blk_far ?_ NB101_104.out _; (with_reducible repeat (first | refine blk_drewN ?_ _ | refine blk_drew ?_ | refine blk_alloc ?_ _)); refine blk_far ?_ NB101_104.out _; (with_reducible repeat (first | refine blk_drewN ?_ _ | refine blk_drew ?_ | refine blk_alloc ?_ _)); exact BK101.out) hb); have n1_ := Aside0.mk (blk_below (g := gb104) (o := .cells #[.int .i64 t102, .int .u64 t103] 119 (0, 0)) (by (with_reducible repeat (first | refine blk_drewN ?_ _ | refine blk_drew ?_ | refine blk_alloc ?_ _)); refine blk_put (cs := #[.int .i64 t102, .int .u64 0]) ?_ 1 _ rfl; (with_reducible repeat (first | refine blk_drewN ?_ _ | refine blk_drew ?_ | refine blk_alloc ?_ _)); refine blk_put (cs := #[.int .i64 0, .int .u64 0]) ?_ 0 _ rfl; (with_reducible repeat (first | refine blk_drewN ?_ _ | refine blk_drew ?_ | refine blk_alloc ?_ _)); exact BK104.out) hb); have n2_ := Aside0.mk (below_step (by repeat (first | (with_reducible first | exact HB.out | apply below_alloc | apply pw_below_drewN | apply below_drew1 | refine below_set ?_ GE101.out | refine below_set ?_ GE104.out) | exact HB.out)) hb); have n3_ := Aside0.mk (hbox); have n4_ := Aside0.mk ((by rw [hg]; exact (below_size (by repeat (first | (with_reducible first | exact HB.out | apply below_alloc | apply pw_below_drewN | apply below_drew1 | refine below_set ?_ GE101.out | refine below_set ?_ GE104.out) | exact HB.out))) : w.heap.size ≤ gb105)); have n5_ := Aside0.mk ((by rw [hg]; exact (below_size (by repeat (first | (with_reducible first | exact HB.out | apply below_alloc | apply pw_below_drewN | apply below_drew1 | refine below_set ?_ GE101.out | refine below_set ?_ GE104.out) | exact HB.out))) : w.heap.size ≤ gb105)); have n6_ := Aside0.mk ((by rw [hg]; exact Nat.ne_of_lt (blk_lt (g := gb101) (o := .cells #[.int .i64 0, .int .u64 0] 119 (0, 0)) (by (with_reducible repeat (first | refine blk_drewN ?_ _ | refine blk_drew ?_ | refine blk_alloc ?_ _)); refine blk_far ?_ NB101_104.out _; (with_reducible repeat (first | refine blk_drewN ?_ _ | refine blk_drew ?_ | refine blk_alloc ?_ _)); refine blk_far ?_ NB101_104.out _; (with_reducible repeat (first | refine blk_drewN ?_ _ | refine blk_drew ?_ | refine blk_alloc ?_ _)); exact BK101.out)) : gb101 ≠ gb105)); have n7_ := Aside0.mk ((by rw [hg]; exact Nat.ne_of_gt (blk_lt (g := gb101) (o := .cells #[.int .i64 0, .int .u64 0] 119 (0, 0)) (by (with_reducible repeat (first | refine blk_drewN ?_ _ | refine blk_drew ?_ | refine blk_alloc ?_ _)); refine blk_far ?_ NB101_104.out _; (with_reducible repeat (first | refine blk_drewN ?_ _ | refine blk_drew ?_ | refine blk_alloc ?_ _)); refine blk_far ?_ NB101_104.out _; (with_reducible repeat (first | refine blk_drewN ?_ _ | refine blk_drew ?_ | refine blk_alloc ?_ _)); exact BK101.out)) : gb105 ≠ gb101)); have n8_ := Aside0.mk ((by rw [hg]; exact Nat.ne_of_lt (blk_lt (g := gb104) (o := .cells #[.int .i64 t102, .int .u64 t103] 119 (0, 0)) (by (with_reducible repeat (first | refine blk_drewN ?_ _ | refine blk_drew ?_ | refine blk_alloc ?_ _)); refine blk_put (cs := #[.int .i64 t102, .int .u64 0]) ?_ 1 _ rfl; (with_reducible repeat (first | refine blk_drewN ?_ _ | refine blk_drew ?_ | refine blk_alloc ?_ _)); refine blk_put (cs := #[.int .i64 0, .int .u64 0]) ?_ 0 _ rfl; (with_reducible repeat (first | refine blk_drewN ?_ _ | refine blk_drew ?_ | refine blk_alloc ?_ _)); exact BK104.out)) : gb104 ≠ gb105)); have n9_ := Aside0.mk ((by rw [hg]; exact Nat.ne_of_gt (blk_lt (g := gb104) (o := .cells #[.int .i64 t102, .int .u64 t103] 119 (0, 0)) (by (with_reducible repeat (first | refine blk_drewN ?_ _ | refine blk_drew ?_ | refine blk_alloc ?_ _)); refine blk_put (cs := #[.int .i64 t102, .int .u64 0]) ?_ 1 _ rfl; (with_reducible repeat (first | refine blk_drewN ?_ _ | refine blk_drew ?_ | refine blk_alloc ?_ _)); refine blk_put (cs := #[.int .i64 0, .int .u64 0]) ?_ 0 _ rfl; (with_reducible repeat (first | refine blk_drewN ?_ _ | refine blk_drew ?_ | refine blk_alloc ?_ _)); exact BK104.out)) : gb105 ≠ gb104)); clear BK101; clear BK104; clear HB; have BK101 := n0_; have BK104 := n1_; have HB := n2_; have BK105 := n3_; have GW105 := n4_; have GE105 := n5_; have NB101_105 := n6_; have NB105_101 := n7_; have NB104_105 := n8_; have NB105_104 := n9_; clear n0_ n1_ n2_ n3_ n4_ n5_ n6_ n7_ n8_ n9_; clear hb hbox hg; have hnb11 := NB105_101.out; have hnc11 := NB101_105.out; have hnb12 := NB105_104.out; have hnc12 := NB104_105.out; have hcz13_0 : w10.cell? ⟨gb105, 0, none⟩ = some (.int .i64 0) := (blk_cell BK105.out 0).trans rfl; have hcz13_1 : w10.cell? ⟨gb105, 1, none⟩ = some (.int .u64 0) := (blk_cell BK105.out 1).trans rfl; have hfz13_0 := blk_frozen BK105.out 0; have hfz13_1 := blk_frozen BK105.out 1))
  go_loopg [9] k (fun kq v9 w' => ∃ (x9_1 : Int) (x106000_1 : Int) (x106001_1 : Int), v9 = .int .i64 x9_1 ∧ Aside0 (furlongref02_times.l0 kq a2 x9_1 t102 t103 x106000_1 x106001_1 = some (r1, r2)) ∧ Aside0 (kq ≤ k) ∧ Aside0 (w'.heap[gb101]? = some (.cells #[.int .i64 0, .int .u64 0] 119 (0, 0))) ∧ Aside0 (w'.heap[gb104]? = some (.cells #[.int .i64 t102, .int .u64 t103] 119 (0, 0))) ∧ Aside0 (w'.heap[gb105]? = some (.cells #[.int .i64 x106000_1, .int .u64 x106001_1] 119 (0, 0))) ∧ Aside0 (Below w.heap.size w w'))
  case atStart => exact ⟨(20), (0), (0), (by first | rfl | (simp; done) | (simp [*]; done)), H', ⟨Nat.le_refl _⟩, ⟨by (with_reducible repeat (first | refine blk_drewN ?_ _ | refine blk_drew ?_ | refine blk_alloc ?_ _)); refine blk_far ?_ NB101_105.out _; (with_reducible repeat (first | refine blk_drewN ?_ _ | refine blk_drew ?_ | refine blk_alloc ?_ _)); refine blk_far ?_ NB101_105.out _; (with_reducible repeat (first | refine blk_drewN ?_ _ | refine blk_drew ?_ | refine blk_alloc ?_ _)); exact BK101.out⟩, ⟨by (with_reducible repeat (first | refine blk_drewN ?_ _ | refine blk_drew ?_ | refine blk_alloc ?_ _)); refine blk_far ?_ NB104_105.out _; (with_reducible repeat (first | refine blk_drewN ?_ _ | refine blk_drew ?_ | refine blk_alloc ?_ _)); refine blk_far ?_ NB104_105.out _; (with_reducible repeat (first | refine blk_drewN ?_ _ | refine blk_drew ?_ | refine blk_alloc ?_ _)); exact BK104.out⟩, ⟨by (with_reducible repeat (first | refine blk_drewN ?_ _ | refine blk_drew ?_ | refine blk_alloc ?_ _)); refine blk_put (cs := #[.int .i64 0, .int .u64 0]) ?_ 1 _ rfl; (with_reducible repeat (first | refine blk_drewN ?_ _ | refine blk_drew ?_ | refine blk_alloc ?_ _)); refine blk_put (cs := #[.int .i64 0, .int .u64 0]) ?_ 0 _ rfl; (with_reducible repeat (first | refine blk_drewN ?_ _ | refine blk_drew ?_ | refine blk_alloc ?_ _)); exact BK105.out⟩, ⟨by repeat (first | (with_reducible first | exact HB.out | apply below_alloc | apply pw_below_drewN | apply below_drew1 | refine below_set ?_ GE101.out | refine below_set ?_ GE104.out | refine below_set ?_ GE105.out) | exact HB.out)⟩⟩
  case round =>
    clear H'
    try clear c1
    try clear p2
    try clear c8
    try clear c10
    try clear c11
    try clear c12
    try clear hcz13_0
    try clear hcz13_1
    try clear hcz9_0
    try clear hcz9_1
    try clear hfz13_0
    try clear hfz13_1
    try clear hfz9_0
    try clear hfz9_1
    obtain ⟨x9_1, x106000_1, x106001_1, rfl, HA, HK1, BK101, BK104, BK105, HB⟩ := hrel
    cases gk with
    | zero => exact absurd HA.out (by simp [furlongref02_times.l0])
    | succ k1 =>
      have H := HA.out
      clear HA
      simp only [furlongref02_times.l0] at H
      by_cases c14 : x9_1 ≥ 0
      · rw [if_pos c14] at H
        have c14b0 : decide (0 ≤ x9_1) = true := decide_eq_true c14
        clear c14
        replace H := Option.bind_eq_some_iff.mp H
        obtain ⟨⟨t106, t107⟩, A150, H⟩ := H
        replace H : (if 0 ≤ x9_1 then (if (Go.bits .and .i64 (shr .i64 a2 x9_1) 1) = 1 then ((furlongref01_Plus.f t106 t107 t102 t103).bind fun bt108 => (furlongref02_times.l0 k1 a2 (wrap64 (x9_1 - 1)) t102 t103 bt108.1 bt108.2)) else (furlongref02_times.l0 k1 a2 (wrap64 (x9_1 - 1)) t102 t103 t106 t107)) else (none)) = some (r1, r2) := H
        have A15 := Aside0.mk A150
        clear A150
        by_cases c16 : 0 ≤ x9_1
        · rw [if_pos c16] at H
          have c16b0 := eq_true c16
          have c16b1 : decide (0 ≤ x9_1) = true := decide_eq_true c16
          clear c16
          obtain ⟨ji17, hji17⟩ : ∃ j_ : Int, (shr .i64 a2 x9_1) = j_ := ⟨_, rfl⟩
          replace H : (if (Go.bits .and .i64 (ji17) 1) = 1 then ((furlongref01_Plus.f t106 t107 t102 t103).bind fun bt108 => (furlongref02_times.l0 k1 a2 (wrap64 (x9_1 - 1)) t102 t103 bt108.1 bt108.2)) else (furlongref02_times.l0 k1 a2 (wrap64 (x9_1 - 1)) t102 t103 t106 t107)) = some (r1, r2) := by first | (rw [hji17] at H; exact H) | (simp only [hji17] at H ⊢; exact H)
          (try rw [hji17] at A15)
          have hji17_ : (a2 / 2 ^ min x9_1.toNat 64) = ji17 := hji17
          have hji17z : x9_1 ≤ 64 → (a2 / 2 ^ x9_1.toNat) = ji17 := shr_small hji17
          by_cases c18 : (Go.bits .and .i64 (ji17) 1) = 1
          · rw [if_pos c18] at H
            have c18b0 : ((Go.bits .and .i64 (ji17) 1) == 1) = true := beq_iff_eq.mpr c18
            have c18b1 : ((Go.bits .and .i64 (ji17) 1) != 1) = false := bne_eq_false_iff_eq.mpr c18
            clear c18
            replace H := Option.bind_eq_some_iff.mp H
            obtain ⟨⟨t108, t109⟩, A190, H⟩ := H
            replace H : (furlongref02_times.l0 k1 a2 (wrap64 (x9_1 - 1)) t102 t103 t108 t109) = some (r1, r2) := H
            have A19 := Aside0.mk A190
            clear A190
            have H' := Aside0.mk H
            clear H
            have hnb20 := NB105_101.out
            have hnc20 := NB101_105.out
            have hnb21 := NB105_104.out
            have hnc21 := NB104_105.out
            have hcz22_0 : wr.cell? ⟨gb105, 0, none⟩ = some (.int .i64 x106000_1) := (blk_cell BK105.out 0).trans rfl
            have hcz22_1 : wr.cell? ⟨gb105, 1, none⟩ = some (.int .u64 x106001_1) := (blk_cell BK105.out 1).trans rfl
            have hfz22_0 := blk_frozen BK105.out 0
            have hfz22_1 := blk_frozen BK105.out 1
            go_wp2_with (first | ((with_reducible refine gate_callee (f := 102) rfl ?_); refine goesL_ (some 20) rfl rfl Try.func102 (by kernel_rfl) rfl #[.agg #[.int .i64 x106000_1, .int .u64 x106001_1], .agg #[.int .i64 x106000_1, .int .u64 x106001_1]] rfl (by (try simp only [List.map_toArray, List.map_cons, List.map_nil]); first | done | rfl | (simp only [List.length_drop, List.length_take]; rfl)) ?_; (with_reducible refine (furlongref01_Plus.calls x106000_1 x106001_1 x106000_1 x106001_1 t106 t107 _ A15.out).mono ?_); rintro e w23 ⟨rfl, hb⟩; refine ⟨_, rfl, ?_⟩; have n0_ := Aside0.mk (blk_below (g := gb101) (o := .cells #[.int .i64 0, .int .u64 0] 119 (0, 0)) (by (with_reducible repeat (first | refine blk_drewN ?_ _ | refine blk_drew ?_ | refine blk_alloc ?_ _)); exact BK101.out) hb); have n1_ := Aside0.mk (blk_below (g := gb104) (o := .cells #[.int .i64 t102, .int .u64 t103] 119 (0, 0)) (by (with_reducible repeat (first | refine blk_drewN ?_ _ | refine blk_drew ?_ | refine blk_alloc ?_ _)); exact BK104.out) hb); have n2_ := Aside0.mk (blk_below (g := gb105) (o := .cells #[.int .i64 x106000_1, .int .u64 x106001_1] 119 (0, 0)) (by (with_reducible repeat (first | refine blk_drewN ?_ _ | refine blk_drew ?_ | refine blk_alloc ?_ _)); exact BK105.out) hb); have n3_ := Aside0.mk (below_step (by repeat (first | (with_reducible first | exact HB.out | apply below_alloc | apply pw_below_drewN | apply below_drew1 | refine below_set ?_ GE101.out | refine below_set ?_ GE104.out | refine below_set ?_ GE105.out) | exact HB.out)) hb); clear BK101; clear BK104; clear BK105; clear HB; have BK101 := n0_; have BK104 := n1_; have BK105 := n2_; have HB := n3_; clear n0_ n1_ n2_ n3_; (try clear hb); (try clear hb2); (try clear hk); (try clear hi); have hcz24_0 : w23.cell? ⟨gb105, 0, none⟩ = some (.int .i64 x106000_1) := (blk_cell BK105.out 0).trans rfl; have hcz24_1 : w23.cell? ⟨gb105, 1, none⟩ = some (.int .u64 x106001_1) := (blk_cell BK105.out 1).trans rfl; have hfz24_0 := blk_frozen BK105.out 0; have hfz24_1 := blk_frozen BK105.out 1; have hnb25 := NB104_101.out; have hnc25 := NB101_104.out; have hcz26_0 : w23.cell? ⟨gb104, 0, none⟩ = some (.int .i64 t102) := (blk_cell BK104.out 0).trans rfl; have hcz26_1 : w23.cell? ⟨gb104, 1, none⟩ = some (.int .u64 t103) := (blk_cell BK104.out 1).trans rfl; have hfz26_0 := blk_frozen BK104.out 0; have hfz26_1 := blk_frozen BK104.out 1) | ((with_reducible refine gate_callee (f := 102) rfl ?_); refine goesL_ (some 28) rfl rfl Try.func102 (by kernel_rfl) rfl #[.agg #[.int .i64 t106, .int .u64 t107], .agg #[.int .i64 t102, .int .u64 t103]] rfl (by (try simp only [List.map_toArray, List.map_cons, List.map_nil]); first | done | rfl | (simp only [List.length_drop, List.length_take]; rfl)) ?_; (with_reducible refine (furlongref01_Plus.calls t106 t107 t102 t103 t108 t109 _ A19.out).mono ?_); rintro e w27 ⟨rfl, hb⟩; refine ⟨_, rfl, ?_⟩; have n0_ := Aside0.mk (blk_below (g := gb101) (o := .cells #[.int .i64 0, .int .u64 0] 119 (0, 0)) (by (with_reducible repeat (first | refine blk_drewN ?_ _ | refine blk_drew ?_ | refine blk_alloc ?_ _)); refine blk_far ?_ NB101_105.out _; (with_reducible repeat (first | refine blk_drewN ?_ _ | refine blk_drew ?_ | refine blk_alloc ?_ _)); refine blk_far ?_ NB101_105.out _; (with_reducible repeat (first | refine blk_drewN ?_ _ | refine blk_drew ?_ | refine blk_alloc ?_ _)); exact BK101.out) hb); have n1_ := Aside0.mk (blk_below (g := gb104) (o := .cells #[.int .i64 t102, .int .u64 t103] 119 (0, 0)) (by (with_reducible repeat (first | refine blk_drewN ?_ _ | refine blk_drew ?_ | refine blk_alloc ?_ _)); refine blk_far ?_ NB104_105.out _; (with_reducible repeat (first | refine blk_drewN ?_ _ | refine blk_drew ?_ | refine blk_alloc ?_ _)); refine blk_far ?_ NB104_105.out _; (with_reducible repeat (first | refine blk_drewN ?_ _ | refine blk_drew ?_ | refine blk_alloc ?_ _)); exact BK104.out) hb); have n2_ := Aside0.mk (blk_below (g := gb105) (o := .cells #[.int .i64 t106, .int .u64 t107] 119 (0, 0)) (by (with_reducible repeat (first | refine blk_drewN ?_ _ | refine blk_drew ?_ | refine blk_alloc ?_ _)); refine blk_put (cs := #[.int .i64 t106, .int .u64 x106001_1]) ?_ 1 _ rfl; (with_reducible repeat (first | refine blk_drewN ?_ _ | refine blk_drew ?_ | refine blk_alloc ?_ _)); refine blk_put (cs := #[.int .i64 x106000_1, .int .u64 x106001_1]) ?_ 0 _ rfl; (with_reducible repeat (first | refine blk_drewN ?_ _ | refine blk_drew ?_ | refine blk_alloc ?_ _)); exact BK105.out) hb); have n3_ := Aside0.mk (below_step (by repeat (first | (with_reducible first | exact HB.out | apply below_alloc | apply pw_below_drewN | apply below_drew1 | refine below_set ?_ GE101.out | refine below_set ?_ GE104.out | refine below_set ?_ GE105.out) | exact HB.out)) hb); clear BK101; clear BK104; clear BK105; clear HB; have BK101 := n0_; have BK104 := n1_; have BK105 := n2_; have HB := n3_; clear n0_ n1_ n2_ n3_; (try clear hb); (try clear hb2); (try clear hk); (try clear hi); have hcz28_0 : w27.cell? ⟨gb105, 0, none⟩ = some (.int .i64 t106) := (blk_cell BK105.out 0).trans rfl; have hcz28_1 : w27.cell? ⟨gb105, 1, none⟩ = some (.int .u64 t107) := (blk_cell BK105.out 1).trans rfl; have hfz28_0 := blk_frozen BK105.out 0; have hfz28_1 := blk_frozen BK105.out 1))
            go_roundg k1
            case measure => have := HK1.out; omega
            case rel => exact ⟨(wrap64 (x9_1 - 1)), (t108), (t109), (by first | rfl | (simp; done) | (simp [*]; done)), H', ⟨by have := HK1.out; omega⟩, ⟨by (with_reducible repeat (first | refine blk_drewN ?_ _ | refine blk_drew ?_ | refine blk_alloc ?_ _)); refine blk_far ?_ NB101_105.out _; (with_reducible repeat (first | refine blk_drewN ?_ _ | refine blk_drew ?_ | refine blk_alloc ?_ _)); refine blk_far ?_ NB101_105.out _; (with_reducible repeat (first | refine blk_drewN ?_ _ | refine blk_drew ?_ | refine blk_alloc ?_ _)); exact BK101.out⟩, ⟨by (with_reducible repeat (first | refine blk_drewN ?_ _ | refine blk_drew ?_ | refine blk_alloc ?_ _)); refine blk_far ?_ NB104_105.out _; (with_reducible repeat (first | refine blk_drewN ?_ _ | refine blk_drew ?_ | refine blk_alloc ?_ _)); refine blk_far ?_ NB104_105.out _; (with_reducible repeat (first | refine blk_drewN ?_ _ | refine blk_drew ?_ | refine blk_alloc ?_ _)); exact BK104.out⟩, ⟨by (with_reducible repeat (first | refine blk_drewN ?_ _ | refine blk_drew ?_ | refine blk_alloc ?_ _)); refine blk_put (cs := #[.int .i64 t108, .int .u64 t107]) ?_ 1 _ rfl; (with_reducible repeat (first | refine blk_drewN ?_ _ | refine blk_drew ?_ | refine blk_alloc ?_ _)); refine blk_put (cs := #[.int .i64 t106, .int .u64 t107]) ?_ 0 _ rfl; (with_reducible repeat (first | refine blk_drewN ?_ _ | refine blk_drew ?_ | refine blk_alloc ?_ _)); exact BK105.out⟩, ⟨by repeat (first | (with_reducible first | exact HB.out | apply below_alloc | apply pw_below_drewN | apply below_drew1 | refine below_set ?_ GE101.out | refine below_set ?_ GE104.out | refine below_set ?_ GE105.out) | exact HB.out)⟩⟩
          · rw [if_neg c18] at H
            have c18b0 : ((Go.bits .and .i64 (ji17) 1) == 1) = false := beq_eq_false_iff_ne.mpr c18
            have c18b1 : ((Go.bits .and .i64 (ji17) 1) != 1) = true := bne_iff_ne.mpr c18
            have H' := Aside0.mk H
            clear H
            have hnb29 := NB105_101.out
            have hnc29 := NB101_105.out
            have hnb30 := NB105_104.out
            have hnc30 := NB104_105.out
            have hcz31_0 : wr.cell? ⟨gb105, 0, none⟩ = some (.int .i64 x106000_1) := (blk_cell BK105.out 0).trans rfl
            have hcz31_1 : wr.cell? ⟨gb105, 1, none⟩ = some (.int .u64 x106001_1) := (blk_cell BK105.out 1).trans rfl
            have hfz31_0 := blk_frozen BK105.out 0
            have hfz31_1 := blk_frozen BK105.out 1
            go_wp2_with (first | ((with_reducible refine gate_callee (f := 102) rfl ?_); refine goesL_ (some 20) rfl rfl Try.func102 (by kernel_rfl) rfl #[.agg #[.int .i64 x106000_1, .int .u64 x106001_1], .agg #[.int .i64 x106000_1, .int .u64 x106001_1]] rfl (by (try simp only [List.map_toArray, List.map_cons, List.map_nil]); first | done | rfl | (simp only [List.length_drop, List.length_take]; rfl)) ?_; (with_reducible refine (furlongref01_Plus.calls x106000_1 x106001_1 x106000_1 x106001_1 t106 t107 _ A15.out).mono ?_); rintro e w32 ⟨rfl, hb⟩; refine ⟨_, rfl, ?_⟩; have n0_ := Aside0.mk (blk_below (g := gb101) (o := .cells #[.int .i64 0, .int .u64 0] 119 (0, 0)) (by (with_reducible repeat (first | refine blk_drewN ?_ _ | refine blk_drew ?_ | refine blk_alloc ?_ _)); exact BK101.out) hb); have n1_ := Aside0.mk (blk_below (g := gb104) (o := .cells #[.int .i64 t102, .int .u64 t103] 119 (0, 0)) (by (with_reducible repeat (first | refine blk_drewN ?_ _ | refine blk_drew ?_ | refine blk_alloc ?_ _)); exact BK104.out) hb); have n2_ := Aside0.mk (blk_below (g := gb105) (o := .cells #[.int .i64 x106000_1, .int .u64 x106001_1] 119 (0, 0)) (by (with_reducible repeat (first | refine blk_drewN ?_ _ | refine blk_drew ?_ | refine blk_alloc ?_ _)); exact BK105.out) hb); have n3_ := Aside0.mk (below_step (by repeat (first | (with_reducible first | exact HB.out | apply below_alloc | apply pw_below_drewN | apply below_drew1 | refine below_set ?_ GE101.out | refine below_set ?_ GE104.out | refine below_set ?_ GE105.out) | exact HB.out)) hb); clear BK101; clear BK104; clear BK105; clear HB; have BK101 := n0_; have BK104 := n1_; have BK105 := n2_; have HB := n3_; clear n0_ n1_ n2_ n3_; (try clear hb); (try clear hb2); (try clear hk); (try clear hi); have hcz33_0 : w32.cell? ⟨gb105, 0, none⟩ = some (.int .i64 x106000_1) := (blk_cell BK105.out 0).trans rfl; have hcz33_1 : w32.cell? ⟨gb105, 1, none⟩ = some (.int .u64 x106001_1) := (blk_cell BK105.out 1).trans rfl; have hfz33_0 := blk_frozen BK105.out 0; have hfz33_1 := blk_frozen BK105.out 1))
            go_roundg k1
            case measure => have := HK1.out; omega
            case rel => exact ⟨(wrap64 (x9_1 - 1)), (t106), (t107), (by first | rfl | (simp; done) | (simp [*]; done)), H', ⟨by have := HK1.out; omega⟩, ⟨by (with_reducible repeat (first | refine blk_drewN ?_ _ | refine blk_drew ?_ | refine blk_alloc ?_ _)); refine blk_far ?_ NB101_105.out _; (with_reducible repeat (first | refine blk_drewN ?_ _ | refine blk_drew ?_ | refine blk_alloc ?_ _)); refine blk_far ?_ NB101_105.out _; (with_reducible repeat (first | refine blk_drewN ?_ _ | refine blk_drew ?_ | refine blk_alloc ?_ _)); exact BK101.out⟩, ⟨by (with_reducible repeat (first | refine blk_drewN ?_ _ | refine blk_drew ?_ | refine blk_alloc ?_ _)); refine blk_far ?_ NB104_105.out _; (with_reducible repeat (first | refine blk_drewN ?_ _ | refine blk_drew ?_ | refine blk_alloc ?_ _)); refine blk_far ?_ NB104_105.out _; (with_reducible repeat (first | refine blk_drewN ?_ _ | refine blk_drew ?_ | refine blk_alloc ?_ _)); exact BK104.out⟩, ⟨by (with_reducible repeat (first | refine blk_drewN ?_ _ | refine blk_drew ?_ | refine blk_alloc ?_ _)); refine blk_put (cs := #[.int .i64 t106, .int .u64 x106001_1]) ?_ 1 _ rfl; (with_reducible repeat (first | refine blk_drewN ?_ _ | refine blk_drew ?_ | refine blk_alloc ?_ _)); refine blk_put (cs := #[.int .i64 x106000_1, .int .u64 x106001_1]) ?_ 0 _ rfl; (with_reducible repeat (first | refine blk_drewN ?_ _ | refine blk_drew ?_ | refine blk_alloc ?_ _)); exact BK105.out⟩, ⟨by repeat (first | (with_reducible first | exact HB.out | apply below_alloc | apply pw_below_drewN | apply below_drew1 | refine below_set ?_ GE101.out | refine below_set ?_ GE104.out | refine below_set ?_ GE105.out) | exact HB.out)⟩⟩
        · rw [if_neg c16] at H
          exact absurd H (by simp)
      · rw [if_neg c14] at H
        have c14b0 : decide (0 ≤ x9_1) = false := decide_eq_false c14
        clear c14
        simp only [Option.some.injEq, Prod.mk.injEq] at H
        obtain ⟨rfl, rfl⟩ := H
        have hnb34 := NB105_101.out
        have hnc34 := NB101_105.out
        have hnb35 := NB105_104.out
        have hnc35 := NB104_105.out
        have hcz36_0 : wr.cell? ⟨gb105, 0, none⟩ = some (.int .i64 x106000_1) := (blk_cell BK105.out 0).trans rfl
        have hcz36_1 : wr.cell? ⟨gb105, 1, none⟩ = some (.int .u64 x106001_1) := (blk_cell BK105.out 1).trans rfl
        have hfz36_0 := blk_frozen BK105.out 0
        have hfz36_1 := blk_frozen BK105.out 1
        have hnb37 := NB101_104.out
        have hnc37 := NB104_101.out
        have hcz38_0 : wr.cell? ⟨gb101, 0, none⟩ = some (.int .i64 0) := (blk_cell BK101.out 0).trans rfl
        have hcz38_1 : wr.cell? ⟨gb101, 1, none⟩ = some (.int .u64 0) := (blk_cell BK101.out 1).trans rfl
        have hfz38_0 := blk_frozen BK101.out 0
        have hfz38_1 := blk_frozen BK101.out 1
        go_wp2
        refine bodyPost_ret (results_cell_row rfl _ _ gb101 119 #[.int .i64 x106000_1, .int .u64 x106001_1] (0, 0) _ rfl (by (with_reducible repeat (first | refine blk_drewN ?_ _ | refine blk_drew ?_ | refine blk_alloc ?_ _)); refine blk_put (cs := #[.int .i64 x106000_1, .int .u64 0]) ?_ 1 _ rfl; (with_reducible repeat (first | refine blk_drewN ?_ _ | refine blk_drew ?_ | refine blk_alloc ?_ _)); refine blk_put (cs := #[.int .i64 0, .int .u64 0]) ?_ 0 _ rfl; (with_reducible repeat (first | refine blk_drewN ?_ _ | refine blk_drew ?_ | refine blk_alloc ?_ _)); exact BK101.out) Try.underlying119 rfl (by kernel_rfl)) rfl ?_
        exact ⟨by first | rfl | (simp [errW_none, errW_some] <;> rfl) | (simp [*, errW_none, errW_some] <;> rfl), by repeat (first | (with_reducible first | exact HB.out | apply below_alloc | apply pw_below_drewN | apply below_drew1 | refine below_set ?_ GE101.out | refine below_set ?_ GE104.out | refine below_set ?_ GE105.out) | exact HB.out)⟩

end Go.Proofs.Ytkbcjagkacijnaa.PVq
end
section
namespace Go.Proofs.Ytkbcjagkacijnaa.PVec
open Go.Proofs.Ytkbcjagkacijnaa.PVq
open Go.RowKit Go.Shelf Go.Proofs.Ytkbcjagkacijnaa.Iter Go.Proofs.YtkbcjagkacijnaaW.PrintWords Go.Proofs.YtkbcjagkacijnaaW.PrintLast
set_option linter.unusedVariables false
set_option linter.unusedSimpArgs false

def furlongref02_Less.f (k : Nat) (a0 a1 wa b0 b1 wb t0 t1 : Int) : Option Int := (furlongref02_Share.f a0 a1 t0 t1).bind fun f => (furlongref02_Share.f b0 b1 t0 t1).bind fun g =>
  if f.2 = 0 then (if g.2 = 0 then some 0 else some 1) else if g.2 = 0 then some (-1) else
  (furlongref02_times.f k f.1 g.2 wb).bind fun x => (furlongref02_times.f k g.1 f.2 wa).bind fun y =>
  (PNum.furlongref01_Less.f x.1 x.2 y.1 y.2).bind fun t => if t = true then some (-1) else (PNum.furlongref01_Less.f y.1 y.2 x.1 x.2).bind fun u => if u = true then some 1 else some 0
theorem furlongref02_Less.mono : ∀ a0 a1 a2 a3 a4 a5 a6 a7 k, LeO (furlongref02_Less.f k a0 a1 a2 a3 a4 a5 a6 a7) (furlongref02_Less.f (k + 1) a0 a1 a2 a3 a4 a5 a6 a7) := by
  intro a0 a1 a2 a3 a4 a5 a6 a7 k
  unfold furlongref02_Less.f
  repeat' first
      | (with_reducible exact furlongref02_times.mono _ _ _ _)
      | (with_reducible exact LeO.refl _)
      | (with_reducible exact LeO.none _)
      | (with_reducible refine LeO.ite ?_ ?_)
      | (with_reducible refine LeO.bind ?_ (fun _ => ?_))

set_option maxRecDepth 100000 in
set_option maxHeartbeats 8000000 in
theorem furlongref02_Less.calls (k : Nat) (a0 a1 wa b0 b1 wb t0 t1 r : Int) (w : World) (h : furlongref02_Less.f k a0 a1 wa b0 b1 wb t0 t1 = some r) :
    Calls Try.prog 97 #[.agg #[.int .i64 a0, .int .i64 a1], .int .i64 wa, .agg #[.int .i64 b0, .int .i64 b1], .int .i64 wb, .agg #[.int .i64 t0, .int .i64 t1]] w fun e w' => e = .returned (.int .i64 r) ∧ Below w.heap.size w w' := by
  unfold furlongref02_Less.f at h
  obtain ⟨⟨f0, f1⟩, hf, h1⟩ := Option.bind_eq_some_iff.mp h
  clear h
  obtain ⟨⟨g0, g1⟩, hg, h⟩ := Option.bind_eq_some_iff.mp h1
  clear h1
  simp only at h
  go_enter Try.func97, Try.ntmps97
  go_wp2
  have bU := ((Blk.new w 25 #[.int .i64 a0, .int .i64 a1]).alloc (.cells #[.int .i64 b0, .int .i64 b1] 25)).alloc (.cells #[.int .i64 t0, .int .i64 t1] 25)
  have bV := (Blk.new (w.alloc (.cells #[.int .i64 a0, .int .i64 a1] 25)) 25 #[.int .i64 b0, .int .i64 b1]).alloc (.cells #[.int .i64 t0, .int .i64 t1] 25)
  have bT := Blk.new ((w.alloc (.cells #[.int .i64 a0, .int .i64 a1] 25)).alloc (.cells #[.int .i64 b0, .int .i64 b1] 25)) 25 #[.int .i64 t0, .int .i64 t1]
  simp only [World.size_alloc] at bU bV bT
  have hS := Since.mk (n := w.heap.size) (W := w) (((KeepsOthers.alloc w (.cells #[.int .i64 a0, .int .i64 a1] 25)).trans (KeepsOthers.alloc _ (.cells #[.int .i64 b0, .int .i64 b1] 25))).trans (KeepsOthers.alloc _ (.cells #[.int .i64 t0, .int .i64 t1] 25))) ((((Below.refl w.heap.size w).alloc (Nat.le_refl _) _).alloc (by simp) _).alloc (by simp; omega) _)
  have hsz : w.heap.size ≤ w.heap.size := Nat.le_refl _
  generalize hW0 : (((w.alloc (.cells #[.int .i64 a0, .int .i64 a1] 25)).alloc (.cells #[.int .i64 b0, .int .i64 b1] 25)).alloc (.cells #[.int .i64 t0, .int .i64 t1] 25)) = W0 at bU bV bT hS ⊢
  clear hW0
  rename_i K0 hK0
  have key : ∀ (gF gG : Nat) (W : World), Blk W gF 97 #[.int .i64 f0, .int .i64 f1] → Blk W gG 97 #[.int .i64 g0, .int .i64 g1] → gF ≠ gG → Since w.heap.size w W →
      K0 { tmps := #[.agg #[.int .i64 a0, .int .i64 a1], .int .i64 wa, .agg #[.int .i64 b0, .int .i64 b1], .int .i64 wb, .agg #[.int .i64 t0, .int .i64 t1], .pointer (some ⟨w.heap.size, 0, none⟩), undef, .pointer (some ⟨w.heap.size + 1, 0, none⟩), undef, .pointer (some ⟨w.heap.size + 1 + 1, 0, none⟩), .int .i64 0, .pointer (some ⟨gF, 0, none⟩), .pointer (some ⟨gG, 0, none⟩), undef, undef, .agg #[.int .i64 a0, .int .i64 a1], .agg #[.int .i64 t0, .int .i64 t1], .agg #[.int .i64 f0, .int .i64 f1], .agg #[.int .i64 b0, .int .i64 b1], .agg #[.int .i64 t0, .int .i64 t1], .agg #[.int .i64 g0, .int .i64 g1], undef, undef, undef, undef, undef, undef, undef, undef, undef, undef, undef, undef, undef, undef, undef, undef, undef, undef, undef, undef, undef, undef, undef, undef, undef, undef, undef, undef, undef, undef, undef, undef, undef, undef, undef, undef, undef, undef, undef, undef, undef], defers := [] } W := by
    intro gF gG W bF bG ne hS
    refine hK0 _ _ ?_
    clear hK0 bU bV bT
    have q0 := bF.cell 0; have q1 := bF.cell 1; have q2 := bG.cell 0; have q3 := bG.cell 1
    simp only [List.getElem?_toArray, List.getElem?_cons_zero, List.getElem?_cons_succ] at q0 q1 q2 q3
    by_cases c1 : f1 = 0
    · subst c1
      by_cases c2 : g1 = 0
      · subst c2
        simp at h
        subst h
        go_wp2
        go_ret
        exact ⟨rfl, hS.below⟩
      · simp [c2] at h
        subst h
        have n2 : (g1 == 0) = false := by simp [c2]
        go_wp2
        go_ret
        exact ⟨rfl, hS.below⟩
    · have n1 : (f1 == 0) = false := by simp [c1]
      rw [if_neg c1] at h
      by_cases c2 : g1 = 0
      · subst c2
        simp at h
        subst h
        go_wp2
        go_ret
        exact ⟨rfl, hS.below⟩
      · have n2 : (g1 == 0) = false := by simp [c2]
        rw [if_neg c2] at h
        obtain ⟨⟨x0, x1⟩, hx, h1⟩ := Option.bind_eq_some_iff.mp h
        clear h
        obtain ⟨⟨y0, y1⟩, hy, h⟩ := Option.bind_eq_some_iff.mp h1
        clear h1
        simp only at h
        go_wp2
        rename_i K1 hK1
        have key2 : ∀ (gX gY : Nat) (W2 : World), Blk W2 gX 119 #[.int .i64 x0, .int .u64 x1] → Blk W2 gY 119 #[.int .i64 y0, .int .u64 y1] → gX ≠ gY → Since w.heap.size w W2 →
            K1 { tmps := #[.agg #[.int .i64 a0, .int .i64 a1], .int .i64 wa, .agg #[.int .i64 b0, .int .i64 b1], .int .i64 wb, .agg #[.int .i64 t0, .int .i64 t1], .pointer (some ⟨w.heap.size, 0, none⟩), undef, .pointer (some ⟨w.heap.size + 1, 0, none⟩), undef, .pointer (some ⟨w.heap.size + 1 + 1, 0, none⟩), .int .i64 0, .pointer (some ⟨gF, 0, none⟩), .pointer (some ⟨gG, 0, none⟩), .pointer (some ⟨gX, 0, none⟩), .pointer (some ⟨gY, 0, none⟩), .agg #[.int .i64 a0, .int .i64 a1], .agg #[.int .i64 t0, .int .i64 t1], .agg #[.int .i64 f0, .int .i64 f1], .agg #[.int .i64 b0, .int .i64 b1], .agg #[.int .i64 t0, .int .i64 t1], .agg #[.int .i64 g0, .int .i64 g1], .pointer (some ⟨gF, 1, none⟩), .int .i64 f1, .bool false, .bool false, .pointer (some ⟨gG, 1, none⟩), .int .i64 g1, .bool false, .bool false, undef, undef, undef, undef, undef, undef, undef, undef, undef, undef, undef, undef, undef, .pointer (some ⟨gF, 0, none⟩), .int .i64 f0, .pointer (some ⟨gG, 1, none⟩), .int .i64 g1, .int .i64 wb, .agg #[.int .i64 x0, .int .u64 x1], .pointer (some ⟨gG, 0, none⟩), .int .i64 g0, .pointer (some ⟨gF, 1, none⟩), .int .i64 f1, .int .i64 wa, .agg #[.int .i64 y0, .int .u64 y1], undef, undef, undef, undef, undef, undef, undef, undef], defers := [] } W2 := by
          intro gX gY W2 bX bY ne2 hS
          refine hK1 _ _ ?_
          clear hK1 q0 q1 q2 q3 bF bG
          have q0 := bX.cell 0; have q1 := bX.cell 1; have q2 := bY.cell 0; have q3 := bY.cell 1
          simp only [List.getElem?_toArray, List.getElem?_cons_zero, List.getElem?_cons_succ] at q0 q1 q2 q3
          obtain ⟨t, ht, h1⟩ := Option.bind_eq_some_iff.mp h
          clear h
          cases t
          · rw [if_neg (by decide)] at h1
            obtain ⟨u, hu, h2⟩ := Option.bind_eq_some_iff.mp h1
            clear h1
            cases u
            · simp at h2
              subst h2
              go_wp2_with (first | ((with_reducible refine gate_callee (f := 101) rfl ?_); refine goesL_ (some 57) rfl rfl Try.func101 (by kernel_rfl) rfl #[.agg #[.int .i64 x0, .int .u64 x1], .agg #[.int .i64 y0, .int .u64 y1]] rfl (by (try simp only [List.map_toArray, List.map_cons, List.map_nil]); first | done | rfl) ?_; (with_reducible refine (PNum.furlongref01_Less.calls x0 x1 y0 y1 _ _ ht).mono ?_); rintro e w9 ⟨rfl, hb⟩; refine ⟨_, rfl, ?_⟩; replace hS := hS.call (Nat.le_refl _) hb; replace bX := bX.below hb bX.lt; replace bY := bY.below hb bY.lt; clear hb q0 q1 q2 q3; have q0 := bX.cell 0; have q1 := bX.cell 1; have q2 := bY.cell 0; have q3 := bY.cell 1; simp only [List.getElem?_toArray, List.getElem?_cons_zero, List.getElem?_cons_succ] at q0 q1 q2 q3) | ((with_reducible refine gate_callee (f := 101) rfl ?_); refine goesL_ (some 61) rfl rfl Try.func101 (by kernel_rfl) rfl #[.agg #[.int .i64 y0, .int .u64 y1], .agg #[.int .i64 x0, .int .u64 x1]] rfl (by (try simp only [List.map_toArray, List.map_cons, List.map_nil]); first | done | rfl) ?_; (with_reducible refine (PNum.furlongref01_Less.calls y0 y1 x0 x1 _ _ hu).mono ?_); rintro e w9 ⟨rfl, hb⟩; refine ⟨_, rfl, ?_⟩; replace hS := hS.call (Nat.le_refl _) hb; replace bX := bX.below hb bX.lt; replace bY := bY.below hb bY.lt; clear hb q0 q1 q2 q3; have q0 := bX.cell 0; have q1 := bX.cell 1; have q2 := bY.cell 0; have q3 := bY.cell 1; simp only [List.getElem?_toArray, List.getElem?_cons_zero, List.getElem?_cons_succ] at q0 q1 q2 q3))
              go_ret
              exact ⟨rfl, hS.below⟩
            · simp at h2
              subst h2
              go_wp2_with (first | ((with_reducible refine gate_callee (f := 101) rfl ?_); refine goesL_ (some 57) rfl rfl Try.func101 (by kernel_rfl) rfl #[.agg #[.int .i64 x0, .int .u64 x1], .agg #[.int .i64 y0, .int .u64 y1]] rfl (by (try simp only [List.map_toArray, List.map_cons, List.map_nil]); first | done | rfl) ?_; (with_reducible refine (PNum.furlongref01_Less.calls x0 x1 y0 y1 _ _ ht).mono ?_); rintro e w9 ⟨rfl, hb⟩; refine ⟨_, rfl, ?_⟩; replace hS := hS.call (Nat.le_refl _) hb; replace bX := bX.below hb bX.lt; replace bY := bY.below hb bY.lt; clear hb q0 q1 q2 q3; have q0 := bX.cell 0; have q1 := bX.cell 1; have q2 := bY.cell 0; have q3 := bY.cell 1; simp only [List.getElem?_toArray, List.getElem?_cons_zero, List.getElem?_cons_succ] at q0 q1 q2 q3) | ((with_reducible refine gate_callee (f := 101) rfl ?_); refine goesL_ (some 61) rfl rfl Try.func101 (by kernel_rfl) rfl #[.agg #[.int .i64 y0, .int .u64 y1], .agg #[.int .i64 x0, .int .u64 x1]] rfl (by (try simp only [List.map_toArray, List.map_cons, List.map_nil]); first | done | rfl) ?_; (with_reducible refine (PNum.furlongref01_Less.calls y0 y1 x0 x1 _ _ hu).mono ?_); rintro e w9 ⟨rfl, hb⟩; refine ⟨_, rfl, ?_⟩; replace hS := hS.call (Nat.le_refl _) hb; replace bX := bX.below hb bX.lt; replace bY := bY.below hb bY.lt; clear hb q0 q1 q2 q3; have q0 := bX.cell 0; have q1 := bX.cell 1; have q2 := bY.cell 0; have q3 := bY.cell 1; simp only [List.getElem?_toArray, List.getElem?_cons_zero, List.getElem?_cons_succ] at q0 q1 q2 q3))
              go_ret
              exact ⟨rfl, hS.below⟩
          · simp at h1
            subst h1
            go_wp2_with (((with_reducible refine gate_callee (f := 101) rfl ?_); refine goesL_ (some 57) rfl rfl Try.func101 (by kernel_rfl) rfl #[.agg #[.int .i64 x0, .int .u64 x1], .agg #[.int .i64 y0, .int .u64 y1]] rfl (by (try simp only [List.map_toArray, List.map_cons, List.map_nil]); first | done | rfl) ?_; (with_reducible refine (PNum.furlongref01_Less.calls x0 x1 y0 y1 _ _ ht).mono ?_); rintro e w9 ⟨rfl, hb⟩; refine ⟨_, rfl, ?_⟩; replace hS := hS.call (Nat.le_refl _) hb; replace bX := bX.below hb bX.lt; replace bY := bY.below hb bY.lt; clear hb q0 q1 q2 q3; have q0 := bX.cell 0; have q1 := bX.cell 1; have q2 := bY.cell 0; have q3 := bY.cell 1; simp only [List.getElem?_toArray, List.getElem?_cons_zero, List.getElem?_cons_succ] at q0 q1 q2 q3))
            go_ret
            exact ⟨rfl, hS.below⟩
        clear hK1 q0 q1 q2 q3
        have sq0 := bF.lt
        have sq1 := bG.lt
        have hnW := Nat.le_trans hsz hS.others.size
        refine regInv (n := 16) (fun d a w' => ∃ z : Nat → Value, a = { tmps := #[.agg #[.int .i64 a0, .int .i64 a1], .int .i64 wa, .agg #[.int .i64 b0, .int .i64 b1], .int .i64 wb, .agg #[.int .i64 t0, .int .i64 t1], .pointer (some ⟨w.heap.size, 0, none⟩), undef, .pointer (some ⟨w.heap.size + 1, 0, none⟩), undef, .pointer (some ⟨w.heap.size + 1 + 1, 0, none⟩), .int .i64 0, .pointer (some ⟨gF, 0, none⟩), .pointer (some ⟨gG, 0, none⟩), (z 12), (z 13), .agg #[.int .i64 a0, .int .i64 a1], .agg #[.int .i64 t0, .int .i64 t1], .agg #[.int .i64 f0, .int .i64 f1], .agg #[.int .i64 b0, .int .i64 b1], .agg #[.int .i64 t0, .int .i64 t1], .agg #[.int .i64 g0, .int .i64 g1], .pointer (some ⟨gF, 1, none⟩), .int .i64 f1, .bool false, .bool false, .pointer (some ⟨gG, 1, none⟩), .int .i64 g1, .bool false, .bool false, undef, undef, undef, undef, undef, undef, undef, undef, undef, undef, undef, undef, undef, (z 0), (z 1), (z 2), (z 3), (z 4), (z 5), (z 6), (z 7), (z 8), (z 9), (z 10), (z 11), undef, undef, undef, undef, undef, undef, undef, undef], defers := [] } ∧ Vals [some (.pointer (some ⟨gF, 0, none⟩)), some (.int .i64 f0), some (.pointer (some ⟨gG, 1, none⟩)), some (.int .i64 g1), some (.int .i64 wb), some (.agg #[.int .i64 x0, .int .u64 x1]), some (.pointer (some ⟨gG, 0, none⟩)), some (.int .i64 g0), some (.pointer (some ⟨gF, 1, none⟩)), some (.int .i64 f1), some (.int .i64 wa), some (.agg #[.int .i64 y0, .int .u64 y1]), none, none, none, none] d z ∧ Blk w' (gF) 97 #[.int .i64 f0, .int .i64 f1] ∧ Blk w' (gG) 97 #[.int .i64 g0, .int .i64 g1] ∧ New d z w' W.heap.size 12 14 (fun g => .pointer (some ⟨g, 0, none⟩)) 119 (fun b => cond b #[.int .i64 x0, .int .u64 x1] #[.int .i64 0, .int .u64 0]) ∧ New d z w' W.heap.size 13 15 (fun g => .pointer (some ⟨g, 0, none⟩)) 119 (fun b => cond b #[.int .i64 y0, .int .u64 y1] #[.int .i64 0, .int .u64 0]) ∧ (d 12 = true → d 13 = true → ∀ g g', z 12 = .pointer (some ⟨g, 0, none⟩) → z 13 = .pointer (some ⟨g', 0, none⟩) → g ≠ g') ∧ Since (w.heap.size) w w' ∧ W.heap.size ≤ w'.heap.size) (by kernel_rfl) rfl (by kernel_rfl) ?_ ?_ ?_
        · intro d hd
          exact ⟨fun k => undef, rfl, Vals.start (Nat.le_refl _) hd, bF.drew, bG.drew, New.start (by decide) hd, New.start (by decide) hd, no_start hd 12 (by decide), hS.drew, Nat.le_refl _⟩
        · refine (((((((((((((((Steps.succ Steps.zero ?_).succ ?_).succ ?_).succ ?_).succ ?_).succ ?_).succ ?_).succ ?_).succ ?_).succ ?_).succ ?_).succ ?_).succ ?_).succ ?_).succ ?_).succ ?_
          · refine stepAt (i := 0) (N := some 42) (by kernel_rfl) (by rfl) rfl [] [] (by kernel_rfl) ?_
            rintro d _ w' hj hn ⟨z, rfl, hv, mq0, mq1, nq12, nq13, pq12_13, hS, hz⟩ K hK
            refine value_ (v := .pointer (some ⟨gF, 0, none⟩)) (w1 := w') (by rfl) rfl (by first | (go_simp; done) | (go_simp; rfl)) ?_
            exact hK.out _ _ ⟨upd z 0 (.pointer (some ⟨gF, 0, none⟩)), by first | rfl | (simp only [Act.put, List.setIfInBounds_toArray, List.set_cons_zero, List.set_cons_succ]; rfl), hv.put (fun u h => Option.some.inj (Option.some.inj h)), mq0, mq1, nq12.put rfl (Below.refl _ _) _, nq13.put rfl (Below.refl _ _) _, pq12_13, hS, hz⟩
          · refine stepAt (i := 1) (N := some 43) (by kernel_rfl) (by rfl) rfl [0] [] (by kernel_rfl) ?_
            rintro d _ w' hj hn ⟨z, rfl, hv, mq0, mq1, nq12, nq13, pq12_13, hS, hz⟩ K hK
            have eq0 := hv 0 _ rfl (hj 0 (by decide))
            have q0 := mq0.cell 0
            simp only [List.getElem?_toArray, List.getElem?_cons_zero, List.getElem?_cons_succ] at q0
            refine value_ (v := .int .i64 f0) (w1 := w') (by rfl) rfl (by first | (go_simp; done) | (go_simp; rfl) | (simp only [eq0]; go_simp; done) | (go_simp; simp only [eq0]; go_simp; done)) ?_
            exact hK.out _ _ ⟨upd z 1 (.int .i64 f0), by first | rfl | (simp only [Act.put, List.setIfInBounds_toArray, List.set_cons_zero, List.set_cons_succ]; rfl), hv.put (fun u h => Option.some.inj (Option.some.inj h)), mq0, mq1, nq12.put rfl (Below.refl _ _) _, nq13.put rfl (Below.refl _ _) _, pq12_13, hS, hz⟩
          · refine stepAt (i := 2) (N := some 44) (by kernel_rfl) (by rfl) rfl [] [] (by kernel_rfl) ?_
            rintro d _ w' hj hn ⟨z, rfl, hv, mq0, mq1, nq12, nq13, pq12_13, hS, hz⟩ K hK
            refine value_ (v := .pointer (some ⟨gG, 1, none⟩)) (w1 := w') (by rfl) rfl (by first | (go_simp; done) | (go_simp; rfl)) ?_
            exact hK.out _ _ ⟨upd z 2 (.pointer (some ⟨gG, 1, none⟩)), by first | rfl | (simp only [Act.put, List.setIfInBounds_toArray, List.set_cons_zero, List.set_cons_succ]; rfl), hv.put (fun u h => Option.some.inj (Option.some.inj h)), mq0, mq1, nq12.put rfl (Below.refl _ _) _, nq13.put rfl (Below.refl _ _) _, pq12_13, hS, hz⟩
          · refine stepAt (i := 3) (N := some 45) (by kernel_rfl) (by rfl) rfl [2] [] (by kernel_rfl) ?_
            rintro d _ w' hj hn ⟨z, rfl, hv, mq0, mq1, nq12, nq13, pq12_13, hS, hz⟩ K hK
            have eq2 := hv 2 _ rfl (hj 2 (by decide))
            have q0 := mq1.cell 1
            simp only [List.getElem?_toArray, List.getElem?_cons_zero, List.getElem?_cons_succ] at q0
            refine value_ (v := .int .i64 g1) (w1 := w') (by rfl) rfl (by first | (go_simp; done) | (go_simp; rfl) | (simp only [eq2]; go_simp; done) | (go_simp; simp only [eq2]; go_simp; done)) ?_
            exact hK.out _ _ ⟨upd z 3 (.int .i64 g1), by first | rfl | (simp only [Act.put, List.setIfInBounds_toArray, List.set_cons_zero, List.set_cons_succ]; rfl), hv.put (fun u h => Option.some.inj (Option.some.inj h)), mq0, mq1, nq12.put rfl (Below.refl _ _) _, nq13.put rfl (Below.refl _ _) _, pq12_13, hS, hz⟩
          · refine stepAt (i := 4) (N := some 46) (by kernel_rfl) (by rfl) rfl [] [] (by kernel_rfl) ?_
            rintro d _ w' hj hn ⟨z, rfl, hv, mq0, mq1, nq12, nq13, pq12_13, hS, hz⟩ K hK
            refine value_ (v := .int .i64 wb) (w1 := w') (by rfl) rfl (by first | (go_simp; done) | (go_simp; rfl)) ?_
            exact hK.out _ _ ⟨upd z 4 (.int .i64 wb), by first | rfl | (simp only [Act.put, List.setIfInBounds_toArray, List.set_cons_zero, List.set_cons_succ]; rfl), hv.put (fun u h => Option.some.inj (Option.some.inj h)), mq0, mq1, nq12.put rfl (Below.refl _ _) _, nq13.put rfl (Below.refl _ _) _, pq12_13, hS, hz⟩
          · refine stepAt (i := 5) (N := some 47) (by kernel_rfl) (by rfl) rfl [0, 1, 2, 3, 4] [] (by kernel_rfl) ?_
            rintro d _ w' hj hn ⟨z, rfl, hv, mq0, mq1, nq12, nq13, pq12_13, hS, hz⟩ K hK
            have eq1 := hv 1 _ rfl (hj 1 (by decide))
            have eq3 := hv 3 _ rfl (hj 3 (by decide))
            have eq4 := hv 4 _ rfl (hj 4 (by decide))
            refine goes_ Try.func123 (by kernel_rfl) rfl #[z 1, z 3, z 4] (by rfl) rfl rfl (by (try simp only [List.map_toArray, List.map_cons, List.map_nil]); first | done | rfl) ?_
            rw [show (#[z 1, z 3, z 4] : Array Value) = #[.int .i64 f0, .int .i64 g1, .int .i64 wb] from by simp only [eq1, eq3, eq4]]
            refine (furlongref02_times.calls k f0 g1 wb x0 x1 _ hx).mono ?_
            rintro e_ w9 ⟨rfl, hb⟩
            refine ⟨_, rfl, ?_⟩
            exact hK.out _ _ ⟨upd z 5 (.agg #[.int .i64 x0, .int .u64 x1]), by first | rfl | (simp only [Act.put, List.setIfInBounds_toArray, List.set_cons_zero, List.set_cons_succ]; rfl), hv.put (fun u h => Option.some.inj (Option.some.inj h)), mq0.below hb mq0.lt, mq1.below hb mq1.lt, nq12.put rfl hb _, nq13.put rfl hb _, pq12_13, hS.call hsz hb, Nat.le_trans hz hb.size⟩
          · refine stepAt (i := 6) (N := some 48) (by kernel_rfl) (by rfl) rfl [] [] (by kernel_rfl) ?_
            rintro d _ w' hj hn ⟨z, rfl, hv, mq0, mq1, nq12, nq13, pq12_13, hS, hz⟩ K hK
            refine value_ (v := .pointer (some ⟨gG, 0, none⟩)) (w1 := w') (by rfl) rfl (by first | (go_simp; done) | (go_simp; rfl)) ?_
            exact hK.out _ _ ⟨upd z 6 (.pointer (some ⟨gG, 0, none⟩)), by first | rfl | (simp only [Act.put, List.setIfInBounds_toArray, List.set_cons_zero, List.set_cons_succ]; rfl), hv.put (fun u h => Option.some.inj (Option.some.inj h)), mq0, mq1, nq12.put rfl (Below.refl _ _) _, nq13.put rfl (Below.refl _ _) _, pq12_13, hS, hz⟩
          · refine stepAt (i := 7) (N := some 49) (by kernel_rfl) (by rfl) rfl [6] [] (by kernel_rfl) ?_
            rintro d _ w' hj hn ⟨z, rfl, hv, mq0, mq1, nq12, nq13, pq12_13, hS, hz⟩ K hK
            have eq6 := hv 6 _ rfl (hj 6 (by decide))
            have q0 := mq1.cell 0
            simp only [List.getElem?_toArray, List.getElem?_cons_zero, List.getElem?_cons_succ] at q0
            refine value_ (v := .int .i64 g0) (w1 := w') (by rfl) rfl (by first | (go_simp; done) | (go_simp; rfl) | (simp only [eq6]; go_simp; done) | (go_simp; simp only [eq6]; go_simp; done)) ?_
            exact hK.out _ _ ⟨upd z 7 (.int .i64 g0), by first | rfl | (simp only [Act.put, List.setIfInBounds_toArray, List.set_cons_zero, List.set_cons_succ]; rfl), hv.put (fun u h => Option.some.inj (Option.some.inj h)), mq0, mq1, nq12.put rfl (Below.refl _ _) _, nq13.put rfl (Below.refl _ _) _, pq12_13, hS, hz⟩
          · refine stepAt (i := 8) (N := some 50) (by kernel_rfl) (by rfl) rfl [] [] (by kernel_rfl) ?_
            rintro d _ w' hj hn ⟨z, rfl, hv, mq0, mq1, nq12, nq13, pq12_13, hS, hz⟩ K hK
            refine value_ (v := .pointer (some ⟨gF, 1, none⟩)) (w1 := w') (by rfl) rfl (by first | (go_simp; done) | (go_simp; rfl)) ?_
            exact hK.out _ _ ⟨upd z 8 (.pointer (some ⟨gF, 1, none⟩)), by first | rfl | (simp only [Act.put, List.setIfInBounds_toArray, List.set_cons_zero, List.set_cons_succ]; rfl), hv.put (fun u h => Option.some.inj (Option.some.inj h)), mq0, mq1, nq12.put rfl (Below.refl _ _) _, nq13.put rfl (Below.refl _ _) _, pq12_13, hS, hz⟩
          · refine stepAt (i := 9) (N := some 51) (by kernel_rfl) (by rfl) rfl [8] [] (by kernel_rfl) ?_
            rintro d _ w' hj hn ⟨z, rfl, hv, mq0, mq1, nq12, nq13, pq12_13, hS, hz⟩ K hK
            have eq8 := hv 8 _ rfl (hj 8 (by decide))
            have q0 := mq0.cell 1
            simp only [List.getElem?_toArray, List.getElem?_cons_zero, List.getElem?_cons_succ] at q0
            refine value_ (v := .int .i64 f1) (w1 := w') (by rfl) rfl (by first | (go_simp; done) | (go_simp; rfl) | (simp only [eq8]; go_simp; done) | (go_simp; simp only [eq8]; go_simp; done)) ?_
            exact hK.out _ _ ⟨upd z 9 (.int .i64 f1), by first | rfl | (simp only [Act.put, List.setIfInBounds_toArray, List.set_cons_zero, List.set_cons_succ]; rfl), hv.put (fun u h => Option.some.inj (Option.some.inj h)), mq0, mq1, nq12.put rfl (Below.refl _ _) _, nq13.put rfl (Below.refl _ _) _, pq12_13, hS, hz⟩
          · refine stepAt (i := 10) (N := some 52) (by kernel_rfl) (by rfl) rfl [] [] (by kernel_rfl) ?_
            rintro d _ w' hj hn ⟨z, rfl, hv, mq0, mq1, nq12, nq13, pq12_13, hS, hz⟩ K hK
            refine value_ (v := .int .i64 wa) (w1 := w') (by rfl) rfl (by first | (go_simp; done) | (go_simp; rfl)) ?_
            exact hK.out _ _ ⟨upd z 10 (.int .i64 wa), by first | rfl | (simp only [Act.put, List.setIfInBounds_toArray, List.set_cons_zero, List.set_cons_succ]; rfl), hv.put (fun u h => Option.some.inj (Option.some.inj h)), mq0, mq1, nq12.put rfl (Below.refl _ _) _, nq13.put rfl (Below.refl _ _) _, pq12_13, hS, hz⟩
          · refine stepAt (i := 11) (N := some 53) (by kernel_rfl) (by rfl) rfl [0, 1, 2, 3, 4, 5, 6, 7, 8, 9, 10] [] (by kernel_rfl) ?_
            rintro d _ w' hj hn ⟨z, rfl, hv, mq0, mq1, nq12, nq13, pq12_13, hS, hz⟩ K hK
            have eq7 := hv 7 _ rfl (hj 7 (by decide))
            have eq9 := hv 9 _ rfl (hj 9 (by decide))
            have eq10 := hv 10 _ rfl (hj 10 (by decide))
            refine goes_ Try.func123 (by kernel_rfl) rfl #[z 7, z 9, z 10] (by rfl) rfl rfl (by (try simp only [List.map_toArray, List.map_cons, List.map_nil]); first | done | rfl) ?_
            rw [show (#[z 7, z 9, z 10] : Array Value) = #[.int .i64 g0, .int .i64 f1, .int .i64 wa] from by simp only [eq7, eq9, eq10]]
            refine (furlongref02_times.calls k g0 f1 wa y0 y1 _ hy).mono ?_
            rintro e_ w9 ⟨rfl, hb⟩
            refine ⟨_, rfl, ?_⟩
            exact hK.out _ _ ⟨upd z 11 (.agg #[.int .i64 y0, .int .u64 y1]), by first | rfl | (simp only [Act.put, List.setIfInBounds_toArray, List.set_cons_zero, List.set_cons_succ]; rfl), hv.put (fun u h => Option.some.inj (Option.some.inj h)), mq0.below hb mq0.lt, mq1.below hb mq1.lt, nq12.put rfl hb _, nq13.put rfl hb _, pq12_13, hS.call hsz hb, Nat.le_trans hz hb.size⟩
          · refine stepAt (i := 12) (N := some 13) (by kernel_rfl) (by rfl) rfl [] [14, 15] (by kernel_rfl) ?_
            rintro d _ w' hj hn ⟨z, rfl, hv, mq0, mq1, nq12, nq13, pq12_13, hS, hz⟩ K hK
            refine box_step (by rfl) (N := 13) rfl (cs := #[.int .i64 0, .int .u64 0]) (t := 119) (by first | (go_simp; done) | (go_simp; rfl)) ?_
            intro g hg w9 hb' hb
            change Blk _ _ _ _ at hb'
            have hgz : W.heap.size ≤ g := hg ▸ hz
            exact hK.out _ _ ⟨upd z 12 (.pointer (some ⟨g, 0, none⟩)), by first | rfl | (simp only [Act.put, List.setIfInBounds_toArray, List.set_cons_zero, List.set_cons_succ]; rfl), hv.put (fun u h => by cases h), mq0.below hb mq0.lt, mq1.below hb mq1.lt, New.mk (v := fun g => .pointer (some ⟨g, 0, none⟩)) hgz (by rw [up_ne rfl, hn 14 (by decide)]; exact hb'), nq13.put rfl hb _, fun h1 h2 g1 g2 e1 e2 => by have hu := upd_self z 12 (.pointer (some ⟨g, 0, none⟩)); obtain ⟨g3, e3, _, b3⟩ := nq13 h2; have hlt3 := b3.lt; rw [hu] at e1; have e4 := (show z 13 = _ from e2).symm.trans e3; simp at e4 e1; omega, hS.call hsz hb, Nat.le_trans hz hb.size⟩
          · refine stepAt (i := 13) (N := some 14) (by kernel_rfl) (by rfl) rfl [] [14, 15] (by kernel_rfl) ?_
            rintro d _ w' hj hn ⟨z, rfl, hv, mq0, mq1, nq12, nq13, pq12_13, hS, hz⟩ K hK
            refine box_step (by rfl) (N := 14) rfl (cs := #[.int .i64 0, .int .u64 0]) (t := 119) (by first | (go_simp; done) | (go_simp; rfl)) ?_
            intro g hg w9 hb' hb
            change Blk _ _ _ _ at hb'
            have hgz : W.heap.size ≤ g := hg ▸ hz
            exact hK.out _ _ ⟨upd z 13 (.pointer (some ⟨g, 0, none⟩)), by first | rfl | (simp only [Act.put, List.setIfInBounds_toArray, List.set_cons_zero, List.set_cons_succ]; rfl), hv.put (fun u h => by cases h), mq0.below hb mq0.lt, mq1.below hb mq1.lt, nq12.put rfl hb _, New.mk (v := fun g => .pointer (some ⟨g, 0, none⟩)) hgz (by rw [up_ne rfl, hn 15 (by decide)]; exact hb'), fun h1 h2 g1 g2 e1 e2 => by have hu := upd_self z 13 (.pointer (some ⟨g, 0, none⟩)); obtain ⟨g3, e3, _, b3⟩ := nq12 h1; have hlt3 := b3.lt; rw [hu] at e2; have e4 := (show z 12 = _ from e1).symm.trans e3; simp at e4 e2; omega, hS.call hsz hb, Nat.le_trans hz hb.size⟩
          · refine stepAt (i := 14) (N := none) (by kernel_rfl) (by rfl) rfl [0, 1, 2, 3, 4, 5, 6, 7, 8, 9, 10, 11, 12, 13] [] (by kernel_rfl) ?_
            rintro d _ w' hj hn ⟨z, rfl, hv, mq0, mq1, nq12, nq13, pq12_13, hS, hz⟩ K hK
            have eq5 := hv 5 _ rfl (hj 5 (by decide))
            obtain ⟨gq12, eq12, lq12, bq12⟩ := nq12 (hj 12 (by decide))
            rw [hn 14 (by decide)] at bq12
            change Blk _ _ _ #[.int .i64 0, .int .u64 0] at bq12
            have hb0 := bq12
            have q0 := hb0.cell 0; have r0 := hb0.frozen 0
            have q1 := hb0.cell 1; have r1 := hb0.frozen 1
            simp only [List.getElem?_toArray, List.getElem?_cons_zero, List.getElem?_cons_succ] at q0 q1
            refine skip_ (w1 := (World.setCell (World.setCell w' ⟨gq12, 0, none⟩ (.int .i64 x0)) ⟨gq12, 1, none⟩ (.int .u64 x1))) (by rfl) rfl (by first | (go_simp; done) | (go_simp; rfl) | (simp only [eq5, eq12]; go_simp; done) | (go_simp; simp only [eq5, eq12]; go_simp; done)) ?_
            have hb' := ((hb0.set 0 (.int .i64 x0) (by simp)).set 1 (.int .u64 x1) (by simp))
            change Blk _ _ _ #[.int .i64 x0, .int .u64 x1] at hb'
            have hS' := ((hS.set ⟨gq12, 0, none⟩ (by simp <;> omega) (.int .i64 x0)).set ⟨gq12, 1, none⟩ (by simp <;> omega) (.int .u64 x1))
            have hz' : W.heap.size ≤ ((World.setCell (World.setCell w' ⟨gq12, 0, none⟩ (.int .i64 x0)) ⟨gq12, 1, none⟩ (.int .u64 x1))).heap.size := by simpa using hz
            exact hK.out _ _ ⟨z, rfl, hv.skip rfl, ((mq0.other (a := ⟨gq12, 0, none⟩) (by simp <;> omega) (.int .i64 x0)).other (a := ⟨gq12, 1, none⟩) (by simp <;> omega) (.int .u64 x1)), ((mq1.other (a := ⟨gq12, 0, none⟩) (by simp <;> omega) (.int .i64 x0)).other (a := ⟨gq12, 1, none⟩) (by simp <;> omega) (.int .u64 x1)), fun _ => ⟨gq12, eq12, lq12, hb'⟩, ((nq13.skip (k := 14) rfl (p := ⟨gq12, 0, none⟩) (u := .int .i64 x0) (fun g_ h1 h2 h3 => fun h4 => pq12_13 (hj 12 (by decide)) h3 _ _ eq12 h1 h4.symm)).also (p := ⟨gq12, 1, none⟩) (u := .int .u64 x1) (fun g_ h1 h2 h3 => fun h4 => pq12_13 (hj 12 (by decide)) h3 _ _ eq12 h1 h4.symm)), pq12_13, hS', hz'⟩
          · refine stepAt (i := 15) (N := none) (by kernel_rfl) (by rfl) rfl [0, 1, 2, 3, 4, 5, 6, 7, 8, 9, 10, 11, 12, 13, 14] [] (by kernel_rfl) ?_
            rintro d _ w' hj hn ⟨z, rfl, hv, mq0, mq1, nq12, nq13, pq12_13, hS, hz⟩ K hK
            have eq11 := hv 11 _ rfl (hj 11 (by decide))
            obtain ⟨gq13, eq13, lq13, bq13⟩ := nq13 (hj 13 (by decide))
            rw [hn 15 (by decide)] at bq13
            change Blk _ _ _ #[.int .i64 0, .int .u64 0] at bq13
            have hb0 := bq13
            have q0 := hb0.cell 0; have r0 := hb0.frozen 0
            have q1 := hb0.cell 1; have r1 := hb0.frozen 1
            simp only [List.getElem?_toArray, List.getElem?_cons_zero, List.getElem?_cons_succ] at q0 q1
            refine skip_ (w1 := (World.setCell (World.setCell w' ⟨gq13, 0, none⟩ (.int .i64 y0)) ⟨gq13, 1, none⟩ (.int .u64 y1))) (by rfl) rfl (by first | (go_simp; done) | (go_simp; rfl) | (simp only [eq11, eq13]; go_simp; done) | (go_simp; simp only [eq11, eq13]; go_simp; done)) ?_
            have hb' := ((hb0.set 0 (.int .i64 y0) (by simp)).set 1 (.int .u64 y1) (by simp))
            change Blk _ _ _ #[.int .i64 y0, .int .u64 y1] at hb'
            have hS' := ((hS.set ⟨gq13, 0, none⟩ (by simp <;> omega) (.int .i64 y0)).set ⟨gq13, 1, none⟩ (by simp <;> omega) (.int .u64 y1))
            have hz' : W.heap.size ≤ ((World.setCell (World.setCell w' ⟨gq13, 0, none⟩ (.int .i64 y0)) ⟨gq13, 1, none⟩ (.int .u64 y1))).heap.size := by simpa using hz
            exact hK.out _ _ ⟨z, rfl, hv.skip rfl, ((mq0.other (a := ⟨gq13, 0, none⟩) (by simp <;> omega) (.int .i64 y0)).other (a := ⟨gq13, 1, none⟩) (by simp <;> omega) (.int .u64 y1)), ((mq1.other (a := ⟨gq13, 0, none⟩) (by simp <;> omega) (.int .i64 y0)).other (a := ⟨gq13, 1, none⟩) (by simp <;> omega) (.int .u64 y1)), ((nq12.skip (k := 15) rfl (p := ⟨gq13, 0, none⟩) (u := .int .i64 y0) (fun g_ h1 h2 h3 => pq12_13 h3 (hj 13 (by decide)) _ _ h1 eq13)).also (p := ⟨gq13, 1, none⟩) (u := .int .u64 y1) (fun g_ h1 h2 h3 => pq12_13 h3 (hj 13 (by decide)) _ _ h1 eq13)), fun _ => ⟨gq13, eq13, lq13, hb'⟩, pq12_13, hS', hz'⟩
        rintro d _ w' hd ⟨z, rfl, hv, mq0, mq1, nq12, nq13, pq12_13, hS, hz⟩
        have eq0 := hv 0 _ rfl (hd 0 (by decide))
        have eq1 := hv 1 _ rfl (hd 1 (by decide))
        have eq2 := hv 2 _ rfl (hd 2 (by decide))
        have eq3 := hv 3 _ rfl (hd 3 (by decide))
        have eq4 := hv 4 _ rfl (hd 4 (by decide))
        have eq5 := hv 5 _ rfl (hd 5 (by decide))
        have eq6 := hv 6 _ rfl (hd 6 (by decide))
        have eq7 := hv 7 _ rfl (hd 7 (by decide))
        have eq8 := hv 8 _ rfl (hd 8 (by decide))
        have eq9 := hv 9 _ rfl (hd 9 (by decide))
        have eq10 := hv 10 _ rfl (hd 10 (by decide))
        have eq11 := hv 11 _ rfl (hd 11 (by decide))
        obtain ⟨gq12, eq12, lq12, bq12⟩ := nq12 (hd 12 (by decide))
        rw [hd 14 (by decide)] at bq12
        change Blk _ _ _ #[.int .i64 x0, .int .u64 x1] at bq12
        clear nq12
        obtain ⟨gq13, eq13, lq13, bq13⟩ := nq13 (hd 13 (by decide))
        rw [hd 15 (by decide)] at bq13
        change Blk _ _ _ #[.int .i64 y0, .int .u64 y1] at bq13
        clear nq13
        replace pq12_13 := pq12_13 (hd 12 (by decide)) (hd 13 (by decide)) _ _ eq12 eq13
        simp only [eq0, eq1, eq2, eq3, eq4, eq5, eq6, eq7, eq8, eq9, eq10, eq11, eq12, eq13]
        clear eq0 eq1 eq2 eq3 eq4 eq5 eq6 eq7 eq8 eq9 eq10 eq11 eq12 eq13 hv hd z
        exact key2 gq12 gq13 _ bq12 bq13 pq12_13 hS
  have sq0 := bU.lt
  have sq1 := bV.lt
  have sq2 := bT.lt
  have hnW := Nat.le_trans hsz hS.others.size
  refine regInv (n := 10) (fun d a w' => ∃ z : Nat → Value, a = { tmps := #[.agg #[.int .i64 a0, .int .i64 a1], .int .i64 wa, .agg #[.int .i64 b0, .int .i64 b1], .int .i64 wb, .agg #[.int .i64 t0, .int .i64 t1], .pointer (some ⟨w.heap.size, 0, none⟩), undef, .pointer (some ⟨w.heap.size + 1, 0, none⟩), undef, .pointer (some ⟨w.heap.size + 1 + 1, 0, none⟩), .int .i64 0, (z 6), (z 7), undef, undef, (z 0), (z 1), (z 2), (z 3), (z 4), (z 5), undef, undef, undef, undef, undef, undef, undef, undef, undef, undef, undef, undef, undef, undef, undef, undef, undef, undef, undef, undef, undef, undef, undef, undef, undef, undef, undef, undef, undef, undef, undef, undef, undef, undef, undef, undef, undef, undef, undef, undef, undef], defers := [] } ∧ Vals [some (.agg #[.int .i64 a0, .int .i64 a1]), some (.agg #[.int .i64 t0, .int .i64 t1]), some (.agg #[.int .i64 f0, .int .i64 f1]), some (.agg #[.int .i64 b0, .int .i64 b1]), some (.agg #[.int .i64 t0, .int .i64 t1]), some (.agg #[.int .i64 g0, .int .i64 g1]), none, none, none, none] d z ∧ Blk w' (w.heap.size) 25 #[.int .i64 a0, .int .i64 a1] ∧ Blk w' (w.heap.size + 1) 25 #[.int .i64 b0, .int .i64 b1] ∧ Blk w' (w.heap.size + 1 + 1) 25 #[.int .i64 t0, .int .i64 t1] ∧ New d z w' W0.heap.size 6 8 (fun g => .pointer (some ⟨g, 0, none⟩)) 97 (fun b => cond b #[.int .i64 f0, .int .i64 f1] #[.int .i64 0, .int .i64 0]) ∧ New d z w' W0.heap.size 7 9 (fun g => .pointer (some ⟨g, 0, none⟩)) 97 (fun b => cond b #[.int .i64 g0, .int .i64 g1] #[.int .i64 0, .int .i64 0]) ∧ (d 6 = true → d 7 = true → ∀ g g', z 6 = .pointer (some ⟨g, 0, none⟩) → z 7 = .pointer (some ⟨g', 0, none⟩) → g ≠ g') ∧ Since (w.heap.size) w w' ∧ W0.heap.size ≤ w'.heap.size) (by kernel_rfl) rfl (by kernel_rfl) ?_ ?_ ?_
  · intro d hd
    exact ⟨fun k => undef, rfl, Vals.start (Nat.le_refl _) hd, bU.drew, bV.drew, bT.drew, New.start (by decide) hd, New.start (by decide) hd, no_start hd 6 (by decide), hS.drew, Nat.le_refl _⟩
  · refine (((((((((Steps.succ Steps.zero ?_).succ ?_).succ ?_).succ ?_).succ ?_).succ ?_).succ ?_).succ ?_).succ ?_).succ ?_
    · refine stepAt (i := 0) (N := some 15) (by kernel_rfl) (by rfl) rfl [] [] (by kernel_rfl) ?_
      rintro d _ w' hj hn ⟨z, rfl, hv, mq0, mq1, mq2, nq6, nq7, pq6_7, hS, hz⟩ K hK
      have q0 := mq0.cell 0
      have q1 := mq0.cell 1
      simp only [List.getElem?_toArray, List.getElem?_cons_zero, List.getElem?_cons_succ] at q0 q1
      refine value_ (v := .agg #[.int .i64 a0, .int .i64 a1]) (w1 := w') (by rfl) rfl (by first | (go_simp; done) | (go_simp; rfl)) ?_
      exact hK.out _ _ ⟨upd z 0 (.agg #[.int .i64 a0, .int .i64 a1]), by first | rfl | (simp only [Act.put, List.setIfInBounds_toArray, List.set_cons_zero, List.set_cons_succ]; rfl), hv.put (fun u h => Option.some.inj (Option.some.inj h)), mq0, mq1, mq2, nq6.put rfl (Below.refl _ _) _, nq7.put rfl (Below.refl _ _) _, pq6_7, hS, hz⟩
    · refine stepAt (i := 1) (N := some 16) (by kernel_rfl) (by rfl) rfl [] [] (by kernel_rfl) ?_
      rintro d _ w' hj hn ⟨z, rfl, hv, mq0, mq1, mq2, nq6, nq7, pq6_7, hS, hz⟩ K hK
      have q0 := mq2.cell 0
      have q1 := mq2.cell 1
      simp only [List.getElem?_toArray, List.getElem?_cons_zero, List.getElem?_cons_succ] at q0 q1
      refine value_ (v := .agg #[.int .i64 t0, .int .i64 t1]) (w1 := w') (by rfl) rfl (by first | (go_simp; done) | (go_simp; rfl)) ?_
      exact hK.out _ _ ⟨upd z 1 (.agg #[.int .i64 t0, .int .i64 t1]), by first | rfl | (simp only [Act.put, List.setIfInBounds_toArray, List.set_cons_zero, List.set_cons_succ]; rfl), hv.put (fun u h => Option.some.inj (Option.some.inj h)), mq0, mq1, mq2, nq6.put rfl (Below.refl _ _) _, nq7.put rfl (Below.refl _ _) _, pq6_7, hS, hz⟩
    · refine stepAt (i := 2) (N := some 17) (by kernel_rfl) (by rfl) rfl [0, 1] [] (by kernel_rfl) ?_
      rintro d _ w' hj hn ⟨z, rfl, hv, mq0, mq1, mq2, nq6, nq7, pq6_7, hS, hz⟩ K hK
      have eq0 := hv 0 _ rfl (hj 0 (by decide))
      have eq1 := hv 1 _ rfl (hj 1 (by decide))
      refine goes_ Try.func88 (by kernel_rfl) rfl #[z 0, z 1] (by rfl) rfl rfl (by (try simp only [List.map_toArray, List.map_cons, List.map_nil]); first | done | rfl) ?_
      rw [show (#[z 0, z 1] : Array Value) = #[.agg #[.int .i64 a0, .int .i64 a1], .agg #[.int .i64 t0, .int .i64 t1]] from by simp only [eq0, eq1]]
      refine (furlongref02_Share.calls a0 a1 t0 t1 f0 f1 _ hf).mono ?_
      rintro e_ w9 ⟨rfl, hb⟩
      refine ⟨_, rfl, ?_⟩
      exact hK.out _ _ ⟨upd z 2 (.agg #[.int .i64 f0, .int .i64 f1]), by first | rfl | (simp only [Act.put, List.setIfInBounds_toArray, List.set_cons_zero, List.set_cons_succ]; rfl), hv.put (fun u h => Option.some.inj (Option.some.inj h)), mq0.below hb mq0.lt, mq1.below hb mq1.lt, mq2.below hb mq2.lt, nq6.put rfl hb _, nq7.put rfl hb _, pq6_7, hS.call hsz hb, Nat.le_trans hz hb.size⟩
    · refine stepAt (i := 3) (N := some 18) (by kernel_rfl) (by rfl) rfl [] [] (by kernel_rfl) ?_
      rintro d _ w' hj hn ⟨z, rfl, hv, mq0, mq1, mq2, nq6, nq7, pq6_7, hS, hz⟩ K hK
      have q0 := mq1.cell 0
      have q1 := mq1.cell 1
      simp only [List.getElem?_toArray, List.getElem?_cons_zero, List.getElem?_cons_succ] at q0 q1
      refine value_ (v := .agg #[.int .i64 b0, .int .i64 b1]) (w1 := w') (by rfl) rfl (by first | (go_simp; done) | (go_simp; rfl)) ?_
      exact hK.out _ _ ⟨upd z 3 (.agg #[.int .i64 b0, .int .i64 b1]), by first | rfl | (simp only [Act.put, List.setIfInBounds_toArray, List.set_cons_zero, List.set_cons_succ]; rfl), hv.put (fun u h => Option.some.inj (Option.some.inj h)), mq0, mq1, mq2, nq6.put rfl (Below.refl _ _) _, nq7.put rfl (Below.refl _ _) _, pq6_7, hS, hz⟩
    · refine stepAt (i := 4) (N := some 19) (by kernel_rfl) (by rfl) rfl [] [] (by kernel_rfl) ?_
      rintro d _ w' hj hn ⟨z, rfl, hv, mq0, mq1, mq2, nq6, nq7, pq6_7, hS, hz⟩ K hK
      have q0 := mq2.cell 0
      have q1 := mq2.cell 1
      simp only [List.getElem?_toArray, List.getElem?_cons_zero, List.getElem?_cons_succ] at q0 q1
      refine value_ (v := .agg #[.int .i64 t0, .int .i64 t1]) (w1 := w') (by rfl) rfl (by first | (go_simp; done) | (go_simp; rfl)) ?_
      exact hK.out _ _ ⟨upd z 4 (.agg #[.int .i64 t0, .int .i64 t1]), by first | rfl | (simp only [Act.put, List.setIfInBounds_toArray, List.set_cons_zero, List.set_cons_succ]; rfl), hv.put (fun u h => Option.some.inj (Option.some.inj h)), mq0, mq1, mq2, nq6.put rfl (Below.refl _ _) _, nq7.put rfl (Below.refl _ _) _, pq6_7, hS, hz⟩
    · refine stepAt (i := 5) (N := some 20) (by kernel_rfl) (by rfl) rfl [0, 1, 2, 3, 4] [] (by kernel_rfl) ?_
      rintro d _ w' hj hn ⟨z, rfl, hv, mq0, mq1, mq2, nq6, nq7, pq6_7, hS, hz⟩ K hK
      have eq3 := hv 3 _ rfl (hj 3 (by decide))
      have eq4 := hv 4 _ rfl (hj 4 (by decide))
      refine goes_ Try.func88 (by kernel_rfl) rfl #[z 3, z 4] (by rfl) rfl rfl (by (try simp only [List.map_toArray, List.map_cons, List.map_nil]); first | done | rfl) ?_
      rw [show (#[z 3, z 4] : Array Value) = #[.agg #[.int .i64 b0, .int .i64 b1], .agg #[.int .i64 t0, .int .i64 t1]] from by simp only [eq3, eq4]]
      refine (furlongref02_Share.calls b0 b1 t0 t1 g0 g1 _ hg).mono ?_
      rintro e_ w9 ⟨rfl, hb⟩
      refine ⟨_, rfl, ?_⟩
      exact hK.out _ _ ⟨upd z 5 (.agg #[.int .i64 g0, .int .i64 g1]), by first | rfl | (simp only [Act.put, List.setIfInBounds_toArray, List.set_cons_zero, List.set_cons_succ]; rfl), hv.put (fun u h => Option.some.inj (Option.some.inj h)), mq0.below hb mq0.lt, mq1.below hb mq1.lt, mq2.below hb mq2.lt, nq6.put rfl hb _, nq7.put rfl hb _, pq6_7, hS.call hsz hb, Nat.le_trans hz hb.size⟩
    · refine stepAt (i := 6) (N := some 11) (by kernel_rfl) (by rfl) rfl [] [8, 9] (by kernel_rfl) ?_
      rintro d _ w' hj hn ⟨z, rfl, hv, mq0, mq1, mq2, nq6, nq7, pq6_7, hS, hz⟩ K hK
      refine box_step (by rfl) (N := 11) rfl (cs := #[.int .i64 0, .int .i64 0]) (t := 97) (by first | (go_simp; done) | (go_simp; rfl)) ?_
      intro g hg w9 hb' hb
      change Blk _ _ _ _ at hb'
      have hgz : W0.heap.size ≤ g := hg ▸ hz
      exact hK.out _ _ ⟨upd z 6 (.pointer (some ⟨g, 0, none⟩)), by first | rfl | (simp only [Act.put, List.setIfInBounds_toArray, List.set_cons_zero, List.set_cons_succ]; rfl), hv.put (fun u h => by cases h), mq0.below hb mq0.lt, mq1.below hb mq1.lt, mq2.below hb mq2.lt, New.mk (v := fun g => .pointer (some ⟨g, 0, none⟩)) hgz (by rw [up_ne rfl, hn 8 (by decide)]; exact hb'), nq7.put rfl hb _, fun h1 h2 g1 g2 e1 e2 => by have hu := upd_self z 6 (.pointer (some ⟨g, 0, none⟩)); obtain ⟨g3, e3, _, b3⟩ := nq7 h2; have hlt3 := b3.lt; rw [hu] at e1; have e4 := (show z 7 = _ from e2).symm.trans e3; simp at e4 e1; omega, hS.call hsz hb, Nat.le_trans hz hb.size⟩
    · refine stepAt (i := 7) (N := some 12) (by kernel_rfl) (by rfl) rfl [] [8, 9] (by kernel_rfl) ?_
      rintro d _ w' hj hn ⟨z, rfl, hv, mq0, mq1, mq2, nq6, nq7, pq6_7, hS, hz⟩ K hK
      refine box_step (by rfl) (N := 12) rfl (cs := #[.int .i64 0, .int .i64 0]) (t := 97) (by first | (go_simp; done) | (go_simp; rfl)) ?_
      intro g hg w9 hb' hb
      change Blk _ _ _ _ at hb'
      have hgz : W0.heap.size ≤ g := hg ▸ hz
      exact hK.out _ _ ⟨upd z 7 (.pointer (some ⟨g, 0, none⟩)), by first | rfl | (simp only [Act.put, List.setIfInBounds_toArray, List.set_cons_zero, List.set_cons_succ]; rfl), hv.put (fun u h => by cases h), mq0.below hb mq0.lt, mq1.below hb mq1.lt, mq2.below hb mq2.lt, nq6.put rfl hb _, New.mk (v := fun g => .pointer (some ⟨g, 0, none⟩)) hgz (by rw [up_ne rfl, hn 9 (by decide)]; exact hb'), fun h1 h2 g1 g2 e1 e2 => by have hu := upd_self z 7 (.pointer (some ⟨g, 0, none⟩)); obtain ⟨g3, e3, _, b3⟩ := nq6 h1; have hlt3 := b3.lt; rw [hu] at e2; have e4 := (show z 6 = _ from e1).symm.trans e3; simp at e4 e2; omega, hS.call hsz hb, Nat.le_trans hz hb.size⟩
    · refine stepAt (i := 8) (N := none) (by kernel_rfl) (by rfl) rfl [0, 1, 2, 3, 4, 5, 6, 7] [] (by kernel_rfl) ?_
      rintro d _ w' hj hn ⟨z, rfl, hv, mq0, mq1, mq2, nq6, nq7, pq6_7, hS, hz⟩ K hK
      have eq2 := hv 2 _ rfl (hj 2 (by decide))
      obtain ⟨gq6, eq6, lq6, bq6⟩ := nq6 (hj 6 (by decide))
      rw [hn 8 (by decide)] at bq6
      change Blk _ _ _ #[.int .i64 0, .int .i64 0] at bq6
      have hb0 := bq6
      have q0 := hb0.cell 0; have r0 := hb0.frozen 0
      have q1 := hb0.cell 1; have r1 := hb0.frozen 1
      simp only [List.getElem?_toArray, List.getElem?_cons_zero, List.getElem?_cons_succ] at q0 q1
      refine skip_ (w1 := (World.setCell (World.setCell w' ⟨gq6, 0, none⟩ (.int .i64 f0)) ⟨gq6, 1, none⟩ (.int .i64 f1))) (by rfl) rfl (by first | (go_simp; done) | (go_simp; rfl) | (simp only [eq2, eq6]; go_simp; done) | (go_simp; simp only [eq2, eq6]; go_simp; done)) ?_
      have hb' := ((hb0.set 0 (.int .i64 f0) (by simp)).set 1 (.int .i64 f1) (by simp))
      change Blk _ _ _ #[.int .i64 f0, .int .i64 f1] at hb'
      have hS' := ((hS.set ⟨gq6, 0, none⟩ (by simp <;> omega) (.int .i64 f0)).set ⟨gq6, 1, none⟩ (by simp <;> omega) (.int .i64 f1))
      have hz' : W0.heap.size ≤ ((World.setCell (World.setCell w' ⟨gq6, 0, none⟩ (.int .i64 f0)) ⟨gq6, 1, none⟩ (.int .i64 f1))).heap.size := by simpa using hz
      exact hK.out _ _ ⟨z, rfl, hv.skip rfl, ((mq0.other (a := ⟨gq6, 0, none⟩) (by simp <;> omega) (.int .i64 f0)).other (a := ⟨gq6, 1, none⟩) (by simp <;> omega) (.int .i64 f1)), ((mq1.other (a := ⟨gq6, 0, none⟩) (by simp <;> omega) (.int .i64 f0)).other (a := ⟨gq6, 1, none⟩) (by simp <;> omega) (.int .i64 f1)), ((mq2.other (a := ⟨gq6, 0, none⟩) (by simp <;> omega) (.int .i64 f0)).other (a := ⟨gq6, 1, none⟩) (by simp <;> omega) (.int .i64 f1)), fun _ => ⟨gq6, eq6, lq6, hb'⟩, ((nq7.skip (k := 8) rfl (p := ⟨gq6, 0, none⟩) (u := .int .i64 f0) (fun g_ h1 h2 h3 => fun h4 => pq6_7 (hj 6 (by decide)) h3 _ _ eq6 h1 h4.symm)).also (p := ⟨gq6, 1, none⟩) (u := .int .i64 f1) (fun g_ h1 h2 h3 => fun h4 => pq6_7 (hj 6 (by decide)) h3 _ _ eq6 h1 h4.symm)), pq6_7, hS', hz'⟩
    · refine stepAt (i := 9) (N := none) (by kernel_rfl) (by rfl) rfl [0, 1, 2, 3, 4, 5, 6, 7, 8] [] (by kernel_rfl) ?_
      rintro d _ w' hj hn ⟨z, rfl, hv, mq0, mq1, mq2, nq6, nq7, pq6_7, hS, hz⟩ K hK
      have eq5 := hv 5 _ rfl (hj 5 (by decide))
      obtain ⟨gq7, eq7, lq7, bq7⟩ := nq7 (hj 7 (by decide))
      rw [hn 9 (by decide)] at bq7
      change Blk _ _ _ #[.int .i64 0, .int .i64 0] at bq7
      have hb0 := bq7
      have q0 := hb0.cell 0; have r0 := hb0.frozen 0
      have q1 := hb0.cell 1; have r1 := hb0.frozen 1
      simp only [List.getElem?_toArray, List.getElem?_cons_zero, List.getElem?_cons_succ] at q0 q1
      refine skip_ (w1 := (World.setCell (World.setCell w' ⟨gq7, 0, none⟩ (.int .i64 g0)) ⟨gq7, 1, none⟩ (.int .i64 g1))) (by rfl) rfl (by first | (go_simp; done) | (go_simp; rfl) | (simp only [eq5, eq7]; go_simp; done) | (go_simp; simp only [eq5, eq7]; go_simp; done)) ?_
      have hb' := ((hb0.set 0 (.int .i64 g0) (by simp)).set 1 (.int .i64 g1) (by simp))
      change Blk _ _ _ #[.int .i64 g0, .int .i64 g1] at hb'
      have hS' := ((hS.set ⟨gq7, 0, none⟩ (by simp <;> omega) (.int .i64 g0)).set ⟨gq7, 1, none⟩ (by simp <;> omega) (.int .i64 g1))
      have hz' : W0.heap.size ≤ ((World.setCell (World.setCell w' ⟨gq7, 0, none⟩ (.int .i64 g0)) ⟨gq7, 1, none⟩ (.int .i64 g1))).heap.size := by simpa using hz
      exact hK.out _ _ ⟨z, rfl, hv.skip rfl, ((mq0.other (a := ⟨gq7, 0, none⟩) (by simp <;> omega) (.int .i64 g0)).other (a := ⟨gq7, 1, none⟩) (by simp <;> omega) (.int .i64 g1)), ((mq1.other (a := ⟨gq7, 0, none⟩) (by simp <;> omega) (.int .i64 g0)).other (a := ⟨gq7, 1, none⟩) (by simp <;> omega) (.int .i64 g1)), ((mq2.other (a := ⟨gq7, 0, none⟩) (by simp <;> omega) (.int .i64 g0)).other (a := ⟨gq7, 1, none⟩) (by simp <;> omega) (.int .i64 g1)), ((nq6.skip (k := 9) rfl (p := ⟨gq7, 0, none⟩) (u := .int .i64 g0) (fun g_ h1 h2 h3 => pq6_7 h3 (hj 7 (by decide)) _ _ h1 eq7)).also (p := ⟨gq7, 1, none⟩) (u := .int .i64 g1) (fun g_ h1 h2 h3 => pq6_7 h3 (hj 7 (by decide)) _ _ h1 eq7)), fun _ => ⟨gq7, eq7, lq7, hb'⟩, pq6_7, hS', hz'⟩
  rintro d _ w' hd ⟨z, rfl, hv, mq0, mq1, mq2, nq6, nq7, pq6_7, hS, hz⟩
  have eq0 := hv 0 _ rfl (hd 0 (by decide))
  have eq1 := hv 1 _ rfl (hd 1 (by decide))
  have eq2 := hv 2 _ rfl (hd 2 (by decide))
  have eq3 := hv 3 _ rfl (hd 3 (by decide))
  have eq4 := hv 4 _ rfl (hd 4 (by decide))
  have eq5 := hv 5 _ rfl (hd 5 (by decide))
  obtain ⟨gq6, eq6, lq6, bq6⟩ := nq6 (hd 6 (by decide))
  rw [hd 8 (by decide)] at bq6
  change Blk _ _ _ #[.int .i64 f0, .int .i64 f1] at bq6
  clear nq6
  obtain ⟨gq7, eq7, lq7, bq7⟩ := nq7 (hd 7 (by decide))
  rw [hd 9 (by decide)] at bq7
  change Blk _ _ _ #[.int .i64 g0, .int .i64 g1] at bq7
  clear nq7
  replace pq6_7 := pq6_7 (hd 6 (by decide)) (hd 7 (by decide)) _ _ eq6 eq7
  simp only [eq0, eq1, eq2, eq3, eq4, eq5, eq6, eq7]
  clear eq0 eq1 eq2 eq3 eq4 eq5 eq6 eq7 hv hd z
  exact key gq6 gq7 _ bq6 bq7 pq6_7 hS
end Go.Proofs.Ytkbcjagkacijnaa.PVec
end
