/- What the law VecAdds needs of the seat's contracts and plain laws, several texts one behind the other; no conditions. -/
import Derived.Test.YtkbcjagkacijnaaSVecAdds0
import Derived.Test.YtkbcjagkacijnaaSVecAdds1
import Derived.Test.YtkbcjagkacijnaaProg
import Derived.Below
import Derived.Deep.Draws
import Derived.Deep.AppendLies
import Derived.Maps.AppendAt
import Derived.OwnWalk
import Derived.Laws.BytesArg
import Derived.Laws.MakeOwn
import Derived.Laws.OwnMore
import Derived.Deep.OwnRows
import Derived.Tactics
import Derived.Lib.ConvBytes
import Derived.Laws.Slices
import Derived.WalkKit
import Derived.KernelRfl
import Derived.RowKit3
import Derived.Deep.LoopGhost
import Derived.Deep.QuietTactic
import Derived.BigQuiet
import Derived.WideLaws
import Derived.Deep.DeepCutAuto
import Derived.Deep.CutBlock
import Derived.Deep.RegionHeld3
import Derived.Laws.Rows
import Derived.Lib.AppendStr
import Derived.ArgAppend
import Derived.Laws.IdiomCopy
import Derived.OrdersHeld
import Derived.Laws.BitsLemmas
import Derived.RowKit
import Derived.Test.YtkbcjagkacijnaaWWords
import Derived.Test.YtkbcjagkacijnaaWLast
import Derived.Test.YtkbcjagkacijnaaWTab
import Derived.Test.YtkbcjagkacijnaaWFour
import Derived.Test.YtkbcjagkacijnaaWQPut
import Derived.Test.YtkbcjagkacijnaaWApart
import Derived.Test.YtkbcjagkacijnaaWArr
import Derived.Test.YtkbcjagkacijnaaWZeros
import Derived.Test.YtkbcjagkacijnaaWFoot
import Derived.Test.YtkbcjagkacijnaaWKept
import Derived.Test.YtkbcjagkacijnaaWShare
import Derived.Test.YtkbcjagkacijnaaWN
import Derived.Test.YtkbcjagkacijnaaWFootNe
import Derived.Test.YtkbcjagkacijnaaWAt
import Derived.Test.YtkbcjagkacijnaaWEqStruct
import Derived.Test.YtkbcjagkacijnaaWRepsOne
import Derived.Test.YtkbcjagkacijnaaWInv
import Derived.Test.YtkbcjagkacijnaaWInvWords
import Derived.Test.YtkbcjagkacijnaaWGuard
import Derived.Test.YtkbcjagkacijnaaWNEv
import Derived.Test.YtkbcjagkacijnaaWMore
import Derived.Test.YtkbcjagkacijnaaSVecAdds2
import Derived.Test.YtkbcjagkacijnaaRows
import Derived.ProofKit
import Derived.OpenShut
section
-- Written for this claim by this project's own driver over the kit's print: functions and their contracts.
namespace Go.Proofs.Ytkbcjagkacijnaa.PNum
open Go.RowKit Go.Proofs.YtkbcjagkacijnaaW.PrintWords Go.Proofs.YtkbcjagkacijnaaW.PrintLast Go.Proofs.YtkbcjagkacijnaaW.PrintMore
attribute [local go_sem] max2_int min2_int max_two min_two max_three min_three max_four min_four   -- for this text's walks alone
set_option linter.unusedVariables false
set_option linter.unusedSimpArgs false

theorem eqA119 (d : Nat) (w : World) (x0 y0 : Int) (x1 y1 : Int) :
    (Op.equalIn (d + 2) 119 (.agg #[.int .i64 x0, .int .u64 x1]) (.agg #[.int .i64 y0, .int .u64 y1])).run Try.prog w = .ok (x0 == y0 && (x1 == y1)) w := by
  refine eqA_of Try.underlying119 (by kernel_rfl) ?_
  refine eqf_cons (by rfl) (by go_simp; rfl) (by go_simp; rfl) (by go_simp) ?_
  exact eqf_last (by rfl) (by go_simp; rfl) (by go_simp; rfl) (by go_simp)
end Go.Proofs.Ytkbcjagkacijnaa.PNum
end
section
-- Written for this claim by this project's own driver over the kit's print: functions and their contracts.
namespace Go.Proofs.Ytkbcjagkacijnaa.PNum
open Go.RowKit Go.Proofs.YtkbcjagkacijnaaW.PrintWords Go.Proofs.YtkbcjagkacijnaaW.PrintLast Go.Proofs.YtkbcjagkacijnaaW.PrintMore
attribute [local go_sem] max2_int min2_int max_two min_two max_three min_three max_four min_four   -- for this text's walks alone
set_option linter.unusedVariables false
set_option linter.unusedSimpArgs false

attribute [local go_sem high] eqA119
def num_Sub.f (a0 : Int) (a1 : Int) : Option (Int × Int) := if ((decide (a0 < 0)) != (decide (a1 < 0))) = true then (if ((decide ((wrap64 (a0 - a1)) < 0)) != (decide (a0 < 0))) = true then (some (0, 2)) else (some (wrap64 (a0 - a1), 0))) else (some (wrap64 (a0 - a1), 0))
def num_Mul.f (k : Nat) (a0 : Int) (a1 : Int) : Option (Int × Int) := (num_Product.f a0 a1).bind fun bt209 => ((num_signed.f k bt209.1 bt209.2.1 bt209.2.2).bind fun bt213 => (some (bt213.1, bt213.2)))
theorem num_Mul.mono : ∀ a0 a1 k, LeO (num_Mul.f k a0 a1) (num_Mul.f (k + 1) a0 a1) := by
  intro a0 a1 k
  unfold num_Mul.f
  repeat' first
      | (with_reducible exact num_signed.mono _ _ _ _)
      | (with_reducible exact LeO.refl _)
      | (with_reducible exact LeO.none _)
      | (with_reducible refine LeO.ite ?_ ?_)
      | (with_reducible refine LeO.bind ?_ (fun _ => ?_))
      | exact num_signed.mono _ _ _ _
      | exact LeO.none _
      | refine LeO.ite ?_ ?_
      | refine LeO.bind ?_ (fun _ => ?_)
def furlongref01_Narrow.f (a0_0 : Int) (a0_1 : Int) : Option (Int × Int) := (furlongref01_Of.f (wrap64 (a0_1))).bind fun bt216 => (if (!(bt216.1 == a0_0) || (!(bt216.2 == a0_1))) = true then (some (0, 2)) else (some (wrap64 (a0_1), 0)))
def furlongref01_Add.f (a0 : Int) (a1 : Int) : Option (Int × Int) := (furlongref01_Of.f a0).bind fun bt218 => ((furlongref01_Of.f a1).bind fun bt220 => ((furlongref01_Plus.f bt218.1 bt218.2 bt220.1 bt220.2).bind fun bt222 => ((furlongref01_Narrow.f bt222.1 bt222.2).bind fun bt224 => (some (bt224.1, bt224.2)))))
def furlongref01_Sub.f (a0 : Int) (a1 : Int) : Option (Int × Int) := (furlongref01_Of.f a0).bind fun bt226 => ((furlongref01_Of.f a1).bind fun bt228 => ((furlongref01_Minus.f bt226.1 bt226.2 bt228.1 bt228.2).bind fun bt230 => ((furlongref01_Narrow.f bt230.1 bt230.2).bind fun bt232 => (some (bt232.1, bt232.2)))))
def furlongref01_Mul.f (a0 : Int) (a1 : Int) : Option (Int × Int) := (furlongref01_Times.f a0 a1).bind fun bt234 => ((furlongref01_Narrow.f bt234.1 bt234.2).bind fun bt236 => (some (bt236.1, bt236.2)))
def furlonglaw01_NumAdds.f (k : Nat) (a0 : Int) (a1 : Int) : Option (Bool) := (furlonglaw01_awake.f k).bind fun t238 => (if t238 = true then ((num_Add.f a0 a1).bind fun bt239 => ((num_Sub.f a0 a1).bind fun bt241 => ((num_Mul.f k a0 a1).bind fun bt243 => ((furlongref01_Add.f a0 a1).bind fun bt245 => ((furlongref01_Sub.f a0 a1).bind fun bt247 => ((furlongref01_Mul.f a0 a1).bind fun bt249 => (if bt239.1 = bt245.1 then (if bt239.2 = bt245.2 then (if bt241.1 = bt247.1 then (if bt241.2 = bt247.2 then (if bt243.1 = bt249.1 then (some (bt243.2 == bt249.2)) else (some false)) else (some false)) else (some false)) else (some false)) else (some false)))))))) else (some false))
theorem furlonglaw01_NumAdds.mono : ∀ a0 a1 k, LeO (furlonglaw01_NumAdds.f k a0 a1) (furlonglaw01_NumAdds.f (k + 1) a0 a1) := by
  intro a0 a1 k
  unfold furlonglaw01_NumAdds.f
  repeat' first
      | (with_reducible exact furlonglaw01_awake.mono _)
      | (with_reducible exact num_Mul.mono _ _ _)
      | (with_reducible exact LeO.refl _)
      | (with_reducible exact LeO.none _)
      | (with_reducible refine LeO.ite ?_ ?_)
      | (with_reducible refine LeO.bind ?_ (fun _ => ?_))
      | exact furlonglaw01_awake.mono _
      | exact num_Mul.mono _ _ _
      | exact LeO.none _
      | refine LeO.ite ?_ ?_
      | refine LeO.bind ?_ (fun _ => ?_)
end Go.Proofs.Ytkbcjagkacijnaa.PNum
end
section
-- Written for this claim by this project's own driver over the kit's print: functions and their contracts.
namespace Go.Proofs.Ytkbcjagkacijnaa.PNum
open Go.RowKit Go.Proofs.YtkbcjagkacijnaaW.PrintWords Go.Proofs.YtkbcjagkacijnaaW.PrintLast Go.Proofs.YtkbcjagkacijnaaW.PrintMore
attribute [local go_sem] max2_int min2_int max_two min_two max_three min_three max_four min_four   -- for this text's walks alone
set_option linter.unusedVariables false
set_option linter.unusedSimpArgs false

mutual
def furlongref01_MulDiv.j0 : Nat → Int → Bool → Int → Int → Option (Int × Int)
  | 0, _, _, _, _ => none
  | k + 1, x2, x30, x161000, x161001 => if x30 = true then (some (0, 2)) else ((furlongref01_Less.f x161000 x161001 0 0).bind fun t171 => (if t171 = true then (furlongref01_MulDiv.j1 k x2 (-9223372036854775808) x161000 x161001) else (furlongref01_MulDiv.j1 k x2 0 x161000 x161001)))
def furlongref01_MulDiv.j1 : Nat → Int → Int → Int → Int → Option (Int × Int)
  | 0, _, _, _, _ => none
  | k + 1, x2, x9, x161000, x161001 => furlongref01_MulDiv.l0 k x2 x9 62 x161000 x161001
def furlongref01_MulDiv.l0 : Nat → Int → Int → Int → Int → Int → Option (Int × Int)
  | 0, _, _, _, _, _ => none
  | k + 1, x2, x9, x10, x161000, x161001 => if x10 ≥ 0 then (if 0 ≤ x10 then ((furlongref01_Times.f (wrap64 (x9 + (shl .i64 1 x10))) x2).bind fun bt172 => ((furlongref01_Less.f x161000 x161001 bt172.1 bt172.2).bind fun t174 => (if t174 = true then (furlongref01_MulDiv.l0 k x2 x9 (wrap64 (x10 - 1)) x161000 x161001) else (furlongref01_MulDiv.l0 k x2 (wrap64 (x9 + (shl .i64 1 x10))) (wrap64 (x10 - 1)) x161000 x161001)))) else (none)) else (some (x9, 0))
end
def furlongref01_MulDiv.f (k : Nat) (a0 : Int) (a1 : Int) (a2 : Int) : Option (Int × Int) := if a2 < 1 then (some (0, 1)) else ((furlongref01_Times.f a0 a1).bind fun bt158 => ((furlongref01_Times.f (-9223372036854775808) a2).bind fun bt161 => ((furlongref01_Less.f bt158.1 bt158.2 bt161.1 bt161.2).bind fun t163 => (if t163 = true then (furlongref01_MulDiv.j0 k a2 true bt158.1 bt158.2) else ((furlongref01_Times.f 9223372036854775807 a2).bind fun bt164 => ((furlongref01_Of.f a2).bind fun bt166 => ((furlongref01_Plus.f bt164.1 bt164.2 bt166.1 bt166.2).bind fun bt168 => ((furlongref01_Less.f bt158.1 bt158.2 bt168.1 bt168.2).bind fun t170 => (furlongref01_MulDiv.j0 k a2 (!t170) bt158.1 bt158.2)))))))))
theorem furlongref01_MulDiv.mono_l : ∀ k, (∀ y0 y1 y2 y3, LeO (furlongref01_MulDiv.j0 k y0 y1 y2 y3) (furlongref01_MulDiv.j0 (k + 1) y0 y1 y2 y3)) ∧ (∀ y0 y1 y2 y3, LeO (furlongref01_MulDiv.j1 k y0 y1 y2 y3) (furlongref01_MulDiv.j1 (k + 1) y0 y1 y2 y3)) ∧ (∀ y0 y1 y2 y3 y4, LeO (furlongref01_MulDiv.l0 k y0 y1 y2 y3 y4) (furlongref01_MulDiv.l0 (k + 1) y0 y1 y2 y3 y4))
  | 0 => ⟨fun _ _ _ _ r h => by simp [furlongref01_MulDiv.j0] at h, fun _ _ _ _ r h => by simp [furlongref01_MulDiv.j1] at h, fun _ _ _ _ _ r h => by simp [furlongref01_MulDiv.l0] at h⟩
  | k + 1 => by
    obtain ⟨ih0, ih1, ih2⟩ := furlongref01_MulDiv.mono_l k
    refine ⟨?_, ?_, ?_⟩
    · intro y0 y1 y2 y3
      unfold furlongref01_MulDiv.j0
      repeat' first
      | (with_reducible exact ih0 _ _ _ _)
      | (with_reducible exact ih1 _ _ _ _)
      | (with_reducible exact ih2 _ _ _ _ _)
      | (with_reducible exact LeO.refl _)
      | (with_reducible exact LeO.none _)
      | (with_reducible refine LeO.ite ?_ ?_)
      | (with_reducible refine LeO.bind ?_ (fun _ => ?_))
      | exact ih0 _ _ _ _
      | exact ih1 _ _ _ _
      | exact ih2 _ _ _ _ _
      | exact LeO.none _
      | refine LeO.ite ?_ ?_
      | refine LeO.bind ?_ (fun _ => ?_)
    · intro y0 y1 y2 y3
      unfold furlongref01_MulDiv.j1
      repeat' first
      | (with_reducible exact ih0 _ _ _ _)
      | (with_reducible exact ih1 _ _ _ _)
      | (with_reducible exact ih2 _ _ _ _ _)
      | (with_reducible exact LeO.refl _)
      | (with_reducible exact LeO.none _)
      | (with_reducible refine LeO.ite ?_ ?_)
      | (with_reducible refine LeO.bind ?_ (fun _ => ?_))
      | exact ih0 _ _ _ _
      | exact ih1 _ _ _ _
      | exact ih2 _ _ _ _ _
      | exact LeO.none _
      | refine LeO.ite ?_ ?_
      | refine LeO.bind ?_ (fun _ => ?_)
    · intro y0 y1 y2 y3 y4
      unfold furlongref01_MulDiv.l0
      repeat' first
      | (with_reducible exact ih0 _ _ _ _)
      | (with_reducible exact ih1 _ _ _ _)
      | (with_reducible exact ih2 _ _ _ _ _)
      | (with_reducible exact LeO.refl _)
      | (with_reducible exact LeO.none _)
      | (with_reducible refine LeO.ite ?_ ?_)
      | (with_reducible refine LeO.bind ?_ (fun _ => ?_))
      | exact ih0 _ _ _ _
      | exact ih1 _ _ _ _
      | exact ih2 _ _ _ _ _
      | exact LeO.none _
      | refine LeO.ite ?_ ?_
      | refine LeO.bind ?_ (fun _ => ?_)
theorem furlongref01_MulDiv.mono : ∀ a0 a1 a2 k, LeO (furlongref01_MulDiv.f k a0 a1 a2) (furlongref01_MulDiv.f (k + 1) a0 a1 a2) := by
  intro a0 a1 a2 k
  obtain ⟨ih0, ih1, ih2⟩ := furlongref01_MulDiv.mono_l k
  unfold furlongref01_MulDiv.f
  repeat' first
      | (with_reducible exact ih0 _ _ _ _)
      | (with_reducible exact ih1 _ _ _ _)
      | (with_reducible exact ih2 _ _ _ _ _)
      | (with_reducible exact LeO.refl _)
      | (with_reducible exact LeO.none _)
      | (with_reducible refine LeO.ite ?_ ?_)
      | (with_reducible refine LeO.bind ?_ (fun _ => ?_))
      | exact ih0 _ _ _ _
      | exact ih1 _ _ _ _
      | exact ih2 _ _ _ _ _
      | exact LeO.none _
      | refine LeO.ite ?_ ?_
      | refine LeO.bind ?_ (fun _ => ?_)
end Go.Proofs.Ytkbcjagkacijnaa.PNum
end
section
-- Written for this claim by this project's own driver over the kit's print: functions and their contracts.
namespace Go.Proofs.Ytkbcjagkacijnaa.PNum
open Go.RowKit Go.Proofs.YtkbcjagkacijnaaW.PrintWords Go.Proofs.YtkbcjagkacijnaaW.PrintLast Go.Proofs.YtkbcjagkacijnaaW.PrintMore
attribute [local go_sem] max2_int min2_int max_two min_two max_three min_three max_four min_four   -- for this text's walks alone
set_option linter.unusedVariables false
set_option linter.unusedSimpArgs false

def furlongref01_order.f (a0_0 : Int) (a0_1 : Int) (a1_0 : Int) (a1_1 : Int) : Option (Int) := (furlongref01_Less.f a0_0 a0_1 a1_0 a1_1).bind fun t177 => (if t177 = true then (some (-1)) else ((furlongref01_Less.f a1_0 a1_1 a0_0 a0_1).bind fun t178 => (if t178 = true then (some 1) else (some 0))))
def furlongref01_Cmp.j0 : Nat → Int → Int → Int → Int → Bool → Option (Int × Int)
  | 0, _, _, _, _, _ => none
  | k + 1, x0, x1, x2, x3, x15 => if x15 = true then (some (0, 1)) else ((furlongref01_Times.f x0 x3).bind fun bt179 => ((furlongref01_Times.f x2 x1).bind fun bt181 => ((furlongref01_order.f bt179.1 bt179.2 bt181.1 bt181.2).bind fun t183 => (some (t183, 0)))))
def furlongref01_Cmp.f (k : Nat) (a0 : Int) (a1 : Int) (a2 : Int) (a3 : Int) : Option (Int × Int) := if a1 < 1 then (furlongref01_Cmp.j0 k a0 a1 a2 a3 true) else (furlongref01_Cmp.j0 k a0 a1 a2 a3 (decide (a3 < 1)))
theorem furlongref01_Cmp.mono_l : ∀ k, (∀ y0 y1 y2 y3 y4, LeO (furlongref01_Cmp.j0 k y0 y1 y2 y3 y4) (furlongref01_Cmp.j0 (k + 1) y0 y1 y2 y3 y4))
  | 0 => fun _ _ _ _ _ r h => by simp [furlongref01_Cmp.j0] at h
  | k + 1 => by
    have ih0 := furlongref01_Cmp.mono_l k
    · intro y0 y1 y2 y3 y4
      unfold furlongref01_Cmp.j0
      repeat' first
      | (with_reducible exact ih0 _ _ _ _ _)
      | (with_reducible exact LeO.refl _)
      | (with_reducible exact LeO.none _)
      | (with_reducible refine LeO.ite ?_ ?_)
      | (with_reducible refine LeO.bind ?_ (fun _ => ?_))
      | exact ih0 _ _ _ _ _
      | exact LeO.none _
      | refine LeO.ite ?_ ?_
      | refine LeO.bind ?_ (fun _ => ?_)
theorem furlongref01_Cmp.mono : ∀ a0 a1 a2 a3 k, LeO (furlongref01_Cmp.f k a0 a1 a2 a3) (furlongref01_Cmp.f (k + 1) a0 a1 a2 a3) := by
  intro a0 a1 a2 a3 k
  have ih0 := furlongref01_Cmp.mono_l k
  unfold furlongref01_Cmp.f
  repeat' first
      | (with_reducible exact ih0 _ _ _ _ _)
      | (with_reducible exact LeO.refl _)
      | (with_reducible exact LeO.none _)
      | (with_reducible refine LeO.ite ?_ ?_)
      | (with_reducible refine LeO.bind ?_ (fun _ => ?_))
      | exact ih0 _ _ _ _ _
      | exact LeO.none _
      | refine LeO.ite ?_ ?_
      | refine LeO.bind ?_ (fun _ => ?_)
def furlonglaw01_NumDivides.f (k : Nat) (a0 : Int) (a1 : Int) (a2 : Int) (a3 : Int) : Option (Bool) := (furlonglaw01_awake.f k).bind fun t184 => (if t184 = true then ((num_MulDiv.f k a0 a1 a2).bind fun bt185 => ((furlongref01_MulDiv.f k a0 a1 a2).bind fun bt187 => ((num_Cmp.f k a0 a1 a2 a3).bind fun bt189 => ((furlongref01_Cmp.f k a0 a1 a2 a3).bind fun bt191 => (if bt185.1 = bt187.1 then (if bt185.2 = bt187.2 then (if bt189.1 = bt191.1 then (some (bt189.2 == bt191.2)) else (some false)) else (some false)) else (some false)))))) else (some false))
theorem furlonglaw01_NumDivides.mono : ∀ a0 a1 a2 a3 k, LeO (furlonglaw01_NumDivides.f k a0 a1 a2 a3) (furlonglaw01_NumDivides.f (k + 1) a0 a1 a2 a3) := by
  intro a0 a1 a2 a3 k
  unfold furlonglaw01_NumDivides.f
  repeat' first
      | (with_reducible exact furlonglaw01_awake.mono _)
      | (with_reducible exact furlongref01_Cmp.mono _ _ _ _ _)
      | (with_reducible exact furlongref01_MulDiv.mono _ _ _ _)
      | (with_reducible exact num_Cmp.mono _ _ _ _ _)
      | (with_reducible exact num_MulDiv.mono _ _ _ _)
      | (with_reducible exact LeO.refl _)
      | (with_reducible exact LeO.none _)
      | (with_reducible refine LeO.ite ?_ ?_)
      | (with_reducible refine LeO.bind ?_ (fun _ => ?_))
      | exact furlonglaw01_awake.mono _
      | exact furlongref01_Cmp.mono _ _ _ _ _
      | exact furlongref01_MulDiv.mono _ _ _ _
      | exact num_Cmp.mono _ _ _ _ _
      | exact num_MulDiv.mono _ _ _ _
      | exact LeO.none _
      | refine LeO.ite ?_ ?_
      | refine LeO.bind ?_ (fun _ => ?_)
def furlongref01_Gcd.l0 : Nat → Int → Int → Option (Int)
  | 0, _, _ => none
  | k + 1, x5, x6 => if x6 = 0 then (if x5 > 9223372036854775807 then (some 0) else (some (wrap64 (x5)))) else (furlongref01_Gcd.l0 k x6 (Int.tmod x5 x6))
def furlongref01_Gcd.f (k : Nat) (a0 : Int) (a1 : Int) : Option (Int) := (furlongref01_size.f a0).bind fun t193 => ((furlongref01_size.f a1).bind fun t194 => (furlongref01_Gcd.l0 k t193 t194))
theorem furlongref01_Gcd.mono_l : ∀ k, (∀ y0 y1, LeO (furlongref01_Gcd.l0 k y0 y1) (furlongref01_Gcd.l0 (k + 1) y0 y1))
  | 0 => fun _ _ r h => by simp [furlongref01_Gcd.l0] at h
  | k + 1 => by
    have ih0 := furlongref01_Gcd.mono_l k
    · intro y0 y1
      unfold furlongref01_Gcd.l0
      repeat' first
      | (with_reducible exact ih0 _ _)
      | (with_reducible exact LeO.refl _)
      | (with_reducible exact LeO.none _)
      | (with_reducible refine LeO.ite ?_ ?_)
      | (with_reducible refine LeO.bind ?_ (fun _ => ?_))
      | exact ih0 _ _
      | exact LeO.none _
      | refine LeO.ite ?_ ?_
      | refine LeO.bind ?_ (fun _ => ?_)
theorem furlongref01_Gcd.mono : ∀ a0 a1 k, LeO (furlongref01_Gcd.f k a0 a1) (furlongref01_Gcd.f (k + 1) a0 a1) := by
  intro a0 a1 k
  have ih0 := furlongref01_Gcd.mono_l k
  unfold furlongref01_Gcd.f
  repeat' first
      | (with_reducible exact ih0 _ _)
      | (with_reducible exact LeO.refl _)
      | (with_reducible exact LeO.none _)
      | (with_reducible refine LeO.ite ?_ ?_)
      | (with_reducible refine LeO.bind ?_ (fun _ => ?_))
      | exact ih0 _ _
      | exact LeO.none _
      | refine LeO.ite ?_ ?_
      | refine LeO.bind ?_ (fun _ => ?_)
def furlonglaw01_NumGcds.f (k : Nat) (a0 : Int) (a1 : Int) : Option (Bool) := (furlonglaw01_awake.f k).bind fun t195 => (if t195 = true then ((num_Gcd.f k a0 a1).bind fun t196 => ((furlongref01_Gcd.f k a0 a1).bind fun t197 => (some (t196 == t197)))) else (some false))
theorem furlonglaw01_NumGcds.mono : ∀ a0 a1 k, LeO (furlonglaw01_NumGcds.f k a0 a1) (furlonglaw01_NumGcds.f (k + 1) a0 a1) := by
  intro a0 a1 k
  unfold furlonglaw01_NumGcds.f
  repeat' first
      | (with_reducible exact furlonglaw01_awake.mono _)
      | (with_reducible exact furlongref01_Gcd.mono _ _ _)
      | (with_reducible exact num_Gcd.mono _ _ _)
      | (with_reducible exact LeO.refl _)
      | (with_reducible exact LeO.none _)
      | (with_reducible refine LeO.ite ?_ ?_)
      | (with_reducible refine LeO.bind ?_ (fun _ => ?_))
      | exact furlonglaw01_awake.mono _
      | exact furlongref01_Gcd.mono _ _ _
      | exact num_Gcd.mono _ _ _
      | exact LeO.none _
      | refine LeO.ite ?_ ?_
      | refine LeO.bind ?_ (fun _ => ?_)
mutual
def furlonglaw01_NumFloor.j0 : Nat → Int → Int → Int → Int → Int → Bool → Option (Bool)
  | 0, _, _, _, _, _, _ => none
  | k + 1, x0, x1, x2, x7, x8, x35 => if x35 = true then (if x8 = 0 then (some true) else (if x8 = 2 then (some (x7 == 0)) else (some false))) else ((num_Cmp.f k x7 x1 x0 x2).bind fun bt201 => (if bt201.2 = 0 then (furlonglaw01_NumFloor.j1 k x0 x1 x2 x7 (decide (bt201.1 > 0))) else (furlonglaw01_NumFloor.j1 k x0 x1 x2 x7 true)))
def furlonglaw01_NumFloor.j1 : Nat → Int → Int → Int → Int → Bool → Option (Bool)
  | 0, _, _, _, _, _ => none
  | k + 1, x0, x1, x2, x7, x59 => if x59 = true then (some false) else (if x7 = 9223372036854775807 then (some true) else ((num_Cmp.f k (wrap64 (x7 + 1)) x1 x0 x2).bind fun bt203 => (if bt203.2 = 0 then (some (decide (bt203.1 > 0))) else (some false))))
end
def furlonglaw01_NumFloor.f (k : Nat) (a0 : Int) (a1 : Int) (a2 : Int) : Option (Bool) := (furlonglaw01_awake.f k).bind fun t198 => (if t198 = true then ((num_MulDiv.f k a0 a1 a2).bind fun bt199 => (if a2 < 1 then (if bt199.2 = 1 then (some (bt199.1 == 0)) else (some false)) else (if bt199.2 = 0 then (furlonglaw01_NumFloor.j0 k a0 a1 a2 bt199.1 bt199.2 (decide (a1 < 1))) else (furlonglaw01_NumFloor.j0 k a0 a1 a2 bt199.1 bt199.2 true)))) else (some false))
theorem furlonglaw01_NumFloor.mono_l : ∀ k, (∀ y0 y1 y2 y3 y4 y5, LeO (furlonglaw01_NumFloor.j0 k y0 y1 y2 y3 y4 y5) (furlonglaw01_NumFloor.j0 (k + 1) y0 y1 y2 y3 y4 y5)) ∧ (∀ y0 y1 y2 y3 y4, LeO (furlonglaw01_NumFloor.j1 k y0 y1 y2 y3 y4) (furlonglaw01_NumFloor.j1 (k + 1) y0 y1 y2 y3 y4))
  | 0 => ⟨fun _ _ _ _ _ _ r h => by simp [furlonglaw01_NumFloor.j0] at h, fun _ _ _ _ _ r h => by simp [furlonglaw01_NumFloor.j1] at h⟩
  | k + 1 => by
    obtain ⟨ih0, ih1⟩ := furlonglaw01_NumFloor.mono_l k
    refine ⟨?_, ?_⟩
    · intro y0 y1 y2 y3 y4 y5
      unfold furlonglaw01_NumFloor.j0
      repeat' first
      | (with_reducible exact ih0 _ _ _ _ _ _)
      | (with_reducible exact ih1 _ _ _ _ _)
      | (with_reducible exact furlonglaw01_awake.mono _)
      | (with_reducible exact num_Cmp.mono _ _ _ _ _)
      | (with_reducible exact num_MulDiv.mono _ _ _ _)
      | (with_reducible exact LeO.refl _)
      | (with_reducible exact LeO.none _)
      | (with_reducible refine LeO.ite ?_ ?_)
      | (with_reducible refine LeO.bind ?_ (fun _ => ?_))
      | exact ih0 _ _ _ _ _ _
      | exact ih1 _ _ _ _ _
      | exact furlonglaw01_awake.mono _
      | exact num_Cmp.mono _ _ _ _ _
      | exact num_MulDiv.mono _ _ _ _
      | exact LeO.none _
      | refine LeO.ite ?_ ?_
      | refine LeO.bind ?_ (fun _ => ?_)
    · intro y0 y1 y2 y3 y4
      unfold furlonglaw01_NumFloor.j1
      repeat' first
      | (with_reducible exact ih0 _ _ _ _ _ _)
      | (with_reducible exact ih1 _ _ _ _ _)
      | (with_reducible exact furlonglaw01_awake.mono _)
      | (with_reducible exact num_Cmp.mono _ _ _ _ _)
      | (with_reducible exact num_MulDiv.mono _ _ _ _)
      | (with_reducible exact LeO.refl _)
      | (with_reducible exact LeO.none _)
      | (with_reducible refine LeO.ite ?_ ?_)
      | (with_reducible refine LeO.bind ?_ (fun _ => ?_))
      | exact ih0 _ _ _ _ _ _
      | exact ih1 _ _ _ _ _
      | exact furlonglaw01_awake.mono _
      | exact num_Cmp.mono _ _ _ _ _
      | exact num_MulDiv.mono _ _ _ _
      | exact LeO.none _
      | refine LeO.ite ?_ ?_
      | refine LeO.bind ?_ (fun _ => ?_)
theorem furlonglaw01_NumFloor.mono : ∀ a0 a1 a2 k, LeO (furlonglaw01_NumFloor.f k a0 a1 a2) (furlonglaw01_NumFloor.f (k + 1) a0 a1 a2) := by
  intro a0 a1 a2 k
  obtain ⟨ih0, ih1⟩ := furlonglaw01_NumFloor.mono_l k
  unfold furlonglaw01_NumFloor.f
  repeat' first
      | (with_reducible exact ih0 _ _ _ _ _ _)
      | (with_reducible exact ih1 _ _ _ _ _)
      | (with_reducible exact furlonglaw01_awake.mono _)
      | (with_reducible exact num_Cmp.mono _ _ _ _ _)
      | (with_reducible exact num_MulDiv.mono _ _ _ _)
      | (with_reducible exact LeO.refl _)
      | (with_reducible exact LeO.none _)
      | (with_reducible refine LeO.ite ?_ ?_)
      | (with_reducible refine LeO.bind ?_ (fun _ => ?_))
      | exact ih0 _ _ _ _ _ _
      | exact ih1 _ _ _ _ _
      | exact furlonglaw01_awake.mono _
      | exact num_Cmp.mono _ _ _ _ _
      | exact num_MulDiv.mono _ _ _ _
      | exact LeO.none _
      | refine LeO.ite ?_ ?_
      | refine LeO.bind ?_ (fun _ => ?_)
end Go.Proofs.Ytkbcjagkacijnaa.PNum
end
section
-- Written for this claim by this project's own driver over the kit's print: functions and their contracts.
namespace Go.Proofs.Ytkbcjagkacijnaa.PVec
open Go.RowKit Go.Proofs.YtkbcjagkacijnaaW.PrintWords Go.Proofs.YtkbcjagkacijnaaW.PrintLast Go.Proofs.YtkbcjagkacijnaaW.PrintMore
attribute [local go_sem] max2_int min2_int max_two min_two max_three min_three max_four min_four   -- for this text's walks alone
set_option linter.unusedVariables false
set_option linter.unusedSimpArgs false

attribute [local go_sem high] eqA25
def furlonglaw02_VecBack.j0 : Nat → Int → Int → Int → Int → Option (Bool)
  | 0, _, _, _, _ => none
  | k + 1, x159000, x159001, x160000, x160001 => (vec_Sub.f k x159000 x159001 x160000 x160001).bind fun bt172 => (if bt172.2.2 = 0 then ((vec_Fits.f x160000 x160001 x159000 x159001).bind fun t176 => (if t176 = true then ((vec_Fits.f bt172.1 bt172.2.1 x159000 x159001).bind fun t177 => (some t177)) else (some false))) else ((vec_Check.f x159000 x159001).bind fun t178 => (if t178 = 0 then ((vec_Check.f x160000 x160001).bind fun t179 => (if t179 = 0 then ((vec_Fits.f x160000 x160001 x159000 x159001).bind fun t180 => (some (!t180))) else (some true))) else (some true))))
def furlonglaw02_VecBack.f (k : Nat) (a0_0 : Int) (a0_1 : Int) (a1_0 : Int) (a1_1 : Int) : Option (Bool) := (furlonglaw02_awake.f k).bind fun t160 => (if t160 = true then ((vec_Add.f k a0_0 a0_1 a1_0 a1_1).bind fun bt161 => (if bt161.2.2 = 0 then ((vec_Sub.f k bt161.1 bt161.2.1 a1_0 a1_1).bind fun bt165 => (if bt165.2.2 = 0 then (if (!(bt165.1 == a0_0) || (!(bt165.2.1 == a0_1))) = true then (some false) else ((vec_Fits.f a0_0 a0_1 bt161.1 bt161.2.1).bind fun t169 => (if t169 = true then ((vec_Fits.f a1_0 a1_1 bt161.1 bt161.2.1).bind fun t170 => (if t170 = true then ((vec_Check.f bt161.1 bt161.2.1).bind fun t171 => (if t171 = 0 then (furlonglaw02_VecBack.j0 k a0_0 a0_1 a1_0 a1_1) else (some false))) else (some false))) else (some false)))) else (some false))) else (furlonglaw02_VecBack.j0 k a0_0 a0_1 a1_0 a1_1))) else (some false))
theorem furlonglaw02_VecBack.mono_l : ∀ k, (∀ y0 y1 y2 y3, LeO (furlonglaw02_VecBack.j0 k y0 y1 y2 y3) (furlonglaw02_VecBack.j0 (k + 1) y0 y1 y2 y3))
  | 0 => fun _ _ _ _ r h => by simp [furlonglaw02_VecBack.j0] at h
  | k + 1 => by
    have ih0 := furlonglaw02_VecBack.mono_l k
    · intro y0 y1 y2 y3
      unfold furlonglaw02_VecBack.j0
      repeat' first
      | (with_reducible exact ih0 _ _ _ _)
      | (with_reducible exact furlonglaw02_awake.mono _)
      | (with_reducible exact vec_Add.mono _ _ _ _ _)
      | (with_reducible exact vec_Sub.mono _ _ _ _ _)
      | (with_reducible exact LeO.refl _)
      | (with_reducible exact LeO.none _)
      | (with_reducible refine LeO.ite ?_ ?_)
      | (with_reducible refine LeO.bind ?_ (fun _ => ?_))
      | exact ih0 _ _ _ _
      | exact furlonglaw02_awake.mono _
      | exact vec_Add.mono _ _ _ _ _
      | exact vec_Sub.mono _ _ _ _ _
      | exact LeO.none _
      | refine LeO.ite ?_ ?_
      | refine LeO.bind ?_ (fun _ => ?_)
theorem furlonglaw02_VecBack.mono : ∀ a0 a1 a2 a3 k, LeO (furlonglaw02_VecBack.f k a0 a1 a2 a3) (furlonglaw02_VecBack.f (k + 1) a0 a1 a2 a3) := by
  intro a0 a1 a2 a3 k
  have ih0 := furlonglaw02_VecBack.mono_l k
  unfold furlonglaw02_VecBack.f
  repeat' first
      | (with_reducible exact ih0 _ _ _ _)
      | (with_reducible exact furlonglaw02_awake.mono _)
      | (with_reducible exact vec_Add.mono _ _ _ _ _)
      | (with_reducible exact vec_Sub.mono _ _ _ _ _)
      | (with_reducible exact LeO.refl _)
      | (with_reducible exact LeO.none _)
      | (with_reducible refine LeO.ite ?_ ?_)
      | (with_reducible refine LeO.bind ?_ (fun _ => ?_))
      | exact ih0 _ _ _ _
      | exact furlonglaw02_awake.mono _
      | exact vec_Add.mono _ _ _ _ _
      | exact vec_Sub.mono _ _ _ _ _
      | exact LeO.none _
      | refine LeO.ite ?_ ?_
      | refine LeO.bind ?_ (fun _ => ?_)
end Go.Proofs.Ytkbcjagkacijnaa.PVec
end
section
namespace Go.Proofs.Ytkbcjagkacijnaa.PVec
open Go.RowKit Go.Proofs.YtkbcjagkacijnaaW.PrintWords Go.Proofs.YtkbcjagkacijnaaW.PrintLast
set_option linter.unusedVariables false
abbrev num_Compare.f := @PNum.num_Compare.f
theorem num_Compare.mono : ∀ a0 a1 a2 a3 a4 a5 k, LeO (num_Compare.f k a0 a1 a2 a3 a4 a5) (num_Compare.f (k + 1) a0 a1 a2 a3 a4 a5) := PNum.num_Compare.mono
theorem num_Compare.calls (k : Nat) (a0_0 : Int) (a0_1 : Int) (a0_2 : Bool) (a1_0 : Int) (a1_1 : Int) (a1_2 : Bool) (r : Int) (w : World) (h : num_Compare.f k a0_0 a0_1 a0_2 a1_0 a1_1 a1_2 = some r) :
    Calls Try.prog 91 #[.agg #[.int .u64 a0_0, .int .u64 a0_1, .bool a0_2], .agg #[.int .u64 a1_0, .int .u64 a1_1, .bool a1_2]] w fun e w' => e = .returned (.int .i64 r) ∧ Below w.heap.size w w' := PNum.num_Compare.calls k a0_0 a0_1 a0_2 a1_0 a1_1 a1_2 r w h
abbrev num_Product.f := @PNum.num_Product.f
theorem num_Product.calls (a0 : Int) (a1 : Int) (r1 : Int) (r2 : Int) (r3 : Bool) (w : World) (h : num_Product.f a0 a1 = some (r1, r2, r3)) :
    Calls Try.prog 92 #[.int .i64 a0, .int .i64 a1] w fun e w' => e = .returned (.agg #[.int .u64 r1, .int .u64 r2, .bool r3]) ∧ Below w.heap.size w w' := PNum.num_Product.calls a0 a1 r1 r2 r3 w h
abbrev num_Cmp.f := @PNum.num_Cmp.f
theorem num_Cmp.mono : ∀ a0 a1 a2 a3 k, LeO (num_Cmp.f k a0 a1 a2 a3) (num_Cmp.f (k + 1) a0 a1 a2 a3) := PNum.num_Cmp.mono
abbrev bits_Mul64.f := @PNum.bits_Mul64.f
theorem bits_Mul64.calls (a0 : Int) (a1 : Int) (r1 : Int) (r2 : Int) (w : World) (h : bits_Mul64.f a0 a1 = some (r1, r2)) :
    Calls Try.prog 121 #[.int .u64 a0, .int .u64 a1] w fun e w' => e = .returned (.tuple #[.int .u64 r1, .int .u64 r2]) ∧ Below w.heap.size w w' := (PNum.bits_Mul64.calls a0 a1 r1 r2 w h).mono fun e w' h => ⟨h.1, h.2.below⟩
abbrev furlongref01_Times.f := @PNum.furlongref01_Times.f
abbrev furlongref01_Less.f := @PNum.furlongref01_Less.f
abbrev furlongref01_Plus.f := @PNum.furlongref01_Plus.f
end Go.Proofs.Ytkbcjagkacijnaa.PVec
end
section
-- Written for this claim by this project's own driver over the kit's print: functions and their contracts.
namespace Go.Proofs.Ytkbcjagkacijnaa.PVec
open Go.RowKit Go.Proofs.YtkbcjagkacijnaaW.PrintWords Go.Proofs.YtkbcjagkacijnaaW.PrintLast Go.Proofs.YtkbcjagkacijnaaW.PrintMore
attribute [local go_sem] max2_int min2_int max_two min_two max_three min_three max_four min_four   -- for this text's walks alone
set_option linter.unusedVariables false
set_option linter.unusedSimpArgs false

def furlonglaw02_VecMost.j0 : Nat → Int → Int → Bool → Int → Int → Int → Int → Option (Bool)
  | 0, _, _, _, _, _, _, _ => none
  | k + 1, x5, x6, x46, x182000, x182001, x183000, x183001 => if x46 = true then (if x6 = 0 then (some true) else (if x183000 = 0 then (if x182000 = 0 then (some true) else (if x183001 = 0 then (some (x182001 == 0)) else (some false))) else (if x183001 = 0 then (some (x182001 == 0)) else (some false)))) else ((num_Cmp.f k x182000 x183000 x5 x6).bind fun bt189 => ((num_Cmp.f k x182001 x183001 x5 x6).bind fun bt191 => (if bt189.2 = 0 then (if bt191.2 = 0 then (if bt189.1 ≤ 0 then (if bt191.1 ≤ 0 then (if bt189.1 = 0 then (some true) else (some (bt191.1 == 0))) else (some false)) else (some false)) else (some false)) else (some false))))
def furlonglaw02_VecMost.f (k : Nat) (a0_0 : Int) (a0_1 : Int) (a1_0 : Int) (a1_1 : Int) : Option (Bool) := (furlonglaw02_awake.f k).bind fun t183 => (if t183 = true then ((vec_Share.f a0_0 a0_1 a1_0 a1_1).bind fun bt184 => (if bt184.2.2 = 0 then (if a1_0 = 0 then (furlonglaw02_VecMost.j0 k bt184.1 bt184.2.1 true a0_0 a0_1 a1_0 a1_1) else (furlonglaw02_VecMost.j0 k bt184.1 bt184.2.1 (a1_1 == 0) a0_0 a0_1 a1_0 a1_1)) else ((vec_Check.f a0_0 a0_1).bind fun t187 => (if t187 = 0 then ((vec_Check.f a1_0 a1_1).bind fun t188 => (if t188 = 0 then (some false) else (if bt184.1 = 0 then (some (bt184.2.1 == 0)) else (some false)))) else (if bt184.1 = 0 then (some (bt184.2.1 == 0)) else (some false)))))) else (some false))
theorem furlonglaw02_VecMost.mono_l : ∀ k, (∀ y0 y1 y2 y3 y4 y5 y6, LeO (furlonglaw02_VecMost.j0 k y0 y1 y2 y3 y4 y5 y6) (furlonglaw02_VecMost.j0 (k + 1) y0 y1 y2 y3 y4 y5 y6))
  | 0 => fun _ _ _ _ _ _ _ r h => by simp [furlonglaw02_VecMost.j0] at h
  | k + 1 => by
    have ih0 := furlonglaw02_VecMost.mono_l k
    · intro y0 y1 y2 y3 y4 y5 y6
      unfold furlonglaw02_VecMost.j0
      repeat' first
      | (with_reducible exact ih0 _ _ _ _ _ _ _)
      | (with_reducible exact furlonglaw02_awake.mono _)
      | (with_reducible exact num_Cmp.mono _ _ _ _ _)
      | (with_reducible exact LeO.refl _)
      | (with_reducible exact LeO.none _)
      | (with_reducible refine LeO.ite ?_ ?_)
      | (with_reducible refine LeO.bind ?_ (fun _ => ?_))
      | exact ih0 _ _ _ _ _ _ _
      | exact furlonglaw02_awake.mono _
      | exact num_Cmp.mono _ _ _ _ _
      | exact LeO.none _
      | refine LeO.ite ?_ ?_
      | refine LeO.bind ?_ (fun _ => ?_)
theorem furlonglaw02_VecMost.mono : ∀ a0 a1 a2 a3 k, LeO (furlonglaw02_VecMost.f k a0 a1 a2 a3) (furlonglaw02_VecMost.f (k + 1) a0 a1 a2 a3) := by
  intro a0 a1 a2 a3 k
  have ih0 := furlonglaw02_VecMost.mono_l k
  unfold furlonglaw02_VecMost.f
  repeat' first
      | (with_reducible exact ih0 _ _ _ _ _ _ _)
      | (with_reducible exact furlonglaw02_awake.mono _)
      | (with_reducible exact num_Cmp.mono _ _ _ _ _)
      | (with_reducible exact LeO.refl _)
      | (with_reducible exact LeO.none _)
      | (with_reducible refine LeO.ite ?_ ?_)
      | (with_reducible refine LeO.bind ?_ (fun _ => ?_))
      | exact ih0 _ _ _ _ _ _ _
      | exact furlonglaw02_awake.mono _
      | exact num_Cmp.mono _ _ _ _ _
      | exact LeO.none _
      | refine LeO.ite ?_ ?_
      | refine LeO.bind ?_ (fun _ => ?_)
def vec_times.f (a0 : Int) (a1 : Int) (a2 : Int) : Option (Int × Int × Bool) := (num_Product.f a0 a1).bind fun bt194 => ((bits_Mul64.f bt194.2.1 (IntKind.u64.wrap (a2))).bind fun bt198 => (some (IntKind.u64.wrap (bt198.1 + (IntKind.u64.wrap (bt194.1 * (IntKind.u64.wrap (a2))))), bt198.2, false)))
def vec_Order.j0 : Nat → Int → Int → Int → Int → Int → Int → Bool → Option (Int)
  | 0, _, _, _, _, _, _, _ => none
  | k + 1, x1, x3, x11, x12, x13, x14, x32 => if x32 = true then (some (wrap64 ((mn x14 1) - (mn x12 1)))) else ((vec_times.f x11 x14 x3).bind fun bt207 => ((vec_times.f x13 x12 x1).bind fun bt210 => ((num_Compare.f k bt207.1 bt207.2.1 bt207.2.2 bt210.1 bt210.2.1 bt210.2.2).bind fun t213 => (some t213))))
def vec_Order.f (k : Nat) (a0_0 : Int) (a0_1 : Int) (a1 : Int) (a2_0 : Int) (a2_1 : Int) (a3 : Int) (a4_0 : Int) (a4_1 : Int) : Option (Int) := (vec_share.f a0_0 a0_1 a4_0 a4_1).bind fun bt203 => ((vec_share.f a2_0 a2_1 a4_0 a4_1).bind fun bt205 => (if bt203.2 = 0 then (vec_Order.j0 k a1 a3 bt203.1 bt203.2 bt205.1 bt205.2 true) else (vec_Order.j0 k a1 a3 bt203.1 bt203.2 bt205.1 bt205.2 (bt205.2 == 0))))
theorem vec_Order.mono_l : ∀ k, (∀ y0 y1 y2 y3 y4 y5 y6, LeO (vec_Order.j0 k y0 y1 y2 y3 y4 y5 y6) (vec_Order.j0 (k + 1) y0 y1 y2 y3 y4 y5 y6))
  | 0 => fun _ _ _ _ _ _ _ r h => by simp [vec_Order.j0] at h
  | k + 1 => by
    have ih0 := vec_Order.mono_l k
    · intro y0 y1 y2 y3 y4 y5 y6
      unfold vec_Order.j0
      repeat' first
      | (with_reducible exact ih0 _ _ _ _ _ _ _)
      | (with_reducible exact num_Compare.mono _ _ _ _ _ _ _)
      | (with_reducible exact LeO.refl _)
      | (with_reducible exact LeO.none _)
      | (with_reducible refine LeO.ite ?_ ?_)
      | (with_reducible refine LeO.bind ?_ (fun _ => ?_))
      | exact ih0 _ _ _ _ _ _ _
      | exact num_Compare.mono _ _ _ _ _ _ _
      | exact LeO.none _
      | refine LeO.ite ?_ ?_
      | refine LeO.bind ?_ (fun _ => ?_)
theorem vec_Order.mono : ∀ a0 a1 a2 a3 a4 a5 a6 a7 k, LeO (vec_Order.f k a0 a1 a2 a3 a4 a5 a6 a7) (vec_Order.f (k + 1) a0 a1 a2 a3 a4 a5 a6 a7) := by
  intro a0 a1 a2 a3 a4 a5 a6 a7 k
  have ih0 := vec_Order.mono_l k
  unfold vec_Order.f
  repeat' first
      | (with_reducible exact ih0 _ _ _ _ _ _ _)
      | (with_reducible exact num_Compare.mono _ _ _ _ _ _ _)
      | (with_reducible exact LeO.refl _)
      | (with_reducible exact LeO.none _)
      | (with_reducible refine LeO.ite ?_ ?_)
      | (with_reducible refine LeO.bind ?_ (fun _ => ?_))
      | exact ih0 _ _ _ _ _ _ _
      | exact num_Compare.mono _ _ _ _ _ _ _
      | exact LeO.none _
      | refine LeO.ite ?_ ?_
      | refine LeO.bind ?_ (fun _ => ?_)
end Go.Proofs.Ytkbcjagkacijnaa.PVec
end
section
-- Written for this claim by this project's own driver over the kit's print: functions and their contracts.
namespace Go.Proofs.Ytkbcjagkacijnaa.PVq
open Go.RowKit Go.Proofs.YtkbcjagkacijnaaW.PrintWords Go.Proofs.YtkbcjagkacijnaaW.PrintLast Go.Proofs.YtkbcjagkacijnaaW.PrintMore
attribute [local go_sem] max2_int min2_int max_two min_two max_three min_three max_four min_four   -- for this text's walks alone
set_option linter.unusedVariables false
set_option linter.unusedSimpArgs false



def errW : Option Int → Value
  | none => .nilIface
  | some c => .iface 0 (.int .i64 c)
theorem errW_none : errW none = .nilIface := rfl
theorem errW_some (c : Int) : errW (some c) = .iface 0 (.int .i64 c) := rfl

-- the values' own types
end Go.Proofs.Ytkbcjagkacijnaa.PVq
end
section
namespace Go.Proofs.Ytkbcjagkacijnaa.PVq
open Go.RowKit Go.Proofs.YtkbcjagkacijnaaW.PrintWords Go.Proofs.YtkbcjagkacijnaaW.PrintLast
set_option linter.unusedVariables false
abbrev furlongref01_Times.f := @PNum.furlongref01_Times.f
abbrev furlongref01_Plus.f := @PNum.furlongref01_Plus.f
end Go.Proofs.Ytkbcjagkacijnaa.PVq
end
section
-- Written for this claim by this project's own driver over the kit's print: functions and their contracts.
namespace Go.Proofs.Ytkbcjagkacijnaa.PVq
open Go.RowKit Go.Proofs.YtkbcjagkacijnaaW.PrintWords Go.Proofs.YtkbcjagkacijnaaW.PrintLast Go.Proofs.YtkbcjagkacijnaaW.PrintMore
attribute [local go_sem] max2_int min2_int max_two min_two max_three min_three max_four min_four   -- for this text's walks alone
set_option linter.unusedVariables false
set_option linter.unusedSimpArgs false

def furlongref02_times.l0 : Nat → Int → Int → Int → Int → Int → Int → Option (Int × Int)
  | 0, _, _, _, _, _, _ => none
  | k + 1, x2, x9, x105000, x105001, x106000, x106001 => if x9 ≥ 0 then ((furlongref01_Plus.f x106000 x106001 x106000 x106001).bind fun bt106 => (if 0 ≤ x9 then (if (Go.bits .and .i64 (shr .i64 x2 x9) 1) = 1 then ((furlongref01_Plus.f bt106.1 bt106.2 x105000 x105001).bind fun bt108 => (furlongref02_times.l0 k x2 (wrap64 (x9 - 1)) x105000 x105001 bt108.1 bt108.2)) else (furlongref02_times.l0 k x2 (wrap64 (x9 - 1)) x105000 x105001 bt106.1 bt106.2)) else (none))) else (some (x106000, x106001))
def furlongref02_times.f (k : Nat) (a0 : Int) (a1 : Int) (a2 : Int) : Option (Int × Int) := (furlongref01_Times.f a0 a1).bind fun bt102 => (furlongref02_times.l0 k a2 20 bt102.1 bt102.2 0 0)
theorem furlongref02_times.mono_l : ∀ k, (∀ y0 y1 y2 y3 y4 y5, LeO (furlongref02_times.l0 k y0 y1 y2 y3 y4 y5) (furlongref02_times.l0 (k + 1) y0 y1 y2 y3 y4 y5))
  | 0 => fun _ _ _ _ _ _ r h => by simp [furlongref02_times.l0] at h
  | k + 1 => by
    have ih0 := furlongref02_times.mono_l k
    · intro y0 y1 y2 y3 y4 y5
      unfold furlongref02_times.l0
      repeat' first
      | (with_reducible exact ih0 _ _ _ _ _ _)
      | (with_reducible exact LeO.refl _)
      | (with_reducible exact LeO.none _)
      | (with_reducible refine LeO.ite ?_ ?_)
      | (with_reducible refine LeO.bind ?_ (fun _ => ?_))
      | exact ih0 _ _ _ _ _ _
      | exact LeO.none _
      | refine LeO.ite ?_ ?_
      | refine LeO.bind ?_ (fun _ => ?_)
theorem furlongref02_times.mono : ∀ a0 a1 a2 k, LeO (furlongref02_times.f k a0 a1 a2) (furlongref02_times.f (k + 1) a0 a1 a2) := by
  intro a0 a1 a2 k
  have ih0 := furlongref02_times.mono_l k
  unfold furlongref02_times.f
  repeat' first
      | (with_reducible exact ih0 _ _ _ _ _ _)
      | (with_reducible exact LeO.refl _)
      | (with_reducible exact LeO.none _)
      | (with_reducible refine LeO.ite ?_ ?_)
      | (with_reducible refine LeO.bind ?_ (fun _ => ?_))
      | exact ih0 _ _ _ _ _ _
      | exact LeO.none _
      | refine LeO.ite ?_ ?_
      | refine LeO.bind ?_ (fun _ => ?_)
end Go.Proofs.Ytkbcjagkacijnaa.PVq
end
section
namespace Go.Proofs.Ytkbcjagkacijnaa.PVec
open Go.Proofs.Ytkbcjagkacijnaa.PVq
open Go.RowKit Go.Shelf Go.Proofs.Ytkbcjagkacijnaa.Iter Go.Proofs.YtkbcjagkacijnaaW.PrintWords Go.Proofs.YtkbcjagkacijnaaW.PrintLast
set_option linter.unusedVariables false
set_option linter.unusedSimpArgs false

def furlongref02_Less.f (k : Nat) (a0 a1 wa b0 b1 wb t0 t1 : Int) : Option Int := (furlongref02_Share.f a0 a1 t0 t1).bind fun f => (furlongref02_Share.f b0 b1 t0 t1).bind fun g =>
  if f.2 = 0 then (if g.2 = 0 then some 0 else some 1) else if g.2 = 0 then some (-1) else
  (furlongref02_times.f k f.1 g.2 wb).bind fun x => (furlongref02_times.f k g.1 f.2 wa).bind fun y =>
  (PNum.furlongref01_Less.f x.1 x.2 y.1 y.2).bind fun t => if t = true then some (-1) else (PNum.furlongref01_Less.f y.1 y.2 x.1 x.2).bind fun u => if u = true then some 1 else some 0
theorem furlongref02_Less.mono : ∀ a0 a1 a2 a3 a4 a5 a6 a7 k, LeO (furlongref02_Less.f k a0 a1 a2 a3 a4 a5 a6 a7) (furlongref02_Less.f (k + 1) a0 a1 a2 a3 a4 a5 a6 a7) := by
  intro a0 a1 a2 a3 a4 a5 a6 a7 k
  unfold furlongref02_Less.f
  repeat' first
      | (with_reducible exact furlongref02_times.mono _ _ _ _)
      | (with_reducible exact LeO.refl _)
      | (with_reducible exact LeO.none _)
      | (with_reducible refine LeO.ite ?_ ?_)
      | (with_reducible refine LeO.bind ?_ (fun _ => ?_))

end Go.Proofs.Ytkbcjagkacijnaa.PVec
end
section
-- Written for this claim by this project's own driver over the kit's print: functions and their contracts.
namespace Go.Proofs.Ytkbcjagkacijnaa.PVec
open Go.RowKit Go.Proofs.YtkbcjagkacijnaaW.PrintWords Go.Proofs.YtkbcjagkacijnaaW.PrintLast Go.Proofs.YtkbcjagkacijnaaW.PrintMore
attribute [local go_sem] max2_int min2_int max_two min_two max_three min_three max_four min_four   -- for this text's walks alone
set_option linter.unusedVariables false
set_option linter.unusedSimpArgs false

def vec_Less.f (k : Nat) (a0_0 : Int) (a0_1 : Int) (a1 : Int) (a2_0 : Int) (a2_1 : Int) (a3 : Int) (a4_0 : Int) (a4_1 : Int) : Option (Int × Int) := (vec_Good.f a0_0 a0_1).bind fun t217 => (if t217 = true then ((vec_Good.f a2_0 a2_1).bind fun t218 => (if t218 = true then ((vec_Good.f a4_0 a4_1).bind fun t219 => (if t219 = true then (if a1 < 1 then (some (0, 1)) else (if a1 > 1048576 then (some (0, 1)) else (if a3 < 1 then (some (0, 1)) else (if a3 > 1048576 then (some (0, 1)) else ((vec_Order.f k a0_0 a0_1 a1 a2_0 a2_1 a3 a4_0 a4_1).bind fun t220 => (some (t220, 0))))))) else (some (0, 1)))) else (some (0, 1)))) else (some (0, 1)))
theorem vec_Less.mono : ∀ a0 a1 a2 a3 a4 a5 a6 a7 k, LeO (vec_Less.f k a0 a1 a2 a3 a4 a5 a6 a7) (vec_Less.f (k + 1) a0 a1 a2 a3 a4 a5 a6 a7) := by
  intro a0 a1 a2 a3 a4 a5 a6 a7 k
  unfold vec_Less.f
  repeat' first
      | (with_reducible exact vec_Order.mono _ _ _ _ _ _ _ _ _)
      | (with_reducible exact LeO.refl _)
      | (with_reducible exact LeO.none _)
      | (with_reducible refine LeO.ite ?_ ?_)
      | (with_reducible refine LeO.bind ?_ (fun _ => ?_))
      | exact vec_Order.mono _ _ _ _ _ _ _ _ _
      | exact LeO.none _
      | refine LeO.ite ?_ ?_
      | refine LeO.bind ?_ (fun _ => ?_)
def furlongref02_DocLess.j0 : Nat → Int → Int → Int → Bool → Int → Int → Int → Int → Int → Int → Option (Int × Int)
  | 0, _, _, _, _, _, _, _, _, _, _ => none
  | k + 1, x1, x3, x12, x31, x222000, x222001, x223000, x223001, x224000, x224001 => if x31 = true then (if 1 = 0 then ((furlongref02_Less.f k x222000 x222001 x1 x223000 x223001 x3 x224000 x224001).bind fun t228 => (some (t228, 1))) else (some (0, 1))) else (if x12 = 0 then ((furlongref02_Less.f k x222000 x222001 x1 x223000 x223001 x3 x224000 x224001).bind fun t229 => (some (t229, x12))) else (some (0, x12)))
def furlongref02_DocLess.f (k : Nat) (a0_0 : Int) (a0_1 : Int) (a1 : Int) (a2_0 : Int) (a2_1 : Int) (a3 : Int) (a4_0 : Int) (a4_1 : Int) : Option (Int × Int) := (furlongref02_Check.f k (([(⟨a0_0, a0_1⟩ : S25), (⟨a2_0, a2_1⟩ : S25), (⟨a4_0, a4_1⟩ : S25)] : List (S25)))).bind fun t227 => (if a1 < 1 then (furlongref02_DocLess.j0 k a1 a3 t227 true a0_0 a0_1 a2_0 a2_1 a4_0 a4_1) else (if a1 > 1048576 then (furlongref02_DocLess.j0 k a1 a3 t227 true a0_0 a0_1 a2_0 a2_1 a4_0 a4_1) else (if a3 < 1 then (furlongref02_DocLess.j0 k a1 a3 t227 true a0_0 a0_1 a2_0 a2_1 a4_0 a4_1) else (furlongref02_DocLess.j0 k a1 a3 t227 (decide (a3 > 1048576)) a0_0 a0_1 a2_0 a2_1 a4_0 a4_1))))
theorem furlongref02_DocLess.mono_l : ∀ k, (∀ y0 y1 y2 y3 y4 y5 y6 y7 y8 y9, LeO (furlongref02_DocLess.j0 k y0 y1 y2 y3 y4 y5 y6 y7 y8 y9) (furlongref02_DocLess.j0 (k + 1) y0 y1 y2 y3 y4 y5 y6 y7 y8 y9))
  | 0 => fun _ _ _ _ _ _ _ _ _ _ r h => by simp [furlongref02_DocLess.j0] at h
  | k + 1 => by
    have ih0 := furlongref02_DocLess.mono_l k
    · intro y0 y1 y2 y3 y4 y5 y6 y7 y8 y9
      unfold furlongref02_DocLess.j0
      repeat' first
      | (with_reducible exact ih0 _ _ _ _ _ _ _ _ _ _)
      | (with_reducible exact furlongref02_Check.mono _ _)
      | (with_reducible exact furlongref02_Less.mono _ _ _ _ _ _ _ _ _)
      | (with_reducible exact LeO.refl _)
      | (with_reducible exact LeO.none _)
      | (with_reducible refine LeO.ite ?_ ?_)
      | (with_reducible refine LeO.bind ?_ (fun _ => ?_))
      | exact ih0 _ _ _ _ _ _ _ _ _ _
      | exact furlongref02_Check.mono _ _
      | exact furlongref02_Less.mono _ _ _ _ _ _ _ _ _
      | exact LeO.none _
      | refine LeO.ite ?_ ?_
      | refine LeO.bind ?_ (fun _ => ?_)
theorem furlongref02_DocLess.mono : ∀ a0 a1 a2 a3 a4 a5 a6 a7 k, LeO (furlongref02_DocLess.f k a0 a1 a2 a3 a4 a5 a6 a7) (furlongref02_DocLess.f (k + 1) a0 a1 a2 a3 a4 a5 a6 a7) := by
  intro a0 a1 a2 a3 a4 a5 a6 a7 k
  have ih0 := furlongref02_DocLess.mono_l k
  unfold furlongref02_DocLess.f
  repeat' first
      | (with_reducible exact ih0 _ _ _ _ _ _ _ _ _ _)
      | (with_reducible exact furlongref02_Check.mono _ _)
      | (with_reducible exact furlongref02_Less.mono _ _ _ _ _ _ _ _ _)
      | (with_reducible exact LeO.refl _)
      | (with_reducible exact LeO.none _)
      | (with_reducible refine LeO.ite ?_ ?_)
      | (with_reducible refine LeO.bind ?_ (fun _ => ?_))
      | exact ih0 _ _ _ _ _ _ _ _ _ _
      | exact furlongref02_Check.mono _ _
      | exact furlongref02_Less.mono _ _ _ _ _ _ _ _ _
      | exact LeO.none _
      | refine LeO.ite ?_ ?_
      | refine LeO.bind ?_ (fun _ => ?_)
def furlonglaw02_VecOrders.f (k : Nat) (a0_0 : Int) (a0_1 : Int) (a1 : Int) (a2_0 : Int) (a2_1 : Int) (a3 : Int) (a4_0 : Int) (a4_1 : Int) : Option (Bool) := (furlonglaw02_awake.f k).bind fun t233 => (if t233 = true then ((vec_Less.f k a0_0 a0_1 a1 a2_0 a2_1 a3 a4_0 a4_1).bind fun bt234 => ((furlongref02_DocLess.f k a0_0 a0_1 a1 a2_0 a2_1 a3 a4_0 a4_1).bind fun bt236 => (if bt234.1 = bt236.1 then (some (bt234.2 == bt236.2)) else (some false)))) else (some false))
theorem furlonglaw02_VecOrders.mono : ∀ a0 a1 a2 a3 a4 a5 a6 a7 k, LeO (furlonglaw02_VecOrders.f k a0 a1 a2 a3 a4 a5 a6 a7) (furlonglaw02_VecOrders.f (k + 1) a0 a1 a2 a3 a4 a5 a6 a7) := by
  intro a0 a1 a2 a3 a4 a5 a6 a7 k
  unfold furlonglaw02_VecOrders.f
  repeat' first
      | (with_reducible exact furlonglaw02_awake.mono _)
      | (with_reducible exact furlongref02_DocLess.mono _ _ _ _ _ _ _ _ _)
      | (with_reducible exact vec_Less.mono _ _ _ _ _ _ _ _ _)
      | (with_reducible exact LeO.refl _)
      | (with_reducible exact LeO.none _)
      | (with_reducible refine LeO.ite ?_ ?_)
      | (with_reducible refine LeO.bind ?_ (fun _ => ?_))
      | exact furlonglaw02_awake.mono _
      | exact furlongref02_DocLess.mono _ _ _ _ _ _ _ _ _
      | exact vec_Less.mono _ _ _ _ _ _ _ _ _
      | exact LeO.none _
      | refine LeO.ite ?_ ?_
      | refine LeO.bind ?_ (fun _ => ?_)
end Go.Proofs.Ytkbcjagkacijnaa.PVec
end
section
-- Written for this claim by this project's own driver over the kit's print: functions and their contracts.
namespace Go.Proofs.Ytkbcjagkacijnaa.PVec
open Go.RowKit Go.Proofs.YtkbcjagkacijnaaW.PrintWords Go.Proofs.YtkbcjagkacijnaaW.PrintLast Go.Proofs.YtkbcjagkacijnaaW.PrintMore
attribute [local go_sem] max2_int min2_int max_two min_two max_three min_three max_four min_four   -- for this text's walks alone
set_option linter.unusedVariables false
set_option linter.unusedSimpArgs false

mutual
def furlonglaw02_VecTurns.j0 : Nat → Int → Int → Int → Int → Int → Int → Int → Int → Bool → Int → Int → Int → Int → Int → Int → Int → Int → Int → Option (Bool)
  | 0, _, _, _, _, _, _, _, _, _, _, _, _, _, _, _, _, _, _ => none
  | k + 1, x11, x12, x13, x14, x15, x16, x17, x18, x82, x239000, x239001, x240000, x240001, x242000, x242001, x242002, x243000, x243001 => if x82 = true then (if x12 = 0 then (if x16 = 0 then (some (x18 != 0)) else (some true)) else (if x14 = 0 then (if x16 = 0 then (some (x18 != 0)) else (some true)) else (some true))) else (if x11 = (wrap64 (-x13)) then (if x11 ≤ 0 then (if x15 ≤ 0 then (furlonglaw02_VecTurns.j1 k (decide (x17 > 0)) x239000 x239001 x240000 x240001 x242000 x242001 x242002 x243000 x243001) else (furlonglaw02_VecTurns.j1 k false x239000 x239001 x240000 x240001 x242000 x242001 x242002 x243000 x243001)) else (furlonglaw02_VecTurns.j1 k false x239000 x239001 x240000 x240001 x242000 x242001 x242002 x243000 x243001)) else (furlonglaw02_VecTurns.j1 k true x239000 x239001 x240000 x240001 x242000 x242001 x242002 x243000 x243001))
def furlonglaw02_VecTurns.j1 : Nat → Bool → Int → Int → Int → Int → Int → Int → Int → Int → Int → Option (Bool)
  | 0, _, _, _, _, _, _, _, _, _, _ => none
  | k + 1, x112, x239000, x239001, x240000, x240001, x242000, x242001, x242002, x243000, x243001 => if x112 = true then (some false) else ((vec_Add.f k x239000 x239001 x240000 x240001).bind fun bt252 => (if bt252.2.2 = 0 then ((vec_Less.f k x239000 x239001 x242000 bt252.1 bt252.2.1 x242000 x243000 x243001).bind fun bt256 => (if bt256.2 = 0 then (some (decide (bt256.1 ≤ 0))) else (some false))) else (some true)))
end
def furlonglaw02_VecTurns.f (k : Nat) (a0_0 : Int) (a0_1 : Int) (a1_0 : Int) (a1_1 : Int) (a2_0 : Int) (a2_1 : Int) (a3_0 : Int) (a3_1 : Int) (a3_2 : Int) (a4_0 : Int) (a4_1 : Int) : Option (Bool) := (furlonglaw02_awake.f k).bind fun t243 => (if t243 = true then ((vec_Less.f k a0_0 a0_1 a3_0 a1_0 a1_1 a3_1 a4_0 a4_1).bind fun bt244 => ((vec_Less.f k a1_0 a1_1 a3_1 a0_0 a0_1 a3_0 a4_0 a4_1).bind fun bt246 => ((vec_Less.f k a1_0 a1_1 a3_1 a2_0 a2_1 a3_2 a4_0 a4_1).bind fun bt248 => ((vec_Less.f k a0_0 a0_1 a3_0 a2_0 a2_1 a3_2 a4_0 a4_1).bind fun bt250 => (if bt244.2 = 0 then (if bt246.2 = 0 then (if bt248.2 = 0 then (furlonglaw02_VecTurns.j0 k bt244.1 bt244.2 bt246.1 bt246.2 bt248.1 bt248.2 bt250.1 bt250.2 (bt250.2 != 0) a0_0 a0_1 a1_0 a1_1 a3_0 a3_1 a3_2 a4_0 a4_1) else (furlonglaw02_VecTurns.j0 k bt244.1 bt244.2 bt246.1 bt246.2 bt248.1 bt248.2 bt250.1 bt250.2 true a0_0 a0_1 a1_0 a1_1 a3_0 a3_1 a3_2 a4_0 a4_1)) else (furlonglaw02_VecTurns.j0 k bt244.1 bt244.2 bt246.1 bt246.2 bt248.1 bt248.2 bt250.1 bt250.2 true a0_0 a0_1 a1_0 a1_1 a3_0 a3_1 a3_2 a4_0 a4_1)) else (furlonglaw02_VecTurns.j0 k bt244.1 bt244.2 bt246.1 bt246.2 bt248.1 bt248.2 bt250.1 bt250.2 true a0_0 a0_1 a1_0 a1_1 a3_0 a3_1 a3_2 a4_0 a4_1)))))) else (some false))
theorem furlonglaw02_VecTurns.mono_l : ∀ k, (∀ y0 y1 y2 y3 y4 y5 y6 y7 y8 y9 y10 y11 y12 y13 y14 y15 y16 y17, LeO (furlonglaw02_VecTurns.j0 k y0 y1 y2 y3 y4 y5 y6 y7 y8 y9 y10 y11 y12 y13 y14 y15 y16 y17) (furlonglaw02_VecTurns.j0 (k + 1) y0 y1 y2 y3 y4 y5 y6 y7 y8 y9 y10 y11 y12 y13 y14 y15 y16 y17)) ∧ (∀ y0 y1 y2 y3 y4 y5 y6 y7 y8 y9, LeO (furlonglaw02_VecTurns.j1 k y0 y1 y2 y3 y4 y5 y6 y7 y8 y9) (furlonglaw02_VecTurns.j1 (k + 1) y0 y1 y2 y3 y4 y5 y6 y7 y8 y9))
  | 0 => ⟨fun _ _ _ _ _ _ _ _ _ _ _ _ _ _ _ _ _ _ r h => by simp [furlonglaw02_VecTurns.j0] at h, fun _ _ _ _ _ _ _ _ _ _ r h => by simp [furlonglaw02_VecTurns.j1] at h⟩
  | k + 1 => by
    obtain ⟨ih0, ih1⟩ := furlonglaw02_VecTurns.mono_l k
    refine ⟨?_, ?_⟩
    · intro y0 y1 y2 y3 y4 y5 y6 y7 y8 y9 y10 y11 y12 y13 y14 y15 y16 y17
      unfold furlonglaw02_VecTurns.j0
      repeat' first
      | (with_reducible exact ih0 _ _ _ _ _ _ _ _ _ _ _ _ _ _ _ _ _ _)
      | (with_reducible exact ih1 _ _ _ _ _ _ _ _ _ _)
      | (with_reducible exact furlonglaw02_awake.mono _)
      | (with_reducible exact vec_Add.mono _ _ _ _ _)
      | (with_reducible exact vec_Less.mono _ _ _ _ _ _ _ _ _)
      | (with_reducible exact LeO.refl _)
      | (with_reducible exact LeO.none _)
      | (with_reducible refine LeO.ite ?_ ?_)
      | (with_reducible refine LeO.bind ?_ (fun _ => ?_))
      | exact ih0 _ _ _ _ _ _ _ _ _ _ _ _ _ _ _ _ _ _
      | exact ih1 _ _ _ _ _ _ _ _ _ _
      | exact furlonglaw02_awake.mono _
      | exact vec_Add.mono _ _ _ _ _
      | exact vec_Less.mono _ _ _ _ _ _ _ _ _
      | exact LeO.none _
      | refine LeO.ite ?_ ?_
      | refine LeO.bind ?_ (fun _ => ?_)
    · intro y0 y1 y2 y3 y4 y5 y6 y7 y8 y9
      unfold furlonglaw02_VecTurns.j1
      repeat' first
      | (with_reducible exact ih0 _ _ _ _ _ _ _ _ _ _ _ _ _ _ _ _ _ _)
      | (with_reducible exact ih1 _ _ _ _ _ _ _ _ _ _)
      | (with_reducible exact furlonglaw02_awake.mono _)
      | (with_reducible exact vec_Add.mono _ _ _ _ _)
      | (with_reducible exact vec_Less.mono _ _ _ _ _ _ _ _ _)
      | (with_reducible exact LeO.refl _)
      | (with_reducible exact LeO.none _)
      | (with_reducible refine LeO.ite ?_ ?_)
      | (with_reducible refine LeO.bind ?_ (fun _ => ?_))
      | exact ih0 _ _ _ _ _ _ _ _ _ _ _ _ _ _ _ _ _ _
      | exact ih1 _ _ _ _ _ _ _ _ _ _
      | exact furlonglaw02_awake.mono _
      | exact vec_Add.mono _ _ _ _ _
      | exact vec_Less.mono _ _ _ _ _ _ _ _ _
      | exact LeO.none _
      | refine LeO.ite ?_ ?_
      | refine LeO.bind ?_ (fun _ => ?_)
theorem furlonglaw02_VecTurns.mono : ∀ a0 a1 a2 a3 a4 a5 a6 a7 a8 a9 a10 k, LeO (furlonglaw02_VecTurns.f k a0 a1 a2 a3 a4 a5 a6 a7 a8 a9 a10) (furlonglaw02_VecTurns.f (k + 1) a0 a1 a2 a3 a4 a5 a6 a7 a8 a9 a10) := by
  intro a0 a1 a2 a3 a4 a5 a6 a7 a8 a9 a10 k
  obtain ⟨ih0, ih1⟩ := furlonglaw02_VecTurns.mono_l k
  unfold furlonglaw02_VecTurns.f
  repeat' first
      | (with_reducible exact ih0 _ _ _ _ _ _ _ _ _ _ _ _ _ _ _ _ _ _)
      | (with_reducible exact ih1 _ _ _ _ _ _ _ _ _ _)
      | (with_reducible exact furlonglaw02_awake.mono _)
      | (with_reducible exact vec_Add.mono _ _ _ _ _)
      | (with_reducible exact vec_Less.mono _ _ _ _ _ _ _ _ _)
      | (with_reducible exact LeO.refl _)
      | (with_reducible exact LeO.none _)
      | (with_reducible refine LeO.ite ?_ ?_)
      | (with_reducible refine LeO.bind ?_ (fun _ => ?_))
      | exact ih0 _ _ _ _ _ _ _ _ _ _ _ _ _ _ _ _ _ _
      | exact ih1 _ _ _ _ _ _ _ _ _ _
      | exact furlonglaw02_awake.mono _
      | exact vec_Add.mono _ _ _ _ _
      | exact vec_Less.mono _ _ _ _ _ _ _ _ _
      | exact LeO.none _
      | refine LeO.ite ?_ ?_
      | refine LeO.bind ?_ (fun _ => ?_)
def furlonglaw02_VecAlike.f (k : Nat) (a0_0 : Int) (a0_1 : Int) (a1 : Int) (a2_0 : Int) (a2_1 : Int) : Option (Bool) := (furlonglaw02_awake.f k).bind fun t260 => (if t260 = true then ((furlongref02_Check.f k (([(⟨a0_0, a0_1⟩ : S25), (⟨a2_0, a2_1⟩ : S25)] : List (S25)))).bind fun t264 => (if t264 = 0 then (if a1 < 1 then (some true) else (if a1 > 524288 then (some true) else (if a0_0 > 549755813888 then (some true) else (if a0_1 > 549755813888 then (some true) else ((vec_Less.f k a0_0 a0_1 a1 (wrap64 (2 * a0_0)) (wrap64 (2 * a0_1)) (wrap64 (2 * a1)) a2_0 a2_1).bind fun bt265 => (if bt265.2 = 0 then (some (bt265.1 == 0)) else (some false))))))) else (some true))) else (some false))
theorem furlonglaw02_VecAlike.mono : ∀ a0 a1 a2 a3 a4 k, LeO (furlonglaw02_VecAlike.f k a0 a1 a2 a3 a4) (furlonglaw02_VecAlike.f (k + 1) a0 a1 a2 a3 a4) := by
  intro a0 a1 a2 a3 a4 k
  unfold furlonglaw02_VecAlike.f
  repeat' first
      | (with_reducible exact furlonglaw02_awake.mono _)
      | (with_reducible exact furlongref02_Check.mono _ _)
      | (with_reducible exact vec_Less.mono _ _ _ _ _ _ _ _ _)
      | (with_reducible exact LeO.refl _)
      | (with_reducible exact LeO.none _)
      | (with_reducible refine LeO.ite ?_ ?_)
      | (with_reducible refine LeO.bind ?_ (fun _ => ?_))
      | exact furlonglaw02_awake.mono _
      | exact furlongref02_Check.mono _ _
      | exact vec_Less.mono _ _ _ _ _ _ _ _ _
      | exact LeO.none _
      | refine LeO.ite ?_ ?_
      | refine LeO.bind ?_ (fun _ => ?_)
end Go.Proofs.Ytkbcjagkacijnaa.PVec
end
section
namespace Go.Proofs.Ytkbcjagkacijnaa.VecLib
set_option linter.unusedVariables false
set_option linter.unusedSimpArgs false
open Go.RowKit Go.Proofs.Ytkbcjagkacijnaa.NumLib Go.Proofs.Ytkbcjagkacijnaa.PVec Go.Proofs.YtkbcjagkacijnaaW.PrintWords Go.Proofs.YtkbcjagkacijnaaW.PrintLast

theorem okRes_iff {x : Int} : okRes x = true ↔ 0 ≤ x ∧ x ≤ 1099511627776 := by simp [okRes]
def good (a0 a1 : Int) : Bool := okRes a0 && okRes a1
theorem good_iff {a0 a1 : Int} : good a0 a1 = true ↔ (0 ≤ a0 ∧ a0 ≤ 1099511627776) ∧ (0 ≤ a1 ∧ a1 ≤ 1099511627776) := by
  unfold good; rw [Bool.and_eq_true, okRes_iff, okRes_iff]
theorem good_f (a0 a1 : Int) : vec_Good.f a0 a1 = some (good a0 a1) := rfl
theorem rgood_f (a0 a1 : Int) : furlongref02_Good.f a0 a1 = some (good a0 a1) := by
  unfold furlongref02_Good.f
  by_cases h1 : 0 ≤ a0 <;> by_cases h2 : a0 ≤ 1099511627776 <;> by_cases h3 : 0 ≤ a1 <;> by_cases h4 : a1 ≤ 1099511627776 <;> simp [good, okRes, h1, h2, h3, h4]
theorem check_f (a0 a1 : Int) : vec_Check.f a0 a1 = some (if good a0 a1 = true then 0 else 1) := by
  unfold vec_Check.f
  rw [good_f, Option.bind_some]
  cases good a0 a1 <;> rfl
theorem rcheck_l0 (l : List S25) (hl : l.length ≤ 100) (n : Nat) : ∀ (k i : Nat), i + n = l.length → n < k →
    furlongref02_Check.l0 k l (l.length : Int) (i : Int) = some (if (l.drop i).all (fun x => good x.f0 x.f1) = true then 0 else 1) := by
  induction n with
  | zero =>
    intro k i hi hk
    obtain ⟨k, rfl⟩ : ∃ m, k = m + 1 := ⟨k - 1, by omega⟩
    unfold furlongref02_Check.l0
    rw [if_neg (by omega), List.drop_of_length_le (by omega)]
    rfl
  | succ n ih =>
    intro k i hi hk
    obtain ⟨k, rfl⟩ : ∃ m, k = m + 1 := ⟨k - 1, by omega⟩
    unfold furlongref02_Check.l0
    rw [if_pos (by omega), if_pos (by omega), if_pos (by omega), rgood_f, Option.bind_some]
    have hd : l.drop i = rd_T25 l (i : Int) :: l.drop (i + 1) := by
      rw [List.drop_eq_getElem_cons (by omega)]
      simp [rd_T25, show i < l.length by omega]
    rw [hd, List.all_cons]
    cases good (rd_T25 l (i : Int)).f0 (rd_T25 l (i : Int)).f1
    · simp
    · rw [if_pos rfl, Bool.true_and, w64_id (by omega)]
      exact ih k (i + 1) (by omega) (by omega)
theorem rcheck_f {k : Nat} (l : List S25) (hl : l.length ≤ 100) (hk : l.length < k) : furlongref02_Check.f k l = some (if l.all (fun x => good x.f0 x.f1) = true then 0 else 1) := by
  have := rcheck_l0 l hl l.length k 0 (by omega) hk
  simpa [furlongref02_Check.f] using this

theorem done_f {k : Nat} (a0 a1 b0 b1 c0 c1 : Int) : vec_done.f (k + 1) a0 a1 b0 b1 c0 c1 = some (if (good a0 a1 && good b0 b1) = true then (if good c0 c1 = true then (c0, c1, 0) else (0, 0, 2)) else (0, 0, 1)) := by
  unfold vec_done.f
  simp only [good_f, Option.bind_some, vec_done.j0]
  cases good a0 a1 <;> cases good b0 b1 <;> cases good c0 c1 <;> rfl
theorem add_f {k : Nat} {a0 a1 b0 b1 : Int} (ha0 : in64 a0) (ha1 : in64 a1) (hb0 : in64 b0) (hb1 : in64 b1) :
    vec_Add.f (k + 1) a0 a1 b0 b1 = some (if (good a0 a1 && good b0 b1) = true then (if good (a0 + b0) (a1 + b1) = true then (a0 + b0, a1 + b1, 0) else (0, 0, 2)) else (0, 0, 1)) := by
  unfold vec_Add.f
  rw [done_f, Option.bind_some]
  cases h : good a0 a1 && good b0 b1
  · rfl
  · rw [Bool.and_eq_true, good_iff, good_iff] at h
    rw [w64_id (by omega), w64_id (by omega)]
theorem sub_f {k : Nat} {a0 a1 b0 b1 : Int} (ha0 : in64 a0) (ha1 : in64 a1) (hb0 : in64 b0) (hb1 : in64 b1) :
    vec_Sub.f (k + 1) a0 a1 b0 b1 = some (if (good a0 a1 && good b0 b1) = true then (if good (a0 - b0) (a1 - b1) = true then (a0 - b0, a1 - b1, 0) else (0, 0, 2)) else (0, 0, 1)) := by
  unfold vec_Sub.f
  rw [done_f, Option.bind_some]
  cases h : good a0 a1 && good b0 b1
  · rfl
  · rw [Bool.and_eq_true, good_iff, good_iff] at h
    rw [w64_id (by omega), w64_id (by omega)]
theorem radd_f {k : Nat} {a0 a1 b0 b1 : Int} (hk : 2 < k) (ha0 : in64 a0) (ha1 : in64 a1) (hb0 : in64 b0) (hb1 : in64 b1) :
    furlongref02_Add.f k a0 a1 b0 b1 = some (if (good a0 a1 && good b0 b1) = true then (if good (a0 + b0) (a1 + b1) = true then (a0 + b0, a1 + b1, 0) else (0, 0, 2)) else (0, 0, 1)) := by
  unfold furlongref02_Add.f
  rw [rcheck_f _ (by simp) (by simpa using hk), Option.bind_some]
  simp only [List.all_cons, List.all_nil, Bool.and_true]
  cases h : good a0 a1 && good b0 b1
  · rfl
  · rw [Bool.and_eq_true, good_iff, good_iff] at h
    rw [w64_id (by omega), w64_id (by omega), rgood_f]
    cases good (a0 + b0) (a1 + b1) <;> rfl
theorem rsub_f {k : Nat} {a0 a1 b0 b1 : Int} (hk : 2 < k) (ha0 : in64 a0) (ha1 : in64 a1) (hb0 : in64 b0) (hb1 : in64 b1) :
    furlongref02_Sub.f k a0 a1 b0 b1 = some (if (good a0 a1 && good b0 b1) = true then (if good (a0 - b0) (a1 - b1) = true then (a0 - b0, a1 - b1, 0) else (0, 0, 2)) else (0, 0, 1)) := by
  unfold furlongref02_Sub.f
  rw [rcheck_f _ (by simp) (by simpa using hk), Option.bind_some]
  simp only [List.all_cons, List.all_nil, Bool.and_true]
  cases h : good a0 a1 && good b0 b1
  · rfl
  · rw [Bool.and_eq_true, good_iff, good_iff] at h
    rw [w64_id (by omega), w64_id (by omega), rgood_f]
    cases good (a0 - b0) (a1 - b1) <;> rfl
theorem rfits_f (a0 a1 b0 b1 : Int) : furlongref02_Fits.f a0 a1 b0 b1 = some (decide (a0 ≤ b0) && decide (a1 ≤ b1)) := by
  unfold furlongref02_Fits.f
  by_cases h : a0 ≤ b0 <;> simp [h]

/-- A part's fraction. -/
def pt (u t : Int) : Int × Int := if t > 0 then (u, t) else if u > 0 then (1, 0) else (0, 1)
/-- The dominant share. -/
def dshr (a0 a1 b0 b1 : Int) : Int × Int := if (pt a0 b0).1 * (pt a1 b1).2 < (pt a1 b1).1 * (pt a0 b0).2 then pt a1 b1 else pt a0 b0
theorem fixd_pt {u t : Int} (hu : 0 ≤ u) (ht : 0 ≤ t) : fixd (u, t) = pt u t := by
  unfold fixd pt
  simp only
  by_cases h : t = 0
  · subst h
    by_cases h' : 0 < u
    · simp [h']
    · have : u = 0 := by omega
      subst this
      simp
  · rw [if_neg h, if_pos (by omega)]
theorem pt_ok {u t : Int} (hu : 0 ≤ u) (ht : 0 ≤ t) : 0 ≤ (pt u t).1 ∧ 0 ≤ (pt u t).2 ∧ ((pt u t).2 = 0 → (pt u t).1 = 1) := by
  unfold pt
  split
  · exact ⟨hu, ht, fun h => by simp at h; omega⟩
  · split <;> simp
theorem sgn_pos_iff {x : Int} : 0 < sgn x ↔ 0 < x := by
  unfold sgn
  split
  · omega
  · split <;> omega
theorem shareV_shr {a0 a1 b0 b1 : Int} (ha : good a0 a1 = true) (hb : good b0 b1 = true) : shareV (a0, a1) (b0, b1) = dshr a0 a1 b0 b1 := by
  rw [good_iff] at ha hb
  have h0 := pt_ok ha.1.1 hb.1.1
  unfold shareV
  simp only
  have e : stepS (-1, 1) (a0, b0) = pt a0 b0 := by
    unfold stepS
    rw [fixd_pt ha.1.1 hb.1.1, if_pos]
    rw [sgn_pos_iff]
    simp only
    by_cases h : (pt a0 b0).2 = 0
    · have := h0.2.2 h; omega
    · omega
  rw [e]
  unfold stepS dshr
  rw [fixd_pt ha.2.1 hb.2.1]
  simp only [sgn_pos_iff]
  by_cases h : (pt a0 b0).1 * (pt a1 b1).2 < (pt a1 b1).1 * (pt a0 b0).2
  · rw [if_pos h, if_pos (by omega)]
  · rw [if_neg h, if_neg (by omega)]
theorem in64_good {a0 a1 : Int} (h : good a0 a1 = true) : in64 a0 ∧ in64 a1 := by
  rw [good_iff] at h
  unfold in64
  omega
theorem share_f {a0 a1 b0 b1 : Int} (ha : good a0 a1 = true) (hb : good b0 b1 = true) : vec_share.f a0 a1 b0 b1 = some (dshr a0 a1 b0 b1) := by
  unfold vec_share.f
  rw [if_pos ⟨in64_good ha, in64_good hb⟩, shareV_shr ha hb]
theorem awake_f (k : Nat) : furlonglaw02_awake.f (k + 1) = some true := by
  unfold furlonglaw02_awake.f
  rw [add_f (by decide) (by decide) (by decide) (by decide)]
  have h : vec_Share.f 2 1 9 2 = some (1, 2, 0) := by
    unfold vec_Share.f
    rw [good_f, good_f, share_f (by decide) (by decide)]
    decide
  rw [h]
  decide

theorem VecAdds {a0 a1 b0 b1 : Int} (ha0 : in64 a0) (ha1 : in64 a1) (hb0 : in64 b0) (hb1 : in64 b1) (w : World) :
    Calls Try.prog 5 #[.agg #[.int .i64 a0, .int .i64 a1], .agg #[.int .i64 b0, .int .i64 b1]] w fun e w' => e = .returned (.bool true) ∧ Below w.heap.size w w' :=
  furlonglaw02_VecAdds.calls 9 a0 a1 b0 b1 _ _ _ _ _ _ _ _ w (awake_f 8) (add_f ha0 ha1 hb0 hb1) (sub_f ha0 ha1 hb0 hb1) (radd_f (by decide) ha0 ha1 hb0 hb1) (rsub_f (by decide) ha0 ha1 hb0 hb1) (check_f a0 a1) (by rw [rcheck_f _ (by simp) (by simp)]; simp) rfl (rfits_f a0 a1 b0 b1)
end Go.Proofs.Ytkbcjagkacijnaa.VecLib
end
section
namespace Go.Proofs.Ytkbcjagkacijnaa.Open
set_option linter.unusedVariables false
set_option linter.unusedSimpArgs false
open Go.RowKit Go.Proofs.YtkbcjagkacijnaaW.PrintWords

/-- Values of type T read as what k says; good: what is known of them; bulk: no more than the data's. -/
def Opens {α : Type} (P : Program) (T : TypeId) (k : Kd α) (good : α → Prop) (bulk : α → Nat) : Prop :=
  ∀ (H : Type) (enc : TypeId × Value → H) (W : World) (fuel : Nat) (cs : List Value) (x : DataW H × List MemPlace),
    DataW.trod enc P W 0 (fun _ => true) true fuel T cs = some x → ∃ a : α, k.K W a cs ∧ good a ∧ bulk a ≤ Rows.uptoBulk x.1

theorem Opens.int {P : Program} {T : TypeId} {q : IntKind} (h : P.underlying T = some (.int q)) : Opens P T (Kd.int q) (fun n => (Lit.int q n).wf = true) (fun _ => 1) := by
  intro H enc W fuel cs x hx
  obtain ⟨n, rfl, rfl, hw⟩ := DataW.trod_int h hx
  exact ⟨n, rfl, hw, by simp [Rows.uptoBulk]⟩
theorem Opens.bool {P : Program} {T : TypeId} (h : P.underlying T = some .bool) : Opens P T Kd.bool (fun _ => True) (fun _ => 1) := by
  intro H enc W fuel cs x hx
  obtain ⟨n, rfl, rfl⟩ := DataW.trod_bool h hx
  exact ⟨n, rfl, trivial, by simp [Rows.uptoBulk]⟩

theorem list_of {α : Type} (n : Nat) : ∀ (R : Nat → α → Prop), (∀ i, i < n → ∃ a, R i a) → ∃ l : List α, l.length = n ∧ ∀ i a, l[i]? = some a → R i a := by
  induction n with
  | zero => intro R _; exact ⟨[], rfl, fun i a h => by simp at h⟩
  | succ n ih =>
    intro R h
    obtain ⟨a, ha⟩ := h 0 (by omega)
    obtain ⟨l, hl, hr⟩ := ih (fun i a => R (i + 1) a) (fun i hi => h (i + 1) (by omega))
    refine ⟨a :: l, by simp [hl], fun i b hb => ?_⟩
    cases i with
    | zero => simp at hb; subst hb; exact ha
    | succ i => exact hr i b (by simpa using hb)

theorem cells_get {w : World} {base : Nat} {a : Addr} {n : Nat} {cs : List Value} (h : w.cells? base a n = some cs) (j : Nat) (u : Value) (hu : cs[j]? = some u) : w.cell? (a.add j) = some u := by
  unfold World.cells? at h
  split at h
  · have hl := mapM_some_length h
    have hj : j < n := by
      have := (List.getElem?_eq_some_iff.1 hu).1
      simp at hl; omega
    have := mapM_some_get h j j (by simp [hj])
    rw [this, hu]
  · cases h

theorem add_add (a : Addr) (m j : Nat) : (a.add m).add j = a.add (m + j) := by
  unfold Addr.add
  by_cases h1 : m = 0 <;> by_cases h2 : j = 0 <;> simp [h1, h2, Nat.add_assoc]
theorem bulk_sum {α H : Type} (bulk : α → Nat) : ∀ (l : List α) (ds : List (DataW H)), l.length = ds.length → (∀ (i : Nat) (a : α) (d : DataW H), l[i]? = some a → ds[i]? = some d → bulk a ≤ Rows.uptoBulk d) → (l.map bulk).sum ≤ Rows.uptoBulkAll ds
  | [], [], _, _ => by simp
  | a :: l, d :: ds, hl, h => by
    have h0 := h 0 a d rfl rfl
    have h1 := bulk_sum bulk l ds (by simpa using hl) (fun i b e hb he => h (i + 1) b e (by simpa using hb) (by simpa using he))
    simp only [List.map_cons, List.sum_cons, Rows.uptoBulkAll]
    omega
  | [], _ :: _, hl, _ => by simp at hl
  | _ :: _, [], hl, _ => by simp at hl

theorem Opens.slice {α : Type} {P : Program} {T e : TypeId} {k : Kd α} {good : α → Prop} {bulk : α → Nat} (ht : P.underlying T = some (.slice e)) (hz : P.cellsOf e = k.sz) (h : Opens P e k good bulk) :
    Opens P T (Kd.slice e k) (fun l => l.length ≤ maxLen ∧ ∀ a ∈ l, good a) (fun l => (l.map bulk).sum + 1) := by
  intro H enc W fuel cs x hx
  rcases DataW.trod_slice ht hx with ⟨rfl, rfl⟩ | ⟨a, len, cap, elems, rest, n, _, rfl, rfl, _, hl, hm, hlen, hel, _, _⟩
  · exact ⟨[], ⟨none, 0, rfl, Nat.le_refl _, Kd.C_nil k W⟩, ⟨Nat.zero_le _, fun a h => by cases h⟩, by simp [Rows.uptoBulk]⟩
  · have hone : ∀ i, i < len → ∃ v : α, ∃ c, (∃ y, elems[i]? = some y ∧ bulk v ≤ Rows.uptoBulk y.1) ∧ k.K W v c ∧ good v ∧ ∀ j u, c[j]? = some u → W.cell? (a.add (i * k.sz + j)) = some u := by
      intro i hi
      have he := hel i hi
      have hy : elems[i]? = some (elems[i]'(by omega)) := List.getElem?_eq_getElem (by omega)
      rw [hy, Option.bind_eq_some_iff] at he
      obtain ⟨c, hc, ht'⟩ := he
      obtain ⟨v, hv, hg, hb⟩ := h H enc W n c _ ht'
      refine ⟨v, c, ⟨_, hy, hb⟩, hv, hg, fun j u hu => ?_⟩
      have := cells_get hc j u hu
      rw [hz] at this
      rw [← add_add]
      exact this
    obtain ⟨l, hll, hr⟩ := list_of len _ hone
    have hmem : ∀ v ∈ l, good v := by
      intro v hv
      obtain ⟨i, hi⟩ := List.getElem?_of_mem hv
      obtain ⟨c, _, _, hg, _⟩ := hr i v hi
      exact hg
    refine ⟨l, ⟨some a, cap, by rw [hll], by omega, by omega, ?_, fun hpos => ⟨a, rfl, fun j p hp => ?_⟩⟩, ⟨by omega, hmem⟩, ?_⟩
    · unfold maxLen at hm; omega
    · obtain ⟨c, _, hk, _, hc⟩ := hr j p hp
      exact ⟨c, k.K_len hk, hk, hc⟩
    · have hs := bulk_sum (H := H) bulk l (elems.map (·.1)) (by simp [hll, hlen]) (fun i b d hb hd => by
        obtain ⟨c, ⟨y, hy, hby⟩, _⟩ := hr i b hb
        rw [List.getElem?_map, hy] at hd
        simp at hd
        subst hd
        exact hby)
      simp only [Rows.uptoBulk]
      omega

/-- Fields, one behind the other. -/
def OpensFs {α : Type} (P : Program) (ts : List TypeId) (k : Kd α) (good : α → Prop) (bulk : α → Nat) : Prop :=
  ∀ (H : Type) (enc : TypeId × Value → H) (W : World) (n : Nat) (cs : List Value) (xs : List (DataW H × List MemPlace)), cs.length = (ts.map P.cellsOf).sum → xs.length = ts.length →
    (∀ i t, ts[i]? = some t → DataW.trod enc P W 0 (fun _ => true) true n t ((cs.drop ((ts.take i).map P.cellsOf).sum).take (P.cellsOf t)) = xs[i]?) →
    ∃ a : α, k.K W a cs ∧ good a ∧ bulk a ≤ Rows.uptoBulkAll (xs.map (·.1))

theorem OpensFs.one {α : Type} {P : Program} {t : TypeId} {k : Kd α} {good : α → Prop} {bulk : α → Nat} (h : Opens P t k good bulk) : OpensFs P [t] k good bulk := by
  intro H enc W n cs xs hl hx hf
  match xs, hx with
  | [x], _ =>
    have h0 := hf 0 t rfl
    simp at h0 hl
    rw [List.take_of_length_le (by omega)] at h0
    obtain ⟨a, h1, h2, h3⟩ := h H enc W n cs x h0
    exact ⟨a, h1, h2, by simpa [Rows.uptoBulkAll] using h3⟩

theorem OpensFs.cons {α β : Type} {P : Program} {t : TypeId} {ts : List TypeId} {k : Kd α} {ks : Kd β} {g : α → Prop} {gs : β → Prop} {b : α → Nat} {bs : β → Nat} (h : Opens P t k g b) (hs : OpensFs P ts ks gs bs) :
    OpensFs P (t :: ts) (Kd.pair k ks) (fun x => g x.1 ∧ gs x.2) (fun x => b x.1 + bs x.2) := by
  intro H enc W n cs xs hl hx hf
  match xs, hx with
  | x :: xs, hx =>
    have h0 := hf 0 t rfl
    simp at h0 hl
    obtain ⟨a, h1, h2, h3⟩ := h H enc W n _ x h0
    obtain ⟨c, g1, g2, g3⟩ := hs H enc W n (cs.drop (P.cellsOf t)) xs (by rw [List.length_drop]; omega) (by simpa using hx) (fun i t' ht' => by
      have := hf (i + 1) t' (by simpa using ht')
      simp only [List.take_succ_cons, List.map_cons, List.sum_cons, List.getElem?_cons_succ] at this
      rw [List.drop_drop]
      exact this)
    exact ⟨(a, c), ⟨_, _, (List.take_append_drop (P.cellsOf t) cs).symm, h1, g1⟩, ⟨h2, g2⟩, by simp only [List.map_cons, Rows.uptoBulkAll]; omega⟩

theorem Opens.struct {α : Type} {P : Program} {T : TypeId} {fs : Array Field} {ts : List TypeId} {k : Kd α} {good : α → Prop} {bulk : α → Nat} (ht : P.underlying T = some (.struct fs))
    (hts : fs.toList.map (·.type) = ts) (hoff : fs.toList.map (·.offset) = (List.range ts.length).map fun i => ((ts.take i).map P.cellsOf).sum) (hsz : P.cellsOf T = (ts.map P.cellsOf).sum) (h : OpensFs P ts k good bulk) :
    Opens P T k good (fun a => bulk a + 1) := by
  intro H enc W fuel cs x hx
  obtain ⟨xs, n, _, rfl, hl, hlen, hf⟩ := DataW.trod_struct ht hx
  have hn : ts.length = fs.size := by rw [← hts]; simp
  obtain ⟨a, h1, h2, h3⟩ := h H enc W n cs xs (by rw [hl, hsz]) (by rw [hlen, hn]) (fun i t hi => by
    have hlt : i < fs.size := by have := (List.getElem?_eq_some_iff.1 hi).1; omega
    have hfi : fs[i]? = some fs[i] := Array.getElem?_eq_getElem hlt
    have e1 : fs[i].type = t := by
      have := congrArg (fun l => l[i]?) hts
      simp [hi, hlt] at this
      exact this
    have e2 : fs[i].offset = ((ts.take i).map P.cellsOf).sum := by
      have := congrArg (fun l => l[i]?) hoff
      simp [hlt, hn] at this
      rw [List.map_take]
      exact this
    have := hf i _ hfi
    rw [e1, e2] at this
    exact this)
  exact ⟨a, h1, h2, by simp only [Rows.uptoBulk]; omega⟩

theorem Opens.iso {α β : Type} {P : Program} {T : TypeId} {k : Kd α} {good : α → Prop} {bulk : α → Nat} (f : β → α) (g : α → β) (hfg : ∀ a, f (g a) = a) (h : Opens P T k good bulk) :
    Opens P T (Kd.iso k f) (fun b => good (f b)) (fun b => bulk (f b)) := by
  intro H enc W fuel cs x hx
  obtain ⟨a, h1, h2, h3⟩ := h H enc W fuel cs x hx
  exact ⟨g a, by show k.K W (f (g a)) cs; rw [hfg]; exact h1, by show good (f (g a)); rw [hfg]; exact h2, by show bulk (f (g a)) ≤ _; rw [hfg]; exact h3⟩
end Go.Proofs.Ytkbcjagkacijnaa.Open
end
section
namespace Go.Proofs.Ytkbcjagkacijnaa.Open
open Go.RowKit Go.Proofs.YtkbcjagkacijnaaW.PrintWords
set_option linter.unusedVariables false
abbrev kV : Kd (Int × Int) := Kd.pair (Kd.int .i64) (Kd.int .i64)
abbrev okV (x : Int × Int) : Prop := (Lit.int .i64 x.1).wf = true ∧ (Lit.int .i64 x.2).wf = true
set_option maxRecDepth 100000 in
theorem vec : Opens Try.prog 25 kV okV (fun _ => 1 + 1 + 1) :=
  Opens.struct (ts := [2, 2]) Try.underlying25 (by kernel_rfl) (by kernel_rfl) (by kernel_rfl) (OpensFs.cons (Opens.int Try.underlying2) (OpensFs.one (Opens.int Try.underlying2)))
theorem of_vec {W : World} {c : Array Value} {x : Int × Int} (h : kV.K W x c.toList) : c = #[.int .i64 x.1, .int .i64 x.2] := by
  obtain ⟨d, e, h1, rfl, rfl⟩ := h
  exact Array.toList_inj.mp (by simpa using h1)
end Go.Proofs.Ytkbcjagkacijnaa.Open
end
section
namespace Go.Proofs.Ytkbcjagkacijnaa.Walk
set_option linter.unusedVariables false
open Go.RowKit Go.Proofs.Ytkbcjagkacijnaa.NumLib Go.Proofs.YtkbcjagkacijnaaW.PrintWords
theorem VecAdds (W : World) (a : Array Value) (x : Int × Int) (ha : Open.kV.K W x a.toList) (ga : Open.okV x) (b : Array Value) (y : Int × Int) (hb : Open.kV.K W y b.toList) (gb : Open.okV y) :
    Calls Try.prog 5 #[.agg a, .agg b] W fun e w' => e = .returned (.bool true) ∧ Below W.heap.size W w' := by
  obtain rfl := Open.of_vec ha
  obtain rfl := Open.of_vec hb
  exact VecLib.VecAdds (wf64.mp ga.1) (wf64.mp ga.2) (wf64.mp gb.1) (wf64.mp gb.2) W
end Go.Proofs.Ytkbcjagkacijnaa.Walk
end
