/- What the law VecShares needs of the seat's contracts and plain laws, several texts one behind the other; no conditions. -/
import Derived.Test.YtkbcjagkacijnaaSVecShares1
import Derived.RangeFuncCalls
import Derived.RangeFuncNested
import Derived.OrdersIn
import Derived.Test.YtkbcjagkacijnaaWLast
import Derived.Test.YtkbcjagkacijnaaSVecShares0
section
namespace Go.Proofs.Ytkbcjagkacijnaa.NumLib
set_option linter.unusedVariables false
set_option linter.unusedSimpArgs false
open Go.RowKit Go.Proofs.Ytkbcjagkacijnaa.PNum Go.Proofs.YtkbcjagkacijnaaW.PrintWords Go.Proofs.YtkbcjagkacijnaaW.PrintLast

/-- Is this number within int64? -/
def in64 (x : Int) : Prop := -9223372036854775808 ≤ x ∧ x ≤ 9223372036854775807
instance (x : Int) : Decidable (in64 x) := by unfold in64; infer_instance

theorem abs_mul_lt {a b : Int} (ha : in64 a) (hb : in64 b) : 0 ≤ (a.natAbs : Int) * (b.natAbs : Int) ∧ (a.natAbs : Int) * (b.natAbs : Int) ≤ 85070591730234615865843651857942052864 := by
  unfold in64 at ha hb
  have h1 : (a.natAbs : Int) ≤ 9223372036854775808 := by omega
  have h2 : (b.natAbs : Int) ≤ 9223372036854775808 := by omega
  refine ⟨Int.mul_nonneg (by omega) (by omega), ?_⟩
  have := Int.mul_le_mul h1 h2 (by omega) (by omega : (0 : Int) ≤ 9223372036854775808)
  omega

theorem below_iff {a b : Int} : ((decide (a < 0) != decide (b < 0)) = true ∧ a * b ≠ 0) ↔ a * b < 0 := by
  rcases Int.lt_trichotomy a 0 with ha | ha | ha <;> rcases Int.lt_trichotomy b 0 with hb | hb | hb
  · have := Int.mul_pos_of_neg_of_neg ha hb; simp [ha, hb]; omega
  · subst hb; simp
  · have := Int.mul_neg_of_neg_of_pos ha hb; simp [ha, Int.not_lt.mpr (Int.le_of_lt hb)]; omega
  · subst ha; simp
  · subst ha; simp
  · subst ha; simp
  · have := Int.mul_neg_of_pos_of_neg ha hb; simp [hb, Int.not_lt.mpr (Int.le_of_lt ha)]; omega
  · subst hb; simp
  · have := Int.mul_pos ha hb; simp [Int.not_lt.mpr (Int.le_of_lt ha), Int.not_lt.mpr (Int.le_of_lt hb)]; omega

theorem natAbs_mul_cast (a b : Int) : (a.natAbs : Int) * (b.natAbs : Int) = ((a * b).natAbs : Int) := by
  rw [Int.natAbs_mul]; simp

/-- A product of 128 bits. -/
theorem product_eq {a b : Int} (ha : in64 a) (hb : in64 b) : num_Product.f a b =
    some (((a * b).natAbs : Int) / 18446744073709551616, ((a * b).natAbs : Int) % 18446744073709551616, decide (a * b < 0)) := by
  have hm := abs_mul_lt ha hb
  have hbl := below_iff (a := a) (b := b)
  unfold num_Product.f
  rw [size_eq ha, size_eq hb]
  simp only [Option.bind_some]
  unfold in64 at ha hb
  rw [mul64_eq (by omega) (by omega) (by omega) (by omega)]
  simp only [Option.bind_some]
  rw [natAbs_mul_cast] at hm ⊢
  have h1 : 0 ≤ ((a * b).natAbs : Int) / 18446744073709551616 ∧ ((a * b).natAbs : Int) / 18446744073709551616 < 18446744073709551616 := by omega
  have h2 : 0 ≤ ((a * b).natAbs : Int) % 18446744073709551616 ∧ ((a * b).natAbs : Int) % 18446744073709551616 < 18446744073709551616 := by omega
  have h3 : (((a * b).natAbs : Int) / 18446744073709551616 ≠ 0 ∨ ((a * b).natAbs : Int) % 18446744073709551616 ≠ 0) ↔ a * b ≠ 0 := by omega
  split
  · rename_i hd
    rw [or_ne h1.1 h1.2 h2.1 h2.2]
    congr 3
    exact decide_eq_decide.mpr (h3.trans ⟨fun h => hbl.mp ⟨hd, h⟩, fun h => (hbl.mpr h).2⟩)
  · rename_i hd
    congr 3
    exact (decide_eq_false (fun h => hd (hbl.mpr h).1)).symm

/-- The value of a sized number. -/
def wv (hi lo : Int) (b : Bool) : Int := if b = true then -(hi * 18446744073709551616 + lo) else hi * 18446744073709551616 + lo
def sgn (x : Int) : Int := if x < 0 then -1 else if x = 0 then 0 else 1
theorem sgn_neg {x : Int} (h : x < 0) : sgn x = -1 := by unfold sgn; rw [if_pos h]
theorem sgn_zero {x : Int} (h : x = 0) : sgn x = 0 := by subst h; rfl
theorem sgn_pos {x : Int} (h : 0 < x) : sgn x = 1 := by unfold sgn; rw [if_neg (by omega), if_neg (by omega)]
def wok (hi lo : Int) (b : Bool) : Prop := 0 ≤ hi ∧ 0 ≤ lo ∧ lo < 18446744073709551616 ∧ (b = true → hi ≠ 0 ∨ lo ≠ 0)

theorem wv_parts (p : Int) : wv ((p.natAbs : Int) / 18446744073709551616) ((p.natAbs : Int) % 18446744073709551616) (decide (p < 0)) = p := by
  unfold wv
  split <;> simp_all <;> omega
theorem wok_parts (p : Int) : wok ((p.natAbs : Int) / 18446744073709551616) ((p.natAbs : Int) % 18446744073709551616) (decide (p < 0)) := by
  refine ⟨by omega, by omega, by omega, ?_⟩
  intro h
  have : p < 0 := by simpa using h
  omega

theorem compare_j {k : Nat} {h1 l1 h2 l2 : Int} {b1 b2 : Bool} (a1 : 0 ≤ l1) (a2 : l1 < 18446744073709551616) (a3 : 0 ≤ l2) (a4 : l2 < 18446744073709551616) :
    num_Compare.j0 (k + 1) h1 l1 b1 h2 l2 b2 = some (sgn ((h1 * 18446744073709551616 + l1) - (h2 * 18446744073709551616 + l2))) := by
  simp only [num_Compare.j0]
  by_cases e : h1 = h2
  · rw [if_pos e]
    by_cases c1 : l1 < l2
    · rw [if_pos c1, sgn_neg (by omega)]
    · rw [if_neg c1]
      by_cases c2 : l1 > l2
      · rw [if_pos c2, sgn_pos (by omega)]
      · rw [if_neg c2, sgn_zero (by omega)]
  · rw [if_neg e]
    by_cases c : h1 < h2
    · rw [if_pos c, sgn_neg (by omega)]
    · rw [if_neg c, sgn_pos (by omega)]

/-- Compare tells the sign of the difference. -/
theorem compare_eq {k : Nat} {h1 l1 h2 l2 : Int} {b1 b2 : Bool} (w1 : wok h1 l1 b1) (w2 : wok h2 l2 b2) :
    num_Compare.f (k + 1) h1 l1 b1 h2 l2 b2 = some (sgn (wv h1 l1 b1 - wv h2 l2 b2)) := by
  obtain ⟨p1, p2, p3, p4⟩ := w1
  obtain ⟨q1, q2, q3, q4⟩ := w2
  unfold num_Compare.f
  rw [compare_j p2 p3 q2 q3, compare_j q2 q3 p2 p3]
  cases b1 <;> cases b2
  · rw [if_neg (by decide), if_neg (by decide)]; simp [wv]
  · have := q4 rfl
    rw [if_pos (by decide), if_neg (by decide)]
    rw [sgn_pos (by simp only [wv]; simp; omega)]
  · have := p4 rfl
    rw [if_pos (by decide), if_pos (by decide)]
    rw [sgn_neg (by simp only [wv]; simp; omega)]
  · rw [if_neg (by decide), if_pos (by decide)]
    simp only [wv, if_true]
    congr 2
    omega

end Go.Proofs.Ytkbcjagkacijnaa.NumLib
end
section
namespace Go.Proofs.Ytkbcjagkacijnaa.Iter
open Go.RowKit Go.Proofs.YtkbcjagkacijnaaW.PrintLast
set_option linter.unusedVariables false

/-- Q, but for 'the memory is outgrown'. -/
def NoOut (Q : Exit → Act → World → Prop) : Exit → Act → World → Prop
  | .outgrown, _, _ => False
  | .normal, a, w => Q .normal a w
  | .ret, a, w => Q .ret a w
  | .exit id, a, w => Q (.exit id) a w
  | .goto t, a, w => Q (.goto t) a w
  | .panic c, a, w => Q (.panic c) a w
theorem noOut_normal {Q : Exit → Act → World → Prop} {a : Act} {w : World} (h : Q .normal a w) : NoOut Q .normal a w := h
theorem not_letsOut (Q : Exit → Act → World → Prop) : ¬ LetsOut (NoOut Q) := fun ⟨_, _, h⟩ => h

def noDefer (ops : Array Oper) : Bool := ops.all fun o => match o.op with
  | .defer _ => false
  | _ => true
theorem noDefer_spec {ops : Array Oper} (h : noDefer ops = true) {i : Nat} {o : Oper} (ho : ops[i]? = some o) (c : Call) : o.op ≠ .defer c := by
  intro e
  have := Array.all_eq_true_iff_forall_mem.1 h o (Array.mem_of_getElem? ho)
  simp [e] at this

section
variable {P : Program} {ops : Array Oper} {Q : Exit → Act → World → Prop} {md : Region.Mode} {l n : Nat}

theorem rows_in {row : String} {args : Array Value} {w : World} {R : Value → World → Prop} {m : Nat} (h : Rows P row args w R) : RowsIn (Fence.wide.inRound l) m P row args w R := by
  intro c cs _
  obtain ⟨v, w', r, s⟩ := h c cs
  exact ⟨v, w', r, stepsIn_wide.2 s⟩
theorem upon_in {o : Oper} {a : Act} {next : Act → World → Prop} : ∀ (r : Result Next), o.upon P a next (NoOut Q) r → o.uponIn (Fence.wide.inRound l) n P a next Q r
  | .ok (.value v) w', h => h
  | .ok .skip w', h => h
  | .ok (.defer d) w', h => h
  | .ok (.enter f args) w', h => by
    rw [Oper.uponIn_enter]
    refine ⟨fun hd => absurd hd (by simp [Fence.wide]), CallsIn.inRound l (callsIn_wide.2 (Calls.mono h (fun e w'' he => ?_)))⟩
    cases e with
    | returned v => exact he
    | panicked c => exact he
    | outgrown => exact (not_letsOut Q he).elim
  | .ok (.row row args) w', h => by
    rw [Oper.uponIn_row]
    exact ⟨fun hd => absurd hd (by simp [Fence.wide]), rows_in h⟩
  | .ok (.round _ _ _ _ _) w', h => h.elim
  | .halt x w', h => by
    cases x <;> first | exact h | exact h.elim

theorem wpOp_in {i : Nat} {K : Act → World → Prop} {a : Act} {w : World} (hd : noDefer ops = true) (h : wpOp P ops (NoOut Q) i K a w) : wpOpIn (Fence.wide.inRound l) n P ops Q i K a w := by
  unfold wpOp at h
  unfold wpOpIn
  cases ho : ops[i]? with
  | none => rw [ho] at h; exact h
  | some o =>
    simp only [ho] at h ⊢
    split
    · rename_i hw
      rw [if_pos hw] at h
      rcases h with h | ⟨_, h⟩
      · refine ⟨fun _ _ => trivial, ?_⟩
        rw [show (Fence.wide.inRound l).round = some l from rfl, Oper.semAt_eq _ _ _ (noDefer_spec hd ho)]
        exact upon_in _ h
      · exact (not_letsOut Q h).elim
    · rename_i hw
      rw [if_neg hw] at h
      exact ⟨fun _ _ => trivial, h⟩
theorem wpAny_in (hd : noDefer ops = true) : ∀ (fuel : Nat) (listed : Array Bool) (a : Act) (w : World), wpAny P md ops (NoOut Q) fuel listed a w → wpAnyIn (Fence.wide.inRound l) n P md ops Q fuel listed a w
  | 0, _, _, _, h => h
  | fuel + 1, listed, a, w, h => ⟨h.1, fun i hi => wpOpIn_mono (fun a' w' h' => wpAny_in hd fuel _ a' w' h') (wpOp_in hd (h.2 i hi))⟩
/-- A region that draws its order, in a round: by the words for regions that draw (behind it pure_, take_, one_ .. done_). -/
theorem startIn_ {S : World → Prop} {ds : List Nat} {id m : Nat} {a : Act} {w : World} (t : Array Bool) (hm : P.follows .mixedOrders = true) (hd : noDefer ops = true) (hn : ops.size = m) (hl : Array.replicate m false = t) (hS : S w.drew)
    (h : S w.drew → wpAnyLast P .any ops (NoOut Q) S ds m t a w.drew) : (Code.region id ops true).wpIn (Fence.wide.inRound l) n P Q a w := by
  subst hn
  subst hl
  exact wpIn_region_any hm (wpAny_in hd _ _ _ _ (wpAny_of_last _ _ _ _ (h hS)))
end
end Go.Proofs.Ytkbcjagkacijnaa.Iter
end
section
namespace Go.Proofs.Ytkbcjagkacijnaa.PVec
open Go.RowKit Go.Shelf Go.Proofs.Ytkbcjagkacijnaa.Iter Go.Proofs.Ytkbcjagkacijnaa.NumLib Go.Proofs.YtkbcjagkacijnaaW.PrintWords Go.Proofs.YtkbcjagkacijnaaW.PrintLast
set_option linter.unusedVariables false
set_option linter.unusedSimpArgs false
attribute [local go_sem] Oper.semAt_some

/-- A part's fraction; 1/0 where there is a use of nothing. -/
def fixd (p : Int × Int) : Int × Int := if p.2 = 0 then (if 0 < p.1 then (1, 0) else (p.1, 1)) else p
def stepS (s p : Int × Int) : Int × Int := if 0 < sgn ((fixd p).1 * s.2 - s.1 * (fixd p).2) then fixd p else s
theorem fix_A {x y : Int} (hy : (y == 0) = true) (hx : 0 < x) : fixd (x, y) = (1, 0) := by
  simp at hy
  simp [fixd, hy, hx]
theorem fix_B {x y : Int} (hy : (y == 0) = true) (hx : x ≤ 0) : fixd (x, y) = (x, 1) := by
  simp at hy
  simp [fixd, hy, show ¬ 0 < x by omega]
theorem fix_C {x y : Int} (hy : (y == 0) = false) : fixd (x, y) = (x, y) := by
  simp at hy
  simp [fixd, hy]
theorem step_yes {s p f : Int × Int} (hf : fixd p = f) (hc : 0 < sgn (f.1 * s.2 - s.1 * f.2)) : f = stepS s p := by
  unfold stepS
  rw [hf, if_pos hc]
theorem step_no {s p f : Int × Int} (hf : fixd p = f) (hc : sgn (f.1 * s.2 - s.1 * f.2) ≤ 0) : s = stepS s p := by
  unfold stepS
  rw [hf, if_neg (by omega)]
def in642 (p : Int × Int) : Prop := in64 p.1 ∧ in64 p.2
instance (p : Int × Int) : Decidable (in642 p) := by unfold in642; infer_instance
theorem fixd_in {p : Int × Int} (h : in642 p) : in642 (fixd p) := by
  unfold fixd
  split
  · split
    · exact ⟨by decide, by decide⟩
    · exact ⟨h.1, (by decide : in64 1)⟩
  · exact h
theorem stepS_in {s p : Int × Int} (hs : in642 s) (h : in642 p) : in642 (stepS s p) := by
  unfold stepS
  split
  · exact fixd_in h
  · exact hs
abbrev P64 := { p : Int × Int // in642 p }
def foldS (l : List P64) : Int × Int := l.foldl (fun s p => stepS s p.1) (-1, 1)
theorem foldS_snoc (l : List P64) (p : P64) : foldS (l ++ [p]) = stepS (foldS l) p.1 := by simp [foldS]
theorem foldS_in (l : List P64) : in642 (foldS l) := by
  have : ∀ (l : List P64) (s : Int × Int), in642 s → in642 (l.foldl (fun s p => stepS s p.1) s) := by
    intro l
    induction l with
    | nil => intro s h; exact h
    | cons p l ih => intro s h; exact ih _ (stepS_in h p.2)
  exact this l _ ⟨by decide, by decide⟩
def shareV (a b : Int × Int) : Int × Int := stepS (stepS (-1, 1) (a.1, b.1)) (a.2, b.2)
def vec_share.f (a0 a1 b0 b1 : Int) : Option (Int × Int) := if in642 (a0, a1) ∧ in642 (b0, b1) then some (shareV (a0, a1) (b0, b1)) else none

/-- A product's words. -/
def pW (x : Int) : Value := .agg #[.int .u64 ((x.natAbs : Int) / 18446744073709551616), .int .u64 ((x.natAbs : Int) % 18446744073709551616), .bool (decide (x < 0))]
theorem prod_call {a b : Int} (ha : in64 a) (hb : in64 b) (w : World) : Calls Try.prog 92 #[.int .i64 a, .int .i64 b] w fun e w' => e = .returned (pW (a * b)) ∧ Below w.heap.size w w' :=
  PNum.num_Product.calls a b _ _ _ w (product_eq ha hb)
theorem comp_call (x y : Int) (w : World) : Calls Try.prog 91 #[pW x, pW y] w fun e w' => e = .returned (.int .i64 (sgn (x - y))) ∧ Below w.heap.size w w' := by
  have h := compare_eq (k := 1) (wok_parts x) (wok_parts y)
  rw [wv_parts, wv_parts] at h
  exact PNum.num_Compare.calls 2 _ _ _ _ _ _ _ w h

set_option maxRecDepth 100000 in
set_option maxHeartbeats 4000000 in
theorem share_wide (a b : Int × Int) (ha : in642 a) (hb : in642 b) (w : World) :
    Calls Try.prog 87 #[enc2 a, enc2 b] w fun e W' => e = .returned (.tuple #[.int .i64 (shareV a b).1, .int .i64 (shareV a b).2]) ∧ Below w.heap.size w W' := by
  refine (callsIn_wide (n := 8)).1 ?_
  refine callsIn_of_wp_marks Try.func87 rfl trivial ?_ rfl
  simp only [Try.ntmps87, List.size_toArray, List.length_cons, List.length_nil, Nat.reduceAdd, Nat.reduceSub, Array.replicate_succ, Array.replicate_zero, List.push_toArray, List.append_toArray, List.nil_append, List.cons_append]
  gi_wp2_with (refine ⟨trivial, ?_⟩; gi_at_call 90; refine (parts_in Fence.wide (8 - 1) trivial rfl a b _).mono ?_; rintro e w' ⟨rfl, rfl⟩)
  have bN := (((Blk.new ((w.alloc (.cells (cs2 a) 25)).alloc (.cells (cs2 b) 25)) 2 #[.int .i64 (-1)]).alloc (.cells #[.int .i64 1] 2)).alloc (.cells (cs2 a) 25)).alloc (.cells (cs2 b) 25)
  have bD := ((Blk.new (((w.alloc (.cells (cs2 a) 25)).alloc (.cells (cs2 b) 25)).alloc (.cells #[.int .i64 (-1)] 2)) 2 #[.int .i64 1]).alloc (.cells (cs2 a) 25)).alloc (.cells (cs2 b) 25)
  have bA := (Blk.new ((((w.alloc (.cells (cs2 a) 25)).alloc (.cells (cs2 b) 25)).alloc (.cells #[.int .i64 (-1)] 2)).alloc (.cells #[.int .i64 1] 2)) 25 (cs2 a)).alloc (.cells (cs2 b) 25)
  have bB := Blk.new (((((w.alloc (.cells (cs2 a) 25)).alloc (.cells (cs2 b) 25)).alloc (.cells #[.int .i64 (-1)] 2)).alloc (.cells #[.int .i64 1] 2)).alloc (.cells (cs2 a) 25)) 25 (cs2 b)
  simp only [World.size_alloc] at bN bD bA bB
  have hB0 : Below w.heap.size w ((((((w.alloc (.cells (cs2 a) 25)).alloc (.cells (cs2 b) 25)).alloc (.cells #[.int .i64 (-1)] 2)).alloc (.cells #[.int .i64 1] 2)).alloc (.cells (cs2 a) 25)).alloc (.cells (cs2 b) 25)) :=
    ((((((Below.refl _ w).alloc (Nat.le_refl _) _).alloc (by simp) _).alloc (by simp; omega) _).alloc (by simp; omega) _).alloc (by simp; omega) _).alloc (by simp; omega) _
  have hsz : ((((((w.alloc (.cells (cs2 a) 25)).alloc (.cells (cs2 b) 25)).alloc (.cells #[.int .i64 (-1)] 2)).alloc (.cells #[.int .i64 1] 2)).alloc (.cells (cs2 a) 25)).alloc (.cells (cs2 b) 25)).heap.size = w.heap.size + 6 := by simp
  obtain ⟨W0, hW0⟩ : ∃ W0, ((((((w.alloc (.cells (cs2 a) 25)).alloc (.cells (cs2 b) 25)).alloc (.cells #[.int .i64 (-1)] 2)).alloc (.cells #[.int .i64 1] 2)).alloc (.cells (cs2 a) 25)).alloc (.cells (cs2 b) 25)) = W0 := ⟨_, rfl⟩
  rw [hW0] at bN bD bA bB hB0 hsz ⊢
  clear hW0
  refine wpIn_rangeFunc_ownH rfl (by omega) (gf := 120) (lb := #[.pointer (some ⟨w.heap.size + 1 + 1 + 1 + 1, 0, none⟩), .pointer (some ⟨w.heap.size + 1 + 1 + 1 + 1 + 1, 0, none⟩)]) rfl trivial (enters_of Try.func120 (by kernel_rfl) rfl)
    (parts_stops (fun x : P64 => x.1) ⟨(a.1, b.1), ha.1, hb.1⟩ ⟨(a.2, b.2), ha.2, hb.2⟩ Fence.wide (8 - 1) trivial rfl (by omega) (w.heap.size + 1 + 1 + 1 + 1) (w.heap.size + 1 + 1 + 1 + 1 + 1) a b W0 rfl rfl bA bB) Two.t (Two.b (by omega) (by omega)) (Below.refl _ _) (fun _ => rfl)
    (fun pre W => ((Blk W (w.heap.size + 1 + 1) 2 #[.int .i64 (foldS pre).1] ∧ Blk W (w.heap.size + 1 + 1 + 1) 2 #[.int .i64 (foldS pre).2]) ∧ (Blk W (w.heap.size + 1 + 1 + 1 + 1) 25 (cs2 a) ∧ Blk W (w.heap.size + 1 + 1 + 1 + 1 + 1) 25 (cs2 b))) ∧ Below w.heap.size w W)
    (fun _ _ _ => False)
    (OwnFrom.and (OwnFrom.and (OwnFrom.and (Own.from (blk_own _ _ _) _) (Own.from (blk_own _ _ _) _)) (OwnFrom.and (Own.from (blk_own _ _ _) _) (Own.from (blk_own _ _ _) _))) (ownFrom_below (Nat.le_refl _) (by omega)))
    (fun c _ _ _ _ h _ _ => h)
    ⟨⟨⟨bN, bD⟩, bA, bB⟩, hB0⟩
    (fun x a' W => ∃ Bx, w.heap.size + 5 < Bx ∧ Blk W Bx 104 (cs2 x.1) ∧ a' = { tmps := #[enc2 a, enc2 b, .pointer (some ⟨w.heap.size, 0, none⟩), .pointer (some ⟨w.heap.size + 1, 0, none⟩), .pointer (some ⟨w.heap.size + 1 + 1, 0, none⟩), .pointer (some ⟨w.heap.size + 1 + 1 + 1, 0, none⟩),
      .pointer (some ⟨Bx, 0, none⟩), undef, undef, enc2 a, enc2 b, .func (.func 120) #[] #[.pointer (some ⟨w.heap.size + 1 + 1 + 1 + 1, 0, none⟩), .pointer (some ⟨w.heap.size + 1 + 1 + 1 + 1 + 1, 0, none⟩)], enc2 x.1,
      undef, undef, undef, undef, undef, undef, undef, undef, undef, undef, undef, undef, undef, undef, undef, undef, undef, undef, undef, undef], defers := [] })
    (fun x a' _ X Y row hs hg hr => by obtain ⟨Bx, e1, e2, e3⟩ := hs; exact ⟨Bx, e1, blk_own Bx 104 (fun (_ : Unit) => cs2 x.1) () X Y row e2 hg (fun r e => (hr r e).2), e3⟩)
    ?assign ?body ?done ?stop
  case assign =>
    rintro l pre x W K ⟨⟨⟨bN1, bD1⟩, bA1, bB1⟩, hB1⟩ hK
    gi_wp2
    exact hK _ _ ((KeepsOthers.alloc _ _).from _) ((Two.refl _ _ W).alloc (by have := bB1.lt; omega) bB1.lt _) ⟨⟨⟨bN1.alloc _, bD1.alloc _⟩, bA1.alloc _, bB1.alloc _⟩, hB1.alloc hB1.size _⟩ ⟨W.heap.size, by have := bB1.lt; omega, Blk.new W _ _, rfl⟩
  case body =>
    rintro l pre x a' W hl ⟨r, hr⟩ ⟨⟨⟨bN1, bD1⟩, bA1, bB1⟩, hB1⟩ ⟨Bx, hBx, bX, rfl⟩ hlt
    have cX := bX.cell 0
    have cY := bX.cell 1
    simp only [List.getElem?_toArray, List.getElem?_cons_zero, List.getElem?_cons_succ] at cX cY
    gi_wp2
    rename_i K hK
    have hk : K { tmps := #[enc2 a, enc2 b, .pointer (some ⟨w.heap.size, 0, none⟩), .pointer (some ⟨w.heap.size + 1, 0, none⟩), .pointer (some ⟨w.heap.size + 1 + 1, 0, none⟩), .pointer (some ⟨w.heap.size + 1 + 1 + 1, 0, none⟩), .pointer (some ⟨Bx, 0, none⟩), .int .i64 x.1.1, .int .i64 x.1.2, enc2 a, enc2 b, .func (.func 120) #[] #[.pointer (some ⟨w.heap.size + 1 + 1 + 1 + 1, 0, none⟩), .pointer (some ⟨w.heap.size + 1 + 1 + 1 + 1 + 1, 0, none⟩)], enc2 x.1, .pointer (some ⟨Bx, 0, none⟩), .int .i64 x.1.1, .pointer (some ⟨Bx, 1, none⟩), .int .i64 x.1.2, undef, undef, undef, undef, undef, undef, undef, undef, undef, undef, undef, undef, undef, undef, undef, undef], defers := [] } W.drew := by
      refine hK _ _ ?_
      clear hK
      have bN2 := bN1.drew
      have bD2 := bD1.drew
      have bA2 := bA1.drew
      have bB2 := bB1.drew
      have hS := (Since.refl w.heap.size W).drew
      have hin := foldS_in pre
      have hx := x.2
      have hsn := foldS_snoc pre x
      have hmx : Try.prog.follows .mixedOrders = true := by kernel_rfl
      have hsW : w.heap.size ≤ W.heap.size := hB1.size
      generalize W.drew = W1 at bN2 bD2 bA2 bB2 hS ⊢
      obtain ⟨⟨x, y⟩, hxy⟩ := x
      generalize foldS pre = s at *
      obtain ⟨n, d⟩ := s
      obtain ⟨hn1, hd1⟩ := hin
      obtain ⟨hx1, hy1⟩ := hx
      simp only at hn1 hd1 hx1 hy1 bN2 bD2
      have fin : ∀ (W3 : World) (s3 : Int × Int), Blk W3 (w.heap.size + 1 + 1) 2 #[.int .i64 s3.1] → Blk W3 (w.heap.size + 1 + 1 + 1) 2 #[.int .i64 s3.2] → Blk W3 (w.heap.size + 1 + 1 + 1 + 1) 25 (cs2 a) → Blk W3 (w.heap.size + 1 + 1 + 1 + 1 + 1) 25 (cs2 b) → Since w.heap.size W W3 → s3 = stepS (n, d) (x, y) →
          KeepsFrom W0.heap.size W W3 ∧ Two (w.heap.size + 1 + 1 + 1 + 1) (w.heap.size + 1 + 1 + 1 + 1 + 1) W W3 ∧ (((Blk W3 (w.heap.size + 1 + 1) 2 #[.int .i64 (foldS (pre ++ [⟨(x, y), hxy⟩])).1] ∧ Blk W3 (w.heap.size + 1 + 1 + 1) 2 #[.int .i64 (foldS (pre ++ [⟨(x, y), hxy⟩])).2]) ∧ (Blk W3 (w.heap.size + 1 + 1 + 1 + 1) 25 (cs2 a) ∧ Blk W3 (w.heap.size + 1 + 1 + 1 + 1 + 1) 25 (cs2 b))) ∧ Below w.heap.size w W3) := by
        intro W3 s3 b1 b2 b3 b4 hs e
        rw [hsn, ← e]
        exact ⟨hs.others.from _, ⟨b3.trans bA1.symm, b4.trans bB1.symm⟩, ⟨⟨b1, b2⟩, b3, b4⟩, hB1.trans hs.below⟩
      have i1 : in64 1 := by decide
      have i0 : in64 0 := by decide
      gi_wp2
      · have bN3 := bN2.drew; have bD3 := bD2.drew; have bA3 := bA2.drew; have bB3 := bB2.drew; have hS3 := hS.drew
        refine startIn_ (m := 8) (S := fun w' => w'.cell? ⟨w.heap.size + 1 + 1, 0, none⟩ = some (.int .i64 n) ∧ w'.cell? ⟨w.heap.size + 1 + 1 + 1, 0, none⟩ = some (.int .i64 d)) (ds := []) #[false, false, false, false, false, false, false, false] (by kernel_rfl) (by kernel_rfl) rfl rfl ⟨(bN3.cell 0).trans rfl, (bD3.cell 0).trans rfl⟩ (fun hHeld => ?_)
        generalize W1.drew = w4 at bN3 bD3 bA3 bB3 hS3 hHeld ⊢
        refine pure_ (i := 0) (N := some 21) (v := ?_) (a' := ?_) #[true, false, false, false, false, false, false, false] rfl rfl (by kernel_rfl) (fun _ _ _ h => h) (Or.inl ⟨by rfl, ?_⟩) ?_ ?_
        rotate_left
        · intro w'
          go_simp
          with_reducible rfl
        rotate_left
        · simp only [Act.put, List.setIfInBounds_toArray, List.set_cons_zero, List.set_cons_succ, i64_w, i32_w]
          rfl
        refine pure_ (i := 4) (N := some 25) (v := ?_) (a' := ?_) #[true, false, false, false, true, false, false, false] rfl rfl (by kernel_rfl) (fun _ _ _ h => h) (Or.inl ⟨by rfl, ?_⟩) ?_ ?_
        rotate_left
        · intro w'
          go_simp
          with_reducible rfl
        rotate_left
        · simp only [Act.put, List.setIfInBounds_toArray, List.set_cons_zero, List.set_cons_succ, i64_w, i32_w]
          rfl
        refine take_ (i := 1) (N := some 22) (v := ?_) (a' := ?_) #[true, true, false, false, true, false, false, false] rfl rfl (by kernel_rfl) (fun _ _ _ h => h) (Or.inl ⟨by rfl, ?_⟩) hHeld ?_ ?_
        rotate_left
        · rintro w' ⟨s0, s1⟩
          go_simp
          with_reducible rfl
        rotate_left
        · simp only [Act.put, List.setIfInBounds_toArray, List.set_cons_zero, List.set_cons_succ, i64_w, i32_w]
          rfl
        refine take_ (i := 3) (N := some 24) (v := ?_) (a' := ?_) #[true, true, false, true, true, false, false, false] rfl rfl (by kernel_rfl) (fun _ _ _ h => h) (Or.inl ⟨by rfl, ?_⟩) hHeld ?_ ?_
        rotate_left
        · rintro w' ⟨s0, s1⟩
          go_simp
          with_reducible rfl
        rotate_left
        · simp only [Act.put, List.setIfInBounds_toArray, List.set_cons_zero, List.set_cons_succ, i64_w, i32_w]
          rfl
        refine one_ (i := 2) (N := some 23) #[true, true, true, true, true, false, false, false] rfl rfl (by kernel_rfl) (by decide) (fun K hK => ?_)
        refine goes_ Try.func92 (by kernel_rfl) rfl #[.int .i64 1, .int .i64 d] (by rfl) rfl rfl (by (try simp only [List.map_toArray, List.map_cons, List.map_nil]); first | done | rfl) ?_
        with_reducible refine (prod_call (a := 1) (b := d) (by assumption) (by assumption) _).mono ?_
        rintro e w9 ⟨rfl, hb⟩
        refine ⟨_, rfl, ?_⟩
        replace hS3 := hS3.call hsW hb
        replace bA3 := bA3.below hb bA3.lt
        replace bB3 := bB3.below hb bB3.lt
        replace bN3 := bN3.below hb bN3.lt
        replace bD3 := bD3.below hb bD3.lt
        clear hb
        refine hK.out _ _ ⟨(bN3.cell 0).trans rfl, (bD3.cell 0).trans rfl⟩ (fun hHeld => ?_)
        clear hK K
        refine norm_ (a' := ?_) ?_ ?_
        rotate_left
        · show Act.put _ (some 23) _ = _
          simp only [Act.put, List.setIfInBounds_toArray, List.set_cons_zero, List.set_cons_succ, i64_w, i32_w]
          rfl
        refine one_ (i := 5) (N := some 26) #[true, true, true, true, true, true, false, false] rfl rfl (by kernel_rfl) (by decide) (fun K hK => ?_)
        refine goes_ Try.func92 (by kernel_rfl) rfl #[.int .i64 n, .int .i64 0] (by rfl) rfl rfl (by (try simp only [List.map_toArray, List.map_cons, List.map_nil]); first | done | rfl) ?_
        with_reducible refine (prod_call (a := n) (b := 0) (by assumption) (by assumption) _).mono ?_
        rintro e w9 ⟨rfl, hb⟩
        refine ⟨_, rfl, ?_⟩
        replace hS3 := hS3.call hsW hb
        replace bA3 := bA3.below hb bA3.lt
        replace bB3 := bB3.below hb bB3.lt
        replace bN3 := bN3.below hb bN3.lt
        replace bD3 := bD3.below hb bD3.lt
        clear hb
        refine hK.out _ _ ⟨(bN3.cell 0).trans rfl, (bD3.cell 0).trans rfl⟩ (fun hHeld => ?_)
        clear hK K
        refine norm_ (a' := ?_) ?_ ?_
        rotate_left
        · show Act.put _ (some 26) _ = _
          simp only [Act.put, List.setIfInBounds_toArray, List.set_cons_zero, List.set_cons_succ, i64_w, i32_w]
          rfl
        refine one_ (i := 6) (N := some 27) #[true, true, true, true, true, true, true, false] rfl rfl (by kernel_rfl) (by decide) (fun K hK => ?_)
        refine goes_ Try.func91 (by kernel_rfl) rfl #[pW (1 * d), pW (n * 0)] (by rfl) rfl rfl (by (try simp only [List.map_toArray, List.map_cons, List.map_nil]); first | done | rfl) ?_
        with_reducible refine (comp_call (1 * d) (n * 0) _).mono ?_
        rintro e w9 ⟨rfl, hb⟩
        refine ⟨_, rfl, ?_⟩
        replace hS3 := hS3.call hsW hb
        replace bA3 := bA3.below hb bA3.lt
        replace bB3 := bB3.below hb bB3.lt
        replace bN3 := bN3.below hb bN3.lt
        replace bD3 := bD3.below hb bD3.lt
        clear hb
        refine hK.out _ _ ⟨(bN3.cell 0).trans rfl, (bD3.cell 0).trans rfl⟩ (fun hHeld => ?_)
        clear hK K
        refine norm_ (a' := ?_) ?_ ?_
        rotate_left
        · show Act.put _ (some 27) _ = _
          simp only [Act.put, List.setIfInBounds_toArray, List.set_cons_zero, List.set_cons_succ, i64_w, i32_w]
          rfl
        refine pure_ (i := 7) (N := some 28) (v := ?_) (a' := ?_) #[true, true, true, true, true, true, true, true] rfl rfl (by kernel_rfl) (fun _ _ _ h => h) (Or.inl ⟨by rfl, ?_⟩) ?_ ?_
        rotate_left
        · intro w'
          go_simp
          with_reducible rfl
        rotate_left
        · simp only [Act.put, List.setIfInBounds_toArray, List.set_cons_zero, List.set_cons_succ, i64_w, i32_w]
          rfl
        refine done_ (by kernel_rfl) (noOut_normal ?_)
        have fN := bN3.frozen 0
        have fD := bD3.frozen 0
        have cN := bN3.cell 0
        have cD := bD3.cell 0
        simp only [List.getElem?_toArray, List.getElem?_cons_zero] at cN cD
        gi_wp2
        all_goals first
          | exact fin _ (1, 0) ((bN3.set 0 (.int .i64 1) (by simp)).other (by simp <;> omega) _) ((bD3.other (by simp <;> omega) _).set 0 (.int .i64 0) (by simp)) ((bA3.other (by simp <;> omega) _).other (by simp <;> omega) _) ((bB3.other (by simp <;> omega) _).other (by simp <;> omega) _) ((hS3.set _ (by simp <;> omega) _).set _ (by simp <;> omega) _) (step_yes (fix_A (by assumption) (by assumption)) (by first | assumption | (simp; assumption)))
          | exact fin _ (n, d) bN3 bD3 bA3 bB3 hS3 (step_no (fix_A (by assumption) (by assumption)) (by first | assumption | (simp; assumption)))
      · have bN3 := bN2.drew; have bD3 := bD2.drew; have bA3 := bA2.drew; have bB3 := bB2.drew; have hS3 := hS.drew
        refine startIn_ (m := 8) (S := fun w' => w'.cell? ⟨w.heap.size + 1 + 1, 0, none⟩ = some (.int .i64 n) ∧ w'.cell? ⟨w.heap.size + 1 + 1 + 1, 0, none⟩ = some (.int .i64 d)) (ds := []) #[false, false, false, false, false, false, false, false] (by kernel_rfl) (by kernel_rfl) rfl rfl ⟨(bN3.cell 0).trans rfl, (bD3.cell 0).trans rfl⟩ (fun hHeld => ?_)
        generalize W1.drew = w4 at bN3 bD3 bA3 bB3 hS3 hHeld ⊢
        refine pure_ (i := 0) (N := some 21) (v := ?_) (a' := ?_) #[true, false, false, false, false, false, false, false] rfl rfl (by kernel_rfl) (fun _ _ _ h => h) (Or.inl ⟨by rfl, ?_⟩) ?_ ?_
        rotate_left
        · intro w'
          go_simp
          with_reducible rfl
        rotate_left
        · simp only [Act.put, List.setIfInBounds_toArray, List.set_cons_zero, List.set_cons_succ, i64_w, i32_w]
          rfl
        refine pure_ (i := 4) (N := some 25) (v := ?_) (a' := ?_) #[true, false, false, false, true, false, false, false] rfl rfl (by kernel_rfl) (fun _ _ _ h => h) (Or.inl ⟨by rfl, ?_⟩) ?_ ?_
        rotate_left
        · intro w'
          go_simp
          with_reducible rfl
        rotate_left
        · simp only [Act.put, List.setIfInBounds_toArray, List.set_cons_zero, List.set_cons_succ, i64_w, i32_w]
          rfl
        refine take_ (i := 1) (N := some 22) (v := ?_) (a' := ?_) #[true, true, false, false, true, false, false, false] rfl rfl (by kernel_rfl) (fun _ _ _ h => h) (Or.inl ⟨by rfl, ?_⟩) hHeld ?_ ?_
        rotate_left
        · rintro w' ⟨s0, s1⟩
          go_simp
          with_reducible rfl
        rotate_left
        · simp only [Act.put, List.setIfInBounds_toArray, List.set_cons_zero, List.set_cons_succ, i64_w, i32_w]
          rfl
        refine take_ (i := 3) (N := some 24) (v := ?_) (a' := ?_) #[true, true, false, true, true, false, false, false] rfl rfl (by kernel_rfl) (fun _ _ _ h => h) (Or.inl ⟨by rfl, ?_⟩) hHeld ?_ ?_
        rotate_left
        · rintro w' ⟨s0, s1⟩
          go_simp
          with_reducible rfl
        rotate_left
        · simp only [Act.put, List.setIfInBounds_toArray, List.set_cons_zero, List.set_cons_succ, i64_w, i32_w]
          rfl
        refine one_ (i := 2) (N := some 23) #[true, true, true, true, true, false, false, false] rfl rfl (by kernel_rfl) (by decide) (fun K hK => ?_)
        refine goes_ Try.func92 (by kernel_rfl) rfl #[.int .i64 x, .int .i64 d] (by rfl) rfl rfl (by (try simp only [List.map_toArray, List.map_cons, List.map_nil]); first | done | rfl) ?_
        with_reducible refine (prod_call (a := x) (b := d) (by assumption) (by assumption) _).mono ?_
        rintro e w9 ⟨rfl, hb⟩
        refine ⟨_, rfl, ?_⟩
        replace hS3 := hS3.call hsW hb
        replace bA3 := bA3.below hb bA3.lt
        replace bB3 := bB3.below hb bB3.lt
        replace bN3 := bN3.below hb bN3.lt
        replace bD3 := bD3.below hb bD3.lt
        clear hb
        refine hK.out _ _ ⟨(bN3.cell 0).trans rfl, (bD3.cell 0).trans rfl⟩ (fun hHeld => ?_)
        clear hK K
        refine norm_ (a' := ?_) ?_ ?_
        rotate_left
        · show Act.put _ (some 23) _ = _
          simp only [Act.put, List.setIfInBounds_toArray, List.set_cons_zero, List.set_cons_succ, i64_w, i32_w]
          rfl
        refine one_ (i := 5) (N := some 26) #[true, true, true, true, true, true, false, false] rfl rfl (by kernel_rfl) (by decide) (fun K hK => ?_)
        refine goes_ Try.func92 (by kernel_rfl) rfl #[.int .i64 n, .int .i64 1] (by rfl) rfl rfl (by (try simp only [List.map_toArray, List.map_cons, List.map_nil]); first | done | rfl) ?_
        with_reducible refine (prod_call (a := n) (b := 1) (by assumption) (by assumption) _).mono ?_
        rintro e w9 ⟨rfl, hb⟩
        refine ⟨_, rfl, ?_⟩
        replace hS3 := hS3.call hsW hb
        replace bA3 := bA3.below hb bA3.lt
        replace bB3 := bB3.below hb bB3.lt
        replace bN3 := bN3.below hb bN3.lt
        replace bD3 := bD3.below hb bD3.lt
        clear hb
        refine hK.out _ _ ⟨(bN3.cell 0).trans rfl, (bD3.cell 0).trans rfl⟩ (fun hHeld => ?_)
        clear hK K
        refine norm_ (a' := ?_) ?_ ?_
        rotate_left
        · show Act.put _ (some 26) _ = _
          simp only [Act.put, List.setIfInBounds_toArray, List.set_cons_zero, List.set_cons_succ, i64_w, i32_w]
          rfl
        refine one_ (i := 6) (N := some 27) #[true, true, true, true, true, true, true, false] rfl rfl (by kernel_rfl) (by decide) (fun K hK => ?_)
        refine goes_ Try.func91 (by kernel_rfl) rfl #[pW (x * d), pW (n * 1)] (by rfl) rfl rfl (by (try simp only [List.map_toArray, List.map_cons, List.map_nil]); first | done | rfl) ?_
        with_reducible refine (comp_call (x * d) (n * 1) _).mono ?_
        rintro e w9 ⟨rfl, hb⟩
        refine ⟨_, rfl, ?_⟩
        replace hS3 := hS3.call hsW hb
        replace bA3 := bA3.below hb bA3.lt
        replace bB3 := bB3.below hb bB3.lt
        replace bN3 := bN3.below hb bN3.lt
        replace bD3 := bD3.below hb bD3.lt
        clear hb
        refine hK.out _ _ ⟨(bN3.cell 0).trans rfl, (bD3.cell 0).trans rfl⟩ (fun hHeld => ?_)
        clear hK K
        refine norm_ (a' := ?_) ?_ ?_
        rotate_left
        · show Act.put _ (some 27) _ = _
          simp only [Act.put, List.setIfInBounds_toArray, List.set_cons_zero, List.set_cons_succ, i64_w, i32_w]
          rfl
        refine pure_ (i := 7) (N := some 28) (v := ?_) (a' := ?_) #[true, true, true, true, true, true, true, true] rfl rfl (by kernel_rfl) (fun _ _ _ h => h) (Or.inl ⟨by rfl, ?_⟩) ?_ ?_
        rotate_left
        · intro w'
          go_simp
          with_reducible rfl
        rotate_left
        · simp only [Act.put, List.setIfInBounds_toArray, List.set_cons_zero, List.set_cons_succ, i64_w, i32_w]
          rfl
        refine done_ (by kernel_rfl) (noOut_normal ?_)
        have fN := bN3.frozen 0
        have fD := bD3.frozen 0
        have cN := bN3.cell 0
        have cD := bD3.cell 0
        simp only [List.getElem?_toArray, List.getElem?_cons_zero] at cN cD
        gi_wp2
        all_goals first
          | exact fin _ (x, 1) ((bN3.set 0 (.int .i64 x) (by simp)).other (by simp <;> omega) _) ((bD3.other (by simp <;> omega) _).set 0 (.int .i64 1) (by simp)) ((bA3.other (by simp <;> omega) _).other (by simp <;> omega) _) ((bB3.other (by simp <;> omega) _).other (by simp <;> omega) _) ((hS3.set _ (by simp <;> omega) _).set _ (by simp <;> omega) _) (step_yes (fix_B (by assumption) (by assumption)) (by first | assumption | (simp; assumption)))
          | exact fin _ (n, d) bN3 bD3 bA3 bB3 hS3 (step_no (fix_B (by assumption) (by assumption)) (by first | assumption | (simp; assumption)))
      · have bN3 := bN2.drew; have bD3 := bD2.drew; have bA3 := bA2.drew; have bB3 := bB2.drew; have hS3 := hS.drew
        refine startIn_ (m := 8) (S := fun w' => w'.cell? ⟨w.heap.size + 1 + 1, 0, none⟩ = some (.int .i64 n) ∧ w'.cell? ⟨w.heap.size + 1 + 1 + 1, 0, none⟩ = some (.int .i64 d)) (ds := []) #[false, false, false, false, false, false, false, false] (by kernel_rfl) (by kernel_rfl) rfl rfl ⟨(bN3.cell 0).trans rfl, (bD3.cell 0).trans rfl⟩ (fun hHeld => ?_)
        generalize W1.drew = w4 at bN3 bD3 bA3 bB3 hS3 hHeld ⊢
        refine pure_ (i := 0) (N := some 21) (v := ?_) (a' := ?_) #[true, false, false, false, false, false, false, false] rfl rfl (by kernel_rfl) (fun _ _ _ h => h) (Or.inl ⟨by rfl, ?_⟩) ?_ ?_
        rotate_left
        · intro w'
          go_simp
          with_reducible rfl
        rotate_left
        · simp only [Act.put, List.setIfInBounds_toArray, List.set_cons_zero, List.set_cons_succ, i64_w, i32_w]
          rfl
        refine pure_ (i := 4) (N := some 25) (v := ?_) (a' := ?_) #[true, false, false, false, true, false, false, false] rfl rfl (by kernel_rfl) (fun _ _ _ h => h) (Or.inl ⟨by rfl, ?_⟩) ?_ ?_
        rotate_left
        · intro w'
          go_simp
          with_reducible rfl
        rotate_left
        · simp only [Act.put, List.setIfInBounds_toArray, List.set_cons_zero, List.set_cons_succ, i64_w, i32_w]
          rfl
        refine take_ (i := 1) (N := some 22) (v := ?_) (a' := ?_) #[true, true, false, false, true, false, false, false] rfl rfl (by kernel_rfl) (fun _ _ _ h => h) (Or.inl ⟨by rfl, ?_⟩) hHeld ?_ ?_
        rotate_left
        · rintro w' ⟨s0, s1⟩
          go_simp
          with_reducible rfl
        rotate_left
        · simp only [Act.put, List.setIfInBounds_toArray, List.set_cons_zero, List.set_cons_succ, i64_w, i32_w]
          rfl
        refine take_ (i := 3) (N := some 24) (v := ?_) (a' := ?_) #[true, true, false, true, true, false, false, false] rfl rfl (by kernel_rfl) (fun _ _ _ h => h) (Or.inl ⟨by rfl, ?_⟩) hHeld ?_ ?_
        rotate_left
        · rintro w' ⟨s0, s1⟩
          go_simp
          with_reducible rfl
        rotate_left
        · simp only [Act.put, List.setIfInBounds_toArray, List.set_cons_zero, List.set_cons_succ, i64_w, i32_w]
          rfl
        refine one_ (i := 2) (N := some 23) #[true, true, true, true, true, false, false, false] rfl rfl (by kernel_rfl) (by decide) (fun K hK => ?_)
        refine goes_ Try.func92 (by kernel_rfl) rfl #[.int .i64 x, .int .i64 d] (by rfl) rfl rfl (by (try simp only [List.map_toArray, List.map_cons, List.map_nil]); first | done | rfl) ?_
        with_reducible refine (prod_call (a := x) (b := d) (by assumption) (by assumption) _).mono ?_
        rintro e w9 ⟨rfl, hb⟩
        refine ⟨_, rfl, ?_⟩
        replace hS3 := hS3.call hsW hb
        replace bA3 := bA3.below hb bA3.lt
        replace bB3 := bB3.below hb bB3.lt
        replace bN3 := bN3.below hb bN3.lt
        replace bD3 := bD3.below hb bD3.lt
        clear hb
        refine hK.out _ _ ⟨(bN3.cell 0).trans rfl, (bD3.cell 0).trans rfl⟩ (fun hHeld => ?_)
        clear hK K
        refine norm_ (a' := ?_) ?_ ?_
        rotate_left
        · show Act.put _ (some 23) _ = _
          simp only [Act.put, List.setIfInBounds_toArray, List.set_cons_zero, List.set_cons_succ, i64_w, i32_w]
          rfl
        refine one_ (i := 5) (N := some 26) #[true, true, true, true, true, true, false, false] rfl rfl (by kernel_rfl) (by decide) (fun K hK => ?_)
        refine goes_ Try.func92 (by kernel_rfl) rfl #[.int .i64 n, .int .i64 y] (by rfl) rfl rfl (by (try simp only [List.map_toArray, List.map_cons, List.map_nil]); first | done | rfl) ?_
        with_reducible refine (prod_call (a := n) (b := y) (by assumption) (by assumption) _).mono ?_
        rintro e w9 ⟨rfl, hb⟩
        refine ⟨_, rfl, ?_⟩
        replace hS3 := hS3.call hsW hb
        replace bA3 := bA3.below hb bA3.lt
        replace bB3 := bB3.below hb bB3.lt
        replace bN3 := bN3.below hb bN3.lt
        replace bD3 := bD3.below hb bD3.lt
        clear hb
        refine hK.out _ _ ⟨(bN3.cell 0).trans rfl, (bD3.cell 0).trans rfl⟩ (fun hHeld => ?_)
        clear hK K
        refine norm_ (a' := ?_) ?_ ?_
        rotate_left
        · show Act.put _ (some 26) _ = _
          simp only [Act.put, List.setIfInBounds_toArray, List.set_cons_zero, List.set_cons_succ, i64_w, i32_w]
          rfl
        refine one_ (i := 6) (N := some 27) #[true, true, true, true, true, true, true, false] rfl rfl (by kernel_rfl) (by decide) (fun K hK => ?_)
        refine goes_ Try.func91 (by kernel_rfl) rfl #[pW (x * d), pW (n * y)] (by rfl) rfl rfl (by (try simp only [List.map_toArray, List.map_cons, List.map_nil]); first | done | rfl) ?_
        with_reducible refine (comp_call (x * d) (n * y) _).mono ?_
        rintro e w9 ⟨rfl, hb⟩
        refine ⟨_, rfl, ?_⟩
        replace hS3 := hS3.call hsW hb
        replace bA3 := bA3.below hb bA3.lt
        replace bB3 := bB3.below hb bB3.lt
        replace bN3 := bN3.below hb bN3.lt
        replace bD3 := bD3.below hb bD3.lt
        clear hb
        refine hK.out _ _ ⟨(bN3.cell 0).trans rfl, (bD3.cell 0).trans rfl⟩ (fun hHeld => ?_)
        clear hK K
        refine norm_ (a' := ?_) ?_ ?_
        rotate_left
        · show Act.put _ (some 27) _ = _
          simp only [Act.put, List.setIfInBounds_toArray, List.set_cons_zero, List.set_cons_succ, i64_w, i32_w]
          rfl
        refine pure_ (i := 7) (N := some 28) (v := ?_) (a' := ?_) #[true, true, true, true, true, true, true, true] rfl rfl (by kernel_rfl) (fun _ _ _ h => h) (Or.inl ⟨by rfl, ?_⟩) ?_ ?_
        rotate_left
        · intro w'
          go_simp
          with_reducible rfl
        rotate_left
        · simp only [Act.put, List.setIfInBounds_toArray, List.set_cons_zero, List.set_cons_succ, i64_w, i32_w]
          rfl
        refine done_ (by kernel_rfl) (noOut_normal ?_)
        have fN := bN3.frozen 0
        have fD := bD3.frozen 0
        have cN := bN3.cell 0
        have cD := bD3.cell 0
        simp only [List.getElem?_toArray, List.getElem?_cons_zero] at cN cD
        gi_wp2
        all_goals first
          | exact fin _ (x, y) ((bN3.set 0 (.int .i64 x) (by simp)).other (by simp <;> omega) _) ((bD3.other (by simp <;> omega) _).set 0 (.int .i64 y) (by simp)) ((bA3.other (by simp <;> omega) _).other (by simp <;> omega) _) ((bB3.other (by simp <;> omega) _).other (by simp <;> omega) _) ((hS3.set _ (by simp <;> omega) _).set _ (by simp <;> omega) _) (step_yes (fix_C (by assumption)) (by first | assumption | (simp; assumption)))
          | exact fin _ (n, d) bN3 bD3 bA3 bB3 hS3 (step_no (fix_C (by assumption)) (by first | assumption | (simp; assumption)))
    gi_region
    all_goals exact hk
  case done =>
    rintro D zs W hD rfl ⟨⟨⟨bN1, bD1⟩, bA1, bB1⟩, hB1⟩ hK
    have e : foldS [⟨(a.1, b.1), ha.1, hb.1⟩, ⟨(a.2, b.2), ha.2, hb.2⟩] = shareV a b := rfl
    rw [e] at bN1 bD1
    generalize hs : shareV a b = s at bN1 bD1 ⊢
    obtain ⟨n, d⟩ := s
    simp only at bN1 bD1 ⊢
    have cN := bN1.cell 0
    have cD := bD1.cell 0
    have fN := bN1.frozen 0
    have fD := bD1.frozen 0
    simp only [List.getElem?_toArray, List.getElem?_cons_zero] at cN cD
    have hmx : Try.prog.follows .mixedOrders = true := by kernel_rfl
    gi_wp2
    gi_region
    gi_wp2
    have bN2 : Blk ((W.setCell ⟨w.heap.size + 1 + 1, 0, none⟩ (.int .i64 n)).setCell ⟨w.heap.size + 1 + 1 + 1, 0, none⟩ (.int .i64 d)).drew (w.heap.size + 1 + 1) 2 #[.int .i64 n] := (bN1.set 0 (.int .i64 n) (by simp)).other (by simp <;> omega) _
    have bD2 : Blk ((W.setCell ⟨w.heap.size + 1 + 1, 0, none⟩ (.int .i64 n)).setCell ⟨w.heap.size + 1 + 1 + 1, 0, none⟩ (.int .i64 d)).drew (w.heap.size + 1 + 1 + 1) 2 #[.int .i64 d] := (bD1.other (by simp <;> omega) _).set 0 (.int .i64 d) (by simp)
    have hS : Since w.heap.size W ((W.setCell ⟨w.heap.size + 1 + 1, 0, none⟩ (.int .i64 n)).setCell ⟨w.heap.size + 1 + 1 + 1, 0, none⟩ (.int .i64 d)).drew := (((Since.refl w.heap.size W).set _ (by simp <;> omega) _).set _ (by simp <;> omega) _).drew
    generalize ((W.setCell ⟨w.heap.size + 1 + 1, 0, none⟩ (.int .i64 n)).setCell ⟨w.heap.size + 1 + 1 + 1, 0, none⟩ (.int .i64 d)).drew = X at bN2 bD2 hS ⊢
    have hK' := hS.others.same D _ hK rfl
    refine ⟨by simp, .inl ⟨_, _, rfl, run_takeDeferred hK', ?_⟩⟩
    have c1 := cell_kept ((bN2.cell 0).trans rfl) (grownBy_putObj' _ D (.deferred none)) (fun r e => by cases e; exact ⟨_, hK', rfl⟩)
    have c2 := cell_kept ((bD2.cell 0).trans rfl) (grownBy_putObj' _ D (.deferred none)) (fun r e => by cases e; exact ⟨_, hK', rfl⟩)
    refine ⟨.tuple #[.int .i64 n, .int .i64 d], ?_, by rw [hs], (hB1.trans hS.below).trans (belowK_b (w := w) (Nat.le_refl _) _ D _ _ (by omega) hK' rfl rfl)⟩
    simp [results, Try.f87, go_sem, c1, c2]
  case stop => exact fun _ _ _ _ _ _ h _ => h.elim

theorem vec_share.calls (a0 a1 b0 b1 r1 r2 : Int) (w : World) (h : vec_share.f a0 a1 b0 b1 = some (r1, r2)) :
    Calls Try.prog 87 #[.agg #[.int .i64 a0, .int .i64 a1], .agg #[.int .i64 b0, .int .i64 b1]] w fun e w' => e = .returned (.tuple #[.int .i64 r1, .int .i64 r2]) ∧ Below w.heap.size w w' := by
  unfold vec_share.f at h
  split at h
  · rename_i hi
    have e := Option.some.inj h
    have := share_wide (a0, a1) (b0, b1) hi.1 hi.2 w
    rw [e] at this
    exact this
  · cases h
end Go.Proofs.Ytkbcjagkacijnaa.PVec
end
