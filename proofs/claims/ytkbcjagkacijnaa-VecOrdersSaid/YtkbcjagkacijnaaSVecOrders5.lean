/- What the law VecOrders needs of the seat's contracts and plain laws, several texts one behind the other; no conditions. -/
import Derived.Test.YtkbcjagkacijnaaSVecOrders4
import Derived.Test.YtkbcjagkacijnaaWMore
import Derived.Test.YtkbcjagkacijnaaWNEv
import Derived.Test.YtkbcjagkacijnaaRows
import Derived.ProofKit
import Derived.OpenShut
section
namespace Go.Proofs.Ytkbcjagkacijnaa.VecLib
set_option linter.unusedVariables false
set_option linter.unusedSimpArgs false
open Go.RowKit Go.Proofs.Ytkbcjagkacijnaa.NumLib Go.Proofs.Ytkbcjagkacijnaa.PVec Go.Proofs.YtkbcjagkacijnaaW.PrintWords Go.Proofs.YtkbcjagkacijnaaW.PrintLast

theorem natAbs_nn {x : Int} (h : 0 ≤ x) : (x.natAbs : Int) = x := by omega
theorem mul_nn {a b A B : Int} (h0 : 0 ≤ a) (h1 : a ≤ A) (h2 : 0 ≤ b) (h3 : b ≤ B) : 0 ≤ a * b ∧ a * b ≤ A * B := by
  refine ⟨Int.mul_nonneg h0 h2, ?_⟩
  exact Int.le_trans (Int.mul_le_mul_of_nonneg_right h1 h2) (Int.mul_le_mul_of_nonneg_left h3 (by omega))
theorem product_f {a b : Int} (ha : in64 a) (hb : in64 b) : PVec.num_Product.f a b = some (((a * b).natAbs : Int) / 18446744073709551616, ((a * b).natAbs : Int) % 18446744073709551616, decide (a * b < 0)) := product_eq ha hb
theorem times_f {a b w : Int} (ha0 : 0 ≤ a) (ha : a ≤ 1099511627776) (hb0 : 0 ≤ b) (hb : b ≤ 1099511627776) (hw0 : 0 ≤ w) (hw : w ≤ 1048576) :
    vec_times.f a b w = some ((a * b * w) / 18446744073709551616, (a * b * w) % 18446744073709551616, false) := by
  have hp := mul_nn ha0 ha hb0 hb
  unfold vec_times.f
  rw [product_f (by unfold in64; omega) (by unfold in64; omega), Option.bind_some]
  simp only [natAbs_nn hp.1]
  generalize a * b = p at *
  have hm : PVec.bits_Mul64.f (p % 18446744073709551616) (IntKind.u64.wrap w) = some ((p % 18446744073709551616) * w / 18446744073709551616, (p % 18446744073709551616) * w % 18446744073709551616) := by
    rw [u64w, show w % 18446744073709551616 = w by omega]
    exact mul64_eq (by omega) (by omega) (by omega) (by omega)
  rw [hm, Option.bind_some]
  simp only
  obtain ⟨q, hq⟩ : ∃ q, q = p / 18446744073709551616 := ⟨_, rfl⟩
  obtain ⟨l, hl⟩ : ∃ l, l = p % 18446744073709551616 := ⟨_, rfl⟩
  have hpe : p = 18446744073709551616 * q + l := by omega
  have h1 := mul_nn (a := q) (b := w) (A := 65536) (B := 1048576) (by omega) (by omega) hw0 hw
  have h2 := mul_nn (a := l) (b := w) (A := 18446744073709551615) (B := 1048576) (by omega) (by omega) hw0 hw
  have e : p * w = 18446744073709551616 * (q * w) + l * w := by rw [hpe, Int.add_mul, Int.mul_assoc]
  rw [← hq, ← hl, e, u64w, u64w, u64w, show w % 18446744073709551616 = w by omega]
  generalize q * w = X at *
  generalize l * w = Y at *
  congr 2
  · omega
  · congr 1
    omega

theorem and_one {x : Int} (h0 : 0 ≤ x) (h1 : x < 2147483648) : Go.bits .and .i64 x 1 = x % 2 :=
  bits_mask .i64 31 (by decide) (fun n h0 h1 => by rw [IntWalk.i64_in _ (by omega)]) 1 (by decide) x h0 h1
theorem shr_nat {w : Int} {i : Nat} (hi : i ≤ 20) : shr .i64 w (i : Int) = w / 2 ^ i := by
  unfold shr
  rw [Int.toNat_natCast, Nat.min_eq_left (by simp [IntKind.bits]; omega)]
theorem rplus_q {u v : Int} (hu : in128 u) (hv : in128 v) (h : in128 (u + v)) : PVq.furlongref01_Plus.f (hiW u) (loW u) (hiW v) (loW v) = some (hiW (u + v), loW (u + v)) := plus_eq hu hv h
theorem div_step {w : Int} {i : Nat} (hw : 0 ≤ w) : w / 2 ^ i = 2 * (w / 2 ^ (i + 1)) + (w / 2 ^ i) % 2 := by
  have : w / 2 ^ (i + 1) = w / 2 ^ i / 2 := by
    have h0 : (0 : Int) ≤ 2 ^ i := Int.pow_nonneg (by omega)
    rw [Int.pow_succ, Int.ediv_ediv, if_neg (fun h => absurd h.1 (by omega)), Int.sub_zero]
  rw [this]
  omega
theorem div_le {w : Int} {i : Nat} (hw : 0 ≤ w) : 0 ≤ w / 2 ^ i ∧ w / 2 ^ i ≤ w := by
  have h : (0 : Int) < 2 ^ i := Int.pow_pos (by omega)
  exact ⟨Int.ediv_nonneg hw (by omega), Int.ediv_le_self _ hw⟩
theorem rtimes_l0 {p w : Int} (hp0 : 0 ≤ p) (hp : p ≤ 1208925819614629174706176) (hw0 : 0 ≤ w) (hw : w ≤ 1048576) (n : Nat) : ∀ (k : Nat), n ≤ 21 → n < k → ∀ s : Int, s = p * (w / 2 ^ n) →
    PVq.furlongref02_times.l0 k w ((n : Int) - 1) (hiW p) (loW p) (hiW s) (loW s) = some (hiW (p * w), loW (p * w)) := by
  induction n with
  | zero =>
    intro k hn hk s hs
    obtain ⟨k, rfl⟩ : ∃ m, k = m + 1 := ⟨k - 1, by omega⟩
    unfold PVq.furlongref02_times.l0
    rw [if_neg (by omega), hs, Int.pow_zero, Int.ediv_one]
  | succ n ih =>
    intro k hn hk s hs
    obtain ⟨k, rfl⟩ : ∃ m, k = m + 1 := ⟨k - 1, by omega⟩
    unfold PVq.furlongref02_times.l0
    have hd := div_le (i := n + 1) hw0
    have hd' := div_le (i := n) hw0
    have hst := div_step (i := n) hw0
    have hsb := mul_nn hp0 hp hd.1 (show w / 2 ^ (n + 1) ≤ 1048576 by omega)
    have hsb' := mul_nn hp0 hp hd'.1 (show w / 2 ^ n ≤ 1048576 by omega)
    have e2 : p * (2 * (w / 2 ^ (n + 1))) = s + s := by rw [hs, Int.mul_left_comm]; omega
    rw [← hs] at hsb
    have i1 : in128 s := by unfold in128; omega
    have i2 : in128 (s + s) := by unfold in128; omega
    have i3 : in128 p := by unfold in128; omega
    rw [if_pos (by omega), rplus_q i1 i1 i2, Option.bind_some, if_pos (by omega), show ((n + 1 : Nat) : Int) - 1 = (n : Int) by omega, shr_nat (by omega), and_one (by omega) (by omega), w64_id (by omega)]
    by_cases hb : (w / 2 ^ n) % 2 = 1
    · have e3 : p * (w / 2 ^ n) = s + s + p := by
        have : w / 2 ^ n = 2 * (w / 2 ^ (n + 1)) + 1 := by omega
        rw [this, Int.mul_add, e2, Int.mul_one]
      rw [if_pos hb]
      rw [e3] at hsb'
      simp only
      rw [rplus_q i2 i3 (by unfold in128; omega), Option.bind_some]
      exact ih k (by omega) (by omega) _ e3.symm
    · have e3 : p * (w / 2 ^ n) = s + s := by
        have : w / 2 ^ n = 2 * (w / 2 ^ (n + 1)) := by omega
        rw [this, e2]
      rw [if_neg hb]
      exact ih k (by omega) (by omega) _ e3.symm
theorem rtimes_f {k : Nat} {a b w : Int} (hk : 21 < k) (ha0 : 0 ≤ a) (ha : a ≤ 1099511627776) (hb0 : 0 ≤ b) (hb : b ≤ 1099511627776) (hw0 : 0 ≤ w) (hw : w ≤ 1048576) :
    PVq.furlongref02_times.f k a b w = some (hiW (a * b * w), loW (a * b * w)) := by
  have hp := mul_nn ha0 ha hb0 hb
  unfold PVq.furlongref02_times.f
  have ht : PVq.furlongref01_Times.f a b = some (hiW (a * b), loW (a * b)) := times_eq (by unfold in64; omega) (by unfold in64; omega)
  rw [ht, Option.bind_some]
  exact rtimes_l0 (n := 21) hp.1 (by omega) hw0 hw k (by omega) hk 0 (by
    have : w / 2 ^ 21 = 0 := Int.ediv_eq_zero_of_lt hw0 (by omega)
    rw [this, Int.mul_zero])

/-- The comparison of weighted shares. -/
def cmpF (f : Int × Int) (wa : Int) (g : Int × Int) (wb : Int) : Int := if f.2 = 0 then (if g.2 = 0 then 0 else 1) else if g.2 = 0 then -1 else sgn (f.1 * g.2 * wb - g.1 * f.2 * wa)
theorem compare_f {k : Nat} {x y : Int} (hx : 0 ≤ x) (hy : 0 ≤ y) : PVec.num_Compare.f (k + 1) (x / 18446744073709551616) (x % 18446744073709551616) false (y / 18446744073709551616) (y % 18446744073709551616) false = some (sgn (x - y)) := by
  have h : PNum.num_Compare.f (k + 1) (x / 18446744073709551616) (x % 18446744073709551616) false (y / 18446744073709551616) (y % 18446744073709551616) false = some (sgn (wv (x / 18446744073709551616) (x % 18446744073709551616) false - wv (y / 18446744073709551616) (y % 18446744073709551616) false)) :=
    compare_eq ⟨by omega, by omega, by omega, by simp⟩ ⟨by omega, by omega, by omega, by simp⟩
  have e1 : wv (x / 18446744073709551616) (x % 18446744073709551616) false = x := by simp [wv]; omega
  have e2 : wv (y / 18446744073709551616) (y % 18446744073709551616) false = y := by simp [wv]; omega
  rw [e1, e2] at h
  exact h
theorem mn_def (a b : Int) : mn a b = min a b := by unfold mn; omega
theorem order_j {k : Nat} {f g : Int × Int} {wa wb : Int} (hf : (0 ≤ f.1 ∧ f.1 ≤ 1099511627776) ∧ (0 ≤ f.2 ∧ f.2 ≤ 1099511627776)) (hg : (0 ≤ g.1 ∧ g.1 ≤ 1099511627776) ∧ (0 ≤ g.2 ∧ g.2 ≤ 1099511627776)) (ha : 1 ≤ wa ∧ wa ≤ 1048576) (hb : 1 ≤ wb ∧ wb ≤ 1048576) (x : Bool) (hx : x = (decide (f.2 = 0) || decide (g.2 = 0))) :
    vec_Order.j0 (k + 2) wa wb f.1 f.2 g.1 g.2 x = some (cmpF f wa g wb) := by
  simp only [vec_Order.j0]
  subst hx
  unfold cmpF
  by_cases h1 : f.2 = 0
  · by_cases h2 : g.2 = 0
    · simp [h1, h2, mn_def]
      rw [w64_id (by omega)]
    · have : min g.2 1 = 1 := by omega
      simp [h1, h2, mn_def, this]
      rw [w64_id (by omega)]
      omega
  · have m1 : min f.2 1 = 1 := by omega
    by_cases h2 : g.2 = 0
    · simp [h1, h2, mn_def, m1]
      rw [w64_id (by omega)]
      omega
    · simp only [h1, h2, decide_false, Bool.or_self, Bool.false_eq_true, if_false]
      rw [times_f hf.1.1 hf.1.2 hg.2.1 hg.2.2 (by omega) hb.2, times_f hg.1.1 hg.1.2 hf.2.1 hf.2.2 (by omega) ha.2]
      simp only [Option.bind_some]
      rw [compare_f (Int.mul_nonneg (Int.mul_nonneg hf.1.1 hg.2.1) (by omega)) (Int.mul_nonneg (Int.mul_nonneg hg.1.1 hf.2.1) (by omega)), Option.bind_some]
theorem order_f {k : Nat} {a0 a1 b0 b1 t0 t1 wa wb : Int} (ga : good a0 a1 = true) (gb : good b0 b1 = true) (gt : good t0 t1 = true) (ha : 1 ≤ wa ∧ wa ≤ 1048576) (hb : 1 ≤ wb ∧ wb ≤ 1048576) :
    vec_Order.f (k + 2) a0 a1 wa b0 b1 wb t0 t1 = some (cmpF (dshr a0 a1 t0 t1) wa (dshr b0 b1 t0 t1) wb) := by
  unfold vec_Order.f
  have hf := dshr_in ga gt
  have hg := dshr_in gb gt
  rw [share_f ga gt, Option.bind_some, share_f gb gt, Option.bind_some]
  by_cases h : (dshr a0 a1 t0 t1).2 = 0
  · rw [if_pos h, order_j ⟨hf.1, hf.2.1⟩ ⟨hg.1, hg.2.1⟩ ha hb _ (by simp [h])]
  · rw [if_neg h, order_j ⟨hf.1, hf.2.1⟩ ⟨hg.1, hg.2.1⟩ ha hb _ (by rw [decide_eq_false h, Bool.false_or]; rfl)]
theorem less_f {k : Nat} (a0 a1 b0 b1 t0 t1 wa wb : Int) :
    vec_Less.f (k + 2) a0 a1 wa b0 b1 wb t0 t1 = some (if (good a0 a1 = true ∧ good b0 b1 = true ∧ good t0 t1 = true) ∧ (1 ≤ wa ∧ wa ≤ 1048576) ∧ (1 ≤ wb ∧ wb ≤ 1048576) then (cmpF (dshr a0 a1 t0 t1) wa (dshr b0 b1 t0 t1) wb, 0) else (0, 1)) := by
  unfold vec_Less.f
  simp only [good_f, Option.bind_some]
  by_cases h : (good a0 a1 = true ∧ good b0 b1 = true ∧ good t0 t1 = true) ∧ (1 ≤ wa ∧ wa ≤ 1048576) ∧ (1 ≤ wb ∧ wb ≤ 1048576)
  · obtain ⟨⟨h1, h2, h3⟩, h4, h5⟩ := h
    rw [if_pos h1, if_pos h2, if_pos h3, if_neg (by omega), if_neg (by omega), if_neg (by omega), if_neg (by omega), order_f h1 h2 h3 h4 h5, Option.bind_some, if_pos ⟨⟨h1, h2, h3⟩, h4, h5⟩]
  · rw [if_neg h]
    by_cases h1 : good a0 a1 = true
    · by_cases h2 : good b0 b1 = true
      · by_cases h3 : good t0 t1 = true
        · rw [if_pos h1, if_pos h2, if_pos h3]
          by_cases c1 : wa < 1
          · rw [if_pos c1]
          · by_cases c2 : wa > 1048576
            · rw [if_neg c1, if_pos c2]
            · by_cases c3 : wb < 1
              · rw [if_neg c1, if_neg c2, if_pos c3]
              · by_cases c4 : wb > 1048576
                · rw [if_neg c1, if_neg c2, if_neg c3, if_pos c4]
                · exact absurd ⟨⟨h1, h2, h3⟩, by omega, by omega⟩ h
        · rw [if_pos h1, if_pos h2, if_neg h3]
      · rw [if_pos h1, if_neg h2]
    · rw [if_neg h1]
theorem rless_f {k : Nat} {a0 a1 b0 b1 t0 t1 wa wb : Int} (hk : 21 < k) (ga : good a0 a1 = true) (gb : good b0 b1 = true) (gt : good t0 t1 = true) (ha : 1 ≤ wa ∧ wa ≤ 1048576) (hb : 1 ≤ wb ∧ wb ≤ 1048576) :
    furlongref02_Less.f k a0 a1 wa b0 b1 wb t0 t1 = some (cmpF (dshr a0 a1 t0 t1) wa (dshr b0 b1 t0 t1) wb) := by
  unfold furlongref02_Less.f
  have hf := dshr_in ga gt
  have hg := dshr_in gb gt
  rw [rshare_f ga gt, Option.bind_some, rshare_f gb gt, Option.bind_some]
  generalize dshr a0 a1 t0 t1 = f at *
  generalize dshr b0 b1 t0 t1 = g at *
  unfold cmpF
  by_cases h1 : f.2 = 0
  · rw [if_pos h1, if_pos h1]
    split <;> rfl
  · rw [if_neg h1, if_neg h1]
    by_cases h2 : g.2 = 0
    · rw [if_pos h2, if_pos h2]
    · rw [if_neg h2, if_neg h2, rtimes_f hk hf.1.1 hf.1.2 hg.2.1.1 hg.2.1.2 (by omega) hb.2, Option.bind_some, rtimes_f hk hg.1.1 hg.1.2 hf.2.1.1 hf.2.1.2 (by omega) ha.2, Option.bind_some]
      simp only
      generalize f.1 * g.2 * wb = X
      generalize g.1 * f.2 * wa = Y
      rw [rless_eq, Option.bind_some]
      by_cases h3 : X < Y
      · rw [if_pos (by simpa using h3), sgn_neg (by omega)]
      · rw [if_neg (by simpa using h3), rless_eq, Option.bind_some]
        by_cases h4 : Y < X
        · rw [if_pos (by simpa using h4), sgn_pos (by omega)]
        · rw [if_neg (by simpa using h4), sgn_zero (by omega)]
theorem docless_j {k : Nat} {a0 a1 b0 b1 t0 t1 wa wb e : Int} (x : Bool) (hk : 21 < k) (he : e = if (good a0 a1 && (good b0 b1 && good t0 t1)) = true then 0 else 1) (hx : x = false → (1 ≤ wa ∧ wa ≤ 1048576) ∧ (1 ≤ wb ∧ wb ≤ 1048576)) :
    furlongref02_DocLess.j0 (k + 1) wa wb e x a0 a1 b0 b1 t0 t1 = some (if (good a0 a1 && (good b0 b1 && good t0 t1)) = true ∧ x = false then (cmpF (dshr a0 a1 t0 t1) wa (dshr b0 b1 t0 t1) wb, 0) else (0, 1)) := by
  simp only [furlongref02_DocLess.j0]
  cases x
  · obtain ⟨h1, h2⟩ := hx rfl
    subst he
    cases hg : (good a0 a1 && (good b0 b1 && good t0 t1))
    · simp
    · simp only [Bool.and_eq_true] at hg
      simp [rless_f hk hg.1 hg.2.1 hg.2.2 h1 h2]
  · simp
theorem docless_f {k : Nat} (hk : 22 < k) (a0 a1 b0 b1 t0 t1 wa wb : Int) :
    furlongref02_DocLess.f k a0 a1 wa b0 b1 wb t0 t1 = some (if (good a0 a1 = true ∧ good b0 b1 = true ∧ good t0 t1 = true) ∧ (1 ≤ wa ∧ wa ≤ 1048576) ∧ (1 ≤ wb ∧ wb ≤ 1048576) then (cmpF (dshr a0 a1 t0 t1) wa (dshr b0 b1 t0 t1) wb, 0) else (0, 1)) := by
  obtain ⟨k, rfl⟩ : ∃ m, k = m + 1 := ⟨k - 1, by omega⟩
  unfold furlongref02_DocLess.f
  rw [rcheck_f _ (by simp) (by simp; omega), Option.bind_some]
  simp only [List.all_cons, List.all_nil, Bool.and_true]
  by_cases c1 : wa < 1
  · rw [if_pos c1, docless_j true (by omega) rfl (by simp), if_neg (by simp), if_neg (by omega)]
  · rw [if_neg c1]
    by_cases c2 : wa > 1048576
    · rw [if_pos c2, docless_j true (by omega) rfl (by simp), if_neg (by simp), if_neg (by omega)]
    · rw [if_neg c2]
      by_cases c3 : wb < 1
      · rw [if_pos c3, docless_j true (by omega) rfl (by simp), if_neg (by simp), if_neg (by omega)]
      · rw [if_neg c3]
        by_cases c4 : wb > 1048576
        · rw [docless_j _ (by omega) rfl (by simp [c4]), if_neg (by simp [c4]), if_neg (by omega)]
        · rw [docless_j _ (by omega) rfl (by intro; omega)]
          by_cases h : good a0 a1 = true ∧ good b0 b1 = true ∧ good t0 t1 = true
          · rw [if_pos (by simp [h.1, h.2.1, h.2.2]; omega), if_pos ⟨h, by omega, by omega⟩]
          · rw [if_neg (by simp only [Bool.and_eq_true]; exact fun x => h x.1), if_neg (fun x => h x.1)]
theorem VecOrders (a0 a1 wa b0 b1 wb t0 t1 : Int) : furlonglaw02_VecOrders.f 30 a0 a1 wa b0 b1 wb t0 t1 = some true := by
  unfold furlonglaw02_VecOrders.f
  rw [awake_f, Option.bind_some, if_pos rfl, less_f, docless_f (by decide)]
  simp

end Go.Proofs.Ytkbcjagkacijnaa.VecLib
end
section
namespace Go.Proofs.Ytkbcjagkacijnaa.Open
set_option linter.unusedVariables false
set_option linter.unusedSimpArgs false
open Go.RowKit Go.Proofs.YtkbcjagkacijnaaW.PrintWords

/-- Values of type T read as what k says; good: what is known of them; bulk: no more than the data's. -/
def Opens {α : Type} (P : Program) (T : TypeId) (k : Kd α) (good : α → Prop) (bulk : α → Nat) : Prop :=
  ∀ (H : Type) (enc : TypeId × Value → H) (W : World) (fuel : Nat) (cs : List Value) (x : DataW H × List MemPlace),
    DataW.trod enc P W 0 (fun _ => true) true fuel T cs = some x → ∃ a : α, k.K W a cs ∧ good a ∧ bulk a ≤ Rows.uptoBulk x.1

theorem Opens.int {P : Program} {T : TypeId} {q : IntKind} (h : P.underlying T = some (.int q)) : Opens P T (Kd.int q) (fun n => (Lit.int q n).wf = true) (fun _ => 1) := by
  intro H enc W fuel cs x hx
  obtain ⟨n, rfl, rfl, hw⟩ := DataW.trod_int h hx
  exact ⟨n, rfl, hw, by simp [Rows.uptoBulk]⟩
theorem Opens.bool {P : Program} {T : TypeId} (h : P.underlying T = some .bool) : Opens P T Kd.bool (fun _ => True) (fun _ => 1) := by
  intro H enc W fuel cs x hx
  obtain ⟨n, rfl, rfl⟩ := DataW.trod_bool h hx
  exact ⟨n, rfl, trivial, by simp [Rows.uptoBulk]⟩

theorem list_of {α : Type} (n : Nat) : ∀ (R : Nat → α → Prop), (∀ i, i < n → ∃ a, R i a) → ∃ l : List α, l.length = n ∧ ∀ i a, l[i]? = some a → R i a := by
  induction n with
  | zero => intro R _; exact ⟨[], rfl, fun i a h => by simp at h⟩
  | succ n ih =>
    intro R h
    obtain ⟨a, ha⟩ := h 0 (by omega)
    obtain ⟨l, hl, hr⟩ := ih (fun i a => R (i + 1) a) (fun i hi => h (i + 1) (by omega))
    refine ⟨a :: l, by simp [hl], fun i b hb => ?_⟩
    cases i with
    | zero => simp at hb; subst hb; exact ha
    | succ i => exact hr i b (by simpa using hb)

theorem cells_get {w : World} {base : Nat} {a : Addr} {n : Nat} {cs : List Value} (h : w.cells? base a n = some cs) (j : Nat) (u : Value) (hu : cs[j]? = some u) : w.cell? (a.add j) = some u := by
  unfold World.cells? at h
  split at h
  · have hl := mapM_some_length h
    have hj : j < n := by
      have := (List.getElem?_eq_some_iff.1 hu).1
      simp at hl; omega
    have := mapM_some_get h j j (by simp [hj])
    rw [this, hu]
  · cases h

theorem add_add (a : Addr) (m j : Nat) : (a.add m).add j = a.add (m + j) := by
  unfold Addr.add
  by_cases h1 : m = 0 <;> by_cases h2 : j = 0 <;> simp [h1, h2, Nat.add_assoc]
theorem bulk_sum {α H : Type} (bulk : α → Nat) : ∀ (l : List α) (ds : List (DataW H)), l.length = ds.length → (∀ (i : Nat) (a : α) (d : DataW H), l[i]? = some a → ds[i]? = some d → bulk a ≤ Rows.uptoBulk d) → (l.map bulk).sum ≤ Rows.uptoBulkAll ds
  | [], [], _, _ => by simp
  | a :: l, d :: ds, hl, h => by
    have h0 := h 0 a d rfl rfl
    have h1 := bulk_sum bulk l ds (by simpa using hl) (fun i b e hb he => h (i + 1) b e (by simpa using hb) (by simpa using he))
    simp only [List.map_cons, List.sum_cons, Rows.uptoBulkAll]
    omega
  | [], _ :: _, hl, _ => by simp at hl
  | _ :: _, [], hl, _ => by simp at hl

theorem Opens.slice {α : Type} {P : Program} {T e : TypeId} {k : Kd α} {good : α → Prop} {bulk : α → Nat} (ht : P.underlying T = some (.slice e)) (hz : P.cellsOf e = k.sz) (h : Opens P e k good bulk) :
    Opens P T (Kd.slice e k) (fun l => l.length ≤ maxLen ∧ ∀ a ∈ l, good a) (fun l => (l.map bulk).sum + 1) := by
  intro H enc W fuel cs x hx
  rcases DataW.trod_slice ht hx with ⟨rfl, rfl⟩ | ⟨a, len, cap, elems, rest, n, _, rfl, rfl, _, hl, hm, hlen, hel, _, _⟩
  · exact ⟨[], ⟨none, 0, rfl, Nat.le_refl _, Kd.C_nil k W⟩, ⟨Nat.zero_le _, fun a h => by cases h⟩, by simp [Rows.uptoBulk]⟩
  · have hone : ∀ i, i < len → ∃ v : α, ∃ c, (∃ y, elems[i]? = some y ∧ bulk v ≤ Rows.uptoBulk y.1) ∧ k.K W v c ∧ good v ∧ ∀ j u, c[j]? = some u → W.cell? (a.add (i * k.sz + j)) = some u := by
      intro i hi
      have he := hel i hi
      have hy : elems[i]? = some (elems[i]'(by omega)) := List.getElem?_eq_getElem (by omega)
      rw [hy, Option.bind_eq_some_iff] at he
      obtain ⟨c, hc, ht'⟩ := he
      obtain ⟨v, hv, hg, hb⟩ := h H enc W n c _ ht'
      refine ⟨v, c, ⟨_, hy, hb⟩, hv, hg, fun j u hu => ?_⟩
      have := cells_get hc j u hu
      rw [hz] at this
      rw [← add_add]
      exact this
    obtain ⟨l, hll, hr⟩ := list_of len _ hone
    have hmem : ∀ v ∈ l, good v := by
      intro v hv
      obtain ⟨i, hi⟩ := List.getElem?_of_mem hv
      obtain ⟨c, _, _, hg, _⟩ := hr i v hi
      exact hg
    refine ⟨l, ⟨some a, cap, by rw [hll], by omega, by omega, ?_, fun hpos => ⟨a, rfl, fun j p hp => ?_⟩⟩, ⟨by omega, hmem⟩, ?_⟩
    · unfold maxLen at hm; omega
    · obtain ⟨c, _, hk, _, hc⟩ := hr j p hp
      exact ⟨c, k.K_len hk, hk, hc⟩
    · have hs := bulk_sum (H := H) bulk l (elems.map (·.1)) (by simp [hll, hlen]) (fun i b d hb hd => by
        obtain ⟨c, ⟨y, hy, hby⟩, _⟩ := hr i b hb
        rw [List.getElem?_map, hy] at hd
        simp at hd
        subst hd
        exact hby)
      simp only [Rows.uptoBulk]
      omega

/-- Fields, one behind the other. -/
def OpensFs {α : Type} (P : Program) (ts : List TypeId) (k : Kd α) (good : α → Prop) (bulk : α → Nat) : Prop :=
  ∀ (H : Type) (enc : TypeId × Value → H) (W : World) (n : Nat) (cs : List Value) (xs : List (DataW H × List MemPlace)), cs.length = (ts.map P.cellsOf).sum → xs.length = ts.length →
    (∀ i t, ts[i]? = some t → DataW.trod enc P W 0 (fun _ => true) true n t ((cs.drop ((ts.take i).map P.cellsOf).sum).take (P.cellsOf t)) = xs[i]?) →
    ∃ a : α, k.K W a cs ∧ good a ∧ bulk a ≤ Rows.uptoBulkAll (xs.map (·.1))

theorem OpensFs.one {α : Type} {P : Program} {t : TypeId} {k : Kd α} {good : α → Prop} {bulk : α → Nat} (h : Opens P t k good bulk) : OpensFs P [t] k good bulk := by
  intro H enc W n cs xs hl hx hf
  match xs, hx with
  | [x], _ =>
    have h0 := hf 0 t rfl
    simp at h0 hl
    rw [List.take_of_length_le (by omega)] at h0
    obtain ⟨a, h1, h2, h3⟩ := h H enc W n cs x h0
    exact ⟨a, h1, h2, by simpa [Rows.uptoBulkAll] using h3⟩

theorem OpensFs.cons {α β : Type} {P : Program} {t : TypeId} {ts : List TypeId} {k : Kd α} {ks : Kd β} {g : α → Prop} {gs : β → Prop} {b : α → Nat} {bs : β → Nat} (h : Opens P t k g b) (hs : OpensFs P ts ks gs bs) :
    OpensFs P (t :: ts) (Kd.pair k ks) (fun x => g x.1 ∧ gs x.2) (fun x => b x.1 + bs x.2) := by
  intro H enc W n cs xs hl hx hf
  match xs, hx with
  | x :: xs, hx =>
    have h0 := hf 0 t rfl
    simp at h0 hl
    obtain ⟨a, h1, h2, h3⟩ := h H enc W n _ x h0
    obtain ⟨c, g1, g2, g3⟩ := hs H enc W n (cs.drop (P.cellsOf t)) xs (by rw [List.length_drop]; omega) (by simpa using hx) (fun i t' ht' => by
      have := hf (i + 1) t' (by simpa using ht')
      simp only [List.take_succ_cons, List.map_cons, List.sum_cons, List.getElem?_cons_succ] at this
      rw [List.drop_drop]
      exact this)
    exact ⟨(a, c), ⟨_, _, (List.take_append_drop (P.cellsOf t) cs).symm, h1, g1⟩, ⟨h2, g2⟩, by simp only [List.map_cons, Rows.uptoBulkAll]; omega⟩

theorem Opens.struct {α : Type} {P : Program} {T : TypeId} {fs : Array Field} {ts : List TypeId} {k : Kd α} {good : α → Prop} {bulk : α → Nat} (ht : P.underlying T = some (.struct fs))
    (hts : fs.toList.map (·.type) = ts) (hoff : fs.toList.map (·.offset) = (List.range ts.length).map fun i => ((ts.take i).map P.cellsOf).sum) (hsz : P.cellsOf T = (ts.map P.cellsOf).sum) (h : OpensFs P ts k good bulk) :
    Opens P T k good (fun a => bulk a + 1) := by
  intro H enc W fuel cs x hx
  obtain ⟨xs, n, _, rfl, hl, hlen, hf⟩ := DataW.trod_struct ht hx
  have hn : ts.length = fs.size := by rw [← hts]; simp
  obtain ⟨a, h1, h2, h3⟩ := h H enc W n cs xs (by rw [hl, hsz]) (by rw [hlen, hn]) (fun i t hi => by
    have hlt : i < fs.size := by have := (List.getElem?_eq_some_iff.1 hi).1; omega
    have hfi : fs[i]? = some fs[i] := Array.getElem?_eq_getElem hlt
    have e1 : fs[i].type = t := by
      have := congrArg (fun l => l[i]?) hts
      simp [hi, hlt] at this
      exact this
    have e2 : fs[i].offset = ((ts.take i).map P.cellsOf).sum := by
      have := congrArg (fun l => l[i]?) hoff
      simp [hlt, hn] at this
      rw [List.map_take]
      exact this
    have := hf i _ hfi
    rw [e1, e2] at this
    exact this)
  exact ⟨a, h1, h2, by simp only [Rows.uptoBulk]; omega⟩

theorem Opens.iso {α β : Type} {P : Program} {T : TypeId} {k : Kd α} {good : α → Prop} {bulk : α → Nat} (f : β → α) (g : α → β) (hfg : ∀ a, f (g a) = a) (h : Opens P T k good bulk) :
    Opens P T (Kd.iso k f) (fun b => good (f b)) (fun b => bulk (f b)) := by
  intro H enc W fuel cs x hx
  obtain ⟨a, h1, h2, h3⟩ := h H enc W fuel cs x hx
  exact ⟨g a, by show k.K W (f (g a)) cs; rw [hfg]; exact h1, by show good (f (g a)); rw [hfg]; exact h2, by show bulk (f (g a)) ≤ _; rw [hfg]; exact h3⟩
end Go.Proofs.Ytkbcjagkacijnaa.Open
end
section
namespace Go.Proofs.Ytkbcjagkacijnaa.Open
open Go.RowKit Go.Proofs.YtkbcjagkacijnaaW.PrintWords
set_option linter.unusedVariables false
abbrev kV : Kd (Int × Int) := Kd.pair (Kd.int .i64) (Kd.int .i64)
abbrev okV (x : Int × Int) : Prop := (Lit.int .i64 x.1).wf = true ∧ (Lit.int .i64 x.2).wf = true
set_option maxRecDepth 100000 in
theorem vec : Opens Try.prog 25 kV okV (fun _ => 1 + 1 + 1) :=
  Opens.struct (ts := [2, 2]) Try.underlying25 (by kernel_rfl) (by kernel_rfl) (by kernel_rfl) (OpensFs.cons (Opens.int Try.underlying2) (OpensFs.one (Opens.int Try.underlying2)))
theorem of_vec {W : World} {c : Array Value} {x : Int × Int} (h : kV.K W x c.toList) : c = #[.int .i64 x.1, .int .i64 x.2] := by
  obtain ⟨d, e, h1, rfl, rfl⟩ := h
  exact Array.toList_inj.mp (by simpa using h1)
end Go.Proofs.Ytkbcjagkacijnaa.Open
end
section
namespace Go.Proofs.Ytkbcjagkacijnaa.Walk
set_option linter.unusedVariables false
open Go.RowKit Go.Proofs.Ytkbcjagkacijnaa.NumLib Go.Proofs.YtkbcjagkacijnaaW.PrintWords
theorem VecOrders (W : World) (a : Array Value) (x : Int × Int) (ha : Open.kV.K W x a.toList) (ga : Open.okV x) (wa : Int) (gwa : (Lit.int .i64 wa).wf = true) (b : Array Value) (y : Int × Int) (hb : Open.kV.K W y b.toList) (gb : Open.okV y) (wb : Int) (gwb : (Lit.int .i64 wb).wf = true)
    (t : Array Value) (u : Int × Int) (ht : Open.kV.K W u t.toList) (gt : Open.okV u) :
    Calls Try.prog 11 #[.agg a, .int .i64 wa, .agg b, .int .i64 wb, .agg t] W fun e w' => e = .returned (.bool true) ∧ Below W.heap.size W w' := by
  obtain rfl := Open.of_vec ha
  obtain rfl := Open.of_vec hb
  obtain rfl := Open.of_vec ht
  exact PVec.furlonglaw02_VecOrders.calls _ _ _ _ _ _ _ _ _ _ W (VecLib.VecOrders _ _ _ _ _ _ _ _)
end Go.Proofs.Ytkbcjagkacijnaa.Walk
end
