/- The law StrideRuns over what is read of its arguments. -/
import Derived.Test.YtkcmmghhghgdpaaStrT
namespace Go.Proofs.Ytkcmmghhghgdpaa.Walk
open Go.RowKit Go.Shelf Go.Maps Go.Proofs.Ytkcmmghhghgdpaa.Iter Go.Proofs.Ytkcmmghhghgdpaa.SeqM Go.Proofs.Ytkcmmghhghgdpaa.Str Go.Proofs.YtkcmmghhghgdpaaW.PrintWords Go.Proofs.YtkcmmghhghgdpaaW.PrintLast
set_option linter.unusedVariables false
set_option linter.unusedSimpArgs false

set_option maxRecDepth 100000 in
set_option maxHeartbeats 16000000 in
theorem StrideRuns (W : World) (A0 : Option Addr) (c0 : Nat) (ops : List Opr) (hc0 : ops.length ≤ c0) (hr0 : Open.kOp.C W A0 ops.length ops) (g0 : ops.length ≤ maxLen ∧ ∀ a ∈ ops, Open.okOp a) (a : Int) (wa : (Lit.int .i64 a).wf = true) (b : Int) (wb : (Lit.int .i64 b).wf = true) :
    Calls Try.prog 6 #[.slice A0 ops.length c0, .int .i64 a, .int .i64 b] W fun e W' => e = .returned (.bool true) ∧ Below W.heap.size W W' := by
  have hl63 : ops.length ≤ 9223372036854775807 := g0.1
  have hR := Lib.hid (readsO_C hr0)
  clear hr0 g0 wa wb
  by_cases k1 : a < 0
  · go_enter Try.func6, Try.ntmps6
    go_wp2_with ((with_reducible refine gate_callee (f := 14) rfl ?_); refine goesL_ (some 20) rfl rfl Try.func14 (by kernel_rfl) rfl #[] rfl (by (try simp only [List.map_toArray, List.map_cons, List.map_nil]); first | done | rfl) ?_; (with_reducible refine (awake_calls _).mono ?_); rintro e w1 ⟨rfl, b1⟩; refine ⟨_, rfl, ?_⟩; have b1' := Lib.hid b1; clear b1)
    go_ret
    exact ⟨rfl, b1'.out⟩
  by_cases k2 : 500 < a
  · go_enter Try.func6, Try.ntmps6
    go_wp2_with ((with_reducible refine gate_callee (f := 14) rfl ?_); refine goesL_ (some 20) rfl rfl Try.func14 (by kernel_rfl) rfl #[] rfl (by (try simp only [List.map_toArray, List.map_cons, List.map_nil]); first | done | rfl) ?_; (with_reducible refine (awake_calls _).mono ?_); rintro e w1 ⟨rfl, b1⟩; refine ⟨_, rfl, ?_⟩; have b1' := Lib.hid b1; clear b1)
    go_ret
    exact ⟨rfl, b1'.out⟩
  by_cases k3 : b < 0
  · go_enter Try.func6, Try.ntmps6
    go_wp2_with ((with_reducible refine gate_callee (f := 14) rfl ?_); refine goesL_ (some 20) rfl rfl Try.func14 (by kernel_rfl) rfl #[] rfl (by (try simp only [List.map_toArray, List.map_cons, List.map_nil]); first | done | rfl) ?_; (with_reducible refine (awake_calls _).mono ?_); rintro e w1 ⟨rfl, b1⟩; refine ⟨_, rfl, ?_⟩; have b1' := Lib.hid b1; clear b1)
    go_ret
    exact ⟨rfl, b1'.out⟩
  by_cases k4 : 500 < b
  · go_enter Try.func6, Try.ntmps6
    go_wp2_with ((with_reducible refine gate_callee (f := 14) rfl ?_); refine goesL_ (some 20) rfl rfl Try.func14 (by kernel_rfl) rfl #[] rfl (by (try simp only [List.map_toArray, List.map_cons, List.map_nil]); first | done | rfl) ?_; (with_reducible refine (awake_calls _).mono ?_); rintro e w1 ⟨rfl, b1⟩; refine ⟨_, rfl, ?_⟩; have b1' := Lib.hid b1; clear b1)
    go_ret
    exact ⟨rfl, b1'.out⟩
  obtain ⟨a, rfl⟩ : ∃ N : Nat, a = (N : Int) := ⟨a.toNat, by omega⟩
  obtain ⟨b, rfl⟩ : ∃ N : Nat, b = (N : Int) := ⟨b.toNat, by omega⟩
  have hw : IntKind.i64.wrap ((a : Int) + (b : Int)) = (a : Int) + (b : Int) := IntWalk.i64_in _ (by omega)
  have hM := Lib.hid (fun (w : World) (h : ReadsO w A0 ops) => made_calls A0 c0 ops w h hl63)
  have hgood := Lib.hid (madeL_good ops)
  obtain ⟨L, hL⟩ : ∃ L, madeL ops = L := ⟨_, rfl⟩
  simp only [hL] at hM
  rw [hL] at hgood
  clear hL
  by_cases hemp : L = []
  · subst hemp
    have ra := Lib.hid (runs_nil a (by omega))
    have rb := Lib.hid (runs_nil b (by omega))
    have rc := Lib.hid (show runR [] ((a : Int) + (b : Int)) = ([], [], if (a : Int) + (b : Int) = 0 then 0 else 8) by rw [show (a : Int) + (b : Int) = ((a + b : Nat) : Int) by omega]; exact runs_nil (a + b) (by omega))
    obtain ⟨ea, hea⟩ : ∃ e, (if (a : Int) = 0 then (0 : Int) else 8) = e := ⟨_, rfl⟩
    obtain ⟨eb, heb⟩ : ∃ e, (if (b : Int) = 0 then (0 : Int) else 8) = e := ⟨_, rfl⟩
    obtain ⟨ec, hec⟩ : ∃ e, (if (a : Int) + (b : Int) = 0 then (0 : Int) else 8) = e := ⟨_, rfl⟩
    rw [hea] at ra
    rw [heb] at rb
    rw [hec] at rc
    have hea' := Lib.hid hea
    have heb' := Lib.hid heb
    have hec' := Lib.hid hec
    clear hea heb hec
    have hg1 := Lib.hid good_nil
    have hg3 := Lib.hid good_nil
    go_enter Try.func6, Try.ntmps6
    go_upto_region 10 with (first | ((with_reducible refine gate_callee (f := 14) rfl ?_); refine goesL_ (some 20) rfl rfl Try.func14 (by kernel_rfl) rfl #[] rfl (by (try simp only [List.map_toArray, List.map_cons, List.map_nil]); first | done | rfl) ?_; (with_reducible refine (awake_calls _).mono ?_); rintro e w1 ⟨rfl, b1⟩; refine ⟨_, rfl, ?_⟩; have b1' := Lib.hid b1; clear b1) | ((with_reducible refine gate_callee (f := 21) rfl ?_); refine goesL_ (some 37) rfl rfl Try.func21 (by kernel_rfl) rfl #[.slice A0 ops.length c0] rfl (by (try simp only [List.map_toArray, List.map_cons, List.map_nil]); first | done | rfl) ?_; (with_reducible refine (hM.out _ (hR.out.below b1'.out)).mono ?_); rintro e w2 ⟨G, v, rfl, g2, b2⟩; refine ⟨_, rfl, ?_⟩; have g2' := Lib.hid g2; have b2' := Lib.hid (b1'.out.trans (b2.mono b1'.out.size)); clear g2 b2) | ((with_reducible refine gate_callee (f := 21) rfl ?_); refine goesL_ (some 39) rfl rfl Try.func21 (by kernel_rfl) rfl #[.slice A0 ops.length c0] rfl (by (try simp only [List.map_toArray, List.map_cons, List.map_nil]); first | done | rfl) ?_; (with_reducible refine (hM.out _ (hR.out.below b2'.out)).mono ?_); rintro e w3 ⟨H, vh, rfl, h3, b3⟩; refine ⟨_, rfl, ?_⟩; have h3' := Lib.hid h3; have g3' := Lib.hid (grp_below g2'.out b3); have b3' := Lib.hid (b2'.out.trans (b3.mono b2'.out.size)); have sH := Lib.hid (And.intro h3.lt (fun k (hk : vh.ownBlock = some k) => (own_block h3.row hk).2.1)); have sG := Lib.hid (And.intro g2'.out.lt (fun k (hk : v.ownBlock = some k) => (own_block g2'.out.row hk).2.1)); have s3 := Lib.hid b3.size; clear h3 b3) | ((with_reducible refine gate_callee (f := 17) rfl ?_); refine goesL_ (some 43) rfl rfl Try.func17 (by kernel_rfl) rfl #[ptrG G, .int .i64 (a : Int)] rfl (by (try simp only [List.map_toArray, List.map_cons, List.map_nil]); first | done | rfl) ?_; (with_reducible refine (run_calls w1.heap.size G v [] (a : Int) _ good_nil g3'.out).mono ?_); rintro e w4 ⟨u, rfl, u4, g4, m4⟩; rw [ra.out] at u4 g4; obtain ⟨Ax, cx, rfl⟩ := slice_of_own u4; refine ⟨_, rfl, ?_⟩; have g4' := Lib.hid g4; have h4' := Lib.hid (h3'.out.mtOther m4 sG.out.1 sG.out.2); have b4' := Lib.hid (step_grp b3'.out (Nat.le_refl _) (g3'.out.lower b1'.out.size) m4); clear u4 g4 m4; simp only [ra.out]) | ((with_reducible refine gate_callee (f := 17) rfl ?_); refine goesL_ (some 49) rfl rfl Try.func17 (by kernel_rfl) rfl #[ptrG G, .int .i64 (b : Int)] rfl (by (try simp only [List.map_toArray, List.map_cons, List.map_nil]); first | done | rfl) ?_; (with_reducible refine (run_calls w1.heap.size G v [] (b : Int) _ good_nil g4'.out).mono ?_); rintro e w5 ⟨u, rfl, u5, g5, m5⟩; rw [rb.out] at u5 g5; obtain ⟨Ay, cy, rfl⟩ := slice_of_own u5; refine ⟨_, rfl, ?_⟩; have h5' := Lib.hid (h4'.out.mtOther m5 sG.out.1 sG.out.2); have b5' := Lib.hid (step_grp b4'.out (Nat.le_refl _) (g4'.out.lower b1'.out.size) m5); clear u5 g5 m5; simp only [rb.out]) | ((with_reducible refine gate_callee (f := 17) rfl ?_); refine goesL_ (some 57) rfl rfl Try.func17 (by kernel_rfl) rfl #[ptrG H, .int .i64 ((a : Int) + (b : Int))] rfl (by (try simp only [List.map_toArray, List.map_cons, List.map_nil]); first | done | rfl) ?_; (with_reducible refine (run_calls w2.heap.size H vh [] ((a : Int) + (b : Int)) _ good_nil h5'.out).mono ?_); rintro e w6 ⟨u, rfl, u6, g6, m6⟩; rw [rc.out] at u6 g6; obtain ⟨Az, cz, rfl⟩ := slice_of_own u6; refine ⟨_, rfl, ?_⟩; have h6' := Lib.hid g6; have b6' := Lib.hid (step_grp b5'.out (Nat.le_refl _) (h5'.out.lower b2'.out.size) m6); clear u6 g6 m6; simp only [rc.out]) | ((with_reducible refine gate_callee (f := 22) rfl ?_); refine goesL_ (some 61) rfl rfl Try.func22 (by kernel_rfl) rfl #[ptrG H] rfl (by (try simp only [List.map_toArray, List.map_cons, List.map_nil]); first | done | rfl) ?_; (with_reducible refine (list_calls w2.heap.size H vh [] _ (good_len good_nil) h6'.out).mono ?_); rintro e w7 ⟨u, rfl, u7, b7⟩; obtain ⟨A7, c7, rfl⟩ := slice_of_own u7; refine ⟨_, rfl, ?_⟩; have b7' := Lib.hid (b6'.out.trans (b7.mono b6'.out.size)); clear u7 b7))
    by_cases pa : (a : Int) = 0
    · obtain rfl : ea = 0 := by rw [← hea'.out, if_pos pa]
      by_cases pb : (b : Int) = 0
      · obtain rfl : eb = 0 := by rw [← heb'.out, if_pos pb]
        obtain rfl : ec = 0 := by rw [← hec'.out, if_pos (by omega)]
        have pc : (a : Int) + (b : Int) = 0 := by omega
        have qa : ((a : Int) == 0) = true := beq_iff_eq.mpr pa
        have qb : ((b : Int) == 0) = true := beq_iff_eq.mpr pb
        have qc : ((a : Int) + (b : Int) == 0) = true := beq_iff_eq.mpr pc
        clear pa pb pc
        go_wp2
        go_ret
        exact ⟨rfl, b7'.out⟩
      · obtain rfl : eb = 8 := by rw [← heb'.out, if_neg pb]
        have pc : ¬ (a : Int) + (b : Int) = 0 := by omega
        obtain rfl : ec = 8 := by rw [← hec'.out, if_neg pc]
        have qa : ((a : Int) == 0) = true := beq_iff_eq.mpr pa
        have qb : ((b : Int) == 0) = false := beq_eq_false_iff_ne.mpr pb
        have qc : ((a : Int) + (b : Int) == 0) = false := beq_eq_false_iff_ne.mpr pc
        clear pa pb pc
        go_wp2
        go_ret
        exact ⟨rfl, b7'.out⟩
    · obtain rfl : ea = 8 := by rw [← hea'.out, if_neg pa]
      have pc : ¬ (a : Int) + (b : Int) = 0 := by omega
      obtain rfl : ec = 8 := by rw [← hec'.out, if_neg pc]
      by_cases pb : (b : Int) = 0
      · obtain rfl : eb = 0 := by rw [← heb'.out, if_pos pb]
        have qa : ((a : Int) == 0) = false := beq_eq_false_iff_ne.mpr pa
        have qb : ((b : Int) == 0) = true := beq_iff_eq.mpr pb
        have qc : ((a : Int) + (b : Int) == 0) = false := beq_eq_false_iff_ne.mpr pc
        clear pa pb pc
        go_wp2
        go_ret
        exact ⟨rfl, b7'.out⟩
      · obtain rfl : eb = 8 := by rw [← heb'.out, if_neg pb]
        have qa : ((a : Int) == 0) = false := beq_eq_false_iff_ne.mpr pa
        have qb : ((b : Int) == 0) = false := beq_eq_false_iff_ne.mpr pb
        have qc : ((a : Int) + (b : Int) == 0) = false := beq_eq_false_iff_ne.mpr pc
        clear pa pb pc
        go_wp2
        go_ret
        exact ⟨rfl, b7'.out⟩
  · obtain ⟨L1, L2, L3, xs, ys, ra, rb, rc, hl3, hxl, hyl, hg1, hg3, hpick⟩ := runs_more hgood.out hemp a b (by omega) (by omega)
    have ra := Lib.hid ra
    have rb := Lib.hid rb
    have rc := Lib.hid rc
    have hg1 := Lib.hid hg1
    have hg3 := Lib.hid hg3
    have hpick := Lib.hid hpick
    have hlp : 0 < L.length := by cases L with | nil => exact absurd rfl hemp | cons => simp
    have hl0 : ¬ (L3.length : Int) = 0 := by omega
    have hemp' := Lib.hid hemp
    have hxl' := Lib.hid hxl
    have hyl' := Lib.hid hyl
    have hzl : (xs ++ ys).length ≤ 1000 := by rw [List.length_append]; omega
    obtain ⟨zs, hzs⟩ : ∃ zs, xs ++ ys = zs := ⟨_, rfl⟩
    rw [hzs] at rc hpick hzl
    have hzs' := Lib.hid hzs
    clear hemp hxl hyl hzs hl3
    go_enter Try.func6, Try.ntmps6
    go_wp2_with (first | ((with_reducible refine gate_callee (f := 14) rfl ?_); refine goesL_ (some 20) rfl rfl Try.func14 (by kernel_rfl) rfl #[] rfl (by (try simp only [List.map_toArray, List.map_cons, List.map_nil]); first | done | rfl) ?_; (with_reducible refine (awake_calls _).mono ?_); rintro e w1 ⟨rfl, b1⟩; refine ⟨_, rfl, ?_⟩; have b1' := Lib.hid b1; clear b1) | ((with_reducible refine gate_callee (f := 21) rfl ?_); refine goesL_ (some 37) rfl rfl Try.func21 (by kernel_rfl) rfl #[.slice A0 ops.length c0] rfl (by (try simp only [List.map_toArray, List.map_cons, List.map_nil]); first | done | rfl) ?_; (with_reducible refine (hM.out _ (hR.out.below b1'.out)).mono ?_); rintro e w2 ⟨G, v, rfl, g2, b2⟩; refine ⟨_, rfl, ?_⟩; have g2' := Lib.hid g2; have b2' := Lib.hid (b1'.out.trans (b2.mono b1'.out.size)); clear g2 b2) | ((with_reducible refine gate_callee (f := 21) rfl ?_); refine goesL_ (some 39) rfl rfl Try.func21 (by kernel_rfl) rfl #[.slice A0 ops.length c0] rfl (by (try simp only [List.map_toArray, List.map_cons, List.map_nil]); first | done | rfl) ?_; (with_reducible refine (hM.out _ (hR.out.below b2'.out)).mono ?_); rintro e w3 ⟨H, vh, rfl, h3, b3⟩; refine ⟨_, rfl, ?_⟩; have h3' := Lib.hid h3; have g3' := Lib.hid (grp_below g2'.out b3); have b3' := Lib.hid (b2'.out.trans (b3.mono b2'.out.size)); have sH := Lib.hid (And.intro h3.lt (fun k (hk : vh.ownBlock = some k) => (own_block h3.row hk).2.1)); have sG := Lib.hid (And.intro g2'.out.lt (fun k (hk : v.ownBlock = some k) => (own_block g2'.out.row hk).2.1)); have s3 := Lib.hid b3.size; clear h3 b3) | ((with_reducible refine gate_callee (f := 17) rfl ?_); refine goesL_ (some 43) rfl rfl Try.func17 (by kernel_rfl) rfl #[ptrG G, .int .i64 (a : Int)] rfl (by (try simp only [List.map_toArray, List.map_cons, List.map_nil]); first | done | rfl) ?_; (with_reducible refine (run_calls w1.heap.size G v L (a : Int) _ hgood.out g3'.out).mono ?_); rintro e w4 ⟨u, rfl, u4, g4, m4⟩; rw [ra.out] at u4 g4; obtain ⟨Ax, cx, rfl⟩ := slice_of_own u4; refine ⟨_, rfl, ?_⟩; have x4' := Lib.hid u4; have g4' := Lib.hid g4; have h4' := Lib.hid (h3'.out.mtOther m4 sG.out.1 sG.out.2); have b4' := Lib.hid (step_grp b3'.out (Nat.le_refl _) (g3'.out.lower b1'.out.size) m4); have s4 := Lib.hid m4.size; clear u4 g4 m4; simp only [ra.out]) | ((with_reducible refine gate_callee (f := 17) rfl ?_); refine goesL_ (some 49) rfl rfl Try.func17 (by kernel_rfl) rfl #[ptrG G, .int .i64 (b : Int)] rfl (by (try simp only [List.map_toArray, List.map_cons, List.map_nil]); first | done | rfl) ?_; (with_reducible refine (run_calls w1.heap.size G v L1 (b : Int) _ hg1.out g4'.out).mono ?_); rintro e w5 ⟨u, rfl, u5, g5, m5⟩; rw [rb.out] at u5 g5; obtain ⟨Ay, cy, rfl⟩ := slice_of_own u5; refine ⟨_, rfl, ?_⟩; have y5' := Lib.hid u5; have x5' := Lib.hid (own_mt x4'.out m5 (Nat.lt_of_lt_of_le sG.out.1 s3.out) (fun k hk => Nat.lt_of_lt_of_le (sG.out.2 k hk) s3.out)); have h5' := Lib.hid (h4'.out.mtOther m5 sG.out.1 sG.out.2); have b5' := Lib.hid (step_grp b4'.out (Nat.le_refl _) (g4'.out.lower b1'.out.size) m5); have s5 := Lib.hid m5.size; clear u5 g5 m5; simp only [rb.out]) | ((with_reducible refine gate_callee (f := 17) rfl ?_); refine goesL_ (some 57) rfl rfl Try.func17 (by kernel_rfl) rfl #[ptrG H, .int .i64 ((a : Int) + (b : Int))] rfl (by (try simp only [List.map_toArray, List.map_cons, List.map_nil]); first | done | rfl) ?_; (with_reducible refine (run_calls w2.heap.size H vh L ((a : Int) + (b : Int)) _ hgood.out h5'.out).mono ?_); rintro e w6 ⟨u, rfl, u6, g6, m6⟩; rw [rc.out] at u6 g6; obtain ⟨Az, cz, rfl⟩ := slice_of_own u6; refine ⟨_, rfl, ?_⟩; have z6' := Lib.hid u6; have h6' := Lib.hid g6; have x6' := Lib.hid (own_mt x5'.out m6 sH.out.1 sH.out.2); have y6' := Lib.hid (own_mt y5'.out m6 (Nat.lt_of_lt_of_le sH.out.1 s4.out) (fun k hk => Nat.lt_of_lt_of_le (sH.out.2 k hk) s4.out)); have b6' := Lib.hid (step_grp b5'.out (Nat.le_refl _) (h5'.out.lower b2'.out.size) m6); have s6 := Lib.hid m6.size; clear u6 g6 m6; simp only [rc.out]) | ((with_reducible refine gate_callee (f := 22) rfl ?_); refine goesL_ (some 61) rfl rfl Try.func22 (by kernel_rfl) rfl #[ptrG H] rfl (by (try simp only [List.map_toArray, List.map_cons, List.map_nil]); first | done | rfl) ?_; (with_reducible refine (list_calls w2.heap.size H vh L3 _ (good_len hg3.out) h6'.out).mono ?_); rintro e w7 ⟨u, rfl, u7, b7⟩; obtain ⟨A7, c7, rfl⟩ := slice_of_own u7; refine ⟨_, rfl, ?_⟩; have x7' := Lib.hid (own_below x6'.out b7); have y7' := Lib.hid (own_below y6'.out b7); have z7' := Lib.hid (own_below z6'.out b7); have s7 := Lib.hid b7.size; have b7' := Lib.hid (b6'.out.trans (b7.mono b6'.out.size)); clear u7 b7) | ((with_reducible refine gate_callee (f := 21) rfl ?_); refine goesL_ (some 86) rfl rfl Try.func21 (by kernel_rfl) rfl #[.slice A0 ops.length c0] rfl (by (try simp only [List.map_toArray, List.map_cons, List.map_nil]); first | done | rfl) ?_; (with_reducible refine (hM.out _ (hR.out.below b7'.out)).mono ?_); rintro e w8 ⟨K, vk, rfl, k8, b8⟩; refine ⟨_, rfl, ?_⟩; have k8' := Lib.hid k8; have b8' := Lib.hid b8; clear k8 b8))
    go_loopw [89] (fun iv wr => ∃ (j : Nat), iv = .int .i64 (j : Int) ∧ j ≤ zs.length ∧ Grp tG tC w7.heap.size K vk (runL j L).1 wr ∧ Below w7.heap.size w7 wr)
      (fun iv _ => zs.length - (intOf iv).toNat)
    case atStart => exact ⟨0, rfl, Nat.zero_le _, k8'.out, b8'.out⟩
    case round =>
      obtain ⟨j, rfl, hj, hkg, hbel⟩ := hrel
      have hkg' := Lib.hid hkg
      have hbel' := Lib.hid hbel
      by_cases hlt : j < zs.length
      · obtain ⟨z, hz⟩ : ∃ z, zs[j]? = some z := ⟨zs[j], List.getElem?_eq_getElem hlt⟩
        have hp := Lib.hid (hpick.out j z hz)
        obtain ⟨az, rfl, _, q0⟩ := ((reads_row z7'.out).1.below hbel) j z hz
        have hgk := Lib.hid (run_good' hgood.out j)
        have hpe : pickR (runL j L).1 = ((pickL (runL j L).1).1, z, 0) := by
          unfold pickR
          rw [if_neg (by intro e; have := run_len j L; rw [e] at this; exact hemp'.out (List.length_eq_zero_iff.1 this.symm)), hp.out]
        have hpe := Lib.hid hpe
        have hone := Lib.hid (run_one L j)
        clear hkg hbel hz
        go_wp2_with ((with_reducible refine gate_callee (f := 23) rfl ?_); refine goesL_ (some 95) rfl rfl Try.func23 (by kernel_rfl) rfl #[ptrG K] rfl (by (try simp only [List.map_toArray, List.map_cons, List.map_nil]); first | done | rfl) ?_; (with_reducible refine (pick_calls w7.heap.size K vk (runL j L).1 _ hgk.out hkg'.out).mono ?_); rintro e w9 ⟨rfl, g9, m9⟩; rw [hpe.out] at g9; refine ⟨_, rfl, ?_⟩; have k9' := Lib.hid g9; have b9' := Lib.hid (step_grp hbel'.out (Nat.le_refl _) hkg'.out m9); clear g9 m9; simp only [hpe.out])
        go_roundw
        case rel => exact ⟨j + 1, by go_num, by omega, by rw [hone.out]; exact k9'.out, b9'.out⟩
        case measure => simp [intOf]; omega
      · have hj' : j = zs.length := by omega
        subst hj'
        have x9 := own_below x7'.out hbel
        have y9 := own_below y7'.out hbel
        have z9 := own_below z7'.out hbel
        obtain ⟨v9, w9, hrun9, hown9, hgr9⟩ := run_app_ints x9 y9 (by rw [hxl'.out, hyl'.out]; omega) (by have h1 := hbel.size; have h2 := s4.out; have h3 := s5.out; have h4 := s6.out; have h5 := s7.out; omega)
        obtain ⟨A9, c9, rfl⟩ := slice_of_own hown9
        rw [hzs'.out] at hown9 hrun9
        have r9 := Lib.hid (reads_row hown9)
        have hz9 := Lib.hid ((reads_row z9).1.grown hgr9 (fun ad h e => by
          have h1 := (reads_row z9).2.1 ad h
          have h2 := (own_block x9 e.symm).2
          have h3 := (own_block x5'.out e.symm).2.1
          omega))
        have b10' := Lib.hid (below_grown (b7'.out.trans (hbel.mono b7'.out.size)) hgr9 (Nat.le_refl _) (fun k hk => Nat.le_trans b3'.out.size (own_block x9 hk).1))
        have hzc := (reads_row z9).2.2.2
        have r9c := r9.out.2.2.2
        clear hkg hbel x9 y9 z9 hown9 hgr9
        go_wp2_with (first | (at_builtin; refine wpList_append_run _ rfl _ _ _ _ rfl _ _ rfl rfl hrun9 ?_) | (go_at_call 18; refine (ints_calls A9 Az c9 cz zs zs _ r9.out.1 hz9.out (by omega) r9c hzc).mono ?_; rintro e w11 ⟨rfl, b11⟩; have b11' := Lib.hid (b10'.out.trans (b11.mono b10'.out.size)); clear b11; simp only [decide_true]))
        go_ret
        exact ⟨rfl, b11'.out⟩
end Go.Proofs.Ytkcmmghhghgdpaa.Walk
