/- The law StrideScripts over what is read of its arguments. -/
import Derived.Test.YtkcmmghhghgdpaaStr26
namespace Go.Proofs.Ytkcmmghhghgdpaa.Walk
open Go.RowKit Go.Shelf Go.Maps Go.Proofs.Ytkcmmghhghgdpaa.Iter Go.Proofs.Ytkcmmghhghgdpaa.SeqM Go.Proofs.Ytkcmmghhghgdpaa.Str Go.Proofs.YtkcmmghhghgdpaaW.PrintWords Go.Proofs.YtkcmmghhghgdpaaW.PrintLast
set_option linter.unusedVariables false
set_option linter.unusedSimpArgs false

set_option maxRecDepth 100000 in
set_option maxHeartbeats 16000000 in
theorem StrideScripts (W : World) (A0 : Option Addr) (c0 : Nat) (ops : List Opr) (hc0 : ops.length ≤ c0) (hr0 : Open.kOp.C W A0 ops.length ops) (g0 : ops.length ≤ maxLen ∧ ∀ a ∈ ops, Open.okOp a) :
    Calls Try.prog 4 #[.slice A0 ops.length c0] W fun e W' => e = .returned (.bool true) ∧ Below W.heap.size W W' := by
  have hl63 : ops.length ≤ 9223372036854775807 := g0.1
  have hR := Lib.hid (readsO_C hr0)
  clear hr0 g0
  by_cases hbig : 300 < ops.length
  · have hb1 : (300 : Int) < (ops.length : Int) := by omega
    go_enter Try.func4, Try.ntmps4
    go_wp2_with ((with_reducible refine gate_callee (f := 14) rfl ?_); refine goesL_ (some 9) rfl rfl Try.func14 (by kernel_rfl) rfl #[] rfl (by (try simp only [List.map_toArray, List.map_cons, List.map_nil]); first | done | rfl) ?_; (with_reducible refine (awake_calls _).mono ?_); rintro e w1 ⟨rfl, b1⟩; refine ⟨_, rfl, ?_⟩; have b1' := Lib.hid b1; clear b1)
    go_ret
    exact ⟨rfl, b1'.out⟩
  · have hb1 : ¬ (300 : Int) < (ops.length : Int) := by omega
    go_enter Try.func4, Try.ntmps4
    go_wp2_with (first | ((with_reducible refine gate_callee (f := 14) rfl ?_); refine goesL_ (some 9) rfl rfl Try.func14 (by kernel_rfl) rfl #[] rfl (by (try simp only [List.map_toArray, List.map_cons, List.map_nil]); first | done | rfl) ?_; (with_reducible refine (awake_calls _).mono ?_); rintro e w1 ⟨rfl, b1⟩; refine ⟨_, rfl, ?_⟩; have b1' := Lib.hid b1; clear b1) | ((with_reducible refine gate_callee (f := 15) rfl ?_); refine goesL_ (some 14) rfl rfl Try.func15 (by kernel_rfl) rfl #[] rfl (by (try simp only [List.map_toArray, List.map_cons, List.map_nil]); first | done | rfl) ?_; (with_reducible refine (new_calls _).mono ?_); rintro e w2 ⟨rfl, g2, b2⟩; refine ⟨_, rfl, ?_⟩; have g2' := Lib.hid g2; have b2' := Lib.hid (b1'.out.trans (b2.mono b1'.out.size)); clear g2 b2))
    obtain ⟨G, hG⟩ : ∃ G, w1.heap.size = G := ⟨_, rfl⟩
    have hGW := b1'.out.size
    rw [hG] at g2' hGW ⊢
    clear hG
    go_loopw [4, 17] (fun lv iv wr => ∃ (i : Nat) (u : Value) (v : Value) (L : List Cl), u = lv ∧ iv = .int .i64 (i : Int) ∧ i ≤ ops.length ∧ GoodG L ∧ RowR wr u L ∧ Grp tG tC W.heap.size G v L wr ∧ Below W.heap.size W wr)
      (fun _ iv _ => ops.length - (intOf iv).toNat)
    case atStart => exact ⟨0, _, _, [], rfl, rfl, Nat.zero_le _, good_nil, World.ownsRow_nil _ _ _ _, g2'.out.lower hGW, b2'.out⟩
    case round =>
      obtain ⟨i, u, v, L, rfl, rfl, hi, hgood, hrow, hgr, hbel⟩ := hrel
      have hgood' := Lib.hid hgood
      have hrow' := Lib.hid hrow
      have hgr' := Lib.hid hgr
      have hbel' := Lib.hid hbel
      by_cases hlt : i < ops.length
      · obtain ⟨⟨kd, oid, ot, orm, on⟩, ho⟩ : ∃ o, ops[i]? = some o := ⟨ops[i], List.getElem?_eq_getElem hlt⟩
        obtain ⟨ad, rfl, _, q0, q1, q2, q3, q4⟩ := hR.out.below hbel i _ ho
        dsimp only at q0 q1 q2 q3 q4
        have bC := Blk.new wr 35 #[.int .i64 kd, .int .i64 oid, .int .i64 ot, .int .i64 orm, .int .i64 on]
        have d0 := bC.cell 0
        have d1 := bC.cell 1
        have d2 := bC.cell 2
        have d3 := bC.cell 3
        have d4 := bC.cell 4
        simp only [List.getElem?_toArray, List.getElem?_cons_zero, List.getElem?_cons_succ] at d0 d1 d2 d3 d4
        have g3' := Lib.hid (hgr'.out.alloc (.cells #[.int .i64 kd, .int .i64 oid, .int .i64 ot, .int .i64 orm, .int .i64 on] 35))
        have r3' := Lib.hid (show RowR (wr.alloc (.cells #[.int .i64 kd, .int .i64 oid, .int .i64 ot, .int .i64 orm, .int .i64 on] 35)) u L from hrow.alloc _)
        have b3' := Lib.hid (hbel'.out.alloc hbel'.out.size (.cells #[.int .i64 kd, .int .i64 oid, .int .i64 ot, .int .i64 orm, .int .i64 on] 35))
        obtain ⟨Au, cu, rfl⟩ := hrow.slice
        have hln := Lib.hid (good_len hgood)
        clear hgood hrow hgr hbel ho bC
        by_cases hskip : kd = 4 ∧ 300 < on ∧ on ≤ 100000
        · obtain ⟨rfl, s1, s2⟩ := hskip
          go_wp2
          go_roundw
          case rel => exact ⟨i + 1, _, v, L, rfl, by go_num, by omega, hgood'.out, r3'.out, g3'.out, b3'.out⟩
          case measure => simp [intOf]; omega
        · have hgp := Lib.hid (playL_good (kd, oid, ot, orm, on) hgood'.out)
          by_cases k4 : kd = 4
          · subst k4
            by_cases s1 : 300 < on
            · have s2 : ¬ on ≤ 100000 := fun h => hskip ⟨rfl, s1, h⟩
              clear hskip
              go_wp2_with (first | ((with_reducible refine gate_callee (f := 19) rfl ?_); refine goesL_ (some 38) rfl rfl Try.func19 (by kernel_rfl) rfl #[ptrG G, .slice Au L.length cu, .agg #[.int .i64 4, .int .i64 oid, .int .i64 ot, .int .i64 orm, .int .i64 on]] rfl (by (try simp only [List.map_toArray, List.map_cons, List.map_nil]); first | done | rfl) ?_; (with_reducible refine (play_calls W.heap.size G v L Au cu 4 oid ot orm on _ hgood'.out g3'.out b3'.out.size r3'.out).mono ?_); rintro e w4 ⟨u4, rfl, r4, ⟨v4, g4⟩, m4⟩; obtain ⟨A4, c4, rfl⟩ := r4.slice; refine ⟨_, rfl, ?_⟩; have r4' := Lib.hid r4; have g4' := Lib.hid g4; have b4' := Lib.hid (step_grp b3'.out (Nat.le_refl _) g3'.out m4); clear r4 g4 m4) | (go_at_call 20; refine (alike_calls W.heap.size G v4 (playL L (4, oid, ot, orm, on)) A4 c4 _ hgp.out g4'.out r4'.out).mono ?_; rintro e w5 ⟨rfl, b5⟩; have r5' := Lib.hid (r4'.out.below b5); have g5' := Lib.hid (grp_below g4'.out b5); have b5' := Lib.hid (b4'.out.trans (b5.mono b4'.out.size)); clear b5))
              go_roundw
              case rel => exact ⟨i + 1, _, v4, _, rfl, by go_num, by omega, hgp.out, r5'.out, g5'.out, b5'.out⟩
              case measure => simp [intOf]; omega
            · clear hskip
              go_wp2_with (first | ((with_reducible refine gate_callee (f := 19) rfl ?_); refine goesL_ (some 38) rfl rfl Try.func19 (by kernel_rfl) rfl #[ptrG G, .slice Au L.length cu, .agg #[.int .i64 4, .int .i64 oid, .int .i64 ot, .int .i64 orm, .int .i64 on]] rfl (by (try simp only [List.map_toArray, List.map_cons, List.map_nil]); first | done | rfl) ?_; (with_reducible refine (play_calls W.heap.size G v L Au cu 4 oid ot orm on _ hgood'.out g3'.out b3'.out.size r3'.out).mono ?_); rintro e w4 ⟨u4, rfl, r4, ⟨v4, g4⟩, m4⟩; obtain ⟨A4, c4, rfl⟩ := r4.slice; refine ⟨_, rfl, ?_⟩; have r4' := Lib.hid r4; have g4' := Lib.hid g4; have b4' := Lib.hid (step_grp b3'.out (Nat.le_refl _) g3'.out m4); clear r4 g4 m4) | (go_at_call 20; refine (alike_calls W.heap.size G v4 (playL L (4, oid, ot, orm, on)) A4 c4 _ hgp.out g4'.out r4'.out).mono ?_; rintro e w5 ⟨rfl, b5⟩; have r5' := Lib.hid (r4'.out.below b5); have g5' := Lib.hid (grp_below g4'.out b5); have b5' := Lib.hid (b4'.out.trans (b5.mono b4'.out.size)); clear b5))
              go_roundw
              case rel => exact ⟨i + 1, _, v4, _, rfl, by go_num, by omega, hgp.out, r5'.out, g5'.out, b5'.out⟩
              case measure => simp [intOf]; omega
          · clear hskip
            go_wp2_with (first | ((with_reducible refine gate_callee (f := 19) rfl ?_); refine goesL_ (some 38) rfl rfl Try.func19 (by kernel_rfl) rfl #[ptrG G, .slice Au L.length cu, .agg #[.int .i64 kd, .int .i64 oid, .int .i64 ot, .int .i64 orm, .int .i64 on]] rfl (by (try simp only [List.map_toArray, List.map_cons, List.map_nil]); first | done | rfl) ?_; (with_reducible refine (play_calls W.heap.size G v L Au cu kd oid ot orm on _ hgood'.out g3'.out b3'.out.size r3'.out).mono ?_); rintro e w4 ⟨u4, rfl, r4, ⟨v4, g4⟩, m4⟩; obtain ⟨A4, c4, rfl⟩ := r4.slice; refine ⟨_, rfl, ?_⟩; have r4' := Lib.hid r4; have g4' := Lib.hid g4; have b4' := Lib.hid (step_grp b3'.out (Nat.le_refl _) g3'.out m4); clear r4 g4 m4) | (go_at_call 20; refine (alike_calls W.heap.size G v4 (playL L (kd, oid, ot, orm, on)) A4 c4 _ hgp.out g4'.out r4'.out).mono ?_; rintro e w5 ⟨rfl, b5⟩; have r5' := Lib.hid (r4'.out.below b5); have g5' := Lib.hid (grp_below g4'.out b5); have b5' := Lib.hid (b4'.out.trans (b5.mono b4'.out.size)); clear b5))
            go_roundw
            case rel => exact ⟨i + 1, _, v4, _, rfl, by go_num, by omega, hgp.out, r5'.out, g5'.out, b5'.out⟩
            case measure => simp [intOf]; omega
      · have hi' : i = ops.length := by omega
        subst hi'
        clear hgood hrow hgr hbel
        go_wp2
        go_ret
        exact ⟨rfl, hbel'.out⟩
end Go.Proofs.Ytkcmmghhghgdpaa.Walk
