/- The law StrideLeaves over what is read of its arguments. -/
import Derived.Test.YtkcmmghhghgdpaaStrT
namespace Go.Proofs.Ytkcmmghhghgdpaa.Walk
open Go.RowKit Go.Shelf Go.Maps Go.Proofs.Ytkcmmghhghgdpaa.Iter Go.Proofs.Ytkcmmghhghgdpaa.SeqM Go.Proofs.Ytkcmmghhghgdpaa.Str Go.Proofs.YtkcmmghhghgdpaaW.PrintWords Go.Proofs.YtkcmmghhghgdpaaW.PrintLast
set_option linter.unusedVariables false
set_option linter.unusedSimpArgs false

set_option maxRecDepth 100000 in
set_option maxHeartbeats 16000000 in
theorem StrideLeaves (W : World) (A0 : Option Addr) (c0 : Nat) (ops : List Opr) (hc0 : ops.length ≤ c0) (hr0 : Open.kOp.C W A0 ops.length ops) (g0 : ops.length ≤ maxLen ∧ ∀ a ∈ ops, Open.okOp a) (id : Int) (wid : (Lit.int .i64 id).wf = true) :
    Calls Try.prog 7 #[.slice A0 ops.length c0, .int .i64 id] W fun e W' => e = .returned (.bool true) ∧ Below W.heap.size W W' := by
  have hl63 : ops.length ≤ 9223372036854775807 := g0.1
  have hR := Lib.hid (readsO_C hr0)
  clear hr0 g0 wid
  have hM := Lib.hid (fun (w : World) (h : ReadsO w A0 ops) => made_calls A0 c0 ops w h hl63)
  have hgood := Lib.hid (madeL_good ops)
  obtain ⟨L, hL⟩ : ∃ L, madeL ops = L := ⟨_, rfl⟩
  simp only [hL] at hM
  rw [hL] at hgood
  clear hL
  have hln := good_len hgood.out
  go_enter Try.func7, Try.ntmps7
  go_wp2_with (first | ((with_reducible refine gate_callee (f := 14) rfl ?_); refine goesL_ (some 15) rfl rfl Try.func14 (by kernel_rfl) rfl #[] rfl (by (try simp only [List.map_toArray, List.map_cons, List.map_nil]); first | done | rfl) ?_; (with_reducible refine (awake_calls _).mono ?_); rintro e w1 ⟨rfl, b1⟩; refine ⟨_, rfl, ?_⟩; have b1' := Lib.hid b1; clear b1) | ((with_reducible refine gate_callee (f := 21) rfl ?_); refine goesL_ (some 18) rfl rfl Try.func21 (by kernel_rfl) rfl #[.slice A0 ops.length c0] rfl (by (try simp only [List.map_toArray, List.map_cons, List.map_nil]); first | done | rfl) ?_; (with_reducible refine (hM.out _ (hR.out.below b1'.out)).mono ?_); rintro e w2 ⟨G, v, rfl, g2, b2⟩; refine ⟨_, rfl, ?_⟩; have g2' := Lib.hid (g2.lower b1'.out.size); have b2' := Lib.hid (b1'.out.trans (b2.mono b1'.out.size)); clear g2 b2) | ((with_reducible refine gate_callee (f := 22) rfl ?_); refine goesL_ (some 20) rfl rfl Try.func22 (by kernel_rfl) rfl #[ptrG G] rfl (by (try simp only [List.map_toArray, List.map_cons, List.map_nil]); first | done | rfl) ?_; (with_reducible refine (list_calls W.heap.size G v L _ hln g2'.out).mono ?_); rintro e w3 ⟨u, rfl, u3, b3⟩; obtain ⟨A3, c3, rfl⟩ := slice_of_own u3; refine ⟨_, rfl, ?_⟩; have r3' := Lib.hid (own_readsG u3).1; have n3' := Lib.hid (fun (ad : Addr) (h : A3 = some ad) => And.intro (show ad.block ≠ G from fun e => by have h1 := ((own_readsG u3).2.1 ad h).1; have h2 := g2'.out.lt; omega) (show some ad.block ≠ v.ownBlock from fun e => by have h1 := ((own_readsG u3).2.1 ad h).1; have h2 := (own_block g2'.out.row e.symm).2.1; omega)); have g3' := Lib.hid (grp_below g2'.out b3); have b3' := Lib.hid (b2'.out.trans (b3.mono b2'.out.size)); clear u3 b3))
  go_loopw [7, 8, 23] (fun av ov iv wr => ∃ (i : Nat), av = .int .i64 (atI L id i) ∧ ov = .bool (elseF id (L.take i)) ∧ iv = .int .i64 (i : Int) ∧ i ≤ L.length ∧ Below w3.heap.size w3 wr)
    (fun _ _ iv _ => L.length - (intOf iv).toNat)
  case atStart => exact ⟨0, by rw [atI_zero], rfl, rfl, Nat.zero_le _, Below.refl _ _⟩
  case round =>
    obtain ⟨i, rfl, rfl, rfl, hi, hbel⟩ := hrel
    by_cases hlt : i < L.length
    · obtain ⟨c, hc⟩ : ∃ c, L[i]? = some c := ⟨L[i], List.getElem?_eq_getElem hlt⟩
      obtain ⟨g, rfl, _, q0, q1, q2⟩ := (r3'.out.below hbel) i c hc
      have bC := Blk.new wr tC #[.int .i64 c.id, .int .i64 c.t, .int .i64 c.p]
      have d0 := bC.cell 0
      have d2 := bC.cell 2
      simp only [List.getElem?_toArray, List.getElem?_cons_zero, List.getElem?_cons_succ] at d0 d2
      have hb2 := Lib.hid (hbel.alloc hbel.size (.cells #[.int .i64 c.id, .int .i64 c.t, .int .i64 c.p] tC))
      have hel := elseF_take id L i c hc
      by_cases hcid : c.id = id
      · have hat := Lib.hid (atI_yes hgood.out.2.1 hc hcid)
        have e1 : (c.id == id) = true := beq_iff_eq.mpr hcid
        rw [e1] at hel
        simp only [Bool.not_true, Bool.false_and, Bool.or_false] at hel
        have hel' := Lib.hid hel
        clear hbel hc bC hel hcid
        go_wp2
        go_roundw
        case rel => exact ⟨i + 1, by rw [hat.out], by rw [hel'.out], by go_num, by omega, hb2.out⟩
        case measure => simp [intOf]; omega
      · have hat := Lib.hid (atI_no hgood.out.2.1 hc hcid)
        have e1 : (c.id == id) = false := beq_eq_false_iff_ne.mpr hcid
        rw [e1] at hel
        by_cases hp : c.p = 0
        · have e2 : (c.p == 0) = true := beq_iff_eq.mpr hp
          rw [e2] at hel
          simp only [Bool.not_false, Bool.and_self, Bool.or_true] at hel
          have hel' := Lib.hid hel
          clear hbel hc bC hel hp hcid
          go_wp2
          go_roundw
          case rel => exact ⟨i + 1, by rw [hat.out], by rw [hel'.out], by go_num, by omega, hb2.out⟩
          case measure => simp [intOf]; omega
        · have e2 : (c.p == 0) = false := beq_eq_false_iff_ne.mpr hp
          rw [e2] at hel
          simp only [Bool.not_false, Bool.true_and, Bool.or_false] at hel
          have hel' := Lib.hid hel
          clear hbel hc bC hel hp hcid
          go_wp2
          go_roundw
          case rel => exact ⟨i + 1, by rw [hat.out], by rw [hel'.out], by go_num, by omega, hb2.out⟩
          case measure => simp [intOf]; omega
    · have hi' : i = L.length := by omega
      subst hi'
      rw [atI_all hgood.out.2.1, show elseF id (L.take L.length) = elseF id L by rw [List.take_of_length_le (Nat.le_refl _)]]
      have r4' := Lib.hid (r3'.out.below hbel)
      have g4' := Lib.hid (grp_below g3'.out hbel)
      have b4' := Lib.hid (b3'.out.trans (hbel.mono b3'.out.size))
      have hw3 := hbel.size
      clear hbel
      by_cases hh : hasL id L = true
      · obtain ⟨c, hc, hcid, hl2, hl1, hj2, hj1, hsame⟩ := leave_join hgood.out hh
        obtain ⟨g, rfl, _, q0, q1, q2⟩ := r4'.out _ c hc
        have hk := (List.getElem?_eq_some_iff.1 hc).1
        rw [show placeL L id = (lb id L : Int) from if_pos hh]
        have hgl := Lib.hid (leave_good (id := id) hgood.out)
        have hlv := Lib.hid (show leaveL L id = ((leaveL L id).1, c.p, 0) by rw [← hl2])
        obtain ⟨L', hL'⟩ : ∃ L', (leaveL L id).1 = L' := ⟨_, rfl⟩
        rw [hL'] at hgl hlv hl1 hj2 hj1 hsame
        have hgj := Lib.hid (join_good (id := id) (t := c.t) (rem := c.p) hgl.out)
        have hjn := Lib.hid (show joinL L' id c.t c.p = ((joinL L' id c.t c.p).1, 0) by rw [← hj2])
        obtain ⟨L2, hL2⟩ : ∃ L2, (joinL L' id c.t c.p).1 = L2 := ⟨_, rfl⟩
        rw [hL2] at hgj hjn hj1 hsame
        obtain ⟨k, hke⟩ : ∃ k, lb id L = k := ⟨_, rfl⟩
        rw [hke] at hc hk q0 q1 q2 ⊢
        have hsame' := Lib.hid (fun (h : elseF id L = true) => hsame (elseF_yes h))
        obtain ⟨o, ho⟩ : ∃ o, elseF id L = o := ⟨_, rfl⟩
        rw [ho] at hsame' ⊢
        have hk0 : ¬ (k : Int) < 0 := by omega
        have hw : IntKind.i64.wrap ((L.length : Int) - 1) = (L.length : Int) - 1 := IntWalk.i64_in _ (by omega)
        have hll : (L'.length : Int) = (L.length : Int) - 1 := by omega
        have hlj : (L2.length : Int) = (L.length : Int) := by omega
        have hc5' := Lib.hid hc
        clear hc hcid hl2 hl1 hj2 hj1 hsame hL' hL2 hke ho hh
        go_wp2_with (first | ((with_reducible refine gate_callee (f := 24) rfl ?_); refine goesL_ (some 40) rfl rfl Try.func24 (by kernel_rfl) rfl #[ptrG G, .int .i64 id] rfl (by (try simp only [List.map_toArray, List.map_cons, List.map_nil]); first | done | rfl) ?_; (with_reducible refine (leave_calls W.heap.size G v L id _ hgood.out g4'.out).mono ?_); rintro e w5 ⟨rfl, v5, g5, m5, o5⟩; rw [hlv.out] at g5; refine ⟨_, rfl, ?_⟩; have g5' := Lib.hid g5; have r5' := Lib.hid (r4'.out.mt m5 n3'.out); have b5' := Lib.hid (step_grp b4'.out (Nat.le_refl _) g4'.out m5); have n5' := Lib.hid (fun ad h => And.intro (n3'.out ad h).1 (show some ad.block ≠ v5.ownBlock from by rw [o5]; exact (n3'.out ad h).2)); obtain ⟨_, hg5e, _, q0, q1, q2⟩ := r5'.out k c hc5'.out; injection hg5e with hg5e; injection hg5e with hg5e; subst hg5e; clear g5 m5 o5; simp only [hlv.out]) | (go_at_call 22; refine (list_calls W.heap.size G v5 L' _ (good_len hgl.out) g5'.out).mono ?_; rintro e w6 ⟨u, rfl, u6, b6⟩; obtain ⟨A6, c6, rfl⟩ := slice_of_own u6; have r6' := Lib.hid (r5'.out.below b6); have g6' := Lib.hid (grp_below g5'.out b6); have b6' := Lib.hid (b5'.out.trans (b6.mono b5'.out.size)); obtain ⟨_, hg6e, _, q0, q1, q2⟩ := r6'.out k c hc5'.out; injection hg6e with hg6e; injection hg6e with hg6e; subst hg6e; clear u6 b6) | ((with_reducible refine gate_callee (f := 16) rfl ?_); refine goesL_ (some 87) rfl rfl Try.func16 (by kernel_rfl) rfl #[ptrG G, .int .i64 id, .int .i64 c.t, .int .i64 c.p] rfl (by (try simp only [List.map_toArray, List.map_cons, List.map_nil]); first | done | rfl) ?_; (with_reducible refine (join_calls W.heap.size G v5 L' id c.t c.p _ hgl.out g6'.out b6'.out.size).mono ?_); rintro e w7 ⟨rfl, v7, g7, m7, _⟩; rw [hjn.out] at g7; refine ⟨_, rfl, ?_⟩; have g7' := Lib.hid g7; have r7' := Lib.hid (r6'.out.mt m7 n5'.out); have b7' := Lib.hid (step_grp b6'.out (Nat.le_refl _) g6'.out m7); clear g7 m7; simp only [hjn.out]) | ((with_reducible refine gate_callee (f := 22) rfl ?_); refine goesL_ (some 90) rfl rfl Try.func22 (by kernel_rfl) rfl #[ptrG G] rfl (by (try simp only [List.map_toArray, List.map_cons, List.map_nil]); first | done | rfl) ?_; (with_reducible refine (list_calls W.heap.size G v7 L2 _ (good_len hgj.out) g7'.out).mono ?_); rintro e w8 ⟨u, rfl, u8, b8⟩; obtain ⟨A8, c8, rfl⟩ := slice_of_own u8; refine ⟨_, rfl, ?_⟩; have r8' := Lib.hid (own_readsG u8).1; have s8' := Lib.hid (r7'.out.below b8); have b8' := Lib.hid (b7'.out.trans (b8.mono b7'.out.size)); clear u8 b8))
        go_loopw [98] (fun iv wr => ∃ (i : Nat), iv = .int .i64 (i : Int) ∧ i ≤ L2.length ∧ Below w8.heap.size w8 wr)
          (fun iv _ => L2.length - (intOf iv).toNat)
        case atStart => exact ⟨0, rfl, Nat.zero_le _, Below.refl _ _⟩
        case round =>
          clear q0 q1 q2
          obtain ⟨i, rfl, hi, hbel⟩ := hrel
          have hbel' := Lib.hid hbel
          by_cases hlu : i < L2.length
          · cases o with
            | true =>
              obtain rfl : L2 = L := hsame'.out rfl
              obtain ⟨d, hd⟩ : ∃ d, L2[i]? = some d := ⟨L2[i], List.getElem?_eq_getElem hlu⟩
              obtain ⟨g1, hg1, _, p0, p1, p2⟩ := (s8'.out.below hbel) i d hd
              obtain ⟨g2, hg2, _, q0, q1, q2⟩ := (r8'.out.below hbel) i d hd
              injection hg1 with hg1
              injection hg1 with hg1
              subst hg1
              subst hg2
              have heq := fun w => eqC_same w d
              clear hbel hd
              go_wp2
              go_quiet (fail)
              go_wp2
              go_roundw
              case rel => exact ⟨i + 1, by go_num, by omega, by first | exact hbel'.out | exact hbel'.out.drew | exact pw_below_drewN hbel'.out _⟩
              case measure => simp [intOf]; omega
            | false =>
              clear hbel
              go_wp2
              go_quiet (fail)
              go_wp2
              go_roundw
              case rel => exact ⟨i + 1, by go_num, by omega, by first | exact hbel'.out | exact hbel'.out.drew | exact pw_below_drewN hbel'.out _⟩
              case measure => simp [intOf]; omega
          · have hi' : i = L2.length := by omega
            subst hi'
            clear hbel
            go_wp2
            go_ret
            exact ⟨rfl, b8'.out.trans (hbel'.out.mono b8'.out.size)⟩
      · rw [show placeL L id = -1 from if_neg hh]
        have hlv := Lib.hid (leave_none hh)
        have hh' := Lib.hid hh
        clear hh
        go_wp2_with (first | ((with_reducible refine gate_callee (f := 24) rfl ?_); refine goesL_ (some 40) rfl rfl Try.func24 (by kernel_rfl) rfl #[ptrG G, .int .i64 id] rfl (by (try simp only [List.map_toArray, List.map_cons, List.map_nil]); first | done | rfl) ?_; (with_reducible refine (leave_calls W.heap.size G v L id _ hgood.out g4'.out).mono ?_); rintro e w5 ⟨rfl, v5, g5, m5, o5⟩; rw [hlv.out] at g5; refine ⟨_, rfl, ?_⟩; have g5' := Lib.hid g5; have b5' := Lib.hid (step_grp b4'.out (Nat.le_refl _) g4'.out m5); clear g5 m5 o5; simp only [hlv.out]) | (go_at_call 22; refine (list_calls W.heap.size G v5 L _ hln g5'.out).mono ?_; rintro e w6 ⟨u, rfl, u6, b6⟩; obtain ⟨A6, c6, rfl⟩ := slice_of_own u6; have b6' := Lib.hid (b5'.out.trans (b6.mono b5'.out.size)); clear u6 b6))
        go_ret
        exact ⟨rfl, b6'.out⟩
end Go.Proofs.Ytkcmmghhghgdpaa.Walk
