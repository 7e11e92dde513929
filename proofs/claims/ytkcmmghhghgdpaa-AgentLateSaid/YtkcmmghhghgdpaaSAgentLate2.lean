/- What the law AgentLate needs of the seat's contracts and plain laws, several texts one behind the other; no conditions. -/
import Derived.Test.YtkcmmghhghgdpaaSAgentLate1
section
namespace Go.Proofs.Ytkcmmghhghgdpaa.Walk
open Go.RowKit Go.Shelf Go.Maps Go.Proofs.Ytkcmmghhghgdpaa.Iter Go.Proofs.Ytkcmmghhghgdpaa.Str Go.Proofs.Ytkcmmghhghgdpaa.Agt Go.Proofs.YtkcmmghhghgdpaaW.PrintWords Go.Proofs.YtkcmmghhghgdpaaW.PrintLast
set_option linter.unusedVariables false
set_option linter.unusedSimpArgs false

set_option maxRecDepth 100000 in
set_option maxHeartbeats 16000000 in
theorem AgentLate (W : World) (cs1 : Array Value) (nd : Int × Int × Int × Int × Int) (hk1 : Open.kNd.K W nd cs1.toList) (g1 : Open.okNd nd) (short : Int) (gs : (Lit.int .i64 short).wf = true)
    (A0 : Option Addr) (c0 : Nat) (ops : List Open.AOp) (hc0 : ops.length ≤ c0) (hr0 : Open.kAOp.C W A0 ops.length ops) (g0 : ops.length ≤ maxLen ∧ ∀ a ∈ ops, Open.okAOp a) (cs2 : Array Value) (o : Open.AOp) (hk2 : Open.kAOp.K W o cs2.toList) (g2 : Open.okAOp o) :
    Calls Try.prog 9 #[.agg cs1, .int .i64 short, .slice A0 ops.length c0, .agg cs2] W fun e W' => e = .returned (.bool true) ∧ Below W.heap.size W W' := by
  obtain ⟨nid, nco, nme, nin, nbe⟩ := nd
  obtain rfl := node_cells hk1
  dsimp only
  have hl63 : ops.length ≤ 9223372036854775807 := g0.1
  have hR := Lib.hid (readsA_C hr0 g0.2)
  clear hr0 g0 hk1 g1 gs
  obtain ⟨Alo, clo, Ato, cto, rfl, hLo, hTo, l1o, l2o⟩ := aop_cells hk2 g2
  clear hk2 g2
  obtain ⟨kdo, no, mo, dto, lso, tso⟩ := o
  dsimp only at hLo hTo l1o l2o ⊢
  have hLo' := Lib.hid hLo
  have hTo' := Lib.hid hTo
  clear hLo hTo
  have bW0 : Below W.heap.size W ((W.alloc (.cells #[.int .i64 nid, .int .i64 nco, .int .i64 nme, .int .i64 nin, .int .i64 nbe] 53)).alloc (.cells #[.int .i64 kdo, .int .i64 no, .int .i64 mo, .int .i64 dto, .slice Alo lso.length clo, .slice Ato tso.length cto] 58)) := ((Below.refl _ _).alloc (Nat.le_refl _) _).alloc (by simp) _
  have bnd0 := (Blk.new W 53 #[.int .i64 nid, .int .i64 nco, .int .i64 nme, .int .i64 nin, .int .i64 nbe]).alloc (.cells #[.int .i64 kdo, .int .i64 no, .int .i64 mo, .int .i64 dto, .slice Alo lso.length clo, .slice Ato tso.length cto] 58)
  have bo0 := Blk.new (W.alloc (.cells #[.int .i64 nid, .int .i64 nco, .int .i64 nme, .int .i64 nin, .int .i64 nbe] 53)) 58 #[.int .i64 kdo, .int .i64 no, .int .i64 mo, .int .i64 dto, .slice Alo lso.length clo, .slice Ato tso.length cto]
  rw [World.size_alloc] at bo0
  by_cases hok : okNew nid nco nme short
  rotate_left
  · go_enter Try.func9, Try.ntmps9
    go_wp2_with (first | (((with_reducible refine gate_callee (f := 26) rfl ?_); refine goesL_ (some 21) rfl rfl Try.func26 (by kernel_rfl) rfl #[] rfl (by (try simp only [List.map_toArray, List.map_cons, List.map_nil]); first | done | rfl) ?_; (with_reducible refine (Agt.awake_calls _).mono ?_); rintro e w1 ⟨rfl, b1⟩; refine ⟨_, rfl, ?_⟩; have b1' := Lib.hid (bW0.trans (below_le b1 bW0.size)); have bn1 := bnd0.below b1 bnd0.lt; have bo1 := bo0.below b1 bo0.lt; have n0 := bn1.cell 0; have n1 := bn1.cell 1; have n2 := bn1.cell 2; have n3 := bn1.cell 3; have n4 := bn1.cell 4; simp only [List.getElem?_toArray, List.getElem?_cons_zero, List.getElem?_cons_succ] at n0 n1 n2 n3 n4; have bo1' := Lib.hid bo1; clear b1 bn1 bo1)) | (((with_reducible refine gate_callee (f := 27) rfl ?_); refine goesL_ (some 26) rfl rfl Try.func27 (by kernel_rfl) rfl #[.agg #[.int .i64 nid, .int .i64 nco, .int .i64 nme, .int .i64 nin, .int .i64 nbe], .int .i64 short] rfl (by (try simp only [List.map_toArray, List.map_cons, List.map_nil]); first | done | rfl) ?_; (with_reducible refine (newE nid nco nme nin nbe short _).mono ?_); (intro e w2 hnew; obtain ⟨rfl, b2⟩ := newNo hok hnew; clear hnew); refine ⟨_, rfl, ?_⟩; have b2' := Lib.hid (b1'.out.trans (below_le b2 b1'.out.size)); clear b2)))
    go_ret
    exact ⟨rfl, b2'.out⟩
  by_cases hbig : 150 < ops.length
  · have hb1 : (150 : Int) < (ops.length : Int) := by omega
    go_enter Try.func9, Try.ntmps9
    go_wp2_with (first | (((with_reducible refine gate_callee (f := 26) rfl ?_); refine goesL_ (some 21) rfl rfl Try.func26 (by kernel_rfl) rfl #[] rfl (by (try simp only [List.map_toArray, List.map_cons, List.map_nil]); first | done | rfl) ?_; (with_reducible refine (Agt.awake_calls _).mono ?_); rintro e w1 ⟨rfl, b1⟩; refine ⟨_, rfl, ?_⟩; have b1' := Lib.hid (bW0.trans (below_le b1 bW0.size)); have bn1 := bnd0.below b1 bnd0.lt; have bo1 := bo0.below b1 bo0.lt; have n0 := bn1.cell 0; have n1 := bn1.cell 1; have n2 := bn1.cell 2; have n3 := bn1.cell 3; have n4 := bn1.cell 4; simp only [List.getElem?_toArray, List.getElem?_cons_zero, List.getElem?_cons_succ] at n0 n1 n2 n3 n4; have bo1' := Lib.hid bo1; clear b1 bn1 bo1)) | (((with_reducible refine gate_callee (f := 27) rfl ?_); refine goesL_ (some 26) rfl rfl Try.func27 (by kernel_rfl) rfl #[.agg #[.int .i64 nid, .int .i64 nco, .int .i64 nme, .int .i64 nin, .int .i64 nbe], .int .i64 short] rfl (by (try simp only [List.map_toArray, List.map_cons, List.map_nil]); first | done | rfl) ?_; (with_reducible refine (newE nid nco nme nin nbe short _).mono ?_); (intro e w2 hnew; obtain ⟨a, rfl, g2, b2⟩ := newYes hok hnew; clear hnew); refine ⟨_, rfl, ?_⟩; have in2' := Lib.hid (show InL w1.heap.size a _ w2 w2 from ⟨AgQ.ofNew g2 b2, Below.refl _ _, b2.size⟩); have b2' := Lib.hid (b1'.out.trans (below_le b2 b1'.out.size)); have bo2' := Lib.hid (bo1'.out.below b2 bo1'.out.lt); clear g2 b2)))
    go_ret
    exact ⟨rfl, b2'.out⟩
  have hb1 : ¬ (150 : Int) < (ops.length : Int) := by omega
  have hinv0 := Lib.hid (LInv.new (nin := nin) (nbe := nbe) hok)
  go_enter Try.func9, Try.ntmps9
  go_wp2_with (first | (((with_reducible refine gate_callee (f := 26) rfl ?_); refine goesL_ (some 21) rfl rfl Try.func26 (by kernel_rfl) rfl #[] rfl (by (try simp only [List.map_toArray, List.map_cons, List.map_nil]); first | done | rfl) ?_; (with_reducible refine (Agt.awake_calls _).mono ?_); rintro e w1 ⟨rfl, b1⟩; refine ⟨_, rfl, ?_⟩; have b1' := Lib.hid (bW0.trans (below_le b1 bW0.size)); have bn1 := bnd0.below b1 bnd0.lt; have bo1 := bo0.below b1 bo0.lt; have n0 := bn1.cell 0; have n1 := bn1.cell 1; have n2 := bn1.cell 2; have n3 := bn1.cell 3; have n4 := bn1.cell 4; simp only [List.getElem?_toArray, List.getElem?_cons_zero, List.getElem?_cons_succ] at n0 n1 n2 n3 n4; have bo1' := Lib.hid bo1; clear b1 bn1 bo1)) | (((with_reducible refine gate_callee (f := 27) rfl ?_); refine goesL_ (some 26) rfl rfl Try.func27 (by kernel_rfl) rfl #[.agg #[.int .i64 nid, .int .i64 nco, .int .i64 nme, .int .i64 nin, .int .i64 nbe], .int .i64 short] rfl (by (try simp only [List.map_toArray, List.map_cons, List.map_nil]); first | done | rfl) ?_; (with_reducible refine (newE nid nco nme nin nbe short _).mono ?_); (intro e w2 hnew; obtain ⟨a, rfl, g2, b2⟩ := newYes hok hnew; clear hnew); refine ⟨_, rfl, ?_⟩; have in2' := Lib.hid (show InL w1.heap.size a _ w2 w2 from ⟨AgQ.ofNew g2 b2, Below.refl _ _, b2.size⟩); have b2' := Lib.hid (b1'.out.trans (below_le b2 b1'.out.size)); have bo2' := Lib.hid (bo1'.out.below b2 bo1'.out.lt); clear g2 b2)))
  have hWB' := Lib.hid (show W.heap.size ≤ w1.heap.size from b1'.out.size)
  obtain ⟨B, hBe⟩ : ∃ B, w1.heap.size = B := ⟨_, rfl⟩
  have hOB' := Lib.hid (show W.heap.size + 1 < w1.heap.size from bo1'.out.lt)
  rw [hBe] at in2' hWB' hOB'
  clear hBe
  go_loopw [11, 12, 13, 38] (fun vl vi vc iv wr => ∃ (i : Nat) (S : Ag) (last inc count : Int), vl = .int .i64 last ∧ vi = .int .i64 inc ∧ vc = .int .i64 count ∧ iv = .int .i64 (i : Int) ∧ i ≤ ops.length ∧ LInv S last inc count i ∧ InL B a S w2 wr)
    (fun _ _ _ iv _ => ops.length - (intOf iv).toNat)
  case atStart => exact ⟨0, _, _, _, _, rfl, rfl, rfl, rfl, Nat.zero_le _, hinv0.out, in2'.out⟩
  case round =>
    obtain ⟨i, S, last, inc, count, rfl, rfl, rfl, rfl, hi, hinv, hin⟩ := hrel
    have hin' := Lib.hid hin
    have hinv' := Lib.hid hinv
    have hok' := hinv.w.ok
    have hsl' : S.sent.length ≤ 100000 := by have := hinv.w.len; omega
    have hcw : count ≤ 150 := by have := hinv.countN; omega
    have hcw0 := hinv.count0
    have hbW' := Lib.hid (b2'.out.trans (below_le hin.bel hWB'.out))
    by_cases hlt : i < ops.length
    · obtain ⟨⟨kd, n, m, dt, ls, ts⟩, hx⟩ : ∃ x, ops[i]? = some x := ⟨ops[i], List.getElem?_eq_getElem hlt⟩
      obtain ⟨ad, Al, cl, At, ct, rfl, _, _, p0, p1, p2, p3, p4, p5, hL, hT, l1, l2⟩ := (hR.out.keep hbW'.out) i _ hx
      dsimp only at p0 p1 p2 p3 p4 p5 hL hT l1 l2
      have hL' := Lib.hid hL
      have hT' := Lib.hid hT
      have bC := Blk.new wr 58 #[.int .i64 kd, .int .i64 n, .int .i64 m, .int .i64 dt, .slice Al ls.length cl, .slice At ts.length ct]
      have d0 := bC.cell 0
      have d1 := bC.cell 1
      have d2 := bC.cell 2
      have d3 := bC.cell 3
      have d4 := bC.cell 4
      have d5 := bC.cell 5
      simp only [List.getElem?_toArray, List.getElem?_cons_zero, List.getElem?_cons_succ] at d0 d1 d2 d3 d4 d5
      have ib' := Lib.hid (hin.alloc (.cells #[.int .i64 kd, .int .i64 n, .int .i64 m, .int .i64 dt, .slice Al ls.length cl, .slice At ts.length ct] 58))
      clear hin hinv hL hT bC hx
      by_cases k0 : kd = 0
      · subst k0
        obtain ⟨S', cd, he⟩ : ∃ S' cd, bootG S n = (S', cd) := ⟨_, _, rfl⟩
        have he' := Lib.hid he
        clear he
        by_cases c0 : cd = 0
        · subst c0
          go_wp2_with (((with_reducible refine gate_callee (f := 28) rfl ?_); refine goesL_ (some 49) rfl rfl Try.func28 (by kernel_rfl) rfl #[ptr a, .int .i64 n] rfl (by (try simp only [List.map_toArray, List.map_cons, List.map_nil]); first | done | rfl) ?_; (with_reducible refine (bootC n he'.out (hin'.out.box _)).mono ?_); rintro e w3 ⟨rfl, g3, k3⟩; refine ⟨_, rfl, ?_⟩; have bx := InL.blk k3; have z0 := bx.cell 0; have z1 := bx.cell 1; have z2 := bx.cell 2; have z3 := bx.cell 3; have z4 := bx.cell 4; have z5 := bx.cell 5; simp only [List.getElem?_toArray, List.getElem?_cons_zero, List.getElem?_cons_succ] at z0 z1 z2 z3 z4 z5; have i3' := Lib.hid (hin'.out.next g3 k3); clear bx g3 k3))
          go_quiet (fail)
          go_wp2
          go_roundw
          case rel => exact ⟨i + 1, _, _, _, _, rfl, rfl, rfl, by go_num, by omega, (hinv'.out.boot1 he'.out).mono (by omega), by first | exact i3'.out | exact i3'.out.drew | exact i3'.out.drewN _⟩
          case measure => simp [intOf]; omega
        · go_wp2_with (((with_reducible refine gate_callee (f := 28) rfl ?_); refine goesL_ (some 49) rfl rfl Try.func28 (by kernel_rfl) rfl #[ptr a, .int .i64 n] rfl (by (try simp only [List.map_toArray, List.map_cons, List.map_nil]); first | done | rfl) ?_; (with_reducible refine (bootC n he'.out (hin'.out.box _)).mono ?_); rintro e w3 ⟨rfl, g3, k3⟩; refine ⟨_, rfl, ?_⟩; have bx := InL.blk k3; have z0 := bx.cell 0; have z1 := bx.cell 1; have z2 := bx.cell 2; have z3 := bx.cell 3; have z4 := bx.cell 4; have z5 := bx.cell 5; simp only [List.getElem?_toArray, List.getElem?_cons_zero, List.getElem?_cons_succ] at z0 z1 z2 z3 z4 z5; have i3' := Lib.hid (hin'.out.next g3 k3); clear bx g3 k3))
          go_roundw
          case rel => exact ⟨i + 1, _, _, _, _, rfl, rfl, rfl, by go_num, by omega, (hinv'.out.boot0 he'.out c0).mono (by omega), by first | exact i3'.out | exact i3'.out.drew | exact i3'.out.drewN _⟩
          case measure => simp [intOf]; omega
      by_cases k1 : kd = 1
      · subst k1
        obtain ⟨S', cd, he⟩ : ∃ S' cd, haltG S = (S', cd) := ⟨_, _, rfl⟩
        have he' := Lib.hid he
        clear he
        go_wp2_with (((with_reducible refine gate_callee (f := 29) rfl ?_); refine goesL_ (some 56) rfl rfl Try.func29 (by kernel_rfl) rfl #[ptr a] rfl (by (try simp only [List.map_toArray, List.map_cons, List.map_nil]); first | done | rfl) ?_; (with_reducible refine (haltC he'.out (hin'.out.box _)).mono ?_); rintro e w3 ⟨rfl, g3, k3⟩; refine ⟨_, rfl, ?_⟩; have bx := InL.blk k3; have z0 := bx.cell 0; have z1 := bx.cell 1; have z2 := bx.cell 2; have z3 := bx.cell 3; have z4 := bx.cell 4; have z5 := bx.cell 5; simp only [List.getElem?_toArray, List.getElem?_cons_zero, List.getElem?_cons_succ] at z0 z1 z2 z3 z4 z5; have i3' := Lib.hid (hin'.out.next g3 k3); clear bx g3 k3))
        go_roundw
        case rel => exact ⟨i + 1, _, _, _, _, rfl, rfl, rfl, by go_num, by omega, (hinv'.out.halt he'.out).mono (by omega), by first | exact i3'.out | exact i3'.out.drew | exact i3'.out.drewN _⟩
        case measure => simp [intOf]; omega
      by_cases k2 : kd = 2
      · subst k2
        obtain ⟨S', cd, he⟩ : ∃ S' cd, passG S dt = (S', cd) := ⟨_, _, rfl⟩
        have he' := Lib.hid he
        clear he
        go_wp2_with (((with_reducible refine gate_callee (f := 30) rfl ?_); refine goesL_ (some 62) rfl rfl Try.func30 (by kernel_rfl) rfl #[ptr a, .int .i64 dt] rfl (by (try simp only [List.map_toArray, List.map_cons, List.map_nil]); first | done | rfl) ?_; (with_reducible refine (passC dt he'.out hok' (hin'.out.box _)).mono ?_); rintro e w3 ⟨rfl, g3, k3⟩; refine ⟨_, rfl, ?_⟩; have bx := InL.blk k3; have z0 := bx.cell 0; have z1 := bx.cell 1; have z2 := bx.cell 2; have z3 := bx.cell 3; have z4 := bx.cell 4; have z5 := bx.cell 5; simp only [List.getElem?_toArray, List.getElem?_cons_zero, List.getElem?_cons_succ] at z0 z1 z2 z3 z4 z5; have i3' := Lib.hid (hin'.out.next g3 k3); clear bx g3 k3))
        go_roundw
        case rel => exact ⟨i + 1, _, _, _, _, rfl, rfl, rfl, by go_num, by omega, (hinv'.out.pass he'.out).mono (by omega), by first | exact i3'.out | exact i3'.out.drew | exact i3'.out.drewN _⟩
        case measure => simp [intOf]; omega
      by_cases k3 : kd = 3
      · subst k3
        obtain ⟨S', bn, cd, he⟩ : ∃ S' bn cd, beatG S = (S', bn, cd) := ⟨_, _, _, rfl⟩
        have he' := Lib.hid he
        clear he
        by_cases c0 : cd = 0
        · subst c0
          go_wp2_with (((with_reducible refine gate_callee (f := 31) rfl ?_); refine goesL_ (some 67) rfl rfl Try.func31 (by kernel_rfl) rfl #[ptr a] rfl (by (try simp only [List.map_toArray, List.map_cons, List.map_nil]); first | done | rfl) ?_; (with_reducible refine (beatC he'.out hsl' (hin'.out.qlt _) (hin'.out.box _)).mono ?_); rintro e w3 ⟨rfl, g3, k3⟩; refine ⟨_, rfl, ?_⟩; have bx := InL.blk k3; have z0 := bx.cell 0; have z1 := bx.cell 1; have z2 := bx.cell 2; have z3 := bx.cell 3; have z4 := bx.cell 4; have z5 := bx.cell 5; simp only [List.getElem?_toArray, List.getElem?_cons_zero, List.getElem?_cons_succ] at z0 z1 z2 z3 z4 z5; have i3' := Lib.hid (hin'.out.next g3 k3); clear bx g3 k3))
          go_roundw
          case rel => exact ⟨i + 1, _, _, _, _, rfl, rfl, rfl, by go_num, by omega, hinv'.out.beat1 he'.out, by first | exact i3'.out | exact i3'.out.drew | exact i3'.out.drewN _⟩
          case measure => simp [intOf]; omega
        · go_wp2_with (((with_reducible refine gate_callee (f := 31) rfl ?_); refine goesL_ (some 67) rfl rfl Try.func31 (by kernel_rfl) rfl #[ptr a] rfl (by (try simp only [List.map_toArray, List.map_cons, List.map_nil]); first | done | rfl) ?_; (with_reducible refine (beatC he'.out hsl' (hin'.out.qlt _) (hin'.out.box _)).mono ?_); rintro e w3 ⟨rfl, g3, k3⟩; refine ⟨_, rfl, ?_⟩; have bx := InL.blk k3; have z0 := bx.cell 0; have z1 := bx.cell 1; have z2 := bx.cell 2; have z3 := bx.cell 3; have z4 := bx.cell 4; have z5 := bx.cell 5; simp only [List.getElem?_toArray, List.getElem?_cons_zero, List.getElem?_cons_succ] at z0 z1 z2 z3 z4 z5; have i3' := Lib.hid (hin'.out.next g3 k3); clear bx g3 k3))
          go_roundw
          case rel => exact ⟨i + 1, _, _, _, _, rfl, rfl, rfl, by go_num, by omega, hinv'.out.beat0 he'.out c0, by first | exact i3'.out | exact i3'.out.drew | exact i3'.out.drewN _⟩
          case measure => simp [intOf]; omega
      by_cases k4 : kd = 4
      · subst k4
        obtain ⟨S', cd, he⟩ : ∃ S' cd, replyG S n m ls ts = (S', cd) := ⟨_, _, rfl⟩
        have he' := Lib.hid he
        clear he
        by_cases c0 : cd = 0
        · subst c0
          go_wp2_with (((with_reducible refine gate_callee (f := 32) rfl ?_); refine goesL_ (some 85) rfl rfl Try.func32 (by kernel_rfl) rfl #[ptr a, .int .i64 n, .int .i64 m, .slice Al ls.length cl, .slice At ts.length ct] rfl (by (try simp only [List.map_toArray, List.map_cons, List.map_nil]); first | done | rfl) ?_; (with_reducible refine (replyC n m he'.out hok' hsl' (hin'.out.qlt _) (hin'.out.reads hWB'.out _ hL'.out) (hin'.out.readsT hWB'.out _ hT'.out) l1 l2 (hin'.out.box _)).mono ?_); rintro e w3 ⟨rfl, g3, k3⟩; refine ⟨_, rfl, ?_⟩; have bx := InL.blk k3; have z0 := bx.cell 0; have z1 := bx.cell 1; have z2 := bx.cell 2; have z3 := bx.cell 3; have z4 := bx.cell 4; have z5 := bx.cell 5; simp only [List.getElem?_toArray, List.getElem?_cons_zero, List.getElem?_cons_succ] at z0 z1 z2 z3 z4 z5; have i3' := Lib.hid (hin'.out.next g3 k3); clear bx g3 k3))
          go_roundw
          case rel => exact ⟨i + 1, _, _, _, _, rfl, rfl, rfl, by go_num, by omega, (hinv'.out.reply1 he'.out).mono (by omega), by first | exact i3'.out | exact i3'.out.drew | exact i3'.out.drewN _⟩
          case measure => simp [intOf]; omega
        · go_wp2_with (((with_reducible refine gate_callee (f := 32) rfl ?_); refine goesL_ (some 85) rfl rfl Try.func32 (by kernel_rfl) rfl #[ptr a, .int .i64 n, .int .i64 m, .slice Al ls.length cl, .slice At ts.length ct] rfl (by (try simp only [List.map_toArray, List.map_cons, List.map_nil]); first | done | rfl) ?_; (with_reducible refine (replyC n m he'.out hok' hsl' (hin'.out.qlt _) (hin'.out.reads hWB'.out _ hL'.out) (hin'.out.readsT hWB'.out _ hT'.out) l1 l2 (hin'.out.box _)).mono ?_); rintro e w3 ⟨rfl, g3, k3⟩; refine ⟨_, rfl, ?_⟩; have bx := InL.blk k3; have z0 := bx.cell 0; have z1 := bx.cell 1; have z2 := bx.cell 2; have z3 := bx.cell 3; have z4 := bx.cell 4; have z5 := bx.cell 5; simp only [List.getElem?_toArray, List.getElem?_cons_zero, List.getElem?_cons_succ] at z0 z1 z2 z3 z4 z5; have i3' := Lib.hid (hin'.out.next g3 k3); clear bx g3 k3))
          go_roundw
          case rel => exact ⟨i + 1, _, _, _, _, rfl, rfl, rfl, by go_num, by omega, (hinv'.out.reply0 he'.out c0).mono (by omega), by first | exact i3'.out | exact i3'.out.drew | exact i3'.out.drewN _⟩
          case measure => simp [intOf]; omega
      go_wp2
      go_roundw
      case rel => exact ⟨i + 1, _, _, _, _, rfl, rfl, rfl, by go_num, by omega, hinv'.out.mono (by omega), by first | exact ib'.out | exact ib'.out.drew | exact ib'.out.drewN _⟩
      case measure => simp [intOf]; omega
    · have hi' : i = ops.length := by omega
      subst hi'
      clear hin hinv
      obtain ⟨S', cd, he⟩ : ∃ S' cd, replyG S no mo lso tso = (S', cd) := ⟨_, _, rfl⟩
      have hlaw := Lib.hid (hinv'.out.law he)
      have he' := Lib.hid he
      clear he
      have hlen := hok'.liveLen
      go_upto_region 28 with (first | (((with_reducible refine gate_callee (f := 33) rfl ?_); refine goesL_ (some 91) rfl rfl Try.func33 (by kernel_rfl) rfl #[ptr a] rfl (by (try simp only [List.map_toArray, List.map_cons, List.map_nil]); first | done | rfl) ?_; (with_reducible refine (liveC hin'.out.ag hok').mono ?_); rintro e w4 ⟨A4, c4, rfl, u4, b4⟩; refine ⟨_, rfl, ?_⟩; have in4' := Lib.hid (hin'.out.below b4); have u4' := Lib.hid u4; have b4' := Lib.hid b4; clear u4 b4)) | (((with_reducible refine gate_callee (f := 34) rfl ?_); refine goesL_ (some 93) rfl rfl Try.func34 (by kernel_rfl) rfl #[ptr a] rfl (by (try simp only [List.map_toArray, List.map_cons, List.map_nil]); first | done | rfl) ?_; (with_reducible refine (finC in4'.out.ag hok').mono ?_); rintro e w5 ⟨A5, c5, zs, rfl, hz, u5, y5, b5⟩; refine ⟨_, rfl, ?_⟩; have in5' := Lib.hid (in4'.out.below b5); have u4a' := Lib.hid (own_below u4'.out b5); have g5' := Lib.hid (hin'.out.ag.more (Q' := fun k => k < B ∨ (wr.heap.size ≤ k ∧ k < w5.heap.size)) (b4'.out.trans (below_le b5 b4'.out.size)) (fun k hk => hk.elim .inl (fun h => .inr h.1))); have hle5' := Lib.hid b4'.out.size; have bx5 := bo2'.out.below in5'.out.bel hOB'.out; have z0 := bx5.cell 0; have z1 := bx5.cell 1; have z2 := bx5.cell 2; have z3 := bx5.cell 3; have z4 := bx5.cell 4; have z5 := bx5.cell 5; simp only [List.getElem?_toArray, List.getElem?_cons_zero, List.getElem?_cons_succ] at z0 z1 z2 z3 z4 z5; have b5W' := Lib.hid (b2'.out.trans (below_le in5'.out.bel hWB'.out)); have hz' := Lib.hid hz; have u5' := Lib.hid u5; have y5' := Lib.hid y5; have b5' := Lib.hid b5; have bx5' := Lib.hid bx5; clear hz u5 y5 b5 bx5)) | (((with_reducible refine gate_callee (f := 32) rfl ?_); refine goesL_ (some 103) rfl rfl Try.func32 (by kernel_rfl) rfl #[ptr a, .int .i64 no, .int .i64 mo, .slice Alo lso.length clo, .slice Ato tso.length cto] rfl (by (try simp only [List.map_toArray, List.map_cons, List.map_nil]); first | done | rfl) ?_; (with_reducible refine (replyC no mo he'.out hok' hsl' (Q := fun k => k < B ∨ (wr.heap.size ≤ k ∧ k < w5.heap.size)) (fun k hk => by have := in5'.out.le; omega) ((hLo'.out.keep b5W'.out).mono fun k hk => by have := hWB'.out; omega) ((hTo'.out.keep b5W'.out).mono fun k hk => by have := hWB'.out; omega) l1o l2o g5'.out).mono ?_); rintro e w6 ⟨rfl, g6, k6⟩; refine ⟨_, rfl, ?_⟩; have bx6 := k6.blk (.inl hOB'.out) bx5'.out; have y0 := bx6.cell 0; have y1 := bx6.cell 1; have y2 := bx6.cell 2; have y3 := bx6.cell 3; have y4 := bx6.cell 4; have y5 := bx6.cell 5; simp only [List.getElem?_toArray, List.getElem?_cons_zero, List.getElem?_cons_succ] at y0 y1 y2 y3 y4 y5; have u6' := Lib.hid (own_keepQ u4a'.out k6 (fun k h1 h2 => .inr ⟨h1, h2⟩)); have v6' := Lib.hid (own_keepQ u5'.out k6 (fun k h1 h2 => .inr ⟨Nat.le_trans hle5'.out h1, h2⟩)); have y6' := Lib.hid (fun z hz => show OwnC _ w6 z from own_keepQ (y5'.out z hz) k6 (fun k h1 h2 => .inr ⟨Nat.le_trans hle5'.out h1, h2⟩)); have b6' := Lib.hid (b5W'.out.trans (k6.below (fun k hk => .inl (Nat.lt_of_lt_of_le hk hWB'.out)) (b5W'.out.size))); have g6' := Lib.hid g6; clear g6; clear bx6 k6)))
      by_cases hc : no = inc ∧ last < mo ∧ mo ≤ count
      · obtain ⟨e1, e2, e3⟩ := hc
        have hcd := hlaw.out.1 ⟨e1, e2, e3⟩
        subst e1
        clear hlaw
        rcases hcd with rfl | rfl | rfl
        · go_wp2
          go_ret
          exact ⟨rfl, b6'.out⟩
        · go_wp2
          go_ret
          exact ⟨rfl, b6'.out⟩
        · go_wp2
          go_ret
          exact ⟨rfl, b6'.out⟩
      · obtain ⟨rfl, hcd⟩ := hlaw.out.2 hc
        clear hlaw
        by_cases e1 : no = inc
        · subst e1
          by_cases e2 : last < mo
          · have e3 : ¬ mo ≤ count := fun h => hc ⟨rfl, e2, h⟩
            clear hc
            rcases hcd with rfl | rfl
            · go_wp2_with (first | ((go_at_call 33; refine (liveC g6'.out hok').mono ?_; rintro e w7 ⟨A7, c7, rfl, u7, b7⟩; have b7' := Lib.hid (b6'.out.trans (below_le b7 b6'.out.size)); have g7' := Lib.hid (g6'.out.below b7); have r7' := Lib.hid (own_readsR u7); have s7' := Lib.hid ((own_readsR u6'.out).below b7); have m7' := Lib.hid ((own_readsM v6'.out y6'.out).below b7); clear u7 b7)) | ((go_at_call 35; refine (runs_same _ _ _ _ _ _ r7'.out s7'.out hlen).mono ?_; rintro e w8 ⟨rfl, b8⟩; have b8' := Lib.hid (b7'.out.trans (below_le b8 b7'.out.size)); have g8' := Lib.hid (g7'.out.below b8); have m8' := Lib.hid (m7'.out.below b8); clear b8)) | ((go_at_call 34; refine (finC g8'.out hok').mono ?_; rintro e w9 ⟨A9, c9, zs9, rfl, hz9, u9, y9, b9⟩; have b9' := Lib.hid (b8'.out.trans (below_le b9 b8'.out.size)); have m9' := Lib.hid (m8'.out.below b9); have r9' := Lib.hid (own_readsM u9 y9); have hz9' := Lib.hid hz9; clear u9 y9 b9 hz9)) | ((go_at_call 36; refine (sameLeases_calls _ _ _ _ _ _ _ r9'.out m9'.out (hz9'.out.trans hz'.out.symm) (hok'.finLen hz9'.out).1 (hok'.finLen hz9'.out).2).mono ?_; rintro e w10 ⟨rfl, b10⟩; have b10' := Lib.hid (b9'.out.trans (below_le b10 b9'.out.size)); clear b10)))
              go_ret
              exact ⟨rfl, b10'.out⟩
            · go_wp2_with (first | ((go_at_call 33; refine (liveC g6'.out hok').mono ?_; rintro e w7 ⟨A7, c7, rfl, u7, b7⟩; have b7' := Lib.hid (b6'.out.trans (below_le b7 b6'.out.size)); have g7' := Lib.hid (g6'.out.below b7); have r7' := Lib.hid (own_readsR u7); have s7' := Lib.hid ((own_readsR u6'.out).below b7); have m7' := Lib.hid ((own_readsM v6'.out y6'.out).below b7); clear u7 b7)) | ((go_at_call 35; refine (runs_same _ _ _ _ _ _ r7'.out s7'.out hlen).mono ?_; rintro e w8 ⟨rfl, b8⟩; have b8' := Lib.hid (b7'.out.trans (below_le b8 b7'.out.size)); have g8' := Lib.hid (g7'.out.below b8); have m8' := Lib.hid (m7'.out.below b8); clear b8)) | ((go_at_call 34; refine (finC g8'.out hok').mono ?_; rintro e w9 ⟨A9, c9, zs9, rfl, hz9, u9, y9, b9⟩; have b9' := Lib.hid (b8'.out.trans (below_le b9 b8'.out.size)); have m9' := Lib.hid (m8'.out.below b9); have r9' := Lib.hid (own_readsM u9 y9); have hz9' := Lib.hid hz9; clear u9 y9 b9 hz9)) | ((go_at_call 36; refine (sameLeases_calls _ _ _ _ _ _ _ r9'.out m9'.out (hz9'.out.trans hz'.out.symm) (hok'.finLen hz9'.out).1 (hok'.finLen hz9'.out).2).mono ?_; rintro e w10 ⟨rfl, b10⟩; have b10' := Lib.hid (b9'.out.trans (below_le b10 b9'.out.size)); clear b10)))
              go_ret
              exact ⟨rfl, b10'.out⟩
          · clear hc
            rcases hcd with rfl | rfl
            · go_wp2_with (first | ((go_at_call 33; refine (liveC g6'.out hok').mono ?_; rintro e w7 ⟨A7, c7, rfl, u7, b7⟩; have b7' := Lib.hid (b6'.out.trans (below_le b7 b6'.out.size)); have g7' := Lib.hid (g6'.out.below b7); have r7' := Lib.hid (own_readsR u7); have s7' := Lib.hid ((own_readsR u6'.out).below b7); have m7' := Lib.hid ((own_readsM v6'.out y6'.out).below b7); clear u7 b7)) | ((go_at_call 35; refine (runs_same _ _ _ _ _ _ r7'.out s7'.out hlen).mono ?_; rintro e w8 ⟨rfl, b8⟩; have b8' := Lib.hid (b7'.out.trans (below_le b8 b7'.out.size)); have g8' := Lib.hid (g7'.out.below b8); have m8' := Lib.hid (m7'.out.below b8); clear b8)) | ((go_at_call 34; refine (finC g8'.out hok').mono ?_; rintro e w9 ⟨A9, c9, zs9, rfl, hz9, u9, y9, b9⟩; have b9' := Lib.hid (b8'.out.trans (below_le b9 b8'.out.size)); have m9' := Lib.hid (m8'.out.below b9); have r9' := Lib.hid (own_readsM u9 y9); have hz9' := Lib.hid hz9; clear u9 y9 b9 hz9)) | ((go_at_call 36; refine (sameLeases_calls _ _ _ _ _ _ _ r9'.out m9'.out (hz9'.out.trans hz'.out.symm) (hok'.finLen hz9'.out).1 (hok'.finLen hz9'.out).2).mono ?_; rintro e w10 ⟨rfl, b10⟩; have b10' := Lib.hid (b9'.out.trans (below_le b10 b9'.out.size)); clear b10)))
              go_ret
              exact ⟨rfl, b10'.out⟩
            · go_wp2_with (first | ((go_at_call 33; refine (liveC g6'.out hok').mono ?_; rintro e w7 ⟨A7, c7, rfl, u7, b7⟩; have b7' := Lib.hid (b6'.out.trans (below_le b7 b6'.out.size)); have g7' := Lib.hid (g6'.out.below b7); have r7' := Lib.hid (own_readsR u7); have s7' := Lib.hid ((own_readsR u6'.out).below b7); have m7' := Lib.hid ((own_readsM v6'.out y6'.out).below b7); clear u7 b7)) | ((go_at_call 35; refine (runs_same _ _ _ _ _ _ r7'.out s7'.out hlen).mono ?_; rintro e w8 ⟨rfl, b8⟩; have b8' := Lib.hid (b7'.out.trans (below_le b8 b7'.out.size)); have g8' := Lib.hid (g7'.out.below b8); have m8' := Lib.hid (m7'.out.below b8); clear b8)) | ((go_at_call 34; refine (finC g8'.out hok').mono ?_; rintro e w9 ⟨A9, c9, zs9, rfl, hz9, u9, y9, b9⟩; have b9' := Lib.hid (b8'.out.trans (below_le b9 b8'.out.size)); have m9' := Lib.hid (m8'.out.below b9); have r9' := Lib.hid (own_readsM u9 y9); have hz9' := Lib.hid hz9; clear u9 y9 b9 hz9)) | ((go_at_call 36; refine (sameLeases_calls _ _ _ _ _ _ _ r9'.out m9'.out (hz9'.out.trans hz'.out.symm) (hok'.finLen hz9'.out).1 (hok'.finLen hz9'.out).2).mono ?_; rintro e w10 ⟨rfl, b10⟩; have b10' := Lib.hid (b9'.out.trans (below_le b10 b9'.out.size)); clear b10)))
              go_ret
              exact ⟨rfl, b10'.out⟩
        · have f1 : (no == inc) = false := beq_eq_false_iff_ne.mpr e1
          have f2 : decide (no = inc) = false := decide_eq_false e1
          clear hc
          rcases hcd with rfl | rfl
          · go_wp2_with (first | ((go_at_call 33; refine (liveC g6'.out hok').mono ?_; rintro e w7 ⟨A7, c7, rfl, u7, b7⟩; have b7' := Lib.hid (b6'.out.trans (below_le b7 b6'.out.size)); have g7' := Lib.hid (g6'.out.below b7); have r7' := Lib.hid (own_readsR u7); have s7' := Lib.hid ((own_readsR u6'.out).below b7); have m7' := Lib.hid ((own_readsM v6'.out y6'.out).below b7); clear u7 b7)) | ((go_at_call 35; refine (runs_same _ _ _ _ _ _ r7'.out s7'.out hlen).mono ?_; rintro e w8 ⟨rfl, b8⟩; have b8' := Lib.hid (b7'.out.trans (below_le b8 b7'.out.size)); have g8' := Lib.hid (g7'.out.below b8); have m8' := Lib.hid (m7'.out.below b8); clear b8)) | ((go_at_call 34; refine (finC g8'.out hok').mono ?_; rintro e w9 ⟨A9, c9, zs9, rfl, hz9, u9, y9, b9⟩; have b9' := Lib.hid (b8'.out.trans (below_le b9 b8'.out.size)); have m9' := Lib.hid (m8'.out.below b9); have r9' := Lib.hid (own_readsM u9 y9); have hz9' := Lib.hid hz9; clear u9 y9 b9 hz9)) | ((go_at_call 36; refine (sameLeases_calls _ _ _ _ _ _ _ r9'.out m9'.out (hz9'.out.trans hz'.out.symm) (hok'.finLen hz9'.out).1 (hok'.finLen hz9'.out).2).mono ?_; rintro e w10 ⟨rfl, b10⟩; have b10' := Lib.hid (b9'.out.trans (below_le b10 b9'.out.size)); clear b10)))
            go_ret
            exact ⟨rfl, b10'.out⟩
          · go_wp2_with (first | ((go_at_call 33; refine (liveC g6'.out hok').mono ?_; rintro e w7 ⟨A7, c7, rfl, u7, b7⟩; have b7' := Lib.hid (b6'.out.trans (below_le b7 b6'.out.size)); have g7' := Lib.hid (g6'.out.below b7); have r7' := Lib.hid (own_readsR u7); have s7' := Lib.hid ((own_readsR u6'.out).below b7); have m7' := Lib.hid ((own_readsM v6'.out y6'.out).below b7); clear u7 b7)) | ((go_at_call 35; refine (runs_same _ _ _ _ _ _ r7'.out s7'.out hlen).mono ?_; rintro e w8 ⟨rfl, b8⟩; have b8' := Lib.hid (b7'.out.trans (below_le b8 b7'.out.size)); have g8' := Lib.hid (g7'.out.below b8); have m8' := Lib.hid (m7'.out.below b8); clear b8)) | ((go_at_call 34; refine (finC g8'.out hok').mono ?_; rintro e w9 ⟨A9, c9, zs9, rfl, hz9, u9, y9, b9⟩; have b9' := Lib.hid (b8'.out.trans (below_le b9 b8'.out.size)); have m9' := Lib.hid (m8'.out.below b9); have r9' := Lib.hid (own_readsM u9 y9); have hz9' := Lib.hid hz9; clear u9 y9 b9 hz9)) | ((go_at_call 36; refine (sameLeases_calls _ _ _ _ _ _ _ r9'.out m9'.out (hz9'.out.trans hz'.out.symm) (hok'.finLen hz9'.out).1 (hok'.finLen hz9'.out).2).mono ?_; rintro e w10 ⟨rfl, b10⟩; have b10' := Lib.hid (b9'.out.trans (below_le b10 b9'.out.size)); clear b10)))
            go_ret
            exact ⟨rfl, b10'.out⟩
end Go.Proofs.Ytkcmmghhghgdpaa.Walk
end
