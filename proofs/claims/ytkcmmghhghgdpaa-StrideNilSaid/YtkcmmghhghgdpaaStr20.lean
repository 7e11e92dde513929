/- The law StrideNil over what is read of its arguments. -/
import Derived.Test.YtkcmmghhghgdpaaStrT
namespace Go.Proofs.Ytkcmmghhghgdpaa.Str
open Go.RowKit Go.Shelf Go.Maps Go.Proofs.Ytkcmmghhghgdpaa.Iter Go.Proofs.Ytkcmmghhghgdpaa.SeqM Go.Proofs.YtkcmmghhghgdpaaW.PrintWords Go.Proofs.YtkcmmghhghgdpaaW.PrintLast
set_option linter.unusedVariables false
set_option linter.unusedSimpArgs false
set_option maxRecDepth 100000 in
set_option maxHeartbeats 2000000 in
theorem leave_nil (id : Int) (W : World) : Calls Try.prog 24 #[.pointer none, .int .i64 id] W fun e W' => e = .returned (.tuple #[.int .i64 0, .int .i64 17]) ∧ Below W.heap.size W W' := by
  go_enter Try.func24, Try.ntmps24
  go_wp2
  go_ret2
  exact ⟨rfl, by first | exact Below.refl _ _ | exact (Below.refl _ _).alloc (Nat.le_refl _) _ | exact ((Below.refl _ _).alloc (Nat.le_refl _) _).alloc (by simp) _⟩
set_option maxRecDepth 100000 in
set_option maxHeartbeats 2000000 in
theorem pick_nil (W : World) : Calls Try.prog 23 #[.pointer none] W fun e W' => e = .returned (.tuple #[.int .i64 0, .int .i64 17]) ∧ Below W.heap.size W W' := by
  go_enter Try.func23, Try.ntmps23
  go_wp2
  have c2 := (Blk.new W 3 #[.int .i64 0]).alloc (.cells #[.int .i64 17] 26)
  have c3 := Blk.new (W.alloc (.cells #[.int .i64 0] 3)) 26 #[.int .i64 17]
  have e2 := c2.cell 0
  have e3 := c3.cell 0
  simp only [List.getElem?_toArray, List.getElem?_cons_zero, World.size_alloc] at e2 e3
  refine bodyPost_ret (v := .tuple #[.int .i64 0, .int .i64 17]) (by simp [results, Try.f23, go_sem, e2, e3]) rfl ?_
  exact ⟨rfl, ((Below.refl _ _).alloc (Nat.le_refl _) _).alloc (by simp) _⟩

set_option maxRecDepth 100000 in
set_option maxHeartbeats 2000000 in
theorem run_nil (n : Int) (W : World) : Calls Try.prog 17 #[.pointer none, .int .i64 n] W fun e W' => e = .returned (.tuple #[.slice none 0 0, .int .i64 17]) ∧ Below W.heap.size W W' := by
  go_enter Try.func17, Try.ntmps17
  go_wp2
  go_ret2
  exact ⟨rfl, by first | exact Below.refl _ _ | exact (Below.refl _ _).alloc (Nat.le_refl _) _ | exact ((Below.refl _ _).alloc (Nat.le_refl _) _).alloc (by simp) _⟩
set_option maxRecDepth 100000 in
set_option maxHeartbeats 2000000 in
theorem join_nil (id t r : Int) (W : World) : Calls Try.prog 16 #[.pointer none, .int .i64 id, .int .i64 t, .int .i64 r] W fun e W' => e = .returned (.int .i64 17) ∧ Below W.heap.size W W' := by
  go_enter Try.func16, Try.ntmps16
  go_wp2
  go_ret
  exact ⟨rfl, by first | exact Below.refl _ _ | exact (Below.refl _ _).alloc (Nat.le_refl _) _ | exact ((Below.refl _ _).alloc (Nat.le_refl _) _).alloc (by simp) _⟩
set_option maxRecDepth 100000 in
set_option maxHeartbeats 2000000 in
theorem change_nil (id t : Int) (W : World) : Calls Try.prog 25 #[.pointer none, .int .i64 id, .int .i64 t] W fun e W' => e = .returned (.int .i64 17) ∧ Below W.heap.size W W' := by
  go_enter Try.func25, Try.ntmps25
  go_wp2
  go_ret
  exact ⟨rfl, by first | exact Below.refl _ _ | exact (Below.refl _ _).alloc (Nat.le_refl _) _ | exact ((Below.refl _ _).alloc (Nat.le_refl _) _).alloc (by simp) _⟩
set_option maxRecDepth 100000 in
set_option maxHeartbeats 2000000 in
theorem list_nil (W : World) : Calls Try.prog 22 #[.pointer none] W fun e W' => e = .returned (.slice none 0 0) ∧ Below W.heap.size W W' := by
  go_enter Try.func22, Try.ntmps22
  go_wp2
  go_ret
  exact ⟨rfl, by first | exact Below.refl _ _ | exact (Below.refl _ _).alloc (Nat.le_refl _) _ | exact ((Below.refl _ _).alloc (Nat.le_refl _) _).alloc (by simp) _⟩
end Go.Proofs.Ytkcmmghhghgdpaa.Str
namespace Go.Proofs.Ytkcmmghhghgdpaa.Walk
open Go.RowKit Go.Shelf Go.Maps Go.Proofs.Ytkcmmghhghgdpaa.Iter Go.Proofs.Ytkcmmghhghgdpaa.SeqM Go.Proofs.Ytkcmmghhghgdpaa.Str Go.Proofs.YtkcmmghhghgdpaaW.PrintWords Go.Proofs.YtkcmmghhghgdpaaW.PrintLast
set_option linter.unusedVariables false
set_option linter.unusedSimpArgs false

set_option maxRecDepth 100000 in
set_option maxHeartbeats 16000000 in
theorem StrideNil (W : World) (A0 : Option Addr) (c0 : Nat) (ops : List Opr) (hc0 : ops.length ≤ c0) (hr0 : Open.kOp.C W A0 ops.length ops) (g0 : ops.length ≤ maxLen ∧ ∀ a ∈ ops, Open.okOp a) (id : Int) (wid : (Lit.int .i64 id).wf = true) (n : Int) (wn : (Lit.int .i64 n).wf = true) :
    Calls Try.prog 8 #[.slice A0 ops.length c0, .int .i64 id, .int .i64 n] W fun e W' => e = .returned (.bool true) ∧ Below W.heap.size W W' := by
  have hl63 : ops.length ≤ 9223372036854775807 := g0.1
  have hR := Lib.hid (readsO_C hr0)
  clear hr0 g0 wid wn
  have hM := Lib.hid (fun (w : World) (h : ReadsO w A0 ops) => made_calls A0 c0 ops w h hl63)
  have hgood := Lib.hid (madeL_good ops)
  obtain ⟨L, hL⟩ : ∃ L, madeL ops = L := ⟨_, rfl⟩
  simp only [hL] at hM
  rw [hL] at hgood
  clear hL
  have hln := good_len hgood.out
  go_enter Try.func8, Try.ntmps8
  go_wp2_with (first | ((with_reducible refine gate_callee (f := 14) rfl ?_); refine goesL_ (some 20) rfl rfl Try.func14 (by kernel_rfl) rfl #[] rfl (by (try simp only [List.map_toArray, List.map_cons, List.map_nil]); first | done | rfl) ?_; (with_reducible refine (awake_calls _).mono ?_); rintro e wa ⟨rfl, ba⟩; refine ⟨_, rfl, ?_⟩; have ba' := Lib.hid ba; clear ba) | ((with_reducible refine gate_callee (f := 24) rfl ?_); refine goesL_ (some 25) rfl rfl Try.func24 (by kernel_rfl) rfl #[.pointer none, .int .i64 id] rfl (by (try simp only [List.map_toArray, List.map_cons, List.map_nil]); first | done | rfl) ?_; (with_reducible refine (leave_nil id _).mono ?_); rintro e wb ⟨rfl, bb⟩; refine ⟨_, rfl, ?_⟩; have bb' := Lib.hid (ba'.out.trans (bb.mono ba'.out.size)); clear bb) | ((with_reducible refine gate_callee (f := 23) rfl ?_); refine goesL_ (some 30) rfl rfl Try.func23 (by kernel_rfl) rfl #[.pointer none] rfl (by (try simp only [List.map_toArray, List.map_cons, List.map_nil]); first | done | rfl) ?_; (with_reducible refine (pick_nil _).mono ?_); rintro e wc ⟨rfl, bc⟩; refine ⟨_, rfl, ?_⟩; have bc' := Lib.hid (bb'.out.trans (bc.mono bb'.out.size)); clear bc) | ((with_reducible refine gate_callee (f := 17) rfl ?_); refine goesL_ (some 36) rfl rfl Try.func17 (by kernel_rfl) rfl #[.pointer none, .int .i64 n] rfl (by (try simp only [List.map_toArray, List.map_cons, List.map_nil]); first | done | rfl) ?_; (with_reducible refine (run_nil n _).mono ?_); rintro e wd ⟨rfl, bd⟩; refine ⟨_, rfl, ?_⟩; have bd' := Lib.hid (bc'.out.trans (bd.mono bc'.out.size)); clear bd) | ((with_reducible refine gate_callee (f := 16) rfl ?_); refine goesL_ (some 41) rfl rfl Try.func16 (by kernel_rfl) rfl #[.pointer none, .int .i64 id, .int .i64 1, .int .i64 0] rfl (by (try simp only [List.map_toArray, List.map_cons, List.map_nil]); first | done | rfl) ?_; (with_reducible refine (join_nil id 1 0 _).mono ?_); rintro e we ⟨rfl, be⟩; refine ⟨_, rfl, ?_⟩; have be' := Lib.hid (bd'.out.trans (be.mono bd'.out.size)); clear be) | (go_at_call 25; refine (change_nil id 1 _).mono ?_; rintro e wf ⟨rfl, bf⟩; have bf' := Lib.hid (be'.out.trans (bf.mono be'.out.size)); clear bf) | (go_at_call 22; refine (list_nil _).mono ?_; rintro e wg ⟨rfl, bg⟩; have bg' := Lib.hid (bf'.out.trans (bg.mono bf'.out.size)); clear bg) | ((with_reducible refine gate_callee (f := 21) rfl ?_); refine goesL_ (some 79) rfl rfl Try.func21 (by kernel_rfl) rfl #[.slice A0 ops.length c0] rfl (by (try simp only [List.map_toArray, List.map_cons, List.map_nil]); first | done | rfl) ?_; (with_reducible refine (hM.out _ (hR.out.below bg'.out)).mono ?_); rintro e w3 ⟨G, v, rfl, g3, b3⟩; refine ⟨_, rfl, ?_⟩; have g3' := Lib.hid (g3.lower bg'.out.size); have b3' := Lib.hid (bg'.out.trans (b3.mono bg'.out.size)); clear g3 b3) | ((with_reducible refine gate_callee (f := 22) rfl ?_); refine goesL_ (some 81) rfl rfl Try.func22 (by kernel_rfl) rfl #[ptrG G] rfl (by (try simp only [List.map_toArray, List.map_cons, List.map_nil]); first | done | rfl) ?_; (with_reducible refine (list_calls W.heap.size G v L _ hln g3'.out).mono ?_); rintro e w4 ⟨u, rfl, u4, b4⟩; obtain ⟨A4, c4, rfl⟩ := slice_of_own u4; refine ⟨_, rfl, ?_⟩; have u4' := Lib.hid u4; have sG := Lib.hid (And.intro g3'.out.lt (fun k (hk : v.ownBlock = some k) => (own_block g3'.out.row hk).2.1)); have g4' := Lib.hid (grp_below g3'.out b4); have b4' := Lib.hid (b3'.out.trans (b4.mono b3'.out.size)); clear u4 b4) | ((with_reducible refine gate_callee (f := 22) rfl ?_); refine goesL_ (some 83) rfl rfl Try.func22 (by kernel_rfl) rfl #[ptrG G] rfl (by (try simp only [List.map_toArray, List.map_cons, List.map_nil]); first | done | rfl) ?_; (with_reducible refine (list_calls W.heap.size G v L _ hln g4'.out).mono ?_); rintro e w5 ⟨u, rfl, u5, b5⟩; obtain ⟨A5, c5, rfl⟩ := slice_of_own u5; refine ⟨_, rfl, ?_⟩; have u5' := Lib.hid (own_below u4'.out b5); have r5' := Lib.hid (own_readsG u5); have n5' := Lib.hid (And.intro (fun (ad : Addr) (h : A5 = some ad) => ((own_readsG u5).2.1 ad h).1) (fun (g : Nat) (h : A4 = some ⟨g, 0, none⟩) => ((own_readsG u4'.out).2.1 _ h))); have g5' := Lib.hid (grp_below g4'.out b5); have b5' := Lib.hid (b4'.out.trans (b5.mono b4'.out.size)); clear u5 b5))
  go_loopw [86] (fun iv wr => ∃ (i : Nat) (xs : List Value), iv = .int .i64 (i : Int) ∧ i ≤ L.length ∧ wr.ownsRow w3.heap.size tC 3 (.slice A4 L.length c4) L.length xs ∧ ReadsG wr A5 L ∧ Grp tG tC W.heap.size G v L wr ∧ Below W.heap.size W wr)
    (fun iv _ => L.length - (intOf iv).toNat)
  case atStart => exact ⟨0, _, rfl, Nat.zero_le _, u5'.out, r5'.out.1, g5'.out, b5'.out⟩
  case round =>
    obtain ⟨i, xs, rfl, hi, hown, hr, hgr, hbel⟩ := hrel
    by_cases hlt : i < L.length
    · have hr' := Lib.hid hr
      have hgr' := Lib.hid hgr
      have hbel' := Lib.hid hbel
      obtain ⟨g, hA⟩ : ∃ g, A4 = some ⟨g, 0, none⟩ := by
        rcases hown.2 with ⟨h, h0⟩ | ⟨g, cap, cur, h, _⟩
        · omega
        · injection h with h1 h2 h3
          exact ⟨g, h1⟩
      subst hA
      have hxl := hown.1
      have f0 := hown.frozenAt (i * 3)
      have f1 := hown.frozenAt (i * 3 + 1)
      have f2 := hown.frozenAt (i * 3 + 2)
      have hcs : ∀ j, j < L.length * 3 → ∃ x, wr.cell? ⟨g, j, none⟩ = some x := fun j hj => ⟨xs[j]'(by omega), by rw [hown.cellAt j hj]; exact List.getElem?_eq_getElem _⟩
      obtain ⟨x0, p0⟩ := hcs (i * 3) (by omega)
      obtain ⟨x1, p1⟩ := hcs (i * 3 + 1) (by omega)
      obtain ⟨x2, p2⟩ := hcs (i * 3 + 2) (by omega)
      have o1 := (hown.stored (i * 3) (.int .i64 (-9))).1
      have o2 := (o1.stored (i * 3 + 1) (.int .i64 0)).1
      have o3 := Lib.hid ((o2.stored (i * 3 + 2) (.int .i64 0)).1)
      have hown' := Lib.hid hown
      clear hown o1 o2 hr hgr hbel hcs
      have hne5 : ∀ ad, A5 = some ad → ad.block ≠ g := fun ad h e => by
        have h1 := n5'.out.1 ad h
        have h2 := (n5'.out.2 g rfl).2
        omega
      have hGg : G ≠ g := by have h1 := sG.out.1; have h2 := (n5'.out.2 g rfl).1; omega
      have hvg : v.ownBlock ≠ some g := fun e => by have h1 := sG.out.2 g e; have h2 := (n5'.out.2 g rfl).1; omega
      have hWg : W.heap.size ≤ g := by have h1 := b3'.out.size; have h2 := (n5'.out.2 g rfl).1; omega
      go_wp2
      go_roundw
      case rel => exact ⟨i + 1, _, by go_num, by omega, o3.out, (((hr'.out.other _ hne5).other _ hne5).other _ hne5), (((hgr'.out.other _ hGg hvg).other _ hGg hvg).other _ hGg hvg), ((hbel'.out.setCell (p := ⟨g, i * 3, none⟩) hWg _).setCell (p := ⟨g, i * 3 + 1, none⟩) hWg _).setCell (p := ⟨g, i * 3 + 2, none⟩) hWg _⟩
      case measure => simp [intOf]; omega
    · have hi' : i = L.length := by omega
      subst hi'
      have hr' := Lib.hid hr
      have hgr' := Lib.hid hgr
      have hbel' := Lib.hid hbel
      clear hown hr hgr hbel
      go_wp2_with ((with_reducible refine gate_callee (f := 22) rfl ?_); refine goesL_ (some 95) rfl rfl Try.func22 (by kernel_rfl) rfl #[ptrG G] rfl (by (try simp only [List.map_toArray, List.map_cons, List.map_nil]); first | done | rfl) ?_; (with_reducible refine (list_calls W.heap.size G v L _ hln hgr'.out).mono ?_); rintro e w6 ⟨u, rfl, u6, b6⟩; obtain ⟨A6, c6, rfl⟩ := slice_of_own u6; refine ⟨_, rfl, ?_⟩; have r6' := Lib.hid (own_readsG u6).1; have s6' := Lib.hid (hr'.out.below b6); have b6' := Lib.hid (hbel'.out.trans (b6.mono hbel'.out.size)); clear u6 b6)
      go_loopw [98] (fun iv wr => ∃ (i : Nat), iv = .int .i64 (i : Int) ∧ i ≤ L.length ∧ Below w6.heap.size w6 wr)
        (fun iv _ => L.length - (intOf iv).toNat)
      case atStart => exact ⟨0, rfl, Nat.zero_le _, Below.refl _ _⟩
      case round =>
        obtain ⟨i, rfl, hi, hbel⟩ := hrel
        have hbel' := Lib.hid hbel
        by_cases hlu : i < L.length
        · obtain ⟨d, hd⟩ : ∃ d, L[i]? = some d := ⟨L[i], List.getElem?_eq_getElem hlu⟩
          obtain ⟨g1, rfl, _, p0, p1, p2⟩ := (s6'.out.below hbel) i d hd
          obtain ⟨g2, rfl, _, q0, q1, q2⟩ := (r6'.out.below hbel) i d hd
          have heq := fun w => eqC_same w d
          clear hbel hd
          go_wp2
          go_quiet (fail)
          go_wp2
          go_roundw
          case rel => exact ⟨i + 1, by go_num, by omega, by first | exact hbel'.out | exact hbel'.out.drew | exact pw_below_drewN hbel'.out _⟩
          case measure => simp [intOf]; omega
        · have hi' : i = L.length := by omega
          subst hi'
          clear hbel
          go_wp2
          go_ret
          exact ⟨rfl, b6'.out.trans (hbel'.out.mono b6'.out.size)⟩
end Go.Proofs.Ytkcmmghhghgdpaa.Walk
