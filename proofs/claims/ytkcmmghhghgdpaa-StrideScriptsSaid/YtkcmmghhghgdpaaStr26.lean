/- furlonglaw09.alike and play: their contracts. -/
import Derived.Test.YtkcmmghhghgdpaaStr25
namespace Go.Proofs.Ytkcmmghhghgdpaa.Str
open Go.RowKit Go.Shelf Go.Maps Go.Proofs.Ytkcmmghhghgdpaa.Iter Go.Proofs.Ytkcmmghhghgdpaa.SeqM Go.Proofs.YtkcmmghhghgdpaaW.PrintWords Go.Proofs.YtkcmmghhghgdpaaW.PrintLast
set_option linter.unusedVariables false
set_option linter.unusedSimpArgs false
theorem tRG : tR ≠ tG := by decide
theorem tRC : tR ≠ tC := by decide
/-- A list of the document's, while a group is called. -/
theorem RowR.mt {B G : Nat} {v u : Value} {l m : List Cl} {W W' : World} (h : RowR W u m) (hg : Grp tG tC B G v l W) (hm : Mt G v.ownBlock W W') : RowR W' u m :=
  own_move h fun k hk => by
    obtain ⟨_, b, cur, hc⟩ := own_block h hk
    refine hm.block k b (fun e => ?_) (fun e => ?_)
    · subst e
      rw [hg.blk] at hc
      injection hc with hc
      injection hc with _ hc _
      exact tRG hc.symm
    · obtain ⟨_, _, cur2, hc2⟩ := own_block hg.row e.symm
      rw [hc] at hc2
      injection hc2 with hc2
      injection hc2 with _ hc2 _
      exact tRC hc2
theorem blk_mt {G R : Nat} {r : Option Nat} {t : TypeId} {cs : Array Value} {X Y : World} (h : Blk X R t cs) (hm : Mt G r X Y) (h1 : R ≠ G) (h2 : r ≠ some R) : Blk Y R t cs := (hm.block R h.lt h1 (fun e => h2 e.symm)).trans h
theorem mt_below {G : Nat} {r : Option Nat} {W X Y : World} (h : Mt G r W X) (hb : Below X.heap.size X Y) : Mt G r W Y := h.trans (Mt.of_below hb) (.inl rfl)
/-- A call of a script, with runs. -/
def playL (l : List Cl) (o : Opr) : List Cl :=
  if o.1 = 0 then (joinL l o.2.1 o.2.2.1 o.2.2.2.1).1 else if o.1 = 1 then (leaveL l o.2.1).1 else if o.1 = 2 then (changeL l o.2.1 o.2.2.1).1 else if o.1 = 3 then (pickR l).1 else (runR l o.2.2.2.2).1
theorem playL_good {l : List Cl} (o : Opr) (h : GoodG l) : GoodG (playL l o) := by
  unfold playL
  split
  · exact join_good h
  · split
    · exact leave_good h
    · split
      · exact change_good h
      · split
        · exact pickR_good h
        · exact runR_good h _

set_option maxRecDepth 100000 in
set_option maxHeartbeats 8000000 in
theorem alike_calls (B G : Nat) (v : Value) (l : List Cl) (A : Option Addr) (c0 : Nat) (W : World) (hgood : GoodG l) (hg : Grp tG tC B G v l W) (hr : RowR W (.slice A l.length c0) l) :
    Calls Try.prog 20 #[ptrG G, .slice A l.length c0] W fun e W' => e = .returned (.bool true) ∧ Below W.heap.size W W' := by
  have hln := good_len hgood
  have hg' := Lib.hid hg
  have hrd := Lib.hid hr.reads
  clear hg hr hgood
  go_enter Try.func20, Try.ntmps20
  go_wp2_with ((with_reducible refine gate_callee (f := 22) rfl ?_); refine goesL_ (some 8) rfl rfl Try.func22 (by kernel_rfl) rfl #[ptrG G] rfl (by (try simp only [List.map_toArray, List.map_cons, List.map_nil]); first | done | rfl) ?_; (with_reducible refine (list_calls B G v l _ hln hg'.out).mono ?_); rintro e w1 ⟨u, rfl, u1, b1⟩; obtain ⟨A1, c1, rfl⟩ := slice_of_own u1; refine ⟨_, rfl, ?_⟩; have r1' := Lib.hid (own_readsG u1).1; have s1' := Lib.hid (hrd.out.below b1); have b1' := Lib.hid b1; clear u1 b1)
  go_loopw [16] (fun iv wr => ∃ (i : Nat), iv = .int .i64 (i : Int) ∧ i ≤ l.length ∧ Below w1.heap.size w1 wr)
    (fun iv _ => l.length - (intOf iv).toNat)
  case atStart => exact ⟨0, rfl, Nat.zero_le _, Below.refl _ _⟩
  case round =>
    obtain ⟨i, rfl, hi, hbel⟩ := hrel
    have hbel' := Lib.hid hbel
    by_cases hlu : i < l.length
    · obtain ⟨d, hd⟩ : ∃ d, l[i]? = some d := ⟨l[i], List.getElem?_eq_getElem hlu⟩
      obtain ⟨g1, rfl, _, p0, p1, p2⟩ := (r1'.out.below hbel) i d hd
      obtain ⟨g2, rfl, _, q0, q1, q2⟩ := (s1'.out.below hbel) i d hd
      clear hbel hd
      go_wp2
      go_quiet (fail)
      go_wp2
      go_roundw
      case rel => exact ⟨i + 1, by go_num, by omega, by first | exact hbel'.out | exact hbel'.out.drew | exact pw_below_drewN hbel'.out _⟩
      case measure => simp [intOf]; omega
    · have hi' : i = l.length := by omega
      subst hi'
      clear hbel
      go_wp2
      go_ret
      exact ⟨rfl, b1'.out.trans (hbel'.out.mono b1'.out.size)⟩

set_option maxRecDepth 100000 in
set_option maxHeartbeats 16000000 in
theorem play_calls (B G : Nat) (v : Value) (l : List Cl) (A : Option Addr) (c0 : Nat) (kd oid ot orm on : Int) (W : World) (hgood : GoodG l) (hg : Grp tG tC B G v l W) (hB : B ≤ W.heap.size) (hr : RowR W (.slice A l.length c0) l) :
    Calls Try.prog 19 #[ptrG G, .slice A l.length c0, .agg #[.int .i64 kd, .int .i64 oid, .int .i64 ot, .int .i64 orm, .int .i64 on]] W fun e W' => ∃ u, e = .returned (.tuple #[u, .bool true]) ∧ RowR W' u (playL l (kd, oid, ot, orm, on)) ∧ (∃ v', Grp tG tC B G v' (playL l (kd, oid, ot, orm, on)) W') ∧ Mt G v.ownBlock W W' := by
  have hln := good_len hgood
  have hgd := Lib.hid hgood
  have hGl := hg.lt
  have hvl : ∀ k, v.ownBlock = some k → k < W.heap.size := fun k hk => (own_block hg.row hk).2.1
  have hvl' := Lib.hid hvl
  have bX := Blk.new W 35 #[.int .i64 kd, .int .i64 oid, .int .i64 ot, .int .i64 orm, .int .i64 on]
  have hne1 : W.heap.size ≠ G := by omega
  have hne2 : v.ownBlock ≠ some W.heap.size := fun e => by have := hvl _ e; omega
  have g0 := Lib.hid (hg.alloc (.cells #[.int .i64 kd, .int .i64 oid, .int .i64 ot, .int .i64 orm, .int .i64 on] 35))
  have r0 := Lib.hid (show RowR (W.alloc (.cells #[.int .i64 kd, .int .i64 oid, .int .i64 ot, .int .i64 orm, .int .i64 on] 35)) (.slice A l.length c0) l from hr.alloc _)
  have m0 := Lib.hid ((Mt.refl G v.ownBlock W).alloc (.cells #[.int .i64 kd, .int .i64 oid, .int .i64 ot, .int .i64 orm, .int .i64 on] 35))
  have d0 := bX.cell 0
  have d1 := bX.cell 1
  have d2 := bX.cell 2
  have d3 := bX.cell 3
  have d4 := bX.cell 4
  simp only [List.getElem?_toArray, List.getElem?_cons_zero, List.getElem?_cons_succ] at d0 d1 d2 d3 d4
  have bX' := Lib.hid bX
  clear hvl hgood hg hr bX
  by_cases k0 : kd = 0
  · subst k0
    have hpl := Lib.hid (show playL l (0, oid, ot, orm, on) = (joinL l oid ot orm).1 from rfl)
    go_enter Try.func19, Try.ntmps19
    go_wp2_with (first | ((with_reducible refine gate_callee (f := 48) rfl ?_); refine goesL_ (some 41) rfl rfl Try.func48 (by kernel_rfl) rfl #[.slice A l.length c0, .int .i64 oid, .int .i64 ot, .int .i64 orm] rfl (by (try simp only [List.map_toArray, List.map_cons, List.map_nil]); first | done | rfl) ?_; (with_reducible refine (joinR_calls A c0 l oid ot orm _ hgd.out r0.out).mono ?_); rintro e w2 ⟨u2, rfl, r2, b2⟩; refine ⟨_, rfl, ?_⟩; have r2' := Lib.hid r2; have g2' := Lib.hid (grp_below g0.out b2); have m2' := Lib.hid (mt_below m0.out b2); clear d0 d1 d2 d3 d4; have bY := bX'.out.below b2 bX'.out.lt; have d0 := bY.cell 0; have d1 := bY.cell 1; have d2 := bY.cell 2; have d3 := bY.cell 3; have d4 := bY.cell 4; simp only [List.getElem?_toArray, List.getElem?_cons_zero, List.getElem?_cons_succ] at d0 d1 d2 d3 d4; have bY' := Lib.hid bY; clear bY; clear r2 b2) | ((with_reducible refine gate_callee (f := 16) rfl ?_); refine goesL_ (some 52) rfl rfl Try.func16 (by kernel_rfl) rfl #[ptrG G, .int .i64 oid, .int .i64 ot, .int .i64 orm] rfl (by (try simp only [List.map_toArray, List.map_cons, List.map_nil]); first | done | rfl) ?_; (with_reducible refine (join_calls B G v l oid ot orm _ hgd.out g2'.out (Nat.le_trans hB m2'.out.size)).mono ?_); rintro e w3 ⟨rfl, v3, g3, m3, _⟩; refine ⟨_, rfl, ?_⟩; have g3' := Lib.hid g3; have r3' := Lib.hid (r2'.out.mt g2'.out m3); have m3' := Lib.hid (m2'.out.trans m3 (.inl rfl)); clear g3 m3))
    go_ret2
    exact ⟨_, rfl, by rw [hpl.out]; exact r3'.out, ⟨v3, by rw [hpl.out]; exact g3'.out⟩, m3'.out⟩
  · by_cases k1 : kd = 1
    · subst k1
      have hpl := Lib.hid (show playL l (1, oid, ot, orm, on) = (leaveL l oid).1 from rfl)
      go_enter Try.func19, Try.ntmps19
      go_wp2_with (first | ((with_reducible refine gate_callee (f := 24) rfl ?_); refine goesL_ (some 61) rfl rfl Try.func24 (by kernel_rfl) rfl #[ptrG G, .int .i64 oid] rfl (by (try simp only [List.map_toArray, List.map_cons, List.map_nil]); first | done | rfl) ?_; (with_reducible refine (leave_calls B G v l oid _ hgd.out g0.out).mono ?_); rintro e w2 ⟨rfl, v2, g2, m2, o2⟩; refine ⟨_, rfl, ?_⟩; have g2' := Lib.hid g2; have r2' := Lib.hid (r0.out.mt g0.out m2); have m2' := Lib.hid (m0.out.trans m2 (.inl rfl)); clear d0 d1 d2 d3 d4; have bY := blk_mt bX'.out m2 hne1 hne2; have d0 := bY.cell 0; have d1 := bY.cell 1; have d2 := bY.cell 2; have d3 := bY.cell 3; have d4 := bY.cell 4; simp only [List.getElem?_toArray, List.getElem?_cons_zero, List.getElem?_cons_succ] at d0 d1 d2 d3 d4; have bY' := Lib.hid bY; clear bY; clear g2 m2 o2) | ((with_reducible refine gate_callee (f := 49) rfl ?_); refine goesL_ (some 68) rfl rfl Try.func49 (by kernel_rfl) rfl #[.slice A l.length c0, .int .i64 oid] rfl (by (try simp only [List.map_toArray, List.map_cons, List.map_nil]); first | done | rfl) ?_; (with_reducible refine (leaveR_calls A c0 l oid _ hgd.out r2'.out).mono ?_); rintro e w3 ⟨u3, rfl, r3, b3⟩; refine ⟨_, rfl, ?_⟩; have r3' := Lib.hid r3; have g3' := Lib.hid (grp_below g2'.out b3); have m3' := Lib.hid (mt_below m2'.out b3); clear r3 b3))
      go_ret2
      exact ⟨_, rfl, by rw [hpl.out]; exact r3'.out, ⟨v2, by rw [hpl.out]; exact g3'.out⟩, m3'.out⟩
    · by_cases k2 : kd = 2
      · subst k2
        have hpl := Lib.hid (show playL l (2, oid, ot, orm, on) = (changeL l oid ot).1 from rfl)
        go_enter Try.func19, Try.ntmps19
        go_wp2_with (first | ((with_reducible refine gate_callee (f := 50) rfl ?_); refine goesL_ (some 89) rfl rfl Try.func50 (by kernel_rfl) rfl #[.slice A l.length c0, .int .i64 oid, .int .i64 ot] rfl (by (try simp only [List.map_toArray, List.map_cons, List.map_nil]); first | done | rfl) ?_; (with_reducible refine (changeD_calls A c0 l oid ot _ hgd.out r0.out).mono ?_); rintro e w2 ⟨u2, rfl, r2, b2⟩; refine ⟨_, rfl, ?_⟩; have r2' := Lib.hid r2; have g2' := Lib.hid (grp_below g0.out b2); have m2' := Lib.hid (mt_below m0.out b2); clear d0 d1 d2 d3 d4; have bY := bX'.out.below b2 bX'.out.lt; have d0 := bY.cell 0; have d1 := bY.cell 1; have d2 := bY.cell 2; have d3 := bY.cell 3; have d4 := bY.cell 4; simp only [List.getElem?_toArray, List.getElem?_cons_zero, List.getElem?_cons_succ] at d0 d1 d2 d3 d4; have bY' := Lib.hid bY; clear bY; clear r2 b2) | ((with_reducible refine gate_callee (f := 25) rfl ?_); refine goesL_ (some 98) rfl rfl Try.func25 (by kernel_rfl) rfl #[ptrG G, .int .i64 oid, .int .i64 ot] rfl (by (try simp only [List.map_toArray, List.map_cons, List.map_nil]); first | done | rfl) ?_; (with_reducible refine (change_calls B G v l oid ot _ hgd.out g2'.out).mono ?_); rintro e w3 ⟨rfl, g3, m3⟩; refine ⟨_, rfl, ?_⟩; have g3' := Lib.hid g3; have r3' := Lib.hid (r2'.out.mt g2'.out m3); have m3' := Lib.hid (m2'.out.trans m3 (.inl rfl)); clear g3 m3))
        go_ret2
        exact ⟨_, rfl, by rw [hpl.out]; exact r3'.out, ⟨v, by rw [hpl.out]; exact g3'.out⟩, m3'.out⟩
      · by_cases k3 : kd = 3
        · subst k3
          have hpl := Lib.hid (show playL l (3, oid, ot, orm, on) = (pickR l).1 from rfl)
          by_cases hemp : l = []
          · have hl0 : ((l.length : Int) == 0) = true := by rw [hemp]; rfl
            have hp := Lib.hid (show pickR l = (l, 0, 8) from if_pos hemp)
            clear hemp
            go_enter Try.func19, Try.ntmps19
            go_wp2_with ((with_reducible refine gate_callee (f := 23) rfl ?_); refine goesL_ (some 105) rfl rfl Try.func23 (by kernel_rfl) rfl #[ptrG G] rfl (by (try simp only [List.map_toArray, List.map_cons, List.map_nil]); first | done | rfl) ?_; (with_reducible refine (pick_calls B G v l _ hgd.out g0.out).mono ?_); rintro e w2 ⟨rfl, g2, m2⟩; rw [hp.out] at g2; refine ⟨_, rfl, ?_⟩; have g2' := Lib.hid g2; have r2' := Lib.hid (r0.out.mt g0.out m2); have m2' := Lib.hid (m0.out.trans m2 (.inl rfl)); clear g2 m2; simp only [hp.out])
            go_ret2
            exact ⟨_, rfl, by rw [hpl.out, hp.out]; exact r2'.out, ⟨v, by rw [hpl.out, hp.out]; exact g2'.out⟩, m2'.out⟩
          · have hpos : 0 < l.length := by cases l with | nil => exact absurd rfl hemp | cons => simp
            have hl0 : ((l.length : Int) == 0) = false := beq_eq_false_iff_ne.mpr (by omega)
            clear hemp
            go_enter Try.func19, Try.ntmps19
            go_wp2_with (first | ((with_reducible refine gate_callee (f := 23) rfl ?_); refine goesL_ (some 105) rfl rfl Try.func23 (by kernel_rfl) rfl #[ptrG G] rfl (by (try simp only [List.map_toArray, List.map_cons, List.map_nil]); first | done | rfl) ?_; (with_reducible refine (pick_calls B G v l _ hgd.out g0.out).mono ?_); rintro e w2 ⟨rfl, g2, m2⟩; refine ⟨_, rfl, ?_⟩; have g2' := Lib.hid g2; have r2' := Lib.hid (r0.out.mt g0.out m2); have m2' := Lib.hid (m0.out.trans m2 (.inl rfl)); clear g2 m2) | ((with_reducible refine gate_callee (f := 51) rfl ?_); refine goesL_ (some 120) rfl rfl Try.func51 (by kernel_rfl) rfl #[.slice A l.length c0] rfl (by (try simp only [List.map_toArray, List.map_cons, List.map_nil]); first | done | rfl) ?_; (with_reducible refine (pickD_calls A c0 l _ hgd.out r2'.out).mono ?_); rintro e w3 ⟨u3, rfl, r3, b3⟩; refine ⟨_, rfl, ?_⟩; have r3' := Lib.hid r3; have g3' := Lib.hid (grp_below g2'.out b3); have m3' := Lib.hid (mt_below m2'.out b3); clear r3 b3))
            go_ret2
            exact ⟨_, rfl, by rw [hpl.out]; exact r3'.out, ⟨v, by rw [hpl.out]; exact g3'.out⟩, m3'.out⟩
        · have hpl := Lib.hid (show playL l (kd, oid, ot, orm, on) = (runR l on).1 by unfold playL; rw [if_neg k0, if_neg k1, if_neg k2, if_neg k3])
          by_cases n1 : on < 0
          · have hrr := Lib.hid (show runR l on = (l, [], 1) from if_pos (.inl n1))
            go_enter Try.func19, Try.ntmps19
            go_wp2_with (first | ((with_reducible refine gate_callee (f := 17) rfl ?_); refine goesL_ (some 137) rfl rfl Try.func17 (by kernel_rfl) rfl #[ptrG G, .int .i64 on] rfl (by (try simp only [List.map_toArray, List.map_cons, List.map_nil]); first | done | rfl) ?_; (with_reducible refine (run_calls B G v l on _ hgd.out g0.out).mono ?_); rintro e w2 ⟨u, rfl, u2, g2, m2⟩; rw [hrr.out] at u2 g2; obtain ⟨Ax, cx, rfl⟩ := slice_of_own u2; refine ⟨_, rfl, ?_⟩; have x2' := Lib.hid (reads_row u2).1; have g2' := Lib.hid g2; have r2' := Lib.hid (r0.out.mt g0.out m2); have m2' := Lib.hid (m0.out.trans m2 (.inl rfl)); clear d0 d1 d2 d3 d4; have bY := blk_mt bX'.out m2 hne1 hne2; have d0 := bY.cell 0; have d1 := bY.cell 1; have d2 := bY.cell 2; have d3 := bY.cell 3; have d4 := bY.cell 4; simp only [List.getElem?_toArray, List.getElem?_cons_zero, List.getElem?_cons_succ] at d0 d1 d2 d3 d4; have bY' := Lib.hid bY; clear bY; clear u2 g2 m2; simp only [hrr.out]) | ((with_reducible refine gate_callee (f := 17) rfl ?_); refine goesL_ (some 137) rfl rfl Try.func17 (by kernel_rfl) rfl #[ptrG G, .int .i64 (N : Int)] rfl (by (try simp only [List.map_toArray, List.map_cons, List.map_nil]); first | done | rfl) ?_; (with_reducible refine (run_calls B G v l (N : Int) _ hgd.out g0.out).mono ?_); rintro e w2 ⟨u, rfl, u2, g2, m2⟩; rw [hrr.out] at u2 g2; obtain ⟨Ax, cx, rfl⟩ := slice_of_own u2; refine ⟨_, rfl, ?_⟩; have x2' := Lib.hid (reads_row u2).1; have g2' := Lib.hid g2; have r2' := Lib.hid (r0.out.mt g0.out m2); have m2' := Lib.hid (m0.out.trans m2 (.inl rfl)); clear d0 d1 d2 d3 d4; have bY := blk_mt bX'.out m2 hne1 hne2; have d0 := bY.cell 0; have d1 := bY.cell 1; have d2 := bY.cell 2; have d3 := bY.cell 3; have d4 := bY.cell 4; simp only [List.getElem?_toArray, List.getElem?_cons_zero, List.getElem?_cons_succ] at d0 d1 d2 d3 d4; have bY' := Lib.hid bY; clear bY; clear u2 g2 m2; simp only [hrr.out]))
            go_ret2
            exact ⟨_, rfl, by rw [hpl.out, hrr.out]; exact r2'.out, ⟨v, by rw [hpl.out, hrr.out]; exact g2'.out⟩, m2'.out⟩
          · by_cases n2 : 100000 < on
            · have hrr := Lib.hid (show runR l on = (l, [], 1) from if_pos (.inr n2))
              go_enter Try.func19, Try.ntmps19
              go_wp2_with (first | ((with_reducible refine gate_callee (f := 17) rfl ?_); refine goesL_ (some 137) rfl rfl Try.func17 (by kernel_rfl) rfl #[ptrG G, .int .i64 on] rfl (by (try simp only [List.map_toArray, List.map_cons, List.map_nil]); first | done | rfl) ?_; (with_reducible refine (run_calls B G v l on _ hgd.out g0.out).mono ?_); rintro e w2 ⟨u, rfl, u2, g2, m2⟩; rw [hrr.out] at u2 g2; obtain ⟨Ax, cx, rfl⟩ := slice_of_own u2; refine ⟨_, rfl, ?_⟩; have x2' := Lib.hid (reads_row u2).1; have g2' := Lib.hid g2; have r2' := Lib.hid (r0.out.mt g0.out m2); have m2' := Lib.hid (m0.out.trans m2 (.inl rfl)); clear d0 d1 d2 d3 d4; have bY := blk_mt bX'.out m2 hne1 hne2; have d0 := bY.cell 0; have d1 := bY.cell 1; have d2 := bY.cell 2; have d3 := bY.cell 3; have d4 := bY.cell 4; simp only [List.getElem?_toArray, List.getElem?_cons_zero, List.getElem?_cons_succ] at d0 d1 d2 d3 d4; have bY' := Lib.hid bY; clear bY; clear u2 g2 m2; simp only [hrr.out]) | ((with_reducible refine gate_callee (f := 17) rfl ?_); refine goesL_ (some 137) rfl rfl Try.func17 (by kernel_rfl) rfl #[ptrG G, .int .i64 (N : Int)] rfl (by (try simp only [List.map_toArray, List.map_cons, List.map_nil]); first | done | rfl) ?_; (with_reducible refine (run_calls B G v l (N : Int) _ hgd.out g0.out).mono ?_); rintro e w2 ⟨u, rfl, u2, g2, m2⟩; rw [hrr.out] at u2 g2; obtain ⟨Ax, cx, rfl⟩ := slice_of_own u2; refine ⟨_, rfl, ?_⟩; have x2' := Lib.hid (reads_row u2).1; have g2' := Lib.hid g2; have r2' := Lib.hid (r0.out.mt g0.out m2); have m2' := Lib.hid (m0.out.trans m2 (.inl rfl)); clear d0 d1 d2 d3 d4; have bY := blk_mt bX'.out m2 hne1 hne2; have d0 := bY.cell 0; have d1 := bY.cell 1; have d2 := bY.cell 2; have d3 := bY.cell 3; have d4 := bY.cell 4; simp only [List.getElem?_toArray, List.getElem?_cons_zero, List.getElem?_cons_succ] at d0 d1 d2 d3 d4; have bY' := Lib.hid bY; clear bY; clear u2 g2 m2; simp only [hrr.out]))
              go_ret2
              exact ⟨_, rfl, by rw [hpl.out, hrr.out]; exact r2'.out, ⟨v, by rw [hpl.out, hrr.out]; exact g2'.out⟩, m2'.out⟩
            · obtain ⟨N, rfl⟩ : ∃ N : Nat, on = (N : Int) := ⟨on.toNat, by omega⟩
              by_cases hz : 0 < N ∧ l = []
              · obtain ⟨hN, hemp⟩ := hz
                have hl0 : ((l.length : Int) == 0) = true := by rw [hemp]; rfl
                have hrr := Lib.hid (show runR l (N : Int) = (l, [], 8) by unfold runR; rw [if_neg (by omega), if_neg (by omega), if_pos hemp])
                have hN' : (0 : Int) < (N : Int) := by omega
                clear hemp
                go_enter Try.func19, Try.ntmps19
                go_wp2_with (first | ((with_reducible refine gate_callee (f := 17) rfl ?_); refine goesL_ (some 137) rfl rfl Try.func17 (by kernel_rfl) rfl #[ptrG G, .int .i64 on] rfl (by (try simp only [List.map_toArray, List.map_cons, List.map_nil]); first | done | rfl) ?_; (with_reducible refine (run_calls B G v l on _ hgd.out g0.out).mono ?_); rintro e w2 ⟨u, rfl, u2, g2, m2⟩; rw [hrr.out] at u2 g2; obtain ⟨Ax, cx, rfl⟩ := slice_of_own u2; refine ⟨_, rfl, ?_⟩; have x2' := Lib.hid (reads_row u2).1; have g2' := Lib.hid g2; have r2' := Lib.hid (r0.out.mt g0.out m2); have m2' := Lib.hid (m0.out.trans m2 (.inl rfl)); clear d0 d1 d2 d3 d4; have bY := blk_mt bX'.out m2 hne1 hne2; have d0 := bY.cell 0; have d1 := bY.cell 1; have d2 := bY.cell 2; have d3 := bY.cell 3; have d4 := bY.cell 4; simp only [List.getElem?_toArray, List.getElem?_cons_zero, List.getElem?_cons_succ] at d0 d1 d2 d3 d4; have bY' := Lib.hid bY; clear bY; clear u2 g2 m2; simp only [hrr.out]) | ((with_reducible refine gate_callee (f := 17) rfl ?_); refine goesL_ (some 137) rfl rfl Try.func17 (by kernel_rfl) rfl #[ptrG G, .int .i64 (N : Int)] rfl (by (try simp only [List.map_toArray, List.map_cons, List.map_nil]); first | done | rfl) ?_; (with_reducible refine (run_calls B G v l (N : Int) _ hgd.out g0.out).mono ?_); rintro e w2 ⟨u, rfl, u2, g2, m2⟩; rw [hrr.out] at u2 g2; obtain ⟨Ax, cx, rfl⟩ := slice_of_own u2; refine ⟨_, rfl, ?_⟩; have x2' := Lib.hid (reads_row u2).1; have g2' := Lib.hid g2; have r2' := Lib.hid (r0.out.mt g0.out m2); have m2' := Lib.hid (m0.out.trans m2 (.inl rfl)); clear d0 d1 d2 d3 d4; have bY := blk_mt bX'.out m2 hne1 hne2; have d0 := bY.cell 0; have d1 := bY.cell 1; have d2 := bY.cell 2; have d3 := bY.cell 3; have d4 := bY.cell 4; simp only [List.getElem?_toArray, List.getElem?_cons_zero, List.getElem?_cons_succ] at d0 d1 d2 d3 d4; have bY' := Lib.hid bY; clear bY; clear u2 g2 m2; simp only [hrr.out]))
                go_ret2
                exact ⟨_, rfl, by rw [hpl.out, hrr.out]; exact r2'.out, ⟨v, by rw [hpl.out, hrr.out]; exact g2'.out⟩, m2'.out⟩
              · have hne : 0 < N → l ≠ [] := fun h1 h2 => hz ⟨h1, h2⟩
                have hrr := Lib.hid (show runR l (N : Int) = ((runL N l).1, (runL N l).2, 0) by
                  unfold runR
                  rw [if_neg (by omega)]
                  by_cases hN0 : (N : Int) = 0
                  · obtain rfl : N = 0 := by omega
                    rfl
                  · rw [if_neg hN0, if_neg (hne (by omega)), Int.toNat_natCast])
                have hxl := run_len2 N l
                have hat := Lib.hid (fun j (h : j < N) => run_at l N j h)
                obtain ⟨xs, hxs⟩ : ∃ xs, (runL N l).2 = xs := ⟨_, rfl⟩
                rw [hxs] at hrr hxl hat
                have hne' := Lib.hid hne
                clear hz hxs hne
                by_cases hN : 0 < N
                · have hpos : 0 < l.length := by cases l with | nil => exact absurd rfl (hne'.out hN) | cons => simp
                  have hl0 : ((l.length : Int) == 0) = false := beq_eq_false_iff_ne.mpr (by omega)
                  have hN' : decide ((0 : Int) < (N : Int)) = true := decide_eq_true (by omega)
                  go_enter Try.func19, Try.ntmps19
                  go_wp2_with ((with_reducible refine gate_callee (f := 17) rfl ?_); refine goesL_ (some 137) rfl rfl Try.func17 (by kernel_rfl) rfl #[ptrG G, .int .i64 (N : Int)] rfl (by (try simp only [List.map_toArray, List.map_cons, List.map_nil]); first | done | rfl) ?_; (with_reducible refine (run_calls B G v l (N : Int) _ hgd.out g0.out).mono ?_); rintro e w2 ⟨u, rfl, u2, g2, m2⟩; rw [hrr.out] at u2 g2; obtain ⟨Ax, cx, rfl⟩ := slice_of_own u2; refine ⟨_, rfl, ?_⟩; have x2' := Lib.hid (reads_row u2).1; have g2' := Lib.hid g2; have r2' := Lib.hid (r0.out.mt g0.out m2); have m2' := Lib.hid (m0.out.trans m2 (.inl rfl)); clear d0 d1 d2 d3 d4; have bY := blk_mt bX'.out m2 hne1 hne2; have d0 := bY.cell 0; have d1 := bY.cell 1; have d2 := bY.cell 2; have d3 := bY.cell 3; have d4 := bY.cell 4; simp only [List.getElem?_toArray, List.getElem?_cons_zero, List.getElem?_cons_succ] at d0 d1 d2 d3 d4; have bY' := Lib.hid bY; clear bY; clear u2 g2 m2; simp only [hrr.out])
                  go_loopw [1, 184] (fun lv kv wr => ∃ (k : Nat) (u : Value), u = lv ∧ kv = .int .i64 (k : Int) ∧ k ≤ xs.length ∧ RowR wr u (runL k l).1 ∧ ReadsI wr Ax xs ∧ Grp tG tC B G v (runL N l).1 wr ∧ Mt G v.ownBlock W wr)
                    (fun _ kv _ => xs.length - (intOf kv).toNat)
                  case atStart => exact ⟨0, _, rfl, rfl, Nat.zero_le _, r2'.out, x2'.out, g2'.out, m2'.out⟩
                  case round =>
                    clear d0 d1 d2 d3 d4
                    obtain ⟨k, u, rfl, rfl, hk, hrow, hxr, hgr, hmt⟩ := hrel
                    by_cases hlt : k < xs.length
                    · obtain ⟨z, hz⟩ : ∃ z, xs[k]? = some z := ⟨xs[k], List.getElem?_eq_getElem hlt⟩
                      obtain ⟨ax, rfl, _, p0⟩ := hxr k z hz
                      have hpe : pickR (runL k l).1 = ((pickL (runL k l).1).1, z, 0) := by
                        unfold pickR
                        rw [if_neg (by intro e; have := run_len k l; rw [e] at this; exact hne'.out (by omega) (List.length_eq_zero_iff.1 this.symm)), Option.some.inj ((hat.out k (by omega)).symm.trans hz)]
                      have hpe' := Lib.hid hpe
                      have hone := Lib.hid (run_one l k)
                      have hgk := Lib.hid (run_good' hgd.out k)
                      obtain ⟨Au, cu, rfl⟩ := hrow.slice
                      have hrow' := Lib.hid hrow
                      have hxr' := Lib.hid hxr
                      have hgr' := Lib.hid hgr
                      have hmt' := Lib.hid hmt
                      clear hpe hrow hxr hgr hmt hz
                      go_wp2_with ((with_reducible refine gate_callee (f := 51) rfl ?_); refine goesL_ (some 190) rfl rfl Try.func51 (by kernel_rfl) rfl #[.slice Au (runL k l).1.length cu] rfl (by (try simp only [List.map_toArray, List.map_cons, List.map_nil]); first | done | rfl) ?_; (with_reducible refine (pickD_calls Au cu (runL k l).1 _ hgk.out hrow'.out).mono ?_); rintro e w4 ⟨u4, rfl, r4, b4⟩; rw [hpe'.out] at r4; refine ⟨_, rfl, ?_⟩; have r4' := Lib.hid r4; have x4' := Lib.hid (hxr'.out.below b4); have g4' := Lib.hid (grp_below hgr'.out b4); have m4' := Lib.hid (mt_below hmt'.out b4); clear r4 b4; simp only [hpe'.out])
                      go_roundw
                      case rel => exact ⟨k + 1, _, rfl, by go_num, by omega, by rw [hone.out]; exact r4'.out, x4'.out, g4'.out, m4'.out⟩
                      case measure => simp [intOf]; omega
                    · have hk' : k = xs.length := by omega
                      subst hk'
                      have hrow' := Lib.hid hrow
                      have hgr' := Lib.hid hgr
                      have hmt' := Lib.hid hmt
                      clear hrow hxr hgr hmt
                      go_wp2
                      go_ret2
                      exact ⟨_, rfl, by rw [hpl.out, hrr.out, ← hxl]; exact hrow'.out, ⟨v, by rw [hpl.out, hrr.out]; exact hgr'.out⟩, hmt'.out⟩
                · have hN' : decide ((0 : Int) < (N : Int)) = false := decide_eq_false (by omega)
                  go_enter Try.func19, Try.ntmps19
                  go_wp2_with ((with_reducible refine gate_callee (f := 17) rfl ?_); refine goesL_ (some 137) rfl rfl Try.func17 (by kernel_rfl) rfl #[ptrG G, .int .i64 (N : Int)] rfl (by (try simp only [List.map_toArray, List.map_cons, List.map_nil]); first | done | rfl) ?_; (with_reducible refine (run_calls B G v l (N : Int) _ hgd.out g0.out).mono ?_); rintro e w2 ⟨u, rfl, u2, g2, m2⟩; rw [hrr.out] at u2 g2; obtain ⟨Ax, cx, rfl⟩ := slice_of_own u2; refine ⟨_, rfl, ?_⟩; have x2' := Lib.hid (reads_row u2).1; have g2' := Lib.hid g2; have r2' := Lib.hid (r0.out.mt g0.out m2); have m2' := Lib.hid (m0.out.trans m2 (.inl rfl)); clear d0 d1 d2 d3 d4; have bY := blk_mt bX'.out m2 hne1 hne2; have d0 := bY.cell 0; have d1 := bY.cell 1; have d2 := bY.cell 2; have d3 := bY.cell 3; have d4 := bY.cell 4; simp only [List.getElem?_toArray, List.getElem?_cons_zero, List.getElem?_cons_succ] at d0 d1 d2 d3 d4; have bY' := Lib.hid bY; clear bY; clear u2 g2 m2; simp only [hrr.out])
                  go_loopw [1, 184] (fun lv kv wr => ∃ (k : Nat) (u : Value), u = lv ∧ kv = .int .i64 (k : Int) ∧ k ≤ xs.length ∧ RowR wr u (runL k l).1 ∧ ReadsI wr Ax xs ∧ Grp tG tC B G v (runL N l).1 wr ∧ Mt G v.ownBlock W wr)
                    (fun _ kv _ => xs.length - (intOf kv).toNat)
                  case atStart => exact ⟨0, _, rfl, rfl, Nat.zero_le _, r2'.out, x2'.out, g2'.out, m2'.out⟩
                  case round =>
                    clear d0 d1 d2 d3 d4
                    obtain ⟨k, u, rfl, rfl, hk, hrow, hxr, hgr, hmt⟩ := hrel
                    by_cases hlt : k < xs.length
                    · exfalso; omega
                    · have hk' : k = xs.length := by omega
                      subst hk'
                      have hrow' := Lib.hid hrow
                      have hgr' := Lib.hid hgr
                      have hmt' := Lib.hid hmt
                      clear hrow hxr hgr hmt
                      go_wp2
                      go_ret2
                      exact ⟨_, rfl, by rw [hpl.out, hrr.out, ← hxl]; exact hrow'.out, ⟨v, by rw [hpl.out, hrr.out]; exact hgr'.out⟩, hmt'.out⟩
end Go.Proofs.Ytkcmmghhghgdpaa.Str
