/- (*Group).Join, Leave: their contracts. -/
import Derived.Test.YtkcmmghhghgdpaaStr11
namespace Go.Proofs.Ytkcmmghhghgdpaa.Str
open Go.RowKit Go.Shelf Go.Maps Go.Proofs.Ytkcmmghhghgdpaa.Iter Go.Proofs.Ytkcmmghhghgdpaa.SeqM Go.Proofs.YtkcmmghhghgdpaaW.PrintWords Go.Proofs.YtkcmmghhghgdpaaW.PrintLast
set_option linter.unusedVariables false
set_option linter.unusedSimpArgs false
theorem grp_put {B G : Nat} {v v' : Value} {l l' : List Cl} {n : Nat} {W W' : World} (h : Grp tG tC B G v l W) (hg : W.grownBy W' v.ownBlock) (hr : W'.ownsRow B tC 3 v' n (flat l')) (hn : n = l'.length) : Grp tG tC B G v' l' (W'.setCell ⟨G, 0, none⟩ v') := by
  subst hn
  have hG : Blk W' G tG #[v] := (hg.block G h.lt (fun e => h.ne tGC e.symm)).trans h.blk
  have hne : v'.ownBlock ≠ some G := fun e => by
    obtain ⟨_, _, cur, hc⟩ := own_block hr e
    rw [show W'.heap[G]? = _ from hG] at hc
    injection hc with hc
    injection hc with _ hc _
    exact absurd hc (by decide)
  exact ⟨hG.set 0 v' (by simp), h.base, own_move hr (fun k hk => Below.heap_setCell _ _ _ _ (fun e => hne (by rw [hk, e])))⟩
theorem mt_grown {G : Nat} {r : Option Nat} {W X Y : World} (h : Mt G r W X) (hg : X.grownBy Y r) : Mt G r W Y :=
  ⟨hg.os.trans h.os, hg.tape.trans h.tape, hg.output.trans h.output, Nat.le_trans h.size hg.size, fun k hk h1 h2 => (hg.block k (Nat.lt_of_lt_of_le hk h.size) h2).trans (h.block k hk h1 h2)⟩
theorem ok_bound {l : List Cl} (h : ∀ c ∈ l, okCl c) : ∀ c ∈ l, 0 ≤ c.p ∧ c.p ≤ 1500000 := fun c hc => by
  obtain ⟨k1, k2, k3, k4⟩ := h c hc
  have := sd_nonneg k1 k2
  omega

set_option maxRecDepth 100000 in
set_option maxHeartbeats 4000000 in
theorem join_calls (B G : Nat) (v : Value) (l : List Cl) (id t rem : Int) (W : World) (hgood : GoodG l) (hg : Grp tG tC B G v l W) (hB : B ≤ W.heap.size) :
    Calls Try.prog 16 #[ptrG G, .int .i64 id, .int .i64 t, .int .i64 rem] W fun e W' => e = .returned (.int .i64 (joinL l id t rem).2) ∧ ∃ v', Grp tG tC B G v' (joinL l id t rem).1 W' ∧ Mt G v.ownBlock W W' ∧ (v'.ownBlock = v.ownBlock ∨ ∀ k, v'.ownBlock = some k → W.heap.size ≤ k) := by
  have hF := Lib.hid (find_calls B G v l id W hgood.2.1 hgood.2.2 hg)
  have hg' := Lib.hid hg
  by_cases hh : hasL id l = true
  · have hr := Lib.hid (show joinL l id t rem = (l, 9) from if_pos hh)
    clear hg
    go_enter Try.func16, Try.ntmps16
    go_wp2_with ((with_reducible refine gate_callee (f := 44) rfl ?_); refine goesL_ (some 16) rfl rfl Try.func44 (by kernel_rfl) rfl #[ptrG G, .int .i64 id] rfl (by (try simp only [List.map_toArray, List.map_cons, List.map_nil]); first | done | rfl) ?_; (with_reducible refine (hF.out).mono ?_); rintro e w9 ⟨rfl, hb⟩; refine ⟨_, rfl, ?_⟩; have L := Lib.hid hb; clear hb)
    go_ret
    exact ⟨by rw [hr.out]; rfl, v, by rw [hr.out]; exact grp_below hg'.out L.out, Mt.of_below L.out, .inl rfl⟩
  have hh' : hasL id l = false := by simpa using hh
  by_cases c1 : t < 1
  · have hr := Lib.hid (show joinL l id t rem = (l, 1) by unfold joinL; rw [if_neg hh, if_pos (by omega)])
    clear hg
    go_enter Try.func16, Try.ntmps16
    go_wp2_with ((with_reducible refine gate_callee (f := 44) rfl ?_); refine goesL_ (some 16) rfl rfl Try.func44 (by kernel_rfl) rfl #[ptrG G, .int .i64 id] rfl (by (try simp only [List.map_toArray, List.map_cons, List.map_nil]); first | done | rfl) ?_; (with_reducible refine (hF.out).mono ?_); rintro e w9 ⟨rfl, hb⟩; refine ⟨_, rfl, ?_⟩; have L := Lib.hid hb; clear hb)
    go_ret
    exact ⟨by rw [hr.out]; rfl, v, by rw [hr.out]; exact grp_below hg'.out L.out, Mt.of_below L.out, .inl rfl⟩
  by_cases c2 : 16 < t
  · have hr := Lib.hid (show joinL l id t rem = (l, 1) by unfold joinL; rw [if_neg hh, if_pos (by omega)])
    clear hg
    go_enter Try.func16, Try.ntmps16
    go_wp2_with ((with_reducible refine gate_callee (f := 44) rfl ?_); refine goesL_ (some 16) rfl rfl Try.func44 (by kernel_rfl) rfl #[ptrG G, .int .i64 id] rfl (by (try simp only [List.map_toArray, List.map_cons, List.map_nil]); first | done | rfl) ?_; (with_reducible refine (hF.out).mono ?_); rintro e w9 ⟨rfl, hb⟩; refine ⟨_, rfl, ?_⟩; have L := Lib.hid hb; clear hb)
    go_ret
    exact ⟨by rw [hr.out]; rfl, v, by rw [hr.out]; exact grp_below hg'.out L.out, Mt.of_below L.out, .inl rfl⟩
  by_cases c3 : rem < 0
  · have hr := Lib.hid (show joinL l id t rem = (l, 1) by unfold joinL; rw [if_neg hh, if_pos (by omega)])
    clear hg
    go_enter Try.func16, Try.ntmps16
    go_wp2_with ((with_reducible refine gate_callee (f := 44) rfl ?_); refine goesL_ (some 16) rfl rfl Try.func44 (by kernel_rfl) rfl #[ptrG G, .int .i64 id] rfl (by (try simp only [List.map_toArray, List.map_cons, List.map_nil]); first | done | rfl) ?_; (with_reducible refine (hF.out).mono ?_); rintro e w9 ⟨rfl, hb⟩; refine ⟨_, rfl, ?_⟩; have L := Lib.hid hb; clear hb)
    go_ret
    exact ⟨by rw [hr.out]; rfl, v, by rw [hr.out]; exact grp_below hg'.out L.out, Mt.of_below L.out, .inl rfl⟩
  have hq : Int.tdiv 720720 t = sd t := by unfold sd; exact Int.tdiv_eq_ediv_of_nonneg (by omega)
  have hne : (t == 0) = false := beq_eq_false_iff_ne.mpr (by omega)
  have h0 : ¬ t = 0 := by omega
  have hsd := sd_nonneg (t := t) (by omega) (by omega)
  have hw : IntKind.i64.wrap (sd t) = sd t := IntWalk.i64_in _ (by omega)
  by_cases c4 : sd t < rem
  · have hr := Lib.hid (show joinL l id t rem = (l, 1) by unfold joinL; rw [if_neg hh, if_pos (by omega)])
    clear hg
    go_enter Try.func16, Try.ntmps16
    go_wp2_with ((with_reducible refine gate_callee (f := 44) rfl ?_); refine goesL_ (some 16) rfl rfl Try.func44 (by kernel_rfl) rfl #[ptrG G, .int .i64 id] rfl (by (try simp only [List.map_toArray, List.map_cons, List.map_nil]); first | done | rfl) ?_; (with_reducible refine (hF.out).mono ?_); rintro e w9 ⟨rfl, hb⟩; refine ⟨_, rfl, ?_⟩; have L := Lib.hid hb; clear hb)
    go_ret
    exact ⟨by rw [hr.out]; rfl, v, by rw [hr.out]; exact grp_below hg'.out L.out, Mt.of_below L.out, .inl rfl⟩
  obtain ⟨A, cap, rfl, hcap⟩ : ∃ A c, v = .slice A l.length c ∧ l.length ≤ c := by
    rcases hg.row.2 with ⟨rfl, h0⟩ | ⟨g, cap, cur, rfl, _, _, hc, _⟩
    · exact ⟨none, 0, by rw [h0], by omega⟩
    · exact ⟨_, cap, rfl, hc⟩
  by_cases c5 : l.length = 1024
  · have hr := Lib.hid (show joinL l id t rem = (l, 10) by unfold joinL; rw [if_neg hh, if_neg (by omega), if_pos c5])
    have c5' : (l.length : Int) = 1024 := by omega
    clear hg c5
    go_enter Try.func16, Try.ntmps16
    go_wp2_with ((with_reducible refine gate_callee (f := 44) rfl ?_); refine goesL_ (some 16) rfl rfl Try.func44 (by kernel_rfl) rfl #[ptrG G, .int .i64 id] rfl (by (try simp only [List.map_toArray, List.map_cons, List.map_nil]); first | done | rfl) ?_; (with_reducible refine (hF.out).mono ?_); rintro e w9 ⟨rfl, hb⟩; refine ⟨_, rfl, ?_⟩; have L := Lib.hid hb; clear hb; have hg1 := grp_below hg'.out L.out; have g0 := hg1.cellG; have hg1' := Lib.hid hg1; clear hg1)
    go_ret
    exact ⟨by rw [hr.out]; rfl, _, by rw [hr.out]; exact grp_below hg'.out L.out, Mt.of_below L.out, .inl rfl⟩
  · have hr := Lib.hid (show joinL l id t rem = (levelL (insL ⟨id, t, rem⟩ l), 0) by unfold joinL; rw [if_neg hh, if_neg (by omega), if_neg c5])
    have c5' : ¬ (l.length : Int) = 1024 := by omega
    have hlb := lb_le id l
    have hlen := hgood.2.2
    have hins := Lib.hid (show l.take (lb id l) ++ (⟨id, t, rem⟩ : Cl) :: l.drop (lb id l) = insL ⟨id, t, rem⟩ l from ins_eq ⟨id, t, rem⟩ l hh')
    have hbb := Lib.hid (show ∀ c ∈ insL ⟨id, t, rem⟩ l, 0 ≤ c.p ∧ c.p ≤ 1500000 from ok_bound (fun c hc => by
      rcases ins_mem.1 hc with rfl | hc
      · exact ⟨by show 1 ≤ t; omega, by show t ≤ 16; omega, by show 0 ≤ rem; omega, by show rem ≤ sd t; omega⟩
      · exact hgood.1.1 c hc))
    have hil := ins_len ⟨id, t, rem⟩ l
    have hrb := fun k hk => (own_block hg.row (k := k) hk).2.1
    have hGl := hg.lt
    clear hg hgood hh
    go_enter Try.func16, Try.ntmps16
    go_upto_region 11 with (first | ((with_reducible refine gate_callee (f := 44) rfl ?_); refine goesL_ (some 16) rfl rfl Try.func44 (by kernel_rfl) rfl #[ptrG G, .int .i64 id] rfl (by (try simp only [List.map_toArray, List.map_cons, List.map_nil]); first | done | rfl) ?_; (with_reducible refine (hF.out).mono ?_); rintro e w9 ⟨rfl, hb⟩; refine ⟨_, rfl, ?_⟩; have L := Lib.hid hb; clear hb; have hg1 := grp_below hg'.out L.out; have g0 := hg1.cellG; have hg1' := Lib.hid hg1; clear hg1) | (go_at_call 45; refine (insert_calls B w9.heap.size (lb id l) (.slice A l.length cap) ⟨id, t, rem⟩ l _ (by have := L.out.size; simp; omega) hlb hlen (hg1'.out.alloc (.cells #[.int .i64 id, .int .i64 t, .int .i64 rem] tC)).row (Blk.new w9 tC (cC ⟨id, t, rem⟩).toArray) (fun e => by have := hrb _ e; have := L.out.size; omega)).mono ?_; rintro e w10 ⟨u, rfl, hu, hgr, hub⟩; obtain ⟨g', cap', rfl⟩ := ownsRow_succ hu; have hu' := Lib.hid hu; have hgr' := Lib.hid hgr; have hub' := Lib.hid hub; have gG : Blk w10 G tG #[.slice A l.length cap] := (hgr.block G ((hg1'.out.alloc (.cells #[.int .i64 id, .int .i64 t, .int .i64 rem] tC)).lt) (fun e => (hg1'.out.ne tGC) e.symm)).trans (hg1'.out.alloc (.cells #[.int .i64 id, .int .i64 t, .int .i64 rem] tC)).blk; have gc := gG.cell 0; have gf := gG.frozen 0; try simp only [List.getElem?_toArray, List.getElem?_cons_zero] at gc; clear hu hgr hub gG))
    have hg2 := grp_put (hg1'.out.alloc (.cells #[.int .i64 id, .int .i64 t, .int .i64 rem] tC)) hgr'.out (by rw [← hins.out]; exact hu'.out) hil.symm
    have hM2 := (mt_grown ((Mt.of_below (G := G) (r := (Value.slice A l.length cap).ownBlock) L.out).alloc (.cells #[.int .i64 id, .int .i64 t, .int .i64 rem] tC)) hgr'.out).setG 0 (.slice (some ⟨g', 0, none⟩) (l.length + 1) cap')
    have hub2 := Lib.hid (show (Value.slice (some ⟨g', 0, none⟩) (l.length + 1) cap').ownBlock = (Value.slice A l.length cap).ownBlock ∨ ∀ k, (Value.slice (some ⟨g', 0, none⟩) (l.length + 1) cap').ownBlock = some k → W.heap.size ≤ k from by
      rcases hub'.out with h | h
      · exact .inl h
      · refine .inr fun k hk => ?_
        rw [h] at hk
        have := L.out.size
        simp at hk
        omega)
    have hg2' := Lib.hid hg2
    have hM2' := Lib.hid hM2
    clear hg2 hM2 g0 gc gf
    generalize (World.setCell w10 ⟨G, 0, none⟩ (.slice (some ⟨g', 0, none⟩) (l.length + 1) cap')) = WD at *
    go_wp2_with ((with_reducible refine gate_callee (f := 46) rfl ?_); refine goesL_ (some 60) rfl rfl Try.func46 (by kernel_rfl) rfl #[ptrG G] rfl (by (try simp only [List.map_toArray, List.map_cons, List.map_nil]); first | done | rfl) ?_; (with_reducible refine (level_calls B G _ (insL ⟨id, t, rem⟩ l) _ (by first | assumption | (rw [hil]; omega)) hbb.out hg2'.out).mono ?_); rintro e w13 ⟨⟨rv, rfl⟩, hg4, hM4⟩; refine ⟨_, rfl, ?_⟩; have hg4' := Lib.hid hg4; have hM4' := Lib.hid hM4; clear hg4 hM4)
    go_ret
    exact ⟨by rw [hr.out]; rfl, _, by rw [hr.out]; exact hg4'.out, hM2'.out.trans hM4'.out hub2.out, hub2.out⟩

theorem leave_bound {l : List Cl} (h : GoodG l) (i : Nat) : ∀ c ∈ l.eraseIdx i, 0 ≤ c.p ∧ c.p ≤ 1500000 := ok_bound (fun c hc => h.1.1 c (List.mem_of_mem_eraseIdx hc))
set_option maxRecDepth 100000 in
set_option maxHeartbeats 4000000 in
theorem leave_calls (B G : Nat) (v : Value) (l : List Cl) (id : Int) (W : World) (hgood : GoodG l) (hg : Grp tG tC B G v l W) :
    Calls Try.prog 24 #[ptrG G, .int .i64 id] W fun e W' => e = .returned (.tuple #[.int .i64 (leaveL l id).2.1, .int .i64 (leaveL l id).2.2]) ∧ ∃ v', Grp tG tC B G v' (leaveL l id).1 W' ∧ Mt G v.ownBlock W W' ∧ v'.ownBlock = v.ownBlock := by
  have hF := Lib.hid (find_calls B G v l id W hgood.2.1 hgood.2.2 hg)
  have hg' := Lib.hid hg
  by_cases hh : hasL id l = true
  · have hr := Lib.hid (show leaveL l id = (levelL (l.eraseIdx (lb id l)), (l.getD (lb id l) z0).p, 0) from if_pos hh)
    obtain ⟨c, hc, hce⟩ := has_get hgood.2.1 hh
    have hlt := (List.getElem?_eq_some_iff.1 hc).1
    have hn : l ≠ [] := by intro e; rw [e] at hlt; simp at hlt
    obtain ⟨g, cap, rfl, hlc, hcm⟩ := hg.form hn
    have hlen := hgood.2.2
    have hbb := Lib.hid (leave_bound hgood (lb id l))
    have hpc := Lib.hid (show (l.getD (lb id l) z0).p = c.p by rw [List.getD_eq_getElem?_getD, hc]; rfl)
    have hc' := Lib.hid hc
    have hel : (l.eraseIdx (lb id l)).length ≤ 1024 := by rw [List.length_eraseIdx, if_pos hlt]; omega
    have hw1 : IntKind.i64.wrap ((lb id l : Int) + 1) = (lb id l : Int) + 1 := IntWalk.i64_in _ (by omega)
    clear hg hgood hc hce hn
    go_enter Try.func24, Try.ntmps24
    go_upto_region 8 with (first | ((with_reducible refine gate_callee (f := 44) rfl ?_); refine goesL_ (some 14) rfl rfl Try.func44 (by kernel_rfl) rfl #[ptrG G, .int .i64 id] rfl (by (try simp only [List.map_toArray, List.map_cons, List.map_nil]); first | done | rfl) ?_; (with_reducible refine (hF.out).mono ?_); rintro e w9 ⟨rfl, hb⟩; refine ⟨_, rfl, ?_⟩; have L := Lib.hid hb; clear hb; have hg1 := grp_below hg'.out L.out; have g0 := hg1.cellG; obtain ⟨y0, y1, y2⟩ := hg1.cellR hc'.out; have hg1' := Lib.hid hg1; clear hg1) | (go_at_call 53; refine (delete_calls B g cap (lb id l) l _ hlt hlen hg1'.out.row).mono ?_; rintro e w10 ⟨rfl, hu, hgr⟩; have hu' := Lib.hid hu; have hgr' := Lib.hid hgr; have gG : Blk w10 G tG #[.slice (some ⟨g, 0, none⟩) l.length cap] := (hgr.block G hg1'.out.lt (fun e => (hg1'.out.ne tGC) e.symm)).trans hg1'.out.blk; have gc := gG.cell 0; have gf := gG.frozen 0; try simp only [List.getElem?_toArray, List.getElem?_cons_zero] at gc; clear hu hgr gG))
    have hg2 := grp_put hg1'.out hgr'.out hu'.out rfl
    have hM2 := (mt_grown (Mt.of_below (G := G) (r := some g) L.out) hgr'.out).setG 0 (.slice (some ⟨g, 0, none⟩) (l.length - 1) cap)
    have hg2' := Lib.hid hg2
    have hM2' := Lib.hid hM2
    clear hg2 hM2 g0 gc gf y0 y1 y2
    generalize (World.setCell w10 ⟨G, 0, none⟩ (.slice (some ⟨g, 0, none⟩) (l.length - 1) cap)) = WD at *
    go_wp2_with ((with_reducible refine gate_callee (f := 46) rfl ?_); refine goesL_ (some 39) rfl rfl Try.func46 (by kernel_rfl) rfl #[ptrG G] rfl (by (try simp only [List.map_toArray, List.map_cons, List.map_nil]); first | done | rfl) ?_; (with_reducible refine (level_calls B G _ (l.eraseIdx (lb id l)) _ (by first | assumption | (rw [hil]; omega)) hbb.out hg2'.out).mono ?_); rintro e w13 ⟨⟨rv, rfl⟩, hg4, hM4⟩; refine ⟨_, rfl, ?_⟩; have hg4' := Lib.hid hg4; have hM4' := Lib.hid hM4; clear hg4 hM4)
    go_ret2
    exact ⟨by rw [hr.out, ← hpc.out]; rfl, .slice (some ⟨g, 0, none⟩) (l.length - 1) cap, by rw [hr.out]; exact hg4'.out, hM2'.out.trans hM4'.out (.inl rfl), rfl⟩
  · have hh' : hasL id l = false := by simpa using hh
    have hr := Lib.hid (show leaveL l id = (l, 0, 8) by unfold leaveL; rw [if_neg hh])
    clear hg hh
    go_enter Try.func24, Try.ntmps24
    go_wp2_with ((with_reducible refine gate_callee (f := 44) rfl ?_); refine goesL_ (some 14) rfl rfl Try.func44 (by kernel_rfl) rfl #[ptrG G, .int .i64 id] rfl (by (try simp only [List.map_toArray, List.map_cons, List.map_nil]); first | done | rfl) ?_; (with_reducible refine (hF.out).mono ?_); rintro e w9 ⟨rfl, hb⟩; refine ⟨_, rfl, ?_⟩; have L := Lib.hid hb; clear hb)
    go_ret2
    exact ⟨by rw [hr.out]; rfl, v, by rw [hr.out]; exact grp_below hg'.out L.out, Mt.of_below L.out, rfl⟩
end Go.Proofs.Ytkcmmghhghgdpaa.Str
