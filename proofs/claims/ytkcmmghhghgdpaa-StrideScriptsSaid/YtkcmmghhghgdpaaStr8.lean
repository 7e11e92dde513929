/- (*Group).Change: its contract. -/
import Derived.Test.YtkcmmghhghgdpaaStr7
namespace Go.Proofs.Ytkcmmghhghgdpaa.Str
open Go.RowKit Go.Shelf Go.Maps Go.Proofs.Ytkcmmghhghgdpaa.Iter Go.Proofs.Ytkcmmghhghgdpaa.SeqM Go.Proofs.YtkcmmghhghgdpaaW.PrintWords Go.Proofs.YtkcmmghhghgdpaaW.PrintLast
set_option linter.unusedVariables false
set_option linter.unusedSimpArgs false
theorem mod_change (l : List Cl) (i : Nat) (c : Cl) (t : Int) (h : l[i]? = some c) :
    (l.modify i fun d => { d with p := c.p * c.t / t }).modify i (fun d => { d with t := t }) = l.modify i (changeC t) := by
  apply List.ext_getElem?
  intro j
  rw [List.getElem?_modify, List.getElem?_modify, List.getElem?_modify]
  by_cases e : i = j
  · subst e
    rw [h]
    simp [changeC]
  · simp [e]
theorem change_bound {l : List Cl} {t : Int} (h : GoodG l) (h1 : 1 ≤ t) (h2 : t ≤ 16) (i : Nat) : ∀ c ∈ l.modify i (changeC t), 0 ≤ c.p ∧ c.p ≤ 1500000 := fun c hc => by
  obtain ⟨j, hj⟩ := List.getElem?_of_mem hc
  rw [List.getElem?_modify] at hj
  obtain ⟨d, hd, rfl⟩ := Option.map_eq_some_iff.1 hj
  have hok := h.1.1 d (List.mem_of_getElem? hd)
  split
  · obtain ⟨k1, k2, k3, k4⟩ := change_ok hok h1 h2
    have := sd_nonneg k1 k2
    omega
  · obtain ⟨k1, k2, k3, k4⟩ := hok
    have := sd_nonneg k1 k2
    omega
set_option maxRecDepth 100000 in
set_option maxHeartbeats 4000000 in
theorem change_calls (B G : Nat) (v : Value) (l : List Cl) (id t : Int) (W : World) (hgood : GoodG l) (hg : Grp tG tC B G v l W) :
    Calls Try.prog 25 #[ptrG G, .int .i64 id, .int .i64 t] W fun e W' => e = .returned (.int .i64 (changeL l id t).2) ∧ Grp tG tC B G v (changeL l id t).1 W' ∧ Mt G v.ownBlock W W' := by
  have hF := Lib.hid (find_calls B G v l id W hgood.2.1 hgood.2.2 hg)
  have hg' := Lib.hid hg
  by_cases hh : hasL id l = true
  · by_cases ht : t < 1 ∨ 16 < t
    · have hr := Lib.hid (show changeL l id t = (l, 1) by unfold changeL; rw [if_pos hh, if_pos ht])
      clear hg
      rcases ht with ht | ht
      · go_enter Try.func25, Try.ntmps25
        go_wp2_with ((with_reducible refine gate_callee (f := 44) rfl ?_); refine goesL_ (some 15) rfl rfl Try.func44 (by kernel_rfl) rfl #[ptrG G, .int .i64 id] rfl (by (try simp only [List.map_toArray, List.map_cons, List.map_nil]); first | done | rfl) ?_; (with_reducible refine hF.out.mono ?_); rintro e w9 ⟨rfl, hb⟩; refine ⟨_, rfl, ?_⟩; have L := Lib.hid hb; clear hb)
        go_ret
        exact ⟨by rw [hr.out]; rfl, by rw [hr.out]; exact grp_below hg'.out L.out, Mt.of_below L.out⟩
      · have ht' : ¬ t < 1 := by omega
        go_enter Try.func25, Try.ntmps25
        go_wp2_with ((with_reducible refine gate_callee (f := 44) rfl ?_); refine goesL_ (some 15) rfl rfl Try.func44 (by kernel_rfl) rfl #[ptrG G, .int .i64 id] rfl (by (try simp only [List.map_toArray, List.map_cons, List.map_nil]); first | done | rfl) ?_; (with_reducible refine hF.out.mono ?_); rintro e w9 ⟨rfl, hb⟩; refine ⟨_, rfl, ?_⟩; have L := Lib.hid hb; clear hb)
        go_ret
        exact ⟨by rw [hr.out]; rfl, by rw [hr.out]; exact grp_below hg'.out L.out, Mt.of_below L.out⟩
    · have hr := Lib.hid (show changeL l id t = (levelL (l.modify (lb id l) (changeC t)), 0) by unfold changeL; rw [if_pos hh, if_neg ht])
      have t1 : ¬ t < 1 := by omega
      have t2 : ¬ 16 < t := by omega
      have t3 : ¬ t = 0 := by omega
      have t4 : (t == 0) = false := beq_eq_false_iff_ne.mpr t3
      obtain ⟨c, hc, hce⟩ := has_get hgood.2.1 hh
      have hlt := (List.getElem?_eq_some_iff.1 hc).1
      have hn : l ≠ [] := by intro e; rw [e] at hlt; simp at hlt
      obtain ⟨k1, k2, k3, k4⟩ := hgood.1.1 c (List.mem_of_getElem? hc)
      have hsd := sd_nonneg k1 k2
      have hmul : c.p * c.t ≤ 720720 := by
        have := Int.mul_le_mul_of_nonneg_right k4 (show 0 ≤ c.t by omega)
        have hs : sd c.t * c.t = 720720 := sd_mul k1 k2
        omega
      have hm0 : 0 ≤ c.p * c.t := Int.mul_nonneg k3 (by omega)
      have hw1 : IntKind.i64.wrap (c.p * c.t) = c.p * c.t := IntWalk.i64_in _ (by omega)
      have hw3 : wrap64 (c.p * c.t) = c.p * c.t := by rw [← i64_w]; exact hw1
      have hq0 : 0 ≤ c.p * c.t / t ∧ c.p * c.t / t ≤ 720720 := ⟨Int.ediv_nonneg hm0 (by omega), Int.le_trans (Int.ediv_le_self _ hm0) hmul⟩
      have hq : Int.tdiv (c.p * c.t) t = c.p * c.t / t := Int.tdiv_eq_ediv_of_nonneg hm0
      have hw2 : IntKind.i64.wrap (c.p * c.t / t) = c.p * c.t / t := IntWalk.i64_in _ (by omega)
      have hw4 : wrap64 (c.p * c.t / t) = c.p * c.t / t := by rw [← i64_w]; exact hw2
      obtain ⟨g, cap, rfl, hlc, hcm⟩ := hg.form hn
      have hbb := Lib.hid (change_bound hgood (t := t) (by omega) (by omega) (lb id l))
      have hlen := hgood.2.2
      have hmc := Lib.hid (mod_change l (lb id l) c t hc)
      have hc' := Lib.hid hc
      generalize c.p * c.t / t = Q at *
      clear hg ht hc hce hgood k3 k4 hsd hmul hn
      go_enter Try.func25, Try.ntmps25
      go_upto_region 9 with ((with_reducible refine gate_callee (f := 44) rfl ?_); refine goesL_ (some 15) rfl rfl Try.func44 (by kernel_rfl) rfl #[ptrG G, .int .i64 id] rfl (by (try simp only [List.map_toArray, List.map_cons, List.map_nil]); first | done | rfl) ?_; (with_reducible refine hF.out.mono ?_); rintro e w9 ⟨rfl, hb⟩; refine ⟨_, rfl, ?_⟩; have L := Lib.hid hb; clear hb; have hg1 := grp_below hg'.out L.out; have g0 := hg1.cellG; obtain ⟨y0, y1, y2⟩ := hg1.cellR hc'.out; have hg1' := Lib.hid hg1; clear hg1)
      refine start_ (n := 20) (S := fun w' => w'.cell? ⟨g, lb id l * 3 + 1, none⟩ = some (.int .i64 c.t) ∧ w'.cell? ⟨g, lb id l * 3 + 2, none⟩ = some (.int .i64 c.p)) (ds := [16, 19]) #[false, false, false, false, false, false, false, false, false, false, false, false, false, false, false, false, false, false, false, false] (by kernel_rfl) rfl rfl ⟨y1, y2⟩ (fun hHeld => ?_)
      refine pure_ (i := 0) (N := some 34) (v := ?_) (a' := ?_) #[true, false, false, false, false, false, false, false, false, false, false, false, false, false, false, false, false, false, false, false] rfl rfl (by kernel_rfl) (fun _ _ _ h => h) (Or.inl ⟨by rfl, ?_⟩) ?_ ?_
      rotate_left
      · intro w'
        go_simp
        with_reducible rfl
      rotate_left
      · simp only [Act.put, List.setIfInBounds_toArray, List.set_cons_zero, List.set_cons_succ, i64_w, i32_w]
        rfl
      refine pure_ (i := 1) (N := some 35) (v := ?_) (a' := ?_) #[true, true, false, false, false, false, false, false, false, false, false, false, false, false, false, false, false, false, false, false] rfl rfl (by kernel_rfl) (fun _ _ _ h => h) (Or.inl ⟨by rfl, ?_⟩) ?_ ?_
      rotate_left
      · intro w'
        go_simp
        with_reducible rfl
      rotate_left
      · simp only [Act.put, List.setIfInBounds_toArray, List.set_cons_zero, List.set_cons_succ, i64_w, i32_w]
        rfl
      refine pure_ (i := 2) (N := some 36) (v := ?_) (a' := ?_) #[true, true, true, false, false, false, false, false, false, false, false, false, false, false, false, false, false, false, false, false] rfl rfl (by kernel_rfl) (fun _ _ _ h => h) (Or.inl ⟨by rfl, ?_⟩) ?_ ?_
      rotate_left
      · intro w'
        go_simp
        with_reducible rfl
      rotate_left
      · simp only [Act.put, List.setIfInBounds_toArray, List.set_cons_zero, List.set_cons_succ, i64_w, i32_w]
        rfl
      refine pure_ (i := 3) (N := some 37) (v := ?_) (a' := ?_) #[true, true, true, true, false, false, false, false, false, false, false, false, false, false, false, false, false, false, false, false] rfl rfl (by kernel_rfl) (fun _ _ _ h => h) (Or.inl ⟨by rfl, ?_⟩) ?_ ?_
      rotate_left
      · intro w'
        go_simp
        with_reducible rfl
      rotate_left
      · simp only [Act.put, List.setIfInBounds_toArray, List.set_cons_zero, List.set_cons_succ, i64_w, i32_w]
        rfl
      refine pure_ (i := 4) (N := some 38) (v := ?_) (a' := ?_) #[true, true, true, true, true, false, false, false, false, false, false, false, false, false, false, false, false, false, false, false] rfl rfl (by kernel_rfl) (fun _ _ _ h => h) (Or.inl ⟨by rfl, ?_⟩) ?_ ?_
      rotate_left
      · intro w'
        go_simp
        with_reducible rfl
      rotate_left
      · simp only [Act.put, List.setIfInBounds_toArray, List.set_cons_zero, List.set_cons_succ, i64_w, i32_w]
        rfl
      refine take_ (i := 5) (N := some 39) (v := ?_) (a' := ?_) #[true, true, true, true, true, true, false, false, false, false, false, false, false, false, false, false, false, false, false, false] rfl rfl (by kernel_rfl) (fun _ _ _ h => h) (Or.inl ⟨by rfl, ?_⟩) hHeld ?_ ?_
      rotate_left
      · rintro w' ⟨s0, s1⟩
        go_simp
        with_reducible rfl
      rotate_left
      · simp only [Act.put, List.setIfInBounds_toArray, List.set_cons_zero, List.set_cons_succ, i64_w, i32_w]
        rfl
      refine pure_ (i := 6) (N := some 40) (v := ?_) (a' := ?_) #[true, true, true, true, true, true, true, false, false, false, false, false, false, false, false, false, false, false, false, false] rfl rfl (by kernel_rfl) (fun _ _ _ h => h) (Or.inl ⟨by rfl, ?_⟩) ?_ ?_
      rotate_left
      · intro w'
        go_simp
        with_reducible rfl
      rotate_left
      · simp only [Act.put, List.setIfInBounds_toArray, List.set_cons_zero, List.set_cons_succ, i64_w, i32_w]
        rfl
      refine pure_ (i := 7) (N := some 41) (v := ?_) (a' := ?_) #[true, true, true, true, true, true, true, true, false, false, false, false, false, false, false, false, false, false, false, false] rfl rfl (by kernel_rfl) (fun _ _ _ h => h) (Or.inl ⟨by rfl, ?_⟩) ?_ ?_
      rotate_left
      · intro w'
        go_simp
        with_reducible rfl
      rotate_left
      · simp only [Act.put, List.setIfInBounds_toArray, List.set_cons_zero, List.set_cons_succ, i64_w, i32_w]
        rfl
      refine pure_ (i := 8) (N := some 42) (v := ?_) (a' := ?_) #[true, true, true, true, true, true, true, true, true, false, false, false, false, false, false, false, false, false, false, false] rfl rfl (by kernel_rfl) (fun _ _ _ h => h) (Or.inl ⟨by rfl, ?_⟩) ?_ ?_
      rotate_left
      · intro w'
        go_simp
        with_reducible rfl
      rotate_left
      · simp only [Act.put, List.setIfInBounds_toArray, List.set_cons_zero, List.set_cons_succ, i64_w, i32_w]
        rfl
      refine take_ (i := 9) (N := some 43) (v := ?_) (a' := ?_) #[true, true, true, true, true, true, true, true, true, true, false, false, false, false, false, false, false, false, false, false] rfl rfl (by kernel_rfl) (fun _ _ _ h => h) (Or.inl ⟨by rfl, ?_⟩) hHeld ?_ ?_
      rotate_left
      · rintro w' ⟨s0, s1⟩
        go_simp
        with_reducible rfl
      rotate_left
      · simp only [Act.put, List.setIfInBounds_toArray, List.set_cons_zero, List.set_cons_succ, i64_w, i32_w]
        rfl
      refine pure_ (i := 10) (N := some 44) (v := ?_) (a' := ?_) #[true, true, true, true, true, true, true, true, true, true, true, false, false, false, false, false, false, false, false, false] rfl rfl (by kernel_rfl) (fun _ _ _ h => h) (Or.inl ⟨by rfl, ?_⟩) ?_ ?_
      rotate_left
      · intro w'
        go_simp
        with_reducible rfl
      rotate_left
      · simp only [Act.put, List.setIfInBounds_toArray, List.set_cons_zero, List.set_cons_succ, i64_w, i32_w]
        rfl
      refine pure_ (i := 11) (N := some 45) (v := ?_) (a' := ?_) #[true, true, true, true, true, true, true, true, true, true, true, true, false, false, false, false, false, false, false, false] rfl rfl (by kernel_rfl) (fun _ _ _ h => h) (Or.inl ⟨by rfl, ?_⟩) ?_ ?_
      rotate_left
      · intro w'
        go_simp
        with_reducible rfl
      rotate_left
      · simp only [Act.put, List.setIfInBounds_toArray, List.set_cons_zero, List.set_cons_succ, i64_w, i32_w]
        rfl
      refine pure_ (i := 12) (N := some 46) (v := ?_) (a' := ?_) #[true, true, true, true, true, true, true, true, true, true, true, true, true, false, false, false, false, false, false, false] rfl rfl (by kernel_rfl) (fun _ _ _ h => h) (Or.inl ⟨by rfl, ?_⟩) ?_ ?_
      rotate_left
      · intro w'
        go_simp
        with_reducible rfl
      rotate_left
      · simp only [Act.put, List.setIfInBounds_toArray, List.set_cons_zero, List.set_cons_succ, i64_w, i32_w]
        rfl
      refine pure_ (i := 13) (N := some 47) (v := ?_) (a' := ?_) #[true, true, true, true, true, true, true, true, true, true, true, true, true, true, false, false, false, false, false, false] rfl rfl (by kernel_rfl) (fun _ _ _ h => h) (Or.inl ⟨by rfl, ?_⟩) ?_ ?_
      rotate_left
      · intro w'
        go_simp
        with_reducible rfl
      rotate_left
      · simp only [Act.put, List.setIfInBounds_toArray, List.set_cons_zero, List.set_cons_succ, i64_w, i32_w]
        rfl
      refine pure_ (i := 14) (N := some 48) (v := ?_) (a' := ?_) #[true, true, true, true, true, true, true, true, true, true, true, true, true, true, true, false, false, false, false, false] rfl rfl (by kernel_rfl) (fun _ _ _ h => h) (Or.inl ⟨by rfl, ?_⟩) ?_ ?_
      rotate_left
      · intro w'
        go_simp
        with_reducible rfl
      rotate_left
      · simp only [Act.put, List.setIfInBounds_toArray, List.set_cons_zero, List.set_cons_succ, i64_w, i32_w]
        rfl
      refine pure_ (i := 15) (N := some 49) (v := ?_) (a' := ?_) #[true, true, true, true, true, true, true, true, true, true, true, true, true, true, true, true, false, false, false, false] rfl rfl (by kernel_rfl) (fun _ _ _ h => h) (Or.inl ⟨by rfl, ?_⟩) ?_ ?_
      rotate_left
      · intro w'
        go_simp
        with_reducible rfl
      rotate_left
      · simp only [Act.put, List.setIfInBounds_toArray, List.set_cons_zero, List.set_cons_succ, i64_w, i32_w]
        rfl
      refine last_ (i := 16) (N := none) #[true, true, true, true, true, true, true, true, true, true, true, true, true, true, true, true, true, false, false, false] rfl rfl (by kernel_rfl) (by decide) (fun K hK => ?_)
      have q1 := hHeld.1
      have q2 := hHeld.2
      have tf := hg1'.out.drew.frozenR (lb id l * 3 + 2)
      refine skip_ (w1 := ?_) (by rfl) rfl ?_ ?_
      rotate_left
      · go_simp
        rfl
      refine hK.out _ _ ?_
      clear hK K
      refine pure_ (i := 17) (N := some 50) (v := ?_) (a' := ?_) #[true, true, true, true, true, true, true, true, true, true, true, true, true, true, true, true, true, true, false, false] rfl rfl (by kernel_rfl) (fun _ _ _ h => h) (Or.inl ⟨by rfl, ?_⟩) ?_ ?_
      rotate_left
      · intro w'
        go_simp
        with_reducible rfl
      rotate_left
      · simp only [Act.put, List.setIfInBounds_toArray, List.set_cons_zero, List.set_cons_succ, i64_w, i32_w]
        rfl
      refine pure_ (i := 18) (N := some 51) (v := ?_) (a' := ?_) #[true, true, true, true, true, true, true, true, true, true, true, true, true, true, true, true, true, true, true, false] rfl rfl (by kernel_rfl) (fun _ _ _ h => h) (Or.inl ⟨by rfl, ?_⟩) ?_ ?_
      rotate_left
      · intro w'
        go_simp
        with_reducible rfl
      rotate_left
      · simp only [Act.put, List.setIfInBounds_toArray, List.set_cons_zero, List.set_cons_succ, i64_w, i32_w]
        rfl
      refine last_ (i := 19) (N := none) #[true, true, true, true, true, true, true, true, true, true, true, true, true, true, true, true, true, true, true, true] rfl rfl (by kernel_rfl) (by decide) (fun K hK => ?_)
      have q3 := (World.cell?_setCell_other w9.drew ⟨g, lb id l * 3 + 2, none⟩ ⟨g, lb id l * 3 + 1, none⟩ (.int .i64 Q) (by simp)).trans hHeld.1
      have tf2 := hg1'.out.frozenR (lb id l * 3 + 1)
      refine skip_ (w1 := ?_) (by rfl) rfl ?_ ?_
      rotate_left
      · go_simp
        rfl
      refine hK.out _ _ ?_
      clear hK K
      refine done_ (by kernel_rfl) ?_
      have hg3 := ((hg1'.out.setP tGC (lb id l) Q).setT tGC (lb id l) t).drew
      rw [hmc.out] at hg3
      have hM3 := (((Mt.of_below (G := G) (r := some g) L.out).setR (lb id l * 3 + 2) (.int .i64 Q)).setR (lb id l * 3 + 1) (.int .i64 t)).drew
      have hg3' := Lib.hid hg3
      have hM3' := Lib.hid hM3
      clear hHeld y0 y1 y2 hg3 hM3
      generalize ((World.setCell (World.setCell w9 ⟨g, lb id l * 3 + 2, none⟩ (.int .i64 Q)) ⟨g, lb id l * 3 + 1, none⟩ (.int .i64 t))).drew = WD at *
      go_wp2_with ((with_reducible refine gate_callee (f := 46) rfl ?_); refine goesL_ (some 53) rfl rfl Try.func46 (by kernel_rfl) rfl #[ptrG G] rfl (by (try simp only [List.map_toArray, List.map_cons, List.map_nil]); first | done | rfl) ?_; (with_reducible refine (level_calls B G _ (l.modify (lb id l) (changeC t)) _ (by rw [List.length_modify]; exact hlen) hbb.out hg3'.out).mono ?_); rintro e w13 ⟨⟨rv, rfl⟩, hg4, hM4⟩; refine ⟨_, rfl, ?_⟩; have hg4' := Lib.hid hg4; have hM4' := Lib.hid hM4; clear hg4 hM4)
      go_ret
      exact ⟨by rw [hr.out]; rfl, by rw [hr.out]; exact hg4'.out, hM3'.out.trans hM4'.out (.inl rfl)⟩
  · have hh' : hasL id l = false := by simpa using hh
    have hr := Lib.hid (show changeL l id t = (l, 8) by unfold changeL; rw [if_neg hh])
    clear hg hh
    go_enter Try.func25, Try.ntmps25
    go_wp2_with ((with_reducible refine gate_callee (f := 44) rfl ?_); refine goesL_ (some 15) rfl rfl Try.func44 (by kernel_rfl) rfl #[ptrG G, .int .i64 id] rfl (by (try simp only [List.map_toArray, List.map_cons, List.map_nil]); first | done | rfl) ?_; (with_reducible refine hF.out.mono ?_); rintro e w9 ⟨rfl, hb⟩; refine ⟨_, rfl, ?_⟩; have L := Lib.hid hb; clear hb)
    go_ret
    exact ⟨by rw [hr.out]; rfl, by rw [hr.out]; exact grp_below hg'.out L.out, Mt.of_below L.out⟩
end Go.Proofs.Ytkcmmghhghgdpaa.Str
