/- (*Group).level: its contract. -/
import Derived.Test.YtkcmmghhghgdpaaStr1
namespace Go.Proofs.Ytkcmmghhghgdpaa.Str
open Go.RowKit Go.Shelf Go.Maps Go.Proofs.Ytkcmmghhghgdpaa.Iter Go.Proofs.YtkcmmghhghgdpaaW.PrintWords Go.Proofs.YtkcmmghhghgdpaaW.PrintLast
set_option linter.unusedVariables false
set_option linter.unusedSimpArgs false
theorem tGC : tG ≠ tC := by decide
theorem level_nil : levelL [] = [] := rfl
set_option maxRecDepth 100000 in
set_option maxHeartbeats 4000000 in
theorem level_calls (B G : Nat) (v : Value) (l : List Cl) (W : World) (hlen : l.length ≤ 1024) (hp : ∀ c ∈ l, 0 ≤ c.p ∧ c.p ≤ 1500000) (hg : Grp tG tC B G v l W) :
    Calls Try.prog 46 #[ptrG G] W fun e W' => (∃ x, e = .returned x) ∧ Grp tG tC B G v (levelL l) W' ∧ Mt G v.ownBlock W W' := by
  by_cases hn : l = []
  · subst hn
    have g0 := hg.cellG
    have hvl : ∃ A c, v = .slice A 0 c := by
      rcases hg.row.2 with ⟨rfl, _⟩ | ⟨g, cap, cur, rfl, _⟩
      · exact ⟨_, _, rfl⟩
      · exact ⟨_, _, rfl⟩
    obtain ⟨A, c, rfl⟩ := hvl
    have hg' := Lib.hid hg
    clear hg
    go_enter Try.func46, Try.ntmps46
    go_wp2
    refine bodyPost_ret (results_none rfl _ _ _) rfl ?_
    exact ⟨⟨_, rfl⟩, hg'.out, Mt.refl _ _ _⟩
  · obtain ⟨g, cap, rfl, hc1, hc2⟩ := hg.form hn
    have hpos : 0 < l.length := by cases l with | nil => exact absurd rfl hn | cons => simp
    obtain ⟨cf, hcf, hcl⟩ := first_least hn
    have g0 := hg.cellG
    obtain ⟨_, _, g2⟩ := hg.cellR hcf
    rw [hcl] at g2
    have hcfm := hp cf (List.mem_of_getElem? hcf)
    rw [hcl] at hcfm
    have hfl := (List.getElem?_eq_some_iff.1 hcf).1
    have hg' := Lib.hid hg
    have hpos2 : ¬ (l.length : Int) = 0 := by omega
    have x0 : decide ((l.length : Int) = 0) = false := decide_eq_false (by omega)
    have x1 : ((l.length : Int) == 0) = false := beq_eq_false_iff_ne.mpr (by omega)
    have hp' := Lib.hid hp
    have hall := Lib.hid (lvl_all l)
    clear hg hp hcl hcf
    generalize leastP l = m at *
    have hn' := Lib.hid hn
    clear hn
    go_enter Try.func46, Try.ntmps46
    go_wp2
    refine start_ (n := 10) (S := fun w' => w'.cell? ⟨G, 0, none⟩ = some (.slice (some ⟨g, 0, none⟩) l.length cap) ∧ w'.cell? ⟨g, firstL l * 3 + 2, none⟩ = some (.int .i64 m)) (ds := []) #[false, false, false, false, false, false, false, false, false, false] (by kernel_rfl) rfl rfl ⟨g0, g2⟩ (fun hHeld => ?_)
    refine pure_ (i := 0) (N := some 10) (v := ?_) (a' := ?_) #[true, false, false, false, false, false, false, false, false, false] rfl rfl (by kernel_rfl) (fun _ _ _ h => h) (Or.inl ⟨by rfl, ?_⟩) ?_ ?_
    rotate_left
    · intro w'
      go_simp
      with_reducible rfl
    rotate_left
    · simp only [Act.put, List.setIfInBounds_toArray, List.set_cons_zero, List.set_cons_succ, i64_w, i32_w]
      rfl
    refine pure_ (i := 1) (N := some 11) (v := ?_) (a' := ?_) #[true, true, false, false, false, false, false, false, false, false] rfl rfl (by kernel_rfl) (fun _ _ _ h => h) (Or.inl ⟨by rfl, ?_⟩) ?_ ?_
    rotate_left
    · intro w'
      go_simp
      with_reducible rfl
    rotate_left
    · simp only [Act.put, List.setIfInBounds_toArray, List.set_cons_zero, List.set_cons_succ, i64_w, i32_w]
      rfl
    refine pure_ (i := 2) (N := some 12) (v := ?_) (a' := ?_) #[true, true, true, false, false, false, false, false, false, false] rfl rfl (by kernel_rfl) (fun _ _ _ h => h) (Or.inl ⟨by rfl, ?_⟩) ?_ ?_
    rotate_left
    · intro w'
      go_simp
      with_reducible rfl
    rotate_left
    · simp only [Act.put, List.setIfInBounds_toArray, List.set_cons_zero, List.set_cons_succ, i64_w, i32_w]
      rfl
    refine take_ (i := 3) (N := some 13) (v := ?_) (a' := ?_) #[true, true, true, true, false, false, false, false, false, false] rfl rfl (by kernel_rfl) (fun _ _ _ h => h) (Or.inl ⟨by rfl, ?_⟩) hHeld ?_ ?_
    rotate_left
    · rintro w' ⟨s0, s1⟩
      go_simp
      with_reducible rfl
    rotate_left
    · simp only [Act.put, List.setIfInBounds_toArray, List.set_cons_zero, List.set_cons_succ, i64_w, i32_w]
      rfl
    refine pure_ (i := 4) (N := some 14) (v := ?_) (a' := ?_) #[true, true, true, true, true, false, false, false, false, false] rfl rfl (by kernel_rfl) (fun _ _ _ h => h) (Or.inl ⟨by rfl, ?_⟩) ?_ ?_
    rotate_left
    · intro w'
      go_simp
      with_reducible rfl
    rotate_left
    · simp only [Act.put, List.setIfInBounds_toArray, List.set_cons_zero, List.set_cons_succ, i64_w, i32_w]
      rfl
    refine one_ (i := 5) (N := some 15) #[true, true, true, true, true, true, false, false, false, false] rfl rfl (by kernel_rfl) (by decide) (fun K hK => ?_)
    refine goes_ Try.func77 (by kernel_rfl) rfl #[ptrG G] (by rfl) rfl rfl (by (try simp only [List.map_toArray, List.map_cons, List.map_nil]); first | done | rfl) ?_
    with_reducible refine (first_calls B G g cap l _ hn'.out hlen hg'.out.drew).mono ?_
    rintro e w11 ⟨rfl, hb⟩
    refine ⟨_, rfl, ?_⟩
    refine hK.out _ _ ⟨(hb.cell (World.block_lt_of_cell? _ _ hHeld.1)).trans hHeld.1, (hb.cell (World.block_lt_of_cell? _ _ hHeld.2)).trans hHeld.2⟩ (fun hHeld => ?_)
    clear hK K
    refine norm_ (a' := ?_) ?_ ?_
    rotate_left
    · show Act.put _ (some 15) _ = _
      simp only [Act.put, List.setIfInBounds_toArray, List.set_cons_zero, List.set_cons_succ, i64_w, i32_w]
      rfl
    refine pure_ (i := 6) (N := some 16) (v := ?_) (a' := ?_) #[true, true, true, true, true, true, true, false, false, false] rfl rfl (by kernel_rfl) (fun _ _ _ h => h) (Or.inl ⟨by rfl, ?_⟩) ?_ ?_
    rotate_left
    · intro w'
      go_simp
      with_reducible rfl
    rotate_left
    · simp only [Act.put, List.setIfInBounds_toArray, List.set_cons_zero, List.set_cons_succ, i64_w, i32_w]
      rfl
    refine pure_ (i := 7) (N := some 17) (v := ?_) (a' := ?_) #[true, true, true, true, true, true, true, true, false, false] rfl rfl (by kernel_rfl) (fun _ _ _ h => h) (Or.inl ⟨by rfl, ?_⟩) ?_ ?_
    rotate_left
    · intro w'
      go_simp
      with_reducible rfl
    rotate_left
    · simp only [Act.put, List.setIfInBounds_toArray, List.set_cons_zero, List.set_cons_succ, i64_w, i32_w]
      rfl
    refine take_ (i := 8) (N := some 18) (v := ?_) (a' := ?_) #[true, true, true, true, true, true, true, true, true, false] rfl rfl (by kernel_rfl) (fun _ _ _ h => h) (Or.inl ⟨by rfl, ?_⟩) hHeld ?_ ?_
    rotate_left
    · rintro w' ⟨s0, s1⟩
      go_simp
      with_reducible rfl
    rotate_left
    · simp only [Act.put, List.setIfInBounds_toArray, List.set_cons_zero, List.set_cons_succ, i64_w, i32_w]
      rfl
    refine pure_ (i := 9) (N := some 2) (v := ?_) (a' := ?_) #[true, true, true, true, true, true, true, true, true, true] rfl rfl (by kernel_rfl) (fun _ _ _ h => h) (Or.inl ⟨by rfl, ?_⟩) ?_ ?_
    rotate_left
    · intro w'
      go_simp
      with_reducible rfl
    rotate_left
    · simp only [Act.put, List.setIfInBounds_toArray, List.set_cons_zero, List.set_cons_succ, i64_w, i32_w]
      rfl
    refine done_ (by kernel_rfl) ?_
    have hg1 := grp_below hg'.out.drew hb
    have hM1 : Mt G (some g) W w11 := (Mt.of_below (show Below W.heap.size W w11 from ⟨hb.os, hb.tape, hb.output, hb.size, hb.block⟩))
    have z0 := hHeld.1
    have hg1' := Lib.hid hg1
    have hM1' := Lib.hid hM1
    clear hHeld hb g0 g2 hg1 hM1
    go_wp2
    go_loopw [24] (fun iv wr => ∃ (i : Nat), iv = .int .i64 (i : Int) ∧ i ≤ l.length ∧ Grp tG tC B G (.slice (some ⟨g, 0, none⟩) l.length cap) (lvl m i l) wr ∧ Mt G (some g) W wr)
      (fun iv _ => l.length - (intOf iv).toNat)
    case atStart => exact ⟨0, rfl, Nat.zero_le _, by rw [lvl_zero]; exact hg1'.out, hM1'.out⟩
    case round =>
      obtain ⟨i, rfl, hi, hgr, hM⟩ := hrel
      clear z0
      by_cases hlt : i < l.length
      · obtain ⟨c, hc⟩ : ∃ c, l[i]? = some c := ⟨l[i], List.getElem?_eq_getElem hlt⟩
        have hcb := hp'.out c (List.mem_of_getElem? hc)
        have z0 := hgr.cellG
        obtain ⟨_, _, z2⟩ := hgr.cellR (lvl_get (m := m) hc)
        have zf := hgr.frozenR (i * 3 + 2)
        have hset := hgr.setP tGC i (c.p - m)
        rw [lvl_step hc] at hset
        have hset' := Lib.hid hset
        have hM' := Lib.hid (hM.setR (i * 3 + 2) (.int .i64 (c.p - m)))
        have hw : IntKind.i64.wrap (c.p - m) = c.p - m := IntWalk.i64_in _ (by omega)
        clear hset hgr hM hc
        go_wp2
        go_roundw
        case rel => exact ⟨i + 1, by go_num, by omega, hset'.out, hM'.out⟩
        case measure => simp [intOf]; omega
      · have hi' : i = l.length := by omega
        subst hi'
        rw [hall.out] at hgr
        have hgr' := Lib.hid hgr
        have hM' := Lib.hid hM
        clear hgr hM
        go_wp2
        first | go_ret | go_end0 | skip
        all_goals (try exact ⟨⟨_, rfl⟩, hgr'.out, hM'.out⟩)
end Go.Proofs.Ytkcmmghhghgdpaa.Str
