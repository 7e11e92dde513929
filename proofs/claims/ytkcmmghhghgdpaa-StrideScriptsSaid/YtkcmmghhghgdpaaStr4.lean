/- (*Group).quanta: the iterator's contract. -/
import Derived.Test.YtkcmmghhghgdpaaStr3
import Derived.Test.YtkcmmghhghgdpaaSeqM
import Derived.Deep.LoopGhost
namespace Go.Proofs.Ytkcmmghhghgdpaa.Str
open Go.RowKit Go.Shelf Go.Maps Go.Proofs.Ytkcmmghhghgdpaa.Iter Go.Proofs.Ytkcmmghhghgdpaa.SeqM Go.Proofs.YtkcmmghhghgdpaaW.PrintWords Go.Proofs.YtkcmmghhghgdpaaW.PrintLast
set_option linter.unusedVariables false
set_option linter.unusedSimpArgs false
/-- The group's state, between two quanta. -/
structure StQ (QB B G : Nat) (v : Value) (l : List Cl) (W : World) : Prop where
  good : GoodG l
  box : Blk W QB 24 #[ptrG G]
  grp : Grp tG tC B G v l W
def MuQ (G : Nat) (v : Value) (A B : World) : Prop := Mt G v.ownBlock A B ∧ KeepsOthers A B
def KpQ (QB G : Nat) (v : Value) (A B : World) : Prop := B.heap[QB]? = A.heap[QB]? ∧ B.heap[G]? = A.heap[G]? ∧ ∀ k, v.ownBlock = some k → B.heap[k]? = A.heap[k]?
def stepQ (l : List Cl) : Option (Int × List Cl) := if l = [] then none else some ((pickL l).2, (pickL l).1)
theorem StQ.kept {QB B G : Nat} {v : Value} {l : List Cl} {W W' : World} (h : StQ QB B G v l W) (hk : KpQ QB G v W W') : StQ QB B G v l W' := ⟨h.good, hk.1.trans h.box, h.grp.move hk.2.1 hk.2.2⟩
theorem modify_bump (l : List Cl) (i : Nat) (c : Cl) (hc : l[i]? = some c) : (l.modify i fun d => { d with p := c.p + sd c.t }) = l.modify i bump := by
  apply List.ext_getElem?
  intro j
  rw [List.getElem?_modify, List.getElem?_modify]
  by_cases e : i = j
  · subst e
    rw [hc]
    simp [bump]
  · simp [e]
theorem bump_bound {l : List Cl} (h : GoodG l) (i : Nat) : ∀ c ∈ l.modify i bump, 0 ≤ c.p ∧ c.p ≤ 1500000 := by
  intro c hc
  obtain ⟨j, hj⟩ := List.getElem?_of_mem hc
  rw [List.getElem?_modify] at hj
  obtain ⟨d, hd, he⟩ := Option.map_eq_some_iff.1 hj
  obtain ⟨k1, k2, k3, k4⟩ := h.1.1 d (List.mem_of_getElem? hd)
  have := sd_nonneg k1 k2
  split at he
  · subst he
    show 0 ≤ d.p + sd d.t ∧ d.p + sd d.t ≤ 1500000
    omega
  · subst he
    omega
theorem Mt.others {B G : Nat} {v : Value} {l : List Cl} {W W' : World} (h : Mt G v.ownBlock W W') (hg : Grp tG tC B G v l W) : KeepsOthers W W' :=
  ⟨h.size, fun k o hk ho => by
    have hl := (Array.getElem?_eq_some_iff.1 hk).1
    rw [← hk]
    refine h.block k hl (fun e => ?_) (fun e => ?_)
    · subst e
      rw [hg.blk] at hk
      cases hk
      cases ho
    · obtain ⟨_, _, cur, hc⟩ := own_block hg.row e.symm
      rw [hc] at hk
      cases hk
      cases ho⟩
set_option maxRecDepth 100000 in
set_option maxHeartbeats 8000000 in
theorem quanta_seq (m QB B G : Nat) (v : Value) (l0 : List Cl) (N : Nat) (W : World) (hst : StQ QB B G v l0 W) :
    SeqM Fence.wide m Try.prog 78 #[.pointer (some ⟨QB, 0, none⟩)] (fun id : Int => #[.int .i64 id]) stepQ (StQ QB B G v) (MuQ G v) (KpQ QB G v) N l0 W := by
  intro ll J Jx hJ hJN hY h0
  refine callsIn_wide.2 ?_
  go_enter Try.func78, Try.ntmps78
  go_wp2
  go_loopg [] N (fun kq wr => ∃ (pre : List Int) (s : List Cl), Aside0 (StQ QB B G v s wr) ∧ Aside0 (J pre s wr) ∧ Aside0 (N ≤ kq + pre.length))
  case atStart => exact ⟨[], l0, ⟨hst⟩, ⟨h0⟩, ⟨by simp⟩⟩
  case round =>
    clear hst h0
    obtain ⟨pre, s, HS, HJ, HN⟩ := hrel
    have hst := HS.out
    have b0 := hst.box.cell 0
    simp only [List.getElem?_toArray, List.getElem?_cons_zero] at b0
    have g0 := hst.grp.cellG
    by_cases hs : s = []
    · subst hs
      have hvl : ∃ A c, v = .slice A 0 c := by
        rcases hst.grp.row.2 with ⟨rfl, _⟩ | ⟨g, cap, cur, rfl, _⟩
        · exact ⟨_, _, rfl⟩
        · exact ⟨_, _, rfl⟩
      obtain ⟨A, c, rfl⟩ := hvl
      clear hst
      go_wp2
      refine bodyPost_end (results_none rfl _ _ _) rfl ?_
      exact ⟨⟨_, rfl⟩, pre, [], HS.out, .inl ⟨rfl, HJ.out⟩⟩
    · cases gk with
      | zero => exact absurd (hJN _ _ _ HJ.out) (by have := HN.out; omega)
      | succ k1 =>
        obtain ⟨g, cap, rfl, hc1, hc2⟩ := hst.grp.form hs
        have hgood := hst.good
        have hpos : 0 < s.length := by cases s with | nil => exact absurd rfl hs | cons => simp
        have hlen : s.length ≤ 1024 := hgood.2.2
        obtain ⟨hfl, _⟩ := firstL_spec hs
        obtain ⟨c, hc⟩ : ∃ c, s[firstL s]? = some c := ⟨s[firstL s], List.getElem?_eq_getElem hfl⟩
        obtain ⟨z0, z1, z2⟩ := hst.grp.cellR hc
        obtain ⟨k1', k2', k3', k4'⟩ := hgood.1.1 c (List.mem_of_getElem? hc)
        have hsd := sd_nonneg k1' k2'
        have hstep : stepQ s = some ((pickL s).2, (pickL s).1) := by unfold stepQ; rw [if_neg hs]
        have hpid : (pickL s).2 = c.id := by show (s.getD (firstL s) ⟨0, 0, 0⟩).id = c.id; rw [List.getD_eq_getElem?_getD, hc]; rfl
        have hpl : (pickL s).1 = levelL (s.modify (firstL s) bump) := rfl
        have hmb := modify_bump s (firstL s) c hc
        have x0 : decide (0 < (s.length : Int)) = true := decide_eq_true (by omega)
        have hpos2 : 0 < (s.length : Int) := by omega
        have hfl2 : firstL s < s.length := hfl
        have hwp : IntKind.i64.wrap (c.p + sd c.t) = c.p + sd c.t := IntWalk.i64_in _ (by omega)
        have hfz := hst.grp.frozenR (firstL s * 3 + 2)
        have hbb := Lib.hid (bump_bound hgood (firstL s))
        have hst' := Lib.hid hst
        have hstep' := Lib.hid hstep
        have hpid' := Lib.hid hpid
        have hpl' := Lib.hid hpl
        have hmb' := Lib.hid hmb
        have hgood' := Lib.hid hgood
        have hs' := Lib.hid hs
        have hc' := Lib.hid hc
        have hHN := HN.out
        clear hst hstep hpid hpl hmb hgood hs hc k3' k4' HN
        go_wp2
        refine start_ (n := 8) (S := fun w' => w'.cell? ⟨QB, 0, none⟩ = some (ptrG G) ∧ w'.cell? ⟨G, 0, none⟩ = some (.slice (some ⟨g, 0, none⟩) s.length cap)) (ds := []) #[false, false, false, false, false, false, false, false] (by kernel_rfl) rfl rfl ⟨b0, g0⟩ (fun hHeld => ?_)
        refine take_ (i := 0) (N := some 11) (v := ?_) (a' := ?_) #[true, false, false, false, false, false, false, false] rfl rfl (by kernel_rfl) (fun _ _ _ h => h) (Or.inl ⟨by rfl, ?_⟩) hHeld ?_ ?_
        rotate_left
        · rintro w' ⟨s0, s1⟩
          go_simp
          with_reducible rfl
        rotate_left
        · simp only [Act.put, List.setIfInBounds_toArray, List.set_cons_zero, List.set_cons_succ, i64_w, i32_w]
          rfl
        refine pure_ (i := 1) (N := some 12) (v := ?_) (a' := ?_) #[true, true, false, false, false, false, false, false] rfl rfl (by kernel_rfl) (fun _ _ _ h => h) (Or.inl ⟨by rfl, ?_⟩) ?_ ?_
        rotate_left
        · intro w'
          go_simp
          with_reducible rfl
        rotate_left
        · simp only [Act.put, List.setIfInBounds_toArray, List.set_cons_zero, List.set_cons_succ, i64_w, i32_w]
          rfl
        refine pure_ (i := 2) (N := some 13) (v := ?_) (a' := ?_) #[true, true, true, false, false, false, false, false] rfl rfl (by kernel_rfl) (fun _ _ _ h => h) (Or.inl ⟨by rfl, ?_⟩) ?_ ?_
        rotate_left
        · intro w'
          go_simp
          with_reducible rfl
        rotate_left
        · simp only [Act.put, List.setIfInBounds_toArray, List.set_cons_zero, List.set_cons_succ, i64_w, i32_w]
          rfl
        refine take_ (i := 3) (N := some 14) (v := ?_) (a' := ?_) #[true, true, true, true, false, false, false, false] rfl rfl (by kernel_rfl) (fun _ _ _ h => h) (Or.inl ⟨by rfl, ?_⟩) hHeld ?_ ?_
        rotate_left
        · rintro w' ⟨s0, s1⟩
          go_simp
          with_reducible rfl
        rotate_left
        · simp only [Act.put, List.setIfInBounds_toArray, List.set_cons_zero, List.set_cons_succ, i64_w, i32_w]
          rfl
        refine take_ (i := 4) (N := some 15) (v := ?_) (a' := ?_) #[true, true, true, true, true, false, false, false] rfl rfl (by kernel_rfl) (fun _ _ _ h => h) (Or.inl ⟨by rfl, ?_⟩) hHeld ?_ ?_
        rotate_left
        · rintro w' ⟨s0, s1⟩
          go_simp
          with_reducible rfl
        rotate_left
        · simp only [Act.put, List.setIfInBounds_toArray, List.set_cons_zero, List.set_cons_succ, i64_w, i32_w]
          rfl
        refine one_ (i := 5) (N := some 16) #[true, true, true, true, true, true, false, false] rfl rfl (by kernel_rfl) (by decide) (fun K hK => ?_)
        refine goes_ Try.func77 (by kernel_rfl) rfl #[ptrG G] (by rfl) rfl rfl (by (try simp only [List.map_toArray, List.map_cons, List.map_nil]); first | done | rfl) ?_
        with_reducible refine (first_calls B G g cap s _ hs'.out hlen hst'.out.grp.drew).mono ?_
        rintro e w11 ⟨rfl, hb⟩
        refine ⟨_, rfl, ?_⟩
        refine hK.out _ _ ⟨(hb.cell (World.block_lt_of_cell? _ _ hHeld.1)).trans hHeld.1, (hb.cell (World.block_lt_of_cell? _ _ hHeld.2)).trans hHeld.2⟩ (fun hHeld => ?_)
        clear hK K
        refine norm_ (a' := ?_) ?_ ?_
        rotate_left
        · show Act.put _ (some 16) _ = _
          simp only [Act.put, List.setIfInBounds_toArray, List.set_cons_zero, List.set_cons_succ, i64_w, i32_w]
          rfl
        refine pure_ (i := 6) (N := some 17) (v := ?_) (a' := ?_) #[true, true, true, true, true, true, true, false] rfl rfl (by kernel_rfl) (fun _ _ _ h => h) (Or.inl ⟨by rfl, ?_⟩) ?_ ?_
        rotate_left
        · intro w'
          go_simp
          with_reducible rfl
        rotate_left
        · simp only [Act.put, List.setIfInBounds_toArray, List.set_cons_zero, List.set_cons_succ, i64_w, i32_w]
          rfl
        refine pure_ (i := 7) (N := some 3) (v := ?_) (a' := ?_) #[true, true, true, true, true, true, true, true] rfl rfl (by kernel_rfl) (fun _ _ _ h => h) (Or.inl ⟨by rfl, ?_⟩) ?_ ?_
        rotate_left
        · intro w'
          go_simp
          with_reducible rfl
        rotate_left
        · simp only [Act.put, List.setIfInBounds_toArray, List.set_cons_zero, List.set_cons_succ, i64_w, i32_w]
          rfl
        refine done_ (by kernel_rfl) ?_
        have hg1 := grp_below hst'.out.grp.drew hb
        have bQ1 := hst'.out.box.drew.below hb hst'.out.box.lt
        have hM1 : Mt G (some g) wr w11 := (Mt.of_below (show Below wr.heap.size wr w11 from ⟨hb.os, hb.tape, hb.output, hb.size, hb.block⟩))
        obtain ⟨y0, y1, y2⟩ := hg1.cellR (i := firstL s) (c := c) (by first | exact hc'.out | assumption)
        have hg1' := Lib.hid hg1
        have bQ1' := Lib.hid bQ1
        have hM1' := Lib.hid hM1
        clear hHeld hb z0 z1 z2 b0 g0 hg1 bQ1 hM1 hfz
        go_wp2
        refine start_ (n := 12) (S := fun w' => w'.cell? ⟨g, firstL s * 3, none⟩ = some (.int .i64 c.id) ∧ w'.cell? ⟨g, firstL s * 3 + 1, none⟩ = some (.int .i64 c.t) ∧ w'.cell? ⟨g, firstL s * 3 + 2, none⟩ = some (.int .i64 c.p)) (ds := [11]) #[false, false, false, false, false, false, false, false, false, false, false, false] (by kernel_rfl) rfl rfl ⟨y0, y1, y2⟩ (fun hHeld => ?_)
        refine pure_ (i := 0) (N := some 18) (v := ?_) (a' := ?_) #[true, false, false, false, false, false, false, false, false, false, false, false] rfl rfl (by kernel_rfl) (fun _ _ _ h => h) (Or.inl ⟨by rfl, ?_⟩) ?_ ?_
        rotate_left
        · intro w'
          go_simp
          with_reducible rfl
        rotate_left
        · simp only [Act.put, List.setIfInBounds_toArray, List.set_cons_zero, List.set_cons_succ, i64_w, i32_w]
          rfl
        refine pure_ (i := 1) (N := some 19) (v := ?_) (a' := ?_) #[true, true, false, false, false, false, false, false, false, false, false, false] rfl rfl (by kernel_rfl) (fun _ _ _ h => h) (Or.inl ⟨by rfl, ?_⟩) ?_ ?_
        rotate_left
        · intro w'
          go_simp
          with_reducible rfl
        rotate_left
        · simp only [Act.put, List.setIfInBounds_toArray, List.set_cons_zero, List.set_cons_succ, i64_w, i32_w]
          rfl
        refine pure_ (i := 2) (N := some 20) (v := ?_) (a' := ?_) #[true, true, true, false, false, false, false, false, false, false, false, false] rfl rfl (by kernel_rfl) (fun _ _ _ h => h) (Or.inl ⟨by rfl, ?_⟩) ?_ ?_
        rotate_left
        · intro w'
          go_simp
          with_reducible rfl
        rotate_left
        · simp only [Act.put, List.setIfInBounds_toArray, List.set_cons_zero, List.set_cons_succ, i64_w, i32_w]
          rfl
        refine take_ (i := 3) (N := some 21) (v := ?_) (a' := ?_) #[true, true, true, true, false, false, false, false, false, false, false, false] rfl rfl (by kernel_rfl) (fun _ _ _ h => h) (Or.inl ⟨by rfl, ?_⟩) hHeld ?_ ?_
        rotate_left
        · rintro w' ⟨s0, s1, s2⟩
          go_simp
          with_reducible rfl
        rotate_left
        · simp only [Act.put, List.setIfInBounds_toArray, List.set_cons_zero, List.set_cons_succ, i64_w, i32_w]
          rfl
        refine pure_ (i := 4) (N := some 22) (v := ?_) (a' := ?_) #[true, true, true, true, true, false, false, false, false, false, false, false] rfl rfl (by kernel_rfl) (fun _ _ _ h => h) (Or.inl ⟨by rfl, ?_⟩) ?_ ?_
        rotate_left
        · intro w'
          go_simp
          with_reducible rfl
        rotate_left
        · simp only [Act.put, List.setIfInBounds_toArray, List.set_cons_zero, List.set_cons_succ, i64_w, i32_w]
          rfl
        refine pure_ (i := 5) (N := some 23) (v := ?_) (a' := ?_) #[true, true, true, true, true, true, false, false, false, false, false, false] rfl rfl (by kernel_rfl) (fun _ _ _ h => h) (Or.inl ⟨by rfl, ?_⟩) ?_ ?_
        rotate_left
        · intro w'
          go_simp
          with_reducible rfl
        rotate_left
        · simp only [Act.put, List.setIfInBounds_toArray, List.set_cons_zero, List.set_cons_succ, i64_w, i32_w]
          rfl
        refine take_ (i := 6) (N := some 24) (v := ?_) (a' := ?_) #[true, true, true, true, true, true, true, false, false, false, false, false] rfl rfl (by kernel_rfl) (fun _ _ _ h => h) (Or.inl ⟨by rfl, ?_⟩) hHeld ?_ ?_
        rotate_left
        · rintro w' ⟨s0, s1, s2⟩
          go_simp
          with_reducible rfl
        rotate_left
        · simp only [Act.put, List.setIfInBounds_toArray, List.set_cons_zero, List.set_cons_succ, i64_w, i32_w]
          rfl
        refine one_ (i := 7) (N := some 25) #[true, true, true, true, true, true, true, true, false, false, false, false] rfl rfl (by kernel_rfl) (by decide) (fun K hK => ?_)
        refine goes_ Try.func79 (by kernel_rfl) rfl #[encC c] (by rfl) rfl rfl (by (try simp only [List.map_toArray, List.map_cons, List.map_nil]); first | done | rfl) ?_
        with_reducible refine (stride_calls c _ k1' k2').mono ?_
        rintro e w12 ⟨rfl, hw12⟩
        refine ⟨_, rfl, ?_⟩
        refine hK.out _ _ ⟨by rw [hw12]; exact (World.cell?_alloc_lt _ _ _ (World.block_lt_of_cell? _ _ hHeld.1)).trans hHeld.1, by rw [hw12]; exact (World.cell?_alloc_lt _ _ _ (World.block_lt_of_cell? _ _ hHeld.2.1)).trans hHeld.2.1, by rw [hw12]; exact (World.cell?_alloc_lt _ _ _ (World.block_lt_of_cell? _ _ hHeld.2.2)).trans hHeld.2.2⟩ (fun hHeld => ?_)
        clear hK K
        refine norm_ (a' := ?_) ?_ ?_
        rotate_left
        · show Act.put _ (some 25) _ = _
          simp only [Act.put, List.setIfInBounds_toArray, List.set_cons_zero, List.set_cons_succ, i64_w, i32_w]
          rfl
        have hg2 : Grp tG tC B G (.slice (some ⟨g, 0, none⟩) s.length cap) s w12 := by rw [hw12]; exact hg1'.out.drew.alloc _
        have bQ2 : Blk w12 QB 24 #[ptrG G] := by rw [hw12]; exact bQ1'.out.drew.alloc _
        have hM2 : Mt G (some g) wr w12 := by rw [hw12]; exact hM1'.out.drew.alloc _
        have hg2' := Lib.hid hg2
        have bQ2' := Lib.hid bQ2
        have hM2' := Lib.hid hM2
        clear hg2 bQ2 hM2 hw12
        refine pure_ (i := 8) (N := some 26) (v := ?_) (a' := ?_) #[true, true, true, true, true, true, true, true, true, false, false, false] rfl rfl (by kernel_rfl) (fun _ _ _ h => h) (Or.inl ⟨by rfl, ?_⟩) ?_ ?_
        rotate_left
        · intro w'
          go_simp
          with_reducible rfl
        rotate_left
        · simp only [Act.put, List.setIfInBounds_toArray, List.set_cons_zero, List.set_cons_succ, i64_w, i32_w]
          rfl
        refine pure_ (i := 9) (N := some 27) (v := ?_) (a' := ?_) #[true, true, true, true, true, true, true, true, true, true, false, false] rfl rfl (by kernel_rfl) (fun _ _ _ h => h) (Or.inl ⟨by rfl, ?_⟩) ?_ ?_
        rotate_left
        · intro w'
          go_simp
          with_reducible rfl
        rotate_left
        · simp only [Act.put, List.setIfInBounds_toArray, List.set_cons_zero, List.set_cons_succ, i64_w, i32_w]
          rfl
        refine pure_ (i := 10) (N := some 28) (v := ?_) (a' := ?_) #[true, true, true, true, true, true, true, true, true, true, true, false] rfl rfl (by kernel_rfl) (fun _ _ _ h => h) (Or.inl ⟨by rfl, ?_⟩) ?_ ?_
        rotate_left
        · intro w'
          go_simp
          with_reducible rfl
        rotate_left
        · simp only [Act.put, List.setIfInBounds_toArray, List.set_cons_zero, List.set_cons_succ, i64_w, i32_w]
          rfl
        refine last_ (i := 11) (N := none) #[true, true, true, true, true, true, true, true, true, true, true, true] rfl rfl (by kernel_rfl) (by decide) (fun K hK => ?_)
        have t2 := hHeld.2.2
        have tf := hg2'.out.frozenR (firstL s * 3 + 2)
        refine skip_ (w1 := ?_) (by rfl) rfl ?_ ?_
        rotate_left
        · go_simp
          rfl
        refine hK.out _ _ ?_
        clear hK K
        refine done_ (by kernel_rfl) ?_
        have hg3 := hg2'.out.setP tGC (firstL s) (c.p + sd c.t)
        rw [hmb'.out] at hg3
        have hgne : QB ≠ g := fun e => by
          have h1 := bQ2'.out
          obtain ⟨_, _, cur, h2⟩ := own_block hg2'.out.row (k := g) rfl
          rw [e] at h1
          have h3 := Option.some.inj (h1.symm.trans h2)
          injection h3 with _ h4 _
          exact absurd h4 (by decide)
        have bQ3 := bQ2'.out.other (a := ⟨g, firstL s * 3 + 2, none⟩) hgne (.int .i64 (c.p + sd c.t))
        have hM3 := hM2'.out.setR (firstL s * 3 + 2) (.int .i64 (c.p + sd c.t))
        have hid3 : (w12.setCell ⟨g, firstL s * 3 + 2, none⟩ (.int .i64 (c.p + sd c.t))).cell? ⟨g, firstL s * 3, none⟩ = some (.int .i64 c.id) := (World.cell?_setCell_other _ ⟨g, firstL s * 3 + 2, none⟩ ⟨g, firstL s * 3, none⟩ _ (by simp)).trans hHeld.1
        clear hHeld y0 y1 y2
        generalize (World.setCell w12 ⟨g, firstL s * 3 + 2, none⟩ (.int .i64 (c.p + sd c.t))) = WD at *
        have bq := bQ3.cell 0
        simp only [List.getElem?_toArray, List.getElem?_cons_zero] at bq
        have hg3' := Lib.hid hg3
        have bQ3' := Lib.hid bQ3
        have hM3' := Lib.hid hM3
        clear hg3 bQ3 hM3
        go_upto_region 5 with ((with_reducible refine gate_callee (f := 46) rfl ?_); refine goesL_ (some 34) rfl rfl Try.func46 (by kernel_rfl) rfl #[ptrG G] rfl (by (try simp only [List.map_toArray, List.map_cons, List.map_nil]); first | done | rfl) ?_; (with_reducible refine (level_calls B G _ (s.modify (firstL s) bump) _ (by rw [List.length_modify]; exact hlen) hbb.out hg3'.out).mono ?_); rintro e w13 ⟨⟨rv, rfl⟩, hg4, hM4⟩; refine ⟨_, rfl, ?_⟩; have hg4' := Lib.hid hg4; have hM4' := Lib.hid hM4; clear hg4 hM4)
        have hg5 : StQ QB B G (.slice (some ⟨g, 0, none⟩) s.length cap) (pickL s).1 w13 := ⟨pick_good hgood'.out, (show w13.heap[QB]? = _ from (hM4'.out.block QB bQ3'.out.lt (fun e => by
            have h1 := bQ3'.out
            have h2 := hg3'.out.blk
            rw [e] at h1
            have h3 := Option.some.inj (h1.symm.trans h2)
            injection h3 with _ h4 _
            exact absurd h4 (by decide)) (fun e => hgne (by simpa [Value.ownBlock] using e))).trans bQ3'.out), by rw [hpl'.out]; exact hg4'.out⟩
        have hM5 : MuQ G (.slice (some ⟨g, 0, none⟩) s.length cap) wr w13 := by
          have h1 : Mt G (Value.slice (some ⟨g, 0, none⟩) s.length cap).ownBlock wr w13 := hM3'.out.trans hM4'.out (.inl rfl)
          exact ⟨h1, h1.others hst'.out.grp⟩
        have hJ5 := hJ _ _ _ _ HJ.out hM5
        obtain ⟨fn, tm, asg, bdy, hy, hR⟩ := hY pre s (pickL s).2 (pickL s).1 w13 hJ5 hstep'.out hg5
        rw [hpid'.out] at hy hR
        have hg5' := Lib.hid hg5
        clear hg5 hM5 hJ5
        refine (wpIn_wide (n := m)).1 ?_
        gi_wp2
        refine ⟨fun h => absurd h (by simp [Fence.wide]), ?_⟩
        refine hR.mono ?_
        rintro e W3 ⟨hk, (⟨rfl, hJ3⟩ | ⟨rfl, hJx3⟩)⟩
        · have hS3 := Lib.hid (hg5'.out.kept hk)
          have hJ3' := Lib.hid hJ3
          clear hk hJ3
          gi_wp2
          go_wp2
          go_roundg k1
          case rel => exact ⟨pre ++ [c.id], (pickL s).1, ⟨hS3.out⟩, ⟨hJ3'.out⟩, ⟨by rw [List.length_append]; simp; omega⟩⟩
          all_goals (try omega)
        · have hS3 := Lib.hid (hg5'.out.kept hk)
          have hJ3' := Lib.hid hJx3
          clear hk hJx3
          gi_wp2
          go_wp2
          refine bodyPost_ret (results_none rfl _ _ _) rfl ?_
          exact ⟨⟨_, rfl⟩, pre ++ [c.id], (pickL s).1, hS3.out, .inr hJ3'.out⟩
end Go.Proofs.Ytkcmmghhghgdpaa.Str
