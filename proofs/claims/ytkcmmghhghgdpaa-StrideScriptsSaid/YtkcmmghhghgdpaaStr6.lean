/- (*Group).Run: its contract. -/
import Derived.Test.YtkcmmghhghgdpaaStr5
import Derived.RangeFuncBox
import Derived.RangeFuncWrites
import Derived.Maps.AppendAt
namespace Go.Proofs.Ytkcmmghhghgdpaa.Str
open Go.RowKit Go.Shelf Go.Maps Go.Proofs.Ytkcmmghhghgdpaa.Iter Go.Proofs.Ytkcmmghhghgdpaa.SeqM Go.Proofs.YtkcmmghhghgdpaaW.PrintWords Go.Proofs.YtkcmmghhghgdpaaW.PrintLast
set_option linter.unusedVariables false
set_option linter.unusedSimpArgs false
attribute [local go_sem] Oper.semAt_some
theorem infoInt : (Try.prog.info? 3).map (fun i => (i.zero, i.size, i.bytes)) = some (some (.int .i64 0), 1, 8) := by kernel_rfl
theorem run_snoc (k : Nat) (l : List Cl) : runL (k + 1) l = ((pickL (runL k l).1).1, (runL k l).2 ++ [(pickL (runL k l).1).2]) := run_app k 1 l
/-- What Run answers. -/
def runR (l : List Cl) (n : Int) : List Cl × List Int × Int :=
  if n < 0 ∨ n > 100000 then (l, [], 1) else if n = 0 then (l, [], 0) else if l = [] then (l, [], 8) else ((runL n.toNat l).1, (runL n.toNat l).2, 0)

set_option maxRecDepth 100000 in
set_option maxHeartbeats 4000000 in
theorem run_calls (B G : Nat) (v : Value) (l : List Cl) (n : Int) (W : World) (hgood : GoodG l) (hg : Grp tG tC B G v l W) :
    Calls Try.prog 17 #[ptrG G, .int .i64 n] W fun e W' => ∃ u, e = .returned (.tuple #[u, .int .i64 (runR l n).2.2]) ∧ W'.ownsRow W.heap.size 3 1 u (runR l n).2.1.length ((runR l n).2.1.map (Value.int .i64)) ∧ Grp tG tC B G v (runR l n).1 W' ∧ Mt G v.ownBlock W W' := by
  have hGl := hg.lt
  have hvl : ∀ k, v.ownBlock = some k → k < W.heap.size := fun k hk => (own_block hg.row hk).2.1
  by_cases h1 : n < 0 ∨ n > 100000
  · have hr := Lib.hid (show runR l n = (l, [], 1) from if_pos h1)
    have hfin := Lib.hid (show W.ownsRow W.heap.size 3 1 (.slice none 0 0) 0 [] from World.ownsRow_nil _ _ _ _)
    have hM := Lib.hid ((Mt.refl G v.ownBlock W).alloc (.cells #[.int .i64 n] 3))
    have hG := Lib.hid (hg.alloc (.cells #[.int .i64 n] 3))
    clear hg hgood
    rcases h1 with h1 | h1
    · go_enter Try.func17, Try.ntmps17
      go_wp2
      go_ret2
      exact ⟨_, by rw [hr.out]; rfl, by rw [hr.out]; exact World.ownsRow_nil _ _ _ _, by rw [hr.out]; exact hG.out, hM.out⟩
    · have h0 : ¬ n < 0 := by omega
      go_enter Try.func17, Try.ntmps17
      go_wp2
      go_ret2
      exact ⟨_, by rw [hr.out]; rfl, by rw [hr.out]; exact World.ownsRow_nil _ _ _ _, by rw [hr.out]; exact hG.out, hM.out⟩
  · have p1 : ¬ n < 0 := by omega
    have p2 : ¬ n > 100000 := by omega
    by_cases h2 : n = 0
    · subst h2
      have hr := Lib.hid (show runR l 0 = (l, [], 0) by unfold runR; rw [if_neg h1, if_pos rfl])
      have hM := Lib.hid ((Mt.refl G v.ownBlock W).alloc (.cells #[.int .i64 0] 3))
      have hG := Lib.hid (hg.alloc (.cells #[.int .i64 0] 3))
      clear hg hgood
      go_enter Try.func17, Try.ntmps17
      go_wp2
      go_ret2
      exact ⟨_, by rw [hr.out]; rfl, by rw [hr.out]; exact World.ownsRow_nil _ _ _ _, by rw [hr.out]; exact hG.out, hM.out⟩
    · by_cases h3 : l = []
      · have hr := Lib.hid (show runR l n = (l, [], 8) by unfold runR; rw [if_neg h1, if_neg h2, if_pos h3])
        have hM := Lib.hid ((Mt.refl G v.ownBlock W).alloc (.cells #[.int .i64 n] 3))
        have hG := Lib.hid (hg.alloc (.cells #[.int .i64 n] 3))
        have hc := hG.out.cellG
        obtain ⟨A, c, rfl⟩ : ∃ A c, v = .slice A 0 c := by
          subst h3
          rcases hg.row.2 with ⟨rfl, h0⟩ | ⟨g, cap, cur, rfl, _, _, hc, _⟩
          · exact ⟨none, 0, rfl⟩
          · exact ⟨_, cap, rfl⟩
        have h2' : ¬ (n == 0) = true := by simpa using h2
        clear hg hgood
        have h3' := Lib.hid h3
        clear h3
        go_enter Try.func17, Try.ntmps17
        go_wp2
        go_ret2
        exact ⟨_, by rw [hr.out]; rfl, by rw [hr.out]; exact World.ownsRow_nil _ _ _ _, by rw [hr.out]; exact hG.out, hM.out⟩
      · obtain ⟨N, rfl⟩ : ∃ N : Nat, n = (N : Int) := ⟨n.toNat, by omega⟩
        have hN0 : 0 < N := by omega
        have hN1 : N ≤ 100000 := by omega
        have hr := Lib.hid (show runR l (N : Int) = ((runL N l).1, (runL N l).2, 0) by unfold runR; rw [if_neg h1, if_neg h2, if_neg h3, Int.toNat_natCast])
        obtain ⟨g, cap, hv, hlc, hcm⟩ := hg.form h3
        have hlp : 0 < l.length := by cases l with | nil => exact absurd rfl h3 | cons => simp
        have hc := (hg.alloc (.cells #[.int .i64 (N : Int)] 3)).cellG
        rw [hv] at hc
        have hl0 : ¬ ((l.length : Int) = 0) := by omega
        obtain ⟨i0, hi, hz0, hz1, hz2⟩ := info_parts infoInt
        refine (callsIn_wide (n := 6)).1 ?_
        refine callsIn_of_wp_marks Try.func17 rfl trivial ?_ rfl
        simp only [Try.ntmps17, List.size_toArray, List.length_cons, List.length_nil, Nat.reduceAdd, Nat.reduceSub, Array.replicate_succ, Array.replicate_zero, List.push_toArray, List.append_toArray, List.nil_append, List.cons_append]
        gi_wp2_with (first | (gi_at_make; refine wpListIn_make_own _ rfl _ _ 22 rfl (W.heap.size + 1) 3 i0 (.int .i64 0) 1 Try.underlying22 hi hz0 hz1 .i64 .i64 (N : Int) N rfl rfl rfl (by rw [hz2]; omega) (by unfold maxLen; omega) (by simp) ?_; intro w1 hown hgrow) | (refine ⟨trivial, ?_⟩; gi_at_call 47; refine (callsIn_wide.2 (quanta_calls G _)).mono ?_; rintro e w' ⟨rfl, rfl⟩))
        have hs1 : W.heap.size + 1 < w1.heap.size := by have := (own_block hown (k := (W.alloc (.cells #[.int .i64 (N : Int)] 3)).heap.size) rfl).2.1; simpa using this
        have bN := ((((Blk.new W 3 #[.int .i64 (N : Int)]).kept hgrow (by simp)).alloc (.cells #[.slice (some ⟨W.heap.size + 1, 0, none⟩) 0 N] 22)).alloc (.cells #[ptrG G] tP))
        have bO := (Boxed.new w1 22 (.slice (some ⟨W.heap.size + 1, 0, none⟩) 0 N)).alloc (.cells #[ptrG G] tP)
        have bQ := Blk.new (w1.alloc (.cells #[.slice (some ⟨W.heap.size + 1, 0, none⟩) 0 N] 22)) tP #[ptrG G]
        simp only [World.size_alloc] at bQ hown
        have hrow0 := (hown.alloc (.cells #[.slice (some ⟨W.heap.size + 1, 0, none⟩) 0 N] 22)).alloc (.cells #[ptrG G] tP)
        have hM0 : Mt G v.ownBlock W ((w1.alloc (.cells #[.slice (some ⟨W.heap.size + 1, 0, none⟩) 0 N] 22)).alloc (.cells #[ptrG G] tP)) :=
          (((((Mt.refl _ _ _).alloc _).trans (r' := v.ownBlock) (Mt.of_below ⟨hgrow.os, hgrow.tape, hgrow.output, hgrow.size, fun k hk => hgrow.block k hk (by simp)⟩) (.inl rfl))).alloc _).alloc _
        have hg0 : Grp tG tC B G v l ((w1.alloc (.cells #[.slice (some ⟨W.heap.size + 1, 0, none⟩) 0 N] 22)).alloc (.cells #[ptrG G] tP)) :=
          ((grp_below (hg.alloc (.cells #[.int .i64 (N : Int)] 3)) ⟨hgrow.os, hgrow.tape, hgrow.output, hgrow.size, fun k hk => hgrow.block k hk (by simp)⟩).alloc _).alloc _
        have hsz : ((w1.alloc (.cells #[.slice (some ⟨W.heap.size + 1, 0, none⟩) 0 N] 22)).alloc (.cells #[ptrG G] tP)).heap.size = w1.heap.size + 2 := by simp
        obtain ⟨W0, hW0⟩ : ∃ W0, ((w1.alloc (.cells #[.slice (some ⟨W.heap.size + 1, 0, none⟩) 0 N] 22)).alloc (.cells #[ptrG G] tP)) = W0 := ⟨_, rfl⟩
        rw [hW0] at bN bO bQ hrow0 hM0 hg0 hsz ⊢
        clear hW0 hown hc hgrow
        obtain ⟨S1, hS1⟩ : ∃ S1, w1.heap.size = S1 := ⟨_, rfl⟩
        rw [hS1] at bO bQ hsz hs1 ⊢
        clear hS1
        have hv2 : ∀ r, W.heap.size ≤ r → v.ownBlock ≠ some r := fun r hr e => by have := hvl r e; omega
        refine wpIn_rangeM (F := Fence.wide) rfl (by omega) (gf := 78) (lb := #[.pointer (some ⟨S1 + 1, 0, none⟩)]) rfl trivial (enters_of Try.func78 (by kernel_rfl) rfl)
          (enc := fun id : Int => #[.int .i64 id]) (step := stepQ) (St := StQ (S1 + 1) B G v) (Mu := MuQ G v) (Kp := KpQ (S1 + 1) G v) (N := N) (s0 := l)
          (fun W1 h _ => quanta_seq _ _ B G v l N W1 h)
          (ownFrom_grp (f := fun s : List Cl => s)) KpQ.t
          (fun X r o o' hr hr2 ho => ⟨World.putObj_heap_other (by omega), World.putObj_heap_other (by omega), fun k hk => World.putObj_heap_other (by have := hvl k hk; omega)⟩)
          (fun X Y h => h.2) (fun _ => rfl)
          (fun pre s X => ((((s, pre) = runL pre.length l ∧ pre.length < N) ∧ Blk X W.heap.size 3 #[.int .i64 (N : Int)]) ∧ (∃ u, Boxed X S1 22 u ∧ X.ownsRow (W.heap.size + 1) 3 1 u pre.length (pre.map (Value.int .i64)) ∧ True)) ∧ Mt G v.ownBlock W X)
          (fun c pre s X => ((c = .exit 1 ∧ (s, pre) = runL N l) ∧ (∃ u, Boxed X S1 22 u ∧ X.ownsRow (W.heap.size + 1) 3 1 u pre.length (pre.map (Value.int .i64)) ∧ True)) ∧ Mt G v.ownBlock W X)
          (fun s => OwnFrom.and (OwnFrom.and (OwnFrom.and (ownFrom_pure _ _) (Own.from (blk_own _ _ _) _)) (Own.from (holdsRow_own (W.heap.size + 1) S1 22 3 1 (fun pre : List Int => pre.length) (fun pre => pre.map (Value.int .i64)) (fun _ _ => True)) _)) (ownFrom_mt (by omega)))
          (fun c s => OwnFrom.and (OwnFrom.and (ownFrom_pure _ _) (Own.from (holdsRow_own (W.heap.size + 1) S1 22 3 1 (fun pre : List Int => pre.length) (fun pre => pre.map (Value.int .i64)) (fun _ _ => True)) _)) (ownFrom_mt (by omega)))
          (fun pre s X Y hs hm => by
            obtain ⟨⟨⟨h1, h2⟩, u, hu, hrow, _⟩, h4⟩ := hs
            refine ⟨⟨⟨h1, blk_mu h2 hm (by omega) (hv2 _ (by omega))⟩, u, blk_mu (v := v) (show Blk X S1 22 #[u] from hu) hm (by omega) (hv2 _ (by omega)), own_move hrow (fun k hk => ?_), trivial⟩, h4.trans hm.1 (.inl rfl)⟩
            obtain ⟨e1, e2, _⟩ := own_block hrow hk
            exact hm.1.block k e2 (by omega) (fun e => hv2 k (by omega) e.symm))
          (fun pre s X hs => hs.1.1.1.2) ⟨⟨⟨⟨rfl, hN0⟩, bN⟩, _, bO, hrow0, trivial⟩, hM0⟩ ⟨hgood, bQ, hg0⟩
          (fun x : Int => { tmps := #[ptrG G, .int .i64 (N : Int), undef, .pointer (some ⟨W.heap.size, 0, none⟩), .slice none 0 0, .int .i64 0, .pointer (some ⟨S1, 0, none⟩), .int .i64 x, .bool false, ptrG G, .bool false, .bool false, .int .i64 (N : Int), .bool false, .bool false, .int .i64 (N : Int), .bool false, .bool false, .bool false, .int .i64 (N : Int), .bool false, .bool false, ptrG G, .pointer (some ⟨G, 0, none⟩), .pointer (some ⟨G, 0, none⟩),
            .slice (some ⟨g, 0, none⟩) l.length cap, .int .i64 (l.length : Int), .bool false, .int .i64 (N : Int), .slice (some ⟨W.heap.size + 1, 0, none⟩) 0 N, ptrG G, .func (.func 78) #[] #[.pointer (some ⟨S1 + 1, 0, none⟩)], .int .i64 x, undef, undef, undef, undef, undef, undef, undef, undef, undef], defers := [] })
          ?assign ?body ?done ?stop
        case assign =>
          rintro ll x X K hK
          gi_wp2
          first | simpa using hK | (simp only [List.zip_toArray, List.zip_cons_cons, List.zip_nil_right, List.foldl_toArray, List.foldl_cons, List.foldl_nil, List.setIfInBounds_toArray, List.set_cons_succ, List.set_cons_zero]; exact hK) | (simp [Array.foldl, Array.zip] at hK ⊢; exact hK)
        case body =>
          rintro ll pre s x s' X ⟨⟨⟨⟨hrun, hpl⟩, cN⟩, u, hu, hrow, _⟩, hM⟩ hstep hst
          have hn : s ≠ [] := by intro e; rw [e] at hstep; cases hstep
          have hx : (pickL s).2 = x ∧ (pickL s).1 = s' := by
            unfold stepQ at hstep
            rw [if_neg hn] at hstep
            simpa using hstep
          obtain ⟨rfl, rfl⟩ := hx
          have hrun2 := Lib.hid (show ((pickL s).1, pre ++ [(pickL s).2]) = runL (pre ++ [(pickL s).2]).length l by
            rw [List.length_append, List.length_singleton, run_snoc, ← hrun])
          generalize (pickL s).2 = pv at *
          have hc := hu.cell
          have hml : pre.length + 1 ≤ maxLen := by unfold maxLen; omega
          have qN := cN.cell 0
          try simp only [List.getElem?_toArray, List.getElem?_cons_zero] at qN
          have hXs := hM.size
          have hSX := hu.lt
          have bQ' := hst.box
          have hne : some (S1 + 1) ≠ u.ownBlock := (show Boxed X (S1 + 1) tP (ptrG G) from bQ').not_row (by decide) hrow
          have hbl := bQ'.lt
          have hrun' := Lib.hid hrun
          have hstep' := Lib.hid hstep
          clear hrun hstep
          gi_wp2_with (gi_at_builtin; refine wpListIn_append_own _ rfl _ _ 22 rfl (W.heap.size + 1) 3 i0 (.int .i64 0) 1 8 Try.underlying22 hi hz0 hz1 hz2 rfl (by decide) _ _ _ rfl (hrow.alloc _) ⟨X.heap.size, 0, none⟩ 1 1 [.int .i64 pv] rfl rfl (cell_one_new _ _ _) (by simp [Value.oneCell']) (by omega) (by omega) (by simp; omega) ?_; intro v' w2 hown' hgrow _; obtain ⟨g', cap', rfl⟩ := ownsRow_succ hown'; obtain ⟨hv1, hv2', hr2, hk2, hb2⟩ := hu.appended (by decide) hrow (by omega) (by omega) hown' hgrow; have hc1 := hv1.cell; have hf1 := hv1.frozen; have hq1 := (hb2.cell (p := ⟨W.heap.size, 0, none⟩) (by simp)).trans qN)
          all_goals
            have hq2 : w2.heap[S1 + 1]? = X.heap[S1 + 1]? := (hgrow.block (S1 + 1) (by simp; omega) hne).trans (Below.heap_alloc X _ _ hbl)
            have hKp : KpQ (S1 + 1) G v X (w2.setCell ⟨S1, 0, none⟩ (.slice (some ⟨g', 0, none⟩) (pre.length + 1) cap')) := ⟨(Below.heap_setCell _ ⟨S1, 0, none⟩ _ (S1 + 1) (by simp)).trans hq2, hb2.block G (by omega), fun b hb => hb2.block b (by have := hvl b hb; omega)⟩
            have hM2 : Mt G v.ownBlock W (w2.setCell ⟨S1, 0, none⟩ (.slice (some ⟨g', 0, none⟩) (pre.length + 1) cap')) := ⟨hb2.os.trans hM.os, hb2.tape.trans hM.tape, hb2.output.trans hM.output, Nat.le_trans hM.size hb2.size, fun k hk e1 e2 => (hb2.block k (by omega)).trans (hM.block k hk e1 e2)⟩
          · rename_i hd
            have hd' : pre.length + 1 = N := by have := of_decide_eq_true hd; omega
            refine ⟨hk2, hKp, ⟨⟨rfl, ?_⟩, _, hv2', by simpa using hr2, trivial⟩, hM2⟩
            have := hrun2.out
            rw [List.length_append, List.length_singleton, hd'] at this
            exact this
          · rename_i hd
            have hd' : pre.length + 1 ≠ N := fun e => by
              have := of_decide_eq_false hd
              exact this (by omega)
            exact ⟨hk2, hKp, ⟨⟨⟨hrun2.out, by rw [List.length_append, List.length_singleton]; omega⟩, (hb2.block _ (by omega)).trans cN⟩, _, hv2', by simpa using hr2, trivial⟩, hM2⟩
        case done =>
          rintro D pre s X hD hno ⟨⟨⟨⟨hrun, hpl⟩, cN⟩, u, hu, hrow, _⟩, hM⟩ hst hK
          exfalso
          have hs0 : s = [] := by
            unfold stepQ at hno
            split at hno
            · assumption
            · cases hno
          have := run_len pre.length l
          rw [← hrun, hs0] at this
          simp at this
          omega
        case stop =>
          rintro D c pre s X hD ⟨⟨⟨rfl, hrun⟩, u, hu, hrow, _⟩, hM⟩ hst hK
          have hc := hu.cell
          gi_wp2
          refine ⟨by simp, .inl ⟨_, _, rfl, run_takeDeferred hK, ?_⟩⟩
          rw [hr.out]
          have e1 : s = (runL N l).1 := congrArg Prod.fst hrun
          have e2 : pre = (runL N l).2 := congrArg Prod.snd hrun
          subst e1
          subst e2
          refine ⟨.tuple #[u, .int .i64 0], ?_, u, rfl, ?_, ?_, mt_put hM (by omega)⟩
          · simp [results, Try.f17, go_sem]
          · have h9 := ownsRow_putObj hrow (.deferred none) hK rfl
            refine ⟨h9.1, ?_⟩
            rcases h9.2 with hnil | ⟨g9, cap9, cur9, e9, hb9, hr9⟩
            · exact .inl hnil
            · exact .inr ⟨g9, cap9, cur9, e9, by omega, hr9⟩
          · exact hst.grp.move (World.putObj_heap_other (by omega)) (fun k hk => World.putObj_heap_other (by have := hvl k hk; omega))
end Go.Proofs.Ytkcmmghhghgdpaa.Str
