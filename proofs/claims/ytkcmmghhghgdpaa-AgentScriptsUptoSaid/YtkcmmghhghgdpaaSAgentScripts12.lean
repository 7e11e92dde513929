/- What the law AgentScripts needs of the seat's contracts and plain laws, several texts one behind the other; no conditions. -/
import Derived.Test.YtkcmmghhghgdpaaSAgentScripts11
section
namespace Go.Proofs.Ytkcmmghhghgdpaa.Agt
open Go.RowKit Go.Shelf Go.Maps Go.Proofs.Ytkcmmghhghgdpaa.Iter Go.Proofs.Ytkcmmghhghgdpaa.Str Go.Proofs.YtkcmmghhghgdpaaW.PrintWords Go.Proofs.YtkcmmghhghgdpaaW.PrintLast
set_option linter.unusedVariables false
set_option linter.unusedSimpArgs false
theorem run_append_len0 {P : Program} {w : World} {base : Nat} {t ty e : TypeId} {i : TypeInfo} {size : Nat} (ht : P.underlying t = some (.slice e)) (hi : P.info? e = some i) {v : Value} {n : Nat} {xs : List Value} (hown : w.ownsRow base e size v n xs) (c : Nat) :
    (Builtin.append_ #[t, t] ty #[v, .slice none 0 c]).run P w = .ok v w := by
  rcases hown.2 with ⟨rfl, rfl⟩ | ⟨g, cap, cur, rfl, _, _, hnc, _⟩
  · simp [Builtin.append_, run_underlying ht, sizeOf, typeInfo, hi, Builtin.lenOf, Builtin.firstCells]
  · simp [Builtin.append_, run_underlying ht, sizeOf, typeInfo, hi, Builtin.lenOf, Builtin.firstCells, hnc, storeCells]
/-- A copy of numbers that are read: append([]int{}, l...). -/
theorem copyI {w : World} {A : Option Addr} {xs : List Int} (c : Nat) (hr : ReadsI w A xs) (hm : xs.length ≤ 100000000) :
    ∃ v' w', (Builtin.append_ #[22, 22] 22 #[.slice (some ⟨w.heap.size, 0, none⟩) 0 0, .slice A xs.length c]).run Try.prog (w.alloc (.cells #[] tI)) = .ok v' w' ∧ w'.ownsRow w.heap.size tI 1 v' xs.length (xs.map (Value.int .i64)) ∧ Below w.heap.size w w' := by
  obtain ⟨i0, hif, hz0, hz1, hz2⟩ := info_parts infoInt
  have hr0 : (w.alloc (.cells #[] tI)).ownsRow w.heap.size tI 1 (.slice (some ⟨w.heap.size, 0, none⟩) 0 0) 0 [] := World.ownsRow_made w #[] 0 (Nat.le_refl _) (Nat.zero_le _) (by simp)
  have hb0 : Below w.heap.size w (w.alloc (.cells #[] tI)) := (Below.refl _ _).alloc (Nat.le_refl _) _
  cases A with
  | none =>
    have hx : xs = [] := by
      cases h : xs with
      | nil => rfl
      | cons y ys => obtain ⟨ad, hA, _⟩ := hr 0 y (by rw [h]; rfl); cases hA
    subst hx
    exact ⟨_, _, run_append_len0 Try.underlying22 hif hr0 c, hr0, hb0⟩
  | some ad =>
    have hd : ∀ (j : Nat) u, (xs.map (Value.int .i64))[j]? = some u → (w.alloc (.cells #[] tI)).cell? (ad.add j) = some u := fun j u hu => by
      rw [List.getElem?_map] at hu
      cases hj : xs[j]? with
      | none => simp [hj] at hu
      | some y =>
        rw [hj] at hu
        obtain rfl := Option.some.inj hu
        obtain ⟨ad2, hA, _, h2⟩ := hr j y hj
        obtain rfl := Option.some.inj hA
        exact Lib.cell?_alloc_some _ h2
    obtain ⟨v', w', k1, k2, k3, _⟩ := run_append_own2 (P := Try.prog) (w.alloc (.cells #[] tI)) w.heap.size 22 22 tI i0 (.int .i64 0) 1 8 Try.underlying22 hif hz0 hz1 hz2 rfl (by decide) _ 0 [] hr0 ad xs.length c (xs.map (Value.int .i64)) (by simp) hd (ints_one _) (by unfold maxLen; omega) (by omega) (by simp)
    rw [Nat.zero_add] at k2
    exact ⟨v', w', k1, k2, below_grown hb0 k3 (Nat.le_refl _) fun k hk => Nat.le_of_eq (Option.some.inj (show some w.heap.size = some k from hk))⟩
set_option maxRecDepth 100000 in
set_option maxHeartbeats 8000000 in
theorem twinD {F : Nat → Prop} (A : Option Addr) (c0 : Nat) (xs : List Ls) (W : World) (hr : ReadsL F W A xs) (hl : xs.length ≤ 2000000) (hcl : ∀ x ∈ xs, x.cores.length ≤ 2000000) :
    Calls Try.prog 67 #[.slice A xs.length c0] W fun e W' => ∃ A' c', ∃ zs : List LeM, e = .returned (.slice A' zs.length c') ∧ zs.map (·.1) = xs ∧ W'.ownsRow W.heap.size tL 8 (.slice A' zs.length c') zs.length (flatL zs) ∧ (∀ z ∈ zs, OwnC W.heap.size W' z) ∧ Below W.heap.size W W' := by
  have hr' := Lib.hid hr
  have hcl' := Lib.hid hcl
  obtain ⟨i0, hif, hz0, hz1, hz2⟩ := info_parts infoL
  clear hr hcl
  go_enter Try.func67, Try.ntmps67
  go_wp2
  go_loopw [3, 8] (fun zv iv wr => ∃ (i : Nat) (A3 : Option Addr) (c3 : Nat) (zs : List LeM), zv = .slice A3 zs.length c3 ∧ iv = .int .i64 (i : Int) ∧ i ≤ xs.length ∧ zs.map (·.1) = xs.take i ∧ wr.ownsRow W.heap.size tL 8 (.slice A3 zs.length c3) zs.length (flatL zs) ∧ (∀ z ∈ zs, OwnC W.heap.size wr z) ∧ Below W.heap.size W wr)
    (fun _ iv _ => xs.length - (intOf iv).toNat)
  case atStart => exact ⟨0, none, 0, [], rfl, rfl, Nat.zero_le _, rfl, World.ownsRow_nil _ _ _ _, (fun z hz => by cases hz), Below.refl _ _⟩
  case round =>
    obtain ⟨i, A3, c3, zs, rfl, rfl, hi, hfst, hown, hoc, hbel⟩ := hrel
    have hzl : zs.length ≤ 2000000 := by have := congrArg List.length hfst; rw [List.length_map, List.length_take] at this; omega
    by_cases hlt : i < xs.length
    · obtain ⟨x, hx⟩ : ∃ x, xs[i]? = some x := ⟨xs[i], List.getElem?_eq_getElem hlt⟩
      have hxc := hcl'.out x (List.mem_of_getElem? hx)
      obtain ⟨ad, A', c, rfl, _, q0, q1, q2, q3, q4, q5, q6, q7, hri, _, _, _, _⟩ := (hr'.out.below hbel) i x hx
      have bC := Blk.new wr tL #[.int .i64 x.task, .int .i64 x.queue, .int .i64 x.node, .slice A' x.cores.length c, .int .i64 x.mem, .int .i64 x.since, .int .i64 x.til, .bool x.stop]
      have x0 := bC.cell 0
      have x1 := bC.cell 1
      have x2 := bC.cell 2
      have x3 := bC.cell 3
      have x4 := bC.cell 4
      have x5 := bC.cell 5
      have x6 := bC.cell 6
      have x7 := bC.cell 7
      simp only [List.getElem?_toArray, List.getElem?_cons_zero, List.getElem?_cons_succ] at x0 x1 x2 x3 x4 x5 x6 x7
      have hfst' := Lib.hid (show (zs.map (·.1)) ++ [x] = xs.take (i + 1) by rw [hfst, List.take_add_one, hx]; rfl)
      have b1 := (Below.refl wr.heap.size wr).alloc (Nat.le_refl _) (.cells #[.int .i64 x.task, .int .i64 x.queue, .int .i64 x.node, .slice A' x.cores.length c, .int .i64 x.mem, .int .i64 x.since, .int .i64 x.til, .bool x.stop] tL)
      obtain ⟨v3, w3, hrun, hown3, hb3⟩ := copyI c (hri.1.below b1) (by omega)
      simp only [World.size_alloc] at hrun hown3
      obtain ⟨A5, c5, rfl⟩ := own_slice hown3
      have hb3' := Lib.hid ((hbel.alloc hbel.size (.cells #[.int .i64 x.task, .int .i64 x.queue, .int .i64 x.node, .slice A' x.cores.length c, .int .i64 x.mem, .int .i64 x.since, .int .i64 x.til, .bool x.stop] tL)).trans (below_le hb3 (by have := hbel.size; simp; omega)))
      have hrow3 := Lib.hid (own_below (hown.alloc (.cells #[.int .i64 x.task, .int .i64 x.queue, .int .i64 x.node, .slice A' x.cores.length c, .int .i64 x.mem, .int .i64 x.since, .int .i64 x.til, .bool x.stop] tL)) hb3)
      have hoc3 := Lib.hid (fun z hz => (show OwnC W.heap.size w3 z from own_below ((hoc z hz).below b1) hb3))
      have hC3 := bC.below hb3 (by simp)
      have hf3 := hC3.frozen 3
      have y0 := hC3.cell 0
      have y1 := hC3.cell 1
      have y2 := hC3.cell 2
      have y3 := hC3.cell 3
      have y4 := hC3.cell 4
      have y5 := hC3.cell 5
      have y6 := hC3.cell 6
      have y7 := hC3.cell 7
      simp only [List.getElem?_toArray, List.getElem?_cons_zero, List.getElem?_cons_succ] at y0 y1 y2 y3 y4 y5 y6 y7
      have hC3' := Lib.hid hC3
      have hown3' := Lib.hid hown3
      have hsz3 : wr.heap.size + 1 ≤ w3.heap.size := by have := hb3.size; rwa [World.size_alloc] at this
      have hbsz := hbel.size
      have hrl : ∀ k, (Value.slice A3 zs.length c3).ownBlock = some k → k < wr.heap.size := fun k hk => (own_block hown hk).2.1
      have hS : ∀ k, k ≠ wr.heap.size → (w3.setCell ⟨wr.heap.size, 3, none⟩ (.slice A5 x.cores.length c5)).heap[k]? = w3.heap[k]? := fun k hk => Below.heap_setCell _ _ _ _ hk
      have hrowS := Lib.hid (Str.own_move (w' := w3.setCell ⟨wr.heap.size, 3, none⟩ (.slice A5 x.cores.length c5)) hrow3.out fun k hk => hS k (by have := hrl k hk; omega))
      have hrlW := Lib.hid (fun k hk => (own_block hown (k := k) hk).1)
      have hocS := Lib.hid (fun z hz => (show OwnC W.heap.size (w3.setCell ⟨wr.heap.size, 3, none⟩ (.slice A5 x.cores.length c5)) z from Str.own_move (hoc3.out z hz) fun k hk => hS k (by have := (own_block (hoc z hz) hk).2.1; omega)))
      have hnwS := Lib.hid (show OwnC W.heap.size (w3.setCell ⟨wr.heap.size, 3, none⟩ (.slice A5 x.cores.length c5)) (x, A5, c5) from own_lower' (own_poke hown3'.out (p := ⟨wr.heap.size, 3, none⟩) (Nat.lt_succ_self _) _) (by omega))
      have hbS := Lib.hid (hb3'.out.setCell (p := ⟨wr.heap.size, 3, none⟩) hbsz (.slice A5 x.cores.length c5))
      have hnews := Lib.hid (show ∀ (j : Nat) u, (leCs (x, A5, c5))[j]? = some u → ((w3.setCell ⟨wr.heap.size, 3, none⟩ (.slice A5 x.cores.length c5)).alloc (.cells #[.int .i64 x.task, .int .i64 x.queue, .int .i64 x.node, .slice A5 x.cores.length c5, .int .i64 x.mem, .int .i64 x.since, .int .i64 x.til, .bool x.stop] tL)).cell? (Addr.add ⟨w3.heap.size, 0, none⟩ j) = some u from fun j u hu => by
        have h9 := cells_newL (w3.setCell ⟨wr.heap.size, 3, none⟩ (.slice A5 x.cores.length c5)) (leCs (x, A5, c5)) tL j u hu
        rwa [World.size_setCell] at h9)
      clear hri hx hfst hown hoc hbel bC b1 hown3 hb3 hS hrl
      go_wp2_with (first | (at_builtin; refine wpList_append_run _ rfl _ _ _ _ rfl _ _ rfl rfl hrun ?_) | (at_builtin; go_loud (refine wpList_append_own _ rfl _ _ 55 rfl W.heap.size tL i0 _ 8 80 Try.underlying55 hif hz0 hz1 hz2 rfl (by decide) _ _ _ rfl (hrowS.out.alloc _) ⟨w3.heap.size, 0, none⟩ 1 1 (leCs (x, A5, c5)) rfl rfl hnews.out (flatL_one' _) (by first | omega | (unfold maxLen; omega)) (by omega) (by simp; omega) ?_)))
      intro v8 w8 hown8 hgr8 _
      obtain ⟨A8, c8, rfl⟩ := own_slice hown8
      have hb8' := Lib.hid (below_grown (hbS.out.alloc hbS.out.size (.cells #[.int .i64 x.task, .int .i64 x.queue, .int .i64 x.node, .slice A5 x.cores.length c5, .int .i64 x.mem, .int .i64 x.since, .int .i64 x.til, .bool x.stop] tL)) hgr8 (Nat.le_refl _) hrlW.out)
      have hown8' := Lib.hid hown8
      have hoc8 := Lib.hid (fun z (hz : z ∈ zs ++ [(x, A5, c5)]) => (show OwnC W.heap.size w8 z from by
        have hz2 : OwnC W.heap.size (w3.setCell ⟨wr.heap.size, 3, none⟩ (.slice A5 x.cores.length c5)) z := by
          rcases List.mem_append.1 hz with h | h
          · exact hocS.out z h
          · obtain rfl := List.mem_singleton.1 h
            exact hnwS.out
        have hz3 := World.ownsRow.alloc hz2 (.cells #[.int .i64 x.task, .int .i64 x.queue, .int .i64 x.node, .slice A5 x.cores.length c5, .int .i64 x.mem, .int .i64 x.since, .int .i64 x.til, .bool x.stop] tL)
        exact Str.own_move hz3 fun k hk => hgr8.block k (own_block hz3 hk).2.1 (fun e => by
          obtain ⟨_, _, cur, h1⟩ := own_block hz3 hk
          obtain ⟨_, _, cur2, h2⟩ := own_block (World.ownsRow.alloc hrowS.out (.cells #[.int .i64 x.task, .int .i64 x.queue, .int .i64 x.node, .slice A5 x.cores.length c5, .int .i64 x.mem, .int .i64 x.since, .int .i64 x.til, .bool x.stop] tL)) e.symm
          exact two_types h1 h2 (by decide) rfl)))
      clear hown8 hgr8
      go_wp2
      go_roundw
      case rel => exact ⟨i + 1, A8, c8, zs ++ [(x, A5, c5)], by rw [List.length_append]; rfl, by go_num, by omega, by rw [List.map_append]; exact hfst'.out, by rw [List.length_append, flatL_app]; exact hown8'.out, hoc8.out, hb8'.out⟩
      case measure => simp [intOf]; omega
    · have hi' : i = xs.length := by omega
      subst hi'
      rw [List.take_length] at hfst
      have hfst' := Lib.hid hfst
      have hown' := Lib.hid hown
      have hoc' := Lib.hid hoc
      have hbel' := Lib.hid hbel
      clear hfst hown hoc hbel
      go_wp2
      go_ret
      exact ⟨A3, c3, zs, rfl, hfst'.out, hown'.out, hoc'.out, hbel'.out⟩
end Go.Proofs.Ytkcmmghhghgdpaa.Agt
end
section
namespace Go.Proofs.Ytkcmmghhghgdpaa.Agt
open Go.RowKit Go.Shelf Go.Maps Go.Proofs.Ytkcmmghhghgdpaa.Iter Go.Proofs.Ytkcmmghhghgdpaa.Str Go.Proofs.YtkcmmghhghgdpaaW.PrintWords Go.Proofs.YtkcmmghhghgdpaaW.PrintLast
set_option linter.unusedVariables false
set_option linter.unusedSimpArgs false
theorem readsL_one {W : World} {g : Nat} {x : Ls} {A : Option Addr} {c : Nat} (hb : Blk W g tL (leCs (x, A, c)).toArray) (hr : ReadsI W A x.cores) (hc : x.cores.length ≤ c) (hw : wfI x.task) (hl : x.cores.length ≤ 2000000) : ReadsL (fun _ => False) W (some ⟨g, 0, none⟩) [x] := fun j y hy => by
  obtain ⟨rfl, rfl⟩ : j = 0 ∧ y = x := by
    cases j with
    | zero => exact ⟨rfl, by simpa using hy.symm⟩
    | succ j => simp at hy
  exact ⟨⟨g, 0, none⟩, A, c, rfl, hb.lt, hb.cell 0, hb.cell 1, hb.cell 2, hb.cell 3, hb.cell 4, hb.cell 5, hb.cell 6, hb.cell 7, ⟨hr, fun _ _ _ h => h⟩, hc, hw, by omega, fun h => h⟩
theorem twinOne {W : World} {g : Nat} {x : Ls} {A : Option Addr} {c : Nat} (hb : Blk W g tL (leCs (x, A, c)).toArray) (hr : ReadsI W A x.cores) (hc : x.cores.length ≤ c) (hw : wfI x.task) (hl : x.cores.length ≤ 2000000) :
    Calls Try.prog 67 #[.slice (some ⟨g, 0, none⟩) 1 1] W fun e W' => ∃ g' c' A' d', e = .returned (.slice (some ⟨g', 0, none⟩) 1 c') ∧ (∀ (m : Nat) v, m < 8 → (leCs (x, A', d'))[m]? = some v → W'.cell? ⟨g', m, none⟩ = some v) ∧ OwnC W.heap.size W' (x, A', d') ∧ Below W.heap.size W W' :=
  (twinD (some ⟨g, 0, none⟩) 1 [x] W (readsL_one hb hr hc hw hl) (by simp) (fun y hy => by obtain rfl := List.mem_singleton.1 hy; exact hl)).mono fun e W' ⟨A2, c2, zs, h1, h2, h3, h4, h5⟩ => by
    match zs, h1, h2, h3, h4 with
    | [(y, A', d')], h1, h2, h3, h4 =>
      obtain rfl : y = x := by simpa using h2
      obtain ⟨g', c3, hv⟩ := own_someL h3 (by simp)
      injection hv with e1 _ _
      subst e1
      refine ⟨g', c2, A', d', h1, fun m v hm hv => ?_, h4 _ List.mem_cons_self, h5⟩
      rw [h3.cellAt m (by simp; omega)]
      have := flatL_get [(y, A', d')] 0 m _ hm rfl
      rw [Nat.zero_mul, Nat.zero_add] at this
      rw [this]
      exact hv
end Go.Proofs.Ytkcmmghhghgdpaa.Agt
end
section
namespace Go.Proofs.Ytkcmmghhghgdpaa.Agt
open Go.RowKit Go.Shelf Go.Maps Go.Proofs.Ytkcmmghhghgdpaa.Iter Go.Proofs.Ytkcmmghhghgdpaa.Str Go.Proofs.YtkcmmghhghgdpaaW.PrintWords Go.Proofs.YtkcmmghhghgdpaaW.PrintLast
set_option linter.unusedVariables false
set_option linter.unusedSimpArgs false
abbrev set8 (w : World) (b : Nat) (v0 v1 v2 v3 v4 v5 v6 v7 : Value) : World :=
  (((((((w.setCell ⟨b, 0, none⟩ v0).setCell ⟨b, 1, none⟩ v1).setCell ⟨b, 2, none⟩ v2).setCell ⟨b, 3, none⟩ v3).setCell ⟨b, 4, none⟩ v4).setCell ⟨b, 5, none⟩ v5).setCell ⟨b, 6, none⟩ v6).setCell ⟨b, 7, none⟩ v7
theorem blk8 {w : World} {b : Nat} {t : TypeId} {cs : Array Value} (h : Blk w b t cs) (hs : cs.size = 8) (v0 v1 v2 v3 v4 v5 v6 v7 : Value) : Blk (set8 w b v0 v1 v2 v3 v4 v5 v6 v7) b t #[v0, v1, v2, v3, v4, v5, v6, v7] := by
  obtain ⟨l⟩ := cs
  match l, hs with
  | [a0, a1, a2, a3, a4, a5, a6, a7], _ =>
    have := (((((((h.set 0 v0 (by simp)).set 1 v1 (by simp)).set 2 v2 (by simp)).set 3 v3 (by simp)).set 4 v4 (by simp)).set 5 v5 (by simp)).set 6 v6 (by simp)).set 7 v7 (by simp)
    simpa using this
theorem below8 {B : Nat} {w W : World} {b : Nat} (h : Below B W w) (hb : B ≤ b) (v0 v1 v2 v3 v4 v5 v6 v7 : Value) : Below B W (set8 w b v0 v1 v2 v3 v4 v5 v6 v7) :=
  (((((((h.setCell (p := ⟨b, 0, none⟩) hb _).setCell (p := ⟨b, 1, none⟩) hb _).setCell (p := ⟨b, 2, none⟩) hb _).setCell (p := ⟨b, 3, none⟩) hb _).setCell (p := ⟨b, 4, none⟩) hb _).setCell (p := ⟨b, 5, none⟩) hb _).setCell (p := ⟨b, 6, none⟩) hb _).setCell (p := ⟨b, 7, none⟩) hb _
theorem set8_heap (w : World) (b : Nat) (v0 v1 v2 v3 v4 v5 v6 v7 : Value) {k : Nat} (hk : k ≠ b) : (set8 w b v0 v1 v2 v3 v4 v5 v6 v7).heap[k]? = w.heap[k]? := by
  unfold set8
  rw [Below.heap_setCell _ _ _ k hk, Below.heap_setCell _ _ _ k hk, Below.heap_setCell _ _ _ k hk, Below.heap_setCell _ _ _ k hk, Below.heap_setCell _ _ _ k hk, Below.heap_setCell _ _ _ k hk, Below.heap_setCell _ _ _ k hk, Below.heap_setCell _ _ _ k hk]
set_option maxRecDepth 100000 in
set_option maxHeartbeats 8000000 in
theorem jobD {Q : Nat → Prop} {vs vj : Value} {l : List (Jb × DJ)} {S : Ag} (W : World) (h : DocM Q vs vj l S W) (hl : S.jobs.length ≤ 64) (x : Ls) (A : Option Addr) (c : Nat) (hrx : ReadsI W A x.cores) (hc : x.cores.length ≤ c) (hwx : wfI x.task) (hxl : x.cores.length ≤ 2000000)
    (t : Ts) (At : Option Addr) (ct : Nat) (hrt : ReadsI W At t.tk) (htk : fitsT t = true) (frm : Int) :
    Calls Try.prog 91 #[.agg (agCells S vs vj), .agg #[.int .i64 x.task, .int .i64 x.queue, .int .i64 x.node, .slice A x.cores.length c, .int .i64 x.mem, .int .i64 x.since, .int .i64 x.til, .bool x.stop], .agg (tsCells t At ct), .int .i64 frm] W fun e W' => ∃ d : DJ, ∃ Au cu, d.u = .slice Au (jobF S.jobs x t frm).th.length cu ∧ e = .returned (.agg (jdCs (jobF S.jobs x t frm, d)).toArray) ∧ DocJ (fun k => Q k ∨ W.heap.size ≤ k) W' (jobF S.jobs x t frm, d) ∧ Below W.heap.size W W' := by
  have hll : l.length ≤ 64 := by have := h.len; omega
  clear hl
  obtain ⟨As, cs, rfl⟩ := own_slice h.sent
  obtain ⟨Aj, cj, rfl⟩ := own_slice h.jrow
  dsimp only [agCells]
  have h' := Lib.hid h
  have hrt' := Lib.hid hrt
  have htk' := Lib.hid htk
  have bA := (((Blk.new W tDA #[.int .i64 S.nid, .int .i64 S.nco, .int .i64 S.nme, .int .i64 S.nin, .int .i64 S.nbe, .int .i64 S.short, .int .i64 S.clock, .bool S.runs, .int .i64 S.inc, .slice As S.sent.length cs, .int .i64 S.replied, .slice Aj l.length cj]).alloc (.cells #[.int .i64 x.task, .int .i64 x.queue, .int .i64 x.node, .slice A x.cores.length c, .int .i64 x.mem, .int .i64 x.since, .int .i64 x.til, .bool x.stop] tL)).alloc (.cells (tsCells t At ct) tT)).alloc (.cells #[.int .i64 0, .int .i64 0, .int .i64 0, .slice none 0 0, .int .i64 0, .int .i64 0, .int .i64 0, .bool false, .int .i64 0, .int .i64 0, .int .i64 0, .slice none 0 0] tDJ)
  have bX := ((Blk.new (W.alloc (.cells #[.int .i64 S.nid, .int .i64 S.nco, .int .i64 S.nme, .int .i64 S.nin, .int .i64 S.nbe, .int .i64 S.short, .int .i64 S.clock, .bool S.runs, .int .i64 S.inc, .slice As S.sent.length cs, .int .i64 S.replied, .slice Aj l.length cj] tDA)) tL #[.int .i64 x.task, .int .i64 x.queue, .int .i64 x.node, .slice A x.cores.length c, .int .i64 x.mem, .int .i64 x.since, .int .i64 x.til, .bool x.stop]).alloc (.cells (tsCells t At ct) tT)).alloc (.cells #[.int .i64 0, .int .i64 0, .int .i64 0, .slice none 0 0, .int .i64 0, .int .i64 0, .int .i64 0, .bool false, .int .i64 0, .int .i64 0, .int .i64 0, .slice none 0 0] tDJ)
  have bT := (Blk.new ((W.alloc (.cells #[.int .i64 S.nid, .int .i64 S.nco, .int .i64 S.nme, .int .i64 S.nin, .int .i64 S.nbe, .int .i64 S.short, .int .i64 S.clock, .bool S.runs, .int .i64 S.inc, .slice As S.sent.length cs, .int .i64 S.replied, .slice Aj l.length cj] tDA)).alloc (.cells #[.int .i64 x.task, .int .i64 x.queue, .int .i64 x.node, .slice A x.cores.length c, .int .i64 x.mem, .int .i64 x.since, .int .i64 x.til, .bool x.stop] tL)) tT (tsCells t At ct)).alloc (.cells #[.int .i64 0, .int .i64 0, .int .i64 0, .slice none 0 0, .int .i64 0, .int .i64 0, .int .i64 0, .bool false, .int .i64 0, .int .i64 0, .int .i64 0, .slice none 0 0] tDJ)
  have bZ := Blk.new (((W.alloc (.cells #[.int .i64 S.nid, .int .i64 S.nco, .int .i64 S.nme, .int .i64 S.nin, .int .i64 S.nbe, .int .i64 S.short, .int .i64 S.clock, .bool S.runs, .int .i64 S.inc, .slice As S.sent.length cs, .int .i64 S.replied, .slice Aj l.length cj] tDA)).alloc (.cells #[.int .i64 x.task, .int .i64 x.queue, .int .i64 x.node, .slice A x.cores.length c, .int .i64 x.mem, .int .i64 x.since, .int .i64 x.til, .bool x.stop] tL)).alloc (.cells (tsCells t At ct) tT)) tDJ #[.int .i64 0, .int .i64 0, .int .i64 0, .slice none 0 0, .int .i64 0, .int .i64 0, .int .i64 0, .bool false, .int .i64 0, .int .i64 0, .int .i64 0, .slice none 0 0]
  have bL := Blk.new ((((W.alloc (.cells #[.int .i64 S.nid, .int .i64 S.nco, .int .i64 S.nme, .int .i64 S.nin, .int .i64 S.nbe, .int .i64 S.short, .int .i64 S.clock, .bool S.runs, .int .i64 S.inc, .slice As S.sent.length cs, .int .i64 S.replied, .slice Aj l.length cj] tDA)).alloc (.cells #[.int .i64 x.task, .int .i64 x.queue, .int .i64 x.node, .slice A x.cores.length c, .int .i64 x.mem, .int .i64 x.since, .int .i64 x.til, .bool x.stop] tL)).alloc (.cells (tsCells t At ct) tT)).alloc (.cells #[.int .i64 0, .int .i64 0, .int .i64 0, .slice none 0 0, .int .i64 0, .int .i64 0, .int .i64 0, .bool false, .int .i64 0, .int .i64 0, .int .i64 0, .slice none 0 0] tDJ)) tL #[.int .i64 x.task, .int .i64 x.queue, .int .i64 x.node, .slice A x.cores.length c, .int .i64 x.mem, .int .i64 x.since, .int .i64 x.til, .bool x.stop]
  have b4 : Below W.heap.size W ((((W.alloc (.cells #[.int .i64 S.nid, .int .i64 S.nco, .int .i64 S.nme, .int .i64 S.nin, .int .i64 S.nbe, .int .i64 S.short, .int .i64 S.clock, .bool S.runs, .int .i64 S.inc, .slice As S.sent.length cs, .int .i64 S.replied, .slice Aj l.length cj] tDA)).alloc (.cells #[.int .i64 x.task, .int .i64 x.queue, .int .i64 x.node, .slice A x.cores.length c, .int .i64 x.mem, .int .i64 x.since, .int .i64 x.til, .bool x.stop] tL)).alloc (.cells (tsCells t At ct) tT)).alloc (.cells #[.int .i64 0, .int .i64 0, .int .i64 0, .slice none 0 0, .int .i64 0, .int .i64 0, .int .i64 0, .bool false, .int .i64 0, .int .i64 0, .int .i64 0, .slice none 0 0] tDJ)) := (below3 _ _ _).alloc (by simp; omega) _
  have b5 : Below W.heap.size W (((((W.alloc (.cells #[.int .i64 S.nid, .int .i64 S.nco, .int .i64 S.nme, .int .i64 S.nin, .int .i64 S.nbe, .int .i64 S.short, .int .i64 S.clock, .bool S.runs, .int .i64 S.inc, .slice As S.sent.length cs, .int .i64 S.replied, .slice Aj l.length cj] tDA)).alloc (.cells #[.int .i64 x.task, .int .i64 x.queue, .int .i64 x.node, .slice A x.cores.length c, .int .i64 x.mem, .int .i64 x.since, .int .i64 x.til, .bool x.stop] tL)).alloc (.cells (tsCells t At ct) tT)).alloc (.cells #[.int .i64 0, .int .i64 0, .int .i64 0, .slice none 0 0, .int .i64 0, .int .i64 0, .int .i64 0, .bool false, .int .i64 0, .int .i64 0, .int .i64 0, .slice none 0 0] tDJ)).alloc (.cells #[.int .i64 x.task, .int .i64 x.queue, .int .i64 x.node, .slice A x.cores.length c, .int .i64 x.mem, .int .i64 x.since, .int .i64 x.til, .bool x.stop] tL)) := b4.alloc b4.size _
  have hrx5 := hrx.below b5
  have bA5 := bA.alloc (.cells #[.int .i64 x.task, .int .i64 x.queue, .int .i64 x.node, .slice A x.cores.length c, .int .i64 x.mem, .int .i64 x.since, .int .i64 x.til, .bool x.stop] tL)
  have bX5 := bX.alloc (.cells #[.int .i64 x.task, .int .i64 x.queue, .int .i64 x.node, .slice A x.cores.length c, .int .i64 x.mem, .int .i64 x.since, .int .i64 x.til, .bool x.stop] tL)
  have bT5 := bT.alloc (.cells #[.int .i64 x.task, .int .i64 x.queue, .int .i64 x.node, .slice A x.cores.length c, .int .i64 x.mem, .int .i64 x.since, .int .i64 x.til, .bool x.stop] tL)
  have bZ5 := bZ.alloc (.cells #[.int .i64 x.task, .int .i64 x.queue, .int .i64 x.node, .slice A x.cores.length c, .int .i64 x.mem, .int .i64 x.since, .int .i64 x.til, .bool x.stop] tL)
  have m0 := bX.cell 0
  have m1 := bX.cell 1
  have m2 := bX.cell 2
  have m3 := bX.cell 3
  have m4 := bX.cell 4
  have m5 := bX.cell 5
  have m6 := bX.cell 6
  have m7 := bX.cell 7
  simp only [World.size_alloc, List.getElem?_toArray, List.getElem?_cons_zero, List.getElem?_cons_succ] at m0 m1 m2 m3 m4 m5 m6 m7
  simp only [World.size_alloc] at bL bA5 bX5 bT5 bZ5
  have bA' := Lib.hid bA5
  have bX' := Lib.hid bX5
  have bT' := Lib.hid bT5
  have bZ' := Lib.hid bZ5
  have bL' := Lib.hid bL
  have b5' := Lib.hid b5
  have hrx' := Lib.hid hrx5
  clear h hrx hrt htk bA bX bT bZ bL b4 b5 hrx5 bA5 bX5 bT5 bZ5
  go_enter Try.func91, Try.ntmps91
  go_upto_region 2 with (((with_reducible refine gate_callee (f := 67) rfl ?_); refine goesL_ (some 16) rfl rfl Try.func67 (by kernel_rfl) rfl #[.slice (some ⟨W.heap.size + 1 + 1 + 1 + 1, 0, none⟩) 1 1] rfl (by (try simp only [List.map_toArray, List.map_cons, List.map_nil]); first | done | rfl) ?_; (with_reducible refine (twinOne bL'.out hrx'.out hc hwx hxl).mono ?_); rintro e w6 ⟨g9, d9, A9, c9, rfl, hcl9, ho9, b6⟩; refine ⟨_, rfl, ?_⟩; have n0 := hcl9 0 _ (by omega) rfl; have n1 := hcl9 1 _ (by omega) rfl; have n2 := hcl9 2 _ (by omega) rfl; have n3 := hcl9 3 _ (by omega) rfl; have n4 := hcl9 4 _ (by omega) rfl; have n5 := hcl9 5 _ (by omega) rfl; have n6 := hcl9 6 _ (by omega) rfl; have n7 := hcl9 7 _ (by omega) rfl; have bX6 := bX'.out.below b6 bX'.out.lt; have k0 := bX6.cell 0; have k1 := bX6.cell 1; have k2 := bX6.cell 2; have k3 := bX6.cell 3; have k4 := bX6.cell 4; have k5 := bX6.cell 5; have k6 := bX6.cell 6; have k7 := bX6.cell 7; have f0 := bX6.frozen 0; have f1 := bX6.frozen 1; have f2 := bX6.frozen 2; have f3 := bX6.frozen 3; have f4 := bX6.frozen 4; have f5 := bX6.frozen 5; have f6 := bX6.frozen 6; have f7 := bX6.frozen 7; simp only [List.getElem?_toArray, List.getElem?_cons_zero, List.getElem?_cons_succ] at k0 k1 k2 k3 k4 k5 k6 k7; have bX6' := Lib.hid bX6; have ho9' := Lib.hid ho9; have hb6' := Lib.hid b6; clear b6 hcl9 ho9 bX6))
  have hX7 := blk8 bX6'.out (by rfl) (.int .i64 x.task) (.int .i64 x.queue) (.int .i64 x.node) (.slice A9 x.cores.length c9) (.int .i64 x.mem) (.int .i64 x.since) (.int .i64 x.til) (.bool x.stop)
  have hs6 := hb6'.out.size
  have hs5 : W.heap.size + 1 + 1 + 1 + 1 + 1 ≤ w6.heap.size := by simpa using hs6
  have hA7 := (set8_heap w6 (W.heap.size + 1) (.int .i64 x.task) (.int .i64 x.queue) (.int .i64 x.node) (.slice A9 x.cores.length c9) (.int .i64 x.mem) (.int .i64 x.since) (.int .i64 x.til) (.bool x.stop) (k := W.heap.size) (by omega)).trans (bA'.out.below hb6'.out bA'.out.lt)
  have hT7 := (set8_heap w6 (W.heap.size + 1) (.int .i64 x.task) (.int .i64 x.queue) (.int .i64 x.node) (.slice A9 x.cores.length c9) (.int .i64 x.mem) (.int .i64 x.since) (.int .i64 x.til) (.bool x.stop) (k := W.heap.size + 1 + 1) (by omega)).trans (bT'.out.below hb6'.out bT'.out.lt)
  have hZ7 := (set8_heap w6 (W.heap.size + 1) (.int .i64 x.task) (.int .i64 x.queue) (.int .i64 x.node) (.slice A9 x.cores.length c9) (.int .i64 x.mem) (.int .i64 x.since) (.int .i64 x.til) (.bool x.stop) (k := W.heap.size + 1 + 1 + 1) (by omega)).trans (bZ'.out.below hb6'.out bZ'.out.lt)
  have hC7 : OwnC (W.heap.size + 1 + 1 + 1 + 1 + 1) _ (x, A9, c9) := Str.own_move (own_lower' ho9'.out (by simp)) fun k hk => set8_heap w6 (W.heap.size + 1) (.int .i64 x.task) (.int .i64 x.queue) (.int .i64 x.node) (.slice A9 x.cores.length c9) (.int .i64 x.mem) (.int .i64 x.since) (.int .i64 x.til) (.bool x.stop) (k := k) (by have := (own_block ho9'.out hk).1; simp at this; omega)
  have hb7 := below8 (b5'.out.trans (below_le hb6'.out b5'.out.size)) (b := W.heap.size + 1) (by omega) (.int .i64 x.task) (.int .i64 x.queue) (.int .i64 x.node) (.slice A9 x.cores.length c9) (.int .i64 x.mem) (.int .i64 x.since) (.int .i64 x.til) (.bool x.stop)
  have hsz7 : (set8 w6 (W.heap.size + 1) (.int .i64 x.task) (.int .i64 x.queue) (.int .i64 x.node) (.slice A9 x.cores.length c9) (.int .i64 x.mem) (.int .i64 x.since) (.int .i64 x.til) (.bool x.stop)).heap.size = w6.heap.size := by simp [set8]
  change Code.wp _ _ _ _ (set8 w6 (W.heap.size + 1) (.int .i64 x.task) (.int .i64 x.queue) (.int .i64 x.node) (.slice A9 x.cores.length c9) (.int .i64 x.mem) (.int .i64 x.since) (.int .i64 x.til) (.bool x.stop))
  obtain ⟨w7, hw7⟩ : ∃ w7, set8 w6 (W.heap.size + 1) (.int .i64 x.task) (.int .i64 x.queue) (.int .i64 x.node) (.slice A9 x.cores.length c9) (.int .i64 x.mem) (.int .i64 x.since) (.int .i64 x.til) (.bool x.stop) = w7 := ⟨_, rfl⟩
  rw [hw7] at hX7 hA7 hT7 hZ7 hC7 hb7 hsz7 ⊢
  have hX7' := Lib.hid (show Blk w7 (W.heap.size + 1) tL #[.int .i64 x.task, .int .i64 x.queue, .int .i64 x.node, .slice A9 x.cores.length c9, .int .i64 x.mem, .int .i64 x.since, .int .i64 x.til, .bool x.stop] from hX7)
  have hA7' := Lib.hid (show Blk w7 W.heap.size tDA #[.int .i64 S.nid, .int .i64 S.nco, .int .i64 S.nme, .int .i64 S.nin, .int .i64 S.nbe, .int .i64 S.short, .int .i64 S.clock, .bool S.runs, .int .i64 S.inc, .slice As S.sent.length cs, .int .i64 S.replied, .slice Aj l.length cj] from hA7)
  have hT7' := Lib.hid (show Blk w7 (W.heap.size + 1 + 1) tT (tsCells t At ct) from hT7)
  have hZ7' := Lib.hid (show Blk w7 (W.heap.size + 1 + 1 + 1) tDJ #[.int .i64 0, .int .i64 0, .int .i64 0, .slice none 0 0, .int .i64 0, .int .i64 0, .int .i64 0, .bool false, .int .i64 0, .int .i64 0, .int .i64 0, .slice none 0 0] from hZ7)
  have hC7' := Lib.hid hC7
  have hb7' := Lib.hid hb7
  have a11 := hA7'.out.cell 11
  simp only [List.getElem?_toArray, List.getElem?_cons_zero, List.getElem?_cons_succ] at a11
  clear hX7 hA7 hT7 hZ7 hC7 hb7 hw7 hs6 k0 k1 k2 k3 k4 k5 k6 k7 f0 f1 f2 f3 f4 f5 f6 f7 n0 n1 n2 n3 n4 n5 n6 n7 m0 m1 m2 m3 m4 m5 m6 m7
  go_wp2
  go_loopw [22] (fun iv wr => ∃ (i : Nat), iv = .int .i64 (i : Int) ∧ i ≤ l.length ∧ (∀ j ∈ S.jobs.take i, (j.le.task == x.task) = false) ∧ Below w7.heap.size w7 wr)
    (fun iv _ => l.length - (intOf iv).toNat)
  case atStart => exact ⟨0, rfl, Nat.zero_le _, (fun j hj => by simp at hj), Below.refl _ _⟩
  case round =>
    obtain ⟨i, rfl, hi, hno, hbel⟩ := hrel
    have hbW := hb7'.out.trans (below_le hbel hb7'.out.size)
    by_cases hlt : i < l.length
    · obtain ⟨g, j, Aq, cq, Au, cu, rfl, hgl, hp, hj, hdj, hcell⟩ := docM_at (h'.out.below hbW) hlt
      have q0 := hcell 0 _ (by omega) rfl
      rw [Nat.add_zero] at q0
      have q1 := hcell 1 _ (by omega) rfl
      have q2 := hcell 2 _ (by omega) rfl
      have q3 := hcell 3 _ (by omega) rfl
      have q4 := hcell 4 _ (by omega) rfl
      have q5 := hcell 5 _ (by omega) rfl
      have q6 := hcell 6 _ (by omega) rfl
      have q7 := hcell 7 _ (by omega) rfl
      have q8 := hcell 8 _ (by omega) rfl
      have q9 := hcell 9 _ (by omega) rfl
      have q10 := hcell 10 _ (by omega) rfl
      have q11 := hcell 11 _ (by omega) rfl
      have bC := Blk.new wr tDJ #[.int .i64 j.le.task, .int .i64 j.le.queue, .int .i64 j.le.node, .slice Aq j.le.cores.length cq, .int .i64 j.le.mem, .int .i64 j.le.since, .int .i64 j.le.til, .bool j.le.stop, .int .i64 j.work, .int .i64 j.had, .int .i64 j.frm, .slice Au j.th.length cu]
      have e0 := bC.cell 0
      have hXr := (hX7'.out.below hbel hX7'.out.lt).alloc (.cells #[.int .i64 j.le.task, .int .i64 j.le.queue, .int .i64 j.le.node, .slice Aq j.le.cores.length cq, .int .i64 j.le.mem, .int .i64 j.le.since, .int .i64 j.le.til, .bool j.le.stop, .int .i64 j.work, .int .i64 j.had, .int .i64 j.frm, .slice Au j.th.length cu] tDJ)
      have y0 := hXr.cell 0
      simp only [List.getElem?_toArray, List.getElem?_cons_zero, List.getElem?_cons_succ] at e0 y0
      have hno' := Lib.hid hno
      have hj' := Lib.hid hj
      have hdj' := Lib.hid hdj
      have hbel' := Lib.hid hbel
      by_cases e : j.le.task = x.task
      · have q1' : (j.le.task == x.task) = true := beq_iff_eq.mpr e
        have hZr := hZ7'.out.below hbel hZ7'.out.lt
        have hZr' := Lib.hid hZr
        have y1 := hXr.cell 1
        have y2 := hXr.cell 2
        have y3 := hXr.cell 3
        have y4 := hXr.cell 4
        have y5 := hXr.cell 5
        have y6 := hXr.cell 6
        have y7 := hXr.cell 7
        have w0 := hZr.cell 0
        have w1 := hZr.cell 1
        have w2 := hZr.cell 2
        have w3 := hZr.cell 3
        have w4 := hZr.cell 4
        have w5 := hZr.cell 5
        have w6 := hZr.cell 6
        have w7 := hZr.cell 7
        have w8 := hZr.cell 8
        have w9 := hZr.cell 9
        have w10 := hZr.cell 10
        have w11 := hZr.cell 11
        simp only [List.getElem?_toArray, List.getElem?_cons_zero, List.getElem?_cons_succ] at w0 w1 w2 w3 w4 w5 w6 w7 w8 w9 w10 w11
        have z0 := hZr.frozen 0
        have z1 := hZr.frozen 1
        have z2 := hZr.frozen 2
        have z3 := hZr.frozen 3
        have z4 := hZr.frozen 4
        have z5 := hZr.frozen 5
        have z6 := hZr.frozen 6
        have z7 := hZr.frozen 7
        have z8 := hZr.frozen 8
        have z9 := hZr.frozen 9
        have z10 := hZr.frozen 10
        have z11 := hZr.frozen 11
        simp only [List.getElem?_toArray, List.getElem?_cons_zero, List.getElem?_cons_succ] at y1 y2 y3 y4 y5 y6 y7
        have hzlt := hZr.lt
        have hjob := Lib.hid (show jobF S.jobs x t frm = { j with le := x, frm := frm } by
          unfold jobF
          have hil := (List.getElem?_eq_some_iff.1 hj).1
          have : S.jobs.find? (fun j => j.le.task == x.task) = some j := by
            rw [List.find?_eq_some_iff_getElem]
            refine ⟨q1', i, hil, (List.getElem?_eq_some_iff.1 hj).2, fun k hk => ?_⟩
            have := hno (S.jobs[k]) (List.mem_iff_getElem?.2 ⟨k, by rw [List.getElem?_take, if_pos hk]; exact List.getElem?_eq_getElem _⟩)
            simp [this]
          rw [this])
        have e' := Lib.hid e
        have hdjW := Lib.hid (h'.out.job _ (List.mem_of_getElem? hp))
        clear hno hj hdj hbel hbW hcell hp bC hXr e hZr
        go_wp2
        have RR := (blk12 hZr'.out (by rfl) (.int .i64 x.task) (.int .i64 x.queue) (.int .i64 x.node) (.slice A9 x.cores.length c9) (.int .i64 x.mem) (.int .i64 x.since) (.int .i64 x.til) (.bool x.stop) (.int .i64 j.work) (.int .i64 j.had) (.int .i64 frm) (.slice Au j.th.length cu)).alloc (.cells #[.int .i64 x.task, .int .i64 x.queue, .int .i64 x.node, .slice A9 x.cores.length c9, .int .i64 x.mem, .int .i64 x.since, .int .i64 x.til, .bool x.stop, .int .i64 j.work, .int .i64 j.had, .int .i64 frm, .slice Au j.th.length cu] tDJ)
        refine bodyPost_ret (results_c rfl _ _ _ tDJ #[.int .i64 x.task, .int .i64 x.queue, .int .i64 x.node, .slice A9 x.cores.length c9, .int .i64 x.mem, .int .i64 x.since, .int .i64 x.til, .bool x.stop, .int .i64 j.work, .int .i64 j.had, .int .i64 frm, .slice Au j.th.length cu] (0, 0) _ rfl RR Try.underlying163 rfl (by kernel_rfl)) rfl ?_
        have hbF0 := below12 (hb7'.out.trans (below_le hbel'.out hb7'.out.size)) (b := W.heap.size + 1 + 1 + 1) (by omega) (.int .i64 x.task) (.int .i64 x.queue) (.int .i64 x.node) (.slice A9 x.cores.length c9) (.int .i64 x.mem) (.int .i64 x.since) (.int .i64 x.til) (.bool x.stop) (.int .i64 j.work) (.int .i64 j.had) (.int .i64 frm) (.slice Au j.th.length cu)
        have hbF := hbF0.alloc hbF0.size (.cells #[.int .i64 x.task, .int .i64 x.queue, .int .i64 x.node, .slice A9 x.cores.length c9, .int .i64 x.mem, .int .i64 x.since, .int .i64 x.til, .bool x.stop, .int .i64 j.work, .int .i64 j.had, .int .i64 frm, .slice Au j.th.length cu] tDJ)
        have hD := (hdjW.out.keep (fun k hk _ => hbF.block k hk)).mono (Q' := fun k => Q k ∨ W.heap.size ≤ k) fun k _ hk => .inl hk
        have hC8 := own_below hC7'.out hbel'.out
        have hC9 := World.ownsRow.alloc (Str.own_move (w' := set12 wr (W.heap.size + 1 + 1 + 1) (.int .i64 x.task) (.int .i64 x.queue) (.int .i64 x.node) (.slice A9 x.cores.length c9) (.int .i64 x.mem) (.int .i64 x.since) (.int .i64 x.til) (.bool x.stop) (.int .i64 j.work) (.int .i64 j.had) (.int .i64 frm) (.slice Au j.th.length cu)) hC8 fun k hk => set12_heap _ _ _ _ _ _ _ _ _ _ _ _ _ _ (by have := (own_block hC8 hk).1; omega)) (.cells #[.int .i64 x.task, .int .i64 x.queue, .int .i64 x.node, .slice A9 x.cores.length c9, .int .i64 x.mem, .int .i64 x.since, .int .i64 x.til, .bool x.stop, .int .i64 j.work, .int .i64 j.had, .int .i64 frm, .slice Au j.th.length cu] tDJ)
        rw [hjob.out]
        exact ⟨⟨A9, c9, .slice Au j.th.length cu⟩, Au, cu, rfl, rfl, ⟨own_lower' hC9 (Nat.zero_le _), fun k hk => .inr (by have := (own_block hC9 hk).1; omega), hD.grp, hD.grpQ⟩, hbF⟩
      · have q1' : (j.le.task == x.task) = false := beq_eq_false_iff_ne.mpr e
        have hb2 := Lib.hid (hbel.alloc hbel.size (.cells #[.int .i64 j.le.task, .int .i64 j.le.queue, .int .i64 j.le.node, .slice Aq j.le.cores.length cq, .int .i64 j.le.mem, .int .i64 j.le.since, .int .i64 j.le.til, .bool j.le.stop, .int .i64 j.work, .int .i64 j.had, .int .i64 j.frm, .slice Au j.th.length cu] tDJ))
        have q1n := Lib.hid q1'
        clear hno hj hdj hbel hbW hcell hp bC hXr e
        go_wp2
        go_roundw
        case rel => exact ⟨i + 1, by go_num, by omega, fun y hy => by
          rw [List.take_add_one, hj'.out] at hy
          rcases List.mem_append.1 hy with hy | hy
          · exact hno'.out y hy
          · obtain rfl := List.mem_singleton.1 hy
            exact q1n.out, hb2.out⟩
        case measure => simp [intOf]; omega
    · have hi' : i = l.length := by omega
      subst hi'
      have hjob := Lib.hid (show jobF S.jobs x t frm = ⟨x, frm, t.work, 0, joinsF 0 [] t.tk⟩ by
        unfold jobF
        have : S.jobs.find? (fun j => j.le.task == x.task) = none := by
          rw [List.find?_eq_none]
          intro j hj
          rw [List.take_of_length_le (by have := h'.out.len; omega)] at hno
          simp [hno j hj]
        rw [this])
      obtain ⟨htk1, htk2⟩ := fits_tk htk'.out
      have htk2' := Lib.hid htk2
      have hXr := hX7'.out.below hbel hX7'.out.lt
      have hTr := hT7'.out.below hbel hT7'.out.lt
      have hTa := hTr.alloc (.cells #[.int .i64 x.task, .int .i64 x.queue, .int .i64 x.node, .slice A9 x.cores.length c9, .int .i64 x.mem, .int .i64 x.since, .int .i64 x.til, .bool x.stop, .int .i64 t.work, .int .i64 0, .int .i64 frm, .slice none 0 0] tDJ)
      have y0 := hXr.cell 0
      have y1 := hXr.cell 1
      have y2 := hXr.cell 2
      have y3 := hXr.cell 3
      have y4 := hXr.cell 4
      have y5 := hXr.cell 5
      have y6 := hXr.cell 6
      have y7 := hXr.cell 7
      have z4 := hTr.cell 4
      have z5 := hTa.cell 5
      simp only [List.getElem?_toArray, List.getElem?_cons_zero, List.getElem?_cons_succ] at y0 y1 y2 y3 y4 y5 y6 y7 z4 z5
      have bN := Lib.hid (Blk.new wr tDJ #[.int .i64 x.task, .int .i64 x.queue, .int .i64 x.node, .slice A9 x.cores.length c9, .int .i64 x.mem, .int .i64 x.since, .int .i64 x.til, .bool x.stop, .int .i64 t.work, .int .i64 0, .int .i64 frm, .slice none 0 0])
      have bW := Lib.hid (hbW.alloc hbW.size (.cells #[.int .i64 x.task, .int .i64 x.queue, .int .i64 x.node, .slice A9 x.cores.length c9, .int .i64 x.mem, .int .i64 x.since, .int .i64 x.til, .bool x.stop, .int .i64 t.work, .int .i64 0, .int .i64 frm, .slice none 0 0] tDJ))
      have hsw := hbW.size
      have hrtW := Lib.hid (hrt'.out.below bW.out)
      have hCr := Lib.hid (own_below hC7'.out hbel)
      obtain ⟨JJ, hJJ⟩ : ∃ JJ, wr.heap.size = JJ := ⟨_, rfl⟩
      have hJW : W.heap.size ≤ JJ := by omega
      have hCn := Lib.hid (show ∀ k, (Value.slice A9 x.cores.length c9).ownBlock = some k → k < JJ ∧ W.heap.size ≤ k from fun k hk => by
        obtain ⟨h1, h2, _⟩ := own_block hCr.out hk
        exact ⟨by omega, by omega⟩)
      have hCa := Lib.hid (hCr.out.alloc (.cells #[.int .i64 x.task, .int .i64 x.queue, .int .i64 x.node, .slice A9 x.cores.length c9, .int .i64 x.mem, .int .i64 x.since, .int .i64 x.til, .bool x.stop, .int .i64 t.work, .int .i64 0, .int .i64 frm, .slice none 0 0] tDJ))
      have hZr := Lib.hid (hZ7'.out.below hbel hZ7'.out.lt)
      have hW3 := hZr.out.lt
      have hZa := Lib.hid (hZr.out.alloc (.cells #[.int .i64 x.task, .int .i64 x.queue, .int .i64 x.node, .slice A9 x.cores.length c9, .int .i64 x.mem, .int .i64 x.since, .int .i64 x.til, .bool x.stop, .int .i64 t.work, .int .i64 0, .int .i64 frm, .slice none 0 0] tDJ))
      clear hno hbel hbW hXr hTr hTa htk2
      go_wp2
      rw [hJJ] at bN hW3
      obtain ⟨wa, hwa⟩ : ∃ wa, wr.alloc (.cells #[.int .i64 x.task, .int .i64 x.queue, .int .i64 x.node, .slice A9 x.cores.length c9, .int .i64 x.mem, .int .i64 x.since, .int .i64 x.til, .bool x.stop, .int .i64 t.work, .int .i64 0, .int .i64 frm, .slice none 0 0] tDJ) = wa := ⟨_, rfl⟩
      rw [hwa] at bN bW z5 hrtW hCa hZa ⊢
      clear hwa
      go_loopw [46] (fun iv wq => ∃ (i : Nat) (u : Value), iv = .int .i64 (i : Int) ∧ i ≤ t.tk.length ∧ RowR wq u (joinsF 0 [] (t.tk.take i)) ∧ (∀ k, u.ownBlock = some k → JJ < k) ∧ Blk wq JJ tDJ #[.int .i64 x.task, .int .i64 x.queue, .int .i64 x.node, .slice A9 x.cores.length c9, .int .i64 x.mem, .int .i64 x.since, .int .i64 x.til, .bool x.stop, .int .i64 t.work, .int .i64 0, .int .i64 frm, u] ∧ Below JJ wa wq)
        (fun iv _ => t.tk.length - (intOf iv).toNat)
      case atStart => exact ⟨0, .slice none 0 0, rfl, Nat.zero_le _, (by rw [List.take_zero]; exact World.ownsRow_nil _ _ _ _), (fun k hk => by cases hk), bN.out, Below.refl _ _⟩
      case round =>
        clear z5
        obtain ⟨i, u, rfl, hi2, hrow, huk, hbj, hbq⟩ := hrel
        obtain ⟨Au, cu, rfl⟩ := hrow.slice
        have hbqW := bW.out.trans (below_le hbq hJW)
        by_cases hlt2 : i < t.tk.length
        · obtain ⟨k, hk⟩ : ∃ k, t.tk[i]? = some k := ⟨t.tk[i], List.getElem?_eq_getElem hlt2⟩
          obtain ⟨at', rfl, _, p0⟩ := (hrt'.out.below hbqW) i k hk
          obtain ⟨k1, k2⟩ := htk2'.out k (List.mem_of_getElem? hk)
          have hq : Int.tdiv 720720 k = sd k := by unfold sd; exact Int.tdiv_eq_ediv_of_nonneg (by omega)
          have hne : (k == 0) = false := beq_eq_false_iff_ne.mpr (by omega)
          have h0 : ¬ k = 0 := by omega
          have hw : IntKind.i64.wrap (sd k) = sd k := IntWalk.i64_in _ (by have := sd_nonneg k1 k2; omega)
          have hst := Lib.hid (joinsF_take t.tk i k hk)
          have hgood := Lib.hid (joinsF_good (t.tk.take i) 0 [] good_nil)
          have j11 := hbj.cell 11
          simp only [List.getElem?_toArray, List.getElem?_cons_zero, List.getElem?_cons_succ] at j11
          have hrow' := Lib.hid (show RowR wr.drew _ _ from hrow)
          have huk' := Lib.hid huk
          have hbj' := Lib.hid hbj.drew
          have hbq' := Lib.hid hbq.drew
          have hjl := hbj.lt
          clear hrow huk hbj hbq hk hbqW
          go_wp2
          go_region_law (first | (go_simp; go_at_call 48; refine (joinR_callsQ Au cu (joinsF 0 [] (t.tk.take i)) (i : Int) k (sd k) _ hgood.out hrow'.out).mono ?_; rintro e w5 ⟨u5, rfl, r5, q5, b5⟩; obtain ⟨A5, c5, rfl⟩ := r5.slice; have hb5 := hbj'.out.below b5 hbj'.out.lt; have l5 := hb5.cell 11; have f5 := hb5.frozen 11; simp only [List.getElem?_toArray, List.getElem?_cons_zero, List.getElem?_cons_succ] at l5; have hb5' := Lib.hid hb5; have r5' := Lib.hid r5; have q5' := Lib.hid q5; have b5' := Lib.hid b5; clear hb5 r5 q5 b5))
          all_goals (
            go_wp2
            go_roundw
            case rel =>
              have hku : ∀ k', (Value.slice A5 (joinL (joinsF 0 [] (t.tk.take i)) (i : Int) k (sd k)).1.length c5).ownBlock = some k' → JJ < k' := fun k' hk' => q5'.out.elim (fun e => huk'.out k' (e ▸ hk')) (fun h => Nat.lt_of_lt_of_le hjl (h k' hk'))
              refine ⟨i + 1, .slice A5 (joinL (joinsF 0 [] (t.tk.take i)) (i : Int) k (sd k)).1.length c5, by go_num, by omega, ?_, hku, ?_, ?_⟩
              · rw [hst.out]
                exact Str.own_move r5'.out fun k' hk' => Below.heap_setCell _ _ _ k' (by have := hku k' hk'; show k' ≠ JJ; omega)
              · have := hb5'.out.set 11 (.slice A5 (joinL (joinsF 0 [] (t.tk.take i)) (i : Int) k (sd k)).1.length c5) (by simp)
                simpa using this
              · exact (hbq'.out.trans (below_le b5'.out (by have := hbq'.out.size; show JJ ≤ wr.heap.size; omega))).setCell (p := ⟨JJ, 11, none⟩) (Nat.le_refl _) _
            case measure => simp [intOf]; omega)
        · have hi3 : i = t.tk.length := by omega
          subst hi3
          rw [List.take_of_length_le (Nat.le_refl _)] at hrow
          have hj' := Lib.hid hbj
          have j0 := hbj.cell 0
          have j1 := hbj.cell 1
          have j2 := hbj.cell 2
          have j3 := hbj.cell 3
          have j4 := hbj.cell 4
          have j5 := hbj.cell 5
          have j6 := hbj.cell 6
          have j7 := hbj.cell 7
          have j8 := hbj.cell 8
          have j9 := hbj.cell 9
          have j10 := hbj.cell 10
          have j11 := hbj.cell 11
          simp only [List.getElem?_toArray, List.getElem?_cons_zero, List.getElem?_cons_succ, List.take_of_length_le (Nat.le_refl t.tk.length)] at j0 j1 j2 j3 j4 j5 j6 j7 j8 j9 j10 j11
          have hZq := (hbq.block _ hW3).trans hZa.out
          have hZq' := Lib.hid (show Blk wr _ tDJ #[.int .i64 0, .int .i64 0, .int .i64 0, .slice none 0 0, .int .i64 0, .int .i64 0, .int .i64 0, .bool false, .int .i64 0, .int .i64 0, .int .i64 0, .slice none 0 0] from hZq)
          have w0 := hZq'.out.cell 0
          have w1 := hZq'.out.cell 1
          have w2 := hZq'.out.cell 2
          have w3 := hZq'.out.cell 3
          have w4 := hZq'.out.cell 4
          have w5 := hZq'.out.cell 5
          have w6 := hZq'.out.cell 6
          have w7 := hZq'.out.cell 7
          have w8 := hZq'.out.cell 8
          have w9 := hZq'.out.cell 9
          have w10 := hZq'.out.cell 10
          have w11 := hZq'.out.cell 11
          simp only [List.getElem?_toArray, List.getElem?_cons_zero, List.getElem?_cons_succ] at w0 w1 w2 w3 w4 w5 w6 w7 w8 w9 w10 w11
          have z0 := hZq'.out.frozen 0
          have z1 := hZq'.out.frozen 1
          have z2 := hZq'.out.frozen 2
          have z3 := hZq'.out.frozen 3
          have z4 := hZq'.out.frozen 4
          have z5 := hZq'.out.frozen 5
          have z6 := hZq'.out.frozen 6
          have z7 := hZq'.out.frozen 7
          have z8 := hZq'.out.frozen 8
          have z9 := hZq'.out.frozen 9
          have z10 := hZq'.out.frozen 10
          have z11 := hZq'.out.frozen 11
          have hzlt := hZq'.out.lt
          have hrow' := Lib.hid hrow
          have huk' := Lib.hid huk
          have hbqW' := Lib.hid hbqW
          have hCq := Lib.hid (Str.own_move hCa.out fun k hk => hbq.block k (hCn.out k hk).1)
          clear hrow huk hbqW hbq hbj hZq
          go_wp2
          have RR := blk12 hZq'.out (by rfl) (.int .i64 x.task) (.int .i64 x.queue) (.int .i64 x.node) (.slice A9 x.cores.length c9) (.int .i64 x.mem) (.int .i64 x.since) (.int .i64 x.til) (.bool x.stop) (.int .i64 t.work) (.int .i64 0) (.int .i64 frm) (.slice Au (joinsF 0 [] t.tk).length cu)
          refine bodyPost_ret (results_c rfl _ _ _ tDJ #[.int .i64 x.task, .int .i64 x.queue, .int .i64 x.node, .slice A9 x.cores.length c9, .int .i64 x.mem, .int .i64 x.since, .int .i64 x.til, .bool x.stop, .int .i64 t.work, .int .i64 0, .int .i64 frm, .slice Au (joinsF 0 [] t.tk).length cu] (0, 0) _ rfl RR Try.underlying163 rfl (by kernel_rfl)) rfl ?_
          have hbF := below12 hbqW'.out (b := W.heap.size + 1 + 1 + 1) (by omega) (.int .i64 x.task) (.int .i64 x.queue) (.int .i64 x.node) (.slice A9 x.cores.length c9) (.int .i64 x.mem) (.int .i64 x.since) (.int .i64 x.til) (.bool x.stop) (.int .i64 t.work) (.int .i64 0) (.int .i64 frm) (.slice Au (joinsF 0 [] t.tk).length cu)
          have hH : ∀ k, k ≠ W.heap.size + 1 + 1 + 1 → (set12 wr (W.heap.size + 1 + 1 + 1) (.int .i64 x.task) (.int .i64 x.queue) (.int .i64 x.node) (.slice A9 x.cores.length c9) (.int .i64 x.mem) (.int .i64 x.since) (.int .i64 x.til) (.bool x.stop) (.int .i64 t.work) (.int .i64 0) (.int .i64 frm) (.slice Au (joinsF 0 [] t.tk).length cu)).heap[k]? = wr.heap[k]? := fun k hk => set12_heap _ _ _ _ _ _ _ _ _ _ _ _ _ _ hk
          rw [hjob.out]
          rw [List.take_of_length_le (Nat.le_refl _)] at huk'
          have key : ∀ wF, Below W.heap.size W wF → (∀ k, k ≠ W.heap.size + 1 + 1 + 1 → wF.heap[k]? = wr.heap[k]?) → ∃ d : DJ, ∃ Au' cu', d.u = .slice Au' (joinsF 0 [] t.tk).length cu' ∧ Ending.returned (.agg #[.int .i64 x.task, .int .i64 x.queue, .int .i64 x.node, .slice A9 x.cores.length c9, .int .i64 x.mem, .int .i64 x.since, .int .i64 x.til, .bool x.stop, .int .i64 t.work, .int .i64 0, .int .i64 frm, .slice Au (joinsF 0 [] t.tk).length cu]) = .returned (.agg (jdCs (⟨x, frm, t.work, 0, joinsF 0 [] t.tk⟩, d)).toArray) ∧ DocJ (fun k => Q k ∨ W.heap.size ≤ k) wF (⟨x, frm, t.work, 0, joinsF 0 [] t.tk⟩, d) ∧ Below W.heap.size W wF := by
            intro wF hbF hH
            have hC9 := Str.own_move (w' := wF) hCq.out fun k hk => hH k (by have := (hCn.out k hk).2; have h1 := (own_block hCq.out hk).1; omega)
            exact ⟨⟨A9, c9, .slice Au (joinsF 0 [] t.tk).length cu⟩, Au, cu, rfl, rfl, ⟨own_lower' hC9 (Nat.zero_le _), fun k hk => .inr (hCn.out k hk).2, Str.own_move hrow'.out fun k hk => hH k (by have := huk'.out k hk; omega), fun k hk => .inr (by have := huk'.out k hk; omega)⟩, hbF⟩
          exact key _ hbF hH
end Go.Proofs.Ytkcmmghhghgdpaa.Agt
end
section
namespace Go.Proofs.Ytkcmmghhghgdpaa.Agt
open Go.RowKit Go.Shelf Go.Maps Go.Proofs.Ytkcmmghhghgdpaa.Iter Go.Proofs.Ytkcmmghhghgdpaa.Str Go.Proofs.YtkcmmghhghgdpaaW.PrintWords Go.Proofs.YtkcmmghhghgdpaaW.PrintLast
set_option linter.unusedVariables false
set_option linter.unusedSimpArgs false
theorem replyJ_take (s : Ag) (ts : List Ts) (xs : List Ls) (frm : Int) (i : Nat) (x : Ls) (t : Ts) (hx : xs[i]? = some x) (ht : findT ts x.task = some t) : (replyJ s ts (xs.take (i + 1)) frm) = replyJ s ts (xs.take i) frm ++ [jobF s.jobs x t frm] := by
  unfold replyJ
  rw [List.take_add_one, hx, List.map_append]
  simp [ht]
theorem own_drew' {W : World} {B e size n : Nat} {v : Value} {xs : List Value} (h : W.ownsRow B e size v n xs) : W.drew.ownsRow B e size v n xs := h
theorem infoDJ : (Try.prog.info? tDJ).map (fun i => (i.zero, i.size, i.bytes)) = some (some (.agg #[.int .i64 0, .int .i64 0, .int .i64 0, .slice none 0 0, .int .i64 0, .int .i64 0, .int .i64 0, .bool false, .int .i64 0, .int .i64 0, .int .i64 0, .slice none 0 0]), 12, 128) := by kernel_rfl
theorem blkC12 {w : World} {b : Nat} {t : TypeId} {v0 v1 v2 v3 v4 v5 v6 v7 v8 v9 v10 v11 : Value} (h : Blk w b t #[v0, v1, v2, v3, v4, v5, v6, v7, v8, v9, v10, v11]) :
    w.cell? ⟨b, 0, none⟩ = some v0 ∧ w.cell? ⟨b, 1, none⟩ = some v1 ∧ w.cell? ⟨b, 2, none⟩ = some v2 ∧ w.cell? ⟨b, 3, none⟩ = some v3 ∧ w.cell? ⟨b, 4, none⟩ = some v4 ∧ w.cell? ⟨b, 5, none⟩ = some v5 ∧ w.cell? ⟨b, 6, none⟩ = some v6 ∧ w.cell? ⟨b, 7, none⟩ = some v7 ∧ w.cell? ⟨b, 8, none⟩ = some v8 ∧ w.cell? ⟨b, 9, none⟩ = some v9 ∧ w.cell? ⟨b, 10, none⟩ = some v10 ∧ w.cell? ⟨b, 11, none⟩ = some v11 :=
  ⟨h.cell 0, h.cell 1, h.cell 2, h.cell 3, h.cell 4, h.cell 5, h.cell 6, h.cell 7, h.cell 8, h.cell 9, h.cell 10, h.cell 11⟩
theorem blkC8 {w : World} {b : Nat} {t : TypeId} {v0 v1 v2 v3 v4 v5 v6 v7 : Value} (h : Blk w b t #[v0, v1, v2, v3, v4, v5, v6, v7]) :
    w.cell? ⟨b, 0, none⟩ = some v0 ∧ w.cell? ⟨b, 1, none⟩ = some v1 ∧ w.cell? ⟨b, 2, none⟩ = some v2 ∧ w.cell? ⟨b, 3, none⟩ = some v3 ∧ w.cell? ⟨b, 4, none⟩ = some v4 ∧ w.cell? ⟨b, 5, none⟩ = some v5 ∧ w.cell? ⟨b, 6, none⟩ = some v6 ∧ w.cell? ⟨b, 7, none⟩ = some v7 :=
  ⟨h.cell 0, h.cell 1, h.cell 2, h.cell 3, h.cell 4, h.cell 5, h.cell 6, h.cell 7⟩
theorem blkC7 {w : World} {b : Nat} {t : TypeId} {v0 v1 v2 v3 v4 v5 v6 : Value} (h : Blk w b t #[v0, v1, v2, v3, v4, v5, v6]) :
    w.cell? ⟨b, 0, none⟩ = some v0 ∧ w.cell? ⟨b, 1, none⟩ = some v1 ∧ w.cell? ⟨b, 2, none⟩ = some v2 ∧ w.cell? ⟨b, 3, none⟩ = some v3 ∧ w.cell? ⟨b, 4, none⟩ = some v4 ∧ w.cell? ⟨b, 5, none⟩ = some v5 ∧ w.cell? ⟨b, 6, none⟩ = some v6 :=
  ⟨h.cell 0, h.cell 1, h.cell 2, h.cell 3, h.cell 4, h.cell 5, h.cell 6⟩
theorem DocJ.move {Q : Nat → Prop} {W W' : World} {p : Jb × DJ} (h : DocJ Q W p) (hk : ∀ (k : Nat) (cur : Array Value) (e : TypeId), k < W.heap.size → W.heap[k]? = some (Obj.cells cur e (0, 0)) → e ≠ tDJ → e ≠ tDA → W'.heap[k]? = W.heap[k]?) : DocJ Q W' p :=
  ⟨Str.own_move h.cores fun k hb => by obtain ⟨_, hl, cur, hc⟩ := own_block h.cores hb; exact hk k cur tI hl hc (by decide) (by decide), h.coreQ,
   Str.own_move h.grp fun k hb => by obtain ⟨_, hl, cur, hc⟩ := own_block h.grp hb; exact hk k cur tR hl hc (by decide) (by decide), h.grpQ⟩
theorem DocJ.grown {Q : Nat → Prop} {W W' : World} {p : Jb × DJ} (h : DocJ Q W p) {v : Value} {base n : Nat} {xs : List Value} (hv : W.ownsRow base tDJ 12 v n xs) (hg : W.grownBy W' v.ownBlock) : DocJ Q W' p :=
  h.move fun k cur e hl hc h1 _ => hg.block k hl fun hr => by
    obtain ⟨_, _, cur2, hc2⟩ := own_block hv hr.symm
    rw [hc] at hc2
    injection hc2 with hc2
    injection hc2 with _ hc2 _
    exact h1 hc2
theorem jobC {Q : Nat → Prop} {nid nco nme nin nbe short clock inc replied : Int} {runs : Bool} {sent : List Int} {jobs : List Jb} {A A2 : Option Addr} {c c2 : Nat} {l : List (Jb × DJ)} (W : World) (h : DocM Q (.slice A sent.length c) (.slice A2 l.length c2) l ⟨nid, nco, nme, nin, nbe, short, clock, runs, inc, sent, replied, jobs⟩ W) (hl : jobs.length ≤ 64) (x : Ls) (A' : Option Addr) (c' : Nat) (hrx : ReadsI W A' x.cores) (hc : x.cores.length ≤ c') (hwx : wfI x.task) (hxl : x.cores.length ≤ 2000000)
    (t : Ts) (At : Option Addr) (ct : Nat) (hrt : ReadsI W At t.tk) (htk : fitsT t = true) (frm : Int) {J : Jb} (hJ : jobF jobs x t frm = J) :
    Calls Try.prog 91 #[.agg #[.int .i64 nid, .int .i64 nco, .int .i64 nme, .int .i64 nin, .int .i64 nbe, .int .i64 short, .int .i64 clock, .bool runs, .int .i64 inc, .slice A sent.length c, .int .i64 replied, .slice A2 l.length c2], .agg #[.int .i64 x.task, .int .i64 x.queue, .int .i64 x.node, .slice A' x.cores.length c', .int .i64 x.mem, .int .i64 x.since, .int .i64 x.til, .bool x.stop], .agg #[.int .i64 t.id, .int .i64 t.queue, .int .i64 t.cpu, .int .i64 t.mem, .int .i64 t.work, .slice At t.tk.length ct, .int .i64 t.state], .int .i64 frm] W fun e W' => ∃ A7 c7 Au cu, e = .returned (.agg #[.int .i64 J.le.task, .int .i64 J.le.queue, .int .i64 J.le.node, .slice A7 J.le.cores.length c7, .int .i64 J.le.mem, .int .i64 J.le.since, .int .i64 J.le.til, .bool J.le.stop, .int .i64 J.work, .int .i64 J.had, .int .i64 J.frm, .slice Au J.th.length cu]) ∧ DocJ (fun k => Q k ∨ W.heap.size ≤ k) W' (J, ⟨A7, c7, .slice Au J.th.length cu⟩) ∧ Below W.heap.size W W' := by
  subst hJ
  refine (jobD W h hl x A' c' hrx hc hwx hxl t At ct hrt htk frm).mono ?_
  rintro e W' ⟨⟨A7, c7, u7⟩, Au, cu, hu, rfl, hd, hb⟩
  dsimp only at hu
  subst hu
  exact ⟨A7, c7, Au, cu, rfl, hd, hb⟩
theorem flatD_one (p : Jb × DJ) (A : Option Addr) (c : Nat) (A2 : Option Addr) (c2 : Nat) (h : p.2.u = .slice A2 p.1.th.length c2) : ∀ u ∈ jdCs p, u.oneCell' = true := fun u hu => by
  simp only [jdCs, h, List.mem_cons, List.not_mem_nil, or_false] at hu
  rcases hu with rfl | rfl | rfl | rfl | rfl | rfl | rfl | rfl | rfl | rfl | rfl | rfl <;> rfl
theorem formD' {F : Nat → Prop} (nid nco nme nin nbe : Int) (A : Option Addr) (c0 : Nat) (xs : List Ls) (A2 : Option Addr) (c2 : Nat) (ts : List Ts) (W : World) (hL : ReadsL F W A xs) (hT : ReadsT F W A2 ts) (hxl : xs.length ≤ 9223372036854775807) (htl : ts.length ≤ 9223372036854775807) (hn : nco ≤ 64) {b : Bool} (hb : (risesT ts && (formF nid nco ts xs).isSome) = b) :
    Calls Try.prog 89 #[.agg #[.int .i64 nid, .int .i64 nco, .int .i64 nme, .int .i64 nin, .int .i64 nbe], .slice A xs.length c0, .slice A2 ts.length c2] W fun e W' => e = .returned (.bool b) ∧ Below W.heap.size W W' := hb ▸ formD nid nco nme nin nbe A c0 xs A2 c2 ts W hL hT hxl htl hn
set_option maxRecDepth 100000 in
set_option maxHeartbeats 4000000 in
theorem replyD {Q : Nat → Prop} {vs vj : Value} {l : List (Jb × DJ)} {S : Ag} {F : Nat → Prop} (n m : Int) (A5 : Option Addr) (c5 : Nat) (xs : List Ls) (A6 : Option Addr) (c6 : Nat) (ts : List Ts) (W : World) (h : DocM Q vs vj l S W) (hL : ReadsL F W A5 xs) (hT : ReadsT F W A6 ts) (hxl : xs.length ≤ 9223372036854775807) (htl : ts.length ≤ 9223372036854775807) (hok : AgOk S) (hsl : S.sent.length ≤ 100000) :
    Calls Try.prog 68 #[.agg (agCells S vs vj), .int .i64 n, .int .i64 m, .slice A5 xs.length c5, .slice A6 ts.length c6] W fun e W' => ∃ x', e = .returned (.tuple #[x', .int .i64 (replyG S n m xs ts).2]) ∧ DocR (fun k => Q k ∨ W.heap.size ≤ k) W' x' (replyG S n m xs ts).1 ∧ Below W.heap.size W W' := by
  obtain ⟨nid, nco, nme, nin, nbe, short, clock, runs, inc, sent, replied, jobs⟩ := S
  obtain ⟨A, c, rfl⟩ := own_slice h.sent
  obtain ⟨A2, c2, rfl⟩ := own_slice h.jrow
  dsimp only [agCells]
  have h' := Lib.hid h
  clear h
  have hL' := Lib.hid hL
  have hT' := Lib.hid hT
  have hok' := Lib.hid hok
  have hnco : nco ≤ 64 := hok.nco
  have hsl' : sent.length ≤ 100000 := hsl
  clear hL hT hok hsl
  cases runs with
  | false =>
    have bX := Blk.new W tDA #[.int .i64 nid, .int .i64 nco, .int .i64 nme, .int .i64 nin, .int .i64 nbe, .int .i64 short, .int .i64 clock, .bool false, .int .i64 inc, .slice A sent.length c, .int .i64 replied, .slice A2 l.length c2]
    have d0 := bX.cell 0
    have d1 := bX.cell 1
    have d2 := bX.cell 2
    have d3 := bX.cell 3
    have d4 := bX.cell 4
    have d5 := bX.cell 5
    have d6 := bX.cell 6
    have d7 := bX.cell 7
    have d8 := bX.cell 8
    have d9 := bX.cell 9
    have d10 := bX.cell 10
    have d11 := bX.cell 11
    simp only [List.getElem?_toArray, List.getElem?_cons_zero, List.getElem?_cons_succ] at d0 d1 d2 d3 d4 d5 d6 d7 d8 d9 d10 d11
    have b0' := Lib.hid ((Below.refl W.heap.size W).alloc (Nat.le_refl _) (.cells #[.int .i64 nid, .int .i64 nco, .int .i64 nme, .int .i64 nin, .int .i64 nbe, .int .i64 short, .int .i64 clock, .bool false, .int .i64 inc, .slice A sent.length c, .int .i64 replied, .slice A2 l.length c2] tDA))
    have bX' := Lib.hid bX
    clear bX
    have hj := Lib.hid (show replyG ⟨nid, nco, nme, nin, nbe, short, clock, false, inc, sent, replied, jobs⟩ n m xs ts = (⟨nid, nco, nme, nin, nbe, short, clock, false, inc, sent, replied, jobs⟩, 13) from if_neg (by simp))
    simp only [hj.out]
    go_enter Try.func68, Try.ntmps68
    go_wp2
    have RR := Blk.new (W.alloc (.cells #[.int .i64 nid, .int .i64 nco, .int .i64 nme, .int .i64 nin, .int .i64 nbe, .int .i64 short, .int .i64 clock, .bool false, .int .i64 inc, .slice A sent.length c, .int .i64 replied, .slice A2 l.length c2] tDA)) tDA #[.int .i64 nid, .int .i64 nco, .int .i64 nme, .int .i64 nin, .int .i64 nbe, .int .i64 short, .int .i64 clock, .bool false, .int .i64 inc, .slice A sent.length c, .int .i64 replied, .slice A2 l.length c2]
    rw [World.size_alloc] at RR
    refine bodyPost_ret (results_ct rfl _ _ _ tDA #[.int .i64 nid, .int .i64 nco, .int .i64 nme, .int .i64 nin, .int .i64 nbe, .int .i64 short, .int .i64 clock, .bool false, .int .i64 inc, .slice A sent.length c, .int .i64 replied, .slice A2 l.length c2] (0, 0) _ rfl RR Try.underlying91 rfl (by kernel_rfl)) rfl ?_
    exact ⟨_, rfl, ⟨_, _, l, rfl, (h'.out.mono fun k _ hk => .inl hk).below (below2 _ _)⟩, below2 _ _⟩
  | true =>
    have bX := Blk.new W tDA #[.int .i64 nid, .int .i64 nco, .int .i64 nme, .int .i64 nin, .int .i64 nbe, .int .i64 short, .int .i64 clock, .bool true, .int .i64 inc, .slice A sent.length c, .int .i64 replied, .slice A2 l.length c2]
    have d0 := bX.cell 0
    have d1 := bX.cell 1
    have d2 := bX.cell 2
    have d3 := bX.cell 3
    have d4 := bX.cell 4
    have d5 := bX.cell 5
    have d6 := bX.cell 6
    have d7 := bX.cell 7
    have d8 := bX.cell 8
    have d9 := bX.cell 9
    have d10 := bX.cell 10
    have d11 := bX.cell 11
    simp only [List.getElem?_toArray, List.getElem?_cons_zero, List.getElem?_cons_succ] at d0 d1 d2 d3 d4 d5 d6 d7 d8 d9 d10 d11
    have b0' := Lib.hid ((Below.refl W.heap.size W).alloc (Nat.le_refl _) (.cells #[.int .i64 nid, .int .i64 nco, .int .i64 nme, .int .i64 nin, .int .i64 nbe, .int .i64 short, .int .i64 clock, .bool true, .int .i64 inc, .slice A sent.length c, .int .i64 replied, .slice A2 l.length c2] tDA))
    have bX' := Lib.hid bX
    clear bX
    by_cases k1 : n = inc
    · have x1 : (n == inc) = true := beq_iff_eq.mpr k1
      by_cases k2 : m < 1
      · have hj := Lib.hid (show replyG ⟨nid, nco, nme, nin, nbe, short, clock, true, inc, sent, replied, jobs⟩ n m xs ts = (⟨nid, nco, nme, nin, nbe, short, clock, true, inc, sent, replied, jobs⟩, 15) by unfold replyG; rw [if_pos rfl, if_pos (show staleG _ n m from .inr (.inl k2))])
        simp only [hj.out]
        go_enter Try.func68, Try.ntmps68
        go_wp2
        have RR := Blk.new (W.alloc (.cells #[.int .i64 nid, .int .i64 nco, .int .i64 nme, .int .i64 nin, .int .i64 nbe, .int .i64 short, .int .i64 clock, .bool true, .int .i64 inc, .slice A sent.length c, .int .i64 replied, .slice A2 l.length c2] tDA)) tDA #[.int .i64 nid, .int .i64 nco, .int .i64 nme, .int .i64 nin, .int .i64 nbe, .int .i64 short, .int .i64 clock, .bool true, .int .i64 inc, .slice A sent.length c, .int .i64 replied, .slice A2 l.length c2]
        rw [World.size_alloc] at RR
        refine bodyPost_ret (results_ct rfl _ _ _ tDA #[.int .i64 nid, .int .i64 nco, .int .i64 nme, .int .i64 nin, .int .i64 nbe, .int .i64 short, .int .i64 clock, .bool true, .int .i64 inc, .slice A sent.length c, .int .i64 replied, .slice A2 l.length c2] (0, 0) _ rfl RR Try.underlying91 rfl (by kernel_rfl)) rfl ?_
        exact ⟨_, rfl, ⟨_, _, l, rfl, (h'.out.mono fun k _ hk => .inl hk).below (below2 _ _)⟩, below2 _ _⟩
      by_cases k3 : (sent.length : Int) < m
      · have hj := Lib.hid (show replyG ⟨nid, nco, nme, nin, nbe, short, clock, true, inc, sent, replied, jobs⟩ n m xs ts = (⟨nid, nco, nme, nin, nbe, short, clock, true, inc, sent, replied, jobs⟩, 15) by unfold replyG; rw [if_pos rfl, if_pos (show staleG _ n m from .inr (.inr (.inl k3)))])
        simp only [hj.out]
        go_enter Try.func68, Try.ntmps68
        go_wp2
        have RR := Blk.new (W.alloc (.cells #[.int .i64 nid, .int .i64 nco, .int .i64 nme, .int .i64 nin, .int .i64 nbe, .int .i64 short, .int .i64 clock, .bool true, .int .i64 inc, .slice A sent.length c, .int .i64 replied, .slice A2 l.length c2] tDA)) tDA #[.int .i64 nid, .int .i64 nco, .int .i64 nme, .int .i64 nin, .int .i64 nbe, .int .i64 short, .int .i64 clock, .bool true, .int .i64 inc, .slice A sent.length c, .int .i64 replied, .slice A2 l.length c2]
        rw [World.size_alloc] at RR
        refine bodyPost_ret (results_ct rfl _ _ _ tDA #[.int .i64 nid, .int .i64 nco, .int .i64 nme, .int .i64 nin, .int .i64 nbe, .int .i64 short, .int .i64 clock, .bool true, .int .i64 inc, .slice A sent.length c, .int .i64 replied, .slice A2 l.length c2] (0, 0) _ rfl RR Try.underlying91 rfl (by kernel_rfl)) rfl ?_
        exact ⟨_, rfl, ⟨_, _, l, rfl, (h'.out.mono fun k _ hk => .inl hk).below (below2 _ _)⟩, below2 _ _⟩
      by_cases k4 : m ≤ replied
      · have hj := Lib.hid (show replyG ⟨nid, nco, nme, nin, nbe, short, clock, true, inc, sent, replied, jobs⟩ n m xs ts = (⟨nid, nco, nme, nin, nbe, short, clock, true, inc, sent, replied, jobs⟩, 15) by unfold replyG; rw [if_pos rfl, if_pos (show staleG _ n m from .inr (.inr (.inr k4)))])
        simp only [hj.out]
        go_enter Try.func68, Try.ntmps68
        go_wp2
        have RR := Blk.new (W.alloc (.cells #[.int .i64 nid, .int .i64 nco, .int .i64 nme, .int .i64 nin, .int .i64 nbe, .int .i64 short, .int .i64 clock, .bool true, .int .i64 inc, .slice A sent.length c, .int .i64 replied, .slice A2 l.length c2] tDA)) tDA #[.int .i64 nid, .int .i64 nco, .int .i64 nme, .int .i64 nin, .int .i64 nbe, .int .i64 short, .int .i64 clock, .bool true, .int .i64 inc, .slice A sent.length c, .int .i64 replied, .slice A2 l.length c2]
        rw [World.size_alloc] at RR
        refine bodyPost_ret (results_ct rfl _ _ _ tDA #[.int .i64 nid, .int .i64 nco, .int .i64 nme, .int .i64 nin, .int .i64 nbe, .int .i64 short, .int .i64 clock, .bool true, .int .i64 inc, .slice A sent.length c, .int .i64 replied, .slice A2 l.length c2] (0, 0) _ rfl RR Try.underlying91 rfl (by kernel_rfl)) rfl ?_
        exact ⟨_, rfl, ⟨_, _, l, rfl, (h'.out.mono fun k _ hk => .inl hk).below (below2 _ _)⟩, below2 _ _⟩
      have hst : ¬ staleG ⟨nid, nco, nme, nin, nbe, short, clock, true, inc, sent, replied, jobs⟩ n m := by
        unfold staleG
        simp only
        omega
      cases hfb : (risesT ts && (formF nid nco ts xs).isSome) with
      | false =>
        have hj := Lib.hid (show replyG ⟨nid, nco, nme, nin, nbe, short, clock, true, inc, sent, replied, jobs⟩ n m xs ts = (⟨nid, nco, nme, nin, nbe, short, clock, true, inc, sent, replied, jobs⟩, 4) by unfold replyG; rw [if_pos rfl, if_neg hst, if_neg (by unfold formB; simp only; rw [hfb]; simp)])
        simp only [hj.out]
        have hfv := hfb
        clear hst hfb
        go_enter Try.func68, Try.ntmps68
        go_wp2_with (((with_reducible refine gate_callee (f := 89) rfl ?_); refine goesL_ (some 50) rfl rfl Try.func89 (by kernel_rfl) rfl #[.agg #[.int .i64 nid, .int .i64 nco, .int .i64 nme, .int .i64 nin, .int .i64 nbe], .slice A5 xs.length c5, .slice A6 ts.length c6] rfl (by (try simp only [List.map_toArray, List.map_cons, List.map_nil]); first | done | rfl) ?_; (with_reducible refine (formD' nid nco nme nin nbe A5 c5 xs A6 c6 ts _ (hL'.out.below (below2 _ _)) (hT'.out.below (below2 _ _)) hxl htl hnco hfv).mono ?_); rintro e w5 ⟨rfl, b5⟩; refine ⟨_, rfl, ?_⟩; have zX := (Blk.new (W.alloc (.cells #[.int .i64 nid, .int .i64 nco, .int .i64 nme, .int .i64 nin, .int .i64 nbe, .int .i64 short, .int .i64 clock, .bool true, .int .i64 inc, .slice A sent.length c, .int .i64 replied, .slice A2 l.length c2] tDA)) tDA zD).below b5 (by first | (simp; done) | (simp; omega)); have oX := (bX'.out.alloc (.cells zD tDA)).below b5 (by first | (simp; done) | (simp; omega)); clear d0 d1 d2 d3 d4 d5 d6 d7 d8 d9 d10 d11; have d0 := oX.cell 0; have d1 := oX.cell 1; have d2 := oX.cell 2; have d3 := oX.cell 3; have d4 := oX.cell 4; have d5 := oX.cell 5; have d6 := oX.cell 6; have d7 := oX.cell 7; have d8 := oX.cell 8; have d9 := oX.cell 9; have d10 := oX.cell 10; have d11 := oX.cell 11; have d8f := oX.frozen 10; have d11f := oX.frozen 11; have x0 := zX.cell 0; have x1 := zX.cell 1; have x2 := zX.cell 2; have x3 := zX.cell 3; have x4 := zX.cell 4; have x5 := zX.cell 5; have x6 := zX.cell 6; have x7 := zX.cell 7; have x8 := zX.cell 8; have x9 := zX.cell 9; have x10 := zX.cell 10; have x11 := zX.cell 11; have y0 := zX.frozen 0; have y1 := zX.frozen 1; have y2 := zX.frozen 2; have y3 := zX.frozen 3; have y4 := zX.frozen 4; have y5 := zX.frozen 5; have y6 := zX.frozen 6; have y7 := zX.frozen 7; have y8 := zX.frozen 8; have y9 := zX.frozen 9; have y10 := zX.frozen 10; have y11 := zX.frozen 11; simp only [List.getElem?_toArray, List.getElem?_cons_zero, List.getElem?_cons_succ, World.size_alloc] at d0 d1 d2 d3 d4 d5 d6 d7 d8 d9 d10 d11 x0 x1 x2 x3 x4 x5 x6 x7 x8 x9 x10 x11 y0 y1 y2 y3 y4 y5 y6 y7 y8 y9 y10 y11; have oX' := Lib.hid oX; have zX' := Lib.hid zX; have hsz5 := b5.size; rw [World.size_alloc, World.size_alloc] at hsz5; have b5' := Lib.hid ((below2 _ _).trans (below_le b5 (by first | (simp; done) | (simp; omega)))); clear oX zX b5))
        have RR := blk12 zX'.out (by rfl) (.int .i64 nid) (.int .i64 nco) (.int .i64 nme) (.int .i64 nin) (.int .i64 nbe) (.int .i64 short) (.int .i64 clock) (.bool true) (.int .i64 inc) (.slice A sent.length c) (.int .i64 replied) (.slice A2 l.length c2)
        rw [World.size_alloc] at RR
        refine bodyPost_ret (results_ct rfl _ _ _ tDA #[.int .i64 nid, .int .i64 nco, .int .i64 nme, .int .i64 nin, .int .i64 nbe, .int .i64 short, .int .i64 clock, .bool true, .int .i64 inc, .slice A sent.length c, .int .i64 replied, .slice A2 l.length c2] (0, 0) _ rfl RR Try.underlying91 rfl (by kernel_rfl)) rfl ?_
        exact ⟨_, rfl, ⟨_, _, l, rfl, (h'.out.mono fun k _ hk => .inl hk).below (below12 b5'.out (by simp) _ _ _ _ _ _ _ _ _ _ _ _)⟩, below12 b5'.out (by simp) _ _ _ _ _ _ _ _ _ _ _ _⟩
      | true =>
        have hfv := hfb
        obtain ⟨hr1, hr2⟩ := (Bool.and_eq_true _ _ ▸ hfb : risesT ts = true ∧ (formF nid nco ts xs).isSome = true)
        obtain ⟨hx64, hxt, hxp⟩ := form_bounds hr2 hnco
        have hxt' := Lib.hid hxt
        obtain ⟨k, rfl⟩ : ∃ k : Nat, m = (k : Int) + 1 := ⟨(m - 1).toNat, by omega⟩
        have hkl : k < sent.length := by omega
        obtain ⟨frm, hfrm⟩ : ∃ frm, sent[k]? = some frm := ⟨sent[k], List.getElem?_eq_getElem hkl⟩
        have hfB : formB ⟨nid, nco, nme, nin, nbe, short, clock, true, inc, sent, replied, jobs⟩ ts xs = true := hfb
        have hj := Lib.hid (show replyG ⟨nid, nco, nme, nin, nbe, short, clock, true, inc, sent, replied, jobs⟩ n ((k : Int) + 1) xs ts = (⟨nid, nco, nme, nin, nbe, short, clock, true, inc, sent, (k : Int) + 1, replyJ ⟨nid, nco, nme, nin, nbe, short, clock, true, inc, sent, replied, jobs⟩ ts xs frm⟩, 0) by
          unfold replyG
          rw [if_pos rfl, if_neg hst, if_pos hfB]
          simp [hfrm])
        simp only [hj.out]
        have hw1 : IntKind.i64.wrap ((k : Int) + 1 - 1) = (k : Int) := by rw [Int.add_sub_cancel]; exact IntWalk.i64_in _ (by omega)
        have hw2 : IntKind.i64.wrap (k : Int) = (k : Int) := IntWalk.i64_in _ (by omega)
        have hfrm' := Lib.hid hfrm
        have hjl : jobs.length ≤ 64 := hok'.out.jobs
        obtain ⟨i0, hif, hz0, hz1, hz2⟩ := info_parts infoDJ
        have hsr := Lib.hid (show ∃ gs, A = some ⟨gs, 0, none⟩ ∧ ∀ w, Below W.heap.size W w → w.cell? ⟨gs, k, none⟩ = some (.int .i64 frm) by
          obtain ⟨gs, cs2, hvs⟩ := own_someL h'.out.sent (by show 0 < sent.length; omega)
          injection hvs with e1 _ _
          subst e1
          refine ⟨gs, rfl, fun w hb => ?_⟩
          have h1 := (h'.out.below hb).sent.cellAt k (by show k < sent.length * 1; omega)
          rw [h1]
          show (sent.map (Value.int .i64))[k]? = _
          rw [List.getElem?_map, hfrm]
          rfl)
        clear hst hfb hfB hr1 hr2 hxt hxp hfrm
        go_enter Try.func68, Try.ntmps68
        go_wp2_with (((with_reducible refine gate_callee (f := 89) rfl ?_); refine goesL_ (some 50) rfl rfl Try.func89 (by kernel_rfl) rfl #[.agg #[.int .i64 nid, .int .i64 nco, .int .i64 nme, .int .i64 nin, .int .i64 nbe], .slice A5 xs.length c5, .slice A6 ts.length c6] rfl (by (try simp only [List.map_toArray, List.map_cons, List.map_nil]); first | done | rfl) ?_; (with_reducible refine (formD' nid nco nme nin nbe A5 c5 xs A6 c6 ts _ (hL'.out.below (below2 _ _)) (hT'.out.below (below2 _ _)) hxl htl hnco hfv).mono ?_); rintro e w5 ⟨rfl, b5⟩; refine ⟨_, rfl, ?_⟩; have zX := (Blk.new (W.alloc (.cells #[.int .i64 nid, .int .i64 nco, .int .i64 nme, .int .i64 nin, .int .i64 nbe, .int .i64 short, .int .i64 clock, .bool true, .int .i64 inc, .slice A sent.length c, .int .i64 replied, .slice A2 l.length c2] tDA)) tDA zD).below b5 (by first | (simp; done) | (simp; omega)); have oX := (bX'.out.alloc (.cells zD tDA)).below b5 (by first | (simp; done) | (simp; omega)); clear d0 d1 d2 d3 d4 d5 d6 d7 d8 d9 d10 d11; have d0 := oX.cell 0; have d1 := oX.cell 1; have d2 := oX.cell 2; have d3 := oX.cell 3; have d4 := oX.cell 4; have d5 := oX.cell 5; have d6 := oX.cell 6; have d7 := oX.cell 7; have d8 := oX.cell 8; have d9 := oX.cell 9; have d10 := oX.cell 10; have d11 := oX.cell 11; have d8f := oX.frozen 10; have d11f := oX.frozen 11; have x0 := zX.cell 0; have x1 := zX.cell 1; have x2 := zX.cell 2; have x3 := zX.cell 3; have x4 := zX.cell 4; have x5 := zX.cell 5; have x6 := zX.cell 6; have x7 := zX.cell 7; have x8 := zX.cell 8; have x9 := zX.cell 9; have x10 := zX.cell 10; have x11 := zX.cell 11; have y0 := zX.frozen 0; have y1 := zX.frozen 1; have y2 := zX.frozen 2; have y3 := zX.frozen 3; have y4 := zX.frozen 4; have y5 := zX.frozen 5; have y6 := zX.frozen 6; have y7 := zX.frozen 7; have y8 := zX.frozen 8; have y9 := zX.frozen 9; have y10 := zX.frozen 10; have y11 := zX.frozen 11; simp only [List.getElem?_toArray, List.getElem?_cons_zero, List.getElem?_cons_succ, World.size_alloc] at d0 d1 d2 d3 d4 d5 d6 d7 d8 d9 d10 d11 x0 x1 x2 x3 x4 x5 x6 x7 x8 x9 x10 x11 y0 y1 y2 y3 y4 y5 y6 y7 y8 y9 y10 y11; have oX' := Lib.hid oX; have zX' := Lib.hid zX; have hsz5 := b5.size; rw [World.size_alloc, World.size_alloc] at hsz5; have b5' := Lib.hid ((below2 _ _).trans (below_le b5 (by first | (simp; done) | (simp; omega)))); clear oX zX b5))
        obtain ⟨gs, rfl, hsr2⟩ := hsr.out
        have hsr' := Lib.hid hsr2
        clear hsr hsr2
        clear d0 d1 d2 d3 d4 d5 d6 d7 d8 d9 d10 d11 x0 x1 x2 x3 x4 x5 x6 x7 x8 x9 x10 x11 y0 y1 y2 y3 y4 y5 y6 y7 y8 y9 y10 y11 d8f d11f
        obtain ⟨SS, hSS⟩ : ∃ SS : Ag, SS = ⟨nid, nco, nme, nin, nbe, short, clock, true, inc, sent, replied, jobs⟩ := ⟨_, rfl⟩
        have hSj : SS.jobs = jobs := by rw [hSS]
        go_loopw [12, 55] (fun zv iv wr => ∃ (i : Nat) (A3 : Option Addr) (c3 : Nat) (zs : List (Jb × DJ)), zv = .slice A3 zs.length c3 ∧ iv = .int .i64 (i : Int) ∧ i ≤ xs.length ∧ zs.map (·.1) = replyJ SS ts (xs.take i) frm ∧ wr.ownsRow w5.heap.size tDJ 12 (.slice A3 zs.length c3) zs.length (flatD zs) ∧ (∀ p ∈ zs, DocJ (fun k => Q k ∨ W.heap.size ≤ k) wr p) ∧ Below w5.heap.size w5 wr)
          (fun _ iv _ => xs.length - (intOf iv).toNat)
        case atStart => exact ⟨0, none, 0, [], rfl, rfl, Nat.zero_le _, rfl, World.ownsRow_nil _ _ _ _, (fun z hz => by cases hz), Below.refl _ _⟩
        case round =>
          obtain ⟨i, A3, c3, zs, rfl, rfl, hi, hfst, hown, hoc, hbel⟩ := hrel
          have hzl : zs.length ≤ 64 := by
            have := congrArg List.length hfst
            unfold replyJ at this
            rw [List.length_map, List.length_map, List.length_take] at this
            omega
          have hbW := b5'.out.trans (below_le hbel b5'.out.size)
          have oXr := oX'.out.below hbel oX'.out.lt
          have hrowk : ∀ k, (Value.slice A3 zs.length c3).ownBlock = some k → w5.heap.size ≤ k ∧ k < wr.heap.size := fun k hk => ⟨(own_block hown hk).1, (own_block hown hk).2.1⟩
          by_cases hlt : i < xs.length
          · obtain ⟨x, hx⟩ : ∃ x, xs[i]? = some x := ⟨xs[i], List.getElem?_eq_getElem hlt⟩
            obtain ⟨hxc, t, hft, hfit⟩ := hxt'.out x (List.mem_of_getElem? hx)
            obtain ⟨ad, A', cq, rfl, _, q0, q1, q2, q3, q4, q5, q6, q7, hri, hcl, hwx, _, _⟩ := (hL'.out.below hbW) i x hx
            have bC := Blk.new wr tL #[.int .i64 x.task, .int .i64 x.queue, .int .i64 x.node, .slice A' x.cores.length cq, .int .i64 x.mem, .int .i64 x.since, .int .i64 x.til, .bool x.stop]
            have e0 := bC.cell 0
            have e1 := bC.cell 1
            have e2 := bC.cell 2
            have e3 := bC.cell 3
            have e4 := bC.cell 4
            have e5 := bC.cell 5
            have e6 := bC.cell 6
            have e7 := bC.cell 7
            simp only [List.getElem?_toArray, List.getElem?_cons_zero, List.getElem?_cons_succ] at e0 e1 e2 e3 e4 e5 e6 e7
            have hfst' := Lib.hid (show (zs.map (·.1)) ++ [jobF jobs x t frm] = replyJ SS ts (xs.take (i + 1)) frm by rw [hfst, replyJ_take SS ts xs frm i x t hx hft, hSj])
            have b1 := (Below.refl wr.heap.size wr).alloc (Nat.le_refl _) (.cells #[.int .i64 x.task, .int .i64 x.queue, .int .i64 x.node, .slice A' x.cores.length cq, .int .i64 x.mem, .int .i64 x.since, .int .i64 x.til, .bool x.stop] tL)
            have hb1' := Lib.hid (hbel.trans (below_le b1 hbel.size))
            have hbW1 := Lib.hid (hbW.trans (below_le b1 hbW.size))
            have hown1 := Lib.hid (hown.alloc (.cells #[.int .i64 x.task, .int .i64 x.queue, .int .i64 x.node, .slice A' x.cores.length cq, .int .i64 x.mem, .int .i64 x.since, .int .i64 x.til, .bool x.stop] tL))
            have hoc1 := Lib.hid (fun p hp => (hoc p hp).keep (W' := wr.alloc (.cells #[.int .i64 x.task, .int .i64 x.queue, .int .i64 x.node, .slice A' x.cores.length cq, .int .i64 x.mem, .int .i64 x.since, .int .i64 x.til, .bool x.stop] tL)) fun k hk _ => b1.block k hk)
            have hri1 := Lib.hid (hri.1.below b1)
            have bC' := Lib.hid bC
            have oX1 := Lib.hid (oXr.alloc (.cells #[.int .i64 x.task, .int .i64 x.queue, .int .i64 x.node, .slice A' x.cores.length cq, .int .i64 x.mem, .int .i64 x.since, .int .i64 x.til, .bool x.stop] tL))
            have hT1 := Lib.hid (hT'.out.below hbW1.out)
            obtain ⟨J, hJ⟩ : ∃ J, jobF jobs x t frm = J := ⟨_, rfl⟩
            have hJ' := Lib.hid hJ
            rw [hJ] at hfst'
            have hft' := Lib.hid hft
            have hfit' := Lib.hid hfit
            have hcl' := Lib.hid hcl
            have hwx' := Lib.hid hwx
            clear hfst hown hoc hbel hbW oXr hx hft hfit hri bC b1 hJ hwx
            have hrow1 := Lib.hid (show ∀ k, (Value.slice A3 zs.length c3).ownBlock = some k → w5.heap.size ≤ k ∧ k < wr.heap.size from hrowk)
            clear hrowk
            go_wp2_with (((with_reducible refine gate_callee (f := 90) rfl ?_); refine goesL_ (some 63) rfl rfl Try.func90 (by kernel_rfl) rfl #[.slice A6 ts.length c6, .int .i64 x.task] rfl (by (try simp only [List.map_toArray, List.map_cons, List.map_nil]); first | done | rfl) ?_; (with_reducible refine (taskSome hft'.out hfit'.out hT1.out htl).mono ?_); rintro e w6 ⟨At, ct, rfl, hrt, hct, hctl, b6⟩; refine ⟨_, rfl, ?_⟩; clear e0 e1 e2 e3 e4 e5 e6 e7; have oX6 := Lib.hid ((oX1.out.below b6 oX1.out.lt).alloc (.cells (tsCells t At ct) tT)); have bC6 := Lib.hid ((bC'.out.below b6 bC'.out.lt).alloc (.cells (tsCells t At ct) tT)); have bT6 := Lib.hid (Blk.new w6 tT (tsCells t At ct)); have b6a := b6.alloc b6.size (.cells (tsCells t At ct) tT); have hbW6 := Lib.hid (hbW1.out.trans (below_le b6a hbW1.out.size)); have hb6' := Lib.hid (hb1'.out.trans (below_le b6a hb1'.out.size)); have hown6 := Lib.hid (own_below hown1.out b6a); have hoc6 := Lib.hid (fun p hp => (hoc1.out p hp).keep fun k hk _ => b6a.block k hk); have hri6 := Lib.hid (hri1.out.below b6a); have hrt6 := Lib.hid (hrt.1.below b6a); have hsz6 := b6.size; rw [World.size_alloc] at hsz6; clear b6 b6a hrt))
            have hS6 := Lib.hid (show ((((w6.alloc (.cells (tsCells t At ct) tT)).drew).cell? ⟨W.heap.size, 0, none⟩ = some (.int .i64 nid) ∧ ((w6.alloc (.cells (tsCells t At ct) tT)).drew).cell? ⟨W.heap.size, 1, none⟩ = some (.int .i64 nco) ∧ ((w6.alloc (.cells (tsCells t At ct) tT)).drew).cell? ⟨W.heap.size, 2, none⟩ = some (.int .i64 nme) ∧ ((w6.alloc (.cells (tsCells t At ct) tT)).drew).cell? ⟨W.heap.size, 3, none⟩ = some (.int .i64 nin) ∧ ((w6.alloc (.cells (tsCells t At ct) tT)).drew).cell? ⟨W.heap.size, 4, none⟩ = some (.int .i64 nbe) ∧ ((w6.alloc (.cells (tsCells t At ct) tT)).drew).cell? ⟨W.heap.size, 5, none⟩ = some (.int .i64 short) ∧ ((w6.alloc (.cells (tsCells t At ct) tT)).drew).cell? ⟨W.heap.size, 6, none⟩ = some (.int .i64 clock) ∧ ((w6.alloc (.cells (tsCells t At ct) tT)).drew).cell? ⟨W.heap.size, 7, none⟩ = some (.bool true) ∧ ((w6.alloc (.cells (tsCells t At ct) tT)).drew).cell? ⟨W.heap.size, 8, none⟩ = some (.int .i64 inc) ∧ ((w6.alloc (.cells (tsCells t At ct) tT)).drew).cell? ⟨W.heap.size, 9, none⟩ = some (.slice (some ⟨gs, 0, none⟩) sent.length c) ∧ ((w6.alloc (.cells (tsCells t At ct) tT)).drew).cell? ⟨W.heap.size, 10, none⟩ = some (.int .i64 replied) ∧ ((w6.alloc (.cells (tsCells t At ct) tT)).drew).cell? ⟨W.heap.size, 11, none⟩ = some (.slice A2 l.length c2)) ∧ (((w6.alloc (.cells (tsCells t At ct) tT)).drew).cell? ⟨wr.heap.size, 0, none⟩ = some (.int .i64 x.task) ∧ ((w6.alloc (.cells (tsCells t At ct) tT)).drew).cell? ⟨wr.heap.size, 1, none⟩ = some (.int .i64 x.queue) ∧ ((w6.alloc (.cells (tsCells t At ct) tT)).drew).cell? ⟨wr.heap.size, 2, none⟩ = some (.int .i64 x.node) ∧ ((w6.alloc (.cells (tsCells t At ct) tT)).drew).cell? ⟨wr.heap.size, 3, none⟩ = some (.slice A' x.cores.length cq) ∧ ((w6.alloc (.cells (tsCells t At ct) tT)).drew).cell? ⟨wr.heap.size, 4, none⟩ = some (.int .i64 x.mem) ∧ ((w6.alloc (.cells (tsCells t At ct) tT)).drew).cell? ⟨wr.heap.size, 5, none⟩ = some (.int .i64 x.since) ∧ ((w6.alloc (.cells (tsCells t At ct) tT)).drew).cell? ⟨wr.heap.size, 6, none⟩ = some (.int .i64 x.til) ∧ ((w6.alloc (.cells (tsCells t At ct) tT)).drew).cell? ⟨wr.heap.size, 7, none⟩ = some (.bool x.stop)) ∧ (((w6.alloc (.cells (tsCells t At ct) tT)).drew).cell? ⟨w6.heap.size, 0, none⟩ = some (.int .i64 t.id) ∧ ((w6.alloc (.cells (tsCells t At ct) tT)).drew).cell? ⟨w6.heap.size, 1, none⟩ = some (.int .i64 t.queue) ∧ ((w6.alloc (.cells (tsCells t At ct) tT)).drew).cell? ⟨w6.heap.size, 2, none⟩ = some (.int .i64 t.cpu) ∧ ((w6.alloc (.cells (tsCells t At ct) tT)).drew).cell? ⟨w6.heap.size, 3, none⟩ = some (.int .i64 t.mem) ∧ ((w6.alloc (.cells (tsCells t At ct) tT)).drew).cell? ⟨w6.heap.size, 4, none⟩ = some (.int .i64 t.work) ∧ ((w6.alloc (.cells (tsCells t At ct) tT)).drew).cell? ⟨w6.heap.size, 5, none⟩ = some (.slice At t.tk.length ct) ∧ ((w6.alloc (.cells (tsCells t At ct) tT)).drew).cell? ⟨w6.heap.size, 6, none⟩ = some (.int .i64 t.state)) ∧ ((w6.alloc (.cells (tsCells t At ct) tT)).drew).cell? ⟨gs, k, none⟩ = some (.int .i64 frm)) from ⟨blkC12 oX6.out, blkC8 bC6.out, blkC7 bT6.out, hsr'.out _ hbW6.out.drew⟩)
            have hsw6 := hb6'.out.size
            go_region_held3 (fun w' => (((w').cell? ⟨W.heap.size, 0, none⟩ = some (.int .i64 nid) ∧ (w').cell? ⟨W.heap.size, 1, none⟩ = some (.int .i64 nco) ∧ (w').cell? ⟨W.heap.size, 2, none⟩ = some (.int .i64 nme) ∧ (w').cell? ⟨W.heap.size, 3, none⟩ = some (.int .i64 nin) ∧ (w').cell? ⟨W.heap.size, 4, none⟩ = some (.int .i64 nbe) ∧ (w').cell? ⟨W.heap.size, 5, none⟩ = some (.int .i64 short) ∧ (w').cell? ⟨W.heap.size, 6, none⟩ = some (.int .i64 clock) ∧ (w').cell? ⟨W.heap.size, 7, none⟩ = some (.bool true) ∧ (w').cell? ⟨W.heap.size, 8, none⟩ = some (.int .i64 inc) ∧ (w').cell? ⟨W.heap.size, 9, none⟩ = some (.slice (some ⟨gs, 0, none⟩) sent.length c) ∧ (w').cell? ⟨W.heap.size, 10, none⟩ = some (.int .i64 replied) ∧ (w').cell? ⟨W.heap.size, 11, none⟩ = some (.slice A2 l.length c2)) ∧ ((w').cell? ⟨wr.heap.size, 0, none⟩ = some (.int .i64 x.task) ∧ (w').cell? ⟨wr.heap.size, 1, none⟩ = some (.int .i64 x.queue) ∧ (w').cell? ⟨wr.heap.size, 2, none⟩ = some (.int .i64 x.node) ∧ (w').cell? ⟨wr.heap.size, 3, none⟩ = some (.slice A' x.cores.length cq) ∧ (w').cell? ⟨wr.heap.size, 4, none⟩ = some (.int .i64 x.mem) ∧ (w').cell? ⟨wr.heap.size, 5, none⟩ = some (.int .i64 x.since) ∧ (w').cell? ⟨wr.heap.size, 6, none⟩ = some (.int .i64 x.til) ∧ (w').cell? ⟨wr.heap.size, 7, none⟩ = some (.bool x.stop)) ∧ ((w').cell? ⟨w6.heap.size, 0, none⟩ = some (.int .i64 t.id) ∧ (w').cell? ⟨w6.heap.size, 1, none⟩ = some (.int .i64 t.queue) ∧ (w').cell? ⟨w6.heap.size, 2, none⟩ = some (.int .i64 t.cpu) ∧ (w').cell? ⟨w6.heap.size, 3, none⟩ = some (.int .i64 t.mem) ∧ (w').cell? ⟨w6.heap.size, 4, none⟩ = some (.int .i64 t.work) ∧ (w').cell? ⟨w6.heap.size, 5, none⟩ = some (.slice At t.tk.length ct) ∧ (w').cell? ⟨w6.heap.size, 6, none⟩ = some (.int .i64 t.state)) ∧ (w').cell? ⟨gs, k, none⟩ = some (.int .i64 frm))) (first | exact hS6.out | exact hS9.out | exact hS8.out | exact hS10.out) (first | (go_at_call 91; go_loud (refine (jobC _ (h'.out.below hbW6.out.drew) hjl x A' cq (hri6.out.below (Below.refl _ _).drew) hcl'.out hwx'.out (by omega) t At ct (hrt6.out.below (Below.refl _ _).drew) hfit'.out frm hJ'.out).mono ?_; rintro e w9 ⟨A7, c7, Au, cu, rfl, hdj, b9⟩; have oX9 := Lib.hid (oX6.out.drew.below b9 oX6.out.drew.lt); have bC9 := Lib.hid (bC6.out.drew.below b9 bC6.out.drew.lt); have bT9 := Lib.hid (bT6.out.drew.below b9 bT6.out.drew.lt); have hbW9 := Lib.hid (hbW6.out.drew.trans (below_le b9 hbW6.out.drew.size)); have hb9' := Lib.hid (hb6'.out.drew.trans (below_le b9 hb6'.out.drew.size)); have hS9 := Lib.hid (show (((w9).cell? ⟨W.heap.size, 0, none⟩ = some (.int .i64 nid) ∧ (w9).cell? ⟨W.heap.size, 1, none⟩ = some (.int .i64 nco) ∧ (w9).cell? ⟨W.heap.size, 2, none⟩ = some (.int .i64 nme) ∧ (w9).cell? ⟨W.heap.size, 3, none⟩ = some (.int .i64 nin) ∧ (w9).cell? ⟨W.heap.size, 4, none⟩ = some (.int .i64 nbe) ∧ (w9).cell? ⟨W.heap.size, 5, none⟩ = some (.int .i64 short) ∧ (w9).cell? ⟨W.heap.size, 6, none⟩ = some (.int .i64 clock) ∧ (w9).cell? ⟨W.heap.size, 7, none⟩ = some (.bool true) ∧ (w9).cell? ⟨W.heap.size, 8, none⟩ = some (.int .i64 inc) ∧ (w9).cell? ⟨W.heap.size, 9, none⟩ = some (.slice (some ⟨gs, 0, none⟩) sent.length c) ∧ (w9).cell? ⟨W.heap.size, 10, none⟩ = some (.int .i64 replied) ∧ (w9).cell? ⟨W.heap.size, 11, none⟩ = some (.slice A2 l.length c2)) ∧ ((w9).cell? ⟨wr.heap.size, 0, none⟩ = some (.int .i64 x.task) ∧ (w9).cell? ⟨wr.heap.size, 1, none⟩ = some (.int .i64 x.queue) ∧ (w9).cell? ⟨wr.heap.size, 2, none⟩ = some (.int .i64 x.node) ∧ (w9).cell? ⟨wr.heap.size, 3, none⟩ = some (.slice A' x.cores.length cq) ∧ (w9).cell? ⟨wr.heap.size, 4, none⟩ = some (.int .i64 x.mem) ∧ (w9).cell? ⟨wr.heap.size, 5, none⟩ = some (.int .i64 x.since) ∧ (w9).cell? ⟨wr.heap.size, 6, none⟩ = some (.int .i64 x.til) ∧ (w9).cell? ⟨wr.heap.size, 7, none⟩ = some (.bool x.stop)) ∧ ((w9).cell? ⟨w6.heap.size, 0, none⟩ = some (.int .i64 t.id) ∧ (w9).cell? ⟨w6.heap.size, 1, none⟩ = some (.int .i64 t.queue) ∧ (w9).cell? ⟨w6.heap.size, 2, none⟩ = some (.int .i64 t.cpu) ∧ (w9).cell? ⟨w6.heap.size, 3, none⟩ = some (.int .i64 t.mem) ∧ (w9).cell? ⟨w6.heap.size, 4, none⟩ = some (.int .i64 t.work) ∧ (w9).cell? ⟨w6.heap.size, 5, none⟩ = some (.slice At t.tk.length ct) ∧ (w9).cell? ⟨w6.heap.size, 6, none⟩ = some (.int .i64 t.state)) ∧ (w9).cell? ⟨gs, k, none⟩ = some (.int .i64 frm)) from ⟨blkC12 oX9.out, blkC8 bC9.out, blkC7 bT9.out, hsr'.out _ hbW9.out⟩); have hS8 := Lib.hid (show (((w9.alloc (.cells #[.int .i64 J.le.task, .int .i64 J.le.queue, .int .i64 J.le.node, .slice A7 J.le.cores.length c7, .int .i64 J.le.mem, .int .i64 J.le.since, .int .i64 J.le.til, .bool J.le.stop, .int .i64 J.work, .int .i64 J.had, .int .i64 J.frm, .slice Au J.th.length cu] tDJ)).cell? ⟨W.heap.size, 0, none⟩ = some (.int .i64 nid) ∧ (w9.alloc (.cells #[.int .i64 J.le.task, .int .i64 J.le.queue, .int .i64 J.le.node, .slice A7 J.le.cores.length c7, .int .i64 J.le.mem, .int .i64 J.le.since, .int .i64 J.le.til, .bool J.le.stop, .int .i64 J.work, .int .i64 J.had, .int .i64 J.frm, .slice Au J.th.length cu] tDJ)).cell? ⟨W.heap.size, 1, none⟩ = some (.int .i64 nco) ∧ (w9.alloc (.cells #[.int .i64 J.le.task, .int .i64 J.le.queue, .int .i64 J.le.node, .slice A7 J.le.cores.length c7, .int .i64 J.le.mem, .int .i64 J.le.since, .int .i64 J.le.til, .bool J.le.stop, .int .i64 J.work, .int .i64 J.had, .int .i64 J.frm, .slice Au J.th.length cu] tDJ)).cell? ⟨W.heap.size, 2, none⟩ = some (.int .i64 nme) ∧ (w9.alloc (.cells #[.int .i64 J.le.task, .int .i64 J.le.queue, .int .i64 J.le.node, .slice A7 J.le.cores.length c7, .int .i64 J.le.mem, .int .i64 J.le.since, .int .i64 J.le.til, .bool J.le.stop, .int .i64 J.work, .int .i64 J.had, .int .i64 J.frm, .slice Au J.th.length cu] tDJ)).cell? ⟨W.heap.size, 3, none⟩ = some (.int .i64 nin) ∧ (w9.alloc (.cells #[.int .i64 J.le.task, .int .i64 J.le.queue, .int .i64 J.le.node, .slice A7 J.le.cores.length c7, .int .i64 J.le.mem, .int .i64 J.le.since, .int .i64 J.le.til, .bool J.le.stop, .int .i64 J.work, .int .i64 J.had, .int .i64 J.frm, .slice Au J.th.length cu] tDJ)).cell? ⟨W.heap.size, 4, none⟩ = some (.int .i64 nbe) ∧ (w9.alloc (.cells #[.int .i64 J.le.task, .int .i64 J.le.queue, .int .i64 J.le.node, .slice A7 J.le.cores.length c7, .int .i64 J.le.mem, .int .i64 J.le.since, .int .i64 J.le.til, .bool J.le.stop, .int .i64 J.work, .int .i64 J.had, .int .i64 J.frm, .slice Au J.th.length cu] tDJ)).cell? ⟨W.heap.size, 5, none⟩ = some (.int .i64 short) ∧ (w9.alloc (.cells #[.int .i64 J.le.task, .int .i64 J.le.queue, .int .i64 J.le.node, .slice A7 J.le.cores.length c7, .int .i64 J.le.mem, .int .i64 J.le.since, .int .i64 J.le.til, .bool J.le.stop, .int .i64 J.work, .int .i64 J.had, .int .i64 J.frm, .slice Au J.th.length cu] tDJ)).cell? ⟨W.heap.size, 6, none⟩ = some (.int .i64 clock) ∧ (w9.alloc (.cells #[.int .i64 J.le.task, .int .i64 J.le.queue, .int .i64 J.le.node, .slice A7 J.le.cores.length c7, .int .i64 J.le.mem, .int .i64 J.le.since, .int .i64 J.le.til, .bool J.le.stop, .int .i64 J.work, .int .i64 J.had, .int .i64 J.frm, .slice Au J.th.length cu] tDJ)).cell? ⟨W.heap.size, 7, none⟩ = some (.bool true) ∧ (w9.alloc (.cells #[.int .i64 J.le.task, .int .i64 J.le.queue, .int .i64 J.le.node, .slice A7 J.le.cores.length c7, .int .i64 J.le.mem, .int .i64 J.le.since, .int .i64 J.le.til, .bool J.le.stop, .int .i64 J.work, .int .i64 J.had, .int .i64 J.frm, .slice Au J.th.length cu] tDJ)).cell? ⟨W.heap.size, 8, none⟩ = some (.int .i64 inc) ∧ (w9.alloc (.cells #[.int .i64 J.le.task, .int .i64 J.le.queue, .int .i64 J.le.node, .slice A7 J.le.cores.length c7, .int .i64 J.le.mem, .int .i64 J.le.since, .int .i64 J.le.til, .bool J.le.stop, .int .i64 J.work, .int .i64 J.had, .int .i64 J.frm, .slice Au J.th.length cu] tDJ)).cell? ⟨W.heap.size, 9, none⟩ = some (.slice (some ⟨gs, 0, none⟩) sent.length c) ∧ (w9.alloc (.cells #[.int .i64 J.le.task, .int .i64 J.le.queue, .int .i64 J.le.node, .slice A7 J.le.cores.length c7, .int .i64 J.le.mem, .int .i64 J.le.since, .int .i64 J.le.til, .bool J.le.stop, .int .i64 J.work, .int .i64 J.had, .int .i64 J.frm, .slice Au J.th.length cu] tDJ)).cell? ⟨W.heap.size, 10, none⟩ = some (.int .i64 replied) ∧ (w9.alloc (.cells #[.int .i64 J.le.task, .int .i64 J.le.queue, .int .i64 J.le.node, .slice A7 J.le.cores.length c7, .int .i64 J.le.mem, .int .i64 J.le.since, .int .i64 J.le.til, .bool J.le.stop, .int .i64 J.work, .int .i64 J.had, .int .i64 J.frm, .slice Au J.th.length cu] tDJ)).cell? ⟨W.heap.size, 11, none⟩ = some (.slice A2 l.length c2)) ∧ ((w9.alloc (.cells #[.int .i64 J.le.task, .int .i64 J.le.queue, .int .i64 J.le.node, .slice A7 J.le.cores.length c7, .int .i64 J.le.mem, .int .i64 J.le.since, .int .i64 J.le.til, .bool J.le.stop, .int .i64 J.work, .int .i64 J.had, .int .i64 J.frm, .slice Au J.th.length cu] tDJ)).cell? ⟨wr.heap.size, 0, none⟩ = some (.int .i64 x.task) ∧ (w9.alloc (.cells #[.int .i64 J.le.task, .int .i64 J.le.queue, .int .i64 J.le.node, .slice A7 J.le.cores.length c7, .int .i64 J.le.mem, .int .i64 J.le.since, .int .i64 J.le.til, .bool J.le.stop, .int .i64 J.work, .int .i64 J.had, .int .i64 J.frm, .slice Au J.th.length cu] tDJ)).cell? ⟨wr.heap.size, 1, none⟩ = some (.int .i64 x.queue) ∧ (w9.alloc (.cells #[.int .i64 J.le.task, .int .i64 J.le.queue, .int .i64 J.le.node, .slice A7 J.le.cores.length c7, .int .i64 J.le.mem, .int .i64 J.le.since, .int .i64 J.le.til, .bool J.le.stop, .int .i64 J.work, .int .i64 J.had, .int .i64 J.frm, .slice Au J.th.length cu] tDJ)).cell? ⟨wr.heap.size, 2, none⟩ = some (.int .i64 x.node) ∧ (w9.alloc (.cells #[.int .i64 J.le.task, .int .i64 J.le.queue, .int .i64 J.le.node, .slice A7 J.le.cores.length c7, .int .i64 J.le.mem, .int .i64 J.le.since, .int .i64 J.le.til, .bool J.le.stop, .int .i64 J.work, .int .i64 J.had, .int .i64 J.frm, .slice Au J.th.length cu] tDJ)).cell? ⟨wr.heap.size, 3, none⟩ = some (.slice A' x.cores.length cq) ∧ (w9.alloc (.cells #[.int .i64 J.le.task, .int .i64 J.le.queue, .int .i64 J.le.node, .slice A7 J.le.cores.length c7, .int .i64 J.le.mem, .int .i64 J.le.since, .int .i64 J.le.til, .bool J.le.stop, .int .i64 J.work, .int .i64 J.had, .int .i64 J.frm, .slice Au J.th.length cu] tDJ)).cell? ⟨wr.heap.size, 4, none⟩ = some (.int .i64 x.mem) ∧ (w9.alloc (.cells #[.int .i64 J.le.task, .int .i64 J.le.queue, .int .i64 J.le.node, .slice A7 J.le.cores.length c7, .int .i64 J.le.mem, .int .i64 J.le.since, .int .i64 J.le.til, .bool J.le.stop, .int .i64 J.work, .int .i64 J.had, .int .i64 J.frm, .slice Au J.th.length cu] tDJ)).cell? ⟨wr.heap.size, 5, none⟩ = some (.int .i64 x.since) ∧ (w9.alloc (.cells #[.int .i64 J.le.task, .int .i64 J.le.queue, .int .i64 J.le.node, .slice A7 J.le.cores.length c7, .int .i64 J.le.mem, .int .i64 J.le.since, .int .i64 J.le.til, .bool J.le.stop, .int .i64 J.work, .int .i64 J.had, .int .i64 J.frm, .slice Au J.th.length cu] tDJ)).cell? ⟨wr.heap.size, 6, none⟩ = some (.int .i64 x.til) ∧ (w9.alloc (.cells #[.int .i64 J.le.task, .int .i64 J.le.queue, .int .i64 J.le.node, .slice A7 J.le.cores.length c7, .int .i64 J.le.mem, .int .i64 J.le.since, .int .i64 J.le.til, .bool J.le.stop, .int .i64 J.work, .int .i64 J.had, .int .i64 J.frm, .slice Au J.th.length cu] tDJ)).cell? ⟨wr.heap.size, 7, none⟩ = some (.bool x.stop)) ∧ ((w9.alloc (.cells #[.int .i64 J.le.task, .int .i64 J.le.queue, .int .i64 J.le.node, .slice A7 J.le.cores.length c7, .int .i64 J.le.mem, .int .i64 J.le.since, .int .i64 J.le.til, .bool J.le.stop, .int .i64 J.work, .int .i64 J.had, .int .i64 J.frm, .slice Au J.th.length cu] tDJ)).cell? ⟨w6.heap.size, 0, none⟩ = some (.int .i64 t.id) ∧ (w9.alloc (.cells #[.int .i64 J.le.task, .int .i64 J.le.queue, .int .i64 J.le.node, .slice A7 J.le.cores.length c7, .int .i64 J.le.mem, .int .i64 J.le.since, .int .i64 J.le.til, .bool J.le.stop, .int .i64 J.work, .int .i64 J.had, .int .i64 J.frm, .slice Au J.th.length cu] tDJ)).cell? ⟨w6.heap.size, 1, none⟩ = some (.int .i64 t.queue) ∧ (w9.alloc (.cells #[.int .i64 J.le.task, .int .i64 J.le.queue, .int .i64 J.le.node, .slice A7 J.le.cores.length c7, .int .i64 J.le.mem, .int .i64 J.le.since, .int .i64 J.le.til, .bool J.le.stop, .int .i64 J.work, .int .i64 J.had, .int .i64 J.frm, .slice Au J.th.length cu] tDJ)).cell? ⟨w6.heap.size, 2, none⟩ = some (.int .i64 t.cpu) ∧ (w9.alloc (.cells #[.int .i64 J.le.task, .int .i64 J.le.queue, .int .i64 J.le.node, .slice A7 J.le.cores.length c7, .int .i64 J.le.mem, .int .i64 J.le.since, .int .i64 J.le.til, .bool J.le.stop, .int .i64 J.work, .int .i64 J.had, .int .i64 J.frm, .slice Au J.th.length cu] tDJ)).cell? ⟨w6.heap.size, 3, none⟩ = some (.int .i64 t.mem) ∧ (w9.alloc (.cells #[.int .i64 J.le.task, .int .i64 J.le.queue, .int .i64 J.le.node, .slice A7 J.le.cores.length c7, .int .i64 J.le.mem, .int .i64 J.le.since, .int .i64 J.le.til, .bool J.le.stop, .int .i64 J.work, .int .i64 J.had, .int .i64 J.frm, .slice Au J.th.length cu] tDJ)).cell? ⟨w6.heap.size, 4, none⟩ = some (.int .i64 t.work) ∧ (w9.alloc (.cells #[.int .i64 J.le.task, .int .i64 J.le.queue, .int .i64 J.le.node, .slice A7 J.le.cores.length c7, .int .i64 J.le.mem, .int .i64 J.le.since, .int .i64 J.le.til, .bool J.le.stop, .int .i64 J.work, .int .i64 J.had, .int .i64 J.frm, .slice Au J.th.length cu] tDJ)).cell? ⟨w6.heap.size, 5, none⟩ = some (.slice At t.tk.length ct) ∧ (w9.alloc (.cells #[.int .i64 J.le.task, .int .i64 J.le.queue, .int .i64 J.le.node, .slice A7 J.le.cores.length c7, .int .i64 J.le.mem, .int .i64 J.le.since, .int .i64 J.le.til, .bool J.le.stop, .int .i64 J.work, .int .i64 J.had, .int .i64 J.frm, .slice Au J.th.length cu] tDJ)).cell? ⟨w6.heap.size, 6, none⟩ = some (.int .i64 t.state)) ∧ (w9.alloc (.cells #[.int .i64 J.le.task, .int .i64 J.le.queue, .int .i64 J.le.node, .slice A7 J.le.cores.length c7, .int .i64 J.le.mem, .int .i64 J.le.since, .int .i64 J.le.til, .bool J.le.stop, .int .i64 J.work, .int .i64 J.had, .int .i64 J.frm, .slice Au J.th.length cu] tDJ)).cell? ⟨gs, k, none⟩ = some (.int .i64 frm)) from ⟨blkC12 (oX9.out.alloc _), blkC8 (bC9.out.alloc _), blkC7 (bT9.out.alloc _), hsr'.out _ (hbW9.out.alloc hbW9.out.size _)⟩); have hown9 := Lib.hid (own_below (own_drew' hown6.out) b9); have hoc9 := Lib.hid (fun p hp => (hoc6.out p hp).keep (W' := w9) fun k hk _ => b9.block k hk); have hdj9 := Lib.hid (hdj.mono (Q' := fun k => Q k ∨ W.heap.size ≤ k) fun k _ hk => hk.elim .inl fun h => .inr (Nat.le_trans hbW6.out.drew.size h)); clear hdj b9)) | (go_loud (refine step_append_lies _ (by rfl) _ _ _ (by rfl) w5.heap.size tDJ i0 _ 12 128 Try.underlying89 hif hz0 hz1 hz2 rfl (by omega) (.slice A3 zs.length c3) zs.length (flatD zs) (by rfl) (hown9.out.alloc _) ⟨w9.heap.size, 0, none⟩ 1 1 (jdCs (J, ⟨A7, c7, .slice Au J.th.length cu⟩)) (by rfl) (by rfl) (World.news_of_block (cs := #[.int .i64 J.le.task, .int .i64 J.le.queue, .int .i64 J.le.node, .slice A7 J.le.cores.length c7, .int .i64 J.le.mem, .int .i64 J.le.since, .int .i64 J.le.til, .bool J.le.stop, .int .i64 J.work, .int .i64 J.had, .int .i64 J.frm, .slice Au J.th.length cu]) (t := tDJ) (fr := (0, 0)) (heap_alloc_new w9 _)) (flatD_one _ none 0 Au cu rfl) (by omega) (by unfold maxLen; omega) (by omega) (by have := hb9'.out.size; simp; omega) (w9.heap.size + 1) (by simp) ?_; intro gg cap w10 hown10 hgr10 hat10 hlt10; have oX10 := (oX9.out.alloc (.cells #[.int .i64 J.le.task, .int .i64 J.le.queue, .int .i64 J.le.node, .slice A7 J.le.cores.length c7, .int .i64 J.le.mem, .int .i64 J.le.since, .int .i64 J.le.til, .bool J.le.stop, .int .i64 J.work, .int .i64 J.had, .int .i64 J.frm, .slice Au J.th.length cu] tDJ)).kept hgr10 (fun e => by have := hrow1.out _ e.symm; omega); have bC10 := (bC9.out.alloc (.cells #[.int .i64 J.le.task, .int .i64 J.le.queue, .int .i64 J.le.node, .slice A7 J.le.cores.length c7, .int .i64 J.le.mem, .int .i64 J.le.since, .int .i64 J.le.til, .bool J.le.stop, .int .i64 J.work, .int .i64 J.had, .int .i64 J.frm, .slice Au J.th.length cu] tDJ)).kept hgr10 (fun e => by have := hrow1.out _ e.symm; omega); have bT10 := (bT9.out.alloc (.cells #[.int .i64 J.le.task, .int .i64 J.le.queue, .int .i64 J.le.node, .slice A7 J.le.cores.length c7, .int .i64 J.le.mem, .int .i64 J.le.since, .int .i64 J.le.til, .bool J.le.stop, .int .i64 J.work, .int .i64 J.had, .int .i64 J.frm, .slice Au J.th.length cu] tDJ)).kept hgr10 (fun e => by have := hrow1.out _ e.symm; omega); have hb10' := Lib.hid (below_grown (hb9'.out.alloc hb9'.out.size (.cells #[.int .i64 J.le.task, .int .i64 J.le.queue, .int .i64 J.le.node, .slice A7 J.le.cores.length c7, .int .i64 J.le.mem, .int .i64 J.le.since, .int .i64 J.le.til, .bool J.le.stop, .int .i64 J.work, .int .i64 J.had, .int .i64 J.frm, .slice Au J.th.length cu] tDJ)) hgr10 (Nat.le_refl _) (fun k hk => (hrow1.out k hk).1)); have hS10 := Lib.hid (show (((w10).cell? ⟨W.heap.size, 0, none⟩ = some (.int .i64 nid) ∧ (w10).cell? ⟨W.heap.size, 1, none⟩ = some (.int .i64 nco) ∧ (w10).cell? ⟨W.heap.size, 2, none⟩ = some (.int .i64 nme) ∧ (w10).cell? ⟨W.heap.size, 3, none⟩ = some (.int .i64 nin) ∧ (w10).cell? ⟨W.heap.size, 4, none⟩ = some (.int .i64 nbe) ∧ (w10).cell? ⟨W.heap.size, 5, none⟩ = some (.int .i64 short) ∧ (w10).cell? ⟨W.heap.size, 6, none⟩ = some (.int .i64 clock) ∧ (w10).cell? ⟨W.heap.size, 7, none⟩ = some (.bool true) ∧ (w10).cell? ⟨W.heap.size, 8, none⟩ = some (.int .i64 inc) ∧ (w10).cell? ⟨W.heap.size, 9, none⟩ = some (.slice (some ⟨gs, 0, none⟩) sent.length c) ∧ (w10).cell? ⟨W.heap.size, 10, none⟩ = some (.int .i64 replied) ∧ (w10).cell? ⟨W.heap.size, 11, none⟩ = some (.slice A2 l.length c2)) ∧ ((w10).cell? ⟨wr.heap.size, 0, none⟩ = some (.int .i64 x.task) ∧ (w10).cell? ⟨wr.heap.size, 1, none⟩ = some (.int .i64 x.queue) ∧ (w10).cell? ⟨wr.heap.size, 2, none⟩ = some (.int .i64 x.node) ∧ (w10).cell? ⟨wr.heap.size, 3, none⟩ = some (.slice A' x.cores.length cq) ∧ (w10).cell? ⟨wr.heap.size, 4, none⟩ = some (.int .i64 x.mem) ∧ (w10).cell? ⟨wr.heap.size, 5, none⟩ = some (.int .i64 x.since) ∧ (w10).cell? ⟨wr.heap.size, 6, none⟩ = some (.int .i64 x.til) ∧ (w10).cell? ⟨wr.heap.size, 7, none⟩ = some (.bool x.stop)) ∧ ((w10).cell? ⟨w6.heap.size, 0, none⟩ = some (.int .i64 t.id) ∧ (w10).cell? ⟨w6.heap.size, 1, none⟩ = some (.int .i64 t.queue) ∧ (w10).cell? ⟨w6.heap.size, 2, none⟩ = some (.int .i64 t.cpu) ∧ (w10).cell? ⟨w6.heap.size, 3, none⟩ = some (.int .i64 t.mem) ∧ (w10).cell? ⟨w6.heap.size, 4, none⟩ = some (.int .i64 t.work) ∧ (w10).cell? ⟨w6.heap.size, 5, none⟩ = some (.slice At t.tk.length ct) ∧ (w10).cell? ⟨w6.heap.size, 6, none⟩ = some (.int .i64 t.state)) ∧ (w10).cell? ⟨gs, k, none⟩ = some (.int .i64 frm)) from ⟨blkC12 oX10, blkC8 bC10, blkC7 bT10, hsr'.out _ (b5'.out.trans (below_le hb10'.out b5'.out.size))⟩); have hoc10 := Lib.hid (fun p hp => ((hoc9.out p hp).keep (W' := w9.alloc (.cells #[.int .i64 J.le.task, .int .i64 J.le.queue, .int .i64 J.le.node, .slice A7 J.le.cores.length c7, .int .i64 J.le.mem, .int .i64 J.le.since, .int .i64 J.le.til, .bool J.le.stop, .int .i64 J.work, .int .i64 J.had, .int .i64 J.frm, .slice Au J.th.length cu] tDJ)) fun k hk _ => ((Below.refl w9.heap.size w9).alloc (Nat.le_refl _) _).block k hk).grown (hown9.out.alloc _) hgr10); have hdj10 := Lib.hid ((hdj9.out.keep (W' := w9.alloc (.cells #[.int .i64 J.le.task, .int .i64 J.le.queue, .int .i64 J.le.node, .slice A7 J.le.cores.length c7, .int .i64 J.le.mem, .int .i64 J.le.since, .int .i64 J.le.til, .bool J.le.stop, .int .i64 J.work, .int .i64 J.had, .int .i64 J.frm, .slice Au J.th.length cu] tDJ)) fun k hk _ => ((Below.refl w9.heap.size w9).alloc (Nat.le_refl _) _).block k hk).grown (hown9.out.alloc _) hgr10); have hown10' := Lib.hid hown10; clear hown10 hgr10 hat10 hlt10 oX10 bC10 bT10)))
            go_wp2
            go_roundw
            case rel =>
              refine ⟨i + 1, some ⟨gg, 0, none⟩, cap, zs ++ [(J, ⟨A7, c7, .slice Au J.th.length cu⟩)], by rw [List.length_append]; rfl, by go_num, by omega, ?_, ?_, ?_, hb10'.out⟩
              · rw [List.map_append]
                exact hfst'.out
              · rw [List.length_append, flatD_app]
                exact hown10'.out
              · intro p hp
                rcases List.mem_append.1 hp with hp | hp
                · exact hoc10.out p hp
                · obtain rfl := List.mem_singleton.1 hp
                  exact hdj10.out
            case measure => simp [intOf]; omega
          · have hi' : i = xs.length := by omega
            subst hi'
            rw [List.take_of_length_le (Nat.le_refl _)] at hfst
            have zXr := zX'.out.below hbel zX'.out.lt
            rw [World.size_alloc] at zXr
            have oY1 := oXr.set 11 (.slice A3 zs.length c3) (by simp)
            have oY := oY1.set 10 (.int .i64 ((k : Int) + 1)) (by simp)
            simp only [List.setIfInBounds_toArray, List.set_cons_succ, List.set_cons_zero] at oY1 oY
            have zY : Blk ((wr.setCell ⟨W.heap.size, 11, none⟩ (.slice A3 zs.length c3)).setCell ⟨W.heap.size, 10, none⟩ (.int .i64 ((k : Int) + 1))) (W.heap.size + 1) tDA zD := (Below.heap_setCell (wr.setCell ⟨W.heap.size, 11, none⟩ (.slice A3 zs.length c3)) ⟨W.heap.size, 10, none⟩ (.int .i64 ((k : Int) + 1)) (W.heap.size + 1) (Nat.succ_ne_self _)).trans ((Below.heap_setCell wr ⟨W.heap.size, 11, none⟩ (.slice A3 zs.length c3) (W.heap.size + 1) (Nat.succ_ne_self _)).trans zXr)
            have d0 := oY.cell 0
            have d1 := oY.cell 1
            have d2 := oY.cell 2
            have d3 := oY.cell 3
            have d4 := oY.cell 4
            have d5 := oY.cell 5
            have d6 := oY.cell 6
            have d7 := oY.cell 7
            have d8 := oY.cell 8
            have d9 := oY.cell 9
            have d10 := oY.cell 10
            have d11 := oY.cell 11
            simp only [List.getElem?_toArray, List.getElem?_cons_zero, List.getElem?_cons_succ] at d0 d1 d2 d3 d4 d5 d6 d7 d8 d9 d10 d11
            have x0 := zY.cell 0
            have x1 := zY.cell 1
            have x2 := zY.cell 2
            have x3 := zY.cell 3
            have x4 := zY.cell 4
            have x5 := zY.cell 5
            have x6 := zY.cell 6
            have x7 := zY.cell 7
            have x8 := zY.cell 8
            have x9 := zY.cell 9
            have x10 := zY.cell 10
            have x11 := zY.cell 11
            simp only [List.getElem?_toArray, List.getElem?_cons_zero, List.getElem?_cons_succ] at x0 x1 x2 x3 x4 x5 x6 x7 x8 x9 x10 x11
            have c11 := oXr.cell 11
            have q11 := oXr.frozen 11
            have c10 := oY1.cell 10
            have q10 := oY1.frozen 10
            simp only [List.getElem?_toArray, List.getElem?_cons_zero, List.getElem?_cons_succ] at c11 c10
            have y0 := zY.frozen 0
            have y1 := zY.frozen 1
            have y2 := zY.frozen 2
            have y3 := zY.frozen 3
            have y4 := zY.frozen 4
            have y5 := zY.frozen 5
            have y6 := zY.frozen 6
            have y7 := zY.frozen 7
            have y8 := zY.frozen 8
            have y9 := zY.frozen 9
            have y10 := zY.frozen 10
            have y11 := zY.frozen 11
            have zY' := Lib.hid zY
            have hX0 := Lib.hid (show wr.heap[W.heap.size]? = some (.cells _ tDA (0, 0)) from oXr)
            have hX1 := Lib.hid (show wr.heap[W.heap.size + 1]? = some (.cells _ tDA (0, 0)) from zXr)
            clear oY1 oY zY
            have oXr' := Lib.hid oXr
            have zXr' := Lib.hid zXr
            have hfst' := Lib.hid hfst
            have hown' := Lib.hid hown
            have hoc' := Lib.hid hoc
            have hrowk' := Lib.hid hrowk
            have hbW' := Lib.hid hbW
            have hbs := hbel.size
            clear oXr zXr hfst hown hoc hbW hbel hrowk
            go_wp2
            have RR := blk12 zY'.out (by rfl) (.int .i64 nid) (.int .i64 nco) (.int .i64 nme) (.int .i64 nin) (.int .i64 nbe) (.int .i64 short) (.int .i64 clock) (.bool true) (.int .i64 inc) (.slice (some ⟨gs, 0, none⟩) sent.length c) (.int .i64 ((k : Int) + 1)) (.slice A3 zs.length c3)
            refine bodyPost_ret (results_ct rfl _ _ _ tDA #[.int .i64 nid, .int .i64 nco, .int .i64 nme, .int .i64 nin, .int .i64 nbe, .int .i64 short, .int .i64 clock, .bool true, .int .i64 inc, .slice (some ⟨gs, 0, none⟩) sent.length c, .int .i64 ((k : Int) + 1), .slice A3 zs.length c3] (0, 0) _ rfl RR Try.underlying91 rfl (by kernel_rfl)) rfl ?_
            have hbF := below12 (((hbW'.out).setCell (p := ⟨W.heap.size, 11, none⟩) (Nat.le_refl _) (.slice A3 zs.length c3)).setCell (p := ⟨W.heap.size, 10, none⟩) (Nat.le_refl _) (.int .i64 ((k : Int) + 1))) (b := W.heap.size + 1) (Nat.le_succ _) (.int .i64 nid) (.int .i64 nco) (.int .i64 nme) (.int .i64 nin) (.int .i64 nbe) (.int .i64 short) (.int .i64 clock) (.bool true) (.int .i64 inc) (.slice (some ⟨gs, 0, none⟩) sent.length c) (.int .i64 ((k : Int) + 1)) (.slice A3 zs.length c3)
            have hH : ∀ q, q ≠ W.heap.size → q ≠ W.heap.size + 1 → (set12 ((wr.setCell ⟨W.heap.size, 11, none⟩ (.slice A3 zs.length c3)).setCell ⟨W.heap.size, 10, none⟩ (.int .i64 ((k : Int) + 1))) (W.heap.size + 1) (.int .i64 nid) (.int .i64 nco) (.int .i64 nme) (.int .i64 nin) (.int .i64 nbe) (.int .i64 short) (.int .i64 clock) (.bool true) (.int .i64 inc) (.slice (some ⟨gs, 0, none⟩) sent.length c) (.int .i64 ((k : Int) + 1)) (.slice A3 zs.length c3)).heap[q]? = wr.heap[q]? := fun q h1 h2 => ((set12_heap _ _ _ _ _ _ _ _ _ _ _ _ _ _ h2).trans (Below.heap_setCell _ _ _ q h1)).trans (Below.heap_setCell _ _ _ q h1)
            have key : ∀ wF, Below W.heap.size W wF → (∀ q, q ≠ W.heap.size → q ≠ W.heap.size + 1 → wF.heap[q]? = wr.heap[q]?) → ∃ x', Ending.returned (.tuple #[.agg #[.int .i64 nid, .int .i64 nco, .int .i64 nme, .int .i64 nin, .int .i64 nbe, .int .i64 short, .int .i64 clock, .bool true, .int .i64 inc, .slice (some ⟨gs, 0, none⟩) sent.length c, .int .i64 ((k : Int) + 1), .slice A3 zs.length c3], .int .i64 0]) = .returned (.tuple #[x', .int .i64 0]) ∧ DocR (fun k => Q k ∨ W.heap.size ≤ k) wF x' ⟨nid, nco, nme, nin, nbe, short, clock, true, inc, sent, (k : Int) + 1, replyJ ⟨nid, nco, nme, nin, nbe, short, clock, true, inc, sent, replied, jobs⟩ ts xs frm⟩ ∧ Below W.heap.size W wF := by
              intro wF hbF hH
              have hD := h'.out.below hbF
              have hr2 := Str.own_move (w' := wF) hown'.out fun q hq => hH q (by have := (hrowk'.out q hq).1; omega) (by have := (hrowk'.out q hq).1; omega)
              refine ⟨_, rfl, ⟨_, _, zs, rfl, (by rw [← hSS]; exact hfst'.out), hD.sent, fun q hq => .inl (hD.sentQ q hq), own_lower' hr2 (Nat.zero_le _), fun q hq => .inr (by have := (hrowk'.out q hq).1; omega), fun p hp => (hoc'.out p hp).move fun q cur e hl hc h1 h2 => hH q (fun e2 => ?_) (fun e2 => ?_)⟩, hbF⟩
              · subst e2
                have hc2 := hX0.out
                rw [hc] at hc2
                injection hc2 with hc2
                injection hc2 with _ hc2 _
                exact h2 hc2
              · subst e2
                have hc2 := hX1.out
                rw [hc] at hc2
                injection hc2 with hc2
                injection hc2 with _ hc2 _
                exact h2 hc2
            exact key _ hbF hH
    · have x1 : (n == inc) = false := beq_eq_false_iff_ne.mpr k1
      have hj := Lib.hid (show replyG ⟨nid, nco, nme, nin, nbe, short, clock, true, inc, sent, replied, jobs⟩ n m xs ts = (⟨nid, nco, nme, nin, nbe, short, clock, true, inc, sent, replied, jobs⟩, 15) by unfold replyG; rw [if_pos rfl, if_pos (show staleG _ n m from .inl k1)])
      simp only [hj.out]
      go_enter Try.func68, Try.ntmps68
      go_wp2
      have RR := Blk.new (W.alloc (.cells #[.int .i64 nid, .int .i64 nco, .int .i64 nme, .int .i64 nin, .int .i64 nbe, .int .i64 short, .int .i64 clock, .bool true, .int .i64 inc, .slice A sent.length c, .int .i64 replied, .slice A2 l.length c2] tDA)) tDA #[.int .i64 nid, .int .i64 nco, .int .i64 nme, .int .i64 nin, .int .i64 nbe, .int .i64 short, .int .i64 clock, .bool true, .int .i64 inc, .slice A sent.length c, .int .i64 replied, .slice A2 l.length c2]
      rw [World.size_alloc] at RR
      refine bodyPost_ret (results_ct rfl _ _ _ tDA #[.int .i64 nid, .int .i64 nco, .int .i64 nme, .int .i64 nin, .int .i64 nbe, .int .i64 short, .int .i64 clock, .bool true, .int .i64 inc, .slice A sent.length c, .int .i64 replied, .slice A2 l.length c2] (0, 0) _ rfl RR Try.underlying91 rfl (by kernel_rfl)) rfl ?_
      exact ⟨_, rfl, ⟨_, _, l, rfl, (h'.out.mono fun k _ hk => .inl hk).below (below2 _ _)⟩, below2 _ _⟩
end Go.Proofs.Ytkcmmghhghgdpaa.Agt
end
section
namespace Go.Proofs.Ytkcmmghhghgdpaa.Agt
open Go.RowKit Go.Shelf Go.Maps Go.Proofs.Ytkcmmghhghgdpaa.Iter Go.Proofs.Ytkcmmghhghgdpaa.Str Go.Proofs.YtkcmmghhghgdpaaW.PrintWords Go.Proofs.YtkcmmghhghgdpaaW.PrintLast
set_option linter.unusedVariables false
set_option linter.unusedSimpArgs false
abbrev tRn : Nat := 166
theorem infoRn : (Try.prog.info? tRn).map (fun i => (i.zero, i.size, i.bytes)) = some (some (.agg #[.int .i64 0, .int .i64 0]), 2, 16) := by kernel_rfl
def updJ (S : Ag) (j : Jb) : Jb := if liveJ S j = true then quantJ j else j
def upD (S : Ag) (i : Nat) : List Jb := (S.jobs.take i).map (updJ S) ++ S.jobs.drop i
def rnD (S : Ag) (i : Nat) : List (Int × Int) := ((S.jobs.take i).filter (liveJ S)).map fun j => (j.le.task, (pickR j.th).2.1)
theorem rnD_next (S : Ag) (i : Nat) (j : Jb) (h : S.jobs[i]? = some j) : rnD S (i + 1) = rnD S i ++ (if liveJ S j = true then [(j.le.task, (pickR j.th).2.1)] else []) := by
  unfold rnD
  rw [List.take_add_one, h, List.filter_append, List.map_append]
  congr 1
  show ((List.filter (liveJ S) [j]).map _) = _
  rw [List.filter_cons]
  split <;> rfl
theorem rnD_len (S : Ag) (i : Nat) : (rnD S i).length ≤ i := by
  unfold rnD
  rw [List.length_map]
  have := List.length_filter_le (liveJ S) (S.jobs.take i)
  rw [List.length_take] at this
  omega
theorem upD_zero (S : Ag) : upD S 0 = S.jobs := by simp [upD]
theorem upD_all (S : Ag) (n : Nat) (h : n = S.jobs.length) : upD S n = S.jobs.map (updJ S) := by subst h; simp [upD]
theorem rnD_all (S : Ag) (n : Nat) (h : n = S.jobs.length) : rnD S n = (quantG S).2 := by subst h; simp [rnD, quantG]
theorem upD_at (S : Ag) (i : Nat) (j : Jb) (h : S.jobs[i]? = some j) : (upD S i)[i]? = some j := by
  have hi := (List.getElem?_eq_some_iff.1 h).1
  unfold upD
  rw [List.getElem?_append_right (by rw [List.length_map, List.length_take]; omega), List.length_map, List.length_take, Nat.min_eq_left (by omega), Nat.sub_self, List.getElem?_drop, Nat.add_zero]
  exact h
theorem upD_next (S : Ag) (i : Nat) (j : Jb) (h : S.jobs[i]? = some j) : upD S (i + 1) = (upD S i).set i (updJ S j) := by
  have hi := (List.getElem?_eq_some_iff.1 h).1
  have hl : ((S.jobs.take i).map (updJ S)).length = i := by rw [List.length_map, List.length_take]; omega
  unfold upD
  rw [List.take_add_one, h, List.map_append, List.set_append_right _ _ (by omega), hl, Nat.sub_self, List.append_assoc]
  congr 1
  rw [show S.jobs.drop i = j :: S.jobs.drop (i + 1) by rw [List.drop_eq_getElem_cons hi]; congr 1; exact (List.getElem?_eq_some_iff.1 h).2]
  rfl
theorem flatD_set2 : ∀ (zs : List (Jb × DJ)) (i : Nat) (p : Jb × DJ) (u : Value) (had : Int) (th : List Cl), zs[i]? = some p → ((flatD zs).set (i * 12 + 11) u).set (i * 12 + 9) (.int .i64 had) = flatD (zs.set i (⟨p.1.le, p.1.frm, p.1.work, had, th⟩, ⟨p.2.A, p.2.c, u⟩))
  | [], i, p, u, had, th, h => by simp at h
  | x :: zs, 0, p, u, had, th, h => by
    obtain rfl : x = p := by simpa using h
    show ((jdCs x ++ flatD zs).set (0 * 12 + 11) u).set (0 * 12 + 9) _ = jdCs _ ++ flatD zs
    rfl
  | x :: zs, i + 1, p, u, had, th, h => by
    have ih := flatD_set2 zs i p u had th (by simpa using h)
    show ((jdCs x ++ flatD zs).set ((i + 1) * 12 + 11) u).set ((i + 1) * 12 + 9) _ = jdCs x ++ flatD (zs.set i _)
    rw [List.set_append_right _ _ (by simp; omega), List.set_append_right _ _ (by simp; omega), ← ih, show (i + 1) * 12 + 11 - (jdCs x).length = i * 12 + 11 by simp; omega, show (i + 1) * 12 + 9 - (jdCs x).length = i * 12 + 9 by simp; omega]
theorem flatD_ones (l : List (Jb × DJ)) (h : ∀ p ∈ l, ∃ A n c, p.2.u = .slice A n c) : ∀ x ∈ flatD l, x.oneCell' = true := fun x hx => by
  obtain ⟨p, hp, hx⟩ := List.mem_flatMap.1 hx
  obtain ⟨A, n, c, hu⟩ := h p hp
  simp only [jdCs, hu, List.mem_cons, List.not_mem_nil, or_false] at hx
  rcases hx with rfl | rfl | rfl | rfl | rfl | rfl | rfl | rfl | rfl | rfl | rfl | rfl <;> rfl
theorem DocJ.move2 {Q : Nat → Prop} {W W' : World} {p : Jb × DJ} (h : DocJ Q W p) (hk : ∀ (k : Nat) (cur : Array Value) (e : TypeId), k < W.heap.size → W.heap[k]? = some (Obj.cells cur e (0, 0)) → (e = tI ∨ e = tR) → W'.heap[k]? = W.heap[k]?) : DocJ Q W' p :=
  ⟨Str.own_move h.cores fun k hb => by obtain ⟨_, hl, cur, hc⟩ := own_block h.cores hb; exact hk k cur tI hl hc (.inl rfl), h.coreQ,
   Str.own_move h.grp fun k hb => by obtain ⟨_, hl, cur, hc⟩ := own_block h.grp hb; exact hk k cur tR hl hc (.inr rfl), h.grpQ⟩
theorem cells_ne {W : World} {k g : Nat} {cur cur2 : Array Value} {e e2 : TypeId} (h : W.heap[k]? = some (Obj.cells cur e (0, 0))) (h2 : W.heap[g]? = some (Obj.cells cur2 e2 (0, 0))) (hn : e ≠ e2) : k ≠ g := fun e' => by
  subst e'
  rw [h] at h2
  injection h2 with h2
  injection h2 with _ h2 _
  exact hn h2
theorem set_same {α : Type} {l : List α} {i : Nat} {x : α} (h : l[i]? = some x) : l.set i x = l := by
  obtain ⟨hi, e⟩ := List.getElem?_eq_some_iff.1 h
  subst e
  exact List.set_getElem_self hi
/-- A job in a row of its own, as it is read. -/
theorem rowD_at {Q : Nat → Prop} {B n cm : Nat} {Am : Option Addr} {zs : List (Jb × DJ)} {W : World} (hrow : W.ownsRow B tDJ 12 (.slice Am n cm) n (flatD zs)) (hlen : zs.length = n) (hdoc : ∀ p ∈ zs, DocJ Q W p) {i : Nat} (hi : i < n) :
    ∃ g j A c Au cu, Am = some ⟨g, 0, none⟩ ∧ B ≤ g ∧ (∃ cur, W.heap[g]? = some (.cells cur tDJ (0, 0))) ∧ zs[i]? = some (j, ⟨A, c, .slice Au j.th.length cu⟩) ∧ DocJ Q W (j, ⟨A, c, .slice Au j.th.length cu⟩) ∧ ∀ (m : Nat) v, m < 12 → (#[.int .i64 j.le.task, .int .i64 j.le.queue, .int .i64 j.le.node, .slice A j.le.cores.length c, .int .i64 j.le.mem, .int .i64 j.le.since, .int .i64 j.le.til, .bool j.le.stop, .int .i64 j.work, .int .i64 j.had, .int .i64 j.frm, .slice Au j.th.length cu])[m]? = some v → W.cell? ⟨g, i * 12 + m, none⟩ = some v := by
  obtain ⟨p, hp⟩ : ∃ p, zs[i]? = some p := ⟨zs[i], List.getElem?_eq_getElem (by omega)⟩
  obtain ⟨j, A, c, u⟩ := p
  have hj := hdoc _ (List.mem_of_getElem? hp)
  obtain ⟨Au, cu, hu⟩ := own_slice hj.grp
  dsimp only at hu
  subst hu
  obtain ⟨g, c2, hv⟩ := own_someL hrow (by omega)
  injection hv with e1 _ _
  subst e1
  obtain ⟨o1, _, o2⟩ := own_block hrow (k := g) rfl
  refine ⟨g, j, A, c, Au, cu, rfl, o1, o2, hp, hj, fun m v hm hv => ?_⟩
  rw [hrow.cellAt (i * 12 + m) (by omega), flatD_get zs i m _ hm hp, ← List.getElem?_toArray]
  exact hv
set_option maxRecDepth 100000 in
set_option maxHeartbeats 8000000 in
theorem quantD {Q : Nat → Prop} {vs vj : Value} {l : List (Jb × DJ)} {S : Ag} (W : World) (h : DocM Q vs vj l S W) (hok : AgOk S) (hhad : ∀ j ∈ S.jobs, j.had < 9223372036854775807) :
    Calls Try.prog 69 #[.agg (agCells S vs vj)] W fun e W' => ∃ x' A c, e = .returned (.tuple #[x', .slice A (quantG S).2.length c]) ∧ DocR (fun k => Q k ∨ W.heap.size ≤ k) W' x' (quantG S).1 ∧ W'.ownsRow W.heap.size tRn 2 (.slice A (quantG S).2.length c) (quantG S).2.length (flatR (quantG S).2) ∧ Below W.heap.size W W' := by
  have hll : l.length ≤ 64 := by have := h.len; have := hok.jobs; omega
  have hlj := Lib.hid h.len
  obtain ⟨As, cs, rfl⟩ := own_slice h.sent
  obtain ⟨Aj, cj, rfl⟩ := own_slice h.jrow
  dsimp only [agCells]
  have h' := Lib.hid h
  have hok' := Lib.hid hok
  have hhad' := Lib.hid hhad
  have bX := Blk.new W tDA #[.int .i64 S.nid, .int .i64 S.nco, .int .i64 S.nme, .int .i64 S.nin, .int .i64 S.nbe, .int .i64 S.short, .int .i64 S.clock, .bool S.runs, .int .i64 S.inc, .slice As S.sent.length cs, .int .i64 S.replied, .slice Aj l.length cj]
  have d0 := bX.cell 0
  have d1 := bX.cell 1
  have d2 := bX.cell 2
  have d3 := bX.cell 3
  have d4 := bX.cell 4
  have d5 := bX.cell 5
  have d6 := bX.cell 6
  have d7 := bX.cell 7
  have d8 := bX.cell 8
  have d9 := bX.cell 9
  have d10 := bX.cell 10
  have d11 := bX.cell 11
  simp only [List.getElem?_toArray, List.getElem?_cons_zero, List.getElem?_cons_succ] at d0 d1 d2 d3 d4 d5 d6 d7 d8 d9 d10 d11
  have bX' := Lib.hid bX
  have hB2 := below2 (W := W) (.cells #[.int .i64 S.nid, .int .i64 S.nco, .int .i64 S.nme, .int .i64 S.nin, .int .i64 S.nbe, .int .i64 S.short, .int .i64 S.clock, .bool S.runs, .int .i64 S.inc, .slice As S.sent.length cs, .int .i64 S.replied, .slice Aj l.length cj] tDA) (.cells zD tDA)
  obtain ⟨v3, w3, hrun, hown3, hb3⟩ := copy_run (P := Try.prog) (t := 89) Try.underlying89 infoDJ rfl (by decide) (by decide) (h'.out.below hB2).jrow (flatD_ones l fun p hp => by obtain ⟨A, c, hu⟩ := own_slice (h'.out.job p hp).grp; exact ⟨_, _, _, hu⟩) (by omega)
  simp only [World.size_alloc] at hrun hown3
  obtain ⟨Am, cm, rfl⟩ := own_slice hown3
  have hown3' := Lib.hid hown3
  have oX := (bX'.out.alloc (.cells zD tDA)).below hb3 (by first | (simp; done) | (simp; omega))
  have zX := (Blk.new (W.alloc (.cells #[.int .i64 S.nid, .int .i64 S.nco, .int .i64 S.nme, .int .i64 S.nin, .int .i64 S.nbe, .int .i64 S.short, .int .i64 S.clock, .bool S.runs, .int .i64 S.inc, .slice As S.sent.length cs, .int .i64 S.replied, .slice Aj l.length cj] tDA)) tDA zD).below hb3 (by first | (simp; done) | (simp; omega))
  rw [World.size_alloc] at zX
  have hsz3 : W.heap.size + 1 + 1 ≤ w3.heap.size := by have := hb3.size; simp at this; omega
  have hb3' := Lib.hid (hB2.trans (below_le hb3 hB2.size))
  have hd3 := Lib.hid (fun p hp => ((h'.out.below (hB2.trans (below_le hb3 hB2.size))).job p hp).mono (Q' := fun k => Q k ∨ W.heap.size ≤ k) fun k _ hk => .inl hk)
  have oX' := Lib.hid oX
  have zX' := Lib.hid zX
  obtain ⟨i0, hif, hz0, hz1, hz2⟩ := info_parts infoRn
  have hl3 := Lib.hid h.len
  have hf3 := Lib.hid h.fst
  clear h bX hok hhad oX zX hb3 hown3 hB2
  go_enter Try.func69, Try.ntmps69
  go_wp2_with (at_builtin; refine wpList_append_run _ rfl _ _ _ _ rfl _ _ rfl rfl hrun ?_)
  clear d0 d1 d2 d3 d4 d5 d6 d7 d8 d9 d10 d11
  go_loopw [4, 17] (fun zv iv wr => ∃ (i : Nat) (A4 : Option Addr) (c4 : Nat) (zs : List (Jb × DJ)), zv = .slice A4 (rnD S i).length c4 ∧ iv = .int .i64 (i : Int) ∧ i ≤ l.length ∧ wr.ownsRow (W.heap.size + 1 + 1) tRn 2 (.slice A4 (rnD S i).length c4) (rnD S i).length (flatR (rnD S i)) ∧ wr.ownsRow (W.heap.size + 1 + 1) tDJ 12 (.slice Am l.length cm) l.length (flatD zs) ∧ zs.length = l.length ∧ zs.map (·.1) = upD S i ∧ (∀ p ∈ zs, DocJ (fun k => Q k ∨ W.heap.size ≤ k) wr p) ∧ Below (W.heap.size + 1 + 1) w3 wr)
    (fun _ iv _ => l.length - (intOf iv).toNat)
  case atStart => exact ⟨0, none, 0, l, rfl, rfl, Nat.zero_le _, World.ownsRow_nil _ _ _ _, hown3'.out, rfl, by rw [upD_zero]; exact hf3.out, hd3.out, Below.refl _ _⟩
  case round =>
    obtain ⟨i, A4, c4, zs, rfl, rfl, hi, hrn, hrow, hzl, hfst, hdoc, hbel⟩ := hrel
    have hrl := rnD_len S i
    have hzl' := Lib.hid hzl
    have oXr := oX'.out.below hbel (by omega)
    by_cases hlt : i < l.length
    · obtain ⟨g, j, A, c, Au, cu, rfl, hBg, hgc, hp, hdj, hcell⟩ := rowD_at hrow hzl hdoc hlt
      have hj : S.jobs[i]? = some j := by
        have h1 := congrArg (fun q => q[i]?) hfst
        simp only [List.getElem?_map, hp, Option.map_some] at h1
        have hi2 : i < S.jobs.length := by have := hlj.out; omega
        have h2 := upD_at S i _ (List.getElem?_eq_getElem hi2)
        rw [h2] at h1
        rw [List.getElem?_eq_getElem hi2]
        exact h1.symm
      have hst := Lib.hid (rnD_next S i j hj)
      have hun := Lib.hid (upD_next S i j hj)
      have hua := Lib.hid (upD_at S i j hj)
      obtain ⟨jk1, jk2, jk3, jk4, jk5⟩ := hok'.out.job j (List.mem_of_getElem? hj)
      have jk2' := Lib.hid jk2
      have hcl := hok'.out.clock
      have hjh := hhad'.out j (List.mem_of_getElem? hj)
      have q0 := hcell 0 _ (by omega) rfl
      rw [Nat.add_zero] at q0
      have q1 := hcell 1 _ (by omega) rfl
      have q2 := hcell 2 _ (by omega) rfl
      have q3 := hcell 3 _ (by omega) rfl
      have q4 := hcell 4 _ (by omega) rfl
      have q5 := hcell 5 _ (by omega) rfl
      have q6 := hcell 6 _ (by omega) rfl
      have q7 := hcell 7 _ (by omega) rfl
      have q8 := hcell 8 _ (by omega) rfl
      have q9 := hcell 9 _ (by omega) rfl
      have q10 := hcell 10 _ (by omega) rfl
      have q11 := hcell 11 _ (by omega) rfl
      have bC := Blk.new wr tDJ #[.int .i64 j.le.task, .int .i64 j.le.queue, .int .i64 j.le.node, .slice A j.le.cores.length c, .int .i64 j.le.mem, .int .i64 j.le.since, .int .i64 j.le.til, .bool j.le.stop, .int .i64 j.work, .int .i64 j.had, .int .i64 j.frm, .slice Au j.th.length cu]
      have oX2 := oXr.alloc (.cells #[.int .i64 j.le.task, .int .i64 j.le.queue, .int .i64 j.le.node, .slice A j.le.cores.length c, .int .i64 j.le.mem, .int .i64 j.le.since, .int .i64 j.le.til, .bool j.le.stop, .int .i64 j.work, .int .i64 j.had, .int .i64 j.frm, .slice Au j.th.length cu] tDJ)
      have x0 := bC.cell 0
      have x1 := bC.cell 1
      have x2 := bC.cell 2
      have x3 := bC.cell 3
      have x4 := bC.cell 4
      have x5 := bC.cell 5
      have x6 := bC.cell 6
      have x7 := bC.cell 7
      have x8 := bC.cell 8
      have x9 := bC.cell 9
      have x10 := bC.cell 10
      have x11 := bC.cell 11
      simp only [List.getElem?_toArray, List.getElem?_cons_zero, List.getElem?_cons_succ] at x0 x1 x2 x3 x4 x5 x6 x7 x8 x9 x10 x11
      have y0 := oX2.cell 0
      have y1 := oX2.cell 1
      have y2 := oX2.cell 2
      have y3 := oX2.cell 3
      have y4 := oX2.cell 4
      have y5 := oX2.cell 5
      have y6 := oX2.cell 6
      have y7 := oX2.cell 7
      have y8 := oX2.cell 8
      have y9 := oX2.cell 9
      have y10 := oX2.cell 10
      have y11 := oX2.cell 11
      simp only [List.getElem?_toArray, List.getElem?_cons_zero, List.getElem?_cons_succ] at y0 y1 y2 y3 y4 y5 y6 y7 y8 y9 y10 y11
      have ba := (Below.refl wr.heap.size wr).alloc (Nat.le_refl _) (.cells #[.int .i64 j.le.task, .int .i64 j.le.queue, .int .i64 j.le.node, .slice A j.le.cores.length c, .int .i64 j.le.mem, .int .i64 j.le.since, .int .i64 j.le.til, .bool j.le.stop, .int .i64 j.work, .int .i64 j.had, .int .i64 j.frm, .slice Au j.th.length cu] tDJ)
      have hb2 := Lib.hid (hbel.trans (below_le ba (Nat.le_trans hsz3 hbel.size)))
      have hr2 := Lib.hid (hrn.alloc (.cells #[.int .i64 j.le.task, .int .i64 j.le.queue, .int .i64 j.le.node, .slice A j.le.cores.length c, .int .i64 j.le.mem, .int .i64 j.le.since, .int .i64 j.le.til, .bool j.le.stop, .int .i64 j.work, .int .i64 j.had, .int .i64 j.frm, .slice Au j.th.length cu] tDJ))
      have hj2 := Lib.hid (hrow.alloc (.cells #[.int .i64 j.le.task, .int .i64 j.le.queue, .int .i64 j.le.node, .slice A j.le.cores.length c, .int .i64 j.le.mem, .int .i64 j.le.since, .int .i64 j.le.til, .bool j.le.stop, .int .i64 j.work, .int .i64 j.had, .int .i64 j.frm, .slice Au j.th.length cu] tDJ))
      have hd2 := Lib.hid (fun p hp => (hdoc p hp).keep (W' := wr.alloc (.cells #[.int .i64 j.le.task, .int .i64 j.le.queue, .int .i64 j.le.node, .slice A j.le.cores.length c, .int .i64 j.le.mem, .int .i64 j.le.since, .int .i64 j.le.til, .bool j.le.stop, .int .i64 j.work, .int .i64 j.had, .int .i64 j.frm, .slice Au j.th.length cu] tDJ)) fun k hk _ => ba.block k hk)
      have hc2 := Lib.hid bC
      have ha2 := Lib.hid oX2
      have hfst' := Lib.hid hfst
      have hp' := Lib.hid hp
      have hrk := Lib.hid (show ∀ k, (Value.slice A4 (rnD S i).length c4).ownBlock = some k → W.heap.size + 1 + 1 ≤ k from fun k hk => (own_block hrn hk).1)
      have hgl : g < wr.heap.size := (own_block hrow (k := g) rfl).2.1
      obtain ⟨R, hR⟩ : ∃ R, rnD S i = R := ⟨_, rfl⟩
      rw [hR] at hr2 hst hrl hrk ⊢
      obtain ⟨b, hb⟩ : ∃ b, liveJ S j = b := ⟨_, rfl⟩
      have hF := Lib.hid (fun w => show Calls Try.prog 92 #[.agg #[.int .i64 S.nid, .int .i64 S.nco, .int .i64 S.nme, .int .i64 S.nin, .int .i64 S.nbe, .int .i64 S.short, .int .i64 S.clock, .bool S.runs, .int .i64 S.inc, .slice As S.sent.length cs, .int .i64 S.replied, .slice Aj l.length cj], .agg #[.int .i64 j.le.task, .int .i64 j.le.queue, .int .i64 j.le.node, .slice A j.le.cores.length c, .int .i64 j.le.mem, .int .i64 j.le.since, .int .i64 j.le.til, .bool j.le.stop, .int .i64 j.work, .int .i64 j.had, .int .i64 j.frm, .slice Au j.th.length cu]] w fun e W' => e = .returned (.bool b) ∧ Below w.heap.size w W' from hb ▸ liveD S.nid S.nco S.nme S.nin S.nbe S.short S.clock S.inc S.replied S.runs As Aj S.sent.length cs l.length cj j.le.task j.le.queue j.le.node j.le.mem j.le.since j.le.til j.work j.had j.frm j.le.stop A Au j.le.cores.length c j.th.length cu w jk3 jk4 hcl.2)
      have hup := Lib.hid (show updJ S j = if b = true then quantJ j else j by unfold updJ; rw [hb])
      rw [hb] at hst
      clear hrn hrow hzl hfst hdoc hbel oXr hgc hp hdj hcell hj bC oX2 ba hR hb jk1 jk2 jk3 jk4 hcl
      cases b with
      | true =>
        rw [if_pos rfl] at hst hup
        go_upto_region 10 with (first | (((with_reducible refine gate_callee (f := 92) rfl ?_); refine goesL_ (some 24) rfl rfl Try.func92 (by kernel_rfl) rfl #[.agg #[.int .i64 S.nid, .int .i64 S.nco, .int .i64 S.nme, .int .i64 S.nin, .int .i64 S.nbe, .int .i64 S.short, .int .i64 S.clock, .bool S.runs, .int .i64 S.inc, .slice As S.sent.length cs, .int .i64 S.replied, .slice Aj l.length cj], .agg #[.int .i64 j.le.task, .int .i64 j.le.queue, .int .i64 j.le.node, .slice A j.le.cores.length c, .int .i64 j.le.mem, .int .i64 j.le.since, .int .i64 j.le.til, .bool j.le.stop, .int .i64 j.work, .int .i64 j.had, .int .i64 j.frm, .slice Au j.th.length cu]] rfl (by (try simp only [List.map_toArray, List.map_cons, List.map_nil]); first | done | rfl) ?_; (with_reducible refine (hF.out _).mono ?_); rintro e w4 ⟨rfl, b4⟩; refine ⟨_, rfl, ?_⟩; have hr4' := Lib.hid (own_below hr2.out b4); have hj4' := Lib.hid (own_below hj2.out b4); have hd4' := Lib.hid (fun p hp => (hd2.out p hp).keep (W' := w4) fun k hk _ => b4.block k hk); have hc4 := hc2.out.below b4 hc2.out.lt; have ha4' := Lib.hid (ha2.out.below b4 ha2.out.lt); have hz4 := b4.size; rw [World.size_alloc] at hz4; have e0 := hc4.cell 0; have e1 := hc4.cell 1; have e2 := hc4.cell 2; have e3 := hc4.cell 3; have e4 := hc4.cell 4; have e5 := hc4.cell 5; have e6 := hc4.cell 6; have e7 := hc4.cell 7; have e8 := hc4.cell 8; have e9 := hc4.cell 9; have e10 := hc4.cell 10; have e11 := hc4.cell 11; simp only [List.getElem?_toArray, List.getElem?_cons_zero, List.getElem?_cons_succ] at e0 e1 e2 e3 e4 e5 e6 e7 e8 e9 e10 e11; have hc4' := Lib.hid hc4; have b4' := Lib.hid (hb2.out.trans (below_le b4 (Nat.le_trans hsz3 hb2.out.size))); clear b4 hc4)) | (((with_reducible refine gate_callee (f := 51) rfl ?_); refine goesL_ (some 29) rfl rfl Try.func51 (by kernel_rfl) rfl #[.slice Au j.th.length cu] rfl (by (try simp only [List.map_toArray, List.map_cons, List.map_nil]); first | done | rfl) ?_; (with_reducible refine (pickD_callsQ Au cu j.th _ jk2'.out (hd4'.out _ (List.mem_of_getElem? hp'.out)).grp).mono ?_); rintro e w7 ⟨u7, rfl, r7, q7', b7⟩; refine ⟨_, rfl, ?_⟩; obtain ⟨A7, c7, rfl⟩ := r7.slice; have hr7' := Lib.hid (own_below hr4'.out b7); have hj7 := own_below hj4'.out b7; have hd7' := Lib.hid (fun p hp => (hd4'.out p hp).keep (W' := w7) fun k hk _ => b7.block k hk); have hc7' := Lib.hid (hc4'.out.below b7 hc4'.out.lt); have ha7' := Lib.hid (ha4'.out.below b7 ha4'.out.lt); have hz7 := b7.size; have b7' := Lib.hid (b4'.out.trans (below_le b7 (Nat.le_trans hsz3 b4'.out.size))); have r7' := Lib.hid r7; have q77 := Lib.hid q7'; have s11 := hj7.cellAt (i * 12 + 11) (by omega); rw [flatD_get zs i 11 _ (by omega) hp'.out] at s11; have sf11 := hj7.frozenAt (i * 12 + 11); have hj71 := (hj7.stored (i * 12 + 11) (.slice A7 (pickR j.th).1.length c7)).1; have s9 := hj71.cellAt (i * 12 + 9) (by omega); rw [List.getElem?_set_ne (by omega), flatD_get zs i 9 _ (by omega) hp'.out] at s9; have sf9 := hj71.frozenAt (i * 12 + 9); have hj72 := (hj71.stored (i * 12 + 9) (.int .i64 (j.had + 1))).1; rw [flatD_set2 zs i _ _ _ (pickR j.th).1 hp'.out] at hj72; simp only [jdCs, List.getElem?_cons_zero, List.getElem?_cons_succ] at s11 s9; have hj7' := Lib.hid hj7; have hj72' := Lib.hid hj72; have hw9 : IntKind.i64.wrap (j.had + 1) = j.had + 1 := IntWalk.i64_in _ (by omega); clear r7 q7' b7 hj7 hj71 hj72 e0 e1 e2 e3 e4 e5 e6 e7 e8 e9 e10 e11)))
        obtain ⟨_, _, hgc7⟩ := own_block hj7'.out (k := g) rfl
        obtain ⟨curg, hgc7⟩ := hgc7
        have hH : ∀ k, k ≠ g → ((w7.setCell ⟨g, i * 12 + 11, none⟩ (.slice A7 (pickR j.th).1.length c7)).setCell ⟨g, i * 12 + 9, none⟩ (.int .i64 (j.had + 1))).heap[k]? = w7.heap[k]? := fun k hk => (Below.heap_setCell (w7.setCell ⟨g, i * 12 + 11, none⟩ (.slice A7 (pickR j.th).1.length c7)) ⟨g, i * 12 + 9, none⟩ (.int .i64 (j.had + 1)) k hk).trans (Below.heap_setCell w7 ⟨g, i * 12 + 11, none⟩ (.slice A7 (pickR j.th).1.length c7) k hk)
        have bC72 : Blk ((w7.setCell ⟨g, i * 12 + 11, none⟩ (.slice A7 (pickR j.th).1.length c7)).setCell ⟨g, i * 12 + 9, none⟩ (.int .i64 (j.had + 1))) wr.heap.size tDJ #[.int .i64 j.le.task, .int .i64 j.le.queue, .int .i64 j.le.node, .slice A j.le.cores.length c, .int .i64 j.le.mem, .int .i64 j.le.since, .int .i64 j.le.til, .bool j.le.stop, .int .i64 j.work, .int .i64 j.had, .int .i64 j.frm, .slice Au j.th.length cu] := (hH _ (by omega)).trans hc7'.out
        have oX72 : Blk ((w7.setCell ⟨g, i * 12 + 11, none⟩ (.slice A7 (pickR j.th).1.length c7)).setCell ⟨g, i * 12 + 9, none⟩ (.int .i64 (j.had + 1))) W.heap.size tDA #[.int .i64 S.nid, .int .i64 S.nco, .int .i64 S.nme, .int .i64 S.nin, .int .i64 S.nbe, .int .i64 S.short, .int .i64 S.clock, .bool S.runs, .int .i64 S.inc, .slice As S.sent.length cs, .int .i64 S.replied, .slice Aj l.length cj] := (hH _ (by omega)).trans ha7'.out
        have rn72 := Str.own_move (w' := ((w7.setCell ⟨g, i * 12 + 11, none⟩ (.slice A7 (pickR j.th).1.length c7)).setCell ⟨g, i * 12 + 9, none⟩ (.int .i64 (j.had + 1)))) hr7'.out fun k hk => hH k (by obtain ⟨_, _, cur, hc⟩ := own_block hr7'.out hk; exact cells_ne hc hgc7 (by decide))
        have d72 : ∀ p ∈ zs, DocJ (fun k => Q k ∨ W.heap.size ≤ k) ((w7.setCell ⟨g, i * 12 + 11, none⟩ (.slice A7 (pickR j.th).1.length c7)).setCell ⟨g, i * 12 + 9, none⟩ (.int .i64 (j.had + 1))) p := fun p hp => (hd7'.out p hp).move2 fun k cur e hl hc he => hH k (cells_ne hc hgc7 (by rcases he with rfl | rfl <;> decide))
        have th72 : RowR ((w7.setCell ⟨g, i * 12 + 11, none⟩ (.slice A7 (pickR j.th).1.length c7)).setCell ⟨g, i * 12 + 9, none⟩ (.int .i64 (j.had + 1))) (.slice A7 (pickR j.th).1.length c7) (pickR j.th).1 := Str.own_move r7'.out fun k hk => hH k (by obtain ⟨_, _, cur, hc⟩ := own_block r7'.out hk; exact cells_ne hc hgc7 (by decide))
        have b72 : Below (W.heap.size + 1 + 1) w3 ((w7.setCell ⟨g, i * 12 + 11, none⟩ (.slice A7 (pickR j.th).1.length c7)).setCell ⟨g, i * 12 + 9, none⟩ (.int .i64 (j.had + 1))) := (b7'.out.setCell (p := ⟨g, i * 12 + 11, none⟩) hBg _).setCell (p := ⟨g, i * 12 + 9, none⟩) hBg _
        have hj72'' := hj72'
        change Code.wp _ _ _ _ ((w7.setCell ⟨g, i * 12 + 11, none⟩ (.slice A7 (pickR j.th).1.length c7)).setCell ⟨g, i * 12 + 9, none⟩ (.int .i64 (j.had + 1)))
        obtain ⟨w72, hw72⟩ : ∃ w72, ((w7.setCell ⟨g, i * 12 + 11, none⟩ (.slice A7 (pickR j.th).1.length c7)).setCell ⟨g, i * 12 + 9, none⟩ (.int .i64 (j.had + 1))) = w72 := ⟨_, rfl⟩
        rw [hw72] at bC72 oX72 rn72 d72 th72 b72 hj72'' ⊢
        clear hw72 hH hj72'
        have e0 := bC72.cell 0
        simp only [List.getElem?_toArray, List.getElem?_cons_zero, List.getElem?_cons_succ] at e0
        have rn72' := Lib.hid rn72
        have d72' := Lib.hid d72
        have th72' := Lib.hid th72
        have b72' := Lib.hid b72
        have hz72 : W.heap.size + 1 + 1 ≤ w72.heap.size := Nat.le_trans hsz3 b72.size
        clear bC72 oX72 rn72 d72 th72 b72 s11 s9 sf11 sf9 hgc7 x0 x1 x2 x3 x4 x5 x6 x7 x8 x9 x10 x11 y0 y1 y2 y3 y4 y5 y6 y7 y8 y9 y10 y11 q0 q1 q2 q3 q4 q5 q6 q7 q8 q9 q10 q11
        go_wp2_with (at_builtin; go_loud (refine wpList_append_own _ rfl _ _ 141 rfl (W.heap.size + 1 + 1) tRn i0 _ 2 16 Try.underlying141 hif hz0 hz1 hz2 rfl (by decide) _ _ _ rfl (rn72'.out.alloc _) ⟨w72.heap.size, 0, none⟩ 1 1 [.int .i64 j.le.task, .int .i64 (pickR j.th).2.1] rfl rfl (World.news_of_block (cs := #[.int .i64 j.le.task, .int .i64 (pickR j.th).2.1]) (t := tRn) (fr := (0, 0)) (heap_alloc_new _ _)) (by simp [Value.oneCell']) (by unfold maxLen; omega) (by omega) (by simp; omega) ?_))
        intro v8 w8 hown8 hgr8 _
        obtain ⟨A8, c8, rfl⟩ := own_slice hown8
        have hba := (Below.refl w72.heap.size w72).alloc (Nat.le_refl _) (.cells #[.int .i64 j.le.task, .int .i64 (pickR j.th).2.1] tRn)
        have hG : ∀ (k : Nat) (cur : Array Value) (e : TypeId), k < w72.heap.size → w72.heap[k]? = some (Obj.cells cur e (0, 0)) → e ≠ tRn → w8.heap[k]? = w72.heap[k]? := fun k cur e hl hc he =>
          (hgr8.block k (by rw [World.size_alloc]; omega) (fun hr => by obtain ⟨_, _, cur2, hc2⟩ := own_block rn72'.out hr.symm; exact cells_ne hc hc2 he rfl)).trans (hba.block k hl)
        have b8 := Lib.hid (below_grown (b72'.out.alloc hz72 (.cells #[.int .i64 j.le.task, .int .i64 (pickR j.th).2.1] tRn)) hgr8 hsz3 (fun k hk => hrk.out k hk))
        have j8 := Lib.hid (Str.own_move (w' := w8) hj72''.out fun k hk => by obtain ⟨_, hl, cur, hc⟩ := own_block hj72''.out hk; exact hG k cur _ hl hc (by decide))
        have d8 := Lib.hid (fun p hp => (d72'.out p hp).move2 (W' := w8) fun k cur e hl hc he => hG k cur e hl hc (by rcases he with rfl | rfl <;> decide))
        have t8 := Lib.hid (show RowR w8 (.slice A7 (pickR j.th).1.length c7) (pickR j.th).1 from Str.own_move th72'.out fun k hk => by obtain ⟨_, hl, cur, hc⟩ := own_block th72'.out hk; exact hG k cur _ hl hc (by decide))
        have hown8' := Lib.hid hown8
        clear hown8 hgr8 hba hG e0
        go_wp2
        go_roundw
        case rel =>
          have hpd := d8.out _ (List.mem_of_getElem? hp'.out)
          refine ⟨i + 1, A8, c8, zs.set i (⟨j.le, j.frm, j.work, j.had + 1, (pickR j.th).1⟩, ⟨A, c, .slice A7 (pickR j.th).1.length c7⟩), by rw [hst.out, List.length_append]; rfl, by go_num, by omega, by rw [hst.out, List.length_append, flatR_app]; exact hown8'.out, j8.out, by rw [List.length_set]; exact hzl'.out, ?_, ?_, b8.out⟩
          · rw [hun.out, hup.out, ← hfst'.out, List.map_set]
            rfl
          · intro p hp
            rcases List.mem_or_eq_of_mem_set hp with hp | rfl
            · exact d8.out p hp
            · exact ⟨hpd.cores, hpd.coreQ, t8.out, fun k hk => q77.out.elim (fun e => hpd.grpQ k (e ▸ hk)) (fun h => .inr (by have := h k hk; omega))⟩
        case measure => simp [intOf]; omega
      | false =>
        rw [if_neg (by simp)] at hst hup
        rw [List.append_nil] at hst
        go_wp2_with (((with_reducible refine gate_callee (f := 92) rfl ?_); refine goesL_ (some 24) rfl rfl Try.func92 (by kernel_rfl) rfl #[.agg #[.int .i64 S.nid, .int .i64 S.nco, .int .i64 S.nme, .int .i64 S.nin, .int .i64 S.nbe, .int .i64 S.short, .int .i64 S.clock, .bool S.runs, .int .i64 S.inc, .slice As S.sent.length cs, .int .i64 S.replied, .slice Aj l.length cj], .agg #[.int .i64 j.le.task, .int .i64 j.le.queue, .int .i64 j.le.node, .slice A j.le.cores.length c, .int .i64 j.le.mem, .int .i64 j.le.since, .int .i64 j.le.til, .bool j.le.stop, .int .i64 j.work, .int .i64 j.had, .int .i64 j.frm, .slice Au j.th.length cu]] rfl (by (try simp only [List.map_toArray, List.map_cons, List.map_nil]); first | done | rfl) ?_; (with_reducible refine (hF.out _).mono ?_); rintro e w4 ⟨rfl, b4⟩; refine ⟨_, rfl, ?_⟩; have hr4' := Lib.hid (own_below hr2.out b4); have hj4' := Lib.hid (own_below hj2.out b4); have hd4' := Lib.hid (fun p hp => (hd2.out p hp).keep (W' := w4) fun k hk _ => b4.block k hk); have hc4 := hc2.out.below b4 hc2.out.lt; have ha4' := Lib.hid (ha2.out.below b4 ha2.out.lt); have hz4 := b4.size; rw [World.size_alloc] at hz4; have e0 := hc4.cell 0; have e1 := hc4.cell 1; have e2 := hc4.cell 2; have e3 := hc4.cell 3; have e4 := hc4.cell 4; have e5 := hc4.cell 5; have e6 := hc4.cell 6; have e7 := hc4.cell 7; have e8 := hc4.cell 8; have e9 := hc4.cell 9; have e10 := hc4.cell 10; have e11 := hc4.cell 11; simp only [List.getElem?_toArray, List.getElem?_cons_zero, List.getElem?_cons_succ] at e0 e1 e2 e3 e4 e5 e6 e7 e8 e9 e10 e11; have hc4' := Lib.hid hc4; have b4' := Lib.hid (hb2.out.trans (below_le b4 (Nat.le_trans hsz3 hb2.out.size))); clear b4 hc4))
        go_roundw
        case rel =>
          refine ⟨i + 1, A4, c4, zs, by rw [hst.out], by go_num, by omega, by rw [hst.out]; exact hr4'.out, hj4'.out, hzl'.out, ?_, hd4'.out, b4'.out⟩
          rw [hun.out, hup.out, set_same hua.out]
          exact hfst'.out
        case measure => simp [intOf]; omega
    · have hi' : i = l.length := by omega
      subst hi'
      have hall := rnD_all S l.length hlj.out
      have hal2 := upD_all S l.length hlj.out
      rw [hall] at hrn ⊢
      rw [hal2] at hfst
      have zXr := zX'.out.below hbel (by omega)
      have oY := oXr.set 11 (.slice Am l.length cm) (by simp)
      simp only [List.setIfInBounds_toArray, List.set_cons_succ, List.set_cons_zero] at oY
      have zY : Blk (wr.setCell ⟨W.heap.size, 11, none⟩ (.slice Am l.length cm)) (W.heap.size + 1) tDA zD := (Below.heap_setCell wr ⟨W.heap.size, 11, none⟩ (.slice Am l.length cm) (W.heap.size + 1) (Nat.succ_ne_self _)).trans zXr
      have d0 := oY.cell 0
      have d1 := oY.cell 1
      have d2 := oY.cell 2
      have d3 := oY.cell 3
      have d4 := oY.cell 4
      have d5 := oY.cell 5
      have d6 := oY.cell 6
      have d7 := oY.cell 7
      have d8 := oY.cell 8
      have d9 := oY.cell 9
      have d10 := oY.cell 10
      have d11 := oY.cell 11
      simp only [List.getElem?_toArray, List.getElem?_cons_zero, List.getElem?_cons_succ] at d0 d1 d2 d3 d4 d5 d6 d7 d8 d9 d10 d11
      have x0 := zY.cell 0
      have x1 := zY.cell 1
      have x2 := zY.cell 2
      have x3 := zY.cell 3
      have x4 := zY.cell 4
      have x5 := zY.cell 5
      have x6 := zY.cell 6
      have x7 := zY.cell 7
      have x8 := zY.cell 8
      have x9 := zY.cell 9
      have x10 := zY.cell 10
      have x11 := zY.cell 11
      simp only [List.getElem?_toArray, List.getElem?_cons_zero, List.getElem?_cons_succ] at x0 x1 x2 x3 x4 x5 x6 x7 x8 x9 x10 x11
      have c11 := oXr.cell 11
      have q11 := oXr.frozen 11
      simp only [List.getElem?_toArray, List.getElem?_cons_zero, List.getElem?_cons_succ] at c11
      have y0 := zY.frozen 0
      have y1 := zY.frozen 1
      have y2 := zY.frozen 2
      have y3 := zY.frozen 3
      have y4 := zY.frozen 4
      have y5 := zY.frozen 5
      have y6 := zY.frozen 6
      have y7 := zY.frozen 7
      have y8 := zY.frozen 8
      have y9 := zY.frozen 9
      have y10 := zY.frozen 10
      have y11 := zY.frozen 11
      have zY' := Lib.hid zY
      have hX0 := Lib.hid (show wr.heap[W.heap.size]? = some (.cells _ tDA (0, 0)) from oXr)
      have hX1 := Lib.hid (show wr.heap[W.heap.size + 1]? = some (.cells _ tDA (0, 0)) from zXr)
      have hrn' := Lib.hid hrn
      have hrow' := Lib.hid hrow
      have hfst' := Lib.hid hfst
      have hdoc' := Lib.hid hdoc
      have hbW' := Lib.hid (hb3'.out.trans (below_le hbel (by omega)))
      clear hrn hrow hzl hfst hdoc hbel oXr zXr oY zY hall hal2
      go_wp2
      have RR := blk12 zY'.out (by rfl) (.int .i64 S.nid) (.int .i64 S.nco) (.int .i64 S.nme) (.int .i64 S.nin) (.int .i64 S.nbe) (.int .i64 S.short) (.int .i64 S.clock) (.bool S.runs) (.int .i64 S.inc) (.slice As S.sent.length cs) (.int .i64 S.replied) (.slice Am l.length cm)
      refine bodyPost_ret (results_ct rfl _ _ _ tDA #[.int .i64 S.nid, .int .i64 S.nco, .int .i64 S.nme, .int .i64 S.nin, .int .i64 S.nbe, .int .i64 S.short, .int .i64 S.clock, .bool S.runs, .int .i64 S.inc, .slice As S.sent.length cs, .int .i64 S.replied, .slice Am l.length cm] (0, 0) _ rfl RR Try.underlying91 rfl (by kernel_rfl)) rfl ?_
      have hbF := below12 ((hbW'.out).setCell (p := ⟨W.heap.size, 11, none⟩) (Nat.le_refl _) (.slice Am l.length cm)) (b := W.heap.size + 1) (Nat.le_succ _) (.int .i64 S.nid) (.int .i64 S.nco) (.int .i64 S.nme) (.int .i64 S.nin) (.int .i64 S.nbe) (.int .i64 S.short) (.int .i64 S.clock) (.bool S.runs) (.int .i64 S.inc) (.slice As S.sent.length cs) (.int .i64 S.replied) (.slice Am l.length cm)
      have hH : ∀ q, q ≠ W.heap.size → q ≠ W.heap.size + 1 → (set12 (wr.setCell ⟨W.heap.size, 11, none⟩ (.slice Am l.length cm)) (W.heap.size + 1) (.int .i64 S.nid) (.int .i64 S.nco) (.int .i64 S.nme) (.int .i64 S.nin) (.int .i64 S.nbe) (.int .i64 S.short) (.int .i64 S.clock) (.bool S.runs) (.int .i64 S.inc) (.slice As S.sent.length cs) (.int .i64 S.replied) (.slice Am l.length cm)).heap[q]? = wr.heap[q]? := fun q h1 h2 => (set12_heap _ _ _ _ _ _ _ _ _ _ _ _ _ _ h2).trans (Below.heap_setCell _ _ _ q h1)
      have key : ∀ wF, Below W.heap.size W wF → (∀ q, q ≠ W.heap.size → q ≠ W.heap.size + 1 → wF.heap[q]? = wr.heap[q]?) → ∃ x' A c, Ending.returned (.tuple #[.agg #[.int .i64 S.nid, .int .i64 S.nco, .int .i64 S.nme, .int .i64 S.nin, .int .i64 S.nbe, .int .i64 S.short, .int .i64 S.clock, .bool S.runs, .int .i64 S.inc, .slice As S.sent.length cs, .int .i64 S.replied, .slice Am l.length cm], .slice A4 (quantG S).2.length c4]) = .returned (.tuple #[x', .slice A (quantG S).2.length c]) ∧ DocR (fun k => Q k ∨ W.heap.size ≤ k) wF x' (quantG S).1 ∧ wF.ownsRow W.heap.size tRn 2 (.slice A (quantG S).2.length c) (quantG S).2.length (flatR (quantG S).2) ∧ Below W.heap.size W wF := by
        intro wF hbF hH
        have hD := h'.out.below hbF
        have hr2 := Str.own_move (w' := wF) hrow'.out fun q hq => hH q (by have := (own_block hrow'.out hq).1; omega) (by have := (own_block hrow'.out hq).1; omega)
        have hr3 := Str.own_move (w' := wF) hrn'.out fun q hq => hH q (by have := (own_block hrn'.out hq).1; omega) (by have := (own_block hrn'.out hq).1; omega)
        refine ⟨_, A4, c4, rfl, ⟨_, _, zs, rfl, hfst'.out, hD.sent, fun q hq => .inl (hD.sentQ q hq), ?_, fun q hq => .inr (by have := (own_block hrow'.out hq).1; omega), fun p hp => (hdoc'.out p hp).move2 fun q cur e hl hc he => hH q (cells_ne hc hX0.out (by rcases he with rfl | rfl <;> decide)) (cells_ne hc hX1.out (by rcases he with rfl | rfl <;> decide))⟩, own_lower' hr3 (by omega), hbF⟩
        rw [hzl'.out]
        exact own_lower' hr2 (Nat.zero_le _)
      exact key _ hbF hH
end Go.Proofs.Ytkcmmghhghgdpaa.Agt
end
section
namespace Go.Proofs.Ytkcmmghhghgdpaa.Agt
open Go.RowKit Go.Shelf Go.Maps Go.Proofs.Ytkcmmghhghgdpaa.Iter Go.Proofs.Ytkcmmghhghgdpaa.Str Go.Proofs.YtkcmmghhghgdpaaW.PrintWords Go.Proofs.YtkcmmghhghgdpaaW.PrintLast
set_option linter.unusedVariables false
set_option linter.unusedSimpArgs false
theorem bootDC {Q : Nat → Prop} {As Aj : Option Addr} {cs cj : Nat} {l : List (Jb × DJ)} {S S' : Ag} {cd : Int} (n : Int) (W : World) (e1 : bootG S n = (S', cd)) (h : DocM Q (.slice As S.sent.length cs) (.slice Aj l.length cj) l S W) (hoff : S.runs = false → S.sent = [] ∧ S.replied = 0 ∧ S.jobs = []) :
    Calls Try.prog 63 #[.agg #[.int .i64 S.nid, .int .i64 S.nco, .int .i64 S.nme, .int .i64 S.nin, .int .i64 S.nbe, .int .i64 S.short, .int .i64 S.clock, .bool S.runs, .int .i64 S.inc, .slice As S.sent.length cs, .int .i64 S.replied, .slice Aj l.length cj], .int .i64 n] W fun e W' => ∃ As' cs' Aj' cj' l', e = .returned (.tuple #[.agg #[.int .i64 S'.nid, .int .i64 S'.nco, .int .i64 S'.nme, .int .i64 S'.nin, .int .i64 S'.nbe, .int .i64 S'.short, .int .i64 S'.clock, .bool S'.runs, .int .i64 S'.inc, .slice As' S'.sent.length cs', .int .i64 S'.replied, .slice Aj' l'.length cj'], .int .i64 cd]) ∧ DocM (fun k => Q k ∨ W.heap.size ≤ k) (.slice As' S'.sent.length cs') (.slice Aj' (List.length l') cj') l' S' W' ∧ Below W.heap.size W W' := by
  refine (bootD n W h hoff).mono ?_
  rintro e W' ⟨x, rfl, ⟨vs, vj, l', rfl, hD⟩, hb⟩
  have e2 := e1
  rw [e1] at hD ⊢
  obtain ⟨As', cs', rfl⟩ := own_slice hD.sent
  obtain ⟨Aj', cj', rfl⟩ := own_slice hD.jrow
  exact ⟨As', cs', Aj', cj', l', rfl, hD, hb⟩
theorem haltDC {Q : Nat → Prop} {As Aj : Option Addr} {cs cj : Nat} {l : List (Jb × DJ)} {S S' : Ag} {cd : Int} (W : World) (e1 : haltG S = (S', cd)) (h : DocM Q (.slice As S.sent.length cs) (.slice Aj l.length cj) l S W) :
    Calls Try.prog 64 #[.agg #[.int .i64 S.nid, .int .i64 S.nco, .int .i64 S.nme, .int .i64 S.nin, .int .i64 S.nbe, .int .i64 S.short, .int .i64 S.clock, .bool S.runs, .int .i64 S.inc, .slice As S.sent.length cs, .int .i64 S.replied, .slice Aj l.length cj]] W fun e W' => ∃ As' cs' Aj' cj' l', e = .returned (.tuple #[.agg #[.int .i64 S'.nid, .int .i64 S'.nco, .int .i64 S'.nme, .int .i64 S'.nin, .int .i64 S'.nbe, .int .i64 S'.short, .int .i64 S'.clock, .bool S'.runs, .int .i64 S'.inc, .slice As' S'.sent.length cs', .int .i64 S'.replied, .slice Aj' l'.length cj'], .int .i64 cd]) ∧ DocM (fun k => Q k ∨ W.heap.size ≤ k) (.slice As' S'.sent.length cs') (.slice Aj' (List.length l') cj') l' S' W' ∧ Below W.heap.size W W' := by
  refine (haltD W h).mono ?_
  rintro e W' ⟨x, rfl, ⟨vs, vj, l', rfl, hD⟩, hb⟩
  have e2 := e1
  rw [e1] at hD ⊢
  obtain ⟨As', cs', rfl⟩ := own_slice hD.sent
  obtain ⟨Aj', cj', rfl⟩ := own_slice hD.jrow
  exact ⟨As', cs', Aj', cj', l', rfl, hD, hb⟩
theorem passDC {Q : Nat → Prop} {As Aj : Option Addr} {cs cj : Nat} {l : List (Jb × DJ)} {S S' : Ag} {cd : Int} (dt : Int) (W : World) (e1 : passG S dt = (S', cd)) (h : DocM Q (.slice As S.sent.length cs) (.slice Aj l.length cj) l S W) (hok : AgOk S) :
    Calls Try.prog 65 #[.agg #[.int .i64 S.nid, .int .i64 S.nco, .int .i64 S.nme, .int .i64 S.nin, .int .i64 S.nbe, .int .i64 S.short, .int .i64 S.clock, .bool S.runs, .int .i64 S.inc, .slice As S.sent.length cs, .int .i64 S.replied, .slice Aj l.length cj], .int .i64 dt] W fun e W' => ∃ As' cs' Aj' cj' l', e = .returned (.tuple #[.agg #[.int .i64 S'.nid, .int .i64 S'.nco, .int .i64 S'.nme, .int .i64 S'.nin, .int .i64 S'.nbe, .int .i64 S'.short, .int .i64 S'.clock, .bool S'.runs, .int .i64 S'.inc, .slice As' S'.sent.length cs', .int .i64 S'.replied, .slice Aj' l'.length cj'], .int .i64 cd]) ∧ DocM (fun k => Q k ∨ W.heap.size ≤ k) (.slice As' S'.sent.length cs') (.slice Aj' (List.length l') cj') l' S' W' ∧ Below W.heap.size W W' := by
  refine (passD dt W h hok.clock.1 hok.clock.2).mono ?_
  rintro e W' ⟨x, rfl, ⟨vs, vj, l', rfl, hD⟩, hb⟩
  have e2 := e1
  rw [e1] at hD ⊢
  obtain ⟨As', cs', rfl⟩ := own_slice hD.sent
  obtain ⟨Aj', cj', rfl⟩ := own_slice hD.jrow
  exact ⟨As', cs', Aj', cj', l', rfl, hD, hb⟩
theorem beatDC {Q : Nat → Prop} {As Aj : Option Addr} {cs cj : Nat} {l : List (Jb × DJ)} {S S' : Ag} {cd : Int} {bn : Int} (W : World) (e1 : beatG S = (S', bn, cd)) (h : DocM Q (.slice As S.sent.length cs) (.slice Aj l.length cj) l S W) (hsl : S.sent.length ≤ 100000) :
    Calls Try.prog 66 #[.agg #[.int .i64 S.nid, .int .i64 S.nco, .int .i64 S.nme, .int .i64 S.nin, .int .i64 S.nbe, .int .i64 S.short, .int .i64 S.clock, .bool S.runs, .int .i64 S.inc, .slice As S.sent.length cs, .int .i64 S.replied, .slice Aj l.length cj]] W fun e W' => ∃ As' cs' Aj' cj' l', e = .returned (.tuple #[.agg #[.int .i64 S'.nid, .int .i64 S'.nco, .int .i64 S'.nme, .int .i64 S'.nin, .int .i64 S'.nbe, .int .i64 S'.short, .int .i64 S'.clock, .bool S'.runs, .int .i64 S'.inc, .slice As' S'.sent.length cs', .int .i64 S'.replied, .slice Aj' l'.length cj'], .int .i64 bn, .int .i64 cd]) ∧ DocM (fun k => Q k ∨ W.heap.size ≤ k) (.slice As' S'.sent.length cs') (.slice Aj' (List.length l') cj') l' S' W' ∧ Below W.heap.size W W' := by
  refine (beatD W h hsl).mono ?_
  rintro e W' ⟨x, rfl, ⟨vs, vj, l', rfl, hD⟩, hb⟩
  have e2 := e1
  rw [e1] at hD ⊢
  obtain ⟨As', cs', rfl⟩ := own_slice hD.sent
  obtain ⟨Aj', cj', rfl⟩ := own_slice hD.jrow
  exact ⟨As', cs', Aj', cj', l', rfl, hD, hb⟩
theorem replyDC {Q : Nat → Prop} {As Aj : Option Addr} {cs cj : Nat} {l : List (Jb × DJ)} {S S' : Ag} {cd : Int} {F : Nat → Prop} (n m : Int) {A5 : Option Addr} {c5 : Nat} {xs : List Ls} {A6 : Option Addr} {c6 : Nat} {ts : List Ts} (W : World) (e1 : replyG S n m xs ts = (S', cd)) (h : DocM Q (.slice As S.sent.length cs) (.slice Aj l.length cj) l S W) (hL : ReadsL F W A5 xs) (hT : ReadsT F W A6 ts) (hxl : xs.length ≤ 9223372036854775807) (htl : ts.length ≤ 9223372036854775807) (hok : AgOk S) (hsl : S.sent.length ≤ 100000) :
    Calls Try.prog 68 #[.agg #[.int .i64 S.nid, .int .i64 S.nco, .int .i64 S.nme, .int .i64 S.nin, .int .i64 S.nbe, .int .i64 S.short, .int .i64 S.clock, .bool S.runs, .int .i64 S.inc, .slice As S.sent.length cs, .int .i64 S.replied, .slice Aj l.length cj], .int .i64 n, .int .i64 m, .slice A5 xs.length c5, .slice A6 ts.length c6] W fun e W' => ∃ As' cs' Aj' cj' l', e = .returned (.tuple #[.agg #[.int .i64 S'.nid, .int .i64 S'.nco, .int .i64 S'.nme, .int .i64 S'.nin, .int .i64 S'.nbe, .int .i64 S'.short, .int .i64 S'.clock, .bool S'.runs, .int .i64 S'.inc, .slice As' S'.sent.length cs', .int .i64 S'.replied, .slice Aj' l'.length cj'], .int .i64 cd]) ∧ DocM (fun k => Q k ∨ W.heap.size ≤ k) (.slice As' S'.sent.length cs') (.slice Aj' (List.length l') cj') l' S' W' ∧ Below W.heap.size W W' := by
  refine (replyD n m A5 c5 xs A6 c6 ts W h hL hT hxl htl hok hsl).mono ?_
  rintro e W' ⟨x, rfl, ⟨vs, vj, l', rfl, hD⟩, hb⟩
  have e2 := e1
  rw [e1] at hD ⊢
  obtain ⟨As', cs', rfl⟩ := own_slice hD.sent
  obtain ⟨Aj', cj', rfl⟩ := own_slice hD.jrow
  exact ⟨As', cs', Aj', cj', l', rfl, hD, hb⟩
theorem quantDC {Q : Nat → Prop} {As Aj : Option Addr} {cs cj : Nat} {l : List (Jb × DJ)} {S S' : Ag} {R : List (Int × Int)} (W : World) (e1 : quantG S = (S', R)) (h : DocM Q (.slice As S.sent.length cs) (.slice Aj l.length cj) l S W) (hok : AgOk S) (hhad : ∀ j ∈ S.jobs, j.had < 9223372036854775807) :
    Calls Try.prog 69 #[.agg #[.int .i64 S.nid, .int .i64 S.nco, .int .i64 S.nme, .int .i64 S.nin, .int .i64 S.nbe, .int .i64 S.short, .int .i64 S.clock, .bool S.runs, .int .i64 S.inc, .slice As S.sent.length cs, .int .i64 S.replied, .slice Aj l.length cj]] W fun e W' => ∃ As' cs' Aj' cj' l' Ar cr, e = .returned (.tuple #[.agg #[.int .i64 S'.nid, .int .i64 S'.nco, .int .i64 S'.nme, .int .i64 S'.nin, .int .i64 S'.nbe, .int .i64 S'.short, .int .i64 S'.clock, .bool S'.runs, .int .i64 S'.inc, .slice As' S'.sent.length cs', .int .i64 S'.replied, .slice Aj' l'.length cj'], .slice Ar R.length cr]) ∧ DocM (fun k => Q k ∨ W.heap.size ≤ k) (.slice As' S'.sent.length cs') (.slice Aj' (List.length l') cj') l' S' W' ∧ ReadsR W' Ar R ∧ Below W.heap.size W W' := by
  refine (quantD W h hok hhad).mono ?_
  rintro e W' ⟨x, Ar, cr, rfl, ⟨vs, vj, l', rfl, hD⟩, hr, hb⟩
  rw [e1] at hD hr ⊢
  obtain ⟨As', cs', rfl⟩ := own_slice hD.sent
  obtain ⟨Aj', cj', rfl⟩ := own_slice hD.jrow
  exact ⟨As', cs', Aj', cj', l', Ar, cr, rfl, hD, own_readsR hr, hb⟩
set_option maxRecDepth 100000 in
set_option maxHeartbeats 8000000 in
theorem rans_same (l : List (Int × Int)) (A A2 : Option Addr) (c c2 : Nat) (W : World) (hr : ReadsR W A l) (hr2 : ReadsR W A2 l) (hl : l.length ≤ 100000) :
    Calls Try.prog 70 #[.slice A l.length c, .slice A2 l.length c2] W fun e W' => e = .returned (.bool true) ∧ Below W.heap.size W W' := by
  have hr' := Lib.hid hr
  have hr2' := Lib.hid hr2
  clear hr hr2
  go_enter Try.func70, Try.ntmps70
  go_wp2
  go_loopw [13] (fun iv wr => ∃ (i : Nat), iv = .int .i64 (i : Int) ∧ i ≤ l.length ∧ Below W.heap.size W wr)
    (fun iv _ => l.length - (intOf iv).toNat)
  case atStart => exact ⟨0, rfl, Nat.zero_le _, Below.refl _ _⟩
  case round =>
    obtain ⟨i, rfl, hi, hbel⟩ := hrel
    by_cases hlt : i < l.length
    · obtain ⟨r, hri⟩ : ∃ r, l[i]? = some r := ⟨l[i], List.getElem?_eq_getElem hlt⟩
      obtain ⟨g1, rfl, _, p0, p1⟩ := (hr'.out.below hbel) i r hri
      obtain ⟨g2, rfl, _, q0, q1⟩ := (hr2'.out.below hbel) i r hri
      have hbel' := Lib.hid hbel
      clear hbel hri
      go_wp2
      go_quiet (fail)
      go_wp2
      go_roundw
      case rel => exact ⟨i + 1, by go_num, by omega, by first | exact hbel'.out | exact hbel'.out.drew | exact pw_below_drewN hbel'.out _⟩
      case measure => simp [intOf]; omega
    · have hi' : i = l.length := by omega
      subst hi'
      have hbel' := Lib.hid hbel
      clear hbel
      go_wp2
      go_ret
      exact ⟨rfl, hbel'.out⟩
set_option maxRecDepth 100000 in
set_option maxHeartbeats 8000000 in
theorem alike_calls {Q Q' : Nat → Prop} {a : Nat} {As Aj : Option Addr} {cs cj : Nat} {l : List (Jb × DJ)} {S : Ag} (W : World) (hag : AgQ a S Q W) (h : DocM Q' (.slice As S.sent.length cs) (.slice Aj l.length cj) l S W) (hok : AgOk S) :
    Calls Try.prog 42 #[ptr a, .agg #[.int .i64 S.nid, .int .i64 S.nco, .int .i64 S.nme, .int .i64 S.nin, .int .i64 S.nbe, .int .i64 S.short, .int .i64 S.clock, .bool S.runs, .int .i64 S.inc, .slice As S.sent.length cs, .int .i64 S.replied, .slice Aj l.length cj]] W fun e W' => e = .returned (.bool true) ∧ Below W.heap.size W W' := by
  have hag' := Lib.hid hag
  have h' := Lib.hid h
  have hok' := Lib.hid hok
  have hll := Lib.hid hok.liveLen
  have hS := Lib.hid (fun w' (hb : Below (W.heap.size + 1) (W.alloc (.cells #[.int .i64 S.nid, .int .i64 S.nco, .int .i64 S.nme, .int .i64 S.nin, .int .i64 S.nbe, .int .i64 S.short, .int .i64 S.clock, .bool S.runs, .int .i64 S.inc, .slice As S.sent.length cs, .int .i64 S.replied, .slice Aj l.length cj] tDA)) w') => (show w'.cell? ⟨W.heap.size, 0, none⟩ = some (.int .i64 S.nid) ∧ w'.cell? ⟨W.heap.size, 1, none⟩ = some (.int .i64 S.nco) ∧ w'.cell? ⟨W.heap.size, 2, none⟩ = some (.int .i64 S.nme) ∧ w'.cell? ⟨W.heap.size, 3, none⟩ = some (.int .i64 S.nin) ∧ w'.cell? ⟨W.heap.size, 4, none⟩ = some (.int .i64 S.nbe) ∧ w'.cell? ⟨W.heap.size, 5, none⟩ = some (.int .i64 S.short) ∧ w'.cell? ⟨W.heap.size, 6, none⟩ = some (.int .i64 S.clock) ∧ w'.cell? ⟨W.heap.size, 7, none⟩ = some (.bool S.runs) ∧ w'.cell? ⟨W.heap.size, 8, none⟩ = some (.int .i64 S.inc) ∧ w'.cell? ⟨W.heap.size, 9, none⟩ = some (.slice As S.sent.length cs) ∧ w'.cell? ⟨W.heap.size, 10, none⟩ = some (.int .i64 S.replied) ∧ w'.cell? ⟨W.heap.size, 11, none⟩ = some (.slice Aj l.length cj) from blkC12 ((Blk.new W tDA #[.int .i64 S.nid, .int .i64 S.nco, .int .i64 S.nme, .int .i64 S.nin, .int .i64 S.nbe, .int .i64 S.short, .int .i64 S.clock, .bool S.runs, .int .i64 S.inc, .slice As S.sent.length cs, .int .i64 S.replied, .slice Aj l.length cj]).below hb (by simp))))
  have hcur := Lib.hid ((Below.refl (W.heap.size + 1) (W.alloc (.cells #[.int .i64 S.nid, .int .i64 S.nco, .int .i64 S.nme, .int .i64 S.nin, .int .i64 S.nbe, .int .i64 S.short, .int .i64 S.clock, .bool S.runs, .int .i64 S.inc, .slice As S.sent.length cs, .int .i64 S.replied, .slice Aj l.length cj] tDA))).drew)
  have hW := Lib.hid (fun w' (hb : Below (W.heap.size + 1) (W.alloc (.cells #[.int .i64 S.nid, .int .i64 S.nco, .int .i64 S.nme, .int .i64 S.nin, .int .i64 S.nbe, .int .i64 S.short, .int .i64 S.clock, .bool S.runs, .int .i64 S.inc, .slice As S.sent.length cs, .int .i64 S.replied, .slice Aj l.length cj] tDA)) w') => ((Below.refl W.heap.size W).alloc (Nat.le_refl _) (.cells #[.int .i64 S.nid, .int .i64 S.nco, .int .i64 S.nme, .int .i64 S.nin, .int .i64 S.nbe, .int .i64 S.short, .int .i64 S.clock, .bool S.runs, .int .i64 S.inc, .slice As S.sent.length cs, .int .i64 S.replied, .slice Aj l.length cj] tDA)).trans (below_le hb (Nat.le_succ _)))
  clear hag h hok
  go_enter Try.func42, Try.ntmps42
  go_wp2
  go_region_held3 (fun w' => w'.cell? ⟨W.heap.size, 0, none⟩ = some (.int .i64 S.nid) ∧ w'.cell? ⟨W.heap.size, 1, none⟩ = some (.int .i64 S.nco) ∧ w'.cell? ⟨W.heap.size, 2, none⟩ = some (.int .i64 S.nme) ∧ w'.cell? ⟨W.heap.size, 3, none⟩ = some (.int .i64 S.nin) ∧ w'.cell? ⟨W.heap.size, 4, none⟩ = some (.int .i64 S.nbe) ∧ w'.cell? ⟨W.heap.size, 5, none⟩ = some (.int .i64 S.short) ∧ w'.cell? ⟨W.heap.size, 6, none⟩ = some (.int .i64 S.clock) ∧ w'.cell? ⟨W.heap.size, 7, none⟩ = some (.bool S.runs) ∧ w'.cell? ⟨W.heap.size, 8, none⟩ = some (.int .i64 S.inc) ∧ w'.cell? ⟨W.heap.size, 9, none⟩ = some (.slice As S.sent.length cs) ∧ w'.cell? ⟨W.heap.size, 10, none⟩ = some (.int .i64 S.replied) ∧ w'.cell? ⟨W.heap.size, 11, none⟩ = some (.slice Aj l.length cj)) (exact hS.out _ hcur.out) (first | (go_at_call 33; go_loud (refine (liveC (hag'.out.below (hW.out _ hcur.out)) hok'.out).mono ?_; rintro e w9 ⟨A1, c1, rfl, r, b⟩; have hnxt := Lib.hid (hcur.out.trans (below_le b (Nat.le_trans (by simp) hcur.out.size))); (try (have rlq := Lib.hid (rl.out.below b); clear rl; have rl := rlq; clear rlq)); (try (have rdq := Lib.hid (rd.out.below b); clear rd; have rd := rdq; clear rdq)); (try (have flq := Lib.hid (fl.out.below b); clear fl; have fl := flq; clear flq)); (try (have fdq := Lib.hid (fd.out.below b); clear fd; have fd := fdq; clear fdq)); clear hcur b; have hcur := hnxt; clear hnxt; have rl := Lib.hid (own_readsR r); clear r)) | (go_at_call 71; go_loud (refine (LiveD _ (h'.out.below (hW.out _ hcur.out)) hok'.out).mono ?_; rintro e w9 ⟨A2, c2, rfl, r, b⟩; have hnxt := Lib.hid (hcur.out.trans (below_le b (Nat.le_trans (by simp) hcur.out.size))); (try (have rlq := Lib.hid (rl.out.below b); clear rl; have rl := rlq; clear rlq)); (try (have rdq := Lib.hid (rd.out.below b); clear rd; have rd := rdq; clear rdq)); (try (have flq := Lib.hid (fl.out.below b); clear fl; have fl := flq; clear flq)); (try (have fdq := Lib.hid (fd.out.below b); clear fd; have fd := fdq; clear fdq)); clear hcur b; have hcur := hnxt; clear hnxt; have rd := Lib.hid (own_readsR r); clear r)) | (go_at_call 35; go_loud (refine (runs_same (liveG S) _ _ _ _ _ rl.out rd.out hll.out).mono ?_; rintro e w9 ⟨rfl, b⟩; have hnxt := Lib.hid (hcur.out.trans (below_le b (Nat.le_trans (by simp) hcur.out.size))); (try (have rlq := Lib.hid (rl.out.below b); clear rl; have rl := rlq; clear rlq)); (try (have rdq := Lib.hid (rd.out.below b); clear rd; have rd := rdq; clear rdq)); (try (have flq := Lib.hid (fl.out.below b); clear fl; have fl := flq; clear flq)); (try (have fdq := Lib.hid (fd.out.below b); clear fd; have fd := fdq; clear fdq)); clear hcur b; have hcur := hnxt; clear hnxt)) | (go_at_call 34; go_loud (refine (finC (hag'.out.below (hW.out _ hcur.out)) hok'.out).mono ?_; rintro e w9 ⟨A3, c3, zs, rfl, e3, r, cc, b⟩; have hnxt := Lib.hid (hcur.out.trans (below_le b (Nat.le_trans (by simp) hcur.out.size))); (try (have rlq := Lib.hid (rl.out.below b); clear rl; have rl := rlq; clear rlq)); (try (have rdq := Lib.hid (rd.out.below b); clear rd; have rd := rdq; clear rdq)); (try (have flq := Lib.hid (fl.out.below b); clear fl; have fl := flq; clear flq)); (try (have fdq := Lib.hid (fd.out.below b); clear fd; have fd := fdq; clear fdq)); clear hcur b; have hcur := hnxt; clear hnxt; have fl := Lib.hid (own_readsM r cc); have e3' := Lib.hid e3; clear r cc e3)) | (go_at_call 72; go_loud (refine (FinD _ (h'.out.below (hW.out _ hcur.out)) hok'.out.jobs).mono ?_; rintro e w9 ⟨A4, c4, ys, rfl, e4, r, cc, b⟩; have hnxt := Lib.hid (hcur.out.trans (below_le b (Nat.le_trans (by simp) hcur.out.size))); (try (have rlq := Lib.hid (rl.out.below b); clear rl; have rl := rlq; clear rlq)); (try (have rdq := Lib.hid (rd.out.below b); clear rd; have rd := rdq; clear rdq)); (try (have flq := Lib.hid (fl.out.below b); clear fl; have fl := flq; clear flq)); (try (have fdq := Lib.hid (fd.out.below b); clear fd; have fd := fdq; clear fdq)); clear hcur b; have hcur := hnxt; clear hnxt; have fd := Lib.hid (own_readsM r cc); have e4' := Lib.hid e4; clear r cc e4)) | (go_at_call 36; go_loud (refine (sameLeases_calls zs ys _ _ _ _ _ fl.out fd.out (e3'.out.trans e4'.out.symm) (hok'.out.finLen e3'.out).1 (hok'.out.finLen e3'.out).2).mono ?_; rintro e w9 ⟨rfl, b⟩; have hnxt := Lib.hid (hcur.out.trans (below_le b (Nat.le_trans (by simp) hcur.out.size))); (try (have rlq := Lib.hid (rl.out.below b); clear rl; have rl := rlq; clear rlq)); (try (have rdq := Lib.hid (rd.out.below b); clear rd; have rd := rdq; clear rdq)); (try (have flq := Lib.hid (fl.out.below b); clear fl; have fl := flq; clear flq)); (try (have fdq := Lib.hid (fd.out.below b); clear fd; have fd := fdq; clear fdq)); clear hcur b; have hcur := hnxt; clear hnxt)) | (go_at_call 37; go_loud (refine (clockQ (hag'.out.below (hW.out _ hcur.out))).mono ?_; rintro e w9 ⟨rfl, b⟩; have hnxt := Lib.hid (hcur.out.trans (below_le b (Nat.le_trans (by simp) hcur.out.size))); (try (have rlq := Lib.hid (rl.out.below b); clear rl; have rl := rlq; clear rlq)); (try (have rdq := Lib.hid (rd.out.below b); clear rd; have rd := rdq; clear rdq)); (try (have flq := Lib.hid (fl.out.below b); clear fl; have fl := flq; clear flq)); (try (have fdq := Lib.hid (fd.out.below b); clear fd; have fd := fdq; clear fdq)); clear hcur b; have hcur := hnxt; clear hnxt)) | (go_at_call 43; go_loud (refine (incQ (hag'.out.below (hW.out _ hcur.out))).mono ?_; rintro e w9 ⟨rfl, b⟩; have hnxt := Lib.hid (hcur.out.trans (below_le b (Nat.le_trans (by simp) hcur.out.size))); (try (have rlq := Lib.hid (rl.out.below b); clear rl; have rl := rlq; clear rlq)); (try (have rdq := Lib.hid (rd.out.below b); clear rd; have rd := rdq; clear rdq)); (try (have flq := Lib.hid (fl.out.below b); clear fl; have fl := flq; clear flq)); (try (have fdq := Lib.hid (fd.out.below b); clear fd; have fd := fdq; clear fdq)); clear hcur b; have hcur := hnxt; clear hnxt)))
  all_goals (
    go_wp2
    go_ret
    exact ⟨rfl, hW.out _ hcur.out⟩)
end Go.Proofs.Ytkcmmghhghgdpaa.Agt
end
section
namespace Go.Proofs.Ytkcmmghhghgdpaa.Agt
open Go.RowKit Go.Shelf Go.Maps Go.Proofs.Ytkcmmghhghgdpaa.Iter Go.Proofs.Ytkcmmghhghgdpaa.Str Go.Proofs.YtkcmmghhghgdpaaW.PrintWords Go.Proofs.YtkcmmghhghgdpaaW.PrintLast
set_option linter.unusedVariables false
set_option linter.unusedSimpArgs false
abbrev tAOp : Nat := 58
theorem AgQ.only {a : Nat} {S : Ag} {Q : Nat → Prop} {W W' : World} (h : AgQ a S Q W) (hs : W.heap.size ≤ W'.heap.size) (hk : ∀ k, k < W.heap.size → ¬ Q k → W'.heap[k]? = W.heap[k]?) : AgQ a S Q W' := by
  obtain ⟨B, vs, vj, js, h, hB, hn⟩ := h
  exact ⟨B, vs, vj, js, h.frame fun k hf => hk k (h.foot k hf).2 (hn k hf), by omega, hn⟩
/-- The blocks of play's own till the agent is called. -/
abbrev QP (Q : Nat → Prop) (W w3 : World) : Nat → Prop := fun k => Q k ∨ (W.heap.size ≤ k ∧ k < w3.heap.size)
theorem play_end {Q : Nat → Prop} {a : Nat} {S' : Ag} {vs vj : Value} {l : List (Jb × DJ)} {W w3 w4 w5 wF : World} (hq : ∀ k, Q k → k < W.heap.size) (h3 : Below W.heap.size W w3) (hag : AgQ a S' (QP Q W w3) w4) (hk : KeepQ (QP Q W w3) w3 w4)
    (b5 : Below w4.heap.size w4 w5) (hd : DocM (fun k => Q k ∨ w4.heap.size ≤ k) vs vj l S' w5) (hF0 : Below W.heap.size w5 wF) (hF : ∀ k, w3.heap.size ≤ k → k < w5.heap.size → wF.heap[k]? = w5.heap[k]?) :
    ∃ Q' : Nat → Prop, AgQ a S' Q' wF ∧ DocM Q' vs vj l S' wF ∧ (∀ k, Q k → Q' k) ∧ (∀ k, Q' k → k < wF.heap.size) ∧ KeepQ Q W wF := by
  have s3 := h3.size
  have s4 := hk.size
  have s5 := b5.size
  have sF := hF0.size
  refine ⟨fun k => Q k ∨ (w4.heap.size ≤ k ∧ k < w5.heap.size), ?_, ?_, fun k h => .inl h, fun k h => ?_, ?_⟩
  · obtain ⟨B, vs, vj, js, h, hB, hn⟩ := hag
    refine ⟨B, vs, vj, js, h.frame fun k hf => ?_, by omega, fun k hf hq' => ?_⟩
    · have h1 := (h.foot k hf).2
      have h2 := hn k hf
      by_cases hW : k < W.heap.size
      · exact (hF0.block k hW).trans (b5.block k h1)
      · exact (hF k (by have : ¬ (k < w3.heap.size) := fun h4 => h2 (.inr ⟨by omega, h4⟩); omega) (by omega)).trans (b5.block k h1)
    · have h1 := (h.foot k hf).2
      rcases hq' with hq' | hq'
      · exact hn k hf (.inl hq')
      · omega
  · refine (hd.mono (Q' := fun k => Q k ∨ (w4.heap.size ≤ k ∧ k < w5.heap.size)) fun k hl h => h.elim .inl fun h => .inr ⟨h, hl⟩).keep fun k hl h => ?_
    rcases h with h | h
    · exact hF0.block k (hq k h)
    · exact hF k (by omega) h.2
  · rcases h with h | h
    · have := hq k h
      omega
    · omega
  · refine ⟨hF0.os.trans (b5.os.trans (hk.os.trans h3.os)), hF0.tape.trans (b5.tape.trans (hk.tape.trans h3.tape)), hF0.output.trans (b5.output.trans (hk.output.trans h3.output)), by omega, fun k hl hn => ?_⟩
    have hQ : Q k := Classical.byContradiction hn
    exact (hF0.block k hl).trans ((b5.block k (by omega)).trans ((hk.block k (by omega) (fun h => h (.inl hQ))).trans (h3.block k hl)))
/-- What play has done. -/
def PlayD (Q : Nat → Prop) (a : Nat) (S' : Ag) (W : World) (e : Ending) (W' : World) : Prop := ∃ (As' : Option Addr) (cs' : Nat) (Aj' : Option Addr) (cj' : Nat) (l' : List (Jb × DJ)) (Q' : Nat → Prop), e = .returned (.tuple #[.agg #[.int .i64 S'.nid, .int .i64 S'.nco, .int .i64 S'.nme, .int .i64 S'.nin, .int .i64 S'.nbe, .int .i64 S'.short, .int .i64 S'.clock, .bool S'.runs, .int .i64 S'.inc, .slice As' S'.sent.length cs', .int .i64 S'.replied, .slice Aj' l'.length cj'], .bool true]) ∧ AgQ a S' Q' W' ∧ DocM Q' (.slice As' S'.sent.length cs') (.slice Aj' (List.length l') cj') l' S' W' ∧ (∀ k, Q k → Q' k) ∧ (∀ k, Q' k → k < W'.heap.size) ∧ KeepQ Q W W'
set_option maxRecDepth 100000 in
set_option maxHeartbeats 8000000 in
theorem play0 {Q : Nat → Prop} {a : Nat} {As Aj : Option Addr} {cs cj : Nat} {l : List (Jb × DJ)} {S S' : Ag} {cd : Int} (n m dt : Int) (Al At : Option Addr) (nl cl nt ct : Nat) (W : World) (e1 : bootG S n = (S', cd)) (hag : AgQ a S Q W) (hd : DocM Q (.slice As S.sent.length cs) (.slice Aj l.length cj) l S W) (hq : ∀ k, Q k → k < W.heap.size) (hoff : S.runs = false → S.sent = [] ∧ S.replied = 0 ∧ S.jobs = []) :
    Calls Try.prog 41 #[ptr a, .agg #[.int .i64 S.nid, .int .i64 S.nco, .int .i64 S.nme, .int .i64 S.nin, .int .i64 S.nbe, .int .i64 S.short, .int .i64 S.clock, .bool S.runs, .int .i64 S.inc, .slice As S.sent.length cs, .int .i64 S.replied, .slice Aj l.length cj], .agg #[.int .i64 0, .int .i64 n, .int .i64 m, .int .i64 dt, .slice Al nl cl, .slice At nt ct]] W (PlayD Q a S' W) := by
  have e1' := Lib.hid e1
  have hoff' := Lib.hid hoff
  clear e1 hoff
  have hag' := Lib.hid hag
  have hd' := Lib.hid hd
  have hq' := Lib.hid hq
  have b3 : Below W.heap.size W (((W.alloc (.cells #[.int .i64 S.nid, .int .i64 S.nco, .int .i64 S.nme, .int .i64 S.nin, .int .i64 S.nbe, .int .i64 S.short, .int .i64 S.clock, .bool S.runs, .int .i64 S.inc, .slice As S.sent.length cs, .int .i64 S.replied, .slice Aj l.length cj] tDA)).alloc (.cells #[.int .i64 0, .int .i64 n, .int .i64 m, .int .i64 dt, .slice Al nl cl, .slice At nt ct] tAOp)).alloc (.cells zD tDA)) := below3 _ _ _
  have b3' := Lib.hid b3
  have hs3 : ((((W.alloc (.cells #[.int .i64 S.nid, .int .i64 S.nco, .int .i64 S.nme, .int .i64 S.nin, .int .i64 S.nbe, .int .i64 S.short, .int .i64 S.clock, .bool S.runs, .int .i64 S.inc, .slice As S.sent.length cs, .int .i64 S.replied, .slice Aj l.length cj] tDA)).alloc (.cells #[.int .i64 0, .int .i64 n, .int .i64 m, .int .i64 dt, .slice Al nl cl, .slice At nt ct] tAOp)).alloc (.cells zD tDA))).heap.size = W.heap.size + 3 := by simp
  have hag3 := Lib.hid (hag.more (Q' := QP Q W (((W.alloc (.cells #[.int .i64 S.nid, .int .i64 S.nco, .int .i64 S.nme, .int .i64 S.nin, .int .i64 S.nbe, .int .i64 S.short, .int .i64 S.clock, .bool S.runs, .int .i64 S.inc, .slice As S.sent.length cs, .int .i64 S.replied, .slice Aj l.length cj] tDA)).alloc (.cells #[.int .i64 0, .int .i64 n, .int .i64 m, .int .i64 dt, .slice Al nl cl, .slice At nt ct] tAOp)).alloc (.cells zD tDA))) b3 fun k hk => hk.elim .inl fun h => .inr h.1)
  have BX := ((Blk.new W tDA #[.int .i64 S.nid, .int .i64 S.nco, .int .i64 S.nme, .int .i64 S.nin, .int .i64 S.nbe, .int .i64 S.short, .int .i64 S.clock, .bool S.runs, .int .i64 S.inc, .slice As S.sent.length cs, .int .i64 S.replied, .slice Aj l.length cj]).alloc (.cells #[.int .i64 0, .int .i64 n, .int .i64 m, .int .i64 dt, .slice Al nl cl, .slice At nt ct] tAOp)).alloc (.cells zD tDA)
  have BO := (Blk.new (W.alloc (.cells #[.int .i64 S.nid, .int .i64 S.nco, .int .i64 S.nme, .int .i64 S.nin, .int .i64 S.nbe, .int .i64 S.short, .int .i64 S.clock, .bool S.runs, .int .i64 S.inc, .slice As S.sent.length cs, .int .i64 S.replied, .slice Aj l.length cj] tDA)) tAOp #[.int .i64 0, .int .i64 n, .int .i64 m, .int .i64 dt, .slice Al nl cl, .slice At nt ct]).alloc (.cells zD tDA)
  have BZ := Blk.new ((W.alloc (.cells #[.int .i64 S.nid, .int .i64 S.nco, .int .i64 S.nme, .int .i64 S.nin, .int .i64 S.nbe, .int .i64 S.short, .int .i64 S.clock, .bool S.runs, .int .i64 S.inc, .slice As S.sent.length cs, .int .i64 S.replied, .slice Aj l.length cj] tDA)).alloc (.cells #[.int .i64 0, .int .i64 n, .int .i64 m, .int .i64 dt, .slice Al nl cl, .slice At nt ct] tAOp)) tDA zD
  simp only [World.size_alloc] at BO BZ
  have o0 := BO.cell 0
  have o1 := BO.cell 1
  have o2 := BO.cell 2
  have o3 := BO.cell 3
  have o4 := BO.cell 4
  have o5 := BO.cell 5
  simp only [List.getElem?_toArray, List.getElem?_cons_zero, List.getElem?_cons_succ] at o0 o1 o2 o3 o4 o5
  have BX' := Lib.hid BX
  have BO' := Lib.hid BO
  have BZ' := Lib.hid BZ
  have hs3' := Lib.hid hs3
  clear hag hd hq b3 BX BO BZ hs3
  go_enter Try.func41, Try.ntmps41
  go_upto_region 33 with (first | (((with_reducible refine gate_callee (f := 28) rfl ?_); refine goesL_ (some 28) rfl rfl Try.func28 (by kernel_rfl) rfl #[ptr a, .int .i64 n] rfl (by (try simp only [List.map_toArray, List.map_cons, List.map_nil]); first | done | rfl) ?_; (with_reducible refine (bootC n e1'.out hag3.out).mono ?_); rintro e w4 ⟨rfl, g4, k4⟩; refine ⟨_, rfl, ?_⟩; have BX4 := k4.blk (.inr ⟨Nat.le_refl _, by rw [hs3'.out]; omega⟩) BX'.out; have BO4 := k4.blk (.inr ⟨Nat.le_succ _, by rw [hs3'.out]; omega⟩) BO'.out; have BZ4 := Lib.hid (k4.blk (.inr ⟨by omega, by rw [hs3'.out]; omega⟩) BZ'.out); clear o0 o1 o2 o3 o4 o5; have o0 := BO4.cell 0; have o1 := BO4.cell 1; have o2 := BO4.cell 2; have o3 := BO4.cell 3; have o4 := BO4.cell 4; have o5 := BO4.cell 5; simp only [List.getElem?_toArray, List.getElem?_cons_zero, List.getElem?_cons_succ] at o0 o1 o2 o3 o4 o5; have d0 := BX4.cell 0; have d1 := BX4.cell 1; have d2 := BX4.cell 2; have d3 := BX4.cell 3; have d4 := BX4.cell 4; have d5 := BX4.cell 5; have d6 := BX4.cell 6; have d7 := BX4.cell 7; have d8 := BX4.cell 8; have d9 := BX4.cell 9; have d10 := BX4.cell 10; have d11 := BX4.cell 11; simp only [List.getElem?_toArray, List.getElem?_cons_zero, List.getElem?_cons_succ] at d0 d1 d2 d3 d4 d5 d6 d7 d8 d9 d10 d11; have BX4' := Lib.hid BX4; have hd4 := Lib.hid ((hd'.out.below b3'.out).keep (W' := w4) fun k hl hQ => k4.block k hl (fun hn => hn (.inl hQ))); have g4' := Lib.hid g4; have k4' := Lib.hid k4; have hz4 := Lib.hid (show W.heap.size + 3 ≤ w4.heap.size from hs3'.out ▸ k4.size); clear g4 k4 BX4 BO4)) | (((with_reducible refine gate_callee (f := 63) rfl ?_); refine goesL_ (some 33) rfl rfl Try.func63 (by kernel_rfl) rfl #[.agg #[.int .i64 S.nid, .int .i64 S.nco, .int .i64 S.nme, .int .i64 S.nin, .int .i64 S.nbe, .int .i64 S.short, .int .i64 S.clock, .bool S.runs, .int .i64 S.inc, .slice As S.sent.length cs, .int .i64 S.replied, .slice Aj l.length cj], .int .i64 n] rfl (by (try simp only [List.map_toArray, List.map_cons, List.map_nil]); first | done | rfl) ?_; (with_reducible refine (bootDC n _ e1'.out hd4.out hoff'.out).mono ?_); rintro e w5 ⟨As', cs', Aj', cj', l', rfl, h5, b5⟩; refine ⟨_, rfl, ?_⟩; clear d0 d1 d2 d3 d4 d5 d6 d7 d8 d9 d10 d11 o0 o1 o2 o3 o4 o5; have BX5 := BX4'.out.below b5 BX4'.out.lt; have d0 := BX5.cell 0; have d1 := BX5.cell 1; have d2 := BX5.cell 2; have d3 := BX5.cell 3; have d4 := BX5.cell 4; have d5 := BX5.cell 5; have d6 := BX5.cell 6; have d7 := BX5.cell 7; have d8 := BX5.cell 8; have d9 := BX5.cell 9; have d10 := BX5.cell 10; have d11 := BX5.cell 11; simp only [List.getElem?_toArray, List.getElem?_cons_zero, List.getElem?_cons_succ] at d0 d1 d2 d3 d4 d5 d6 d7 d8 d9 d10 d11; have f0 := BX5.frozen 0; have f1 := BX5.frozen 1; have f2 := BX5.frozen 2; have f3 := BX5.frozen 3; have f4 := BX5.frozen 4; have f5 := BX5.frozen 5; have f6 := BX5.frozen 6; have f7 := BX5.frozen 7; have f8 := BX5.frozen 8; have f9 := BX5.frozen 9; have f10 := BX5.frozen 10; have f11 := BX5.frozen 11; have BX5' := Lib.hid BX5; have BZ5 := Lib.hid (BZ4.out.below b5 BZ4.out.lt); have h5' := Lib.hid h5; have b5' := Lib.hid b5; clear BX5 h5 b5)))
  change Code.wp _ _ _ _ (set12 w5 W.heap.size (.int .i64 S'.nid) (.int .i64 S'.nco) (.int .i64 S'.nme) (.int .i64 S'.nin) (.int .i64 S'.nbe) (.int .i64 S'.short) (.int .i64 S'.clock) (.bool S'.runs) (.int .i64 S'.inc) (.slice As' S'.sent.length cs') (.int .i64 S'.replied) (.slice Aj' l'.length cj'))
  have BX6 := blk12 BX5'.out (by rfl) (.int .i64 S'.nid) (.int .i64 S'.nco) (.int .i64 S'.nme) (.int .i64 S'.nin) (.int .i64 S'.nbe) (.int .i64 S'.short) (.int .i64 S'.clock) (.bool S'.runs) (.int .i64 S'.inc) (.slice As' S'.sent.length cs') (.int .i64 S'.replied) (.slice Aj' l'.length cj')
  have BZ6 : Blk (set12 w5 W.heap.size (.int .i64 S'.nid) (.int .i64 S'.nco) (.int .i64 S'.nme) (.int .i64 S'.nin) (.int .i64 S'.nbe) (.int .i64 S'.short) (.int .i64 S'.clock) (.bool S'.runs) (.int .i64 S'.inc) (.slice As' S'.sent.length cs') (.int .i64 S'.replied) (.slice Aj' l'.length cj')) (W.heap.size + 1 + 1) tDA zD := (set12_heap w5 W.heap.size _ _ _ _ _ _ _ _ _ _ _ _ (by omega)).trans BZ5.out
  have b6 : Below W.heap.size w5 (set12 w5 W.heap.size (.int .i64 S'.nid) (.int .i64 S'.nco) (.int .i64 S'.nme) (.int .i64 S'.nin) (.int .i64 S'.nbe) (.int .i64 S'.short) (.int .i64 S'.clock) (.bool S'.runs) (.int .i64 S'.inc) (.slice As' S'.sent.length cs') (.int .i64 S'.replied) (.slice Aj' l'.length cj')) := below12 (Below.refl _ _) (Nat.le_refl _) (.int .i64 S'.nid) (.int .i64 S'.nco) (.int .i64 S'.nme) (.int .i64 S'.nin) (.int .i64 S'.nbe) (.int .i64 S'.short) (.int .i64 S'.clock) (.bool S'.runs) (.int .i64 S'.inc) (.slice As' S'.sent.length cs') (.int .i64 S'.replied) (.slice Aj' l'.length cj')
  have h6 : ∀ k, k ≠ W.heap.size → (set12 w5 W.heap.size (.int .i64 S'.nid) (.int .i64 S'.nco) (.int .i64 S'.nme) (.int .i64 S'.nin) (.int .i64 S'.nbe) (.int .i64 S'.short) (.int .i64 S'.clock) (.bool S'.runs) (.int .i64 S'.inc) (.slice As' S'.sent.length cs') (.int .i64 S'.replied) (.slice Aj' l'.length cj')).heap[k]? = w5.heap[k]? := fun k hk => set12_heap _ _ _ _ _ _ _ _ _ _ _ _ _ _ hk
  obtain ⟨w6, hw6⟩ : ∃ w6, set12 w5 W.heap.size (.int .i64 S'.nid) (.int .i64 S'.nco) (.int .i64 S'.nme) (.int .i64 S'.nin) (.int .i64 S'.nbe) (.int .i64 S'.short) (.int .i64 S'.clock) (.bool S'.runs) (.int .i64 S'.inc) (.slice As' S'.sent.length cs') (.int .i64 S'.replied) (.slice Aj' l'.length cj') = w6 := ⟨_, rfl⟩
  rw [hw6] at BX6 BZ6 b6 h6 ⊢
  clear hw6 d0 d1 d2 d3 d4 d5 d6 d7 d8 d9 d10 d11 f0 f1 f2 f3 f4 f5 f6 f7 f8 f9 f10 f11
  have d0 := BX6.cell 0
  have d1 := BX6.cell 1
  have d2 := BX6.cell 2
  have d3 := BX6.cell 3
  have d4 := BX6.cell 4
  have d5 := BX6.cell 5
  have d6 := BX6.cell 6
  have d7 := BX6.cell 7
  have d8 := BX6.cell 8
  have d9 := BX6.cell 9
  have d10 := BX6.cell 10
  have d11 := BX6.cell 11
  simp only [List.getElem?_toArray, List.getElem?_cons_zero, List.getElem?_cons_succ] at d0 d1 d2 d3 d4 d5 d6 d7 d8 d9 d10 d11
  have x0 := BZ6.cell 0
  have x1 := BZ6.cell 1
  have x2 := BZ6.cell 2
  have x3 := BZ6.cell 3
  have x4 := BZ6.cell 4
  have x5 := BZ6.cell 5
  have x6 := BZ6.cell 6
  have x7 := BZ6.cell 7
  have x8 := BZ6.cell 8
  have x9 := BZ6.cell 9
  have x10 := BZ6.cell 10
  have x11 := BZ6.cell 11
  simp only [List.getElem?_toArray, List.getElem?_cons_zero, List.getElem?_cons_succ] at x0 x1 x2 x3 x4 x5 x6 x7 x8 x9 x10 x11
  have y0 := BZ6.frozen 0
  have y1 := BZ6.frozen 1
  have y2 := BZ6.frozen 2
  have y3 := BZ6.frozen 3
  have y4 := BZ6.frozen 4
  have y5 := BZ6.frozen 5
  have y6 := BZ6.frozen 6
  have y7 := BZ6.frozen 7
  have y8 := BZ6.frozen 8
  have y9 := BZ6.frozen 9
  have y10 := BZ6.frozen 10
  have y11 := BZ6.frozen 11
  have BZ6' := Lib.hid BZ6
  have b6' := Lib.hid b6
  have h6' := Lib.hid h6
  clear BX6 BZ6 b6 h6
  go_wp2
  have RR := blk12 BZ6'.out (by rfl) (.int .i64 S'.nid) (.int .i64 S'.nco) (.int .i64 S'.nme) (.int .i64 S'.nin) (.int .i64 S'.nbe) (.int .i64 S'.short) (.int .i64 S'.clock) (.bool S'.runs) (.int .i64 S'.inc) (.slice As' S'.sent.length cs') (.int .i64 S'.replied) (.slice Aj' l'.length cj')
  refine bodyPost_ret (results_ct rfl _ _ _ tDA #[.int .i64 S'.nid, .int .i64 S'.nco, .int .i64 S'.nme, .int .i64 S'.nin, .int .i64 S'.nbe, .int .i64 S'.short, .int .i64 S'.clock, .bool S'.runs, .int .i64 S'.inc, .slice As' S'.sent.length cs', .int .i64 S'.replied, .slice Aj' l'.length cj'] (0, 0) _ rfl RR Try.underlying91 rfl (by kernel_rfl)) rfl ?_
  have hF0 := b6'.out.trans (below_le (below12 (Below.refl (W.heap.size + 1 + 1) w6) (b := W.heap.size + 1 + 1) (Nat.le_refl _) (.int .i64 S'.nid) (.int .i64 S'.nco) (.int .i64 S'.nme) (.int .i64 S'.nin) (.int .i64 S'.nbe) (.int .i64 S'.short) (.int .i64 S'.clock) (.bool S'.runs) (.int .i64 S'.inc) (.slice As' S'.sent.length cs') (.int .i64 S'.replied) (.slice Aj' l'.length cj')) (by omega))
  have hF : ∀ k, ((((W.alloc (.cells #[.int .i64 S.nid, .int .i64 S.nco, .int .i64 S.nme, .int .i64 S.nin, .int .i64 S.nbe, .int .i64 S.short, .int .i64 S.clock, .bool S.runs, .int .i64 S.inc, .slice As S.sent.length cs, .int .i64 S.replied, .slice Aj l.length cj] tDA)).alloc (.cells #[.int .i64 0, .int .i64 n, .int .i64 m, .int .i64 dt, .slice Al nl cl, .slice At nt ct] tAOp)).alloc (.cells zD tDA))).heap.size ≤ k → k < w5.heap.size → (set12 w6 (W.heap.size + 1 + 1) (.int .i64 S'.nid) (.int .i64 S'.nco) (.int .i64 S'.nme) (.int .i64 S'.nin) (.int .i64 S'.nbe) (.int .i64 S'.short) (.int .i64 S'.clock) (.bool S'.runs) (.int .i64 S'.inc) (.slice As' S'.sent.length cs') (.int .i64 S'.replied) (.slice Aj' l'.length cj')).heap[k]? = w5.heap[k]? := fun k h1 h2 => (set12_heap _ _ _ _ _ _ _ _ _ _ _ _ _ _ (by rw [hs3'.out] at h1; omega)).trans (h6'.out k (by rw [hs3'.out] at h1; omega))
  have hE := play_end hq'.out b3'.out g4'.out k4'.out b5'.out h5'.out hF0 hF
  obtain ⟨Q', e1, e2, e3, e4, e5⟩ := hE
  exact ⟨As', cs', Aj', cj', l', Q', rfl, e1, e2, e3, e4, e5⟩
set_option maxRecDepth 100000 in
set_option maxHeartbeats 8000000 in
theorem play1 {Q : Nat → Prop} {a : Nat} {As Aj : Option Addr} {cs cj : Nat} {l : List (Jb × DJ)} {S S' : Ag} {cd : Int} (n m dt : Int) (Al At : Option Addr) (nl cl nt ct : Nat) (W : World) (e1 : haltG S = (S', cd)) (hag : AgQ a S Q W) (hd : DocM Q (.slice As S.sent.length cs) (.slice Aj l.length cj) l S W) (hq : ∀ k, Q k → k < W.heap.size) :
    Calls Try.prog 41 #[ptr a, .agg #[.int .i64 S.nid, .int .i64 S.nco, .int .i64 S.nme, .int .i64 S.nin, .int .i64 S.nbe, .int .i64 S.short, .int .i64 S.clock, .bool S.runs, .int .i64 S.inc, .slice As S.sent.length cs, .int .i64 S.replied, .slice Aj l.length cj], .agg #[.int .i64 1, .int .i64 n, .int .i64 m, .int .i64 dt, .slice Al nl cl, .slice At nt ct]] W (PlayD Q a S' W) := by
  have e1' := Lib.hid e1
  clear e1
  have hag' := Lib.hid hag
  have hd' := Lib.hid hd
  have hq' := Lib.hid hq
  have b3 : Below W.heap.size W (((W.alloc (.cells #[.int .i64 S.nid, .int .i64 S.nco, .int .i64 S.nme, .int .i64 S.nin, .int .i64 S.nbe, .int .i64 S.short, .int .i64 S.clock, .bool S.runs, .int .i64 S.inc, .slice As S.sent.length cs, .int .i64 S.replied, .slice Aj l.length cj] tDA)).alloc (.cells #[.int .i64 1, .int .i64 n, .int .i64 m, .int .i64 dt, .slice Al nl cl, .slice At nt ct] tAOp)).alloc (.cells zD tDA)) := below3 _ _ _
  have b3' := Lib.hid b3
  have hs3 : ((((W.alloc (.cells #[.int .i64 S.nid, .int .i64 S.nco, .int .i64 S.nme, .int .i64 S.nin, .int .i64 S.nbe, .int .i64 S.short, .int .i64 S.clock, .bool S.runs, .int .i64 S.inc, .slice As S.sent.length cs, .int .i64 S.replied, .slice Aj l.length cj] tDA)).alloc (.cells #[.int .i64 1, .int .i64 n, .int .i64 m, .int .i64 dt, .slice Al nl cl, .slice At nt ct] tAOp)).alloc (.cells zD tDA))).heap.size = W.heap.size + 3 := by simp
  have hag3 := Lib.hid (hag.more (Q' := QP Q W (((W.alloc (.cells #[.int .i64 S.nid, .int .i64 S.nco, .int .i64 S.nme, .int .i64 S.nin, .int .i64 S.nbe, .int .i64 S.short, .int .i64 S.clock, .bool S.runs, .int .i64 S.inc, .slice As S.sent.length cs, .int .i64 S.replied, .slice Aj l.length cj] tDA)).alloc (.cells #[.int .i64 1, .int .i64 n, .int .i64 m, .int .i64 dt, .slice Al nl cl, .slice At nt ct] tAOp)).alloc (.cells zD tDA))) b3 fun k hk => hk.elim .inl fun h => .inr h.1)
  have BX := ((Blk.new W tDA #[.int .i64 S.nid, .int .i64 S.nco, .int .i64 S.nme, .int .i64 S.nin, .int .i64 S.nbe, .int .i64 S.short, .int .i64 S.clock, .bool S.runs, .int .i64 S.inc, .slice As S.sent.length cs, .int .i64 S.replied, .slice Aj l.length cj]).alloc (.cells #[.int .i64 1, .int .i64 n, .int .i64 m, .int .i64 dt, .slice Al nl cl, .slice At nt ct] tAOp)).alloc (.cells zD tDA)
  have BO := (Blk.new (W.alloc (.cells #[.int .i64 S.nid, .int .i64 S.nco, .int .i64 S.nme, .int .i64 S.nin, .int .i64 S.nbe, .int .i64 S.short, .int .i64 S.clock, .bool S.runs, .int .i64 S.inc, .slice As S.sent.length cs, .int .i64 S.replied, .slice Aj l.length cj] tDA)) tAOp #[.int .i64 1, .int .i64 n, .int .i64 m, .int .i64 dt, .slice Al nl cl, .slice At nt ct]).alloc (.cells zD tDA)
  have BZ := Blk.new ((W.alloc (.cells #[.int .i64 S.nid, .int .i64 S.nco, .int .i64 S.nme, .int .i64 S.nin, .int .i64 S.nbe, .int .i64 S.short, .int .i64 S.clock, .bool S.runs, .int .i64 S.inc, .slice As S.sent.length cs, .int .i64 S.replied, .slice Aj l.length cj] tDA)).alloc (.cells #[.int .i64 1, .int .i64 n, .int .i64 m, .int .i64 dt, .slice Al nl cl, .slice At nt ct] tAOp)) tDA zD
  simp only [World.size_alloc] at BO BZ
  have o0 := BO.cell 0
  have o1 := BO.cell 1
  have o2 := BO.cell 2
  have o3 := BO.cell 3
  have o4 := BO.cell 4
  have o5 := BO.cell 5
  simp only [List.getElem?_toArray, List.getElem?_cons_zero, List.getElem?_cons_succ] at o0 o1 o2 o3 o4 o5
  have BX' := Lib.hid BX
  have BO' := Lib.hid BO
  have BZ' := Lib.hid BZ
  have hs3' := Lib.hid hs3
  clear hag hd hq b3 BX BO BZ hs3
  go_enter Try.func41, Try.ntmps41
  go_upto_region 33 with (first | (((with_reducible refine gate_callee (f := 29) rfl ?_); refine goesL_ (some 39) rfl rfl Try.func29 (by kernel_rfl) rfl #[ptr a] rfl (by (try simp only [List.map_toArray, List.map_cons, List.map_nil]); first | done | rfl) ?_; (with_reducible refine (haltC e1'.out hag3.out).mono ?_); rintro e w4 ⟨rfl, g4, k4⟩; refine ⟨_, rfl, ?_⟩; have BX4 := k4.blk (.inr ⟨Nat.le_refl _, by rw [hs3'.out]; omega⟩) BX'.out; have BO4 := k4.blk (.inr ⟨Nat.le_succ _, by rw [hs3'.out]; omega⟩) BO'.out; have BZ4 := Lib.hid (k4.blk (.inr ⟨by omega, by rw [hs3'.out]; omega⟩) BZ'.out); clear o0 o1 o2 o3 o4 o5; have o0 := BO4.cell 0; have o1 := BO4.cell 1; have o2 := BO4.cell 2; have o3 := BO4.cell 3; have o4 := BO4.cell 4; have o5 := BO4.cell 5; simp only [List.getElem?_toArray, List.getElem?_cons_zero, List.getElem?_cons_succ] at o0 o1 o2 o3 o4 o5; have d0 := BX4.cell 0; have d1 := BX4.cell 1; have d2 := BX4.cell 2; have d3 := BX4.cell 3; have d4 := BX4.cell 4; have d5 := BX4.cell 5; have d6 := BX4.cell 6; have d7 := BX4.cell 7; have d8 := BX4.cell 8; have d9 := BX4.cell 9; have d10 := BX4.cell 10; have d11 := BX4.cell 11; simp only [List.getElem?_toArray, List.getElem?_cons_zero, List.getElem?_cons_succ] at d0 d1 d2 d3 d4 d5 d6 d7 d8 d9 d10 d11; have BX4' := Lib.hid BX4; have hd4 := Lib.hid ((hd'.out.below b3'.out).keep (W' := w4) fun k hl hQ => k4.block k hl (fun hn => hn (.inl hQ))); have g4' := Lib.hid g4; have k4' := Lib.hid k4; have hz4 := Lib.hid (show W.heap.size + 3 ≤ w4.heap.size from hs3'.out ▸ k4.size); clear g4 k4 BX4 BO4)) | (((with_reducible refine gate_callee (f := 64) rfl ?_); refine goesL_ (some 42) rfl rfl Try.func64 (by kernel_rfl) rfl #[.agg #[.int .i64 S.nid, .int .i64 S.nco, .int .i64 S.nme, .int .i64 S.nin, .int .i64 S.nbe, .int .i64 S.short, .int .i64 S.clock, .bool S.runs, .int .i64 S.inc, .slice As S.sent.length cs, .int .i64 S.replied, .slice Aj l.length cj]] rfl (by (try simp only [List.map_toArray, List.map_cons, List.map_nil]); first | done | rfl) ?_; (with_reducible refine (haltDC _ e1'.out hd4.out).mono ?_); rintro e w5 ⟨As', cs', Aj', cj', l', rfl, h5, b5⟩; refine ⟨_, rfl, ?_⟩; clear d0 d1 d2 d3 d4 d5 d6 d7 d8 d9 d10 d11 o0 o1 o2 o3 o4 o5; have BX5 := BX4'.out.below b5 BX4'.out.lt; have d0 := BX5.cell 0; have d1 := BX5.cell 1; have d2 := BX5.cell 2; have d3 := BX5.cell 3; have d4 := BX5.cell 4; have d5 := BX5.cell 5; have d6 := BX5.cell 6; have d7 := BX5.cell 7; have d8 := BX5.cell 8; have d9 := BX5.cell 9; have d10 := BX5.cell 10; have d11 := BX5.cell 11; simp only [List.getElem?_toArray, List.getElem?_cons_zero, List.getElem?_cons_succ] at d0 d1 d2 d3 d4 d5 d6 d7 d8 d9 d10 d11; have f0 := BX5.frozen 0; have f1 := BX5.frozen 1; have f2 := BX5.frozen 2; have f3 := BX5.frozen 3; have f4 := BX5.frozen 4; have f5 := BX5.frozen 5; have f6 := BX5.frozen 6; have f7 := BX5.frozen 7; have f8 := BX5.frozen 8; have f9 := BX5.frozen 9; have f10 := BX5.frozen 10; have f11 := BX5.frozen 11; have BX5' := Lib.hid BX5; have BZ5 := Lib.hid (BZ4.out.below b5 BZ4.out.lt); have h5' := Lib.hid h5; have b5' := Lib.hid b5; clear BX5 h5 b5)))
  change Code.wp _ _ _ _ (set12 w5 W.heap.size (.int .i64 S'.nid) (.int .i64 S'.nco) (.int .i64 S'.nme) (.int .i64 S'.nin) (.int .i64 S'.nbe) (.int .i64 S'.short) (.int .i64 S'.clock) (.bool S'.runs) (.int .i64 S'.inc) (.slice As' S'.sent.length cs') (.int .i64 S'.replied) (.slice Aj' l'.length cj'))
  have BX6 := blk12 BX5'.out (by rfl) (.int .i64 S'.nid) (.int .i64 S'.nco) (.int .i64 S'.nme) (.int .i64 S'.nin) (.int .i64 S'.nbe) (.int .i64 S'.short) (.int .i64 S'.clock) (.bool S'.runs) (.int .i64 S'.inc) (.slice As' S'.sent.length cs') (.int .i64 S'.replied) (.slice Aj' l'.length cj')
  have BZ6 : Blk (set12 w5 W.heap.size (.int .i64 S'.nid) (.int .i64 S'.nco) (.int .i64 S'.nme) (.int .i64 S'.nin) (.int .i64 S'.nbe) (.int .i64 S'.short) (.int .i64 S'.clock) (.bool S'.runs) (.int .i64 S'.inc) (.slice As' S'.sent.length cs') (.int .i64 S'.replied) (.slice Aj' l'.length cj')) (W.heap.size + 1 + 1) tDA zD := (set12_heap w5 W.heap.size _ _ _ _ _ _ _ _ _ _ _ _ (by omega)).trans BZ5.out
  have b6 : Below W.heap.size w5 (set12 w5 W.heap.size (.int .i64 S'.nid) (.int .i64 S'.nco) (.int .i64 S'.nme) (.int .i64 S'.nin) (.int .i64 S'.nbe) (.int .i64 S'.short) (.int .i64 S'.clock) (.bool S'.runs) (.int .i64 S'.inc) (.slice As' S'.sent.length cs') (.int .i64 S'.replied) (.slice Aj' l'.length cj')) := below12 (Below.refl _ _) (Nat.le_refl _) (.int .i64 S'.nid) (.int .i64 S'.nco) (.int .i64 S'.nme) (.int .i64 S'.nin) (.int .i64 S'.nbe) (.int .i64 S'.short) (.int .i64 S'.clock) (.bool S'.runs) (.int .i64 S'.inc) (.slice As' S'.sent.length cs') (.int .i64 S'.replied) (.slice Aj' l'.length cj')
  have h6 : ∀ k, k ≠ W.heap.size → (set12 w5 W.heap.size (.int .i64 S'.nid) (.int .i64 S'.nco) (.int .i64 S'.nme) (.int .i64 S'.nin) (.int .i64 S'.nbe) (.int .i64 S'.short) (.int .i64 S'.clock) (.bool S'.runs) (.int .i64 S'.inc) (.slice As' S'.sent.length cs') (.int .i64 S'.replied) (.slice Aj' l'.length cj')).heap[k]? = w5.heap[k]? := fun k hk => set12_heap _ _ _ _ _ _ _ _ _ _ _ _ _ _ hk
  obtain ⟨w6, hw6⟩ : ∃ w6, set12 w5 W.heap.size (.int .i64 S'.nid) (.int .i64 S'.nco) (.int .i64 S'.nme) (.int .i64 S'.nin) (.int .i64 S'.nbe) (.int .i64 S'.short) (.int .i64 S'.clock) (.bool S'.runs) (.int .i64 S'.inc) (.slice As' S'.sent.length cs') (.int .i64 S'.replied) (.slice Aj' l'.length cj') = w6 := ⟨_, rfl⟩
  rw [hw6] at BX6 BZ6 b6 h6 ⊢
  clear hw6 d0 d1 d2 d3 d4 d5 d6 d7 d8 d9 d10 d11 f0 f1 f2 f3 f4 f5 f6 f7 f8 f9 f10 f11
  have d0 := BX6.cell 0
  have d1 := BX6.cell 1
  have d2 := BX6.cell 2
  have d3 := BX6.cell 3
  have d4 := BX6.cell 4
  have d5 := BX6.cell 5
  have d6 := BX6.cell 6
  have d7 := BX6.cell 7
  have d8 := BX6.cell 8
  have d9 := BX6.cell 9
  have d10 := BX6.cell 10
  have d11 := BX6.cell 11
  simp only [List.getElem?_toArray, List.getElem?_cons_zero, List.getElem?_cons_succ] at d0 d1 d2 d3 d4 d5 d6 d7 d8 d9 d10 d11
  have x0 := BZ6.cell 0
  have x1 := BZ6.cell 1
  have x2 := BZ6.cell 2
  have x3 := BZ6.cell 3
  have x4 := BZ6.cell 4
  have x5 := BZ6.cell 5
  have x6 := BZ6.cell 6
  have x7 := BZ6.cell 7
  have x8 := BZ6.cell 8
  have x9 := BZ6.cell 9
  have x10 := BZ6.cell 10
  have x11 := BZ6.cell 11
  simp only [List.getElem?_toArray, List.getElem?_cons_zero, List.getElem?_cons_succ] at x0 x1 x2 x3 x4 x5 x6 x7 x8 x9 x10 x11
  have y0 := BZ6.frozen 0
  have y1 := BZ6.frozen 1
  have y2 := BZ6.frozen 2
  have y3 := BZ6.frozen 3
  have y4 := BZ6.frozen 4
  have y5 := BZ6.frozen 5
  have y6 := BZ6.frozen 6
  have y7 := BZ6.frozen 7
  have y8 := BZ6.frozen 8
  have y9 := BZ6.frozen 9
  have y10 := BZ6.frozen 10
  have y11 := BZ6.frozen 11
  have BZ6' := Lib.hid BZ6
  have b6' := Lib.hid b6
  have h6' := Lib.hid h6
  clear BX6 BZ6 b6 h6
  go_wp2
  have RR := blk12 BZ6'.out (by rfl) (.int .i64 S'.nid) (.int .i64 S'.nco) (.int .i64 S'.nme) (.int .i64 S'.nin) (.int .i64 S'.nbe) (.int .i64 S'.short) (.int .i64 S'.clock) (.bool S'.runs) (.int .i64 S'.inc) (.slice As' S'.sent.length cs') (.int .i64 S'.replied) (.slice Aj' l'.length cj')
  refine bodyPost_ret (results_ct rfl _ _ _ tDA #[.int .i64 S'.nid, .int .i64 S'.nco, .int .i64 S'.nme, .int .i64 S'.nin, .int .i64 S'.nbe, .int .i64 S'.short, .int .i64 S'.clock, .bool S'.runs, .int .i64 S'.inc, .slice As' S'.sent.length cs', .int .i64 S'.replied, .slice Aj' l'.length cj'] (0, 0) _ rfl RR Try.underlying91 rfl (by kernel_rfl)) rfl ?_
  have hF0 := b6'.out.trans (below_le (below12 (Below.refl (W.heap.size + 1 + 1) w6) (b := W.heap.size + 1 + 1) (Nat.le_refl _) (.int .i64 S'.nid) (.int .i64 S'.nco) (.int .i64 S'.nme) (.int .i64 S'.nin) (.int .i64 S'.nbe) (.int .i64 S'.short) (.int .i64 S'.clock) (.bool S'.runs) (.int .i64 S'.inc) (.slice As' S'.sent.length cs') (.int .i64 S'.replied) (.slice Aj' l'.length cj')) (by omega))
  have hF : ∀ k, ((((W.alloc (.cells #[.int .i64 S.nid, .int .i64 S.nco, .int .i64 S.nme, .int .i64 S.nin, .int .i64 S.nbe, .int .i64 S.short, .int .i64 S.clock, .bool S.runs, .int .i64 S.inc, .slice As S.sent.length cs, .int .i64 S.replied, .slice Aj l.length cj] tDA)).alloc (.cells #[.int .i64 1, .int .i64 n, .int .i64 m, .int .i64 dt, .slice Al nl cl, .slice At nt ct] tAOp)).alloc (.cells zD tDA))).heap.size ≤ k → k < w5.heap.size → (set12 w6 (W.heap.size + 1 + 1) (.int .i64 S'.nid) (.int .i64 S'.nco) (.int .i64 S'.nme) (.int .i64 S'.nin) (.int .i64 S'.nbe) (.int .i64 S'.short) (.int .i64 S'.clock) (.bool S'.runs) (.int .i64 S'.inc) (.slice As' S'.sent.length cs') (.int .i64 S'.replied) (.slice Aj' l'.length cj')).heap[k]? = w5.heap[k]? := fun k h1 h2 => (set12_heap _ _ _ _ _ _ _ _ _ _ _ _ _ _ (by rw [hs3'.out] at h1; omega)).trans (h6'.out k (by rw [hs3'.out] at h1; omega))
  have hE := play_end hq'.out b3'.out g4'.out k4'.out b5'.out h5'.out hF0 hF
  obtain ⟨Q', e1, e2, e3, e4, e5⟩ := hE
  exact ⟨As', cs', Aj', cj', l', Q', rfl, e1, e2, e3, e4, e5⟩
set_option maxRecDepth 100000 in
set_option maxHeartbeats 8000000 in
theorem play2 {Q : Nat → Prop} {a : Nat} {As Aj : Option Addr} {cs cj : Nat} {l : List (Jb × DJ)} {S S' : Ag} {cd : Int} (n m dt : Int) (Al At : Option Addr) (nl cl nt ct : Nat) (W : World) (e1 : passG S dt = (S', cd)) (hag : AgQ a S Q W) (hd : DocM Q (.slice As S.sent.length cs) (.slice Aj l.length cj) l S W) (hq : ∀ k, Q k → k < W.heap.size) (hok : AgOk S) :
    Calls Try.prog 41 #[ptr a, .agg #[.int .i64 S.nid, .int .i64 S.nco, .int .i64 S.nme, .int .i64 S.nin, .int .i64 S.nbe, .int .i64 S.short, .int .i64 S.clock, .bool S.runs, .int .i64 S.inc, .slice As S.sent.length cs, .int .i64 S.replied, .slice Aj l.length cj], .agg #[.int .i64 2, .int .i64 n, .int .i64 m, .int .i64 dt, .slice Al nl cl, .slice At nt ct]] W (PlayD Q a S' W) := by
  have e1' := Lib.hid e1
  have hok' := Lib.hid hok
  clear e1 hok
  have hag' := Lib.hid hag
  have hd' := Lib.hid hd
  have hq' := Lib.hid hq
  have b3 : Below W.heap.size W (((W.alloc (.cells #[.int .i64 S.nid, .int .i64 S.nco, .int .i64 S.nme, .int .i64 S.nin, .int .i64 S.nbe, .int .i64 S.short, .int .i64 S.clock, .bool S.runs, .int .i64 S.inc, .slice As S.sent.length cs, .int .i64 S.replied, .slice Aj l.length cj] tDA)).alloc (.cells #[.int .i64 2, .int .i64 n, .int .i64 m, .int .i64 dt, .slice Al nl cl, .slice At nt ct] tAOp)).alloc (.cells zD tDA)) := below3 _ _ _
  have b3' := Lib.hid b3
  have hs3 : ((((W.alloc (.cells #[.int .i64 S.nid, .int .i64 S.nco, .int .i64 S.nme, .int .i64 S.nin, .int .i64 S.nbe, .int .i64 S.short, .int .i64 S.clock, .bool S.runs, .int .i64 S.inc, .slice As S.sent.length cs, .int .i64 S.replied, .slice Aj l.length cj] tDA)).alloc (.cells #[.int .i64 2, .int .i64 n, .int .i64 m, .int .i64 dt, .slice Al nl cl, .slice At nt ct] tAOp)).alloc (.cells zD tDA))).heap.size = W.heap.size + 3 := by simp
  have hag3 := Lib.hid (hag.more (Q' := QP Q W (((W.alloc (.cells #[.int .i64 S.nid, .int .i64 S.nco, .int .i64 S.nme, .int .i64 S.nin, .int .i64 S.nbe, .int .i64 S.short, .int .i64 S.clock, .bool S.runs, .int .i64 S.inc, .slice As S.sent.length cs, .int .i64 S.replied, .slice Aj l.length cj] tDA)).alloc (.cells #[.int .i64 2, .int .i64 n, .int .i64 m, .int .i64 dt, .slice Al nl cl, .slice At nt ct] tAOp)).alloc (.cells zD tDA))) b3 fun k hk => hk.elim .inl fun h => .inr h.1)
  have BX := ((Blk.new W tDA #[.int .i64 S.nid, .int .i64 S.nco, .int .i64 S.nme, .int .i64 S.nin, .int .i64 S.nbe, .int .i64 S.short, .int .i64 S.clock, .bool S.runs, .int .i64 S.inc, .slice As S.sent.length cs, .int .i64 S.replied, .slice Aj l.length cj]).alloc (.cells #[.int .i64 2, .int .i64 n, .int .i64 m, .int .i64 dt, .slice Al nl cl, .slice At nt ct] tAOp)).alloc (.cells zD tDA)
  have BO := (Blk.new (W.alloc (.cells #[.int .i64 S.nid, .int .i64 S.nco, .int .i64 S.nme, .int .i64 S.nin, .int .i64 S.nbe, .int .i64 S.short, .int .i64 S.clock, .bool S.runs, .int .i64 S.inc, .slice As S.sent.length cs, .int .i64 S.replied, .slice Aj l.length cj] tDA)) tAOp #[.int .i64 2, .int .i64 n, .int .i64 m, .int .i64 dt, .slice Al nl cl, .slice At nt ct]).alloc (.cells zD tDA)
  have BZ := Blk.new ((W.alloc (.cells #[.int .i64 S.nid, .int .i64 S.nco, .int .i64 S.nme, .int .i64 S.nin, .int .i64 S.nbe, .int .i64 S.short, .int .i64 S.clock, .bool S.runs, .int .i64 S.inc, .slice As S.sent.length cs, .int .i64 S.replied, .slice Aj l.length cj] tDA)).alloc (.cells #[.int .i64 2, .int .i64 n, .int .i64 m, .int .i64 dt, .slice Al nl cl, .slice At nt ct] tAOp)) tDA zD
  simp only [World.size_alloc] at BO BZ
  have o0 := BO.cell 0
  have o1 := BO.cell 1
  have o2 := BO.cell 2
  have o3 := BO.cell 3
  have o4 := BO.cell 4
  have o5 := BO.cell 5
  simp only [List.getElem?_toArray, List.getElem?_cons_zero, List.getElem?_cons_succ] at o0 o1 o2 o3 o4 o5
  have BX' := Lib.hid BX
  have BO' := Lib.hid BO
  have BZ' := Lib.hid BZ
  have hs3' := Lib.hid hs3
  clear hag hd hq b3 BX BO BZ hs3
  go_enter Try.func41, Try.ntmps41
  go_upto_region 33 with (first | (((with_reducible refine gate_callee (f := 30) rfl ?_); refine goesL_ (some 50) rfl rfl Try.func30 (by kernel_rfl) rfl #[ptr a, .int .i64 dt] rfl (by (try simp only [List.map_toArray, List.map_cons, List.map_nil]); first | done | rfl) ?_; (with_reducible refine (passC dt e1'.out hok'.out hag3.out).mono ?_); rintro e w4 ⟨rfl, g4, k4⟩; refine ⟨_, rfl, ?_⟩; have BX4 := k4.blk (.inr ⟨Nat.le_refl _, by rw [hs3'.out]; omega⟩) BX'.out; have BO4 := k4.blk (.inr ⟨Nat.le_succ _, by rw [hs3'.out]; omega⟩) BO'.out; have BZ4 := Lib.hid (k4.blk (.inr ⟨by omega, by rw [hs3'.out]; omega⟩) BZ'.out); clear o0 o1 o2 o3 o4 o5; have o0 := BO4.cell 0; have o1 := BO4.cell 1; have o2 := BO4.cell 2; have o3 := BO4.cell 3; have o4 := BO4.cell 4; have o5 := BO4.cell 5; simp only [List.getElem?_toArray, List.getElem?_cons_zero, List.getElem?_cons_succ] at o0 o1 o2 o3 o4 o5; have d0 := BX4.cell 0; have d1 := BX4.cell 1; have d2 := BX4.cell 2; have d3 := BX4.cell 3; have d4 := BX4.cell 4; have d5 := BX4.cell 5; have d6 := BX4.cell 6; have d7 := BX4.cell 7; have d8 := BX4.cell 8; have d9 := BX4.cell 9; have d10 := BX4.cell 10; have d11 := BX4.cell 11; simp only [List.getElem?_toArray, List.getElem?_cons_zero, List.getElem?_cons_succ] at d0 d1 d2 d3 d4 d5 d6 d7 d8 d9 d10 d11; have BX4' := Lib.hid BX4; have hd4 := Lib.hid ((hd'.out.below b3'.out).keep (W' := w4) fun k hl hQ => k4.block k hl (fun hn => hn (.inl hQ))); have g4' := Lib.hid g4; have k4' := Lib.hid k4; have hz4 := Lib.hid (show W.heap.size + 3 ≤ w4.heap.size from hs3'.out ▸ k4.size); clear g4 k4 BX4 BO4)) | (((with_reducible refine gate_callee (f := 65) rfl ?_); refine goesL_ (some 55) rfl rfl Try.func65 (by kernel_rfl) rfl #[.agg #[.int .i64 S.nid, .int .i64 S.nco, .int .i64 S.nme, .int .i64 S.nin, .int .i64 S.nbe, .int .i64 S.short, .int .i64 S.clock, .bool S.runs, .int .i64 S.inc, .slice As S.sent.length cs, .int .i64 S.replied, .slice Aj l.length cj], .int .i64 dt] rfl (by (try simp only [List.map_toArray, List.map_cons, List.map_nil]); first | done | rfl) ?_; (with_reducible refine (passDC dt _ e1'.out hd4.out hok'.out).mono ?_); rintro e w5 ⟨As', cs', Aj', cj', l', rfl, h5, b5⟩; refine ⟨_, rfl, ?_⟩; clear d0 d1 d2 d3 d4 d5 d6 d7 d8 d9 d10 d11 o0 o1 o2 o3 o4 o5; have BX5 := BX4'.out.below b5 BX4'.out.lt; have d0 := BX5.cell 0; have d1 := BX5.cell 1; have d2 := BX5.cell 2; have d3 := BX5.cell 3; have d4 := BX5.cell 4; have d5 := BX5.cell 5; have d6 := BX5.cell 6; have d7 := BX5.cell 7; have d8 := BX5.cell 8; have d9 := BX5.cell 9; have d10 := BX5.cell 10; have d11 := BX5.cell 11; simp only [List.getElem?_toArray, List.getElem?_cons_zero, List.getElem?_cons_succ] at d0 d1 d2 d3 d4 d5 d6 d7 d8 d9 d10 d11; have f0 := BX5.frozen 0; have f1 := BX5.frozen 1; have f2 := BX5.frozen 2; have f3 := BX5.frozen 3; have f4 := BX5.frozen 4; have f5 := BX5.frozen 5; have f6 := BX5.frozen 6; have f7 := BX5.frozen 7; have f8 := BX5.frozen 8; have f9 := BX5.frozen 9; have f10 := BX5.frozen 10; have f11 := BX5.frozen 11; have BX5' := Lib.hid BX5; have BZ5 := Lib.hid (BZ4.out.below b5 BZ4.out.lt); have h5' := Lib.hid h5; have b5' := Lib.hid b5; clear BX5 h5 b5)))
  change Code.wp _ _ _ _ (set12 w5 W.heap.size (.int .i64 S'.nid) (.int .i64 S'.nco) (.int .i64 S'.nme) (.int .i64 S'.nin) (.int .i64 S'.nbe) (.int .i64 S'.short) (.int .i64 S'.clock) (.bool S'.runs) (.int .i64 S'.inc) (.slice As' S'.sent.length cs') (.int .i64 S'.replied) (.slice Aj' l'.length cj'))
  have BX6 := blk12 BX5'.out (by rfl) (.int .i64 S'.nid) (.int .i64 S'.nco) (.int .i64 S'.nme) (.int .i64 S'.nin) (.int .i64 S'.nbe) (.int .i64 S'.short) (.int .i64 S'.clock) (.bool S'.runs) (.int .i64 S'.inc) (.slice As' S'.sent.length cs') (.int .i64 S'.replied) (.slice Aj' l'.length cj')
  have BZ6 : Blk (set12 w5 W.heap.size (.int .i64 S'.nid) (.int .i64 S'.nco) (.int .i64 S'.nme) (.int .i64 S'.nin) (.int .i64 S'.nbe) (.int .i64 S'.short) (.int .i64 S'.clock) (.bool S'.runs) (.int .i64 S'.inc) (.slice As' S'.sent.length cs') (.int .i64 S'.replied) (.slice Aj' l'.length cj')) (W.heap.size + 1 + 1) tDA zD := (set12_heap w5 W.heap.size _ _ _ _ _ _ _ _ _ _ _ _ (by omega)).trans BZ5.out
  have b6 : Below W.heap.size w5 (set12 w5 W.heap.size (.int .i64 S'.nid) (.int .i64 S'.nco) (.int .i64 S'.nme) (.int .i64 S'.nin) (.int .i64 S'.nbe) (.int .i64 S'.short) (.int .i64 S'.clock) (.bool S'.runs) (.int .i64 S'.inc) (.slice As' S'.sent.length cs') (.int .i64 S'.replied) (.slice Aj' l'.length cj')) := below12 (Below.refl _ _) (Nat.le_refl _) (.int .i64 S'.nid) (.int .i64 S'.nco) (.int .i64 S'.nme) (.int .i64 S'.nin) (.int .i64 S'.nbe) (.int .i64 S'.short) (.int .i64 S'.clock) (.bool S'.runs) (.int .i64 S'.inc) (.slice As' S'.sent.length cs') (.int .i64 S'.replied) (.slice Aj' l'.length cj')
  have h6 : ∀ k, k ≠ W.heap.size → (set12 w5 W.heap.size (.int .i64 S'.nid) (.int .i64 S'.nco) (.int .i64 S'.nme) (.int .i64 S'.nin) (.int .i64 S'.nbe) (.int .i64 S'.short) (.int .i64 S'.clock) (.bool S'.runs) (.int .i64 S'.inc) (.slice As' S'.sent.length cs') (.int .i64 S'.replied) (.slice Aj' l'.length cj')).heap[k]? = w5.heap[k]? := fun k hk => set12_heap _ _ _ _ _ _ _ _ _ _ _ _ _ _ hk
  obtain ⟨w6, hw6⟩ : ∃ w6, set12 w5 W.heap.size (.int .i64 S'.nid) (.int .i64 S'.nco) (.int .i64 S'.nme) (.int .i64 S'.nin) (.int .i64 S'.nbe) (.int .i64 S'.short) (.int .i64 S'.clock) (.bool S'.runs) (.int .i64 S'.inc) (.slice As' S'.sent.length cs') (.int .i64 S'.replied) (.slice Aj' l'.length cj') = w6 := ⟨_, rfl⟩
  rw [hw6] at BX6 BZ6 b6 h6 ⊢
  clear hw6 d0 d1 d2 d3 d4 d5 d6 d7 d8 d9 d10 d11 f0 f1 f2 f3 f4 f5 f6 f7 f8 f9 f10 f11
  have d0 := BX6.cell 0
  have d1 := BX6.cell 1
  have d2 := BX6.cell 2
  have d3 := BX6.cell 3
  have d4 := BX6.cell 4
  have d5 := BX6.cell 5
  have d6 := BX6.cell 6
  have d7 := BX6.cell 7
  have d8 := BX6.cell 8
  have d9 := BX6.cell 9
  have d10 := BX6.cell 10
  have d11 := BX6.cell 11
  simp only [List.getElem?_toArray, List.getElem?_cons_zero, List.getElem?_cons_succ] at d0 d1 d2 d3 d4 d5 d6 d7 d8 d9 d10 d11
  have x0 := BZ6.cell 0
  have x1 := BZ6.cell 1
  have x2 := BZ6.cell 2
  have x3 := BZ6.cell 3
  have x4 := BZ6.cell 4
  have x5 := BZ6.cell 5
  have x6 := BZ6.cell 6
  have x7 := BZ6.cell 7
  have x8 := BZ6.cell 8
  have x9 := BZ6.cell 9
  have x10 := BZ6.cell 10
  have x11 := BZ6.cell 11
  simp only [List.getElem?_toArray, List.getElem?_cons_zero, List.getElem?_cons_succ] at x0 x1 x2 x3 x4 x5 x6 x7 x8 x9 x10 x11
  have y0 := BZ6.frozen 0
  have y1 := BZ6.frozen 1
  have y2 := BZ6.frozen 2
  have y3 := BZ6.frozen 3
  have y4 := BZ6.frozen 4
  have y5 := BZ6.frozen 5
  have y6 := BZ6.frozen 6
  have y7 := BZ6.frozen 7
  have y8 := BZ6.frozen 8
  have y9 := BZ6.frozen 9
  have y10 := BZ6.frozen 10
  have y11 := BZ6.frozen 11
  have BZ6' := Lib.hid BZ6
  have b6' := Lib.hid b6
  have h6' := Lib.hid h6
  clear BX6 BZ6 b6 h6
  go_wp2
  have RR := blk12 BZ6'.out (by rfl) (.int .i64 S'.nid) (.int .i64 S'.nco) (.int .i64 S'.nme) (.int .i64 S'.nin) (.int .i64 S'.nbe) (.int .i64 S'.short) (.int .i64 S'.clock) (.bool S'.runs) (.int .i64 S'.inc) (.slice As' S'.sent.length cs') (.int .i64 S'.replied) (.slice Aj' l'.length cj')
  refine bodyPost_ret (results_ct rfl _ _ _ tDA #[.int .i64 S'.nid, .int .i64 S'.nco, .int .i64 S'.nme, .int .i64 S'.nin, .int .i64 S'.nbe, .int .i64 S'.short, .int .i64 S'.clock, .bool S'.runs, .int .i64 S'.inc, .slice As' S'.sent.length cs', .int .i64 S'.replied, .slice Aj' l'.length cj'] (0, 0) _ rfl RR Try.underlying91 rfl (by kernel_rfl)) rfl ?_
  have hF0 := b6'.out.trans (below_le (below12 (Below.refl (W.heap.size + 1 + 1) w6) (b := W.heap.size + 1 + 1) (Nat.le_refl _) (.int .i64 S'.nid) (.int .i64 S'.nco) (.int .i64 S'.nme) (.int .i64 S'.nin) (.int .i64 S'.nbe) (.int .i64 S'.short) (.int .i64 S'.clock) (.bool S'.runs) (.int .i64 S'.inc) (.slice As' S'.sent.length cs') (.int .i64 S'.replied) (.slice Aj' l'.length cj')) (by omega))
  have hF : ∀ k, ((((W.alloc (.cells #[.int .i64 S.nid, .int .i64 S.nco, .int .i64 S.nme, .int .i64 S.nin, .int .i64 S.nbe, .int .i64 S.short, .int .i64 S.clock, .bool S.runs, .int .i64 S.inc, .slice As S.sent.length cs, .int .i64 S.replied, .slice Aj l.length cj] tDA)).alloc (.cells #[.int .i64 2, .int .i64 n, .int .i64 m, .int .i64 dt, .slice Al nl cl, .slice At nt ct] tAOp)).alloc (.cells zD tDA))).heap.size ≤ k → k < w5.heap.size → (set12 w6 (W.heap.size + 1 + 1) (.int .i64 S'.nid) (.int .i64 S'.nco) (.int .i64 S'.nme) (.int .i64 S'.nin) (.int .i64 S'.nbe) (.int .i64 S'.short) (.int .i64 S'.clock) (.bool S'.runs) (.int .i64 S'.inc) (.slice As' S'.sent.length cs') (.int .i64 S'.replied) (.slice Aj' l'.length cj')).heap[k]? = w5.heap[k]? := fun k h1 h2 => (set12_heap _ _ _ _ _ _ _ _ _ _ _ _ _ _ (by rw [hs3'.out] at h1; omega)).trans (h6'.out k (by rw [hs3'.out] at h1; omega))
  have hE := play_end hq'.out b3'.out g4'.out k4'.out b5'.out h5'.out hF0 hF
  obtain ⟨Q', e1, e2, e3, e4, e5⟩ := hE
  exact ⟨As', cs', Aj', cj', l', Q', rfl, e1, e2, e3, e4, e5⟩
end Go.Proofs.Ytkcmmghhghgdpaa.Agt
end
section
namespace Go.Proofs.Ytkcmmghhghgdpaa.Agt
open Go.RowKit Go.Shelf Go.Maps Go.Proofs.Ytkcmmghhghgdpaa.Iter Go.Proofs.Ytkcmmghhghgdpaa.Str Go.Proofs.YtkcmmghhghgdpaaW.PrintWords Go.Proofs.YtkcmmghhghgdpaaW.PrintLast
set_option linter.unusedVariables false
set_option linter.unusedSimpArgs false
theorem quantCS {a : Nat} {S S' : Ag} {R : List (Int × Int)} {Q : Nat → Prop} {W : World} (e1 : quantG S = (S', R)) (hok : AgOk S) (hhad : ∀ j ∈ S.jobs, j.had < 9223372036854775807) (h : AgQ a S Q W) : Calls Try.prog 38 #[ptr a] W fun e W' => ∃ Ar cr, e = .returned (.slice Ar R.length cr) ∧ ReadsR W' Ar R ∧ AgQ a S' Q W' ∧ KeepQ Q W W' := by
  refine (quantQ h hok hhad).mono ?_
  rintro e W' ⟨u, rfl, hr, h1, h2⟩
  rw [e1] at hr h1
  obtain ⟨A, c, rfl⟩ := own_slice hr
  exact ⟨A, c, rfl, own_readsR hr, h1, h2⟩
theorem quant_len {S S' : Ag} {R : List (Int × Int)} (e1 : quantG S = (S', R)) (hok : AgOk S) : R.length ≤ 100000 := by
  have h : R = (quantG S).2 := by rw [e1]
  subst h
  show ((S.jobs.filter (liveJ S)).map _).length ≤ _
  rw [List.length_map]
  have := List.length_filter_le (liveJ S) S.jobs
  have := hok.jobs
  omega
set_option maxRecDepth 100000 in
set_option maxHeartbeats 8000000 in
theorem play3 {Q : Nat → Prop} {a : Nat} {As Aj : Option Addr} {cs cj : Nat} {l : List (Jb × DJ)} {S S' : Ag} {bn cd : Int} (n m dt : Int) (Al At : Option Addr) (nl cl nt ct : Nat) (W : World) (e1 : beatG S = (S', bn, cd)) (hag : AgQ a S Q W) (hd : DocM Q (.slice As S.sent.length cs) (.slice Aj l.length cj) l S W) (hq : ∀ k, Q k → k < W.heap.size) (hsl : S.sent.length ≤ 100000) :
    Calls Try.prog 41 #[ptr a, .agg #[.int .i64 S.nid, .int .i64 S.nco, .int .i64 S.nme, .int .i64 S.nin, .int .i64 S.nbe, .int .i64 S.short, .int .i64 S.clock, .bool S.runs, .int .i64 S.inc, .slice As S.sent.length cs, .int .i64 S.replied, .slice Aj l.length cj], .agg #[.int .i64 3, .int .i64 n, .int .i64 m, .int .i64 dt, .slice Al nl cl, .slice At nt ct]] W (PlayD Q a S' W) := by
  have e1' := Lib.hid e1
  clear e1
  have hag' := Lib.hid hag
  have hd' := Lib.hid hd
  have hq' := Lib.hid hq
  have b3 : Below W.heap.size W (((W.alloc (.cells #[.int .i64 S.nid, .int .i64 S.nco, .int .i64 S.nme, .int .i64 S.nin, .int .i64 S.nbe, .int .i64 S.short, .int .i64 S.clock, .bool S.runs, .int .i64 S.inc, .slice As S.sent.length cs, .int .i64 S.replied, .slice Aj l.length cj] tDA)).alloc (.cells #[.int .i64 3, .int .i64 n, .int .i64 m, .int .i64 dt, .slice Al nl cl, .slice At nt ct] tAOp)).alloc (.cells zD tDA)) := below3 _ _ _
  have b3' := Lib.hid b3
  have hs3 : ((((W.alloc (.cells #[.int .i64 S.nid, .int .i64 S.nco, .int .i64 S.nme, .int .i64 S.nin, .int .i64 S.nbe, .int .i64 S.short, .int .i64 S.clock, .bool S.runs, .int .i64 S.inc, .slice As S.sent.length cs, .int .i64 S.replied, .slice Aj l.length cj] tDA)).alloc (.cells #[.int .i64 3, .int .i64 n, .int .i64 m, .int .i64 dt, .slice Al nl cl, .slice At nt ct] tAOp)).alloc (.cells zD tDA))).heap.size = W.heap.size + 3 := by simp
  have hag3 := Lib.hid (hag.more (Q' := QP Q W (((W.alloc (.cells #[.int .i64 S.nid, .int .i64 S.nco, .int .i64 S.nme, .int .i64 S.nin, .int .i64 S.nbe, .int .i64 S.short, .int .i64 S.clock, .bool S.runs, .int .i64 S.inc, .slice As S.sent.length cs, .int .i64 S.replied, .slice Aj l.length cj] tDA)).alloc (.cells #[.int .i64 3, .int .i64 n, .int .i64 m, .int .i64 dt, .slice Al nl cl, .slice At nt ct] tAOp)).alloc (.cells zD tDA))) b3 fun k hk => hk.elim .inl fun h => .inr h.1)
  have BX := ((Blk.new W tDA #[.int .i64 S.nid, .int .i64 S.nco, .int .i64 S.nme, .int .i64 S.nin, .int .i64 S.nbe, .int .i64 S.short, .int .i64 S.clock, .bool S.runs, .int .i64 S.inc, .slice As S.sent.length cs, .int .i64 S.replied, .slice Aj l.length cj]).alloc (.cells #[.int .i64 3, .int .i64 n, .int .i64 m, .int .i64 dt, .slice Al nl cl, .slice At nt ct] tAOp)).alloc (.cells zD tDA)
  have BO := (Blk.new (W.alloc (.cells #[.int .i64 S.nid, .int .i64 S.nco, .int .i64 S.nme, .int .i64 S.nin, .int .i64 S.nbe, .int .i64 S.short, .int .i64 S.clock, .bool S.runs, .int .i64 S.inc, .slice As S.sent.length cs, .int .i64 S.replied, .slice Aj l.length cj] tDA)) tAOp #[.int .i64 3, .int .i64 n, .int .i64 m, .int .i64 dt, .slice Al nl cl, .slice At nt ct]).alloc (.cells zD tDA)
  have BZ := Blk.new ((W.alloc (.cells #[.int .i64 S.nid, .int .i64 S.nco, .int .i64 S.nme, .int .i64 S.nin, .int .i64 S.nbe, .int .i64 S.short, .int .i64 S.clock, .bool S.runs, .int .i64 S.inc, .slice As S.sent.length cs, .int .i64 S.replied, .slice Aj l.length cj] tDA)).alloc (.cells #[.int .i64 3, .int .i64 n, .int .i64 m, .int .i64 dt, .slice Al nl cl, .slice At nt ct] tAOp)) tDA zD
  simp only [World.size_alloc] at BO BZ
  have o0 := BO.cell 0
  have o1 := BO.cell 1
  have o2 := BO.cell 2
  have o3 := BO.cell 3
  have o4 := BO.cell 4
  have o5 := BO.cell 5
  simp only [List.getElem?_toArray, List.getElem?_cons_zero, List.getElem?_cons_succ] at o0 o1 o2 o3 o4 o5
  have BX' := Lib.hid BX
  have BO' := Lib.hid BO
  have BZ' := Lib.hid BZ
  have hs3' := Lib.hid hs3
  clear hag hd hq b3 BX BO BZ hs3
  go_enter Try.func41, Try.ntmps41
  go_upto_region 15 with (first | (((with_reducible refine gate_callee (f := 31) rfl ?_); refine goesL_ (some 62) rfl rfl Try.func31 (by kernel_rfl) rfl #[ptr a] rfl (by (try simp only [List.map_toArray, List.map_cons, List.map_nil]); first | done | rfl) ?_; (with_reducible refine (beatC e1'.out hsl (fun k hk => hk.elim (fun h => by have := hq'.out k h; have := b3'.out.size; omega) (fun h => h.2)) hag3.out).mono ?_); rintro e w4 ⟨rfl, g4, k4⟩; refine ⟨_, rfl, ?_⟩; have BX4 := k4.blk (.inr ⟨Nat.le_refl _, by rw [hs3'.out]; omega⟩) BX'.out; have BO4 := k4.blk (.inr ⟨Nat.le_succ _, by rw [hs3'.out]; omega⟩) BO'.out; have BZ4 := Lib.hid (k4.blk (.inr ⟨by omega, by rw [hs3'.out]; omega⟩) BZ'.out); clear o0 o1 o2 o3 o4 o5; have o0 := BO4.cell 0; have o1 := BO4.cell 1; have o2 := BO4.cell 2; have o3 := BO4.cell 3; have o4 := BO4.cell 4; have o5 := BO4.cell 5; simp only [List.getElem?_toArray, List.getElem?_cons_zero, List.getElem?_cons_succ] at o0 o1 o2 o3 o4 o5; have d0 := BX4.cell 0; have d1 := BX4.cell 1; have d2 := BX4.cell 2; have d3 := BX4.cell 3; have d4 := BX4.cell 4; have d5 := BX4.cell 5; have d6 := BX4.cell 6; have d7 := BX4.cell 7; have d8 := BX4.cell 8; have d9 := BX4.cell 9; have d10 := BX4.cell 10; have d11 := BX4.cell 11; simp only [List.getElem?_toArray, List.getElem?_cons_zero, List.getElem?_cons_succ] at d0 d1 d2 d3 d4 d5 d6 d7 d8 d9 d10 d11; have BX4' := Lib.hid BX4; have hd4 := Lib.hid ((hd'.out.below b3'.out).keep (W' := w4) fun k hl hQ => k4.block k hl (fun hn => hn (.inl hQ))); have g4' := Lib.hid g4; have k4' := Lib.hid k4; have hz4 := Lib.hid (show W.heap.size + 3 ≤ w4.heap.size from hs3'.out ▸ k4.size); clear g4 k4 BX4 BO4)) | (((with_reducible refine gate_callee (f := 66) rfl ?_); refine goesL_ (some 67) rfl rfl Try.func66 (by kernel_rfl) rfl #[.agg #[.int .i64 S.nid, .int .i64 S.nco, .int .i64 S.nme, .int .i64 S.nin, .int .i64 S.nbe, .int .i64 S.short, .int .i64 S.clock, .bool S.runs, .int .i64 S.inc, .slice As S.sent.length cs, .int .i64 S.replied, .slice Aj l.length cj]] rfl (by (try simp only [List.map_toArray, List.map_cons, List.map_nil]); first | done | rfl) ?_; (with_reducible refine (beatDC _ e1'.out hd4.out hsl).mono ?_); rintro e w5 ⟨As', cs', Aj', cj', l', rfl, h5, b5⟩; refine ⟨_, rfl, ?_⟩; clear d0 d1 d2 d3 d4 d5 d6 d7 d8 d9 d10 d11 o0 o1 o2 o3 o4 o5; have BX5 := BX4'.out.below b5 BX4'.out.lt; have d0 := BX5.cell 0; have d1 := BX5.cell 1; have d2 := BX5.cell 2; have d3 := BX5.cell 3; have d4 := BX5.cell 4; have d5 := BX5.cell 5; have d6 := BX5.cell 6; have d7 := BX5.cell 7; have d8 := BX5.cell 8; have d9 := BX5.cell 9; have d10 := BX5.cell 10; have d11 := BX5.cell 11; simp only [List.getElem?_toArray, List.getElem?_cons_zero, List.getElem?_cons_succ] at d0 d1 d2 d3 d4 d5 d6 d7 d8 d9 d10 d11; have f0 := BX5.frozen 0; have f1 := BX5.frozen 1; have f2 := BX5.frozen 2; have f3 := BX5.frozen 3; have f4 := BX5.frozen 4; have f5 := BX5.frozen 5; have f6 := BX5.frozen 6; have f7 := BX5.frozen 7; have f8 := BX5.frozen 8; have f9 := BX5.frozen 9; have f10 := BX5.frozen 10; have f11 := BX5.frozen 11; have BX5' := Lib.hid BX5; have BZ5 := Lib.hid (BZ4.out.below b5 BZ4.out.lt); have h5' := Lib.hid h5; have b5' := Lib.hid b5; clear BX5 h5 b5)))
  clear d0 d1 d2 d3 d4 d5 d6 d7 d8 d9 d10 d11 f0 f1 f2 f3 f4 f5 f6 f7 f8 f9 f10 f11
  have BN := Blk.new w5 tDA #[.int .i64 S'.nid, .int .i64 S'.nco, .int .i64 S'.nme, .int .i64 S'.nin, .int .i64 S'.nbe, .int .i64 S'.short, .int .i64 S'.clock, .bool S'.runs, .int .i64 S'.inc, .slice As' S'.sent.length cs', .int .i64 S'.replied, .slice Aj' l'.length cj']
  have BZ6 := BZ5.out.alloc (.cells #[.int .i64 S'.nid, .int .i64 S'.nco, .int .i64 S'.nme, .int .i64 S'.nin, .int .i64 S'.nbe, .int .i64 S'.short, .int .i64 S'.clock, .bool S'.runs, .int .i64 S'.inc, .slice As' S'.sent.length cs', .int .i64 S'.replied, .slice Aj' l'.length cj'] tDA)
  have d0 := BN.cell 0
  have d1 := BN.cell 1
  have d2 := BN.cell 2
  have d3 := BN.cell 3
  have d4 := BN.cell 4
  have d5 := BN.cell 5
  have d6 := BN.cell 6
  have d7 := BN.cell 7
  have d8 := BN.cell 8
  have d9 := BN.cell 9
  have d10 := BN.cell 10
  have d11 := BN.cell 11
  simp only [List.getElem?_toArray, List.getElem?_cons_zero, List.getElem?_cons_succ] at d0 d1 d2 d3 d4 d5 d6 d7 d8 d9 d10 d11
  have x0 := BZ6.cell 0
  have x1 := BZ6.cell 1
  have x2 := BZ6.cell 2
  have x3 := BZ6.cell 3
  have x4 := BZ6.cell 4
  have x5 := BZ6.cell 5
  have x6 := BZ6.cell 6
  have x7 := BZ6.cell 7
  have x8 := BZ6.cell 8
  have x9 := BZ6.cell 9
  have x10 := BZ6.cell 10
  have x11 := BZ6.cell 11
  simp only [List.getElem?_toArray, List.getElem?_cons_zero, List.getElem?_cons_succ] at x0 x1 x2 x3 x4 x5 x6 x7 x8 x9 x10 x11
  have y0 := BZ6.frozen 0
  have y1 := BZ6.frozen 1
  have y2 := BZ6.frozen 2
  have y3 := BZ6.frozen 3
  have y4 := BZ6.frozen 4
  have y5 := BZ6.frozen 5
  have y6 := BZ6.frozen 6
  have y7 := BZ6.frozen 7
  have y8 := BZ6.frozen 8
  have y9 := BZ6.frozen 9
  have y10 := BZ6.frozen 10
  have y11 := BZ6.frozen 11
  have BZ6' := Lib.hid BZ6
  clear BN BZ6
  go_wp2
  have RR := blk12 BZ6'.out (by rfl) (.int .i64 S'.nid) (.int .i64 S'.nco) (.int .i64 S'.nme) (.int .i64 S'.nin) (.int .i64 S'.nbe) (.int .i64 S'.short) (.int .i64 S'.clock) (.bool S'.runs) (.int .i64 S'.inc) (.slice As' S'.sent.length cs') (.int .i64 S'.replied) (.slice Aj' l'.length cj')
  refine bodyPost_ret (results_ct rfl _ _ _ tDA #[.int .i64 S'.nid, .int .i64 S'.nco, .int .i64 S'.nme, .int .i64 S'.nin, .int .i64 S'.nbe, .int .i64 S'.short, .int .i64 S'.clock, .bool S'.runs, .int .i64 S'.inc, .slice As' S'.sent.length cs', .int .i64 S'.replied, .slice Aj' l'.length cj'] (0, 0) _ rfl RR Try.underlying91 rfl (by kernel_rfl)) rfl ?_
  have hz5 := BZ5.out.lt
  have hF0 := below12 ((Below.refl W.heap.size w5).alloc (by omega) (.cells #[.int .i64 S'.nid, .int .i64 S'.nco, .int .i64 S'.nme, .int .i64 S'.nin, .int .i64 S'.nbe, .int .i64 S'.short, .int .i64 S'.clock, .bool S'.runs, .int .i64 S'.inc, .slice As' S'.sent.length cs', .int .i64 S'.replied, .slice Aj' l'.length cj'] tDA)) (b := W.heap.size + 1 + 1) (by omega) (.int .i64 S'.nid) (.int .i64 S'.nco) (.int .i64 S'.nme) (.int .i64 S'.nin) (.int .i64 S'.nbe) (.int .i64 S'.short) (.int .i64 S'.clock) (.bool S'.runs) (.int .i64 S'.inc) (.slice As' S'.sent.length cs') (.int .i64 S'.replied) (.slice Aj' l'.length cj')
  have hF : ∀ k, ((((W.alloc (.cells #[.int .i64 S.nid, .int .i64 S.nco, .int .i64 S.nme, .int .i64 S.nin, .int .i64 S.nbe, .int .i64 S.short, .int .i64 S.clock, .bool S.runs, .int .i64 S.inc, .slice As S.sent.length cs, .int .i64 S.replied, .slice Aj l.length cj] tDA)).alloc (.cells #[.int .i64 3, .int .i64 n, .int .i64 m, .int .i64 dt, .slice Al nl cl, .slice At nt ct] tAOp)).alloc (.cells zD tDA))).heap.size ≤ k → k < w5.heap.size → (set12 (w5.alloc (.cells #[.int .i64 S'.nid, .int .i64 S'.nco, .int .i64 S'.nme, .int .i64 S'.nin, .int .i64 S'.nbe, .int .i64 S'.short, .int .i64 S'.clock, .bool S'.runs, .int .i64 S'.inc, .slice As' S'.sent.length cs', .int .i64 S'.replied, .slice Aj' l'.length cj'] tDA)) (W.heap.size + 1 + 1) (.int .i64 S'.nid) (.int .i64 S'.nco) (.int .i64 S'.nme) (.int .i64 S'.nin) (.int .i64 S'.nbe) (.int .i64 S'.short) (.int .i64 S'.clock) (.bool S'.runs) (.int .i64 S'.inc) (.slice As' S'.sent.length cs') (.int .i64 S'.replied) (.slice Aj' l'.length cj')).heap[k]? = w5.heap[k]? := fun k h1 h2 => (set12_heap _ _ _ _ _ _ _ _ _ _ _ _ _ _ (by rw [hs3'.out] at h1; omega)).trans (Below.heap_alloc _ _ k h2)
  have hE := play_end hq'.out b3'.out g4'.out k4'.out b5'.out h5'.out hF0 hF
  obtain ⟨Q', e1, e2, e3, e4, e5⟩ := hE
  exact ⟨As', cs', Aj', cj', l', Q', rfl, e1, e2, e3, e4, e5⟩
set_option maxRecDepth 100000 in
set_option maxHeartbeats 8000000 in
theorem play5 {Q : Nat → Prop} {a : Nat} {As Aj : Option Addr} {cs cj : Nat} {l : List (Jb × DJ)} {S S' : Ag} {R : List (Int × Int)} (n m dt : Int) (Al At : Option Addr) (nl cl nt ct : Nat) (W : World) (e1 : quantG S = (S', R)) (hag : AgQ a S Q W) (hd : DocM Q (.slice As S.sent.length cs) (.slice Aj l.length cj) l S W) (hq : ∀ k, Q k → k < W.heap.size) (hok : AgOk S) (hhad : ∀ j ∈ S.jobs, j.had < 9223372036854775807) :
    Calls Try.prog 41 #[ptr a, .agg #[.int .i64 S.nid, .int .i64 S.nco, .int .i64 S.nme, .int .i64 S.nin, .int .i64 S.nbe, .int .i64 S.short, .int .i64 S.clock, .bool S.runs, .int .i64 S.inc, .slice As S.sent.length cs, .int .i64 S.replied, .slice Aj l.length cj], .agg #[.int .i64 5, .int .i64 n, .int .i64 m, .int .i64 dt, .slice Al nl cl, .slice At nt ct]] W (PlayD Q a S' W) := by
  have e1' := Lib.hid e1
  have hRl := quant_len e1 hok
  have hok' := Lib.hid hok
  have hhad' := Lib.hid hhad
  clear e1 hok hhad
  have hag' := Lib.hid hag
  have hd' := Lib.hid hd
  have hq' := Lib.hid hq
  have b3 : Below W.heap.size W (((W.alloc (.cells #[.int .i64 S.nid, .int .i64 S.nco, .int .i64 S.nme, .int .i64 S.nin, .int .i64 S.nbe, .int .i64 S.short, .int .i64 S.clock, .bool S.runs, .int .i64 S.inc, .slice As S.sent.length cs, .int .i64 S.replied, .slice Aj l.length cj] tDA)).alloc (.cells #[.int .i64 5, .int .i64 n, .int .i64 m, .int .i64 dt, .slice Al nl cl, .slice At nt ct] tAOp)).alloc (.cells zD tDA)) := below3 _ _ _
  have b3' := Lib.hid b3
  have hs3 : ((((W.alloc (.cells #[.int .i64 S.nid, .int .i64 S.nco, .int .i64 S.nme, .int .i64 S.nin, .int .i64 S.nbe, .int .i64 S.short, .int .i64 S.clock, .bool S.runs, .int .i64 S.inc, .slice As S.sent.length cs, .int .i64 S.replied, .slice Aj l.length cj] tDA)).alloc (.cells #[.int .i64 5, .int .i64 n, .int .i64 m, .int .i64 dt, .slice Al nl cl, .slice At nt ct] tAOp)).alloc (.cells zD tDA))).heap.size = W.heap.size + 3 := by simp
  have hag3 := Lib.hid (hag.more (Q' := QP Q W (((W.alloc (.cells #[.int .i64 S.nid, .int .i64 S.nco, .int .i64 S.nme, .int .i64 S.nin, .int .i64 S.nbe, .int .i64 S.short, .int .i64 S.clock, .bool S.runs, .int .i64 S.inc, .slice As S.sent.length cs, .int .i64 S.replied, .slice Aj l.length cj] tDA)).alloc (.cells #[.int .i64 5, .int .i64 n, .int .i64 m, .int .i64 dt, .slice Al nl cl, .slice At nt ct] tAOp)).alloc (.cells zD tDA))) b3 fun k hk => hk.elim .inl fun h => .inr h.1)
  have BX := ((Blk.new W tDA #[.int .i64 S.nid, .int .i64 S.nco, .int .i64 S.nme, .int .i64 S.nin, .int .i64 S.nbe, .int .i64 S.short, .int .i64 S.clock, .bool S.runs, .int .i64 S.inc, .slice As S.sent.length cs, .int .i64 S.replied, .slice Aj l.length cj]).alloc (.cells #[.int .i64 5, .int .i64 n, .int .i64 m, .int .i64 dt, .slice Al nl cl, .slice At nt ct] tAOp)).alloc (.cells zD tDA)
  have BO := (Blk.new (W.alloc (.cells #[.int .i64 S.nid, .int .i64 S.nco, .int .i64 S.nme, .int .i64 S.nin, .int .i64 S.nbe, .int .i64 S.short, .int .i64 S.clock, .bool S.runs, .int .i64 S.inc, .slice As S.sent.length cs, .int .i64 S.replied, .slice Aj l.length cj] tDA)) tAOp #[.int .i64 5, .int .i64 n, .int .i64 m, .int .i64 dt, .slice Al nl cl, .slice At nt ct]).alloc (.cells zD tDA)
  have BZ := Blk.new ((W.alloc (.cells #[.int .i64 S.nid, .int .i64 S.nco, .int .i64 S.nme, .int .i64 S.nin, .int .i64 S.nbe, .int .i64 S.short, .int .i64 S.clock, .bool S.runs, .int .i64 S.inc, .slice As S.sent.length cs, .int .i64 S.replied, .slice Aj l.length cj] tDA)).alloc (.cells #[.int .i64 5, .int .i64 n, .int .i64 m, .int .i64 dt, .slice Al nl cl, .slice At nt ct] tAOp)) tDA zD
  simp only [World.size_alloc] at BO BZ
  have o0 := BO.cell 0
  have o1 := BO.cell 1
  have o2 := BO.cell 2
  have o3 := BO.cell 3
  have o4 := BO.cell 4
  have o5 := BO.cell 5
  simp only [List.getElem?_toArray, List.getElem?_cons_zero, List.getElem?_cons_succ] at o0 o1 o2 o3 o4 o5
  have BX' := Lib.hid BX
  have BO' := Lib.hid BO
  have BZ' := Lib.hid BZ
  have hs3' := Lib.hid hs3
  clear hag hd hq b3 BX BO BZ hs3
  go_enter Try.func41, Try.ntmps41
  go_upto_region 32 with (first | (((with_reducible refine gate_callee (f := 38) rfl ?_); refine goesL_ (some 133) rfl rfl Try.func38 (by kernel_rfl) rfl #[ptr a] rfl (by (try simp only [List.map_toArray, List.map_cons, List.map_nil]); first | done | rfl) ?_; (with_reducible refine (quantCS e1'.out hok'.out hhad'.out hag3.out).mono ?_); rintro e w4 ⟨Ar, cr, rfl, rr, g4, k4⟩; refine ⟨_, rfl, ?_⟩; have rl0 := rr; have BX4 := k4.blk (.inr ⟨Nat.le_refl _, by rw [hs3'.out]; omega⟩) BX'.out; have BO4 := k4.blk (.inr ⟨Nat.le_succ _, by rw [hs3'.out]; omega⟩) BO'.out; have BZ4 := Lib.hid (k4.blk (.inr ⟨by omega, by rw [hs3'.out]; omega⟩) BZ'.out); clear o0 o1 o2 o3 o4 o5; have o0 := BO4.cell 0; have o1 := BO4.cell 1; have o2 := BO4.cell 2; have o3 := BO4.cell 3; have o4 := BO4.cell 4; have o5 := BO4.cell 5; simp only [List.getElem?_toArray, List.getElem?_cons_zero, List.getElem?_cons_succ] at o0 o1 o2 o3 o4 o5; have d0 := BX4.cell 0; have d1 := BX4.cell 1; have d2 := BX4.cell 2; have d3 := BX4.cell 3; have d4 := BX4.cell 4; have d5 := BX4.cell 5; have d6 := BX4.cell 6; have d7 := BX4.cell 7; have d8 := BX4.cell 8; have d9 := BX4.cell 9; have d10 := BX4.cell 10; have d11 := BX4.cell 11; simp only [List.getElem?_toArray, List.getElem?_cons_zero, List.getElem?_cons_succ] at d0 d1 d2 d3 d4 d5 d6 d7 d8 d9 d10 d11; have BX4' := Lib.hid BX4; have hd4 := Lib.hid ((hd'.out.below b3'.out).keep (W' := w4) fun k hl hQ => k4.block k hl (fun hn => hn (.inl hQ))); have g4' := Lib.hid g4; have k4' := Lib.hid k4; have hz4 := Lib.hid (show W.heap.size + 3 ≤ w4.heap.size from hs3'.out ▸ k4.size); have rl := Lib.hid rl0; clear rr rl0 g4 k4 BX4 BO4)) | (((with_reducible refine gate_callee (f := 69) rfl ?_); refine goesL_ (some 136) rfl rfl Try.func69 (by kernel_rfl) rfl #[.agg #[.int .i64 S.nid, .int .i64 S.nco, .int .i64 S.nme, .int .i64 S.nin, .int .i64 S.nbe, .int .i64 S.short, .int .i64 S.clock, .bool S.runs, .int .i64 S.inc, .slice As S.sent.length cs, .int .i64 S.replied, .slice Aj l.length cj]] rfl (by (try simp only [List.map_toArray, List.map_cons, List.map_nil]); first | done | rfl) ?_; (with_reducible refine (quantDC _ e1'.out hd4.out hok'.out hhad'.out).mono ?_); rintro e w5 ⟨As', cs', Aj', cj', l', Ad, cd, rfl, h5, rd0, b5⟩; refine ⟨_, rfl, ?_⟩; have rd := Lib.hid rd0; clear rd0; clear d0 d1 d2 d3 d4 d5 d6 d7 d8 d9 d10 d11 o0 o1 o2 o3 o4 o5; have BX5 := BX4'.out.below b5 BX4'.out.lt; have d0 := BX5.cell 0; have d1 := BX5.cell 1; have d2 := BX5.cell 2; have d3 := BX5.cell 3; have d4 := BX5.cell 4; have d5 := BX5.cell 5; have d6 := BX5.cell 6; have d7 := BX5.cell 7; have d8 := BX5.cell 8; have d9 := BX5.cell 9; have d10 := BX5.cell 10; have d11 := BX5.cell 11; simp only [List.getElem?_toArray, List.getElem?_cons_zero, List.getElem?_cons_succ] at d0 d1 d2 d3 d4 d5 d6 d7 d8 d9 d10 d11; have f0 := BX5.frozen 0; have f1 := BX5.frozen 1; have f2 := BX5.frozen 2; have f3 := BX5.frozen 3; have f4 := BX5.frozen 4; have f5 := BX5.frozen 5; have f6 := BX5.frozen 6; have f7 := BX5.frozen 7; have f8 := BX5.frozen 8; have f9 := BX5.frozen 9; have f10 := BX5.frozen 10; have f11 := BX5.frozen 11; have BX5' := Lib.hid BX5; have BZ5 := Lib.hid (BZ4.out.below b5 BZ4.out.lt); have h5' := Lib.hid h5; have b5' := Lib.hid b5; clear BX5 h5 b5)))
  clear d0 d1 d2 d3 d4 d5 d6 d7 d8 d9 d10 d11 f0 f1 f2 f3 f4 f5 f6 f7 f8 f9 f10 f11
  have BN' := Lib.hid (Blk.new w5 tDA #[.int .i64 S'.nid, .int .i64 S'.nco, .int .i64 S'.nme, .int .i64 S'.nin, .int .i64 S'.nbe, .int .i64 S'.short, .int .i64 S'.clock, .bool S'.runs, .int .i64 S'.inc, .slice As' S'.sent.length cs', .int .i64 S'.replied, .slice Aj' l'.length cj'])
  have BZ6 := Lib.hid (BZ5.out.alloc (.cells #[.int .i64 S'.nid, .int .i64 S'.nco, .int .i64 S'.nme, .int .i64 S'.nin, .int .i64 S'.nbe, .int .i64 S'.short, .int .i64 S'.clock, .bool S'.runs, .int .i64 S'.inc, .slice As' S'.sent.length cs', .int .i64 S'.replied, .slice Aj' l'.length cj'] tDA))
  have hz5 := BZ5.out.lt
  have rl' := Lib.hid ((rl.out.below b5'.out).below ((Below.refl _ _).alloc (Nat.le_refl _) (.cells #[.int .i64 S'.nid, .int .i64 S'.nco, .int .i64 S'.nme, .int .i64 S'.nin, .int .i64 S'.nbe, .int .i64 S'.short, .int .i64 S'.clock, .bool S'.runs, .int .i64 S'.inc, .slice As' S'.sent.length cs', .int .i64 S'.replied, .slice Aj' l'.length cj'] tDA)))
  have rd' := Lib.hid (rd.out.below ((Below.refl _ _).alloc (Nat.le_refl _) (.cells #[.int .i64 S'.nid, .int .i64 S'.nco, .int .i64 S'.nme, .int .i64 S'.nin, .int .i64 S'.nbe, .int .i64 S'.short, .int .i64 S'.clock, .bool S'.runs, .int .i64 S'.inc, .slice As' S'.sent.length cs', .int .i64 S'.replied, .slice Aj' l'.length cj'] tDA)))
  have hS0 := Lib.hid (show (((w5.alloc (.cells #[.int .i64 S'.nid, .int .i64 S'.nco, .int .i64 S'.nme, .int .i64 S'.nin, .int .i64 S'.nbe, .int .i64 S'.short, .int .i64 S'.clock, .bool S'.runs, .int .i64 S'.inc, .slice As' S'.sent.length cs', .int .i64 S'.replied, .slice Aj' l'.length cj'] tDA)).drew).cell? ⟨w5.heap.size, 0, none⟩ = some (.int .i64 S'.nid) ∧ ((w5.alloc (.cells #[.int .i64 S'.nid, .int .i64 S'.nco, .int .i64 S'.nme, .int .i64 S'.nin, .int .i64 S'.nbe, .int .i64 S'.short, .int .i64 S'.clock, .bool S'.runs, .int .i64 S'.inc, .slice As' S'.sent.length cs', .int .i64 S'.replied, .slice Aj' l'.length cj'] tDA)).drew).cell? ⟨w5.heap.size, 1, none⟩ = some (.int .i64 S'.nco) ∧ ((w5.alloc (.cells #[.int .i64 S'.nid, .int .i64 S'.nco, .int .i64 S'.nme, .int .i64 S'.nin, .int .i64 S'.nbe, .int .i64 S'.short, .int .i64 S'.clock, .bool S'.runs, .int .i64 S'.inc, .slice As' S'.sent.length cs', .int .i64 S'.replied, .slice Aj' l'.length cj'] tDA)).drew).cell? ⟨w5.heap.size, 2, none⟩ = some (.int .i64 S'.nme) ∧ ((w5.alloc (.cells #[.int .i64 S'.nid, .int .i64 S'.nco, .int .i64 S'.nme, .int .i64 S'.nin, .int .i64 S'.nbe, .int .i64 S'.short, .int .i64 S'.clock, .bool S'.runs, .int .i64 S'.inc, .slice As' S'.sent.length cs', .int .i64 S'.replied, .slice Aj' l'.length cj'] tDA)).drew).cell? ⟨w5.heap.size, 3, none⟩ = some (.int .i64 S'.nin) ∧ ((w5.alloc (.cells #[.int .i64 S'.nid, .int .i64 S'.nco, .int .i64 S'.nme, .int .i64 S'.nin, .int .i64 S'.nbe, .int .i64 S'.short, .int .i64 S'.clock, .bool S'.runs, .int .i64 S'.inc, .slice As' S'.sent.length cs', .int .i64 S'.replied, .slice Aj' l'.length cj'] tDA)).drew).cell? ⟨w5.heap.size, 4, none⟩ = some (.int .i64 S'.nbe) ∧ ((w5.alloc (.cells #[.int .i64 S'.nid, .int .i64 S'.nco, .int .i64 S'.nme, .int .i64 S'.nin, .int .i64 S'.nbe, .int .i64 S'.short, .int .i64 S'.clock, .bool S'.runs, .int .i64 S'.inc, .slice As' S'.sent.length cs', .int .i64 S'.replied, .slice Aj' l'.length cj'] tDA)).drew).cell? ⟨w5.heap.size, 5, none⟩ = some (.int .i64 S'.short) ∧ ((w5.alloc (.cells #[.int .i64 S'.nid, .int .i64 S'.nco, .int .i64 S'.nme, .int .i64 S'.nin, .int .i64 S'.nbe, .int .i64 S'.short, .int .i64 S'.clock, .bool S'.runs, .int .i64 S'.inc, .slice As' S'.sent.length cs', .int .i64 S'.replied, .slice Aj' l'.length cj'] tDA)).drew).cell? ⟨w5.heap.size, 6, none⟩ = some (.int .i64 S'.clock) ∧ ((w5.alloc (.cells #[.int .i64 S'.nid, .int .i64 S'.nco, .int .i64 S'.nme, .int .i64 S'.nin, .int .i64 S'.nbe, .int .i64 S'.short, .int .i64 S'.clock, .bool S'.runs, .int .i64 S'.inc, .slice As' S'.sent.length cs', .int .i64 S'.replied, .slice Aj' l'.length cj'] tDA)).drew).cell? ⟨w5.heap.size, 7, none⟩ = some (.bool S'.runs) ∧ ((w5.alloc (.cells #[.int .i64 S'.nid, .int .i64 S'.nco, .int .i64 S'.nme, .int .i64 S'.nin, .int .i64 S'.nbe, .int .i64 S'.short, .int .i64 S'.clock, .bool S'.runs, .int .i64 S'.inc, .slice As' S'.sent.length cs', .int .i64 S'.replied, .slice Aj' l'.length cj'] tDA)).drew).cell? ⟨w5.heap.size, 8, none⟩ = some (.int .i64 S'.inc) ∧ ((w5.alloc (.cells #[.int .i64 S'.nid, .int .i64 S'.nco, .int .i64 S'.nme, .int .i64 S'.nin, .int .i64 S'.nbe, .int .i64 S'.short, .int .i64 S'.clock, .bool S'.runs, .int .i64 S'.inc, .slice As' S'.sent.length cs', .int .i64 S'.replied, .slice Aj' l'.length cj'] tDA)).drew).cell? ⟨w5.heap.size, 9, none⟩ = some (.slice As' S'.sent.length cs') ∧ ((w5.alloc (.cells #[.int .i64 S'.nid, .int .i64 S'.nco, .int .i64 S'.nme, .int .i64 S'.nin, .int .i64 S'.nbe, .int .i64 S'.short, .int .i64 S'.clock, .bool S'.runs, .int .i64 S'.inc, .slice As' S'.sent.length cs', .int .i64 S'.replied, .slice Aj' l'.length cj'] tDA)).drew).cell? ⟨w5.heap.size, 10, none⟩ = some (.int .i64 S'.replied) ∧ ((w5.alloc (.cells #[.int .i64 S'.nid, .int .i64 S'.nco, .int .i64 S'.nme, .int .i64 S'.nin, .int .i64 S'.nbe, .int .i64 S'.short, .int .i64 S'.clock, .bool S'.runs, .int .i64 S'.inc, .slice As' S'.sent.length cs', .int .i64 S'.replied, .slice Aj' l'.length cj'] tDA)).drew).cell? ⟨w5.heap.size, 11, none⟩ = some (.slice Aj' l'.length cj')) from blkC12 BN'.out)
  go_region_held3 (fun w' => ((w').cell? ⟨w5.heap.size, 0, none⟩ = some (.int .i64 S'.nid) ∧ (w').cell? ⟨w5.heap.size, 1, none⟩ = some (.int .i64 S'.nco) ∧ (w').cell? ⟨w5.heap.size, 2, none⟩ = some (.int .i64 S'.nme) ∧ (w').cell? ⟨w5.heap.size, 3, none⟩ = some (.int .i64 S'.nin) ∧ (w').cell? ⟨w5.heap.size, 4, none⟩ = some (.int .i64 S'.nbe) ∧ (w').cell? ⟨w5.heap.size, 5, none⟩ = some (.int .i64 S'.short) ∧ (w').cell? ⟨w5.heap.size, 6, none⟩ = some (.int .i64 S'.clock) ∧ (w').cell? ⟨w5.heap.size, 7, none⟩ = some (.bool S'.runs) ∧ (w').cell? ⟨w5.heap.size, 8, none⟩ = some (.int .i64 S'.inc) ∧ (w').cell? ⟨w5.heap.size, 9, none⟩ = some (.slice As' S'.sent.length cs') ∧ (w').cell? ⟨w5.heap.size, 10, none⟩ = some (.int .i64 S'.replied) ∧ (w').cell? ⟨w5.heap.size, 11, none⟩ = some (.slice Aj' l'.length cj'))) (first | with_reducible exact hS0.out | with_reducible exact hS9.out | with_reducible exact hS10.out) (first | (go_at_call 70; go_loud (refine (rans_same R Ar Ad cr cd _ (rl'.out.below (Below.refl _ _).drew) (rd'.out.below (Below.refl _ _).drew) hRl).mono ?_; rintro e w9 ⟨rfl, b9⟩; have BN9 := BN'.out.drew.below b9 BN'.out.drew.lt; have BZ9 := Lib.hid (BZ6.out.drew.below b9 BZ6.out.drew.lt); have hS9 := Lib.hid (show ((w9).cell? ⟨w5.heap.size, 0, none⟩ = some (.int .i64 S'.nid) ∧ (w9).cell? ⟨w5.heap.size, 1, none⟩ = some (.int .i64 S'.nco) ∧ (w9).cell? ⟨w5.heap.size, 2, none⟩ = some (.int .i64 S'.nme) ∧ (w9).cell? ⟨w5.heap.size, 3, none⟩ = some (.int .i64 S'.nin) ∧ (w9).cell? ⟨w5.heap.size, 4, none⟩ = some (.int .i64 S'.nbe) ∧ (w9).cell? ⟨w5.heap.size, 5, none⟩ = some (.int .i64 S'.short) ∧ (w9).cell? ⟨w5.heap.size, 6, none⟩ = some (.int .i64 S'.clock) ∧ (w9).cell? ⟨w5.heap.size, 7, none⟩ = some (.bool S'.runs) ∧ (w9).cell? ⟨w5.heap.size, 8, none⟩ = some (.int .i64 S'.inc) ∧ (w9).cell? ⟨w5.heap.size, 9, none⟩ = some (.slice As' S'.sent.length cs') ∧ (w9).cell? ⟨w5.heap.size, 10, none⟩ = some (.int .i64 S'.replied) ∧ (w9).cell? ⟨w5.heap.size, 11, none⟩ = some (.slice Aj' l'.length cj')) from blkC12 BN9); have BNs : Blk (set12 w9 (W.heap.size + 1 + 1) (.int .i64 S'.nid) (.int .i64 S'.nco) (.int .i64 S'.nme) (.int .i64 S'.nin) (.int .i64 S'.nbe) (.int .i64 S'.short) (.int .i64 S'.clock) (.bool S'.runs) (.int .i64 S'.inc) (.slice As' S'.sent.length cs') (.int .i64 S'.replied) (.slice Aj' l'.length cj')) w5.heap.size tDA #[.int .i64 S'.nid, .int .i64 S'.nco, .int .i64 S'.nme, .int .i64 S'.nin, .int .i64 S'.nbe, .int .i64 S'.short, .int .i64 S'.clock, .bool S'.runs, .int .i64 S'.inc, .slice As' S'.sent.length cs', .int .i64 S'.replied, .slice Aj' l'.length cj'] := (set12_heap w9 (W.heap.size + 1 + 1) _ _ _ _ _ _ _ _ _ _ _ _ (by omega)).trans BN9; have hS10 := Lib.hid (show (((set12 w9 (W.heap.size + 1 + 1) (.int .i64 S'.nid) (.int .i64 S'.nco) (.int .i64 S'.nme) (.int .i64 S'.nin) (.int .i64 S'.nbe) (.int .i64 S'.short) (.int .i64 S'.clock) (.bool S'.runs) (.int .i64 S'.inc) (.slice As' S'.sent.length cs') (.int .i64 S'.replied) (.slice Aj' l'.length cj'))).cell? ⟨w5.heap.size, 0, none⟩ = some (.int .i64 S'.nid) ∧ ((set12 w9 (W.heap.size + 1 + 1) (.int .i64 S'.nid) (.int .i64 S'.nco) (.int .i64 S'.nme) (.int .i64 S'.nin) (.int .i64 S'.nbe) (.int .i64 S'.short) (.int .i64 S'.clock) (.bool S'.runs) (.int .i64 S'.inc) (.slice As' S'.sent.length cs') (.int .i64 S'.replied) (.slice Aj' l'.length cj'))).cell? ⟨w5.heap.size, 1, none⟩ = some (.int .i64 S'.nco) ∧ ((set12 w9 (W.heap.size + 1 + 1) (.int .i64 S'.nid) (.int .i64 S'.nco) (.int .i64 S'.nme) (.int .i64 S'.nin) (.int .i64 S'.nbe) (.int .i64 S'.short) (.int .i64 S'.clock) (.bool S'.runs) (.int .i64 S'.inc) (.slice As' S'.sent.length cs') (.int .i64 S'.replied) (.slice Aj' l'.length cj'))).cell? ⟨w5.heap.size, 2, none⟩ = some (.int .i64 S'.nme) ∧ ((set12 w9 (W.heap.size + 1 + 1) (.int .i64 S'.nid) (.int .i64 S'.nco) (.int .i64 S'.nme) (.int .i64 S'.nin) (.int .i64 S'.nbe) (.int .i64 S'.short) (.int .i64 S'.clock) (.bool S'.runs) (.int .i64 S'.inc) (.slice As' S'.sent.length cs') (.int .i64 S'.replied) (.slice Aj' l'.length cj'))).cell? ⟨w5.heap.size, 3, none⟩ = some (.int .i64 S'.nin) ∧ ((set12 w9 (W.heap.size + 1 + 1) (.int .i64 S'.nid) (.int .i64 S'.nco) (.int .i64 S'.nme) (.int .i64 S'.nin) (.int .i64 S'.nbe) (.int .i64 S'.short) (.int .i64 S'.clock) (.bool S'.runs) (.int .i64 S'.inc) (.slice As' S'.sent.length cs') (.int .i64 S'.replied) (.slice Aj' l'.length cj'))).cell? ⟨w5.heap.size, 4, none⟩ = some (.int .i64 S'.nbe) ∧ ((set12 w9 (W.heap.size + 1 + 1) (.int .i64 S'.nid) (.int .i64 S'.nco) (.int .i64 S'.nme) (.int .i64 S'.nin) (.int .i64 S'.nbe) (.int .i64 S'.short) (.int .i64 S'.clock) (.bool S'.runs) (.int .i64 S'.inc) (.slice As' S'.sent.length cs') (.int .i64 S'.replied) (.slice Aj' l'.length cj'))).cell? ⟨w5.heap.size, 5, none⟩ = some (.int .i64 S'.short) ∧ ((set12 w9 (W.heap.size + 1 + 1) (.int .i64 S'.nid) (.int .i64 S'.nco) (.int .i64 S'.nme) (.int .i64 S'.nin) (.int .i64 S'.nbe) (.int .i64 S'.short) (.int .i64 S'.clock) (.bool S'.runs) (.int .i64 S'.inc) (.slice As' S'.sent.length cs') (.int .i64 S'.replied) (.slice Aj' l'.length cj'))).cell? ⟨w5.heap.size, 6, none⟩ = some (.int .i64 S'.clock) ∧ ((set12 w9 (W.heap.size + 1 + 1) (.int .i64 S'.nid) (.int .i64 S'.nco) (.int .i64 S'.nme) (.int .i64 S'.nin) (.int .i64 S'.nbe) (.int .i64 S'.short) (.int .i64 S'.clock) (.bool S'.runs) (.int .i64 S'.inc) (.slice As' S'.sent.length cs') (.int .i64 S'.replied) (.slice Aj' l'.length cj'))).cell? ⟨w5.heap.size, 7, none⟩ = some (.bool S'.runs) ∧ ((set12 w9 (W.heap.size + 1 + 1) (.int .i64 S'.nid) (.int .i64 S'.nco) (.int .i64 S'.nme) (.int .i64 S'.nin) (.int .i64 S'.nbe) (.int .i64 S'.short) (.int .i64 S'.clock) (.bool S'.runs) (.int .i64 S'.inc) (.slice As' S'.sent.length cs') (.int .i64 S'.replied) (.slice Aj' l'.length cj'))).cell? ⟨w5.heap.size, 8, none⟩ = some (.int .i64 S'.inc) ∧ ((set12 w9 (W.heap.size + 1 + 1) (.int .i64 S'.nid) (.int .i64 S'.nco) (.int .i64 S'.nme) (.int .i64 S'.nin) (.int .i64 S'.nbe) (.int .i64 S'.short) (.int .i64 S'.clock) (.bool S'.runs) (.int .i64 S'.inc) (.slice As' S'.sent.length cs') (.int .i64 S'.replied) (.slice Aj' l'.length cj'))).cell? ⟨w5.heap.size, 9, none⟩ = some (.slice As' S'.sent.length cs') ∧ ((set12 w9 (W.heap.size + 1 + 1) (.int .i64 S'.nid) (.int .i64 S'.nco) (.int .i64 S'.nme) (.int .i64 S'.nin) (.int .i64 S'.nbe) (.int .i64 S'.short) (.int .i64 S'.clock) (.bool S'.runs) (.int .i64 S'.inc) (.slice As' S'.sent.length cs') (.int .i64 S'.replied) (.slice Aj' l'.length cj'))).cell? ⟨w5.heap.size, 10, none⟩ = some (.int .i64 S'.replied) ∧ ((set12 w9 (W.heap.size + 1 + 1) (.int .i64 S'.nid) (.int .i64 S'.nco) (.int .i64 S'.nme) (.int .i64 S'.nin) (.int .i64 S'.nbe) (.int .i64 S'.short) (.int .i64 S'.clock) (.bool S'.runs) (.int .i64 S'.inc) (.slice As' S'.sent.length cs') (.int .i64 S'.replied) (.slice Aj' l'.length cj'))).cell? ⟨w5.heap.size, 11, none⟩ = some (.slice Aj' l'.length cj')) from blkC12 BNs); have x0 := BZ9.out.cell 0; have x1 := BZ9.out.cell 1; have x2 := BZ9.out.cell 2; have x3 := BZ9.out.cell 3; have x4 := BZ9.out.cell 4; have x5 := BZ9.out.cell 5; have x6 := BZ9.out.cell 6; have x7 := BZ9.out.cell 7; have x8 := BZ9.out.cell 8; have x9 := BZ9.out.cell 9; have x10 := BZ9.out.cell 10; have x11 := BZ9.out.cell 11; simp only [List.getElem?_toArray, List.getElem?_cons_zero, List.getElem?_cons_succ] at x0 x1 x2 x3 x4 x5 x6 x7 x8 x9 x10 x11; have y0 := BZ9.out.frozen 0; have y1 := BZ9.out.frozen 1; have y2 := BZ9.out.frozen 2; have y3 := BZ9.out.frozen 3; have y4 := BZ9.out.frozen 4; have y5 := BZ9.out.frozen 5; have y6 := BZ9.out.frozen 6; have y7 := BZ9.out.frozen 7; have y8 := BZ9.out.frozen 8; have y9 := BZ9.out.frozen 9; have y10 := BZ9.out.frozen 10; have y11 := BZ9.out.frozen 11; have b9' := Lib.hid (show Below (w5.alloc (.cells #[.int .i64 S'.nid, .int .i64 S'.nco, .int .i64 S'.nme, .int .i64 S'.nin, .int .i64 S'.nbe, .int .i64 S'.short, .int .i64 S'.clock, .bool S'.runs, .int .i64 S'.inc, .slice As' S'.sent.length cs', .int .i64 S'.replied, .slice Aj' l'.length cj'] tDA)).heap.size (w5.alloc (.cells #[.int .i64 S'.nid, .int .i64 S'.nco, .int .i64 S'.nme, .int .i64 S'.nin, .int .i64 S'.nbe, .int .i64 S'.short, .int .i64 S'.clock, .bool S'.runs, .int .i64 S'.inc, .slice As' S'.sent.length cs', .int .i64 S'.replied, .slice Aj' l'.length cj'] tDA)) w9 from (Below.refl _ _).drew.trans b9); clear b9 BN9 BNs)))
  go_wp2
  have RR := blk12 BZ9.out (by rfl) (.int .i64 S'.nid) (.int .i64 S'.nco) (.int .i64 S'.nme) (.int .i64 S'.nin) (.int .i64 S'.nbe) (.int .i64 S'.short) (.int .i64 S'.clock) (.bool S'.runs) (.int .i64 S'.inc) (.slice As' S'.sent.length cs') (.int .i64 S'.replied) (.slice Aj' l'.length cj')
  refine bodyPost_ret (results_ct rfl _ _ _ tDA #[.int .i64 S'.nid, .int .i64 S'.nco, .int .i64 S'.nme, .int .i64 S'.nin, .int .i64 S'.nbe, .int .i64 S'.short, .int .i64 S'.clock, .bool S'.runs, .int .i64 S'.inc, .slice As' S'.sent.length cs', .int .i64 S'.replied, .slice Aj' l'.length cj'] (0, 0) _ rfl RR Try.underlying91 rfl (by kernel_rfl)) rfl ?_
  have b59 : Below w5.heap.size w5 w9 := ((Below.refl _ _).alloc (Nat.le_refl _) (.cells #[.int .i64 S'.nid, .int .i64 S'.nco, .int .i64 S'.nme, .int .i64 S'.nin, .int .i64 S'.nbe, .int .i64 S'.short, .int .i64 S'.clock, .bool S'.runs, .int .i64 S'.inc, .slice As' S'.sent.length cs', .int .i64 S'.replied, .slice Aj' l'.length cj'] tDA)).trans (below_le b9'.out (by simp))
  have hF0 := (below_le b59 (B := W.heap.size) (by omega)).trans (below12 (Below.refl W.heap.size w9) (b := W.heap.size + 1 + 1) (by omega) (.int .i64 S'.nid) (.int .i64 S'.nco) (.int .i64 S'.nme) (.int .i64 S'.nin) (.int .i64 S'.nbe) (.int .i64 S'.short) (.int .i64 S'.clock) (.bool S'.runs) (.int .i64 S'.inc) (.slice As' S'.sent.length cs') (.int .i64 S'.replied) (.slice Aj' l'.length cj'))
  have hF : ∀ k, ((((W.alloc (.cells #[.int .i64 S.nid, .int .i64 S.nco, .int .i64 S.nme, .int .i64 S.nin, .int .i64 S.nbe, .int .i64 S.short, .int .i64 S.clock, .bool S.runs, .int .i64 S.inc, .slice As S.sent.length cs, .int .i64 S.replied, .slice Aj l.length cj] tDA)).alloc (.cells #[.int .i64 5, .int .i64 n, .int .i64 m, .int .i64 dt, .slice Al nl cl, .slice At nt ct] tAOp)).alloc (.cells zD tDA))).heap.size ≤ k → k < w5.heap.size → (set12 w9 (W.heap.size + 1 + 1) (.int .i64 S'.nid) (.int .i64 S'.nco) (.int .i64 S'.nme) (.int .i64 S'.nin) (.int .i64 S'.nbe) (.int .i64 S'.short) (.int .i64 S'.clock) (.bool S'.runs) (.int .i64 S'.inc) (.slice As' S'.sent.length cs') (.int .i64 S'.replied) (.slice Aj' l'.length cj')).heap[k]? = w5.heap[k]? := fun k h1 h2 => (set12_heap _ _ _ _ _ _ _ _ _ _ _ _ _ _ (by rw [hs3'.out] at h1; omega)).trans (b59.block k h2)
  have hE := play_end hq'.out b3'.out g4'.out k4'.out b5'.out h5'.out hF0 hF
  obtain ⟨Q', e1, e2, e3, e4, e5⟩ := hE
  exact ⟨As', cs', Aj', cj', l', Q', rfl, e1, e2, e3, e4, e5⟩
set_option maxRecDepth 100000 in
set_option maxHeartbeats 8000000 in
theorem playN {Q : Nat → Prop} {a : Nat} {As Aj : Option Addr} {cs cj : Nat} {l : List (Jb × DJ)} {S : Ag} (kd n m dt : Int) (Al At : Option Addr) (nl cl nt ct : Nat) (W : World) (hag : AgQ a S Q W) (hd : DocM Q (.slice As S.sent.length cs) (.slice Aj l.length cj) l S W) (hq : ∀ k, Q k → k < W.heap.size) (x0k : (kd == 0) = false) (x1k : (kd == 1) = false) (x2k : (kd == 2) = false) (x3k : (kd == 3) = false) (x4k : (kd == 4) = false) (x5k : (kd == 5) = false) :
    Calls Try.prog 41 #[ptr a, .agg #[.int .i64 S.nid, .int .i64 S.nco, .int .i64 S.nme, .int .i64 S.nin, .int .i64 S.nbe, .int .i64 S.short, .int .i64 S.clock, .bool S.runs, .int .i64 S.inc, .slice As S.sent.length cs, .int .i64 S.replied, .slice Aj l.length cj], .agg #[.int .i64 kd, .int .i64 n, .int .i64 m, .int .i64 dt, .slice Al nl cl, .slice At nt ct]] W (PlayD Q a S W) := by
  have hag' := Lib.hid hag
  have hd' := Lib.hid hd
  have hq' := Lib.hid hq
  have b3 : Below W.heap.size W (((W.alloc (.cells #[.int .i64 S.nid, .int .i64 S.nco, .int .i64 S.nme, .int .i64 S.nin, .int .i64 S.nbe, .int .i64 S.short, .int .i64 S.clock, .bool S.runs, .int .i64 S.inc, .slice As S.sent.length cs, .int .i64 S.replied, .slice Aj l.length cj] tDA)).alloc (.cells #[.int .i64 kd, .int .i64 n, .int .i64 m, .int .i64 dt, .slice Al nl cl, .slice At nt ct] tAOp)).alloc (.cells zD tDA)) := below3 _ _ _
  have b3' := Lib.hid b3
  have hs3 : ((((W.alloc (.cells #[.int .i64 S.nid, .int .i64 S.nco, .int .i64 S.nme, .int .i64 S.nin, .int .i64 S.nbe, .int .i64 S.short, .int .i64 S.clock, .bool S.runs, .int .i64 S.inc, .slice As S.sent.length cs, .int .i64 S.replied, .slice Aj l.length cj] tDA)).alloc (.cells #[.int .i64 kd, .int .i64 n, .int .i64 m, .int .i64 dt, .slice Al nl cl, .slice At nt ct] tAOp)).alloc (.cells zD tDA))).heap.size = W.heap.size + 3 := by simp
  have hag3 := Lib.hid (hag.more (Q' := QP Q W (((W.alloc (.cells #[.int .i64 S.nid, .int .i64 S.nco, .int .i64 S.nme, .int .i64 S.nin, .int .i64 S.nbe, .int .i64 S.short, .int .i64 S.clock, .bool S.runs, .int .i64 S.inc, .slice As S.sent.length cs, .int .i64 S.replied, .slice Aj l.length cj] tDA)).alloc (.cells #[.int .i64 kd, .int .i64 n, .int .i64 m, .int .i64 dt, .slice Al nl cl, .slice At nt ct] tAOp)).alloc (.cells zD tDA))) b3 fun k hk => hk.elim .inl fun h => .inr h.1)
  have BX := ((Blk.new W tDA #[.int .i64 S.nid, .int .i64 S.nco, .int .i64 S.nme, .int .i64 S.nin, .int .i64 S.nbe, .int .i64 S.short, .int .i64 S.clock, .bool S.runs, .int .i64 S.inc, .slice As S.sent.length cs, .int .i64 S.replied, .slice Aj l.length cj]).alloc (.cells #[.int .i64 kd, .int .i64 n, .int .i64 m, .int .i64 dt, .slice Al nl cl, .slice At nt ct] tAOp)).alloc (.cells zD tDA)
  have BO := (Blk.new (W.alloc (.cells #[.int .i64 S.nid, .int .i64 S.nco, .int .i64 S.nme, .int .i64 S.nin, .int .i64 S.nbe, .int .i64 S.short, .int .i64 S.clock, .bool S.runs, .int .i64 S.inc, .slice As S.sent.length cs, .int .i64 S.replied, .slice Aj l.length cj] tDA)) tAOp #[.int .i64 kd, .int .i64 n, .int .i64 m, .int .i64 dt, .slice Al nl cl, .slice At nt ct]).alloc (.cells zD tDA)
  have BZ := Blk.new ((W.alloc (.cells #[.int .i64 S.nid, .int .i64 S.nco, .int .i64 S.nme, .int .i64 S.nin, .int .i64 S.nbe, .int .i64 S.short, .int .i64 S.clock, .bool S.runs, .int .i64 S.inc, .slice As S.sent.length cs, .int .i64 S.replied, .slice Aj l.length cj] tDA)).alloc (.cells #[.int .i64 kd, .int .i64 n, .int .i64 m, .int .i64 dt, .slice Al nl cl, .slice At nt ct] tAOp)) tDA zD
  simp only [World.size_alloc] at BO BZ
  have o0 := BO.cell 0
  have o1 := BO.cell 1
  have o2 := BO.cell 2
  have o3 := BO.cell 3
  have o4 := BO.cell 4
  have o5 := BO.cell 5
  simp only [List.getElem?_toArray, List.getElem?_cons_zero, List.getElem?_cons_succ] at o0 o1 o2 o3 o4 o5
  have BX' := Lib.hid BX
  have BO' := Lib.hid BO
  have BZ' := Lib.hid BZ
  have hs3' := Lib.hid hs3
  clear hag hd hq b3 BX BO BZ hs3
  have BX4 := BX'.out
  have BZ4 := BZ'.out
  have d0 := BX4.cell 0
  have d1 := BX4.cell 1
  have d2 := BX4.cell 2
  have d3 := BX4.cell 3
  have d4 := BX4.cell 4
  have d5 := BX4.cell 5
  have d6 := BX4.cell 6
  have d7 := BX4.cell 7
  have d8 := BX4.cell 8
  have d9 := BX4.cell 9
  have d10 := BX4.cell 10
  have d11 := BX4.cell 11
  simp only [List.getElem?_toArray, List.getElem?_cons_zero, List.getElem?_cons_succ] at d0 d1 d2 d3 d4 d5 d6 d7 d8 d9 d10 d11
  have x0 := BZ4.cell 0
  have x1 := BZ4.cell 1
  have x2 := BZ4.cell 2
  have x3 := BZ4.cell 3
  have x4 := BZ4.cell 4
  have x5 := BZ4.cell 5
  have x6 := BZ4.cell 6
  have x7 := BZ4.cell 7
  have x8 := BZ4.cell 8
  have x9 := BZ4.cell 9
  have x10 := BZ4.cell 10
  have x11 := BZ4.cell 11
  simp only [List.getElem?_toArray, List.getElem?_cons_zero, List.getElem?_cons_succ] at x0 x1 x2 x3 x4 x5 x6 x7 x8 x9 x10 x11
  have y0 := BZ4.frozen 0
  have y1 := BZ4.frozen 1
  have y2 := BZ4.frozen 2
  have y3 := BZ4.frozen 3
  have y4 := BZ4.frozen 4
  have y5 := BZ4.frozen 5
  have y6 := BZ4.frozen 6
  have y7 := BZ4.frozen 7
  have y8 := BZ4.frozen 8
  have y9 := BZ4.frozen 9
  have y10 := BZ4.frozen 10
  have y11 := BZ4.frozen 11
  clear BX4 BZ4
  go_enter Try.func41, Try.ntmps41
  go_wp2
  have RR := Blk.new ((W.alloc (.cells #[.int .i64 S.nid, .int .i64 S.nco, .int .i64 S.nme, .int .i64 S.nin, .int .i64 S.nbe, .int .i64 S.short, .int .i64 S.clock, .bool S.runs, .int .i64 S.inc, .slice As S.sent.length cs, .int .i64 S.replied, .slice Aj l.length cj] tDA)).alloc (.cells #[.int .i64 kd, .int .i64 n, .int .i64 m, .int .i64 dt, .slice Al nl cl, .slice At nt ct] tAOp)) tDA #[.int .i64 S.nid, .int .i64 S.nco, .int .i64 S.nme, .int .i64 S.nin, .int .i64 S.nbe, .int .i64 S.short, .int .i64 S.clock, .bool S.runs, .int .i64 S.inc, .slice As S.sent.length cs, .int .i64 S.replied, .slice Aj l.length cj]
  rw [World.size_alloc, World.size_alloc] at RR
  refine bodyPost_ret (results_ct rfl _ _ _ tDA #[.int .i64 S.nid, .int .i64 S.nco, .int .i64 S.nme, .int .i64 S.nin, .int .i64 S.nbe, .int .i64 S.short, .int .i64 S.clock, .bool S.runs, .int .i64 S.inc, .slice As S.sent.length cs, .int .i64 S.replied, .slice Aj l.length cj] (0, 0) _ rfl RR Try.underlying91 rfl (by kernel_rfl)) rfl ?_
  have hF0 : Below W.heap.size ((((W.alloc (.cells #[.int .i64 S.nid, .int .i64 S.nco, .int .i64 S.nme, .int .i64 S.nin, .int .i64 S.nbe, .int .i64 S.short, .int .i64 S.clock, .bool S.runs, .int .i64 S.inc, .slice As S.sent.length cs, .int .i64 S.replied, .slice Aj l.length cj] tDA)).alloc (.cells #[.int .i64 kd, .int .i64 n, .int .i64 m, .int .i64 dt, .slice Al nl cl, .slice At nt ct] tAOp)).alloc (.cells zD tDA))) (((W.alloc (.cells #[.int .i64 S.nid, .int .i64 S.nco, .int .i64 S.nme, .int .i64 S.nin, .int .i64 S.nbe, .int .i64 S.short, .int .i64 S.clock, .bool S.runs, .int .i64 S.inc, .slice As S.sent.length cs, .int .i64 S.replied, .slice Aj l.length cj] tDA)).alloc (.cells #[.int .i64 kd, .int .i64 n, .int .i64 m, .int .i64 dt, .slice Al nl cl, .slice At nt ct] tAOp)).alloc (.cells #[.int .i64 S.nid, .int .i64 S.nco, .int .i64 S.nme, .int .i64 S.nin, .int .i64 S.nbe, .int .i64 S.short, .int .i64 S.clock, .bool S.runs, .int .i64 S.inc, .slice As S.sent.length cs, .int .i64 S.replied, .slice Aj l.length cj] tDA)) := ⟨rfl, rfl, rfl, by simp, fun k hk => ((below3 (W := W) (.cells #[.int .i64 S.nid, .int .i64 S.nco, .int .i64 S.nme, .int .i64 S.nin, .int .i64 S.nbe, .int .i64 S.short, .int .i64 S.clock, .bool S.runs, .int .i64 S.inc, .slice As S.sent.length cs, .int .i64 S.replied, .slice Aj l.length cj] tDA) (.cells #[.int .i64 kd, .int .i64 n, .int .i64 m, .int .i64 dt, .slice Al nl cl, .slice At nt ct] tAOp) (.cells #[.int .i64 S.nid, .int .i64 S.nco, .int .i64 S.nme, .int .i64 S.nin, .int .i64 S.nbe, .int .i64 S.short, .int .i64 S.clock, .bool S.runs, .int .i64 S.inc, .slice As S.sent.length cs, .int .i64 S.replied, .slice Aj l.length cj] tDA)).block k hk).trans (b3'.out.block k hk).symm⟩
  have hE := play_end hq'.out b3'.out hag3.out (FrF.refl _ _) (Below.refl _ _) ((hd'.out.below b3'.out).mono fun k _ h => .inl h) hF0 (fun k h1 h2 => by omega)
  obtain ⟨Q', e1, e2, e3, e4, e5⟩ := hE
  exact ⟨As, cs, Aj, cj, l, Q', rfl, e1, e2, e3, e4, e5⟩
end Go.Proofs.Ytkcmmghhghgdpaa.Agt
end
section
namespace Go.Proofs.Ytkcmmghhghgdpaa.Agt
open Go.RowKit Go.Shelf Go.Maps Go.Proofs.Ytkcmmghhghgdpaa.Iter Go.Proofs.Ytkcmmghhghgdpaa.Str Go.Proofs.YtkcmmghhghgdpaaW.PrintWords Go.Proofs.YtkcmmghhghgdpaaW.PrintLast
set_option linter.unusedVariables false
set_option linter.unusedSimpArgs false
theorem own_len {W : World} {B e size n c : Nat} {A : Option Addr} {xs : List Value} (h : W.ownsRow B e size (.slice A n c) n xs) : n ≤ 9223372036854775807 := by
  rcases h.2 with ⟨e, h0⟩ | ⟨g2, cap, cur, e, _, _, hcap, hm, _⟩
  · omega
  · unfold maxLen at hm
    omega
theorem readsL_own {F : Nat → Prop} {W : World} {B c : Nat} {A : Option Addr} {zs : List LeM} (hrow : W.ownsRow B tL 8 (.slice A zs.length c) zs.length (flatL zs)) (hc : ∀ z ∈ zs, OwnC B W z) (hw : ∀ x ∈ zs.map (·.1), wfI x.task) (hl : ∀ x ∈ zs.map (·.1), x.cores.length ≤ 2000000) (hF : ∀ k, B ≤ k → k < W.heap.size → ¬ F k) : ReadsL F W A (zs.map (·.1)) := fun j x hx => by
  rw [List.getElem?_map] at hx
  obtain ⟨z, hz, rfl⟩ := Option.map_eq_some_iff.1 hx
  obtain ⟨g, rfl, hg, q0, q1, q2, q3, q4, q5, q6, q7, hri, hcc⟩ := own_readsM hrow hc j z hz
  have hzm := List.mem_of_getElem? hz
  have hm : z.1 ∈ zs.map (·.1) := List.mem_map.2 ⟨z, hzm, rfl⟩
  have h2 := hl _ hm
  have hb := own_block hrow (k := g) rfl
  refine ⟨⟨g, 0, none⟩, z.2.1, z.2.2, rfl, hg, ?_⟩
  have hadd : (⟨g, 0, none⟩ : Addr).add (j * 8) = ⟨g, j * 8, none⟩ := by unfold Addr.add; split <;> simp_all
  rw [hadd]
  refine ⟨q0, q1, q2, q3, q4, q5, q6, q7, ⟨hri, fun ad hA hp => ?_⟩, hcc, hw _ hm, by omega, hF g hb.1 hb.2.1⟩
  obtain ⟨h3, h4, _⟩ := own_block (hc z hzm) (k := ad.block) (by rw [hA]; rfl)
  exact hF _ h3 h4
theorem twinDC {F : Nat → Prop} (A : Option Addr) (c0 nl : Nat) (xs : List Ls) (W : World) (hn : nl = xs.length) (hr : ReadsL F W A xs) (hl : xs.length ≤ 2000000) (hcl : ∀ x ∈ xs, x.cores.length ≤ 2000000) :
    Calls Try.prog 67 #[.slice A nl c0] W fun e W' => ∃ A' c', ∃ zs : List LeM, e = .returned (.slice A' nl c') ∧ zs.length = nl ∧ ReadsL (fun k => ¬ (W.heap.size ≤ k ∧ k < W'.heap.size)) W' A' xs ∧ W'.ownsRow W.heap.size tL 8 (.slice A' nl c') nl (flatL zs) ∧ (∀ z ∈ zs, OwnC W.heap.size W' z) ∧ Below W.heap.size W W' := by
  subst hn
  refine (twinD A c0 xs W hr hl hcl).mono ?_
  rintro e W' ⟨A', c', zs, rfl, hz, hrow, hc, hb⟩
  have hlen : zs.length = xs.length := by rw [← hz, List.length_map]
  have hR := readsL_own (F := fun k => ¬ (W.heap.size ≤ k ∧ k < W'.heap.size)) hrow hc (by
    rw [hz]
    intro x hx
    obtain ⟨j, hj⟩ := List.mem_iff_getElem?.1 hx
    obtain ⟨_, _, _, _, _, _, _, _, _, _, _, _, _, _, _, hw, _⟩ := hr j x hj
    exact hw) (by rw [hz]; exact hcl) (fun k h1 h2 h3 => h3 ⟨h1, h2⟩)
  rw [hz] at hR
  rw [hlen] at hrow ⊢
  exact ⟨A', c', zs, rfl, hlen, hR, hrow, hc, hb⟩
/-- Cores of lo to hi may be overwritten. -/
structure Ovw (lo hi : Nat) (w wr : World) : Prop where
  os : wr.os = w.os
  tape : wr.tape = w.tape
  output : wr.output = w.output
  size : w.heap.size = wr.heap.size
  far : ∀ k, k < lo ∨ hi ≤ k → wr.heap[k]? = w.heap[k]?
  row : ∀ (k : Nat) (cur : Array Value) (t : TypeId), w.heap[k]? = some (Obj.cells cur t (0, 0)) → t ≠ tI → wr.heap[k]? = w.heap[k]?
  core : ∀ (k : Nat) (cur : Array Value), w.heap[k]? = some (Obj.cells cur tI (0, 0)) → ∃ cur2 : Array Value, wr.heap[k]? = some (Obj.cells cur2 tI (0, 0)) ∧ cur2.size = cur.size
theorem Ovw.refl (lo hi : Nat) (w : World) : Ovw lo hi w w := ⟨rfl, rfl, rfl, rfl, fun _ _ => rfl, fun _ _ _ _ _ => rfl, fun k cur h => ⟨cur, h, rfl⟩⟩
theorem Ovw.below {lo hi B : Nat} {w wr : World} (h : Ovw lo hi w wr) (hB : B ≤ lo) : Below B w wr := ⟨h.os, h.tape, h.output, Nat.le_of_eq h.size, fun k hk => h.far k (.inl (by omega))⟩
theorem Ovw.put {lo hi g : Nat} {w wr : World} {cur : Array Value} (h : Ovw lo hi w wr) (hg : w.heap[g]? = some (Obj.cells cur tI (0, 0))) (h1 : lo ≤ g) (h2 : g < hi) (j : Nat) (hj : j < cur.size) (v : Value) : Ovw lo hi w (wr.setCell ⟨g, j, none⟩ v) := by
  obtain ⟨cur2, hc2, hs2⟩ := h.core g cur hg
  have hb : Blk wr g tI cur2 := hc2
  have hne : ∀ k, k ≠ g → (wr.setCell ⟨g, j, none⟩ v).heap[k]? = wr.heap[k]? := fun k hk => Below.heap_setCell wr ⟨g, j, none⟩ v k hk
  have h0 := (Below.refl 0 wr).setCell (p := ⟨g, j, none⟩) (Nat.zero_le _) v
  refine ⟨h0.os.trans h.os, h0.tape.trans h.tape, h0.output.trans h.output, by rw [h.size]; simp, fun k hk => (hne k (by omega)).trans (h.far k hk), fun k cur3 t h3 ht => (hne k (fun e => ?_)).trans (h.row k cur3 t h3 ht), fun k cur3 h3 => ?_⟩
  · subst e
    rw [hg] at h3
    injection h3 with h3
    injection h3 with _ h3 _
    exact ht h3.symm
  · by_cases hk : k = g
    · subst hk
      rw [hg] at h3
      injection h3 with h3
      injection h3 with h3 _ _
      subst h3
      exact ⟨_, hb.set j v (by omega), by simpa using hs2⟩
    · obtain ⟨c4, h4, h5⟩ := h.core k cur3 h3
      exact ⟨c4, (hne k hk).trans h4, h5⟩
set_option maxRecDepth 100000 in
set_option maxHeartbeats 8000000 in
theorem play4 {Q : Nat → Prop} {a : Nat} {As Aj : Option Addr} {cs cj : Nat} {l : List (Jb × DJ)} {S S' : Ag} {cd : Int} {xs : List Ls} {ts : List Ts} (n m dt : Int) (Al At : Option Addr) (cl ct : Nat) (W : World) (e1 : replyG S n m xs ts = (S', cd)) (hag : AgQ a S Q W) (hd : DocM Q (.slice As S.sent.length cs) (.slice Aj l.length cj) l S W) (hq : ∀ k, Q k → k < W.heap.size)
    (hok : AgOk S) (hsl : S.sent.length ≤ 100000) (hL : ReadsL (fun k => ¬ Q k) W Al xs) (hT : ReadsT (fun k => ¬ Q k) W At ts) (hxl : xs.length ≤ 2000000) (hcl : ∀ x ∈ xs, x.cores.length ≤ 2000000) (htl : ts.length ≤ 9223372036854775807) :
    Calls Try.prog 41 #[ptr a, .agg #[.int .i64 S.nid, .int .i64 S.nco, .int .i64 S.nme, .int .i64 S.nin, .int .i64 S.nbe, .int .i64 S.short, .int .i64 S.clock, .bool S.runs, .int .i64 S.inc, .slice As S.sent.length cs, .int .i64 S.replied, .slice Aj l.length cj], .agg #[.int .i64 4, .int .i64 n, .int .i64 m, .int .i64 dt, .slice Al xs.length cl, .slice At ts.length ct]] W (PlayD Q a S' W) := by
  have e1' := Lib.hid e1
  have hok' := Lib.hid hok
  have hL' := Lib.hid hL
  have hT' := Lib.hid hT
  have hcl' := Lib.hid hcl
  clear e1 hok hL hT hcl
  have hag' := Lib.hid hag
  have hd' := Lib.hid hd
  have hq' := Lib.hid hq
  have b3 : Below W.heap.size W (((W.alloc (.cells #[.int .i64 S.nid, .int .i64 S.nco, .int .i64 S.nme, .int .i64 S.nin, .int .i64 S.nbe, .int .i64 S.short, .int .i64 S.clock, .bool S.runs, .int .i64 S.inc, .slice As S.sent.length cs, .int .i64 S.replied, .slice Aj l.length cj] tDA)).alloc (.cells #[.int .i64 4, .int .i64 n, .int .i64 m, .int .i64 dt, .slice Al xs.length cl, .slice At ts.length ct] tAOp)).alloc (.cells zD tDA)) := below3 _ _ _
  have b3' := Lib.hid b3
  have hs3 : ((((W.alloc (.cells #[.int .i64 S.nid, .int .i64 S.nco, .int .i64 S.nme, .int .i64 S.nin, .int .i64 S.nbe, .int .i64 S.short, .int .i64 S.clock, .bool S.runs, .int .i64 S.inc, .slice As S.sent.length cs, .int .i64 S.replied, .slice Aj l.length cj] tDA)).alloc (.cells #[.int .i64 4, .int .i64 n, .int .i64 m, .int .i64 dt, .slice Al xs.length cl, .slice At ts.length ct] tAOp)).alloc (.cells zD tDA))).heap.size = W.heap.size + 3 := by simp
  have hag3 := Lib.hid (hag.more (Q' := QP Q W (((W.alloc (.cells #[.int .i64 S.nid, .int .i64 S.nco, .int .i64 S.nme, .int .i64 S.nin, .int .i64 S.nbe, .int .i64 S.short, .int .i64 S.clock, .bool S.runs, .int .i64 S.inc, .slice As S.sent.length cs, .int .i64 S.replied, .slice Aj l.length cj] tDA)).alloc (.cells #[.int .i64 4, .int .i64 n, .int .i64 m, .int .i64 dt, .slice Al xs.length cl, .slice At ts.length ct] tAOp)).alloc (.cells zD tDA))) b3 fun k hk => hk.elim .inl fun h => .inr h.1)
  have BX := ((Blk.new W tDA #[.int .i64 S.nid, .int .i64 S.nco, .int .i64 S.nme, .int .i64 S.nin, .int .i64 S.nbe, .int .i64 S.short, .int .i64 S.clock, .bool S.runs, .int .i64 S.inc, .slice As S.sent.length cs, .int .i64 S.replied, .slice Aj l.length cj]).alloc (.cells #[.int .i64 4, .int .i64 n, .int .i64 m, .int .i64 dt, .slice Al xs.length cl, .slice At ts.length ct] tAOp)).alloc (.cells zD tDA)
  have BO := (Blk.new (W.alloc (.cells #[.int .i64 S.nid, .int .i64 S.nco, .int .i64 S.nme, .int .i64 S.nin, .int .i64 S.nbe, .int .i64 S.short, .int .i64 S.clock, .bool S.runs, .int .i64 S.inc, .slice As S.sent.length cs, .int .i64 S.replied, .slice Aj l.length cj] tDA)) tAOp #[.int .i64 4, .int .i64 n, .int .i64 m, .int .i64 dt, .slice Al xs.length cl, .slice At ts.length ct]).alloc (.cells zD tDA)
  have BZ := Blk.new ((W.alloc (.cells #[.int .i64 S.nid, .int .i64 S.nco, .int .i64 S.nme, .int .i64 S.nin, .int .i64 S.nbe, .int .i64 S.short, .int .i64 S.clock, .bool S.runs, .int .i64 S.inc, .slice As S.sent.length cs, .int .i64 S.replied, .slice Aj l.length cj] tDA)).alloc (.cells #[.int .i64 4, .int .i64 n, .int .i64 m, .int .i64 dt, .slice Al xs.length cl, .slice At ts.length ct] tAOp)) tDA zD
  simp only [World.size_alloc] at BO BZ
  have o0 := BO.cell 0
  have o1 := BO.cell 1
  have o2 := BO.cell 2
  have o3 := BO.cell 3
  have o4 := BO.cell 4
  have o5 := BO.cell 5
  simp only [List.getElem?_toArray, List.getElem?_cons_zero, List.getElem?_cons_succ] at o0 o1 o2 o3 o4 o5
  have BX' := Lib.hid BX
  have BO' := Lib.hid BO
  have BZ' := Lib.hid BZ
  have hs3' := Lib.hid hs3
  clear hag hd hq b3 BX BO BZ hs3
  go_enter Try.func41, Try.ntmps41
  go_upto_region 20 with (first | (((with_reducible refine gate_callee (f := 67) rfl ?_); refine goesL_ (some 84) rfl rfl Try.func67 (by kernel_rfl) rfl #[.slice Al xs.length cl] rfl (by (try simp only [List.map_toArray, List.map_cons, List.map_nil]); first | done | rfl) ?_; (with_reducible refine (twinDC Al cl xs.length xs _ rfl (hL'.out.below b3'.out) hxl hcl'.out).mono ?_); rintro e w3 ⟨At', ct', zs, rfl, hzl, hrt, hrow, hoc, b3t⟩; refine ⟨_, rfl, ?_⟩; have BX3 := Lib.hid (BX'.out.below b3t BX'.out.lt); have BO3 := BO'.out.below b3t BO'.out.lt; have BZ3 := Lib.hid (BZ'.out.below b3t BZ'.out.lt); clear o0 o1 o2 o3 o4 o5; have o0 := BO3.cell 0; have o1 := BO3.cell 1; have o2 := BO3.cell 2; have o3 := BO3.cell 3; have o4 := BO3.cell 4; have o5 := BO3.cell 5; simp only [List.getElem?_toArray, List.getElem?_cons_zero, List.getElem?_cons_succ] at o0 o1 o2 o3 o4 o5; have BO3' := Lib.hid BO3; have s3t := b3t.size; rw [hs3'.out] at s3t; have b3a := Lib.hid (b3'.out.trans (below_le b3t (by rw [hs3'.out]; omega))); have hag3 := Lib.hid (hag'.out.more (Q' := QP Q W w3) b3a.out fun k hk => hk.elim .inl fun h => .inr h.1); have hLt := Lib.hid (hrt.mono (F' := fun k => ¬ QP Q W w3 k) fun k hk h => hk (.inr ⟨by have := h.1; rw [hs3'.out] at this; omega, h.2⟩)); have hT3 := Lib.hid ((hT'.out.below b3a.out).mono (F' := fun k => ¬ QP Q W w3 k) fun k hk h => hk (.inl h)); have hL3 := Lib.hid (hL'.out.below b3a.out); have hTd3 := Lib.hid (hT'.out.below b3a.out); have hrow' := Lib.hid hrow; have hoc' := Lib.hid hoc; have hzl' := Lib.hid hzl; clear BO3 hrt hrow hoc b3t hzl)) | (((with_reducible refine gate_callee (f := 32) rfl ?_); refine goesL_ (some 93) rfl rfl Try.func32 (by kernel_rfl) rfl #[ptr a, .int .i64 n, .int .i64 m, .slice At' xs.length ct', .slice At ts.length ct] rfl (by (try simp only [List.map_toArray, List.map_cons, List.map_nil]); first | done | rfl) ?_; (with_reducible refine (replyC n m e1'.out hok'.out hsl (fun k hk => hk.elim (fun h => by have := hq'.out k h; omega) (fun h => h.2)) hLt.out hT3.out (by omega) htl hag3.out).mono ?_); rintro e w4 ⟨rfl, g4, k4⟩; refine ⟨_, rfl, ?_⟩; have BX4 := k4.blk (.inr ⟨Nat.le_refl _, by omega⟩) BX3.out; have BO4 := k4.blk (.inr ⟨Nat.le_succ _, by omega⟩) BO3'.out; have BZ4 := Lib.hid (k4.blk (.inr ⟨by omega, by omega⟩) BZ3.out); clear o0 o1 o2 o3 o4 o5; have o0 := BO4.cell 0; have o1 := BO4.cell 1; have o2 := BO4.cell 2; have o3 := BO4.cell 3; have o4 := BO4.cell 4; have o5 := BO4.cell 5; simp only [List.getElem?_toArray, List.getElem?_cons_zero, List.getElem?_cons_succ] at o0 o1 o2 o3 o4 o5; have d0 := BX4.cell 0; have d1 := BX4.cell 1; have d2 := BX4.cell 2; have d3 := BX4.cell 3; have d4 := BX4.cell 4; have d5 := BX4.cell 5; have d6 := BX4.cell 6; have d7 := BX4.cell 7; have d8 := BX4.cell 8; have d9 := BX4.cell 9; have d10 := BX4.cell 10; have d11 := BX4.cell 11; simp only [List.getElem?_toArray, List.getElem?_cons_zero, List.getElem?_cons_succ] at d0 d1 d2 d3 d4 d5 d6 d7 d8 d9 d10 d11; have BX4' := Lib.hid BX4; have hd4 := Lib.hid ((hd'.out.below b3a.out).keep (W' := w4) fun k hl hQ => k4.block k hl (fun hn => hn (.inl hQ))); have g4' := Lib.hid g4; have k4' := Lib.hid k4; have hz4 := Lib.hid k4.size; have kf := (⟨k4.os, k4.tape, k4.output, k4.size, fun k hl hn => k4.block k hl (fun h => hn (fun hQ => h (.inl hQ)))⟩ : FrF (fun k => ¬ Q k) w3 w4); have hL4 := Lib.hid (hL3.out.frF kf); have hT4 := Lib.hid (hTd3.out.frF kf); clear g4 k4 BX4 BO4 kf)) | (((with_reducible refine gate_callee (f := 68) rfl ?_); refine goesL_ (some 104) rfl rfl Try.func68 (by kernel_rfl) rfl #[.agg #[.int .i64 S.nid, .int .i64 S.nco, .int .i64 S.nme, .int .i64 S.nin, .int .i64 S.nbe, .int .i64 S.short, .int .i64 S.clock, .bool S.runs, .int .i64 S.inc, .slice As S.sent.length cs, .int .i64 S.replied, .slice Aj l.length cj], .int .i64 n, .int .i64 m, .slice Al xs.length cl, .slice At ts.length ct] rfl (by (try simp only [List.map_toArray, List.map_cons, List.map_nil]); first | done | rfl) ?_; (with_reducible refine (replyDC n m _ e1'.out hd4.out hL4.out hT4.out (by omega) htl hok'.out hsl).mono ?_); rintro e w5 ⟨As', cs', Aj', cj', l', rfl, h5, b5⟩; refine ⟨_, rfl, ?_⟩; clear d0 d1 d2 d3 d4 d5 d6 d7 d8 d9 d10 d11 o0 o1 o2 o3 o4 o5; have BX5 := BX4'.out.below b5 BX4'.out.lt; have d0 := BX5.cell 0; have d1 := BX5.cell 1; have d2 := BX5.cell 2; have d3 := BX5.cell 3; have d4 := BX5.cell 4; have d5 := BX5.cell 5; have d6 := BX5.cell 6; have d7 := BX5.cell 7; have d8 := BX5.cell 8; have d9 := BX5.cell 9; have d10 := BX5.cell 10; have d11 := BX5.cell 11; simp only [List.getElem?_toArray, List.getElem?_cons_zero, List.getElem?_cons_succ] at d0 d1 d2 d3 d4 d5 d6 d7 d8 d9 d10 d11; have f0 := BX5.frozen 0; have f1 := BX5.frozen 1; have f2 := BX5.frozen 2; have f3 := BX5.frozen 3; have f4 := BX5.frozen 4; have f5 := BX5.frozen 5; have f6 := BX5.frozen 6; have f7 := BX5.frozen 7; have f8 := BX5.frozen 8; have f9 := BX5.frozen 9; have f10 := BX5.frozen 10; have f11 := BX5.frozen 11; have BX5' := Lib.hid BX5; have BZ5 := Lib.hid (BZ4.out.below b5 BZ4.out.lt); have h5' := Lib.hid h5; have b5' := Lib.hid b5; clear BX5 h5 b5)))
  change Code.wp _ _ _ _ (set12 w5 W.heap.size (.int .i64 S'.nid) (.int .i64 S'.nco) (.int .i64 S'.nme) (.int .i64 S'.nin) (.int .i64 S'.nbe) (.int .i64 S'.short) (.int .i64 S'.clock) (.bool S'.runs) (.int .i64 S'.inc) (.slice As' S'.sent.length cs') (.int .i64 S'.replied) (.slice Aj' l'.length cj'))
  have BX6 := blk12 BX5'.out (by rfl) (.int .i64 S'.nid) (.int .i64 S'.nco) (.int .i64 S'.nme) (.int .i64 S'.nin) (.int .i64 S'.nbe) (.int .i64 S'.short) (.int .i64 S'.clock) (.bool S'.runs) (.int .i64 S'.inc) (.slice As' S'.sent.length cs') (.int .i64 S'.replied) (.slice Aj' l'.length cj')
  have BZ6 : Blk (set12 w5 W.heap.size (.int .i64 S'.nid) (.int .i64 S'.nco) (.int .i64 S'.nme) (.int .i64 S'.nin) (.int .i64 S'.nbe) (.int .i64 S'.short) (.int .i64 S'.clock) (.bool S'.runs) (.int .i64 S'.inc) (.slice As' S'.sent.length cs') (.int .i64 S'.replied) (.slice Aj' l'.length cj')) (W.heap.size + 1 + 1) tDA zD := (set12_heap w5 W.heap.size _ _ _ _ _ _ _ _ _ _ _ _ (by omega)).trans BZ5.out
  have b6 : Below W.heap.size w5 (set12 w5 W.heap.size (.int .i64 S'.nid) (.int .i64 S'.nco) (.int .i64 S'.nme) (.int .i64 S'.nin) (.int .i64 S'.nbe) (.int .i64 S'.short) (.int .i64 S'.clock) (.bool S'.runs) (.int .i64 S'.inc) (.slice As' S'.sent.length cs') (.int .i64 S'.replied) (.slice Aj' l'.length cj')) := below12 (Below.refl _ _) (Nat.le_refl _) (.int .i64 S'.nid) (.int .i64 S'.nco) (.int .i64 S'.nme) (.int .i64 S'.nin) (.int .i64 S'.nbe) (.int .i64 S'.short) (.int .i64 S'.clock) (.bool S'.runs) (.int .i64 S'.inc) (.slice As' S'.sent.length cs') (.int .i64 S'.replied) (.slice Aj' l'.length cj')
  have h6 : ∀ k, k ≠ W.heap.size → (set12 w5 W.heap.size (.int .i64 S'.nid) (.int .i64 S'.nco) (.int .i64 S'.nme) (.int .i64 S'.nin) (.int .i64 S'.nbe) (.int .i64 S'.short) (.int .i64 S'.clock) (.bool S'.runs) (.int .i64 S'.inc) (.slice As' S'.sent.length cs') (.int .i64 S'.replied) (.slice Aj' l'.length cj')).heap[k]? = w5.heap[k]? := fun k hk => set12_heap _ _ _ _ _ _ _ _ _ _ _ _ _ _ hk
  obtain ⟨w6, hw6⟩ : ∃ w6, set12 w5 W.heap.size (.int .i64 S'.nid) (.int .i64 S'.nco) (.int .i64 S'.nme) (.int .i64 S'.nin) (.int .i64 S'.nbe) (.int .i64 S'.short) (.int .i64 S'.clock) (.bool S'.runs) (.int .i64 S'.inc) (.slice As' S'.sent.length cs') (.int .i64 S'.replied) (.slice Aj' l'.length cj') = w6 := ⟨_, rfl⟩
  rw [hw6] at BX6 BZ6 b6 h6 ⊢
  clear hw6 d0 d1 d2 d3 d4 d5 d6 d7 d8 d9 d10 d11 f0 f1 f2 f3 f4 f5 f6 f7 f8 f9 f10 f11
  have h36 : ∀ k, W.heap.size + 3 ≤ k → k < w3.heap.size → w6.heap[k]? = w3.heap[k]? := fun k h1 h2 => (h6 k (by omega)).trans ((b5'.out.block k (by have := hz4.out; omega)).trans (k4'.out.block k h2 (fun hn => hn (.inr ⟨by omega, h2⟩))))
  have hrow6 := Lib.hid (Str.own_move (w' := w6) hrow'.out fun k hk => h36 k (by have := (own_block hrow'.out hk).1; rw [hs3'.out] at this; exact this) (own_block hrow'.out hk).2.1)
  have hoc6 := Lib.hid (show ∀ z ∈ zs, OwnC (W.heap.size + 3) w6 z from fun z hz => hs3'.out ▸ (Str.own_move (w' := w6) (hoc'.out z hz) fun k hk => h36 k (by have := (own_block (hoc'.out z hz) hk).1; rw [hs3'.out] at this; exact this) (own_block (hoc'.out z hz) hk).2.1))
  have hoh := Lib.hid (show ∀ z ∈ zs, ∀ k, (Value.slice z.2.1 z.1.cores.length z.2.2).ownBlock = some k → k < w3.heap.size from fun z hz k hk => (own_block (hoc'.out z hz) hk).2.1)
  have BX6' := Lib.hid BX6
  have BZ6' := Lib.hid BZ6
  have b6' := Lib.hid b6
  have h6' := Lib.hid h6
  clear BX6 BZ6 b6 h6 h36
  go_wp2
  go_loopw [109] (fun iv wr => ∃ (i : Nat), iv = .int .i64 (i : Int) ∧ i ≤ xs.length ∧ Ovw (W.heap.size + 3) w3.heap.size w6 wr)
    (fun iv _ => xs.length - (intOf iv).toNat)
  case atStart => exact ⟨0, rfl, Nat.zero_le _, Ovw.refl _ _ _⟩
  case round =>
    obtain ⟨i, rfl, hi, hov⟩ := hrel
    by_cases hlt : i < xs.length
    · obtain ⟨z, hz⟩ : ∃ z, zs[i]? = some z := ⟨zs[i]'(by have := hzl'.out; omega), List.getElem?_eq_getElem _⟩
      obtain ⟨gr, cr, hvr⟩ := own_someL hrow6.out (by omega)
      injection hvr with e1 _ e3
      subst e1
      subst e3
      obtain ⟨_, _, curr, hcr⟩ := own_block hrow6.out (k := gr) rfl
      have hcrow := Lib.hid hcr
      have hcel := Lib.hid (show w6.cell? ⟨gr, i * 8 + 3, none⟩ = some (.slice z.2.1 z.1.cores.length z.2.2) by
        rw [hrow6.out.cellAt (i * 8 + 3) (by omega)]
        exact flatL_get zs i 3 z (by omega) hz)
      have q3 : wr.cell? ⟨gr, i * 8 + 3, none⟩ = some (.slice z.2.1 z.1.cores.length z.2.2) := (World.cell?_of_block (a := ⟨gr, i * 8 + 3, none⟩) (hov.row gr curr tL hcr (by decide))).trans hcel.out
      have hzm := Lib.hid (List.mem_of_getElem? hz)
      have hov' := Lib.hid hov
      have hle : z.1.cores.length ≤ 9223372036854775807 := own_len (hoc6.out z hzm.out)
      clear hov hz hcr
      go_wp2
      go_loopw [118] (fun kv wq => ∃ (k : Nat), kv = .int .i64 (k : Int) ∧ k ≤ z.1.cores.length ∧ Ovw (W.heap.size + 3) w3.heap.size w6 wq)
        (fun kv _ => z.1.cores.length - (intOf kv).toNat)
      case atStart => exact ⟨0, rfl, Nat.zero_le _, hov'.out⟩
      case round =>
        clear q3
        obtain ⟨k, rfl, hk, hov2⟩ := hrel
        by_cases hlk : k < z.1.cores.length
        · have q3 : wr.cell? ⟨gr, i * 8 + 3, none⟩ = some (.slice z.2.1 z.1.cores.length z.2.2) := (World.cell?_of_block (a := ⟨gr, i * 8 + 3, none⟩) (hov2.row gr curr tL hcrow.out (by decide))).trans hcel.out
          have hoz := hoc6.out z hzm.out
          have hhz := hoh.out z hzm.out
          obtain ⟨zl, zA, zc⟩ := z
          dsimp only at hoz hhz q3 hlk hk hle ⊢
          rcases hoz.2 with ⟨e, h0⟩ | ⟨gz, cap, cur, e, hg1, hg2, hcap, _, hcs, _⟩
          · exfalso
            dsimp only at h0
            omega
          · injection e with e1 e2 e3
            dsimp only at e1 hcap
            subst e1
            obtain ⟨cur2, hc2, hs2⟩ := hov2.core gz cur hg2
            have hcb : Blk wr gz tI cur2 := hc2
            have hkc : k < cur2.size := by omega
            have p0 : wr.cell? ⟨gz, k, none⟩ = some (cur2[k]'hkc) := by rw [hcb.cell k]; exact Array.getElem?_eq_getElem hkc
            have pf := hcb.frozen k
            have hnx := Lib.hid (hov2.put hg2 hg1 (hhz gz rfl) k (by omega) (.int .i64 99))
            clear hov2 hoz hhz hcb hc2
            go_wp2
            go_roundw
            case rel => exact ⟨k + 1, by go_num, by omega, hnx.out⟩
            case measure => simp [intOf]; omega
        · have hov3 := Lib.hid hov2
          clear hov2
          go_wp2
          go_roundw
          case rel => exact ⟨i + 1, by go_num, by omega, hov3.out⟩
          case measure => simp [intOf]; omega
    · have BXr : Blk wr W.heap.size tDA #[.int .i64 S'.nid, .int .i64 S'.nco, .int .i64 S'.nme, .int .i64 S'.nin, .int .i64 S'.nbe, .int .i64 S'.short, .int .i64 S'.clock, .bool S'.runs, .int .i64 S'.inc, .slice As' S'.sent.length cs', .int .i64 S'.replied, .slice Aj' l'.length cj'] := (hov.row _ _ tDA BX6'.out (by decide)).trans BX6'.out
      have BZr : Blk wr (W.heap.size + 1 + 1) tDA zD := (hov.row _ _ tDA BZ6'.out (by decide)).trans BZ6'.out
      have d0 := BXr.cell 0
      have d1 := BXr.cell 1
      have d2 := BXr.cell 2
      have d3 := BXr.cell 3
      have d4 := BXr.cell 4
      have d5 := BXr.cell 5
      have d6 := BXr.cell 6
      have d7 := BXr.cell 7
      have d8 := BXr.cell 8
      have d9 := BXr.cell 9
      have d10 := BXr.cell 10
      have d11 := BXr.cell 11
      simp only [List.getElem?_toArray, List.getElem?_cons_zero, List.getElem?_cons_succ] at d0 d1 d2 d3 d4 d5 d6 d7 d8 d9 d10 d11
      have x0 := BZr.cell 0
      have x1 := BZr.cell 1
      have x2 := BZr.cell 2
      have x3 := BZr.cell 3
      have x4 := BZr.cell 4
      have x5 := BZr.cell 5
      have x6 := BZr.cell 6
      have x7 := BZr.cell 7
      have x8 := BZr.cell 8
      have x9 := BZr.cell 9
      have x10 := BZr.cell 10
      have x11 := BZr.cell 11
      simp only [List.getElem?_toArray, List.getElem?_cons_zero, List.getElem?_cons_succ] at x0 x1 x2 x3 x4 x5 x6 x7 x8 x9 x10 x11
      have y0 := BZr.frozen 0
      have y1 := BZr.frozen 1
      have y2 := BZr.frozen 2
      have y3 := BZr.frozen 3
      have y4 := BZr.frozen 4
      have y5 := BZr.frozen 5
      have y6 := BZr.frozen 6
      have y7 := BZr.frozen 7
      have y8 := BZr.frozen 8
      have y9 := BZr.frozen 9
      have y10 := BZr.frozen 10
      have y11 := BZr.frozen 11
      have BZr' := Lib.hid BZr
      have hov' := Lib.hid hov
      clear BXr BZr hov
      go_wp2
      have RR := blk12 BZr'.out (by rfl) (.int .i64 S'.nid) (.int .i64 S'.nco) (.int .i64 S'.nme) (.int .i64 S'.nin) (.int .i64 S'.nbe) (.int .i64 S'.short) (.int .i64 S'.clock) (.bool S'.runs) (.int .i64 S'.inc) (.slice As' S'.sent.length cs') (.int .i64 S'.replied) (.slice Aj' l'.length cj')
      refine bodyPost_ret (results_ct rfl _ _ _ tDA #[.int .i64 S'.nid, .int .i64 S'.nco, .int .i64 S'.nme, .int .i64 S'.nin, .int .i64 S'.nbe, .int .i64 S'.short, .int .i64 S'.clock, .bool S'.runs, .int .i64 S'.inc, .slice As' S'.sent.length cs', .int .i64 S'.replied, .slice Aj' l'.length cj'] (0, 0) _ rfl RR Try.underlying91 rfl (by kernel_rfl)) rfl ?_
      have hF0 := (b6'.out.trans (hov'.out.below (by omega))).trans (below12 (Below.refl W.heap.size wr) (b := W.heap.size + 1 + 1) (by omega) (.int .i64 S'.nid) (.int .i64 S'.nco) (.int .i64 S'.nme) (.int .i64 S'.nin) (.int .i64 S'.nbe) (.int .i64 S'.short) (.int .i64 S'.clock) (.bool S'.runs) (.int .i64 S'.inc) (.slice As' S'.sent.length cs') (.int .i64 S'.replied) (.slice Aj' l'.length cj'))
      have hF : ∀ k, w3.heap.size ≤ k → k < w5.heap.size → (set12 wr (W.heap.size + 1 + 1) (.int .i64 S'.nid) (.int .i64 S'.nco) (.int .i64 S'.nme) (.int .i64 S'.nin) (.int .i64 S'.nbe) (.int .i64 S'.short) (.int .i64 S'.clock) (.bool S'.runs) (.int .i64 S'.inc) (.slice As' S'.sent.length cs') (.int .i64 S'.replied) (.slice Aj' l'.length cj')).heap[k]? = w5.heap[k]? := fun k h1 h2 => (set12_heap _ _ _ _ _ _ _ _ _ _ _ _ _ _ (by omega)).trans ((hov'.out.far k (.inr h1)).trans (h6'.out k (by omega)))
      have hE := play_end hq'.out b3a.out g4'.out k4'.out b5'.out h5'.out hF0 hF
      obtain ⟨Q', e1, e2, e3, e4, e5⟩ := hE
      exact ⟨As', cs', Aj', cj', l', Q', rfl, e1, e2, e3, e4, e5⟩
end Go.Proofs.Ytkcmmghhghgdpaa.Agt
end
