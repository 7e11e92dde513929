/- slices.Insert of one client, no room: a new row. -/
import Derived.Test.YtkcmmghhghgdpaaStr10
namespace Go.Proofs.Ytkcmmghhghgdpaa.Str
open Go.RowKit Go.Shelf Go.Maps Go.Proofs.Ytkcmmghhghgdpaa.Iter Go.Proofs.Ytkcmmghhghgdpaa.SeqM Go.Proofs.YtkcmmghhghgdpaaW.PrintWords Go.Proofs.YtkcmmghhghgdpaaW.PrintLast
set_option linter.unusedVariables false
set_option linter.unusedSimpArgs false

set_option maxRecDepth 100000 in
set_option maxHeartbeats 4000000 in
theorem insert_grow (B vb g cap i : Nat) (c : Cl) (l : List Cl) (W : World) (hB : B ≤ W.heap.size) (hi : i < l.length) (hroom : cap < l.length + 1) (hlen : l.length ≤ 1024) (hrow : W.ownsRow B tC 3 (.slice (some ⟨g, 0, none⟩) l.length cap) l.length (flat l)) (hv : Blk W vb tC (cC c).toArray) :
    Calls Try.prog 45 #[.slice (some ⟨g, 0, none⟩) l.length cap, .int .i64 (i : Int), .slice (some ⟨vb, 0, none⟩) 1 1] W fun e W' => ∃ v', e = .returned v' ∧ W'.ownsRow B tC 3 v' (l.length + 1) (flat (l.take i ++ c :: l.drop i)) ∧ W.grownBy W' (some g) ∧ v'.ownBlock = some W.heap.size := by
  obtain ⟨cur, hBg, hgb, hlc, hcm, hcs, htake⟩ : ∃ cur, B ≤ g ∧ W.heap[g]? = some (.cells cur tC (0, 0)) ∧ l.length ≤ cap ∧ cap ≤ maxLen ∧ cur.size = cap * 3 ∧ cur.toList.take (l.length * 3) = flat l := by
    rcases hrow.2 with ⟨h, _⟩ | ⟨g', cap', cur, e, hb, hg, hc, hm, hs, ht⟩
    · cases h
    · injection e with e1 e2 e3
      injection e1 with e1
      injection e1 with e1
      subst e1
      subst e3
      exact ⟨cur, hb, hg, hc, hm, hs, ht⟩
  obtain ⟨i0, hif, hz0, hz1, hz2⟩ := info_parts infoC
  have hgl : g < W.heap.size := (Array.getElem?_eq_some_iff.1 hgb).1
  have hvl : vb < W.heap.size := hv.lt
  have hfl := flat_len l
  have hfd := flat_len (l.drop i)
  rw [List.length_drop] at hfd
  have hft := flat_len (l.take i)
  rw [List.length_take, Nat.min_eq_left (by omega)] at hft
  have hcc : (cC c).length = 3 := rfl
  have hcellA : ∀ j u, (flat l)[j]? = some u → W.cell? ⟨g, j, none⟩ = some u := fun j u hj => by
    rw [← htake] at hj
    have hjl : j < l.length * 3 := by
      have := (List.getElem?_eq_some_iff.1 hj).1
      rw [List.length_take] at this
      omega
    rw [List.getElem?_take_of_lt hjl, Array.getElem?_toList] at hj
    simp [World.cell?, hgb, hj]
  have hold : (Builtin.firstCells i0.size i (.slice (some ⟨g, 0, none⟩) i cap)).run Try.prog W.drew = .ok (flat (l.take i)).toArray W.drew := by
    rw [hz1]
    refine run_firstCells_some W.drew 3 i ⟨g, 0, none⟩ i cap (flat (l.take i)) hft (fun j u hj => ?_)
    rw [Addr.add_lit, Nat.zero_add]
    refine hcellA j u ?_
    rw [← flat_take, List.getElem?_take] at hj
    split at hj
    · exact hj
    · cases hj
  have hk1 : i + (l.length + 1 - i) = l.length + 1 := by omega
  have happ : ∀ ty, (Builtin.append_ #[slC, 3] ty #[.slice (some ⟨g, 0, none⟩) i cap, .int .i64 ((l.length : Int) + 1 - (i : Int))]).run Try.prog W = .ok (.slice (some ⟨W.heap.size, 0, none⟩) (l.length + 1) (grownCap W (l.length + 1) cap tC)) (W.drew.alloc (.cells ((flat (l.take i)).toArray ++ Builtin.zeroCells (Value.agg #[.int .i64 0, .int .i64 0, .int .i64 0]).cells (l.length + 1 - i) ++ Builtin.zeroCells (Value.agg #[.int .i64 0, .int .i64 0, .int .i64 0]).cells (grownCap W (l.length + 1) cap tC - (l.length + 1))) tC)) := fun ty => by
    have h := Lib.run_append_grow_zeros W slC 3 ty tC i0 _ .i64 .i64 Try.underlying41 Try.underlying3 hif hz0 (some ⟨g, 0, none⟩) i cap (flat (l.take i)) hold (l.length + 1 - i) (by omega) (by omega) (by omega) (by omega) (by rw [hz2]; omega) (by rw [hz2, hk1]; exact growslice_fits hroom (by omega))
    rw [hk1] at h
    rw [show ((l.length : Int) + 1 - (i : Int)) = ((l.length + 1 - i : Nat) : Int) by omega]
    exact h
  obtain ⟨Gc, hGc⟩ : ∃ x, grownCap W (l.length + 1) cap tC = x := ⟨_, rfl⟩
  rw [hGc] at happ
  have hG1 : l.length + 1 ≤ Gc := by rw [← hGc]; exact grownCap_ge W _ _ _
  have hG2 : Gc ≤ maxLen := by rw [← hGc]; exact grownCap_le_maxLen W _ _ _ (by unfold maxLen; omega)
  obtain ⟨ROW, hROW⟩ : ∃ x : Array Value, (flat (l.take i)).toArray ++ Builtin.zeroCells (Value.agg #[.int .i64 0, .int .i64 0, .int .i64 0]).cells (l.length + 1 - i) ++ Builtin.zeroCells (Value.agg #[.int .i64 0, .int .i64 0, .int .i64 0]).cells (Gc - (l.length + 1)) = x := ⟨_, rfl⟩
  rw [hROW] at happ
  have hzs : (Value.agg #[Value.int .i64 0, .int .i64 0, .int .i64 0]).cells.size = 3 := rfl
  have hsR : ROW.size = Gc * 3 := by
    rw [← hROW]
    simp only [Array.size_append, List.size_toArray, size_zeroCells, hzs, hft]
    omega
  have hRt : ROW.toList.take (i * 3) = flat (l.take i) := by
    rw [← hROW, ← hft]
    simp only [Array.toList_append, List.append_assoc]
    exact List.take_left
  obtain ⟨N, hN⟩ : ∃ x, W.heap.size = x := ⟨_, rfl⟩
  rw [hN] at happ hgl hvl hB
  have hg0 : (W.drew.alloc (.cells ROW tC)).heap[N]? = some (.cells ROW tC (0, 0)) := by rw [← hN]; exact heap_alloc_new W.drew _
  have hold0 : ∀ k, k < N → (W.drew.alloc (.cells ROW tC)).heap[k]? = W.heap[k]? := fun k hk => Below.heap_alloc W.drew _ k (by rw [← hN] at hk; exact hk)
  -- v
  have hcpA : ∀ X : World, X.heap = (W.drew.alloc (.cells ROW tC)).heap → ∀ ty dc, (Builtin.copy_ #[slC, slC] ty #[.slice (some ⟨N, i * 3, none⟩) (l.length + 1 - i) dc, .slice (some ⟨vb, 0, none⟩) 1 1]).run Try.prog X = .ok (goInt (Nat.min 1 (l.length + 1 - i))) (X.setRow N (ROW.toList.take (i * 3) ++ cC c ++ ROW.toList.drop (i * 3 + (cC c).length)).toArray) := fun X hX ty dc =>
    run_copy_row X slC slC ty tC i0 Try.underlying41 hif N (i * 3) (l.length + 1 - i) dc ⟨vb, 0, none⟩ 1 1 (cC c) (by rw [hcc, hz1]; simp only [Nat.min_def]; split <;> omega)
      (fun j u hj => by
        rw [Addr.add_lit, Nat.zero_add]
        have hb : Blk X vb tC (cC c).toArray := by show X.heap[vb]? = _; rw [hX, hold0 vb hvl]; exact hv
        rw [hb.cell j]
        simpa using hj) ROW (by rw [hX]; exact hg0) (by omega) (by simp [cC, Value.oneCell'])
  obtain ⟨cur1, hcur1⟩ : ∃ x : Array Value, (ROW.toList.take (i * 3) ++ cC c ++ ROW.toList.drop (i * 3 + (cC c).length)).toArray = x := ⟨_, rfl⟩
  rw [hcur1] at hcpA
  have hs1 : cur1.size = Gc * 3 := by
    rw [← hcur1]
    simp only [List.size_toArray, List.length_append, List.length_take, List.length_drop, Array.length_toList, hcc]
    omega
  have hg1 : ∀ X : World, X.heap = ((W.drew.alloc (.cells ROW tC)).setRow N cur1).heap → X.heap[N]? = some (.cells cur1 tC (0, 0)) := fun X hX => by rw [hX]; exact setRow_heap _ N ROW cur1 tC (0, 0) hg0
  have hold1 : ∀ X : World, X.heap = ((W.drew.alloc (.cells ROW tC)).setRow N cur1).heap → ∀ k, k < N → X.heap[k]? = W.heap[k]? := fun X hX k hk => by rw [hX, setRow_other _ N k _ (by omega)]; exact hold0 k hk
  have hcpB : ∀ X : World, X.heap = ((W.drew.alloc (.cells ROW tC)).setRow N cur1).heap → ∀ ty dc sc, (Builtin.copy_ #[slC, slC] ty #[.slice (some ⟨N, (i + 1) * 3, none⟩) (l.length - i) dc, .slice (some ⟨g, i * 3, none⟩) (l.length - i) sc]).run Try.prog X = .ok (goInt (Nat.min (l.length - i) (l.length - i))) (X.setRow N (cur1.toList.take ((i + 1) * 3) ++ flat (l.drop i) ++ cur1.toList.drop ((i + 1) * 3 + (flat (l.drop i)).length)).toArray) := fun X hX ty dc sc =>
    run_copy_row X slC slC ty tC i0 Try.underlying41 hif N ((i + 1) * 3) (l.length - i) dc ⟨g, i * 3, none⟩ (l.length - i) sc (flat (l.drop i)) (by rw [hfd, hz1]; simp only [Nat.min_def]; split <;> omega)
      (fun j u hj => by
        rw [Addr.add_lit]
        rw [← flat_drop, List.getElem?_drop] at hj
        have := hcellA _ _ hj
        rw [World.cell?_of_block (w := W) (w' := X) (hold1 X hX g hgl)]
        exact this) cur1 (hg1 X hX) (by omega) (flat_one _)
  obtain ⟨cur2, hcur2⟩ : ∃ x : Array Value, (cur1.toList.take ((i + 1) * 3) ++ flat (l.drop i) ++ cur1.toList.drop ((i + 1) * 3 + (flat (l.drop i)).length)).toArray = x := ⟨_, rfl⟩
  rw [hcur2] at hcpB
  have hs2 : cur2.size = Gc * 3 := by
    rw [← hcur2]
    simp only [List.size_toArray, List.length_append, List.length_take, List.length_drop, Array.length_toList]
    omega
  have ht2 : cur2.toList.take ((l.length + 1) * 3) = flat (l.take i ++ c :: l.drop i) := by
    have e1 : cur1.toList.take ((i + 1) * 3) = flat (l.take i) ++ cC c := by
      rw [← hcur1, hRt, List.take_append_of_le_length (by rw [List.length_append, hft, hcc]; omega), List.take_of_length_le (by rw [List.length_append, hft, hcc]; omega)]
    rw [flat_ins, ← hcur2, e1, List.take_append_of_le_length (by simp only [List.length_append, hft, hcc]; omega), List.take_of_length_le (by simp only [List.length_append, hft, hcc]; omega), List.append_assoc]
  have hfin : ∀ X : World, X.heap = (((W.drew.alloc (.cells ROW tC)).setRow N cur1).setRow N cur2).heap → X.ownsRow B tC 3 (.slice (some ⟨N, 0, none⟩) (l.length + 1) Gc) (l.length + 1) (flat (l.take i ++ c :: l.drop i)) := fun X hX =>
    ⟨by rw [flat_len, ins_take i c l (by omega)], .inr ⟨N, Gc, cur2, rfl, hB, by rw [hX]; exact setRow_heap _ N cur1 cur2 tC (0, 0) (hg1 _ rfl), hG1, hG2, hs2, ht2⟩⟩
  have hgr : ∀ X : World, X.heap = (((W.drew.alloc (.cells ROW tC)).setRow N cur1).setRow N cur2).heap → X.os = W.os → X.tape = W.tape → X.output = W.output → W.grownBy X (some g) := fun X hX h1 h2 h3 =>
    ⟨h1, h2, h3, by rw [hX]; simp, fun k hk _ => by rw [hX, setRow_other _ N k _ (by omega)]; exact hold1 _ rfl k (by omega)⟩
  have hfin' := Lib.hid hfin
  have hgr' := Lib.hid hgr
  have hcpA' := Lib.hid hcpA
  have hcpB' := Lib.hid hcpB
  have happ' := Lib.hid happ
  have mixed : Try.prog.follows Departure.mixedOrders = true := by kernel_rfl
  have hz2' : ¬ ((i : Int) = (l.length : Int)) := by omega
  have hw1 : IntKind.i64.wrap ((i : Int) + 1) = (i : Int) + 1 := IntWalk.i64_in _ (by omega)
  have hw2 : IntKind.i64.wrap ((l.length : Int) + 1) = (l.length : Int) + 1 := IntWalk.i64_in _ (by omega)
  have hw3 : IntKind.i64.wrap ((l.length : Int) + 1 - (i : Int)) = (l.length : Int) + 1 - (i : Int) := IntWalk.i64_in _ (by omega)
  have hb1 : (0 : Int) ≤ (i : Int) + 1 := by omega
  have hb3 : (i : Int) + 1 ≤ (l.length : Int) + 1 := by omega
  have hb5 : (cap : Int) < (l.length : Int) + 1 := by omega
  have hb6 : ((i : Int) + 1).toNat = i + 1 := by omega
  have hin : i ≤ l.length := by omega
  have hin1 : (i : Int) ≤ (l.length : Int) + 1 := by omega
  have hin2 : i ≤ l.length + 1 := by omega
  have hin3 : i ≤ cap := by omega
  have hc1 : ¬ (Gc = i + 1) := by omega
  have hc2 : ¬ (Gc = i) := by omega
  have hc4 : ¬ (cap = i) := by omega
  have hc3 : l.length + 1 - (i + 1) = l.length - i := by omega
  clear hfin hgr hcpA hcpB happ hg0 hg1 hs1 hs2 ht2 hcur1 hcur2 hcellA htake hcs hgb hrow hv hold hold0 hold1 hROW hsR hRt hGc
  go_enter Try.func45, Try.ntmps45
  go_wp2_with (first
    | (refine Lib.wpList_append_run _ rfl _ _ _ _ rfl _ _ rfl rfl _ _ (happ'.out _) ?_)
    | (refine wpList_copy_runI _ rfl _ _ slC slC rfl _ _ rfl rfl (hcpA'.out _ (by rfl) _ _) ?_))
  go_region_law_o (refine step_copy_runI rfl _ _ slC slC rfl (.slice (some ⟨N, (i + 1) * 3, none⟩) (l.length - i) (Gc - (i + 1))) (.slice (some ⟨g, i * 3, none⟩) (l.length - i) (cap - i)) (by simp [Act.eval, Act.put]) (by simp [Act.eval, Act.put]) (hcpB'.out _ (by rfl) _ _ _) ?_)
  go_wp2
  go_ret
  exact ⟨_, rfl, hfin'.out _ (by rfl), hgr'.out _ (by rfl) (by rfl) (by rfl) (by rfl), by rw [hN]; rfl⟩
theorem insert_calls (B vb i : Nat) (v : Value) (c : Cl) (l : List Cl) (W : World) (hB : B ≤ W.heap.size) (hi : i ≤ l.length) (hlen : l.length ≤ 1024) (hrow : W.ownsRow B tC 3 v l.length (flat l)) (hv : Blk W vb tC (cC c).toArray) (hne : v.ownBlock ≠ some vb) :
    Calls Try.prog 45 #[v, .int .i64 (i : Int), .slice (some ⟨vb, 0, none⟩) 1 1] W fun e W' => ∃ v', e = .returned v' ∧ W'.ownsRow B tC 3 v' (l.length + 1) (flat (l.take i ++ c :: l.drop i)) ∧ W.grownBy W' v.ownBlock ∧ (v'.ownBlock = v.ownBlock ∨ v'.ownBlock = some W.heap.size) := by
  by_cases he : i = l.length
  · subst he
    have := insert_end B vb v c l W hB hlen hrow hv
    rw [List.take_of_length_le (Nat.le_refl _), List.drop_of_length_le (Nat.le_refl _)]
    exact this
  · have hlt : i < l.length := by omega
    rcases hrow.2 with ⟨_, h0⟩ | ⟨g, cap, cur, rfl, _, _, hc, _⟩
    · omega
    · by_cases hroom : l.length + 1 ≤ cap
      · refine (insert_shift B vb g cap i c l W hlt hroom hlen hrow hv (fun e => hne (by rw [e]; rfl))).mono ?_
        rintro e W' ⟨rfl, h1, h2⟩
        exact ⟨_, rfl, h1, h2, .inl rfl⟩
      · refine (insert_grow B vb g cap i c l W hB hlt (by omega) hlen hrow hv).mono ?_
        rintro e W' ⟨v', rfl, h1, h2, h3⟩
        exact ⟨_, rfl, h1, h2, .inr h3⟩
end Go.Proofs.Ytkcmmghhghgdpaa.Str
