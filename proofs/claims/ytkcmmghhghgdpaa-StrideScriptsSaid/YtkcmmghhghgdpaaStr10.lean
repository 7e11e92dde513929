/- slices.Insert of one client: its contract. -/
import Derived.Test.YtkcmmghhghgdpaaStr9
import Derived.Lib.AppendZerosOnto
import Derived.Lib.Overlaps
import Derived.Lib.AppendZeros
namespace Go.Proofs.Ytkcmmghhghgdpaa.Str
open Go.RowKit Go.Shelf Go.Maps Go.Proofs.Ytkcmmghhghgdpaa.Iter Go.Proofs.Ytkcmmghhghgdpaa.SeqM Go.Proofs.YtkcmmghhghgdpaaW.PrintWords Go.Proofs.YtkcmmghhghgdpaaW.PrintLast
set_option linter.unusedVariables false
set_option linter.unusedSimpArgs false
/-- copy, into a row that the block g holds: all is read before anything is written. -/
theorem run_copy_row {P : Program} (w : World) (t t' ty e : TypeId) (i : TypeInfo) (ht : P.underlying t = some (.slice e)) (hi : P.info? e = some i) (g o dLen dCap : Nat) (a : Addr) (sLen sCap : Nat) (cs : List Value)
    (hl : cs.length = Nat.min sLen dLen * i.size) (hsrc : ∀ j u, cs[j]? = some u → w.cell? (a.add j) = some u) (cur : Array Value) (hg : w.heap[g]? = some (.cells cur e (0, 0))) (hfit : o + cs.length ≤ cur.size) (h1 : ∀ u ∈ cs, u.oneCell' = true) :
    (Builtin.copy_ #[t, t'] ty #[.slice (some ⟨g, o, none⟩) dLen dCap, .slice (some a) sLen sCap]).run P w = .ok (goInt (Nat.min sLen dLen)) (w.setRow g (cur.toList.take o ++ cs ++ cur.toList.drop (o + cs.length)).toArray) := by
  have hf := run_firstCells_some (P := P) w i.size (Nat.min sLen dLen) a sLen sCap cs hl hsrc
  have hst := run_storeCells_at P g o e cs 0 cur w hg (by simpa using hfit) h1
  simp only [Nat.add_zero] at hst
  simp [Builtin.copy_, run_underlying ht, sizeOf, typeInfo, hi, Builtin.lenOf, hf, hst]
theorem ins_take (i : Nat) (c : Cl) (l : List Cl) (hi : i ≤ l.length) : (l.take i ++ c :: l.drop i).length = l.length + 1 := by
  rw [List.length_append, List.length_take, List.length_cons, List.length_drop]; omega
theorem flat_ins (i : Nat) (c : Cl) (l : List Cl) : flat (l.take i ++ c :: l.drop i) = flat (l.take i) ++ (cC c ++ flat (l.drop i)) := by rw [flat_app, flat_cons]
theorem infoC3 : Try.prog.info? 44 ≠ none := by
  obtain ⟨i0, h, _⟩ := info_parts infoC
  rw [h]; simp

/-- append to a row of one's own: and where the new row lies. -/
theorem run_append_own2 {P : Program} (w : World) (base : Nat) (t ty e : TypeId) (i : TypeInfo) (z : Value) (size bytes : Nat) (ht : P.underlying t = some (.slice e)) (hi : P.info? e = some i) (hz : i.zero = some z)
    (hsize : i.size = size) (hby : i.bytes = bytes) (hzs : z.cells.size = size) (hsz : 0 < size)
    (v : Value) (n : Nat) (xs : List Value) (hown : w.ownsRow base e size v n xs)
    (a : Addr) (m c : Nat) (news : List Value) (hl : news.length = m * size) (hnews : ∀ j u, news[j]? = some u → w.cell? (a.add j) = some u) (h1 : ∀ u ∈ news, u.oneCell' = true)
    (h63 : n + m ≤ maxLen) (hbytes : (n + m) * bytes ≤ 140737488355328) (hbase : base ≤ w.heap.size) :
    ∃ v' w', (Builtin.append_ #[t, t] ty #[v, .slice (some a) m c]).run P w = .ok v' w' ∧ w'.ownsRow base e size v' (n + m) (xs ++ news) ∧ w.grownBy w' v.ownBlock ∧
      (v'.ownBlock = v.ownBlock ∨ v'.ownBlock = some w.heap.size) := by
  obtain ⟨v', w', hr, h2, h3, h4⟩ := run_append_own (P := P) w base t ty e i z size bytes ht hi hz hsize hby hzs hsz v n xs hown a m c news hl hnews h1 h63 hbytes hbase
  refine ⟨v', w', hr, h2, h3, ?_⟩
  subst hsize
  subst hby
  have hm63 : n + m ≤ 9223372036854775807 := by simp only [maxLen] at h63; omega
  rcases hown.2 with ⟨rfl, rfl⟩ | ⟨g, cap, cur, rfl, hbg, hg, hnc, hcm, hcs, htake⟩
  · by_cases hm : m = 0
    · exact .inl (by rw [h4.2 ⟨rfl, hm⟩])
    · have := run_append_nil (P := P) w t ty e i z ht hi hz a m c news hl hnews (by omega) (by omega) (by have hb := hbytes; simp only [Nat.zero_add] at hb; omega)
      rw [hr] at this
      injection this with e1 e2
      exact .inr (by rw [e1]; rfl)
  · by_cases hroom : n + m ≤ cap
    · have := run_append_room (P := P) w t ty e i ht hi g n cap cur hg a m c news hl hnews h1 hroom (by rw [hl, hcs, ← Nat.add_mul]; exact Nat.mul_le_mul_right _ hroom)
      rw [hr] at this
      injection this with e1 e2
      exact .inl (by rw [e1]; rfl)
    · have holds : ∀ j u, xs[j]? = some u → w.cell? ((⟨g, 0, none⟩ : Addr).add j) = some u := hown.cells (g := g) rfl
      have := run_append_grow (P := P) w t ty e i z ht hi hz ⟨g, 0, none⟩ n cap xs hown.1 holds a m c news hl hnews (by omega) (by omega) (growslice_fits (by omega) hbytes)
      rw [hr] at this
      injection this with e1 e2
      exact .inr (by rw [e1]; rfl)
set_option maxRecDepth 100000 in
set_option maxHeartbeats 4000000 in
/-- At the end. -/
theorem insert_end (B vb : Nat) (v : Value) (c : Cl) (l : List Cl) (W : World) (hB : B ≤ W.heap.size) (hlen : l.length ≤ 1024) (hrow : W.ownsRow B tC 3 v l.length (flat l)) (hv : Blk W vb tC (cC c).toArray) :
    Calls Try.prog 45 #[v, .int .i64 (l.length : Int), .slice (some ⟨vb, 0, none⟩) 1 1] W fun e W' => ∃ v', e = .returned v' ∧ W'.ownsRow B tC 3 v' (l.length + 1) (flat (l ++ [c])) ∧ W.grownBy W' v.ownBlock ∧ (v'.ownBlock = v.ownBlock ∨ v'.ownBlock = some W.heap.size) := by
  obtain ⟨i0, hif, hz0, hz1, hz2⟩ := info_parts infoC
  have hcell : ∀ j u, (cC c)[j]? = some u → W.cell? (Addr.add ⟨vb, 0, none⟩ j) = some u := fun j u hj => by
    rw [Addr.add_lit, Nat.zero_add]
    rw [hv.cell j]
    simpa using hj
  have hA := Lib.hid hcell
  have hrow' := Lib.hid hrow
  have hlm : l.length + 1 ≤ maxLen := by unfold maxLen; omega
  obtain ⟨A, cap, rfl, hcap⟩ : ∃ A cap, v = .slice A l.length cap ∧ l.length ≤ cap := by
    rcases hrow.2 with ⟨rfl, h0⟩ | ⟨g, cap, cur, rfl, _, _, hc, _⟩
    · exact ⟨none, 0, by rw [h0], by omega⟩
    · exact ⟨_, cap, rfl, hc⟩
  obtain ⟨v', w', hr, h2, h3, h4⟩ := run_append_own2 (P := Try.prog) W B slC slC tC i0 _ 3 24 Try.underlying41 hif hz0 hz1 hz2 rfl (by decide) _ _ _ hrow ⟨vb, 0, none⟩ 1 1 (cC c) rfl hcell (by simp [cC, Value.oneCell']) (by omega) (by omega) hB
  have hr' := Lib.hid hr
  have h2' := Lib.hid h2
  have h3' := Lib.hid h3
  have h4' := Lib.hid h4
  clear hrow hcell hv hr h2 h3 h4
  go_enter Try.func45, Try.ntmps45
  go_wp2_with (refine Lib.wpList_append_run _ rfl _ _ _ _ rfl _ _ rfl rfl _ _ hr'.out ?_)
  all_goals
    go_ret
    have e9 : ∀ c', (Value.slice A l.length c').ownBlock = (Value.slice A l.length cap).ownBlock := fun c' => by cases A <;> rfl
    refine ⟨v', rfl, ?_, by first | exact h3'.out | (rw [e9]; exact h3'.out), by first | exact h4'.out | (rw [e9]; exact h4'.out)⟩
    rw [flat_app, show flat [c] = cC c by simp [flat]]
    exact h2'.out

set_option maxRecDepth 100000 in
set_option maxHeartbeats 4000000 in
/-- There is room: in place. -/
theorem insert_shift (B vb g cap i : Nat) (c : Cl) (l : List Cl) (W : World) (hi : i < l.length) (hroom : l.length + 1 ≤ cap) (hlen : l.length ≤ 1024) (hrow : W.ownsRow B tC 3 (.slice (some ⟨g, 0, none⟩) l.length cap) l.length (flat l)) (hv : Blk W vb tC (cC c).toArray) (hne : vb ≠ g) :
    Calls Try.prog 45 #[.slice (some ⟨g, 0, none⟩) l.length cap, .int .i64 (i : Int), .slice (some ⟨vb, 0, none⟩) 1 1] W fun e W' => e = .returned (.slice (some ⟨g, 0, none⟩) (l.length + 1) cap) ∧ W'.ownsRow B tC 3 (.slice (some ⟨g, 0, none⟩) (l.length + 1) cap) (l.length + 1) (flat (l.take i ++ c :: l.drop i)) ∧ W.grownBy W' (some g) := by
  obtain ⟨cur, hBg, hgb, hlc, hcm, hcs, htake⟩ : ∃ cur, B ≤ g ∧ W.heap[g]? = some (.cells cur tC (0, 0)) ∧ l.length ≤ cap ∧ cap ≤ maxLen ∧ cur.size = cap * 3 ∧ cur.toList.take (l.length * 3) = flat l := by
    rcases hrow.2 with ⟨h, _⟩ | ⟨g', cap', cur, e, hb, hg, hc, hm, hs, ht⟩
    · cases h
    · injection e with e1 e2 e3
      injection e1 with e1
      injection e1 with e1
      subst e1
      subst e3
      exact ⟨cur, hb, hg, hc, hm, hs, ht⟩
  obtain ⟨i0, hif, hz0, hz1, hz2⟩ := info_parts infoC
  have hfl := flat_len l
  have hfd := flat_len (l.drop i)
  rw [List.length_drop] at hfd
  have hcc : (cC c).length = 3 := rfl
  have hcellA : ∀ j u, (flat l)[j]? = some u → W.cell? ⟨g, j, none⟩ = some u := fun j u hj => by
    rw [← htake] at hj
    have hjl : j < l.length * 3 := by
      have := (List.getElem?_eq_some_iff.1 hj).1
      rw [List.length_take] at this
      omega
    rw [List.getElem?_take_of_lt hjl, Array.getElem?_toList] at hj
    simp [World.cell?, hgb, hj]
  -- what overlaps answers
  have hov : ∀ lb cb, (callFunc 75 #[.slice (some ⟨vb, 0, none⟩) 1 1, .slice (some ⟨g, (i + 1) * 3, none⟩) lb cb]).run Try.prog W = .ok (.value (.bool false)) W := fun lb cb => by
    rw [run_callFunc_extern Try.func75 (by kernel_rfl) (by kernel_rfl) (by kernel_rfl) (e := Extern.SlicesOverlaps.overlaps #[slC, slC] #[4]) (by kernel_rfl),
      Lib.run_overlaps_apart W slC 4 tC Try.underlying41 3 (fun w => by simp [sizeOf, typeInfo, hif, hz1]) ⟨vb, 0, none⟩ ⟨g, (i + 1) * 3, none⟩ 1 1 lb cb hne tC tC 3 (cap * 3) (by simp [World.shape?, show W.heap[vb]? = _ from hv, hcc, cC]) (by simp [World.shape?, hgb, hcs]) (by omega) (hv.frozen 0) (hv.frozen 3)]
    rfl
  -- the cells behind i, one on
  have hcp1 : ∀ ty dc sc, (Builtin.copy_ #[slC, slC] ty #[.slice (some ⟨g, (i + 1) * 3, none⟩) (l.length - i) dc, .slice (some ⟨g, i * 3, none⟩) (l.length + 1 - i) sc]).run Try.prog W.drew = _ := fun ty dc sc =>
    run_copy_row W.drew slC slC ty tC i0 Try.underlying41 hif g ((i + 1) * 3) (l.length - i) dc ⟨g, i * 3, none⟩ (l.length + 1 - i) sc (flat (l.drop i)) (by rw [hfd, hz1]; simp only [Nat.min_def]; split <;> omega)
      (fun j u hj => by
        rw [Addr.add_lit]
        refine hcellA _ _ ?_
        rw [← flat_drop, List.getElem?_drop] at hj
        exact hj) cur hgb (by omega) (flat_one _)
  obtain ⟨cur1, hcur1⟩ : ∃ x : Array Value, (cur.toList.take ((i + 1) * 3) ++ flat (l.drop i) ++ cur.toList.drop ((i + 1) * 3 + (flat (l.drop i)).length)).toArray = x := ⟨_, rfl⟩
  rw [hcur1] at hcp1
  have hg1 : (W.drew.setRow g cur1).heap[g]? = some (.cells cur1 tC (0, 0)) := setRow_heap W.drew g cur cur1 tC (0, 0) hgb
  have hs1 : cur1.size = cap * 3 := by
    rw [← hcur1]
    simp only [List.size_toArray, List.length_append, List.length_take, List.length_drop, Array.length_toList]
    omega
  have hcp2 : ∀ ty dc, (Builtin.copy_ #[slC, slC] ty #[.slice (some ⟨g, i * 3, none⟩) (l.length + 1 - i) dc, .slice (some ⟨vb, 0, none⟩) 1 1]).run Try.prog (W.drew.setRow g cur1) = _ := fun ty dc =>
    run_copy_row (W.drew.setRow g cur1) slC slC ty tC i0 Try.underlying41 hif g (i * 3) (l.length + 1 - i) dc ⟨vb, 0, none⟩ 1 1 (cC c) (by rw [hcc, hz1]; simp only [Nat.min_def]; split <;> omega)
      (fun j u hj => by
        rw [Addr.add_lit, Nat.zero_add]
        have hb : Blk (W.drew.setRow g cur1) vb tC (cC c).toArray := (setRow_other W.drew g vb cur1 hne).trans hv
        rw [hb.cell j]
        simpa using hj) cur1 hg1 (by omega) (by simp [cC, Value.oneCell'])
  obtain ⟨cur2, hcur2⟩ : ∃ x : Array Value, (cur1.toList.take (i * 3) ++ cC c ++ cur1.toList.drop (i * 3 + (cC c).length)).toArray = x := ⟨_, rfl⟩
  rw [hcur2] at hcp2
  have hg2 : ((W.drew.setRow g cur1).setRow g cur2).heap[g]? = some (.cells cur2 tC (0, 0)) := setRow_heap _ g cur1 cur2 tC (0, 0) hg1
  have hs2 : cur2.size = cap * 3 := by
    rw [← hcur2]
    simp only [List.size_toArray, List.length_append, List.length_take, List.length_drop, Array.length_toList, hcc]
    omega
  have ht2 : cur2.toList.take ((l.length + 1) * 3) = flat (l.take i ++ c :: l.drop i) := by
    have e1 : cur1.toList.take (i * 3) = flat (l.take i) := by
      rw [← hcur1, List.append_assoc, List.take_append_of_le_length (by simp only [List.length_take, Array.length_toList]; omega), List.take_take, show min (i * 3) ((i + 1) * 3) = i * 3 by omega, ← flat_take, ← htake, List.take_take, show min (i * 3) (l.length * 3) = i * 3 by omega]
    have e2 : (cur1.toList.drop (i * 3 + 3)).take ((l.length - i) * 3) = flat (l.drop i) := by
      rw [← hcur1, List.append_assoc, show i * 3 + 3 = (i + 1) * 3 by omega, List.drop_append_of_le_length (by simp only [List.length_take, Array.length_toList]; omega), List.drop_of_length_le (by simp only [List.length_take, Array.length_toList]; omega), List.nil_append, List.take_append_of_le_length (by omega), List.take_of_length_le (by omega)]
    rw [flat_ins, ← hcur2, hcc, e1, List.append_assoc, show (l.length + 1) * 3 = (flat (l.take i)).length + (3 + (l.length - i) * 3) by rw [flat_len, List.length_take]; omega, List.take_length_add_append, show 3 + (l.length - i) * 3 = (cC c).length + (l.length - i) * 3 by rw [hcc], List.take_length_add_append, e2]
  have hfin : ((W.drew.setRow g cur1).setRow g cur2).ownsRow B tC 3 (.slice (some ⟨g, 0, none⟩) (l.length + 1) cap) (l.length + 1) (flat (l.take i ++ c :: l.drop i)) :=
    ⟨by rw [flat_len, ins_take i c l (by omega)], .inr ⟨g, cap, cur2, rfl, hBg, hg2, hroom, hcm, hs2, ht2⟩⟩
  have hgr : W.grownBy ((W.drew.setRow g cur1).setRow g cur2) (some g) := by
    have h1 := setRow_grown W.drew g cur cur1 tC hgb
    have h2 := setRow_grown _ g cur1 cur2 tC hg1
    exact ⟨h2.os.trans h1.os, h2.tape.trans h1.tape, h2.output.trans h1.output, Nat.le_trans h1.size h2.size, fun k hk hne => (h2.block k (Nat.lt_of_lt_of_le hk h1.size) hne).trans (h1.block k hk hne)⟩
  have hfin' := Lib.hid hfin
  have hgr' := Lib.hid hgr
  have hcp1' := Lib.hid hcp1
  have hcp2' := Lib.hid hcp2
  have mixed : Try.prog.follows Departure.mixedOrders = true := by kernel_rfl
  have hz2' : ¬ ((i : Int) = (l.length : Int)) := by omega
  have hw1 : IntKind.i64.wrap ((i : Int) + 1) = (i : Int) + 1 := IntWalk.i64_in _ (by omega)
  have hw2 : IntKind.i64.wrap ((l.length : Int) + 1) = (l.length : Int) + 1 := IntWalk.i64_in _ (by omega)
  have hb1 : (0 : Int) ≤ (i : Int) + 1 := by omega
  have hb2 : (0 : Int) ≤ (l.length : Int) + 1 := by omega
  have hb3 : (i : Int) + 1 ≤ (l.length : Int) + 1 := by omega
  have hb4 : (l.length : Int) + 1 ≤ (cap : Int) := by omega
  have hb5 : ¬ ((cap : Int) < (l.length : Int) + 1) := by omega
  have hb6 : ((i : Int) + 1).toNat = i + 1 := by omega
  have hb7 : ((l.length : Int) + 1).toNat = l.length + 1 := by omega
  have hin : i ≤ l.length := by omega
  have hin1 : (i : Int) ≤ (l.length : Int) + 1 := by omega
  have hin2 : i ≤ l.length + 1 := by omega
  have hc1 : ¬ (cap = i + 1) := by omega
  have hc2 : ¬ (cap = i) := by omega
  have hc3 : l.length + 1 - (i + 1) = l.length - i := by omega
  clear hfin hgr hcp1 hcp2 hg1 hg2 hs1 hs2 ht2 hcur1 hcur2 hcellA htake hcs hgb hrow hv
  go_enter Try.func45, Try.ntmps45
  go_wp2_with (simp only [hov])
  go_region_law_o (refine step_copy_runI rfl _ _ slC slC rfl (.slice (some ⟨g, (i + 1) * 3, none⟩) (l.length - i) (cap - (i + 1))) (.slice (some ⟨g, i * 3, none⟩) (l.length + 1 - i) (cap - i)) (by simp [Act.eval, Act.put]) (by simp [Act.eval, Act.put]) (hcp1'.out _ _ _) ?_)
  go_wp2_with (refine wpList_copy_runI _ rfl _ _ slC slC rfl _ _ rfl rfl (hcp2'.out _ _) ?_)
  trace_state
  go_ret
  exact ⟨rfl, hfin'.out, hgr'.out⟩
end Go.Proofs.Ytkcmmghhghgdpaa.Str
