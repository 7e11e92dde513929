/- slices.Delete of one client: its contract; laws on rows of more cells than one. -/
import Derived.Test.YtkcmmghhghgdpaaStr8
import Derived.Shelf.RegionOpenPlain
import Derived.Shelf.Spec.SlicesInsert
import Derived.Deep.RegionLaw
namespace Go.Proofs.Ytkcmmghhghgdpaa.Str
open Go.RowKit Go.Shelf Go.Maps Go.Proofs.Ytkcmmghhghgdpaa.Iter Go.Proofs.Ytkcmmghhghgdpaa.SeqM Go.Proofs.YtkcmmghhghgdpaaW.PrintWords Go.Proofs.YtkcmmghhghgdpaaW.PrintLast
set_option linter.unusedVariables false
set_option linter.unusedSimpArgs false
section
variable {P : Program}
theorem step_append_run {ops : Array Oper} {o : Oper} {a : Act} {w : World} {K : Act → World → Prop} {Q : Exit → Act → World → Prop} {E : Prop}
    (hg : o.guard = none) (d x : Operand) (dT sT : TypeId) (hop : o.op = Op.call { callee := Callee.builtin Builtin.append, args := #[d, x], argTypes := #[dT, sT] })
    (v u : Value) (hd : a.eval d = v) (hx : a.eval x = u) {v' : Value} {w' : World} (hr : (Builtin.append_ #[dT, sT] o.type #[v, u]).run P w = .ok v' w') (hK : K (a.put o.dst v') w') :
    if Region.wanted o (yielded ops a.tmps) = true then Oper.wp P o a w K Q else E := by
  have hw : Region.wanted o (yielded ops a.tmps) = true := by simp [Region.wanted, hg]
  rw [if_pos hw]
  unfold Oper.wp
  simp [execOp, hop, resolve, invoke, builtin, hd, hx, hr, Result.andThen]
  exact hK
theorem wpList_clear_run (w : World) {ops : Array Oper} {rest : List Oper} {o : Oper} {a : Act} {Q : Exit → Act → World → Prop} (hgd : o.guard = none) (x : Operand) (t : TypeId)
    (ho : o.op = Op.call { callee := Callee.builtin Builtin.clear, args := #[x], argTypes := #[t] }) (v : Value) (hs : a.eval x = v) {w' : World}
    (hr : (Builtin.clear_ #[t] o.type #[v]).run P w = .ok (.tuple #[]) w') (h : wpList P ops Q rest (a.put o.dst (.tuple #[])) w') : wpList P ops Q (o :: rest) a w := by
  refine wpList_plain hgd fun K hK => ?_
  unfold Oper.wp execOp
  simp only [ho, resolve, invoke, builtin, Sem.run_bind, Sem.run_pure, Result.andThen_ok, List.map_toArray, List.map_cons, List.map_nil, hs, hr]
  exact hK _ _ h
theorem run_clear_row (w : World) (t e ty : TypeId) (z : Value) (ht : P.underlying t = some (.slice e)) (hv : ∀ w, (zeroValue e).run P w = .ok z w) (zs : List Value) (n : Nat) (hz : (Builtin.zeroCells z.cells n).toList = zs)
    (h1 : ∀ u ∈ zs, u.oneCell' = true) (g o c : Nat) (hn : 0 < n) (cur : Array Value) (hg : w.heap[g]? = some (.cells cur e (0, 0))) (hl : o + zs.length ≤ cur.size) :
    (Builtin.clear_ #[t] ty #[.slice (some ⟨g, o, none⟩) n c]).run P w = .ok (.tuple #[]) (w.setRow g (cur.toList.take o ++ zs ++ cur.toList.drop (o + zs.length)).toArray) := by
  have hst := run_storeCells_at P g o e zs 0 cur w hg (by simpa using hl) h1
  simp only [Nat.add_zero] at hst
  obtain ⟨m, rfl⟩ : ∃ m, n = m + 1 := ⟨n - 1, by omega⟩
  simp [Builtin.clear_, run_underlying ht, hv, hz, hst]
end
theorem zeroC : (Builtin.zeroCells (Value.agg #[.int .i64 0, .int .i64 0, .int .i64 0]).cells 1).toList = [Value.int .i64 0, .int .i64 0, .int .i64 0] := by first | decide | kernel_rfl | (simp [Builtin.zeroCells, Value.cells])
theorem flat_erase {l : List Cl} {i : Nat} : flat (l.eraseIdx i) = flat (l.take i) ++ flat (l.drop (i + 1)) := by rw [List.eraseIdx_eq_take_drop_succ, flat_app]
theorem setRow_grown (w : World) (g : Nat) (old cs : Array Value) (t : TypeId) (hg : w.heap[g]? = some (.cells old t (0, 0))) : w.grownBy (w.setRow g cs) (some g) :=
  ⟨rfl, rfl, rfl, by simp, fun k _ hk => setRow_other w g k _ (fun e => hk (by rw [e]))⟩

set_option maxRecDepth 100000 in
set_option maxHeartbeats 4000000 in
theorem delete_calls (B g cap i : Nat) (l : List Cl) (W : World) (hi : i < l.length) (hlen : l.length ≤ 1024) (hrow : W.ownsRow B tC 3 (.slice (some ⟨g, 0, none⟩) l.length cap) l.length (flat l)) :
    Calls Try.prog 53 #[.slice (some ⟨g, 0, none⟩) l.length cap, .int .i64 i, .int .i64 ((i : Int) + 1)] W fun e W' => e = .returned (.slice (some ⟨g, 0, none⟩) (l.length - 1) cap) ∧ W'.ownsRow B tC 3 (.slice (some ⟨g, 0, none⟩) (l.length - 1) cap) (l.eraseIdx i).length (flat (l.eraseIdx i)) ∧ W.grownBy W' (some g) := by
  obtain ⟨hn0, cur, hBg, hgb, hlc, hcm, hcs, htake⟩ : ∃ _ : True, ∃ cur, B ≤ g ∧ W.heap[g]? = some (.cells cur tC (0, 0)) ∧ l.length ≤ cap ∧ cap ≤ maxLen ∧ cur.size = cap * 3 ∧ cur.toList.take (l.length * 3) = flat l := by
    rcases hrow.2 with ⟨h, _⟩ | ⟨g', cap', cur, e, hb, hg, hc, hm, hs, ht⟩
    · cases h
    · injection e with e1 e2 e3
      injection e1 with e1
      injection e1 with e1
      subst e1
      subst e3
      exact ⟨trivial, cur, hb, hg, hc, hm, hs, ht⟩
  obtain ⟨i0, hif, hz0, hz1, hz2⟩ := info_parts infoC
  have hfl := flat_len l
  have hfd := flat_len (l.drop (i + 1))
  rw [List.length_drop] at hfd
  have hcl : l.length * 3 ≤ cur.size := by omega
  have hcellA : ∀ j u, (flat l)[j]? = some u → W.cell? ⟨g, j, none⟩ = some u := fun j u hj => by
    rw [← htake] at hj
    have hjl : j < l.length * 3 := by
      have := (List.getElem?_eq_some_iff.1 hj).1
      rw [List.length_take] at this
      omega
    rw [List.getElem?_take_of_lt hjl, Array.getElem?_toList] at hj
    simp [World.cell?, hgb, hj]
  obtain ⟨A, hA, hsrc⟩ : ∃ A : Addr, (if cap = i + 1 then (⟨g, 0, none⟩ : Addr) else ⟨g, (i + 1) * 3, none⟩) = A ∧ Hid (∀ t u, (flat (l.drop (i + 1)))[t]? = some u → W.drew.cell? (A.add t) = some u) := by
    by_cases h : cap = i + 1
    · refine ⟨_, if_pos h, fun t u hu => ?_⟩
      have h0 : (flat (l.drop (i + 1))).length = 0 := by rw [hfd]; omega
      rw [List.length_eq_zero_iff.1 h0] at hu
      simp at hu
    · refine ⟨_, if_neg h, fun t u hu => ?_⟩
      rw [Addr.add_lit]
      show W.cell? _ = _
      refine hcellA _ _ ?_
      rw [← flat_drop] at hu
      rw [List.getElem?_drop] at hu
      exact hu
  have hroom := run_append_room (P := Try.prog) W.drew slC slC tC i0 Try.underlying41 hif g i cap cur hgb A (l.length - (i + 1)) (cap - (i + 1)) (flat (l.drop (i + 1))) (by rw [hfd, hz1]) hsrc (flat_one _) (by omega) (by rw [hfd, hz1]; omega)
  rw [hz1] at hroom
  rw [show i + (l.length - (i + 1)) = l.length - 1 by omega] at hroom
  obtain ⟨cur1, hcur1⟩ : ∃ c : Array Value, (cur.toList.take (i * 3) ++ flat (l.drop (i + 1)) ++ cur.toList.drop (i * 3 + (flat (l.drop (i + 1))).length)).toArray = c := ⟨_, rfl⟩
  rw [hcur1] at hroom
  have hg1 : (W.drew.setRow g cur1).heap[g]? = some (.cells cur1 tC (0, 0)) := setRow_heap W.drew g cur cur1 tC (0, 0) hgb
  have hs1 : cur1.size = cap * 3 := by
    rw [← hcur1]
    simp only [List.size_toArray, List.length_append, List.length_take, List.length_drop, Array.length_toList]
    omega
  have ht1 : cur1.toList.take ((l.length - 1) * 3) = flat (l.eraseIdx i) := by
    rw [← hcur1, flat_erase, ← flat_take, ← htake, List.take_take, show min (i * 3) (l.length * 3) = i * 3 by omega]
    rw [List.take_append_of_le_length (by simp only [List.length_append, List.length_take, Array.length_toList]; omega)]
    rw [List.take_of_length_le (by simp only [List.length_append, List.length_take, Array.length_toList]; omega)]
  have hclr : ∀ ty, (Builtin.clear_ #[slC] ty #[.slice (some ⟨g, (l.length - 1) * 3, none⟩) 1 (cap - (l.length - 1))]).run Try.prog (W.drew.setRow g cur1) = _ := fun ty =>
    run_clear_row (W.drew.setRow g cur1) slC tC ty _ Try.underlying41 Try.zeroValue44 _ 1 zeroC (by simp; rfl) g ((l.length - 1) * 3) (cap - (l.length - 1)) (by omega) cur1 hg1 (by simp; omega)
  obtain ⟨cur2, hcur2⟩ : ∃ c : Array Value, (cur1.toList.take ((l.length - 1) * 3) ++ [Value.int .i64 0, .int .i64 0, .int .i64 0] ++ cur1.toList.drop ((l.length - 1) * 3 + [Value.int .i64 0, .int .i64 0, .int .i64 0].length)).toArray = c := ⟨_, rfl⟩
  rw [hcur2] at hclr
  have hg2 : ((W.drew.setRow g cur1).setRow g cur2).heap[g]? = some (.cells cur2 tC (0, 0)) := setRow_heap _ g cur1 cur2 tC (0, 0) hg1
  have hs2 : cur2.size = cap * 3 := by
    rw [← hcur2]
    simp only [List.size_toArray, List.length_append, List.length_take, List.length_drop, Array.length_toList, List.length_cons, List.length_nil]
    omega
  have hel : (l.eraseIdx i).length = l.length - 1 := by rw [List.length_eraseIdx, if_pos hi]
  have ht2 : cur2.toList.take ((l.length - 1) * 3) = flat (l.eraseIdx i) := by
    rw [← hcur2, List.append_assoc, List.take_append_of_le_length (by simp only [List.length_take, Array.length_toList]; omega), List.take_take, Nat.min_self, ht1]
  have hfin : ((W.drew.setRow g cur1).setRow g cur2).ownsRow B tC 3 (.slice (some ⟨g, 0, none⟩) (l.length - 1) cap) (l.eraseIdx i).length (flat (l.eraseIdx i)) :=
    ⟨flat_len _, .inr ⟨g, cap, cur2, by rw [hel], hBg, hg2, by omega, hcm, hs2, by rw [hel]; exact ht2⟩⟩
  have hgr : W.grownBy ((W.drew.setRow g cur1).setRow g cur2) (some g) := by
    have h1 := setRow_grown W.drew g cur cur1 tC hgb
    have h2 := setRow_grown _ g cur1 cur2 tC hg1
    exact ⟨h2.os.trans h1.os, h2.tape.trans h1.tape, h2.output.trans h1.output, Nat.le_trans h1.size h2.size, fun k hk hne => (h2.block k (Nat.lt_of_lt_of_le hk h1.size) hne).trans (h1.block k hk hne)⟩
  have hfin' := Lib.hid hfin
  have hgr' := Lib.hid hgr
  have hroom' := Lib.hid hroom
  have hclr' := Lib.hid hclr
  have hic : i + 1 ≤ cap := by omega
  have hic2 : i ≤ cap := by omega
  have hj0 : (0 : Int) ≤ (i : Int) + 1 := by omega
  have hj1 : (i : Int) + 1 ≤ (l.length : Int) := by omega
  have mixed : Try.prog.follows Departure.mixedOrders = true := by kernel_rfl
  have hi2 : i + 1 ≤ l.length := by omega
  have hw1 : IntKind.i64.wrap ((i : Int) + 1) = (i : Int) + 1 := IntWalk.i64_in _ (by omega)
  have hnn : ¬ ((i : Int) = (i : Int) + 1) := by omega
  clear hfin hgr hroom hclr hel hg1 hg2 hs1 hs2 ht1 ht2 hcur1 hcur2 hcellA hsrc htake hcs hgb hrow
  go_enter Try.func53, Try.ntmps53
  go_wp2_with fail
  go_region_law_o (refine step_append_run rfl _ _ slC slC rfl _ _ (by simp [Act.eval, Act.put]) (by simp [Act.eval, Act.put]; rw [← hA]; split <;> rfl) hroom'.out ?_)
  have hx1 : cap ≠ l.length - 1 := by omega
  have hx2 : l.length - 1 ≤ l.length := by omega
  have hx3 : l.length ≤ cap := hlc
  have hx4 : l.length - (l.length - 1) = 1 := by omega
  go_wp2_with (refine wpList_clear_run _ rfl _ slC rfl _ rfl (hclr'.out _) ?_)
  · have hq : cap = i + 1 := by assumption
    have h9 := hfin'.out
    rw [hq] at h9
    go_ret
    exact ⟨rfl, h9, hgr'.out⟩
  · go_ret
    exact ⟨rfl, hfin'.out, hgr'.out⟩
end Go.Proofs.Ytkcmmghhghgdpaa.Str
