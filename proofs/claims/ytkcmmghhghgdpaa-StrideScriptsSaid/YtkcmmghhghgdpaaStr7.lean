/- New, (*Group).List, Change: their contracts. -/
import Derived.Test.YtkcmmghhghgdpaaStr6
import Derived.Lib.SliceRun
namespace Go.Proofs.Ytkcmmghhghgdpaa.Str
open Go.RowKit Go.Shelf Go.Maps Go.Proofs.Ytkcmmghhghgdpaa.Iter Go.Proofs.Ytkcmmghhghgdpaa.SeqM Go.Proofs.YtkcmmghhghgdpaaW.PrintWords Go.Proofs.YtkcmmghhghgdpaaW.PrintLast
set_option linter.unusedVariables false
set_option linter.unusedSimpArgs false
theorem infoC : (Try.prog.info? 44).map (fun i => (i.zero, i.size, i.bytes)) = some (some (.agg #[.int .i64 0, .int .i64 0, .int .i64 0]), 3, 24) := by kernel_rfl
abbrev slC : Nat := 41

set_option maxRecDepth 100000 in
set_option maxHeartbeats 4000000 in
theorem new_calls (W : World) : Calls Try.prog 15 #[] W fun e W' => e = .returned (ptrG W.heap.size) ∧ Grp tG tC W.heap.size W.heap.size (.slice none 0 0) [] W' ∧ Below W.heap.size W W' := by
  go_enter Try.func15, Try.ntmps15
  go_wp2
  go_ret
  exact ⟨rfl, ⟨World.alloc_heap_new W _, Nat.le_refl _, World.ownsRow_nil _ _ _ _⟩, (Below.refl _ W).alloc (Nat.le_refl _) _⟩

set_option maxRecDepth 100000 in
set_option maxHeartbeats 4000000 in
theorem clone_calls (B G : Nat) (v : Value) (l : List Cl) (W : World) (hl : l.length ≤ 1024) (hg : Grp tG tC B G v l W) :
    Calls Try.prog 52 #[v] W fun e W' => ∃ u, e = .returned u ∧ W'.ownsRow W.heap.size tC 3 u l.length (flat l) ∧ Below W.heap.size W W' := by
  have q41 : ∀ (w : World) (a : Option Addr) (n c n' c' : Nat), (binOp .eql slC (.slice a n c) (.slice none n' c')).run Try.prog w = .ok (.bool a.isNone) w := fun w a n c n' c' => Lib.run_eql_slice_nil w _ _ a n c n' c' Try.underlying41
  rcases hg.row.2 with ⟨rfl, h0⟩ | ⟨g, cap, cur, rfl, _, hgb, hlc, hcm, hcs, htake⟩
  · have hl0 : l = [] := List.length_eq_zero_iff.1 h0
    subst hl0
    clear hg
    go_enter Try.func52, Try.ntmps52
    go_wp2
    go_ret
    exact ⟨_, rfl, World.ownsRow_nil _ _ _ _, Below.refl _ _⟩
  · obtain ⟨i0, hi, hz0, hz1, hz2⟩ := info_parts infoC
    have hA := Lib.hid (hg.row.cells (g := g) rfl)
    have h1 := flat_one l
    have hln := flat_len l
    have hlm : l.length ≤ maxLen := by unfold maxLen; omega
    clear hg hgb htake hcs
    go_enter Try.func52, Try.ntmps52
    go_wp2_with (at_builtin; refine wpList_append_own _ rfl _ _ slC rfl W.heap.size tC i0 _ 3 24 Try.underlying41 hi hz0 hz1 hz2 rfl (by decide) _ _ _ rfl (World.ownsRow_made W #[] 0 (Nat.le_refl _) (Nat.zero_le _) (by simp)) ⟨g, 0, none⟩ l.length cap (flat l) rfl hln ?qc2 h1 (by omega) (by omega) (by simp) ?_)
    case qc2 =>
      intro j u hj
      exact Lib.cell?_alloc_some _ (hA.out j u hj)
    intro v' w1 hown hgrow hnil
    go_wp2
    go_ret
    refine ⟨v', rfl, by simpa using hown, ?_⟩
    exact ((Below.refl _ W).alloc (Nat.le_refl _) _).grown hgrow (by simp) (by intro k hk; simp [Value.ownBlock] at hk; omega)

set_option maxRecDepth 100000 in
set_option maxHeartbeats 4000000 in
theorem list_calls (B G : Nat) (v : Value) (l : List Cl) (W : World) (hl : l.length ≤ 1024) (hg : Grp tG tC B G v l W) :
    Calls Try.prog 22 #[ptrG G] W fun e W' => ∃ u, e = .returned u ∧ W'.ownsRow W.heap.size tC 3 u l.length (flat l) ∧ Below W.heap.size W W' := by
  have hc := hg.cellG
  have hC := Lib.hid (clone_calls B G v l W hl hg)
  clear hg
  go_enter Try.func22, Try.ntmps22
  go_wp2_with ((with_reducible refine gate_callee (f := 52) rfl ?_); refine goesL_ (some 9) rfl rfl Try.func52 (by kernel_rfl) rfl #[v] rfl (by (try simp only [List.map_toArray, List.map_cons, List.map_nil]); first | done | rfl) ?_; (with_reducible refine hC.out.mono ?_); rintro e w9 ⟨u, rfl, hu, hb⟩; refine ⟨_, rfl, ?_⟩; have L := Lib.hid hb; have U := Lib.hid hu; clear hb hu)
  go_ret
  exact ⟨_, rfl, U.out, L.out⟩
end Go.Proofs.Ytkcmmghhghgdpaa.Str
