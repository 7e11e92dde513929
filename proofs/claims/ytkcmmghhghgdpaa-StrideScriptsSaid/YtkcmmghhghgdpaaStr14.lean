/- furlonglaw09.awake: its contract. -/
import Derived.Test.YtkcmmghhghgdpaaStr13
namespace Go.Proofs.Ytkcmmghhghgdpaa.Str
open Go.RowKit Go.Shelf Go.Maps Go.Proofs.Ytkcmmghhghgdpaa.Iter Go.Proofs.Ytkcmmghhghgdpaa.SeqM Go.Proofs.YtkcmmghhghgdpaaW.PrintWords Go.Proofs.YtkcmmghhghgdpaaW.PrintLast
set_option linter.unusedVariables false
set_option linter.unusedSimpArgs false
/-- A group's call, seen from where the group began. -/
theorem step_grp {B G : Nat} {v : Value} {l : List Cl} {W X Y : World} (hb : Below B W X) (hB : B ≤ W.heap.size) (hg : Grp tG tC B G v l X) (hm : Mt G v.ownBlock X Y) : Below B W Y :=
  hm.below hb hB hg.base (fun k hk => (own_block hg.row hk).1)
theorem aw1 : joinL [] 1 2 0 = ([⟨1, 2, 0⟩], 0) := by kernel_rfl
theorem aw2 : joinL [⟨1, 2, 0⟩] 2 1 0 = ([⟨1, 2, 0⟩, ⟨2, 1, 0⟩], 0) := by kernel_rfl
theorem aw3 : (runR [⟨1, 2, 0⟩, ⟨2, 1, 0⟩] 6).2 = ([1, 2, 1, 1, 2, 1], 0) := by kernel_rfl
theorem aw4 : GoodG [⟨1, 2, 0⟩] := by have := join_good (id := 1) (t := 2) (rem := 0) good_nil; rwa [aw1] at this
theorem aw5 : GoodG [⟨1, 2, 0⟩, ⟨2, 1, 0⟩] := by have := join_good (id := 2) (t := 1) (rem := 0) aw4; rwa [aw2] at this

theorem reads_new (w : World) (xs : List Int) : ReadsI (w.alloc (.cells (xs.map (Value.int .i64)).toArray 3)) (some ⟨w.heap.size, 0, none⟩) xs := fun j x hx => by
  refine ⟨_, rfl, by simp, ?_⟩
  rw [Addr.add_lit, Nat.zero_add, (Blk.new w 3 (xs.map (Value.int .i64)).toArray).cell j]
  simp [hx]
set_option maxRecDepth 100000 in
set_option maxHeartbeats 4000000 in
theorem awake_calls (W : World) : Calls Try.prog 14 #[] W fun e W' => e = .returned (.bool true) ∧ Below W.heap.size W W' := by
  go_enter Try.func14, Try.ntmps14
  go_wp2_with (first
    | ((with_reducible refine gate_callee (f := 15) rfl ?_); refine goesL_ (some 6) rfl rfl Try.func15 (by kernel_rfl) rfl #[] rfl (by (try simp only [List.map_toArray, List.map_cons, List.map_nil]); first | done | rfl) ?_; (with_reducible refine (new_calls _).mono ?_); rintro e w1 ⟨rfl, g1, b1⟩; refine ⟨_, rfl, ?_⟩; have g1' := Lib.hid g1; have b1' := Lib.hid b1; clear g1 b1)
    | ((with_reducible refine gate_callee (f := 16) rfl ?_); refine goesL_ (some 8) rfl rfl Try.func16 (by kernel_rfl) rfl #[ptrG W.heap.size, .int .i64 1, .int .i64 2, .int .i64 0] rfl (by (try simp only [List.map_toArray, List.map_cons, List.map_nil]); first | done | rfl) ?_; (with_reducible refine (join_calls W.heap.size W.heap.size _ [] 1 2 0 _ good_nil g1'.out b1'.out.size).mono ?_); rintro e w2 ⟨rfl, v2, g2, m2, _⟩; rw [aw1] at g2; refine ⟨_, rfl, ?_⟩; have g2' := Lib.hid g2; have b2' := Lib.hid (step_grp b1'.out (Nat.le_refl _) g1'.out m2); clear g2 m2; simp only [aw1])
    | ((with_reducible refine gate_callee (f := 16) rfl ?_); refine goesL_ (some 10) rfl rfl Try.func16 (by kernel_rfl) rfl #[ptrG W.heap.size, .int .i64 2, .int .i64 1, .int .i64 0] rfl (by (try simp only [List.map_toArray, List.map_cons, List.map_nil]); first | done | rfl) ?_; (with_reducible refine (join_calls W.heap.size W.heap.size _ _ 2 1 0 _ aw4 g2'.out b2'.out.size).mono ?_); rintro e w3 ⟨rfl, v3, g3, m3, _⟩; rw [aw2] at g3; refine ⟨_, rfl, ?_⟩; have g3' := Lib.hid g3; have b3' := Lib.hid (step_grp b2'.out (Nat.le_refl _) g2'.out m3); clear g3 m3; simp only [aw2])
    | ((with_reducible refine gate_callee (f := 17) rfl ?_); refine goesL_ (some 13) rfl rfl Try.func17 (by kernel_rfl) rfl #[ptrG W.heap.size, .int .i64 6] rfl (by (try simp only [List.map_toArray, List.map_cons, List.map_nil]); first | done | rfl) ?_; (with_reducible refine (run_calls W.heap.size W.heap.size _ _ 6 _ aw5 g3'.out).mono ?_); rintro e w4 ⟨u, rfl, u4, g4, m4⟩; rw [aw3] at u4; obtain ⟨gu, cu, rfl⟩ := ownsRow_succ u4; refine ⟨_, rfl, ?_⟩; have u4' := Lib.hid (reads_row u4); have b4' := Lib.hid (step_grp b3'.out (Nat.le_refl _) g3'.out m4); clear u4 g4 m4; simp only [aw3])
    | (go_at_call 18; refine (ints_calls (some ⟨gu, 0, none⟩) (some ⟨w4.heap.size, 0, none⟩) cu 6 [1, 2, 1, 1, 2, 1] [1, 2, 1, 1, 2, 1] _ (u4'.out.1.below (Below.refl _ _ |>.alloc (Nat.le_refl _) _)) (reads_new w4 [1, 2, 1, 1, 2, 1]) (by decide) u4'.out.2.2.2 (by decide)).mono ?_; rintro e w5 ⟨rfl, b5⟩; have b5' := Lib.hid (b4'.out.trans ((Below.refl _ _ |>.alloc (Nat.le_refl _) _).trans (b5.mono (by simp))  |>.mono b4'.out.size)); clear b5; simp only [decide_true]))
  go_ret
  exact ⟨rfl, b5'.out⟩
end Go.Proofs.Ytkcmmghhghgdpaa.Str
