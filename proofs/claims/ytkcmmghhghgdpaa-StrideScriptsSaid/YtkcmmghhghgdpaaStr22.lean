/- The document's Join (furlongref09): its contract. -/
import Derived.Test.YtkcmmghhghgdpaaStr21
namespace Go.Proofs.Ytkcmmghhghgdpaa.Str
open Go.RowKit Go.Shelf Go.Maps Go.Proofs.Ytkcmmghhghgdpaa.Iter Go.Proofs.Ytkcmmghhghgdpaa.SeqM Go.Proofs.YtkcmmghhghgdpaaW.PrintWords Go.Proofs.YtkcmmghhghgdpaaW.PrintLast
set_option linter.unusedVariables false
set_option linter.unusedSimpArgs false
/-- A result of the document's calls. -/
def RowR (W : World) (u : Value) (l : List Cl) : Prop := W.ownsRow 0 tR 3 u l.length (flat l)
theorem RowR.below {W W' : World} {u : Value} {l : List Cl} (h : RowR W u l) (hb : Below W.heap.size W W') : RowR W' u l := own_below h hb
theorem RowR.slice {W : World} {u : Value} {l : List Cl} (h : RowR W u l) : ∃ A c, u = .slice A l.length c := slice_of_own h
theorem RowR.reads {W : World} {A : Option Addr} {n c : Nat} {l : List Cl} (h : RowR W (.slice A n c) l) : ReadsG W A l := (own_readsR h).1

set_option maxRecDepth 100000 in
set_option maxHeartbeats 8000000 in
theorem joinR_calls (A : Option Addr) (c0 : Nat) (l : List Cl) (id t rem : Int) (W : World) (hgood : GoodG l) (hr : RowR W (.slice A l.length c0) l) :
    Calls Try.prog 48 #[.slice A l.length c0, .int .i64 id, .int .i64 t, .int .i64 rem] W fun e W' => ∃ u, e = .returned (.tuple #[u, .int .i64 (joinL l id t rem).2]) ∧ RowR W' u (joinL l id t rem).1 ∧ Below W.heap.size W W' := by
  obtain ⟨i0, hif, hz0, hz1, hz2⟩ := info_parts infoR
  have hln := good_len hgood
  have hsr := Lib.hid hgood.2.1
  have hgood' := Lib.hid hgood
  have hr' := Lib.hid hr
  have hrd := Lib.hid hr.reads
  by_cases hh : hasL id l = true
  · have hj := Lib.hid (show joinL l id t rem = (l, 9) by unfold joinL; rw [if_pos hh])
    have hp0 : 0 ≤ placeL l id := has_place.1 hh
    obtain ⟨pl, hpl⟩ : ∃ pl, placeL l id = pl := ⟨_, rfl⟩
    rw [hpl] at hp0
    have hpl' := Lib.hid hpl
    clear hgood hr hh hpl
    go_enter Try.func48, Try.ntmps48
    go_wp2_with ((with_reducible refine gate_callee (f := 80) rfl ?_); refine goesL_ (some 17) rfl rfl Try.func80 (by kernel_rfl) rfl #[.slice A l.length c0, .int .i64 id] rfl (by (try simp only [List.map_toArray, List.map_cons, List.map_nil]); first | done | rfl) ?_; (with_reducible refine (place_calls A c0 l id _ hsr.out (by omega) hrd.out).mono ?_); rintro e w1 ⟨rfl, b1⟩; refine ⟨_, rfl, ?_⟩; simp only [hpl'.out])
    go_ret2
    exact ⟨_, by rw [hj.out]; rfl, by rw [hj.out]; exact hr'.out.below b1, b1⟩
  · have hp0 : ¬ 0 ≤ placeL l id := fun h => hh (has_place.2 h)
    have hh' := Lib.hid (show hasL id l = false by simpa using hh)
    obtain ⟨pl, hpl⟩ : ∃ pl, placeL l id = pl := ⟨_, rfl⟩
    rw [hpl] at hp0
    have hpl' := Lib.hid hpl
    clear hpl hr
    by_cases hbad : t < 1 ∨ 16 < t ∨ rem < 0 ∨ sd t < rem
    · have hj := Lib.hid (show joinL l id t rem = (l, 1) by unfold joinL; rw [if_neg hh, if_pos hbad])
      clear hh hgood
      by_cases ht : t < 1 ∨ 16 < t
      · have ht' := Lib.hid ht
        clear ht hbad
        go_enter Try.func48, Try.ntmps48
        go_wp2_with (first | ((with_reducible refine gate_callee (f := 80) rfl ?_); refine goesL_ (some 17) rfl rfl Try.func80 (by kernel_rfl) rfl #[.slice A l.length c0, .int .i64 id] rfl (by (try simp only [List.map_toArray, List.map_cons, List.map_nil]); first | done | rfl) ?_; (with_reducible refine (place_calls A c0 l id _ hsr.out (by omega) hrd.out).mono ?_); rintro e w1 ⟨rfl, b1⟩; refine ⟨_, rfl, ?_⟩; simp only [hpl'.out]) | ((with_reducible refine gate_callee (f := 81) rfl ?_); refine goesL_ (some 22) rfl rfl Try.func81 (by kernel_rfl) rfl #[.int .i64 t] rfl (by (try simp only [List.map_toArray, List.map_cons, List.map_nil]); first | done | rfl) ?_; (with_reducible refine (right_no t _ ht'.out).mono ?_); rintro e w2 ⟨rfl, rfl⟩; refine ⟨_, rfl, ?_⟩))
        go_ret2
        exact ⟨_, by rw [hj.out]; rfl, by rw [hj.out]; exact hr'.out.below b1, b1⟩
      · have ht1 : 1 ≤ t := by omega
        have ht2 : t ≤ 16 := by omega
        by_cases hrm : rem < 0
        · clear ht hbad
          go_enter Try.func48, Try.ntmps48
          go_wp2_with (first | ((with_reducible refine gate_callee (f := 80) rfl ?_); refine goesL_ (some 17) rfl rfl Try.func80 (by kernel_rfl) rfl #[.slice A l.length c0, .int .i64 id] rfl (by (try simp only [List.map_toArray, List.map_cons, List.map_nil]); first | done | rfl) ?_; (with_reducible refine (place_calls A c0 l id _ hsr.out (by omega) hrd.out).mono ?_); rintro e w1 ⟨rfl, b1⟩; refine ⟨_, rfl, ?_⟩; simp only [hpl'.out]) | ((with_reducible refine gate_callee (f := 81) rfl ?_); refine goesL_ (some 22) rfl rfl Try.func81 (by kernel_rfl) rfl #[.int .i64 t] rfl (by (try simp only [List.map_toArray, List.map_cons, List.map_nil]); first | done | rfl) ?_; (with_reducible refine (right_yes t _ ht1 ht2).mono ?_); rintro e w2 ⟨rfl, rfl⟩; refine ⟨_, rfl, ?_⟩))
          go_ret2
          exact ⟨_, by rw [hj.out]; rfl, by rw [hj.out]; exact hr'.out.below b1, b1⟩
        · have hsd : sd t < rem := by omega
          clear ht hbad
          go_enter Try.func48, Try.ntmps48
          go_wp2_with (first | ((with_reducible refine gate_callee (f := 80) rfl ?_); refine goesL_ (some 17) rfl rfl Try.func80 (by kernel_rfl) rfl #[.slice A l.length c0, .int .i64 id] rfl (by (try simp only [List.map_toArray, List.map_cons, List.map_nil]); first | done | rfl) ?_; (with_reducible refine (place_calls A c0 l id _ hsr.out (by omega) hrd.out).mono ?_); rintro e w1 ⟨rfl, b1⟩; refine ⟨_, rfl, ?_⟩; simp only [hpl'.out]) | ((with_reducible refine gate_callee (f := 81) rfl ?_); refine goesL_ (some 22) rfl rfl Try.func81 (by kernel_rfl) rfl #[.int .i64 t] rfl (by (try simp only [List.map_toArray, List.map_cons, List.map_nil]); first | done | rfl) ?_; (with_reducible refine (right_yes t _ ht1 ht2).mono ?_); rintro e w2 ⟨rfl, rfl⟩; refine ⟨_, rfl, ?_⟩) | (go_at_call 82; refine (sdR_calls t _ ht1 ht2).mono ?_; rintro e w2 ⟨rfl, rfl⟩))
          go_ret2
          exact ⟨_, by rw [hj.out]; rfl, by rw [hj.out]; exact hr'.out.below b1, b1⟩
    · have ht1 : 1 ≤ t := by omega
      have ht2 : t ≤ 16 := by omega
      have hrm : ¬ rem < 0 := by omega
      have hsd : ¬ sd t < rem := by omega
      by_cases hfull : l.length = 1024
      · have hj := Lib.hid (show joinL l id t rem = (l, 10) by unfold joinL; rw [if_neg hh, if_neg hbad, if_pos hfull])
        have hf : (1024 : Int) ≤ (l.length : Int) := by omega
        clear hh hbad hgood hfull
        go_enter Try.func48, Try.ntmps48
        go_wp2_with (first | ((with_reducible refine gate_callee (f := 80) rfl ?_); refine goesL_ (some 17) rfl rfl Try.func80 (by kernel_rfl) rfl #[.slice A l.length c0, .int .i64 id] rfl (by (try simp only [List.map_toArray, List.map_cons, List.map_nil]); first | done | rfl) ?_; (with_reducible refine (place_calls A c0 l id _ hsr.out (by omega) hrd.out).mono ?_); rintro e w1 ⟨rfl, b1⟩; refine ⟨_, rfl, ?_⟩; simp only [hpl'.out]) | ((with_reducible refine gate_callee (f := 81) rfl ?_); refine goesL_ (some 22) rfl rfl Try.func81 (by kernel_rfl) rfl #[.int .i64 t] rfl (by (try simp only [List.map_toArray, List.map_cons, List.map_nil]); first | done | rfl) ?_; (with_reducible refine (right_yes t _ ht1 ht2).mono ?_); rintro e w2 ⟨rfl, rfl⟩; refine ⟨_, rfl, ?_⟩) | (go_at_call 82; refine (sdR_calls t _ ht1 ht2).mono ?_; rintro e w2 ⟨rfl, rfl⟩))
        go_ret2
        exact ⟨_, by rw [hj.out]; rfl, by rw [hj.out]; exact hr'.out.below b1, b1⟩
      · have hj := Lib.hid (show joinL l id t rem = (levelL (insL ⟨id, t, rem⟩ l), 0) by unfold joinL; rw [if_neg hh, if_neg hbad, if_neg hfull])
        have hf : ¬ (1024 : Int) ≤ (l.length : Int) := by omega
        have hins := Lib.hid (jF_end ⟨id, t, rem⟩ l)
        have hbd := Lib.hid (show ∀ c ∈ insL ⟨id, t, rem⟩ l, 0 ≤ c.p ∧ c.p ≤ 1500000 from fun c hc => by
          rcases ins_mem.1 hc with rfl | h
          · have := sd_nonneg ht1 ht2
            exact ⟨by show 0 ≤ rem; omega, by show rem ≤ 1500000; omega⟩
          · exact ok_bound hgood.1.1 c h)
        have hil := Lib.hid (ins_len ⟨id, t, rem⟩ l)
        clear hh hbad hgood hfull
        go_enter Try.func48, Try.ntmps48
        go_wp2_with (first | ((with_reducible refine gate_callee (f := 80) rfl ?_); refine goesL_ (some 17) rfl rfl Try.func80 (by kernel_rfl) rfl #[.slice A l.length c0, .int .i64 id] rfl (by (try simp only [List.map_toArray, List.map_cons, List.map_nil]); first | done | rfl) ?_; (with_reducible refine (place_calls A c0 l id _ hsr.out (by omega) hrd.out).mono ?_); rintro e w1 ⟨rfl, b1⟩; refine ⟨_, rfl, ?_⟩; simp only [hpl'.out]) | ((with_reducible refine gate_callee (f := 81) rfl ?_); refine goesL_ (some 22) rfl rfl Try.func81 (by kernel_rfl) rfl #[.int .i64 t] rfl (by (try simp only [List.map_toArray, List.map_cons, List.map_nil]); first | done | rfl) ?_; (with_reducible refine (right_yes t _ ht1 ht2).mono ?_); rintro e w2 ⟨rfl, rfl⟩; refine ⟨_, rfl, ?_⟩) | (go_at_call 82; refine (sdR_calls t _ ht1 ht2).mono ?_; rintro e w2 ⟨rfl, rfl⟩))
        have b1' := Lib.hid b1
        clear b1
        go_loopw [10, 11, 42] (fun mv pv iv wr => ∃ (i : Nat) (m : Value), m = mv ∧ pv = .bool (jF ⟨id, t, rem⟩ (l.take i)).1 ∧ iv = .int .i64 (i : Int) ∧ i ≤ l.length ∧ wr.ownsRow W.heap.size tR 3 m (jF ⟨id, t, rem⟩ (l.take i)).2.length (flat (jF ⟨id, t, rem⟩ (l.take i)).2) ∧ Below W.heap.size W wr)
          (fun _ _ iv _ => l.length - (intOf iv).toNat)
        case atStart => exact ⟨0, _, rfl, rfl, rfl, Nat.zero_le _, World.ownsRow_nil _ _ _ _, b1'.out⟩
        case round =>
          obtain ⟨i, m, rfl, rfl, rfl, hi, hown, hbel⟩ := hrel
          have hjl := jF_len ⟨id, t, rem⟩ (l.take i)
          rw [List.length_take, Nat.min_eq_left hi] at hjl
          by_cases hlt : i < l.length
          · obtain ⟨c, hc⟩ : ∃ c, l[i]? = some c := ⟨l[i], List.getElem?_eq_getElem hlt⟩
            obtain ⟨g, rfl, _, q0, q1, q2⟩ := (hrd.out.below hbel) i c hc
            have hst := jF_take ⟨id, t, rem⟩ l i c hc
            obtain ⟨⟨pb, ml⟩, hs⟩ : ∃ s, jF ⟨id, t, rem⟩ (l.take i) = s := ⟨_, rfl⟩
            rw [hs] at hst hown hjl ⊢
            dsimp only at hown hjl ⊢
            have bC := Blk.new wr tR #[.int .i64 c.id, .int .i64 c.t, .int .i64 c.p]
            have d0 := bC.cell 0
            have d1 := bC.cell 1
            have d2 := bC.cell 2
            simp only [List.getElem?_toArray, List.getElem?_cons_zero, List.getElem?_cons_succ] at d0 d1 d2
            have hsz := hbel.size
            have hb2 := Lib.hid (hbel.alloc hbel.size (.cells #[.int .i64 c.id, .int .i64 c.t, .int .i64 c.p] tR))
            have ho2 := Lib.hid (hown.alloc (.cells #[.int .i64 c.id, .int .i64 c.t, .int .i64 c.p] tR))
            have hmo := Lib.hid (fun k (hk : m.ownBlock = some k) => (own_block hown hk).2.1)
            by_cases hins2 : pb = false ∧ id < c.id
            · obtain ⟨rfl, hlt2⟩ := hins2
              have hst' := Lib.hid (hst.trans (show jst ⟨id, t, rem⟩ (false, ml) c = (true, (ml ++ [⟨id, t, rem⟩]) ++ [c]) from if_pos ⟨rfl, hlt2⟩))
              have ho3 := Lib.hid (ho2.out.alloc (.cells #[.int .i64 id, .int .i64 t, .int .i64 rem] tR))
              have hb3 := Lib.hid (hb2.out.alloc hb2.out.size (.cells #[.int .i64 id, .int .i64 t, .int .i64 rem] tR))
              have hcn := cells_new (wr.alloc (.cells #[.int .i64 c.id, .int .i64 c.t, .int .i64 c.p] tR)) [.int .i64 id, .int .i64 t, .int .i64 rem] tR
              simp only [World.size_alloc] at hcn
              have bC3 := Lib.hid (bC.alloc (.cells #[.int .i64 id, .int .i64 t, .int .i64 rem] tR))
              clear hbel hc bC hown hst hs
              go_wp2_with ((at_builtin; refine wpList_append_own _ rfl _ _ slR rfl W.heap.size tR i0 _ 3 24 Try.underlying33 hif hz0 hz1 hz2 rfl (by decide) _ _ _ rfl ho3.out ⟨(wr.heap.size + 1), 0, none⟩ 1 1 [.int .i64 id, .int .i64 t, .int .i64 rem] rfl rfl hcn (by simp [Value.oneCell']) (by first | omega | (unfold maxLen; omega)) (by omega) (by simp; omega) ?_))
              intro v8 w8 hown8 hgr8 _
              have ho8 := Lib.hid hown8
              have hsz8 := hgr8.size
              simp only [World.size_alloc] at hsz8
              have hb8 := Lib.hid (below_grown hb3.out hgr8 (Nat.le_refl _) (fun k hk => (own_block ho3.out hk).1))
              have bC8 := bC3.out.kept hgr8 (fun e => by have := hmo.out _ e.symm; omega)
              have d0 := bC8.cell 0
              have d1 := bC8.cell 1
              have d2 := bC8.cell 2
              simp only [List.getElem?_toArray, List.getElem?_cons_zero, List.getElem?_cons_succ] at d0 d1 d2
              have ho9 := Lib.hid (ho8.out.alloc (.cells #[.int .i64 c.id, .int .i64 c.t, .int .i64 c.p] tR))
              have hb9 := Lib.hid (hb8.out.alloc hb8.out.size (.cells #[.int .i64 c.id, .int .i64 c.t, .int .i64 c.p] tR))
              clear hown8 hgr8 bC8
              go_wp2_with ((at_builtin; refine wpList_append_own _ rfl _ _ slR rfl W.heap.size tR i0 _ 3 24 Try.underlying33 hif hz0 hz1 hz2 rfl (by decide) _ _ _ rfl ho9.out ⟨w8.heap.size, 0, none⟩ 1 1 [.int .i64 c.id, .int .i64 c.t, .int .i64 c.p] rfl rfl (cells_new _ _ _) (by simp [Value.oneCell']) (by first | omega | (unfold maxLen; omega)) (by omega) (by simp; omega) ?_))
              intro v10 w10 hown10 hgr10 _
              have ho10 := Lib.hid hown10
              have hb10 := Lib.hid (below_grown hb9.out hgr10 (Nat.le_refl _) (fun k hk => (own_block ho9.out hk).1))
              clear hown10 hgr10
              go_wp2
              go_roundw
              case rel => exact ⟨i + 1, _, rfl, by rw [hst'.out], by go_num, by omega, by rw [hst'.out]; simp only [flat_app, List.length_append, List.append_assoc]; exact ho10.out, hb10.out⟩
              case measure => simp [intOf]; omega
            · have hst' := Lib.hid (hst.trans (show jst ⟨id, t, rem⟩ (pb, ml) c = (pb, ml ++ [c]) from if_neg hins2))
              have ho3 := Lib.hid (ho2.out.alloc (.cells #[.int .i64 c.id, .int .i64 c.t, .int .i64 c.p] tR))
              have hb3 := Lib.hid (hb2.out.alloc hb2.out.size (.cells #[.int .i64 c.id, .int .i64 c.t, .int .i64 c.p] tR))
              have hcn := cells_new (wr.alloc (.cells #[.int .i64 c.id, .int .i64 c.t, .int .i64 c.p] tR)) [.int .i64 c.id, .int .i64 c.t, .int .i64 c.p] tR
              simp only [World.size_alloc] at hcn
              clear hbel hc bC hown hst hs
              cases pb with
              | true =>
                clear hins2
                go_wp2_with ((at_builtin; refine wpList_append_own _ rfl _ _ slR rfl W.heap.size tR i0 _ 3 24 Try.underlying33 hif hz0 hz1 hz2 rfl (by decide) _ _ _ rfl ho3.out ⟨(wr.heap.size + 1), 0, none⟩ 1 1 [.int .i64 c.id, .int .i64 c.t, .int .i64 c.p] rfl rfl hcn (by simp [Value.oneCell']) (by first | omega | (unfold maxLen; omega)) (by omega) (by simp; omega) ?_))
                intro v10 w10 hown10 hgr10 _
                have ho10 := Lib.hid hown10
                have hb10 := Lib.hid (below_grown hb3.out hgr10 (Nat.le_refl _) (fun k hk => (own_block ho3.out hk).1))
                clear hown10 hgr10
                go_wp2
                go_roundw
                case rel => exact ⟨i + 1, _, rfl, by rw [hst'.out], by go_num, by omega, by rw [hst'.out]; simp only [flat_app, List.length_append]; exact ho10.out, hb10.out⟩
                case measure => simp [intOf]; omega
              | false =>
                have hlt2 : ¬ id < c.id := fun h => hins2 ⟨rfl, h⟩
                clear hins2
                go_wp2_with ((at_builtin; refine wpList_append_own _ rfl _ _ slR rfl W.heap.size tR i0 _ 3 24 Try.underlying33 hif hz0 hz1 hz2 rfl (by decide) _ _ _ rfl ho3.out ⟨(wr.heap.size + 1), 0, none⟩ 1 1 [.int .i64 c.id, .int .i64 c.t, .int .i64 c.p] rfl rfl hcn (by simp [Value.oneCell']) (by first | omega | (unfold maxLen; omega)) (by omega) (by simp; omega) ?_))
                intro v10 w10 hown10 hgr10 _
                have ho10 := Lib.hid hown10
                have hb10 := Lib.hid (below_grown hb3.out hgr10 (Nat.le_refl _) (fun k hk => (own_block ho3.out hk).1))
                clear hown10 hgr10
                go_wp2
                go_roundw
                case rel => exact ⟨i + 1, _, rfl, by rw [hst'.out], by go_num, by omega, by rw [hst'.out]; simp only [flat_app, List.length_append]; exact ho10.out, hb10.out⟩
                case measure => simp [intOf]; omega
          · have hi' : i = l.length := by omega
            subst hi'
            rw [show l.take l.length = l from List.take_of_length_le (Nat.le_refl _)] at hown hjl ⊢
            obtain ⟨⟨pb, ml⟩, hs⟩ : ∃ s, jF ⟨id, t, rem⟩ l = s := ⟨_, rfl⟩
            have hins' := hins.out
            rw [hs] at hins' hown hjl ⊢
            dsimp only at hown hjl ⊢
            have hsz := hbel.size
            have hb2 := Lib.hid hbel
            have ho2 := Lib.hid hown
            clear hown hbel hs
            cases pb with
            | true =>
              have hml : ml = insL ⟨id, t, rem⟩ l := hins'
              subst hml
              clear hins'
              obtain ⟨Am, cm, rfl⟩ := slice_of_own ho2.out
              have hl3 : (insL ⟨id, t, rem⟩ l).length ≤ 3000 := by rw [hil.out]; omega
              go_wp2_with ((with_reducible refine gate_callee (f := 83) rfl ?_); refine goesL_ (some 76) rfl rfl Try.func83 (by kernel_rfl) rfl #[.slice Am (insL ⟨id, t, rem⟩ l).length cm] rfl (by (try simp only [List.map_toArray, List.map_cons, List.map_nil]); first | done | rfl) ?_; (with_reducible refine (levelR_calls W.heap.size Am cm _ _ hl3 hbd.out ho2.out).mono ?_); rintro e w9 ⟨u, rfl, u9, b9⟩; refine ⟨_, rfl, ?_⟩)
              go_ret2
              exact ⟨_, by rw [hj.out]; rfl, by rw [hj.out]; show World.ownsRow _ _ _ _ _ _ _; rw [level_len]; exact own_lower u9 (Nat.zero_le _), hb2.out.trans (b9.mono hb2.out.size)⟩
            | false =>
              have hml : ml ++ [⟨id, t, rem⟩] = insL ⟨id, t, rem⟩ l := hins'
              clear hins'
              have ho3 := Lib.hid (ho2.out.alloc (.cells #[.int .i64 id, .int .i64 t, .int .i64 rem] tR))
              have hb3 := Lib.hid (hb2.out.alloc hb2.out.size (.cells #[.int .i64 id, .int .i64 t, .int .i64 rem] tR))
              have hml' := Lib.hid hml
              clear hml
              go_wp2_with ((at_builtin; refine wpList_append_own _ rfl _ _ slR rfl W.heap.size tR i0 _ 3 24 Try.underlying33 hif hz0 hz1 hz2 rfl (by decide) _ _ _ rfl ho3.out ⟨wr.heap.size, 0, none⟩ 1 1 [.int .i64 id, .int .i64 t, .int .i64 rem] rfl rfl (cells_new _ _ _) (by simp [Value.oneCell']) (by first | omega | (unfold maxLen; omega)) (by omega) (by simp; omega) ?_))
              intro v8 w8 hown8 hgr8 _
              have hb8 := Lib.hid (below_grown hb3.out hgr8 (Nat.le_refl _) (fun k hk => (own_block ho3.out hk).1))
              have ho8 := Lib.hid (show w8.ownsRow W.heap.size tR 3 v8 (insL ⟨id, t, rem⟩ l).length (flat (insL ⟨id, t, rem⟩ l)) by
                rw [← hml'.out, flat_app, List.length_append]
                exact hown8)
              clear hown8 hgr8
              obtain ⟨Am, cm, rfl⟩ := slice_of_own ho8.out
              have hl3 : (insL ⟨id, t, rem⟩ l).length ≤ 3000 := by rw [hil.out]; omega
              go_wp2_with ((with_reducible refine gate_callee (f := 83) rfl ?_); refine goesL_ (some 76) rfl rfl Try.func83 (by kernel_rfl) rfl #[.slice Am (insL ⟨id, t, rem⟩ l).length cm] rfl (by (try simp only [List.map_toArray, List.map_cons, List.map_nil]); first | done | rfl) ?_; (with_reducible refine (levelR_calls W.heap.size Am cm _ _ hl3 hbd.out ho8.out).mono ?_); rintro e w9 ⟨u, rfl, u9, b9⟩; refine ⟨_, rfl, ?_⟩)
              go_ret2
              exact ⟨_, by rw [hj.out]; rfl, by rw [hj.out]; show World.ownsRow _ _ _ _ _ _ _; rw [level_len]; exact own_lower u9 (Nat.zero_le _), hb8.out.trans (b9.mono hb8.out.size)⟩
end Go.Proofs.Ytkcmmghhghgdpaa.Str
