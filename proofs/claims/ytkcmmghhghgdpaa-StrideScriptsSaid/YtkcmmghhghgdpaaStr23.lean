/- The document's Leave (furlongref09): its contract. -/
import Derived.Test.YtkcmmghhghgdpaaStr22
import Derived.Deep.RegionHeld3
namespace Go.Proofs.Ytkcmmghhghgdpaa.Str
open Go.RowKit Go.Shelf Go.Maps Go.Proofs.Ytkcmmghhghgdpaa.Iter Go.Proofs.Ytkcmmghhghgdpaa.SeqM Go.Proofs.YtkcmmghhghgdpaaW.PrintWords Go.Proofs.YtkcmmghhghgdpaaW.PrintLast
set_option linter.unusedVariables false
set_option linter.unusedSimpArgs false
theorem below_drew {B : Nat} {w w' : World} (h : Below B w.drew w') : Below B w w' := ⟨h.os, h.tape, h.output, h.size, h.block⟩
theorem below_drewN {B n : Nat} {w w' : World} (h : Below B (w.drewN n) w') : Below B w w' := ⟨h.os, h.tape, h.output, h.size, h.block⟩
set_option maxRecDepth 100000 in
set_option maxHeartbeats 8000000 in
theorem leaveR_calls (A : Option Addr) (c0 : Nat) (l : List Cl) (id : Int) (W : World) (hgood : GoodG l) (hr : RowR W (.slice A l.length c0) l) :
    Calls Try.prog 49 #[.slice A l.length c0, .int .i64 id] W fun e W' => ∃ u, e = .returned (.tuple #[u, .int .i64 (leaveL l id).2.1, .int .i64 (leaveL l id).2.2]) ∧ RowR W' u (leaveL l id).1 ∧ Below W.heap.size W W' := by
  obtain ⟨i0, hif, hz0, hz1, hz2⟩ := info_parts infoR
  have hln := good_len hgood
  have hsr := Lib.hid hgood.2.1
  have hr' := Lib.hid hr
  have hrd := Lib.hid hr.reads
  by_cases hh : hasL id l = true
  · have hp0 : ¬ placeL l id < 0 := by have := has_place.1 hh; omega
    obtain ⟨c, hc, hcid⟩ := has_get hgood.2.1 hh
    have hj := Lib.hid (show leaveL l id = (levelL (outL id l), c.p, 0) by
      unfold leaveL
      rw [if_pos hh, out_erase hgood.2.1 hh, List.getD_eq_getElem?_getD, hc]
      rfl)
    have hpl' := Lib.hid (show placeL l id = (lb id l : Int) from if_pos hh)
    have hkl := (List.getElem?_eq_some_iff.1 hc).1
    obtain ⟨k, hk⟩ : ∃ k, lb id l = k := ⟨_, rfl⟩
    rw [hk] at hc hpl' hkl
    have hc' := Lib.hid hc
    have hbd := Lib.hid (show ∀ c ∈ outL id l, 0 ≤ c.p ∧ c.p ≤ 1500000 from fun c hc => ok_bound hgood.1.1 c (List.mem_filter.1 hc).1)
    have hol := out_len id l
    have hol3 : (outL id l).length ≤ 3000 := by omega
    have hk0 : ¬ (k : Int) < 0 := by omega
    clear hh hp0 hk hcid hc hgood hr
    go_enter Try.func49, Try.ntmps49
    go_wp2_with ((with_reducible refine gate_callee (f := 80) rfl ?_); refine goesL_ (some 13) rfl rfl Try.func80 (by kernel_rfl) rfl #[.slice A l.length c0, .int .i64 id] rfl (by (try simp only [List.map_toArray, List.map_cons, List.map_nil]); first | done | rfl) ?_; (with_reducible refine (place_calls A c0 l id _ hsr.out (by omega) hrd.out).mono ?_); rintro e w1 ⟨rfl, b1⟩; refine ⟨_, rfl, ?_⟩; simp only [hpl'.out])
    have b1' := Lib.hid b1
    clear b1
    go_loopw [8, 19] (fun mv iv wr => ∃ (i : Nat) (m : Value), m = mv ∧ iv = .int .i64 (i : Int) ∧ i ≤ l.length ∧ wr.ownsRow W.heap.size tR 3 m (outL id (l.take i)).length (flat (outL id (l.take i))) ∧ Below W.heap.size W wr)
      (fun _ iv _ => l.length - (intOf iv).toNat)
    case atStart => exact ⟨0, _, rfl, rfl, Nat.zero_le _, World.ownsRow_nil _ _ _ _, b1'.out⟩
    case round =>
      obtain ⟨i, m, rfl, rfl, hi, hown, hbel⟩ := hrel
      have hml := out_len id (l.take i)
      rw [List.length_take, Nat.min_eq_left hi] at hml
      by_cases hlt : i < l.length
      · obtain ⟨c2, hc2⟩ : ∃ c, l[i]? = some c := ⟨l[i], List.getElem?_eq_getElem hlt⟩
        obtain ⟨g, rfl, _, q0, q1, q2⟩ := (hrd.out.below hbel) i c2 hc2
        have hst := out_take id l i c2 hc2
        obtain ⟨ml, hmle⟩ : ∃ ml, outL id (l.take i) = ml := ⟨_, rfl⟩
        rw [hmle] at hst hown hml
        have bC := Blk.new wr tR #[.int .i64 c2.id, .int .i64 c2.t, .int .i64 c2.p]
        have d0 := bC.cell 0
        have d1 := bC.cell 1
        have d2 := bC.cell 2
        simp only [List.getElem?_toArray, List.getElem?_cons_zero, List.getElem?_cons_succ] at d0 d1 d2
        have hsz := hbel.size
        have hb2 := Lib.hid (hbel.alloc hbel.size (.cells #[.int .i64 c2.id, .int .i64 c2.t, .int .i64 c2.p] tR))
        have ho2 := Lib.hid (hown.alloc (.cells #[.int .i64 c2.id, .int .i64 c2.t, .int .i64 c2.p] tR))
        by_cases he : c2.id = id
        · rw [if_pos he] at hst
          have hst' := Lib.hid hst
          have e1 : (c2.id == id) = true := beq_iff_eq.mpr he
          clear hbel hc2 bC hown hst hmle he
          go_wp2
          go_roundw
          case rel => exact ⟨i + 1, _, rfl, by go_num, by omega, by rw [hst'.out]; exact ho2.out, hb2.out⟩
          case measure => simp [intOf]; omega
        · rw [if_neg he] at hst
          have hst' := Lib.hid hst
          have e1 : (c2.id == id) = false := beq_eq_false_iff_ne.mpr he
          have ho3 := Lib.hid (ho2.out.alloc (.cells #[.int .i64 c2.id, .int .i64 c2.t, .int .i64 c2.p] tR))
          have hb3 := Lib.hid (hb2.out.alloc hb2.out.size (.cells #[.int .i64 c2.id, .int .i64 c2.t, .int .i64 c2.p] tR))
          have hcn := cells_new (wr.alloc (.cells #[.int .i64 c2.id, .int .i64 c2.t, .int .i64 c2.p] tR)) [.int .i64 c2.id, .int .i64 c2.t, .int .i64 c2.p] tR
          simp only [World.size_alloc] at hcn
          clear hbel hc2 bC hown hst hmle he
          go_wp2_with ((at_builtin; refine wpList_append_own _ rfl _ _ slR rfl W.heap.size tR i0 _ 3 24 Try.underlying33 hif hz0 hz1 hz2 rfl (by decide) _ _ _ rfl ho3.out ⟨(wr.heap.size + 1), 0, none⟩ 1 1 [.int .i64 c2.id, .int .i64 c2.t, .int .i64 c2.p] rfl rfl hcn (by simp [Value.oneCell']) (by first | omega | (unfold maxLen; omega)) (by omega) (by simp; omega) ?_))
          intro v10 w10 hown10 hgr10 _
          have ho10 := Lib.hid hown10
          have hb10 := Lib.hid (below_grown hb3.out hgr10 (Nat.le_refl _) (fun k hk => (own_block ho3.out hk).1))
          clear hown10 hgr10
          go_wp2
          go_roundw
          case rel => exact ⟨i + 1, _, rfl, by go_num, by omega, by rw [hst'.out]; simp only [flat_app, List.length_append]; exact ho10.out, hb10.out⟩
          case measure => simp [intOf]; omega
      · have hi' : i = l.length := by omega
        subst hi'
        rw [show l.take l.length = l from List.take_of_length_le (Nat.le_refl _)] at hown
        obtain ⟨g, rfl, _, q0, q1, q2⟩ := (hrd.out.below hbel) k c hc'.out
        obtain ⟨Am, cm, rfl⟩ := slice_of_own hown
        have hb2 := Lib.hid hbel
        have ho2 := Lib.hid hown
        have hsz := hbel.size
        have hgl := World.block_lt_of_cell? wr _ q2
        clear hown hbel
        go_wp2
        go_region_held3 (fun w' => w'.cell? ⟨g, k * 3 + 2, none⟩ = some (.int .i64 c.p)) (first | go_keep | exact (b9.cell (p := ⟨g, k * 3 + 2, none⟩) (by simpa using hgl)).trans (by assumption))
          (first | (go_at_call 83; refine (levelR_calls W.heap.size Am cm _ _ hol3 hbd.out (by exact ho2.out)).mono ?_; rintro e w9 ⟨u, rfl, u9, b9⟩))
        go_wp2
        go_ret3
        exact ⟨_, by rw [hj.out]; rfl, by rw [hj.out]; show World.ownsRow _ _ _ _ _ _ _; rw [level_len]; exact own_lower u9 (Nat.zero_le _), hb2.out.trans ((below_drew b9).mono hb2.out.size)⟩
  · have hp0 : placeL l id < 0 := by have := mt has_place.2 hh; omega
    obtain ⟨pl, hpl⟩ : ∃ pl, placeL l id = pl := ⟨_, rfl⟩
    rw [hpl] at hp0
    have hpl' := Lib.hid hpl
    have hj := Lib.hid (leave_none hh)
    clear hh hpl hgood hr
    go_enter Try.func49, Try.ntmps49
    go_wp2_with ((with_reducible refine gate_callee (f := 80) rfl ?_); refine goesL_ (some 13) rfl rfl Try.func80 (by kernel_rfl) rfl #[.slice A l.length c0, .int .i64 id] rfl (by (try simp only [List.map_toArray, List.map_cons, List.map_nil]); first | done | rfl) ?_; (with_reducible refine (place_calls A c0 l id _ hsr.out (by omega) hrd.out).mono ?_); rintro e w1 ⟨rfl, b1⟩; refine ⟨_, rfl, ?_⟩; simp only [hpl'.out])
    go_ret3
    exact ⟨_, by rw [hj.out]; rfl, by rw [hj.out]; exact hr'.out.below b1, b1⟩
end Go.Proofs.Ytkcmmghhghgdpaa.Str
