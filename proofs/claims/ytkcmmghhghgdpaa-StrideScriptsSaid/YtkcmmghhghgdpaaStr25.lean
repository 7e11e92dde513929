/- The document's Change (furlongref09): its contract. -/
import Derived.Test.YtkcmmghhghgdpaaStr24
namespace Go.Proofs.Ytkcmmghhghgdpaa.Str
open Go.RowKit Go.Shelf Go.Maps Go.Proofs.Ytkcmmghhghgdpaa.Iter Go.Proofs.Ytkcmmghhghgdpaa.SeqM Go.Proofs.YtkcmmghhghgdpaaW.PrintWords Go.Proofs.YtkcmmghhghgdpaaW.PrintLast
set_option linter.unusedVariables false
set_option linter.unusedSimpArgs false
theorem own_drew {W : World} {B e size n : Nat} {v : Value} {xs : List Value} (h : W.ownsRow B e size v n xs) : W.drew.ownsRow B e size v n xs := h
theorem flat_set3 : ∀ (l : List Cl) (i : Nat) (d : Cl), i < l.length → (((flat l).set (i * 3) (.int .i64 d.id)).set (i * 3 + 1) (.int .i64 d.t)).set (i * 3 + 2) (.int .i64 d.p) = flat (l.set i d)
  | [], i, d, h => by simp at h
  | c :: l, 0, d, _ => by simp [flat, cC]
  | c :: l, i + 1, d, h => by
    have ih := flat_set3 l i d (by simpa using h)
    rw [List.set_cons_succ, flat_cons, flat_cons, ← ih, show (i + 1) * 3 = i * 3 + 3 by omega, show i * 3 + 3 + 1 = (i * 3 + 1) + 3 by omega, show i * 3 + 3 + 2 = (i * 3 + 2) + 3 by omega]
    show ((((.int .i64 c.id) :: (.int .i64 c.t) :: (.int .i64 c.p) :: flat l).set (i * 3 + 3) _).set (i * 3 + 1 + 3) _).set (i * 3 + 2 + 3) _ = _
    rw [set_three, set_three, set_three]
    rfl

set_option maxRecDepth 100000 in
set_option maxHeartbeats 8000000 in
theorem changeD_calls (A : Option Addr) (c0 : Nat) (l : List Cl) (id t : Int) (W : World) (hgood : GoodG l) (hr : RowR W (.slice A l.length c0) l) :
    Calls Try.prog 50 #[.slice A l.length c0, .int .i64 id, .int .i64 t] W fun e W' => ∃ u, e = .returned (.tuple #[u, .int .i64 (changeL l id t).2]) ∧ RowR W' u (changeL l id t).1 ∧ Below W.heap.size W W' := by
  have hln := good_len hgood
  have hsr := Lib.hid hgood.2.1
  have hr' := Lib.hid hr
  have hrd := Lib.hid hr.reads
  by_cases hh : hasL id l = true
  · have hp0 : ¬ placeL l id < 0 := by have := has_place.1 hh; omega
    by_cases ht : t < 1 ∨ 16 < t
    · have hj := Lib.hid (show changeL l id t = (l, 1) by unfold changeL; rw [if_pos hh, if_pos ht])
      have ht' := Lib.hid ht
      obtain ⟨pl, hpl⟩ : ∃ pl, placeL l id = pl := ⟨_, rfl⟩
      rw [hpl] at hp0
      have hpl' := Lib.hid hpl
      clear hh hpl hgood hr ht
      go_enter Try.func50, Try.ntmps50
      go_wp2_with (first | ((with_reducible refine gate_callee (f := 80) rfl ?_); refine goesL_ (some 12) rfl rfl Try.func80 (by kernel_rfl) rfl #[.slice A l.length c0, .int .i64 id] rfl (by (try simp only [List.map_toArray, List.map_cons, List.map_nil]); first | done | rfl) ?_; (with_reducible refine (place_calls A c0 l id _ hsr.out (by omega) hrd.out).mono ?_); rintro e w1 ⟨rfl, b1⟩; refine ⟨_, rfl, ?_⟩; simp only [hpl'.out]) | ((with_reducible refine gate_callee (f := 81) rfl ?_); refine goesL_ (some 19) rfl rfl Try.func81 (by kernel_rfl) rfl #[.int .i64 t] rfl (by (try simp only [List.map_toArray, List.map_cons, List.map_nil]); first | done | rfl) ?_; (with_reducible refine (right_no t _ ht'.out).mono ?_); rintro e w2 ⟨rfl, rfl⟩; refine ⟨_, rfl, ?_⟩))
      go_ret2
      exact ⟨_, by rw [hj.out]; rfl, by rw [hj.out]; exact hr'.out.below b1, b1⟩
    · have ht1 : 1 ≤ t := by omega
      have ht2 : t ≤ 16 := by omega
      obtain ⟨c, hc, hcid⟩ := has_get hgood.2.1 hh
      have hj0 : changeL l id t = (levelL (l.modify (lb id l) (changeC t)), 0) := by unfold changeL; rw [if_pos hh, if_neg ht]
      have hbb0 := change_bound hgood (t := t) ht1 ht2 (lb id l)
      have hms := change_set (t := t) hc hcid
      rw [hms] at hj0 hbb0
      have hok := hgood.1.1 c (List.mem_of_getElem? hc)
      obtain ⟨k1, k2, k3, k4⟩ := hok
      have hco := change_ok ⟨k1, k2, k3, k4⟩ ht1 ht2
      have hsd := sd_nonneg k1 k2
      have hsdt := sd_nonneg ht1 ht2
      have hpp : 0 ≤ c.p * c.t := Int.mul_nonneg k3 (by omega)
      have hpq : c.p * c.t ≤ 720720 * 16 := Int.mul_le_mul (by omega) (by omega) (by omega) (by omega)
      have hqq : 0 ≤ c.p * c.t / t ∧ c.p * c.t / t ≤ sd t := ⟨hco.2.2.1, hco.2.2.2⟩
      have hw1 : IntKind.i64.wrap (c.p * c.t) = c.p * c.t := IntWalk.i64_in _ (by omega)
      have hq : Int.tdiv (c.p * c.t) t = c.p * c.t / t := Int.tdiv_eq_ediv_of_nonneg hpp
      have hne : (t == 0) = false := beq_eq_false_iff_ne.mpr (by omega)
      have h0 : ¬ t = 0 := by omega
      have hw2 : IntKind.i64.wrap (c.p * c.t / t) = c.p * c.t / t := IntWalk.i64_in _ (by omega)
      have hkl := (List.getElem?_eq_some_iff.1 hc).1
      have hpl' := Lib.hid (show placeL l id = (lb id l : Int) from if_pos hh)
      obtain ⟨k, hk⟩ : ∃ k, lb id l = k := ⟨_, rfl⟩
      rw [hk] at hc hpl' hkl hj0 hbb0
      obtain ⟨Q, hQ⟩ : ∃ Q, c.p * c.t / t = Q := ⟨_, rfl⟩
      rw [hQ] at hj0 hbb0 hq hw2 hqq
      have hj := Lib.hid hj0
      have hbb := Lib.hid hbb0
      have hc' := Lib.hid hc
      have hk0 : ¬ (k : Int) < 0 := by omega
      have hll : (l.set k ⟨id, t, Q⟩).length = l.length := List.length_set ..
      have hl3 : (l.set k ⟨id, t, Q⟩).length ≤ 3000 := by omega
      clear hh hp0 hk hcid hc hgood hr hQ hms hj0 hbb0 hco hpp hpq
      go_enter Try.func50, Try.ntmps50
      go_upto_region 6 with (first | ((with_reducible refine gate_callee (f := 80) rfl ?_); refine goesL_ (some 12) rfl rfl Try.func80 (by kernel_rfl) rfl #[.slice A l.length c0, .int .i64 id] rfl (by (try simp only [List.map_toArray, List.map_cons, List.map_nil]); first | done | rfl) ?_; (with_reducible refine (place_calls A c0 l id _ hsr.out (by omega) hrd.out).mono ?_); rintro e w1 ⟨rfl, b1⟩; refine ⟨_, rfl, ?_⟩; simp only [hpl'.out]) | ((with_reducible refine gate_callee (f := 81) rfl ?_); refine goesL_ (some 19) rfl rfl Try.func81 (by kernel_rfl) rfl #[.int .i64 t] rfl (by (try simp only [List.map_toArray, List.map_cons, List.map_nil]); first | done | rfl) ?_; (with_reducible refine (right_yes t _ ht1 ht2).mono ?_); rintro e w2 ⟨rfl, rfl⟩; refine ⟨_, rfl, ?_⟩))
      obtain ⟨g, rfl, _, q0, q1, q2⟩ := (hrd.out.below b1) k c hc'.out
      have hrw := hr'.out.below b1
      obtain ⟨v9, w9, hrun9, hown9, hgr9⟩ := run_copy_row0 hrw (by omega)
      have hb9 := Lib.hid (below_grown (b1.alloc b1.size (.cells #[] tR)) hgr9 (Nat.le_refl _) (fun k hk => by injection hk with hk; have := b1.size; omega))
      obtain ⟨mg, mc, rfl⟩ := own_some hown9 (by omega)
      have hmg := (own_block hown9 (k := mg) rfl).1
      have f0 := hown9.frozenAt (k * 3)
      have f1 := hown9.frozenAt (k * 3 + 1)
      have f2 := hown9.frozenAt (k * 3 + 2)
      have hcs : ∀ j, j < l.length * 3 → ∃ x, w9.cell? ⟨mg, j, none⟩ = some x := fun j hj => ⟨(flat l)[j]'(by rw [flat_len]; exact hj), by rw [hown9.cellAt j hj]; exact List.getElem?_eq_getElem _⟩
      obtain ⟨x0, p0⟩ := hcs (k * 3) (by omega)
      obtain ⟨x1, p1⟩ := hcs (k * 3 + 1) (by omega)
      obtain ⟨x2, p2⟩ := hcs (k * 3 + 2) (by omega)
      have o1 := (hown9.stored (k * 3) (.int .i64 id)).1
      have o2 := (o1.stored (k * 3 + 1) (.int .i64 t)).1
      have o3 := (o2.stored (k * 3 + 2) (.int .i64 Q)).1
      rw [flat_set3 l k ⟨id, t, Q⟩ hkl] at o3
      have hst' := Lib.hid o3
      have hsz1 := b1.size
      have hbs := Lib.hid (((hb9.out.setCell (p := ⟨mg, k * 3, none⟩) (by simp; omega) (.int .i64 id)).setCell (p := ⟨mg, k * 3 + 1, none⟩) (by simp; omega) (.int .i64 t)).setCell (p := ⟨mg, k * 3 + 2, none⟩) (by simp; omega) (.int .i64 Q))
      obtain ⟨g2, hg2, _, r0, r1, r2⟩ := (hrd.out.below hbs.out) k c hc'.out
      injection hg2 with hg2
      injection hg2 with hg2
      subst hg2
      obtain ⟨g3, hg3, _, s0, s1, s2⟩ := (hrd.out.below hb9.out) k c hc'.out
      injection hg3 with hg3
      injection hg3 with hg3
      subst hg3
      clear hrw hown9 hgr9 o1 o2 o3 hcs
      go_upto_region 7 with (at_builtin; refine wpList_append_run _ rfl _ _ _ _ rfl _ _ rfl rfl hrun9 ?_)
      go_wp2_with fail
      go_region_held3 (fun w' => w'.cell? ⟨g, k * 3 + 1, none⟩ = some (.int .i64 c.t) ∧ w'.cell? ⟨g, k * 3 + 2, none⟩ = some (.int .i64 c.p)) (first | go_keep | exact ⟨r1, r2⟩) (first | fail)
      go_wp2_with ((with_reducible refine gate_callee (f := 83) rfl ?_); refine goesL_ (some 45) rfl rfl Try.func83 (by kernel_rfl) rfl #[.slice (some ⟨mg, 0, none⟩) l.length mc] rfl (by (try simp only [List.map_toArray, List.map_cons, List.map_nil]); first | done | rfl) ?_; (with_reducible refine (levelR_calls2 _ (some ⟨mg, 0, none⟩) mc l.length (l.set k ⟨id, t, Q⟩) _ hll.symm hl3 hbb.out (own_drew hst'.out)).mono ?_); rintro e w10 ⟨u, rfl, u10, b10⟩; refine ⟨_, rfl, ?_⟩)
      go_ret2
      refine ⟨_, by rw [hj.out]; rfl, ?_, ?_⟩
      · rw [hj.out]
        show World.ownsRow _ _ _ _ _ _ _
        rw [level_len]
        exact own_lower u10 (Nat.zero_le _)
      · exact hbs.out.trans ((below_drew b10).mono hbs.out.size)
  · have hp0 : placeL l id < 0 := by have := mt has_place.2 hh; omega
    obtain ⟨pl, hpl⟩ : ∃ pl, placeL l id = pl := ⟨_, rfl⟩
    rw [hpl] at hp0
    have hpl' := Lib.hid hpl
    have hj := Lib.hid (show changeL l id t = (l, 8) by unfold changeL; rw [if_neg hh])
    clear hh hpl hgood hr
    go_enter Try.func50, Try.ntmps50
    go_wp2_with ((with_reducible refine gate_callee (f := 80) rfl ?_); refine goesL_ (some 12) rfl rfl Try.func80 (by kernel_rfl) rfl #[.slice A l.length c0, .int .i64 id] rfl (by (try simp only [List.map_toArray, List.map_cons, List.map_nil]); first | done | rfl) ?_; (with_reducible refine (place_calls A c0 l id _ hsr.out (by omega) hrd.out).mono ?_); rintro e w1 ⟨rfl, b1⟩; refine ⟨_, rfl, ?_⟩; simp only [hpl'.out])
    go_ret2
    exact ⟨_, by rw [hj.out]; rfl, by rw [hj.out]; exact hr'.out.below b1, b1⟩
end Go.Proofs.Ytkcmmghhghgdpaa.Str
