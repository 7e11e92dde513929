/- The document's place, right, stride and level (furlongref09): their contracts. -/
import Derived.Test.YtkcmmghhghgdpaaStrT
import Derived.Lib.MinMax
namespace Go.Proofs.Ytkcmmghhghgdpaa.Str
open Go.RowKit Go.Shelf Go.Maps Go.Proofs.Ytkcmmghhghgdpaa.Iter Go.Proofs.Ytkcmmghhghgdpaa.SeqM Go.Proofs.YtkcmmghhghgdpaaW.PrintWords Go.Proofs.YtkcmmghhghgdpaaW.PrintLast
set_option linter.unusedVariables false
set_option linter.unusedSimpArgs false
abbrev tR : Nat := 114
abbrev slR : Nat := 33
theorem infoR : (Try.prog.info? 114).map (fun i => (i.zero, i.size, i.bytes)) = some (some (.agg #[.int .i64 0, .int .i64 0, .int .i64 0]), 3, 24) := by kernel_rfl
theorem cells_new (w : World) (cs : List Value) (t : TypeId) : ∀ j u, cs[j]? = some u → (w.alloc (.cells cs.toArray t)).cell? (Addr.add ⟨w.heap.size, 0, none⟩ j) = some u := fun j u h => by
  rw [Addr.add_lit, Nat.zero_add, (Blk.new w t cs.toArray).cell j]
  simpa using h
theorem own_readsR {W : World} {base : Nat} {A : Option Addr} {n c : Nat} {l : List Cl} (h : W.ownsRow base tR 3 (.slice A n c) l.length (flat l)) : ReadsG W A l ∧ (∀ ad, A = some ad → base ≤ ad.block ∧ ad.block < W.heap.size) ∧ n = l.length ∧ n ≤ c := by
  rcases h.2 with ⟨h1, h0⟩ | ⟨g, cap, cur, hv, hb, hg, hc, _⟩
  · simp at h1
    obtain ⟨rfl, rfl, rfl⟩ := h1
    refine ⟨fun j x hx => ?_, (fun ad h => by cases h), h0.symm, Nat.le_refl _⟩
    have := (List.getElem?_eq_some_iff.1 hx).1
    omega
  · injection hv with e1 e2 e3
    subst e1
    subst e2
    have hl : g < W.heap.size := (Array.getElem?_eq_some_iff.1 hg).1
    refine ⟨fun j x hx => ?_, (fun ad h => by obtain rfl := Option.some.inj h; exact ⟨hb, hl⟩), rfl, by omega⟩
    have hj := (List.getElem?_eq_some_iff.1 hx).1
    refine ⟨g, rfl, hl, ?_, ?_, ?_⟩
    · rw [h.cellAt (j * 3) (by omega)]
      have := flat_get l j 0 x (by omega) hx
      simpa [cC] using this
    · rw [h.cellAt (j * 3 + 1) (by omega)]
      have := flat_get l j 1 x (by omega) hx
      simpa [cC] using this
    · rw [h.cellAt (j * 3 + 2) (by omega)]
      have := flat_get l j 2 x (by omega) hx
      simpa [cC] using this
theorem own_lower {W : World} {B B' e size n : Nat} {v : Value} {xs : List Value} (h : W.ownsRow B e size v n xs) (hb : B' ≤ B) : W.ownsRow B' e size v n xs := by
  refine ⟨h.1, ?_⟩
  rcases h.2 with hn | ⟨g, cap, cur, e, hg, rest⟩
  · exact .inl hn
  · exact .inr ⟨g, cap, cur, e, Nat.le_trans hb hg, rest⟩

set_option maxRecDepth 100000 in
set_option maxHeartbeats 4000000 in
theorem right_yes (t : Int) (W : World) (h1 : 1 ≤ t) (h2 : t ≤ 16) : Calls Try.prog 81 #[.int .i64 t] W fun e W' => e = .returned (.bool true) ∧ W' = W := by
  go_enter Try.func81, Try.ntmps81
  go_wp2
  go_ret
  exact ⟨rfl, rfl⟩
set_option maxRecDepth 100000 in
set_option maxHeartbeats 4000000 in
theorem right_no (t : Int) (W : World) (h : t < 1 ∨ 16 < t) : Calls Try.prog 81 #[.int .i64 t] W fun e W' => e = .returned (.bool false) ∧ W' = W := by
  rcases h with h | h
  · have h1 : ¬ 1 ≤ t := by omega
    clear h
    go_enter Try.func81, Try.ntmps81
    go_wp2
    go_ret
    exact ⟨rfl, rfl⟩
  · have h1 : 1 ≤ t := by omega
    have h2 : ¬ t ≤ 16 := by omega
    clear h
    go_enter Try.func81, Try.ntmps81
    go_wp2
    go_ret
    exact ⟨rfl, rfl⟩
set_option maxRecDepth 100000 in
set_option maxHeartbeats 4000000 in
theorem sdR_calls (t : Int) (W : World) (h1 : 1 ≤ t) (h2 : t ≤ 16) : Calls Try.prog 82 #[.int .i64 t] W fun e W' => e = .returned (.int .i64 (sd t)) ∧ W' = W := by
  have hq : Int.tdiv 720720 t = sd t := by unfold sd; exact Int.tdiv_eq_ediv_of_nonneg (by omega)
  have hne : (t == 0) = false := beq_eq_false_iff_ne.mpr (by omega)
  have hw : IntKind.i64.wrap (sd t) = sd t := IntWalk.i64_in _ (by have := sd_nonneg h1 h2; omega)
  have h0 : ¬ t = 0 := by omega
  go_enter Try.func82, Try.ntmps82
  go_wp2
  go_ret
  exact ⟨rfl, rfl⟩

set_option maxRecDepth 100000 in
set_option maxHeartbeats 4000000 in
theorem place_calls (A : Option Addr) (c0 : Nat) (l : List Cl) (id : Int) (W : World) (hs : Sorted l) (hlen : l.length ≤ 2000) (hr : ReadsG W A l) :
    Calls Try.prog 80 #[.slice A l.length c0, .int .i64 id] W fun e W' => e = .returned (.int .i64 (placeL l id)) ∧ Below W.heap.size W W' := by
  have hr' := Lib.hid hr
  have hs' := Lib.hid hs
  clear hr hs
  go_enter Try.func80, Try.ntmps80
  go_wp2
  go_loopw [9] (fun iv wr => ∃ (i : Nat), iv = .int .i64 (i : Int) ∧ i ≤ l.length ∧ (∀ j c, j < i → l[j]? = some c → c.id ≠ id) ∧ Below W.heap.size W wr)
    (fun iv _ => l.length - (intOf iv).toNat)
  case atStart => exact ⟨0, rfl, Nat.zero_le _, (fun j c h => by omega), Below.refl _ _⟩
  case round =>
    obtain ⟨i, rfl, hi, hno, hbel⟩ := hrel
    by_cases hlt : i < l.length
    · obtain ⟨c, hc⟩ : ∃ c, l[i]? = some c := ⟨l[i], List.getElem?_eq_getElem hlt⟩
      obtain ⟨g, rfl, _, q0, q1, q2⟩ := (hr'.out.below hbel) i c hc
      have bC := Blk.new wr tR #[.int .i64 c.id, .int .i64 c.t, .int .i64 c.p]
      have d0 := bC.cell 0
      simp only [List.getElem?_toArray, List.getElem?_cons_zero, List.getElem?_cons_succ] at d0
      have hb2 := Lib.hid (hbel.alloc hbel.size (.cells #[.int .i64 c.id, .int .i64 c.t, .int .i64 c.p] tR))
      by_cases he : c.id = id
      · have hp := Lib.hid (place_at hs'.out hc he)
        have e1 : (c.id == id) = true := beq_iff_eq.mpr he
        clear hbel hc bC he hno
        go_wp2
        go_ret
        exact ⟨by rw [hp.out]; rfl, hb2.out⟩
      · have hno' := Lib.hid (show ∀ j d, j < i + 1 → l[j]? = some d → d.id ≠ id from fun j d hj hd => by
          by_cases hji : j = i
          · subst hji
            rw [hc] at hd
            obtain rfl := Option.some.inj hd
            exact he
          · exact hno j d (by omega) hd)
        have e1 : (c.id == id) = false := beq_eq_false_iff_ne.mpr he
        clear hbel hc bC he hno
        go_wp2
        go_roundw
        case rel => exact ⟨i + 1, by go_num, by omega, hno'.out, hb2.out⟩
        case measure => simp [intOf]; omega
    · have hi' : i = l.length := by omega
      subst hi'
      have hp := Lib.hid (place_none (fun j c hc => hno j c (List.getElem?_eq_some_iff.1 hc).1 hc))
      have hb2 := Lib.hid hbel
      clear hbel hno
      go_wp2
      go_ret
      exact ⟨by rw [hp.out]; rfl, hb2.out⟩

set_option maxRecDepth 100000 in
set_option maxHeartbeats 8000000 in
theorem levelR_calls (B : Nat) (A : Option Addr) (c0 : Nat) (l : List Cl) (W : World) (hlen : l.length ≤ 3000) (hb : ∀ c ∈ l, 0 ≤ c.p ∧ c.p ≤ 1500000) (hr : W.ownsRow B tR 3 (.slice A l.length c0) l.length (flat l)) :
    Calls Try.prog 83 #[.slice A l.length c0] W fun e W' => ∃ u, e = .returned u ∧ W'.ownsRow W.heap.size tR 3 u l.length (flat (levelL l)) ∧ Below W.heap.size W W' := by
  obtain ⟨i0, hif, hz0, hz1, hz2⟩ := info_parts infoR
  have hrd := Lib.hid (own_readsR hr).1
  have hb' := Lib.hid hb
  have hll := level_len l
  clear hr hb
  go_enter Try.func83, Try.ntmps83
  go_wp2
  go_loopw [3, 11] (fun mv iv wr => ∃ (i : Nat) (m : Value), m = mv ∧ iv = .int .i64 (i : Int) ∧ i ≤ l.length ∧ wr.ownsRow W.heap.size tR 3 m i (flat ((levelL l).take i)) ∧ Below W.heap.size W wr)
    (fun _ iv _ => l.length - (intOf iv).toNat)
  case atStart => exact ⟨0, _, rfl, rfl, Nat.zero_le _, World.ownsRow_nil _ _ _ _, Below.refl _ _⟩
  case round =>
    obtain ⟨i, m, rfl, rfl, hi, hown, hbel⟩ := hrel
    by_cases hlt : i < l.length
    · obtain ⟨c, hc⟩ : ∃ c, l[i]? = some c := ⟨l[i], List.getElem?_eq_getElem hlt⟩
      obtain ⟨g, rfl, _, q0, q1, q2⟩ := (hrd.out.below hbel) i c hc
      have bC := Blk.new wr tR #[.int .i64 c.id, .int .i64 c.t, .int .i64 c.p]
      have d2 := bC.cell 2
      simp only [List.getElem?_toArray, List.getElem?_cons_zero, List.getElem?_cons_succ] at d2
      have bC' := Lib.hid bC
      have hb2 := Lib.hid (hbel.alloc hbel.size (.cells #[.int .i64 c.id, .int .i64 c.t, .int .i64 c.p] tR))
      have ho2 := Lib.hid (hown.alloc (.cells #[.int .i64 c.id, .int .i64 c.t, .int .i64 c.p] tR))
      have hcm := Lib.hid (minF_least (List.mem_of_getElem? hc))
      have hst := Lib.hid (level_take hc)
      have hcb := hb'.out c (List.mem_of_getElem? hc)
      clear hbel hc bC hown
      go_wp2
      go_loopw [6, 19] (fun lv kv wq => ∃ (k : Nat), lv = .int .i64 (minF c.p (l.take k)) ∧ kv = .int .i64 (k : Int) ∧ k ≤ l.length ∧ wq.ownsRow W.heap.size tR 3 m i (flat ((levelL l).take i)) ∧ Blk wq wr.heap.size tR #[.int .i64 c.id, .int .i64 c.t, .int .i64 c.p] ∧ Below W.heap.size W wq)
        (fun _ kv _ => l.length - (intOf kv).toNat)
      case atStart => exact ⟨0, rfl, rfl, Nat.zero_le _, ho2.out, bC'.out, hb2.out⟩
      case round =>
        clear q0 q1 q2 d2
        obtain ⟨k, rfl, rfl, hk, hown, hcb2, hbel⟩ := hrel
        by_cases hltk : k < l.length
        · obtain ⟨d, hd⟩ : ∃ d, l[k]? = some d := ⟨l[k], List.getElem?_eq_getElem hltk⟩
          obtain ⟨g2, hg2, _, q0, q1, q2⟩ := (hrd.out.below hbel) k d hd
          injection hg2 with hg2
          injection hg2 with hg2
          subst hg2
          have bD := Blk.new wr tR #[.int .i64 d.id, .int .i64 d.t, .int .i64 d.p]
          have d2 := bD.cell 2
          simp only [List.getElem?_toArray, List.getElem?_cons_zero, List.getElem?_cons_succ] at d2
          have hmt := Lib.hid (minF_take c.p l k d hd)
          have hb3 := Lib.hid (hbel.alloc hbel.size (.cells #[.int .i64 d.id, .int .i64 d.t, .int .i64 d.p] tR))
          have ho3 := Lib.hid (hown.alloc (.cells #[.int .i64 d.id, .int .i64 d.t, .int .i64 d.p] tR))
          have hc3 := Lib.hid (hcb2.alloc (.cells #[.int .i64 d.id, .int .i64 d.t, .int .i64 d.p] tR))
          clear hbel hd bD hown hcb2
          go_wp2
          go_roundw
          case rel => exact ⟨k + 1, by rw [hmt.out], by go_num, by omega, ho3.out, hc3.out, hb3.out⟩
          case measure => simp [intOf]; omega
        · have hk' : k = l.length := by omega
          subst hk'
          rw [show minF c.p (l.take l.length) = leastP l by rw [List.take_of_length_le (Nat.le_refl _)]; exact hcm.out]
          have hlp := hcm.out
          have hl0 : 0 ≤ leastP l ∧ leastP l ≤ c.p := by
            have h1 := minF_le l c.p
            rw [hlp] at h1
            have h2 := minF_ge l c.p 0 (by omega) (fun x hx => (hb'.out x hx).1)
            rw [hlp] at h2
            exact ⟨h2, h1.1⟩
          obtain ⟨M, hM⟩ : ∃ M, leastP l = M := ⟨_, rfl⟩
          rw [hM] at hst hl0 ⊢
          have hw : IntKind.i64.wrap (c.p - M) = c.p - M := IntWalk.i64_in _ (by omega)
          have d0 := hcb2.cell 0
          have d1 := hcb2.cell 1
          have d2 := hcb2.cell 2
          simp only [List.getElem?_toArray, List.getElem?_cons_zero, List.getElem?_cons_succ] at d0 d1 d2
          have ho3 := Lib.hid (hown.alloc (.cells #[.int .i64 c.id, .int .i64 c.t, .int .i64 (c.p - M)] tR))
          have hb3 := Lib.hid (hbel.alloc hbel.size (.cells #[.int .i64 c.id, .int .i64 c.t, .int .i64 (c.p - M)] tR))
          have hsz := hbel.size
          clear hcm hM hlp hown hcb2 hbel
          go_wp2_with ((at_builtin; refine wpList_append_own _ rfl _ _ slR rfl W.heap.size tR i0 _ 3 24 Try.underlying33 hif hz0 hz1 hz2 rfl (by decide) _ _ _ rfl ho3.out ⟨wr.heap.size, 0, none⟩ 1 1 [.int .i64 c.id, .int .i64 c.t, .int .i64 (c.p - M)] rfl rfl (cells_new _ _ _) (by simp [Value.oneCell']) (by first | omega | (unfold maxLen; omega)) (by omega) (by simp; omega) ?_))
          intro v9 w9 hown9 hgr9 _
          have ho9 := Lib.hid hown9
          have hb9 := Lib.hid (below_grown hb3.out hgr9 (Nat.le_refl _) (fun k hk => (own_block ho3.out hk).1))
          clear hown9 hgr9
          go_wp2
          go_roundw
          case rel => exact ⟨i + 1, _, rfl, by go_num, by omega, by rw [hst.out, flat_app]; exact ho9.out, hb9.out⟩
          case measure => simp [intOf]; omega
    · have hi' : i = l.length := by omega
      subst hi'
      have hb2 := Lib.hid hbel
      rw [show (levelL l).take l.length = levelL l by rw [← hll]; exact List.take_of_length_le (Nat.le_refl _)] at hown
      have ho2 := Lib.hid hown
      clear hbel hown
      go_wp2
      go_ret
      exact ⟨_, rfl, ho2.out, hb2.out⟩
end Go.Proofs.Ytkcmmghhghgdpaa.Str
