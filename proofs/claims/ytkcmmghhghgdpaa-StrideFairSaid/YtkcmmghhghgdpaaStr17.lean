/- The law StrideFair over what is read of its arguments. -/
import Derived.Test.YtkcmmghhghgdpaaStr16
import Derived.Test.YtkcmmghhghgdpaaStrR
import Derived.Lib.MinMax
namespace Go.Proofs.Ytkcmmghhghgdpaa.Str
open Go.RowKit Go.Shelf Go.Maps Go.Proofs.Ytkcmmghhghgdpaa.Iter Go.Proofs.Ytkcmmghhghgdpaa.SeqM Go.Proofs.YtkcmmghhghgdpaaW.PrintWords Go.Proofs.YtkcmmghhghgdpaaW.PrintLast
set_option linter.unusedVariables false
set_option linter.unusedSimpArgs false
theorem own_readsG {W : World} {base : Nat} {A : Option Addr} {n c : Nat} {l : List Cl} (h : W.ownsRow base tC 3 (.slice A n c) l.length (flat l)) : ReadsG W A l ∧ (∀ ad, A = some ad → base ≤ ad.block ∧ ad.block < W.heap.size) ∧ n = l.length ∧ n ≤ c := by
  rcases h.2 with ⟨h1, h0⟩ | ⟨g, cap, cur, hv, hb, hg, hc, _⟩
  · simp at h1
    obtain ⟨rfl, rfl, rfl⟩ := h1
    refine ⟨fun j x hx => ?_, (fun ad h => by cases h), h0.symm, Nat.le_refl _⟩
    have := (List.getElem?_eq_some_iff.1 hx).1
    omega
  · injection hv with e1 e2 e3
    subst e1
    subst e2
    have hl : g < W.heap.size := (Array.getElem?_eq_some_iff.1 hg).1
    refine ⟨fun j x hx => ?_, (fun ad h => by obtain rfl := Option.some.inj h; exact ⟨hb, hl⟩), rfl, by omega⟩
    have hj := (List.getElem?_eq_some_iff.1 hx).1
    refine ⟨g, rfl, hl, ?_, ?_, ?_⟩
    · rw [h.cellAt (j * 3) (by omega)]
      have := flat_get l j 0 x (by omega) hx
      simpa [cC] using this
    · rw [h.cellAt (j * 3 + 1) (by omega)]
      have := flat_get l j 1 x (by omega) hx
      simpa [cC] using this
    · rw [h.cellAt (j * 3 + 2) (by omega)]
      have := flat_get l j 2 x (by omega) hx
      simpa [cC] using this
theorem ReadsG.mt {W W' : World} {A : Option Addr} {l : List Cl} {G : Nat} {r : Option Nat} (h : ReadsG W A l) (hb : Mt G r W W') (hn : ∀ ad, A = some ad → ad.block ≠ G ∧ some ad.block ≠ r) : ReadsG W' A l := fun j x hx => by
  obtain ⟨g, rfl, h1, a, b, c⟩ := h j x hx
  obtain ⟨n1, n2⟩ := hn _ rfl
  have e := hb.block g h1 n1 n2
  exact ⟨g, rfl, Nat.lt_of_lt_of_le h1 hb.size, (World.cell?_of_block (a := ⟨g, _, none⟩) e).trans a, (World.cell?_of_block (a := ⟨g, _, none⟩) e).trans b, (World.cell?_of_block (a := ⟨g, _, none⟩) e).trans c⟩
theorem runR_eq {l : List Cl} {n : Nat} (hn : l ≠ []) (h : n ≤ 100000) : runR l (n : Int) = ((runL n l).1, (runL n l).2, 0) := by
  unfold runR
  rw [if_neg (by omega)]
  by_cases h0 : (n : Int) = 0
  · rw [if_pos h0]
    obtain rfl : n = 0 := by omega
    rfl
  · rw [if_neg h0, if_neg hn, Int.toNat_natCast]
end Go.Proofs.Ytkcmmghhghgdpaa.Str
namespace Go.Proofs.Ytkcmmghhghgdpaa.Walk
open Go.RowKit Go.Shelf Go.Maps Go.Proofs.Ytkcmmghhghgdpaa.Iter Go.Proofs.Ytkcmmghhghgdpaa.SeqM Go.Proofs.Ytkcmmghhghgdpaa.Str Go.Proofs.YtkcmmghhghgdpaaW.PrintWords Go.Proofs.YtkcmmghhghgdpaaW.PrintLast
set_option linter.unusedVariables false
set_option linter.unusedSimpArgs false

set_option maxRecDepth 100000 in
set_option maxHeartbeats 16000000 in
theorem StrideFair (W : World) (A0 : Option Addr) (c0 : Nat) (ops : List Opr) (hc0 : ops.length ≤ c0) (hr0 : Open.kOp.C W A0 ops.length ops) (g0 : ops.length ≤ maxLen ∧ ∀ a ∈ ops, Open.okOp a) (n : Int) (wn : (Lit.int .i64 n).wf = true) :
    Calls Try.prog 5 #[.slice A0 ops.length c0, .int .i64 n] W fun e W' => e = .returned (.bool true) ∧ Below W.heap.size W W' := by
  have hl63 : ops.length ≤ 9223372036854775807 := g0.1
  have hR := Lib.hid (readsO_C hr0)
  clear hr0 g0 wn
  by_cases k1 : n < 0
  · go_enter Try.func5, Try.ntmps5
    go_upto_region 5 with ((with_reducible refine gate_callee (f := 14) rfl ?_); refine goesL_ (some 21) rfl rfl Try.func14 (by kernel_rfl) rfl #[] rfl (by (try simp only [List.map_toArray, List.map_cons, List.map_nil]); first | done | rfl) ?_; (with_reducible refine (awake_calls _).mono ?_); rintro e w1 ⟨rfl, b1⟩; refine ⟨_, rfl, ?_⟩; have b1' := Lib.hid b1; clear b1)
    obtain ⟨N, hNe⟩ : ∃ N : Nat, (100 : Int) = (N : Int) := ⟨100, rfl⟩
    have hN1 : N ≤ 3000 := by omega
    rw [hNe]
    clear hNe
    go_upto_region 7 with (first | ((with_reducible refine gate_callee (f := 21) rfl ?_); refine goesL_ (some 30) rfl rfl Try.func21 (by kernel_rfl) rfl #[.slice A0 ops.length c0] rfl (by (try simp only [List.map_toArray, List.map_cons, List.map_nil]); first | done | rfl) ?_; (with_reducible refine (made_calls A0 c0 ops _ (hR.out.below b1'.out) hl63).mono ?_); rintro e w2 ⟨G, v, rfl, g2, b2⟩; refine ⟨_, rfl, ?_⟩; have g2' := Lib.hid (g2.lower b1'.out.size); have b2' := Lib.hid (b1'.out.trans (b2.mono b1'.out.size)); clear g2 b2) | ((with_reducible refine gate_callee (f := 22) rfl ?_); refine goesL_ (some 32) rfl rfl Try.func22 (by kernel_rfl) rfl #[ptrG G] rfl (by (try simp only [List.map_toArray, List.map_cons, List.map_nil]); first | done | rfl) ?_; (with_reducible refine (list_calls W.heap.size G v (madeL ops) _ (good_len (madeL_good ops)) g2'.out).mono ?_); rintro e w3 ⟨u, rfl, u3, b3⟩; obtain ⟨A3, c3, rfl⟩ := slice_of_own u3; refine ⟨_, rfl, ?_⟩; have u3' := Lib.hid (own_readsG u3); have g3' := Lib.hid (grp_below g2'.out b3); have b3' := Lib.hid (b2'.out.trans (b3.mono b2'.out.size)); clear u3 b3))
    have hgood := Lib.hid (madeL_good ops)
    obtain ⟨L, hL⟩ : ∃ L, madeL ops = L := ⟨_, rfl⟩
    rw [hL] at hgood g2' u3' g3'
    rw [show (madeL ops).length = L.length by rw [hL]]
    clear hL
    by_cases hemp : L = []
    · have hl0 : (L.length : Int) = 0 := by rw [hemp]; rfl
      have hemp' := Lib.hid hemp
      clear hemp
      go_wp2
      go_ret
      exact ⟨rfl, b3'.out⟩
    · have hlp : 0 < L.length := by cases L with | nil => exact absurd rfl hemp | cons => simp
      have hl0 : ¬ (L.length : Int) = 0 := by omega
      have hl1024 := hgood.out.2.2
      have hrun := Lib.hid (runR_eq hemp (show N ≤ 100000 by omega))
      have hspec := run_spec N L hgood.out.1 hemp
      have hxl := hspec.2.1
      have hgood2 := Lib.hid (run_good' hgood.out N)
      have hfair := Lib.hid (fun (c : Cl) (hc : c ∈ L) => fair (n := N) hgood.out.1 hc)
      obtain ⟨xs, hxs⟩ : ∃ xs, (runL N L).2 = xs := ⟨_, rfl⟩
      obtain ⟨L2, hL2⟩ : ∃ L2, (runL N L).1 = L2 := ⟨_, rfl⟩
      have hL2l : L2.length = L.length := by rw [← hL2, run_len]
      rw [hxs, hL2] at hrun
      rw [hL2] at hgood2
      rw [hxs] at hfair hxl
      have hne2 : L2 ≠ [] := by intro e; rw [e] at hL2l; simp at hL2l; omega
      clear hxs hL2 hspec
      have hsT := sumT_bound L (fun c hc => ⟨(hgood.out.1.1 c hc).1, (hgood.out.1.1 c hc).2.1⟩)
      have hemp' := Lib.hid hemp
      clear hemp
      go_wp2_with ((with_reducible refine gate_callee (f := 17) rfl ?_); refine goesL_ (some 39) rfl rfl Try.func17 (by kernel_rfl) rfl #[ptrG G, .int .i64 (N : Int)] rfl (by (try simp only [List.map_toArray, List.map_cons, List.map_nil]); first | done | rfl) ?_; (with_reducible refine (run_calls W.heap.size G v L (N : Int) _ hgood.out g3'.out).mono ?_); rintro e w4 ⟨u, rfl, u4, g4, m4⟩; rw [hrun.out] at u4 g4; obtain ⟨Ax, cx, rfl⟩ := slice_of_own u4; refine ⟨_, rfl, ?_⟩; have x4' := Lib.hid (reads_row u4).1; have g4' := Lib.hid g4; have r4' := Lib.hid (u3'.out.1.mt m4 (fun ad h => ⟨fun e => by have h1 := (u3'.out.2.1 ad h).1; have h2 := g2'.out.lt; omega, fun e => by have h1 := (u3'.out.2.1 ad h).1; have h2 := (own_block g2'.out.row e.symm).2.1; omega⟩)); have b4' := Lib.hid (step_grp b3'.out (Nat.le_refl _) g3'.out m4); clear u4 g4 m4; simp only [hrun.out])
      go_loopw [9, 52] (fun tv iv wr => ∃ (i : Nat), tv = .int .i64 (sumT (L.take i)) ∧ iv = .int .i64 (i : Int) ∧ i ≤ L.length ∧ Below w4.heap.size w4 wr)
        (fun _ iv _ => L.length - (intOf iv).toNat)
      case atStart => exact ⟨0, rfl, rfl, Nat.zero_le _, Below.refl _ _⟩
      case round =>
        obtain ⟨i, rfl, rfl, hi, hbel⟩ := hrel
        by_cases hlt : i < L.length
        · obtain ⟨c, hc⟩ : ∃ c, L[i]? = some c := ⟨L[i], List.getElem?_eq_getElem hlt⟩
          obtain ⟨g, rfl, _, q0, q1, q2⟩ := (r4'.out.below hbel) i c hc
          have hst := Lib.hid (sumT_take L i c hc)
          have hok := hgood.out.1.1 c (List.mem_of_getElem? hc)
          have hsT2 := sumT_bound (L.take i) (fun c hc => ⟨(hgood.out.1.1 c (List.mem_of_mem_take hc)).1, (hgood.out.1.1 c (List.mem_of_mem_take hc)).2.1⟩)
          rw [List.length_take] at hsT2
          have bC := Blk.new wr tC #[.int .i64 c.id, .int .i64 c.t, .int .i64 c.p]
          have d1 := bC.cell 1
          simp only [List.getElem?_toArray, List.getElem?_cons_zero, List.getElem?_cons_succ] at d1
          have hb2 := Lib.hid (hbel.alloc hbel.size (.cells #[.int .i64 c.id, .int .i64 c.t, .int .i64 c.p] tC))
          obtain ⟨k1', k2', _, _⟩ := hok
          have hw : IntKind.i64.wrap (sumT (L.take i) + c.t) = sumT (L.take i) + c.t := IntWalk.i64_in _ (by omega)
          clear hbel hc bC
          go_wp2
          go_roundw
          case rel => exact ⟨i + 1, by rw [hst.out], by go_num, by omega, hb2.out⟩
          case measure => simp [intOf]; omega
        · have hi' : i = L.length := by omega
          subst hi'
          rw [show sumT (L.take L.length) = sumT L by rw [List.take_of_length_le (Nat.le_refl _)]]
          obtain ⟨T, hT⟩ : ∃ T, sumT L = T := ⟨_, rfl⟩
          rw [hT] at hfair hsT ⊢
          clear hT
          have hb0 := Lib.hid hbel
          clear hbel
          go_wp2
          go_loopw [63] (fun iv wr2 => ∃ (i : Nat), iv = .int .i64 (i : Int) ∧ i ≤ L.length ∧ Below w4.heap.size w4 wr2)
            (fun iv _ => L.length - (intOf iv).toNat)
          case atStart => exact ⟨0, rfl, Nat.zero_le _, hb0.out⟩
          case round =>
            obtain ⟨i, rfl, hi, hbel⟩ := hrel
            by_cases hlt : i < L.length
            · obtain ⟨c, hc⟩ : ∃ c, L[i]? = some c := ⟨L[i], List.getElem?_eq_getElem hlt⟩
              obtain ⟨g, rfl, _, q0, q1, q2⟩ := (r4'.out.below hbel) i c hc
              have hfc := hfair.out c (List.mem_of_getElem? hc)
              obtain ⟨k1', k2', _, _⟩ := hgood.out.1.1 c (List.mem_of_getElem? hc)
              have hb1 := Lib.hid (hbel.alloc hbel.size (.cells #[.int .i64 c.id, .int .i64 c.t, .int .i64 c.p] tC))
              have hcB := Lib.hid (Blk.new wr tC #[.int .i64 c.id, .int .i64 c.t, .int .i64 c.p])
              clear hbel hc
              go_wp2
              go_loopw [14, 69] (fun hv kv wr3 => ∃ (k : Nat), hv = .int .i64 (cnt c.id (xs.take k)) ∧ kv = .int .i64 (k : Int) ∧ k ≤ xs.length ∧ Blk wr3 wr.heap.size tC #[.int .i64 c.id, .int .i64 c.t, .int .i64 c.p] ∧ Below w4.heap.size w4 wr3)
                (fun _ kv _ => xs.length - (intOf kv).toNat)
              case atStart => exact ⟨0, rfl, rfl, Nat.zero_le _, hcB.out, hb1.out⟩
              case round =>
                obtain ⟨k, rfl, rfl, hk, hcb, hbel⟩ := hrel
                have d0 := hcb.cell 0
                have d1 := hcb.cell 1
                simp only [List.getElem?_toArray, List.getElem?_cons_zero, List.getElem?_cons_succ] at d0 d1
                have hcnt := cnt_le c.id (xs.take k)
                have hcn0 := cnt_nonneg c.id (xs.take k)
                rw [List.length_take] at hcnt
                by_cases hltk : k < xs.length
                · obtain ⟨z, hz⟩ : ∃ z, xs[k]? = some z := ⟨xs[k], List.getElem?_eq_getElem hltk⟩
                  obtain ⟨ax, rfl, _, p0⟩ := (x4'.out.below hbel) k z hz
                  have hct := cnt_take c.id xs k z hz
                  have hcb' := Lib.hid hcb
                  have hb2 := Lib.hid hbel
                  clear hcb hbel hz
                  have hw : IntKind.i64.wrap (cnt c.id (xs.take k) + 1) = cnt c.id (xs.take k) + 1 := IntWalk.i64_in _ (by omega)
                  by_cases hzc : z = c.id
                  · rw [if_pos hzc] at hct
                    have hct' := Lib.hid hct
                    have e1 : (z == c.id) = true := beq_iff_eq.mpr hzc
                    clear hct
                    go_wp2
                    go_roundw
                    case rel => exact ⟨k + 1, by rw [hct'.out], by go_num, by omega, hcb'.out, hb2.out⟩
                    case measure => simp [intOf]; omega
                  · rw [if_neg hzc, Int.add_zero] at hct
                    have hct' := Lib.hid hct
                    have e1 : (z == c.id) = false := beq_eq_false_iff_ne.mpr hzc
                    clear hct
                    go_wp2
                    go_roundw
                    case rel => exact ⟨k + 1, by rw [hct'.out], by go_num, by omega, hcb'.out, hb2.out⟩
                    case measure => simp [intOf]; omega
                · have hk' : k = xs.length := by omega
                  subst hk'
                  rw [show cnt c.id (xs.take xs.length) = cnt c.id xs by rw [List.take_of_length_le (Nat.le_refl _)]] at hcnt hcn0 ⊢
                  have hb2 := Lib.hid hbel
                  clear hcb hbel
                  generalize hC : cnt c.id xs = C at *
                  clear hC
                  have m1 : C * T ≤ 3000 * 16384 := Int.mul_le_mul (by omega) (by omega) (by omega) (by omega)
                  have m0 : 0 ≤ C * T := Int.mul_nonneg (by omega) (by omega)
                  have m2 : (N : Int) * c.t ≤ 3000 * 16 := Int.mul_le_mul (by omega) (by omega) (by omega) (by omega)
                  have m3 : 0 ≤ (N : Int) * c.t := Int.mul_nonneg (by omega) (by omega)
                  have m4 : T * ((L.length : Int) - 1) ≤ 16384 * 1024 := Int.mul_le_mul (by omega) (by omega) (by omega) (by omega)
                  have m5 : 0 ≤ T * ((L.length : Int) - 1) := Int.mul_nonneg (by omega) (by omega)
                  have w1 : IntKind.i64.wrap (C * T) = C * T := IntWalk.i64_in _ (by omega)
                  have w2 : IntKind.i64.wrap ((N : Int) * c.t) = (N : Int) * c.t := IntWalk.i64_in _ (by omega)
                  have w3 : IntKind.i64.wrap ((L.length : Int) - 1) = (L.length : Int) - 1 := IntWalk.i64_in _ (by omega)
                  have w5 : IntKind.i64.wrap (T * ((L.length : Int) - 1)) = T * ((L.length : Int) - 1) := IntWalk.i64_in _ (by omega)
                  have w6 : IntKind.i64.wrap (C * T - (N : Int) * c.t) = C * T - (N : Int) * c.t := IntWalk.i64_in _ (by omega)
                  have w7 : IntKind.i64.wrap (-(C * T - (N : Int) * c.t)) = -(C * T - (N : Int) * c.t) := IntWalk.i64_in _ (by omega)
                  obtain ⟨f1, f2⟩ := hfc
                  have f1' : ¬ T * ((L.length : Int) - 1) < C * T - (N : Int) * c.t := by omega
                  have f2' : ¬ T * ((L.length : Int) - 1) < -(C * T - (N : Int) * c.t) := by omega
                  go_wp2
                  go_roundw
                  case rel => exact ⟨i + 1, by go_num, by omega, hb2.out⟩
                  case measure => simp [intOf]; omega
            · have hi' : i = L.length := by omega
              subst hi'
              have hb1 := Lib.hid hbel
              have g5' := Lib.hid (grp_below g4'.out hbel)
              have b5' := Lib.hid (b4'.out.trans (hbel.mono b4'.out.size))
              clear hbel
              go_wp2_with ((with_reducible refine gate_callee (f := 22) rfl ?_); refine goesL_ (some 107) rfl rfl Try.func22 (by kernel_rfl) rfl #[ptrG G] rfl (by (try simp only [List.map_toArray, List.map_cons, List.map_nil]); first | done | rfl) ?_; (with_reducible refine (list_calls W.heap.size G v L2 _ (good_len hgood2.out) g5'.out).mono ?_); rintro e w6 ⟨u, rfl, u6, b6⟩; obtain ⟨A6, c6, rfl⟩ := slice_of_own u6; refine ⟨_, rfl, ?_⟩; have r6' := Lib.hid (own_readsG u6).1; have b6' := Lib.hid (b5'.out.trans (b6.mono b5'.out.size)); clear u6 b6)
              go_loopw [18, 109] (fun lv iv wr4 => ∃ (i : Nat), lv = .int .i64 (minF 4611686018427387904 (L2.take i)) ∧ iv = .int .i64 (i : Int) ∧ i ≤ L2.length ∧ Below w6.heap.size w6 wr4)
                (fun _ iv _ => L2.length - (intOf iv).toNat)
              case atStart => exact ⟨0, rfl, rfl, Nat.zero_le _, Below.refl _ _⟩
              case round =>
                obtain ⟨i, rfl, rfl, hi, hbel⟩ := hrel
                by_cases hlt : i < L2.length
                · obtain ⟨c, hc⟩ : ∃ c, L2[i]? = some c := ⟨L2[i], List.getElem?_eq_getElem hlt⟩
                  obtain ⟨g, rfl, _, q0, q1, q2⟩ := (r6'.out.below hbel) i c hc
                  obtain ⟨k1', k2', k3', k4'⟩ := hgood2.out.1.1 c (List.mem_of_getElem? hc)
                  have hmt := Lib.hid (minF_take 4611686018427387904 L2 i c hc)
                  have bC := Blk.new wr tC #[.int .i64 c.id, .int .i64 c.t, .int .i64 c.p]
                  have d1 := bC.cell 1
                  have d2 := bC.cell 2
                  simp only [List.getElem?_toArray, List.getElem?_cons_zero, List.getElem?_cons_succ] at d1 d2
                  have hb2 := Lib.hid (hbel.alloc hbel.size (.cells #[.int .i64 c.id, .int .i64 c.t, .int .i64 c.p] tC))
                  have hq : Int.tdiv 720720 c.t = sd c.t := by unfold sd; exact Int.tdiv_eq_ediv_of_nonneg (by omega)
                  have hne : (c.t == 0) = false := beq_eq_false_iff_ne.mpr (by omega)
                  have h0 : ¬ c.t = 0 := by omega
                  have hsd := sd_nonneg k1' k2'
                  have hw : IntKind.i64.wrap (sd c.t) = sd c.t := IntWalk.i64_in _ (by omega)
                  have p1 : ¬ c.p < 0 := by omega
                  have p2 : ¬ sd c.t < c.p := by omega
                  clear hbel hc bC
                  go_wp2
                  go_quiet (fail)
                  go_wp2
                  go_roundw
                  case rel => exact ⟨i + 1, by rw [hmt.out], by go_num, by omega, by first | exact hb2.out | exact hb2.out.drew | exact pw_below_drewN hb2.out _⟩
                  case measure => simp [intOf]; omega
                · have hi' : i = L2.length := by omega
                  subst hi'
                  have hb2 := Lib.hid hbel
                  rw [show minF 4611686018427387904 (L2.take L2.length) = 0 by rw [List.take_of_length_le (Nat.le_refl _)]; exact minF_zero (fun c hc => (hgood2.out.1.1 c hc).2.2.1) (hgood2.out.1.2.1 hne2)]
                  clear hbel
                  go_wp2
                  go_ret
                  exact ⟨rfl, b6'.out.trans (hb2.out.mono b6'.out.size)⟩
  · by_cases k2 : 3000 < n
    · go_enter Try.func5, Try.ntmps5
      go_upto_region 5 with ((with_reducible refine gate_callee (f := 14) rfl ?_); refine goesL_ (some 21) rfl rfl Try.func14 (by kernel_rfl) rfl #[] rfl (by (try simp only [List.map_toArray, List.map_cons, List.map_nil]); first | done | rfl) ?_; (with_reducible refine (awake_calls _).mono ?_); rintro e w1 ⟨rfl, b1⟩; refine ⟨_, rfl, ?_⟩; have b1' := Lib.hid b1; clear b1)
      obtain ⟨N, hNe⟩ : ∃ N : Nat, (100 : Int) = (N : Int) := ⟨100, rfl⟩
      have hN1 : N ≤ 3000 := by omega
      rw [hNe]
      clear hNe
      go_upto_region 7 with (first | ((with_reducible refine gate_callee (f := 21) rfl ?_); refine goesL_ (some 30) rfl rfl Try.func21 (by kernel_rfl) rfl #[.slice A0 ops.length c0] rfl (by (try simp only [List.map_toArray, List.map_cons, List.map_nil]); first | done | rfl) ?_; (with_reducible refine (made_calls A0 c0 ops _ (hR.out.below b1'.out) hl63).mono ?_); rintro e w2 ⟨G, v, rfl, g2, b2⟩; refine ⟨_, rfl, ?_⟩; have g2' := Lib.hid (g2.lower b1'.out.size); have b2' := Lib.hid (b1'.out.trans (b2.mono b1'.out.size)); clear g2 b2) | ((with_reducible refine gate_callee (f := 22) rfl ?_); refine goesL_ (some 32) rfl rfl Try.func22 (by kernel_rfl) rfl #[ptrG G] rfl (by (try simp only [List.map_toArray, List.map_cons, List.map_nil]); first | done | rfl) ?_; (with_reducible refine (list_calls W.heap.size G v (madeL ops) _ (good_len (madeL_good ops)) g2'.out).mono ?_); rintro e w3 ⟨u, rfl, u3, b3⟩; obtain ⟨A3, c3, rfl⟩ := slice_of_own u3; refine ⟨_, rfl, ?_⟩; have u3' := Lib.hid (own_readsG u3); have g3' := Lib.hid (grp_below g2'.out b3); have b3' := Lib.hid (b2'.out.trans (b3.mono b2'.out.size)); clear u3 b3))
      have hgood := Lib.hid (madeL_good ops)
      obtain ⟨L, hL⟩ : ∃ L, madeL ops = L := ⟨_, rfl⟩
      rw [hL] at hgood g2' u3' g3'
      rw [show (madeL ops).length = L.length by rw [hL]]
      clear hL
      by_cases hemp : L = []
      · have hl0 : (L.length : Int) = 0 := by rw [hemp]; rfl
        have hemp' := Lib.hid hemp
        clear hemp
        go_wp2
        go_ret
        exact ⟨rfl, b3'.out⟩
      · have hlp : 0 < L.length := by cases L with | nil => exact absurd rfl hemp | cons => simp
        have hl0 : ¬ (L.length : Int) = 0 := by omega
        have hl1024 := hgood.out.2.2
        have hrun := Lib.hid (runR_eq hemp (show N ≤ 100000 by omega))
        have hspec := run_spec N L hgood.out.1 hemp
        have hxl := hspec.2.1
        have hgood2 := Lib.hid (run_good' hgood.out N)
        have hfair := Lib.hid (fun (c : Cl) (hc : c ∈ L) => fair (n := N) hgood.out.1 hc)
        obtain ⟨xs, hxs⟩ : ∃ xs, (runL N L).2 = xs := ⟨_, rfl⟩
        obtain ⟨L2, hL2⟩ : ∃ L2, (runL N L).1 = L2 := ⟨_, rfl⟩
        have hL2l : L2.length = L.length := by rw [← hL2, run_len]
        rw [hxs, hL2] at hrun
        rw [hL2] at hgood2
        rw [hxs] at hfair hxl
        have hne2 : L2 ≠ [] := by intro e; rw [e] at hL2l; simp at hL2l; omega
        clear hxs hL2 hspec
        have hsT := sumT_bound L (fun c hc => ⟨(hgood.out.1.1 c hc).1, (hgood.out.1.1 c hc).2.1⟩)
        have hemp' := Lib.hid hemp
        clear hemp
        go_wp2_with ((with_reducible refine gate_callee (f := 17) rfl ?_); refine goesL_ (some 39) rfl rfl Try.func17 (by kernel_rfl) rfl #[ptrG G, .int .i64 (N : Int)] rfl (by (try simp only [List.map_toArray, List.map_cons, List.map_nil]); first | done | rfl) ?_; (with_reducible refine (run_calls W.heap.size G v L (N : Int) _ hgood.out g3'.out).mono ?_); rintro e w4 ⟨u, rfl, u4, g4, m4⟩; rw [hrun.out] at u4 g4; obtain ⟨Ax, cx, rfl⟩ := slice_of_own u4; refine ⟨_, rfl, ?_⟩; have x4' := Lib.hid (reads_row u4).1; have g4' := Lib.hid g4; have r4' := Lib.hid (u3'.out.1.mt m4 (fun ad h => ⟨fun e => by have h1 := (u3'.out.2.1 ad h).1; have h2 := g2'.out.lt; omega, fun e => by have h1 := (u3'.out.2.1 ad h).1; have h2 := (own_block g2'.out.row e.symm).2.1; omega⟩)); have b4' := Lib.hid (step_grp b3'.out (Nat.le_refl _) g3'.out m4); clear u4 g4 m4; simp only [hrun.out])
        go_loopw [9, 52] (fun tv iv wr => ∃ (i : Nat), tv = .int .i64 (sumT (L.take i)) ∧ iv = .int .i64 (i : Int) ∧ i ≤ L.length ∧ Below w4.heap.size w4 wr)
          (fun _ iv _ => L.length - (intOf iv).toNat)
        case atStart => exact ⟨0, rfl, rfl, Nat.zero_le _, Below.refl _ _⟩
        case round =>
          obtain ⟨i, rfl, rfl, hi, hbel⟩ := hrel
          by_cases hlt : i < L.length
          · obtain ⟨c, hc⟩ : ∃ c, L[i]? = some c := ⟨L[i], List.getElem?_eq_getElem hlt⟩
            obtain ⟨g, rfl, _, q0, q1, q2⟩ := (r4'.out.below hbel) i c hc
            have hst := Lib.hid (sumT_take L i c hc)
            have hok := hgood.out.1.1 c (List.mem_of_getElem? hc)
            have hsT2 := sumT_bound (L.take i) (fun c hc => ⟨(hgood.out.1.1 c (List.mem_of_mem_take hc)).1, (hgood.out.1.1 c (List.mem_of_mem_take hc)).2.1⟩)
            rw [List.length_take] at hsT2
            have bC := Blk.new wr tC #[.int .i64 c.id, .int .i64 c.t, .int .i64 c.p]
            have d1 := bC.cell 1
            simp only [List.getElem?_toArray, List.getElem?_cons_zero, List.getElem?_cons_succ] at d1
            have hb2 := Lib.hid (hbel.alloc hbel.size (.cells #[.int .i64 c.id, .int .i64 c.t, .int .i64 c.p] tC))
            obtain ⟨k1', k2', _, _⟩ := hok
            have hw : IntKind.i64.wrap (sumT (L.take i) + c.t) = sumT (L.take i) + c.t := IntWalk.i64_in _ (by omega)
            clear hbel hc bC
            go_wp2
            go_roundw
            case rel => exact ⟨i + 1, by rw [hst.out], by go_num, by omega, hb2.out⟩
            case measure => simp [intOf]; omega
          · have hi' : i = L.length := by omega
            subst hi'
            rw [show sumT (L.take L.length) = sumT L by rw [List.take_of_length_le (Nat.le_refl _)]]
            obtain ⟨T, hT⟩ : ∃ T, sumT L = T := ⟨_, rfl⟩
            rw [hT] at hfair hsT ⊢
            clear hT
            have hb0 := Lib.hid hbel
            clear hbel
            go_wp2
            go_loopw [63] (fun iv wr2 => ∃ (i : Nat), iv = .int .i64 (i : Int) ∧ i ≤ L.length ∧ Below w4.heap.size w4 wr2)
              (fun iv _ => L.length - (intOf iv).toNat)
            case atStart => exact ⟨0, rfl, Nat.zero_le _, hb0.out⟩
            case round =>
              obtain ⟨i, rfl, hi, hbel⟩ := hrel
              by_cases hlt : i < L.length
              · obtain ⟨c, hc⟩ : ∃ c, L[i]? = some c := ⟨L[i], List.getElem?_eq_getElem hlt⟩
                obtain ⟨g, rfl, _, q0, q1, q2⟩ := (r4'.out.below hbel) i c hc
                have hfc := hfair.out c (List.mem_of_getElem? hc)
                obtain ⟨k1', k2', _, _⟩ := hgood.out.1.1 c (List.mem_of_getElem? hc)
                have hb1 := Lib.hid (hbel.alloc hbel.size (.cells #[.int .i64 c.id, .int .i64 c.t, .int .i64 c.p] tC))
                have hcB := Lib.hid (Blk.new wr tC #[.int .i64 c.id, .int .i64 c.t, .int .i64 c.p])
                clear hbel hc
                go_wp2
                go_loopw [14, 69] (fun hv kv wr3 => ∃ (k : Nat), hv = .int .i64 (cnt c.id (xs.take k)) ∧ kv = .int .i64 (k : Int) ∧ k ≤ xs.length ∧ Blk wr3 wr.heap.size tC #[.int .i64 c.id, .int .i64 c.t, .int .i64 c.p] ∧ Below w4.heap.size w4 wr3)
                  (fun _ kv _ => xs.length - (intOf kv).toNat)
                case atStart => exact ⟨0, rfl, rfl, Nat.zero_le _, hcB.out, hb1.out⟩
                case round =>
                  obtain ⟨k, rfl, rfl, hk, hcb, hbel⟩ := hrel
                  have d0 := hcb.cell 0
                  have d1 := hcb.cell 1
                  simp only [List.getElem?_toArray, List.getElem?_cons_zero, List.getElem?_cons_succ] at d0 d1
                  have hcnt := cnt_le c.id (xs.take k)
                  have hcn0 := cnt_nonneg c.id (xs.take k)
                  rw [List.length_take] at hcnt
                  by_cases hltk : k < xs.length
                  · obtain ⟨z, hz⟩ : ∃ z, xs[k]? = some z := ⟨xs[k], List.getElem?_eq_getElem hltk⟩
                    obtain ⟨ax, rfl, _, p0⟩ := (x4'.out.below hbel) k z hz
                    have hct := cnt_take c.id xs k z hz
                    have hcb' := Lib.hid hcb
                    have hb2 := Lib.hid hbel
                    clear hcb hbel hz
                    have hw : IntKind.i64.wrap (cnt c.id (xs.take k) + 1) = cnt c.id (xs.take k) + 1 := IntWalk.i64_in _ (by omega)
                    by_cases hzc : z = c.id
                    · rw [if_pos hzc] at hct
                      have hct' := Lib.hid hct
                      have e1 : (z == c.id) = true := beq_iff_eq.mpr hzc
                      clear hct
                      go_wp2
                      go_roundw
                      case rel => exact ⟨k + 1, by rw [hct'.out], by go_num, by omega, hcb'.out, hb2.out⟩
                      case measure => simp [intOf]; omega
                    · rw [if_neg hzc, Int.add_zero] at hct
                      have hct' := Lib.hid hct
                      have e1 : (z == c.id) = false := beq_eq_false_iff_ne.mpr hzc
                      clear hct
                      go_wp2
                      go_roundw
                      case rel => exact ⟨k + 1, by rw [hct'.out], by go_num, by omega, hcb'.out, hb2.out⟩
                      case measure => simp [intOf]; omega
                  · have hk' : k = xs.length := by omega
                    subst hk'
                    rw [show cnt c.id (xs.take xs.length) = cnt c.id xs by rw [List.take_of_length_le (Nat.le_refl _)]] at hcnt hcn0 ⊢
                    have hb2 := Lib.hid hbel
                    clear hcb hbel
                    generalize hC : cnt c.id xs = C at *
                    clear hC
                    have m1 : C * T ≤ 3000 * 16384 := Int.mul_le_mul (by omega) (by omega) (by omega) (by omega)
                    have m0 : 0 ≤ C * T := Int.mul_nonneg (by omega) (by omega)
                    have m2 : (N : Int) * c.t ≤ 3000 * 16 := Int.mul_le_mul (by omega) (by omega) (by omega) (by omega)
                    have m3 : 0 ≤ (N : Int) * c.t := Int.mul_nonneg (by omega) (by omega)
                    have m4 : T * ((L.length : Int) - 1) ≤ 16384 * 1024 := Int.mul_le_mul (by omega) (by omega) (by omega) (by omega)
                    have m5 : 0 ≤ T * ((L.length : Int) - 1) := Int.mul_nonneg (by omega) (by omega)
                    have w1 : IntKind.i64.wrap (C * T) = C * T := IntWalk.i64_in _ (by omega)
                    have w2 : IntKind.i64.wrap ((N : Int) * c.t) = (N : Int) * c.t := IntWalk.i64_in _ (by omega)
                    have w3 : IntKind.i64.wrap ((L.length : Int) - 1) = (L.length : Int) - 1 := IntWalk.i64_in _ (by omega)
                    have w5 : IntKind.i64.wrap (T * ((L.length : Int) - 1)) = T * ((L.length : Int) - 1) := IntWalk.i64_in _ (by omega)
                    have w6 : IntKind.i64.wrap (C * T - (N : Int) * c.t) = C * T - (N : Int) * c.t := IntWalk.i64_in _ (by omega)
                    have w7 : IntKind.i64.wrap (-(C * T - (N : Int) * c.t)) = -(C * T - (N : Int) * c.t) := IntWalk.i64_in _ (by omega)
                    obtain ⟨f1, f2⟩ := hfc
                    have f1' : ¬ T * ((L.length : Int) - 1) < C * T - (N : Int) * c.t := by omega
                    have f2' : ¬ T * ((L.length : Int) - 1) < -(C * T - (N : Int) * c.t) := by omega
                    go_wp2
                    go_roundw
                    case rel => exact ⟨i + 1, by go_num, by omega, hb2.out⟩
                    case measure => simp [intOf]; omega
              · have hi' : i = L.length := by omega
                subst hi'
                have hb1 := Lib.hid hbel
                have g5' := Lib.hid (grp_below g4'.out hbel)
                have b5' := Lib.hid (b4'.out.trans (hbel.mono b4'.out.size))
                clear hbel
                go_wp2_with ((with_reducible refine gate_callee (f := 22) rfl ?_); refine goesL_ (some 107) rfl rfl Try.func22 (by kernel_rfl) rfl #[ptrG G] rfl (by (try simp only [List.map_toArray, List.map_cons, List.map_nil]); first | done | rfl) ?_; (with_reducible refine (list_calls W.heap.size G v L2 _ (good_len hgood2.out) g5'.out).mono ?_); rintro e w6 ⟨u, rfl, u6, b6⟩; obtain ⟨A6, c6, rfl⟩ := slice_of_own u6; refine ⟨_, rfl, ?_⟩; have r6' := Lib.hid (own_readsG u6).1; have b6' := Lib.hid (b5'.out.trans (b6.mono b5'.out.size)); clear u6 b6)
                go_loopw [18, 109] (fun lv iv wr4 => ∃ (i : Nat), lv = .int .i64 (minF 4611686018427387904 (L2.take i)) ∧ iv = .int .i64 (i : Int) ∧ i ≤ L2.length ∧ Below w6.heap.size w6 wr4)
                  (fun _ iv _ => L2.length - (intOf iv).toNat)
                case atStart => exact ⟨0, rfl, rfl, Nat.zero_le _, Below.refl _ _⟩
                case round =>
                  obtain ⟨i, rfl, rfl, hi, hbel⟩ := hrel
                  by_cases hlt : i < L2.length
                  · obtain ⟨c, hc⟩ : ∃ c, L2[i]? = some c := ⟨L2[i], List.getElem?_eq_getElem hlt⟩
                    obtain ⟨g, rfl, _, q0, q1, q2⟩ := (r6'.out.below hbel) i c hc
                    obtain ⟨k1', k2', k3', k4'⟩ := hgood2.out.1.1 c (List.mem_of_getElem? hc)
                    have hmt := Lib.hid (minF_take 4611686018427387904 L2 i c hc)
                    have bC := Blk.new wr tC #[.int .i64 c.id, .int .i64 c.t, .int .i64 c.p]
                    have d1 := bC.cell 1
                    have d2 := bC.cell 2
                    simp only [List.getElem?_toArray, List.getElem?_cons_zero, List.getElem?_cons_succ] at d1 d2
                    have hb2 := Lib.hid (hbel.alloc hbel.size (.cells #[.int .i64 c.id, .int .i64 c.t, .int .i64 c.p] tC))
                    have hq : Int.tdiv 720720 c.t = sd c.t := by unfold sd; exact Int.tdiv_eq_ediv_of_nonneg (by omega)
                    have hne : (c.t == 0) = false := beq_eq_false_iff_ne.mpr (by omega)
                    have h0 : ¬ c.t = 0 := by omega
                    have hsd := sd_nonneg k1' k2'
                    have hw : IntKind.i64.wrap (sd c.t) = sd c.t := IntWalk.i64_in _ (by omega)
                    have p1 : ¬ c.p < 0 := by omega
                    have p2 : ¬ sd c.t < c.p := by omega
                    clear hbel hc bC
                    go_wp2
                    go_quiet (fail)
                    go_wp2
                    go_roundw
                    case rel => exact ⟨i + 1, by rw [hmt.out], by go_num, by omega, by first | exact hb2.out | exact hb2.out.drew | exact pw_below_drewN hb2.out _⟩
                    case measure => simp [intOf]; omega
                  · have hi' : i = L2.length := by omega
                    subst hi'
                    have hb2 := Lib.hid hbel
                    rw [show minF 4611686018427387904 (L2.take L2.length) = 0 by rw [List.take_of_length_le (Nat.le_refl _)]; exact minF_zero (fun c hc => (hgood2.out.1.1 c hc).2.2.1) (hgood2.out.1.2.1 hne2)]
                    clear hbel
                    go_wp2
                    go_ret
                    exact ⟨rfl, b6'.out.trans (hb2.out.mono b6'.out.size)⟩
    · obtain ⟨N, rfl⟩ : ∃ N : Nat, n = (N : Int) := ⟨n.toNat, by omega⟩
      have hN1 : N ≤ 3000 := by omega
      go_enter Try.func5, Try.ntmps5
      go_upto_region 5 with ((with_reducible refine gate_callee (f := 14) rfl ?_); refine goesL_ (some 21) rfl rfl Try.func14 (by kernel_rfl) rfl #[] rfl (by (try simp only [List.map_toArray, List.map_cons, List.map_nil]); first | done | rfl) ?_; (with_reducible refine (awake_calls _).mono ?_); rintro e w1 ⟨rfl, b1⟩; refine ⟨_, rfl, ?_⟩; have b1' := Lib.hid b1; clear b1)
      go_upto_region 7 with (first | ((with_reducible refine gate_callee (f := 21) rfl ?_); refine goesL_ (some 30) rfl rfl Try.func21 (by kernel_rfl) rfl #[.slice A0 ops.length c0] rfl (by (try simp only [List.map_toArray, List.map_cons, List.map_nil]); first | done | rfl) ?_; (with_reducible refine (made_calls A0 c0 ops _ (hR.out.below b1'.out) hl63).mono ?_); rintro e w2 ⟨G, v, rfl, g2, b2⟩; refine ⟨_, rfl, ?_⟩; have g2' := Lib.hid (g2.lower b1'.out.size); have b2' := Lib.hid (b1'.out.trans (b2.mono b1'.out.size)); clear g2 b2) | ((with_reducible refine gate_callee (f := 22) rfl ?_); refine goesL_ (some 32) rfl rfl Try.func22 (by kernel_rfl) rfl #[ptrG G] rfl (by (try simp only [List.map_toArray, List.map_cons, List.map_nil]); first | done | rfl) ?_; (with_reducible refine (list_calls W.heap.size G v (madeL ops) _ (good_len (madeL_good ops)) g2'.out).mono ?_); rintro e w3 ⟨u, rfl, u3, b3⟩; obtain ⟨A3, c3, rfl⟩ := slice_of_own u3; refine ⟨_, rfl, ?_⟩; have u3' := Lib.hid (own_readsG u3); have g3' := Lib.hid (grp_below g2'.out b3); have b3' := Lib.hid (b2'.out.trans (b3.mono b2'.out.size)); clear u3 b3))
      have hgood := Lib.hid (madeL_good ops)
      obtain ⟨L, hL⟩ : ∃ L, madeL ops = L := ⟨_, rfl⟩
      rw [hL] at hgood g2' u3' g3'
      rw [show (madeL ops).length = L.length by rw [hL]]
      clear hL
      by_cases hemp : L = []
      · have hl0 : (L.length : Int) = 0 := by rw [hemp]; rfl
        have hemp' := Lib.hid hemp
        clear hemp
        go_wp2
        go_ret
        exact ⟨rfl, b3'.out⟩
      · have hlp : 0 < L.length := by cases L with | nil => exact absurd rfl hemp | cons => simp
        have hl0 : ¬ (L.length : Int) = 0 := by omega
        have hl1024 := hgood.out.2.2
        have hrun := Lib.hid (runR_eq hemp (show N ≤ 100000 by omega))
        have hspec := run_spec N L hgood.out.1 hemp
        have hxl := hspec.2.1
        have hgood2 := Lib.hid (run_good' hgood.out N)
        have hfair := Lib.hid (fun (c : Cl) (hc : c ∈ L) => fair (n := N) hgood.out.1 hc)
        obtain ⟨xs, hxs⟩ : ∃ xs, (runL N L).2 = xs := ⟨_, rfl⟩
        obtain ⟨L2, hL2⟩ : ∃ L2, (runL N L).1 = L2 := ⟨_, rfl⟩
        have hL2l : L2.length = L.length := by rw [← hL2, run_len]
        rw [hxs, hL2] at hrun
        rw [hL2] at hgood2
        rw [hxs] at hfair hxl
        have hne2 : L2 ≠ [] := by intro e; rw [e] at hL2l; simp at hL2l; omega
        clear hxs hL2 hspec
        have hsT := sumT_bound L (fun c hc => ⟨(hgood.out.1.1 c hc).1, (hgood.out.1.1 c hc).2.1⟩)
        have hemp' := Lib.hid hemp
        clear hemp
        go_wp2_with ((with_reducible refine gate_callee (f := 17) rfl ?_); refine goesL_ (some 39) rfl rfl Try.func17 (by kernel_rfl) rfl #[ptrG G, .int .i64 (N : Int)] rfl (by (try simp only [List.map_toArray, List.map_cons, List.map_nil]); first | done | rfl) ?_; (with_reducible refine (run_calls W.heap.size G v L (N : Int) _ hgood.out g3'.out).mono ?_); rintro e w4 ⟨u, rfl, u4, g4, m4⟩; rw [hrun.out] at u4 g4; obtain ⟨Ax, cx, rfl⟩ := slice_of_own u4; refine ⟨_, rfl, ?_⟩; have x4' := Lib.hid (reads_row u4).1; have g4' := Lib.hid g4; have r4' := Lib.hid (u3'.out.1.mt m4 (fun ad h => ⟨fun e => by have h1 := (u3'.out.2.1 ad h).1; have h2 := g2'.out.lt; omega, fun e => by have h1 := (u3'.out.2.1 ad h).1; have h2 := (own_block g2'.out.row e.symm).2.1; omega⟩)); have b4' := Lib.hid (step_grp b3'.out (Nat.le_refl _) g3'.out m4); clear u4 g4 m4; simp only [hrun.out])
        go_loopw [9, 52] (fun tv iv wr => ∃ (i : Nat), tv = .int .i64 (sumT (L.take i)) ∧ iv = .int .i64 (i : Int) ∧ i ≤ L.length ∧ Below w4.heap.size w4 wr)
          (fun _ iv _ => L.length - (intOf iv).toNat)
        case atStart => exact ⟨0, rfl, rfl, Nat.zero_le _, Below.refl _ _⟩
        case round =>
          obtain ⟨i, rfl, rfl, hi, hbel⟩ := hrel
          by_cases hlt : i < L.length
          · obtain ⟨c, hc⟩ : ∃ c, L[i]? = some c := ⟨L[i], List.getElem?_eq_getElem hlt⟩
            obtain ⟨g, rfl, _, q0, q1, q2⟩ := (r4'.out.below hbel) i c hc
            have hst := Lib.hid (sumT_take L i c hc)
            have hok := hgood.out.1.1 c (List.mem_of_getElem? hc)
            have hsT2 := sumT_bound (L.take i) (fun c hc => ⟨(hgood.out.1.1 c (List.mem_of_mem_take hc)).1, (hgood.out.1.1 c (List.mem_of_mem_take hc)).2.1⟩)
            rw [List.length_take] at hsT2
            have bC := Blk.new wr tC #[.int .i64 c.id, .int .i64 c.t, .int .i64 c.p]
            have d1 := bC.cell 1
            simp only [List.getElem?_toArray, List.getElem?_cons_zero, List.getElem?_cons_succ] at d1
            have hb2 := Lib.hid (hbel.alloc hbel.size (.cells #[.int .i64 c.id, .int .i64 c.t, .int .i64 c.p] tC))
            obtain ⟨k1', k2', _, _⟩ := hok
            have hw : IntKind.i64.wrap (sumT (L.take i) + c.t) = sumT (L.take i) + c.t := IntWalk.i64_in _ (by omega)
            clear hbel hc bC
            go_wp2
            go_roundw
            case rel => exact ⟨i + 1, by rw [hst.out], by go_num, by omega, hb2.out⟩
            case measure => simp [intOf]; omega
          · have hi' : i = L.length := by omega
            subst hi'
            rw [show sumT (L.take L.length) = sumT L by rw [List.take_of_length_le (Nat.le_refl _)]]
            obtain ⟨T, hT⟩ : ∃ T, sumT L = T := ⟨_, rfl⟩
            rw [hT] at hfair hsT ⊢
            clear hT
            have hb0 := Lib.hid hbel
            clear hbel
            go_wp2
            go_loopw [63] (fun iv wr2 => ∃ (i : Nat), iv = .int .i64 (i : Int) ∧ i ≤ L.length ∧ Below w4.heap.size w4 wr2)
              (fun iv _ => L.length - (intOf iv).toNat)
            case atStart => exact ⟨0, rfl, Nat.zero_le _, hb0.out⟩
            case round =>
              obtain ⟨i, rfl, hi, hbel⟩ := hrel
              by_cases hlt : i < L.length
              · obtain ⟨c, hc⟩ : ∃ c, L[i]? = some c := ⟨L[i], List.getElem?_eq_getElem hlt⟩
                obtain ⟨g, rfl, _, q0, q1, q2⟩ := (r4'.out.below hbel) i c hc
                have hfc := hfair.out c (List.mem_of_getElem? hc)
                obtain ⟨k1', k2', _, _⟩ := hgood.out.1.1 c (List.mem_of_getElem? hc)
                have hb1 := Lib.hid (hbel.alloc hbel.size (.cells #[.int .i64 c.id, .int .i64 c.t, .int .i64 c.p] tC))
                have hcB := Lib.hid (Blk.new wr tC #[.int .i64 c.id, .int .i64 c.t, .int .i64 c.p])
                clear hbel hc
                go_wp2
                go_loopw [14, 69] (fun hv kv wr3 => ∃ (k : Nat), hv = .int .i64 (cnt c.id (xs.take k)) ∧ kv = .int .i64 (k : Int) ∧ k ≤ xs.length ∧ Blk wr3 wr.heap.size tC #[.int .i64 c.id, .int .i64 c.t, .int .i64 c.p] ∧ Below w4.heap.size w4 wr3)
                  (fun _ kv _ => xs.length - (intOf kv).toNat)
                case atStart => exact ⟨0, rfl, rfl, Nat.zero_le _, hcB.out, hb1.out⟩
                case round =>
                  obtain ⟨k, rfl, rfl, hk, hcb, hbel⟩ := hrel
                  have d0 := hcb.cell 0
                  have d1 := hcb.cell 1
                  simp only [List.getElem?_toArray, List.getElem?_cons_zero, List.getElem?_cons_succ] at d0 d1
                  have hcnt := cnt_le c.id (xs.take k)
                  have hcn0 := cnt_nonneg c.id (xs.take k)
                  rw [List.length_take] at hcnt
                  by_cases hltk : k < xs.length
                  · obtain ⟨z, hz⟩ : ∃ z, xs[k]? = some z := ⟨xs[k], List.getElem?_eq_getElem hltk⟩
                    obtain ⟨ax, rfl, _, p0⟩ := (x4'.out.below hbel) k z hz
                    have hct := cnt_take c.id xs k z hz
                    have hcb' := Lib.hid hcb
                    have hb2 := Lib.hid hbel
                    clear hcb hbel hz
                    have hw : IntKind.i64.wrap (cnt c.id (xs.take k) + 1) = cnt c.id (xs.take k) + 1 := IntWalk.i64_in _ (by omega)
                    by_cases hzc : z = c.id
                    · rw [if_pos hzc] at hct
                      have hct' := Lib.hid hct
                      have e1 : (z == c.id) = true := beq_iff_eq.mpr hzc
                      clear hct
                      go_wp2
                      go_roundw
                      case rel => exact ⟨k + 1, by rw [hct'.out], by go_num, by omega, hcb'.out, hb2.out⟩
                      case measure => simp [intOf]; omega
                    · rw [if_neg hzc, Int.add_zero] at hct
                      have hct' := Lib.hid hct
                      have e1 : (z == c.id) = false := beq_eq_false_iff_ne.mpr hzc
                      clear hct
                      go_wp2
                      go_roundw
                      case rel => exact ⟨k + 1, by rw [hct'.out], by go_num, by omega, hcb'.out, hb2.out⟩
                      case measure => simp [intOf]; omega
                  · have hk' : k = xs.length := by omega
                    subst hk'
                    rw [show cnt c.id (xs.take xs.length) = cnt c.id xs by rw [List.take_of_length_le (Nat.le_refl _)]] at hcnt hcn0 ⊢
                    have hb2 := Lib.hid hbel
                    clear hcb hbel
                    generalize hC : cnt c.id xs = C at *
                    clear hC
                    have m1 : C * T ≤ 3000 * 16384 := Int.mul_le_mul (by omega) (by omega) (by omega) (by omega)
                    have m0 : 0 ≤ C * T := Int.mul_nonneg (by omega) (by omega)
                    have m2 : (N : Int) * c.t ≤ 3000 * 16 := Int.mul_le_mul (by omega) (by omega) (by omega) (by omega)
                    have m3 : 0 ≤ (N : Int) * c.t := Int.mul_nonneg (by omega) (by omega)
                    have m4 : T * ((L.length : Int) - 1) ≤ 16384 * 1024 := Int.mul_le_mul (by omega) (by omega) (by omega) (by omega)
                    have m5 : 0 ≤ T * ((L.length : Int) - 1) := Int.mul_nonneg (by omega) (by omega)
                    have w1 : IntKind.i64.wrap (C * T) = C * T := IntWalk.i64_in _ (by omega)
                    have w2 : IntKind.i64.wrap ((N : Int) * c.t) = (N : Int) * c.t := IntWalk.i64_in _ (by omega)
                    have w3 : IntKind.i64.wrap ((L.length : Int) - 1) = (L.length : Int) - 1 := IntWalk.i64_in _ (by omega)
                    have w5 : IntKind.i64.wrap (T * ((L.length : Int) - 1)) = T * ((L.length : Int) - 1) := IntWalk.i64_in _ (by omega)
                    have w6 : IntKind.i64.wrap (C * T - (N : Int) * c.t) = C * T - (N : Int) * c.t := IntWalk.i64_in _ (by omega)
                    have w7 : IntKind.i64.wrap (-(C * T - (N : Int) * c.t)) = -(C * T - (N : Int) * c.t) := IntWalk.i64_in _ (by omega)
                    obtain ⟨f1, f2⟩ := hfc
                    have f1' : ¬ T * ((L.length : Int) - 1) < C * T - (N : Int) * c.t := by omega
                    have f2' : ¬ T * ((L.length : Int) - 1) < -(C * T - (N : Int) * c.t) := by omega
                    go_wp2
                    go_roundw
                    case rel => exact ⟨i + 1, by go_num, by omega, hb2.out⟩
                    case measure => simp [intOf]; omega
              · have hi' : i = L.length := by omega
                subst hi'
                have hb1 := Lib.hid hbel
                have g5' := Lib.hid (grp_below g4'.out hbel)
                have b5' := Lib.hid (b4'.out.trans (hbel.mono b4'.out.size))
                clear hbel
                go_wp2_with ((with_reducible refine gate_callee (f := 22) rfl ?_); refine goesL_ (some 107) rfl rfl Try.func22 (by kernel_rfl) rfl #[ptrG G] rfl (by (try simp only [List.map_toArray, List.map_cons, List.map_nil]); first | done | rfl) ?_; (with_reducible refine (list_calls W.heap.size G v L2 _ (good_len hgood2.out) g5'.out).mono ?_); rintro e w6 ⟨u, rfl, u6, b6⟩; obtain ⟨A6, c6, rfl⟩ := slice_of_own u6; refine ⟨_, rfl, ?_⟩; have r6' := Lib.hid (own_readsG u6).1; have b6' := Lib.hid (b5'.out.trans (b6.mono b5'.out.size)); clear u6 b6)
                go_loopw [18, 109] (fun lv iv wr4 => ∃ (i : Nat), lv = .int .i64 (minF 4611686018427387904 (L2.take i)) ∧ iv = .int .i64 (i : Int) ∧ i ≤ L2.length ∧ Below w6.heap.size w6 wr4)
                  (fun _ iv _ => L2.length - (intOf iv).toNat)
                case atStart => exact ⟨0, rfl, rfl, Nat.zero_le _, Below.refl _ _⟩
                case round =>
                  obtain ⟨i, rfl, rfl, hi, hbel⟩ := hrel
                  by_cases hlt : i < L2.length
                  · obtain ⟨c, hc⟩ : ∃ c, L2[i]? = some c := ⟨L2[i], List.getElem?_eq_getElem hlt⟩
                    obtain ⟨g, rfl, _, q0, q1, q2⟩ := (r6'.out.below hbel) i c hc
                    obtain ⟨k1', k2', k3', k4'⟩ := hgood2.out.1.1 c (List.mem_of_getElem? hc)
                    have hmt := Lib.hid (minF_take 4611686018427387904 L2 i c hc)
                    have bC := Blk.new wr tC #[.int .i64 c.id, .int .i64 c.t, .int .i64 c.p]
                    have d1 := bC.cell 1
                    have d2 := bC.cell 2
                    simp only [List.getElem?_toArray, List.getElem?_cons_zero, List.getElem?_cons_succ] at d1 d2
                    have hb2 := Lib.hid (hbel.alloc hbel.size (.cells #[.int .i64 c.id, .int .i64 c.t, .int .i64 c.p] tC))
                    have hq : Int.tdiv 720720 c.t = sd c.t := by unfold sd; exact Int.tdiv_eq_ediv_of_nonneg (by omega)
                    have hne : (c.t == 0) = false := beq_eq_false_iff_ne.mpr (by omega)
                    have h0 : ¬ c.t = 0 := by omega
                    have hsd := sd_nonneg k1' k2'
                    have hw : IntKind.i64.wrap (sd c.t) = sd c.t := IntWalk.i64_in _ (by omega)
                    have p1 : ¬ c.p < 0 := by omega
                    have p2 : ¬ sd c.t < c.p := by omega
                    clear hbel hc bC
                    go_wp2
                    go_quiet (fail)
                    go_wp2
                    go_roundw
                    case rel => exact ⟨i + 1, by rw [hmt.out], by go_num, by omega, by first | exact hb2.out | exact hb2.out.drew | exact pw_below_drewN hb2.out _⟩
                    case measure => simp [intOf]; omega
                  · have hi' : i = L2.length := by omega
                    subst hi'
                    have hb2 := Lib.hid hbel
                    rw [show minF 4611686018427387904 (L2.take L2.length) = 0 by rw [List.take_of_length_le (Nat.le_refl _)]; exact minF_zero (fun c hc => (hgood2.out.1.1 c hc).2.2.1) (hgood2.out.1.2.1 hne2)]
                    clear hbel
                    go_wp2
                    go_ret
                    exact ⟨rfl, b6'.out.trans (hb2.out.mono b6'.out.size)⟩
end Go.Proofs.Ytkcmmghhghgdpaa.Walk
