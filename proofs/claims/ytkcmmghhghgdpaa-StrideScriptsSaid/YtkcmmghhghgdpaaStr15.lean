/- The law StrideRounds over what is read of its argument. -/
import Derived.Test.YtkcmmghhghgdpaaStr14
import Derived.Test.YtkcmmghhghgdpaaStrQ
import Derived.Test.YtkcmmghhghgdpaaStrO
namespace Go.Proofs.Ytkcmmghhghgdpaa.Str
open Go.RowKit Go.Shelf Go.Maps Go.Proofs.Ytkcmmghhghgdpaa.Iter Go.Proofs.Ytkcmmghhghgdpaa.SeqM Go.Proofs.YtkcmmghhghgdpaaW.PrintWords Go.Proofs.YtkcmmghhghgdpaaW.PrintLast
set_option linter.unusedVariables false
set_option linter.unusedSimpArgs false
theorem Grp.lower {B B' G : Nat} {v : Value} {l : List Cl} {W : World} (h : Grp tG tC B G v l W) (hb : B' ≤ B) : Grp tG tC B' G v l W := by
  refine ⟨h.blk, Nat.le_trans hb h.base, h.row.1, ?_⟩
  rcases h.row.2 with hn | ⟨g, cap, cur, e, hg, rest⟩
  · exact .inl hn
  · exact .inr ⟨g, cap, cur, e, Nat.le_trans hb hg, rest⟩
theorem reads_C {W : World} {A : Option Addr} {n : Nat} {xs : List Int} (h : (Kd.int .i64).C W A n xs) : ReadsI W A xs := fun j x hx => by
  have hl := (List.getElem?_eq_some_iff.1 hx).1
  have hn : xs.length = n := h.1
  obtain ⟨ad, rfl, hc⟩ := h.2.2 (by omega)
  obtain ⟨c, h1, h2, h3⟩ := hc j x hx
  have hcell : W.cell? (ad.add j) = some (.int .i64 x) := by
    have hk : c = [.int .i64 x] := h2
    subst hk
    have := h3 0 _ rfl
    have e : (Kd.int .i64).sz = 1 := rfl
    rw [e, Nat.mul_one, Nat.add_zero] at this
    exact this
  exact ⟨ad, rfl, by have := World.block_lt_of_cell? W _ hcell; rwa [add_block] at this, hcell⟩
theorem blk_of_own {W : World} {base g n : Nat} {xs : List Value} (h : W.ownsRow base 3 1 (.slice (some ⟨g, 0, none⟩) n n) n xs) : Blk W g 3 xs.toArray := by
  rcases h.2 with ⟨h1, _⟩ | ⟨g', cap, cur, e, _, hg, hc, _, hs, ht⟩
  · cases h1
  · injection e with e1 e2 e3
    injection e1 with e1
    injection e1 with e1
    subst e1
    subst e3
    rw [List.take_of_length_le (by rw [Array.length_toList, hs]; omega)] at ht
    rw [← ht, Array.toArray_toList]
    exact hg
theorem slice_of_own {W : World} {base e size n : Nat} {v : Value} {xs : List Value} (h : W.ownsRow base e size v n xs) : ∃ A c, v = .slice A n c := by
  rcases h.2 with ⟨rfl, h0⟩ | ⟨g, cap, cur, rfl, _⟩
  · exact ⟨none, 0, by rw [h0]⟩
  · exact ⟨_, cap, rfl⟩
theorem ReadsI.other {W : World} {A : Option Addr} {xs : List Int} (h : ReadsI W A xs) {a : Addr} (u : Value) (hn : ∀ ad, A = some ad → ad.block ≠ a.block) : ReadsI (W.setCell a u) A xs := fun j x hx => by
  obtain ⟨ad, rfl, h1, h2⟩ := h j x hx
  exact ⟨ad, rfl, by simpa using h1, (World.cell?_of_block (by rw [add_block]; exact Below.heap_setCell _ _ _ _ (hn ad rfl))).trans h2⟩
theorem reads_blk {W : World} {H : Nat} {xs : List Int} (h : Blk W H 3 (xs.map (Value.int .i64)).toArray) : ReadsI W (some ⟨H, 0, none⟩) xs := fun j x hx => by
  refine ⟨_, rfl, h.lt, ?_⟩
  rw [Addr.add_lit, Nat.zero_add, h.cell j]
  simp [hx]
theorem grown_below {W W' : World} (h : W.grownBy W' none) : Below W.heap.size W W' := ⟨h.os, h.tape, h.output, h.size, fun k hk => h.block k hk (by simp)⟩
theorem Grp.other {B G : Nat} {v : Value} {l : List Cl} {W : World} (h : Grp tG tC B G v l W) {a : Addr} (u : Value) (h1 : G ≠ a.block) (h2 : v.ownBlock ≠ some a.block) : Grp tG tC B G v l (W.setCell a u) :=
  h.move (Below.heap_setCell _ _ _ _ h1) (fun k hk => Below.heap_setCell _ _ _ _ (fun e => h2 (by rw [hk, e])))
theorem run_mk (ts : List Int) (h : ∀ t ∈ ts, 1 ≤ t ∧ t ≤ 16) (hn : ts.length ≤ 100) : ∃ xs, runR (mkFrom 0 ts) ts.sum = (mkFrom 0 ts, xs, 0) ∧ cntUp ts.length xs = ts ∧ (∀ z ∈ xs, 0 ≤ z ∧ z < (ts.length : Int)) ∧ xs.length ≤ 1600 := by
  obtain ⟨s1, s2, s3⟩ := sum_bound ts h
  by_cases he : ts = []
  · subst he
    exact ⟨[], rfl, rfl, (fun z hz => by cases hz), by simp⟩
  · have hl : 0 < ts.length := by cases ts with | nil => exact absurd rfl he | cons => simp
    obtain ⟨r1, r2, r3, r4⟩ := mk_rounds ts h hn he (n := ts.sum.toNat) (by omega)
    refine ⟨_, ?_, r2, r3, by rw [r4]; omega⟩
    unfold runR
    have hne2 : mkFrom 0 ts ≠ [] := by intro e; have := mk_len ts 0; rw [e] at this; exact he (List.length_eq_zero_iff.1 this.symm)
    rw [if_neg (by omega), if_neg (by omega), if_neg hne2, r1]
end Go.Proofs.Ytkcmmghhghgdpaa.Str
namespace Go.Proofs.Ytkcmmghhghgdpaa.Walk
open Go.RowKit Go.Shelf Go.Maps Go.Proofs.Ytkcmmghhghgdpaa.Iter Go.Proofs.Ytkcmmghhghgdpaa.SeqM Go.Proofs.Ytkcmmghhghgdpaa.Str Go.Proofs.YtkcmmghhghgdpaaW.PrintWords Go.Proofs.YtkcmmghhghgdpaaW.PrintLast
set_option linter.unusedVariables false
set_option linter.unusedSimpArgs false

set_option maxRecDepth 100000 in
set_option maxHeartbeats 8000000 in
theorem StrideRounds (W : World) (A0 : Option Addr) (c0 : Nat) (l : List Int) (hc0 : l.length ≤ c0) (hr0 : (Kd.int .i64).C W A0 l.length l) (g0 : l.length ≤ maxLen ∧ ∀ a ∈ l, (Lit.int .i64 a).wf = true) :
    Calls Try.prog 3 #[.slice A0 l.length c0] W fun e W' => e = .returned (.bool true) ∧ Below W.heap.size W W' := by
  have hl63 : l.length ≤ 9223372036854775807 := g0.1
  obtain ⟨i0, hif, hz0, hz1, hz2⟩ := info_parts infoInt
  have hR := Lib.hid (reads_C hr0)
  clear hr0 g0
  by_cases hbig : 100 < l.length
  · have hb2 : (100 : Int) < (l.length : Int) := by omega
    go_enter Try.func3, Try.ntmps3
    go_wp2_with ((with_reducible refine gate_callee (f := 14) rfl ?_); refine goesL_ (some 12) rfl rfl Try.func14 (by kernel_rfl) rfl #[] rfl (by (try simp only [List.map_toArray, List.map_cons, List.map_nil]); first | done | rfl) ?_; (with_reducible refine (awake_calls _).mono ?_); rintro e w1 ⟨rfl, b1⟩; refine ⟨_, rfl, ?_⟩; have b1' := Lib.hid b1; clear b1)
    go_ret
    exact ⟨rfl, b1'.out⟩
  · have hb2 : ¬ (100 : Int) < (l.length : Int) := by omega
    have hn100 : l.length ≤ 100 := by omega
    go_enter Try.func3, Try.ntmps3
    go_wp2_with (first | ((with_reducible refine gate_callee (f := 14) rfl ?_); refine goesL_ (some 12) rfl rfl Try.func14 (by kernel_rfl) rfl #[] rfl (by (try simp only [List.map_toArray, List.map_cons, List.map_nil]); first | done | rfl) ?_; (with_reducible refine (awake_calls _).mono ?_); rintro e w1 ⟨rfl, b1⟩; refine ⟨_, rfl, ?_⟩; have b1' := Lib.hid b1; clear b1) | ((with_reducible refine gate_callee (f := 15) rfl ?_); refine goesL_ (some 17) rfl rfl Try.func15 (by kernel_rfl) rfl #[] rfl (by (try simp only [List.map_toArray, List.map_cons, List.map_nil]); first | done | rfl) ?_; (with_reducible refine (new_calls _).mono ?_); rintro e w2 ⟨rfl, g2, b2⟩; refine ⟨_, rfl, ?_⟩; have g2' := Lib.hid g2; have b2' := Lib.hid (b1'.out.trans (b2.mono b1'.out.size)); clear g2 b2))
    obtain ⟨G, hG⟩ : ∃ G, w1.heap.size = G := ⟨_, rfl⟩
    have hGW := b1'.out.size
    rw [hG] at g2' hGW ⊢
    clear hG
    go_loopw [4, 20] (fun sv iv wr => ∃ (i : Nat) (v : Value), sv = .int .i64 (l.take i).sum ∧ iv = .int .i64 (i : Int) ∧ i ≤ l.length ∧ (∀ t ∈ l.take i, 1 ≤ t ∧ t ≤ 16) ∧ Grp tG tC W.heap.size G v (mkFrom 0 (l.take i)) wr ∧ Below W.heap.size W wr)
      (fun _ iv _ => l.length - (intOf iv).toNat)
    case atStart => exact ⟨0, _, rfl, rfl, Nat.zero_le _, (fun t ht => by simp at ht), g2'.out.lower hGW, b2'.out⟩
    case round =>
      obtain ⟨i, v, rfl, rfl, hi, hts, hgr, hbel⟩ := hrel
      have hts' := Lib.hid hts
      have hgr' := Lib.hid hgr
      have hbel' := Lib.hid hbel
      by_cases hlt : i < l.length
      · obtain ⟨t, ht⟩ : ∃ t, l[i]? = some t := ⟨l[i], List.getElem?_eq_getElem hlt⟩
        obtain ⟨ad, rfl, _, q0⟩ := hR.out.below hbel i t ht
        have ht' := Lib.hid ht
        clear hts hgr hbel ht
        by_cases c1 : t < 1
        · go_wp2
          go_ret
          exact ⟨rfl, hbel'.out⟩
        · by_cases c2 : 16 < t
          · go_wp2
            go_ret
            exact ⟨rfl, hbel'.out⟩
          · have hjn := mk_join (l.take i) t (by omega) (by omega) (by rw [List.length_take]; omega)
            rw [List.length_take, Nat.min_eq_left hi] at hjn
            have hgood := Lib.hid (mk_good (l.take i) hts'.out (by rw [List.length_take]; omega))
            have hsum := sum_take l i t ht'.out
            have hsb := sum_bound (l.take i) hts'.out
            rw [List.length_take, Nat.min_eq_left hi] at hsb
            have hjn' := Lib.hid hjn
            have hsum' := Lib.hid hsum
            clear hjn hsum
            obtain ⟨S, hS⟩ : ∃ S, (l.take i).sum = S := ⟨_, rfl⟩
            rw [hS] at hsb
            have hS' := Lib.hid hS
            rw [hS]
            have hw : IntKind.i64.wrap (S + t) = S + t := IntWalk.i64_in _ (by omega)
            clear hS
            go_wp2_with ((with_reducible refine gate_callee (f := 16) rfl ?_); refine goesL_ (some 34) rfl rfl Try.func16 (by kernel_rfl) rfl #[ptrG G, .int .i64 (i : Int), .int .i64 t, .int .i64 0] rfl (by (try simp only [List.map_toArray, List.map_cons, List.map_nil]); first | done | rfl) ?_; (with_reducible refine (join_calls W.heap.size G v (mkFrom 0 (l.take i)) (i : Int) t 0 _ hgood.out hgr'.out hbel'.out.size).mono ?_); rintro e w4 ⟨rfl, v4, g4, m4, _⟩; rw [hjn'.out] at g4; refine ⟨_, rfl, ?_⟩; have g4' := Lib.hid g4; have b4' := Lib.hid (step_grp hbel'.out (Nat.le_refl _) hgr'.out m4); clear g4 m4; simp only [hjn'.out])
            go_roundw
            case rel =>
              refine ⟨i + 1, v4, ?_, by go_num, by omega, fun x hx => ?_, ?_, b4'.out⟩
              · rw [hsum'.out, hS'.out]
              · rw [List.take_add_one, ht'.out] at hx
                rcases List.mem_append.1 hx with h | h
                · exact hts'.out x h
                · simp at h
                  subst h
                  omega
              · rw [List.take_add_one, ht'.out]
                exact g4'.out
            case measure => simp [intOf]; omega
      · have hi' : i = l.length := by omega
        subst hi'
        have hall : ∀ t ∈ l, 1 ≤ t ∧ t ≤ 16 := by rw [List.take_of_length_le (Nat.le_refl _)] at hts; exact hts
        rw [List.take_of_length_le (Nat.le_refl _)] at hgr
        have hgood := Lib.hid (mk_good l hall hn100)
        obtain ⟨xs, hx1, hx2, hx3, hx4⟩ := run_mk l hall hn100
        have hsb := sum_bound l hall
        rw [show (l.take l.length).sum = l.sum by rw [List.take_of_length_le (Nat.le_refl _)]]
        obtain ⟨S, hS⟩ : ∃ S, l.sum = S := ⟨_, rfl⟩
        rw [hS] at hsb hx1 ⊢
        clear hS hgr' hts' hts
        have hgr2 := Lib.hid hgr
        have hx1' := Lib.hid hx1
        have hx2' := Lib.hid hx2
        have hx3' := Lib.hid hx3
        have hall' := Lib.hid hall
        clear hx1 hx2 hx3 hall hgr hbel
        go_wp2
        go_loopw [40] (fun iv wq => ∃ (r : Nat), iv = .int .i64 (r : Int) ∧ r ≤ 3 ∧ Grp tG tC W.heap.size G v (mkFrom 0 l) wq ∧ Below W.heap.size W wq)
          (fun iv _ => 3 - (intOf iv).toNat)
        case atStart => exact ⟨0, rfl, by omega, hgr2.out, hbel'.out⟩
        case round =>
          obtain ⟨r, rfl, hr3, hgr3, hbel3⟩ := hrel
          have hgr3' := Lib.hid hgr3
          have hbel3' := Lib.hid hbel3
          clear hgr3 hbel3
          by_cases hlt3 : r < 3
          · have hlt3' : (r : Int) < 3 := by omega
            go_wp2_with (first | ((with_reducible refine gate_callee (f := 17) rfl ?_); refine goesL_ (some 45) rfl rfl Try.func17 (by kernel_rfl) rfl #[ptrG G, .int .i64 S] rfl (by (try simp only [List.map_toArray, List.map_cons, List.map_nil]); first | done | rfl) ?_; (with_reducible refine (run_calls W.heap.size G v (mkFrom 0 l) S _ hgood.out hgr3'.out).mono ?_); rintro e w5 ⟨u, rfl, u5, g5, m5⟩; rw [hx1'.out] at u5 g5; obtain ⟨Ax, cx, rfl⟩ := slice_of_own u5; refine ⟨_, rfl, ?_⟩; have u5' := Lib.hid (reads_row u5); have g5' := Lib.hid g5; have b5' := Lib.hid (step_grp hbel3'.out (Nat.le_refl _) hgr3'.out m5); clear u5 g5 m5; simp only [hx1'.out]) | (at_make; refine wpList_make_full _ rfl _ _ 22 rfl w5.heap.size 3 i0 (.int .i64 0) 1 Try.underlying22 hif hz0 hz1 .i64 .i64 _ _ l.length rfl rfl rfl rfl (by rw [hz2]; omega) (by unfold maxLen; omega) (by simp) ?_; intro w6 hown hgrow))
            obtain ⟨H, hH⟩ : ∃ H, w5.heap.size = H := ⟨_, rfl⟩
            have bH : Blk w6 H 3 ((cntUp l.length (xs.take 0)).map (Value.int .i64)).toArray := by
              have h9 := blk_of_own hown
              rw [show (Value.int .i64 0).cells = #[Value.int .i64 0] from rfl, toList_madeCells_one, Nat.mul_one, hH] at h9
              rw [List.take_zero, cntUp_nil, List.map_replicate]
              exact h9
            have g6 := grp_below g5'.out (grown_below hgrow)
            have x6 := u5'.out.1.below (grown_below hgrow)
            have b6 := b5'.out.trans ((grown_below hgrow).mono b5'.out.size)
            have hxb : ∀ ad, Ax = some ad → ad.block < H := fun ad h => by rw [← hH]; exact (u5'.out.2.1 ad h).2
            have hxc := u5'.out.2.2.2
            have hGl : G < H := by rw [← hH]; exact g5'.out.lt
            have hvl : ∀ k, v.ownBlock = some k → k < H := fun k hk => by rw [← hH]; exact (own_block g5'.out.row hk).2.1
            rw [hH]
            clear hown hgrow u5' g5' b5' hH
            go_loopw [55] (fun kv wx => ∃ (k : Nat), kv = .int .i64 (k : Int) ∧ k ≤ xs.length ∧ Blk wx H 3 ((cntUp l.length (xs.take k)).map (Value.int .i64)).toArray ∧ ReadsI wx Ax xs ∧ Grp tG tC W.heap.size G v (mkFrom 0 l) wx ∧ Below W.heap.size W wx)
              (fun kv _ => xs.length - (intOf kv).toNat)
            case atStart => exact ⟨0, rfl, Nat.zero_le _, bH, x6, g6, b6⟩
            case round =>
              clear bH x6 g6 b6
              obtain ⟨k, rfl, hk, bk, xk, gk1, belk⟩ := hrel
              by_cases hltk : k < xs.length
              · obtain ⟨z, hz⟩ : ∃ z, xs[k]? = some z := ⟨xs[k], List.getElem?_eq_getElem hltk⟩
                obtain ⟨z1, z2⟩ := hx3'.out z (List.mem_of_getElem? hz)
                obtain ⟨m, rfl⟩ : ∃ m : Nat, z = (m : Int) := ⟨z.toNat, by omega⟩
                have hml : m < l.length := by omega
                obtain ⟨ax, hax, _, q0⟩ := xk k _ hz
                have q1 := bk.cell m
                rw [List.getElem?_toArray, List.getElem?_map, cntUp_get _ _ m hml] at q1
                simp only [Option.map_some] at q1
                have q2 := bk.frozen m
                have hcb := cnt_le (m : Int) (xs.take k)
                have hc0 := cnt_nonneg (m : Int) (xs.take k)
                rw [List.length_take] at hcb
                have hbs := bk.set m (.int .i64 (cnt (m : Int) (xs.take k) + 1)) (by simp [cntUp_len]; exact hml)
                rw [List.setIfInBounds_toArray, ← List.map_set, ← cntUp_snoc _ _ _ hml] at hbs
                have htk : xs.take k ++ [(m : Int)] = xs.take (k + 1) := by rw [List.take_add_one, hz]; rfl
                rw [htk] at hbs
                have hbs' := Lib.hid hbs
                have xk' := Lib.hid (xk.other (a := ⟨H, m, none⟩) (.int .i64 (cnt (m : Int) (xs.take k) + 1)) (fun ad h => Nat.ne_of_lt (hxb ad h)))
                have gk' := Lib.hid (gk1.other (a := ⟨H, m, none⟩) (.int .i64 (cnt (m : Int) (xs.take k) + 1)) (Nat.ne_of_lt hGl) (fun e => Nat.lt_irrefl _ (hvl _ e)))
                have bel' := Lib.hid (belk.setCell (p := ⟨H, m, none⟩) (show W.heap.size ≤ H by omega) (.int .i64 (cnt (m : Int) (xs.take k) + 1)))
                generalize cnt (m : Int) (xs.take k) = C at *
                have hw : IntKind.i64.wrap (C + 1) = C + 1 := IntWalk.i64_in _ (by omega)
                subst hax
                clear hbs xk gk1 belk bk hz htk
                go_wp2
                go_roundw
                case rel => exact ⟨k + 1, by go_num, by omega, hbs'.out, xk'.out, gk'.out, bel'.out⟩
                case measure => simp [intOf]; omega
              · have hk' : k = xs.length := by omega
                subst hk'
                rw [List.take_of_length_le (Nat.le_refl _), hx2'.out] at bk
                have xk2 := Lib.hid (reads_blk bk)
                have gk' := Lib.hid gk1
                have bel' := Lib.hid belk
                have hRk := Lib.hid (hR.out.below belk)
                clear bk xk gk1 belk
                go_wp2_with ((with_reducible refine gate_callee (f := 18) rfl ?_); refine goesL_ (some 68) rfl rfl Try.func18 (by kernel_rfl) rfl #[.slice (some ⟨H, 0, none⟩) l.length l.length, .slice A0 l.length c0] rfl (by (try simp only [List.map_toArray, List.map_cons, List.map_nil]); first | done | rfl) ?_; (with_reducible refine (ints_calls (some ⟨H, 0, none⟩) A0 l.length c0 l l _ xk2.out hRk.out (by omega) (Nat.le_refl _) hc0).mono ?_); rintro e w7 ⟨rfl, b7⟩; refine ⟨_, rfl, ?_⟩; have gk7 := Lib.hid (grp_below gk'.out b7); have bk7 := Lib.hid (bel'.out.trans (b7.mono bel'.out.size)); clear b7; simp only [decide_true])
                go_roundw
                case rel => exact ⟨r + 1, by go_num, by omega, by first | exact gk7.out, by exact bk7.out⟩
                case measure => simp [intOf]; omega
          · have hr3' : ¬ (r : Int) < 3 := by omega
            go_wp2
            go_ret
            exact ⟨rfl, hbel3'.out⟩
end Go.Proofs.Ytkcmmghhghgdpaa.Walk
