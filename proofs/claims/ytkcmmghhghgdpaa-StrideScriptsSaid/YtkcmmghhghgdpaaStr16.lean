/- furlonglaw09.made: its contract. -/
import Derived.Test.YtkcmmghhghgdpaaStr15
namespace Go.Proofs.Ytkcmmghhghgdpaa.Str
open Go.RowKit Go.Shelf Go.Maps Go.Proofs.Ytkcmmghhghgdpaa.Iter Go.Proofs.Ytkcmmghhghgdpaa.SeqM Go.Proofs.YtkcmmghhghgdpaaW.PrintWords Go.Proofs.YtkcmmghhghgdpaaW.PrintLast
set_option linter.unusedVariables false
set_option linter.unusedSimpArgs false
theorem good_len {l : List Cl} (h : GoodG l) : l.length ≤ 1024 := h.2.2
abbrev Opr : Type := Int × Int × Int × Int × Int
/-- A call of a script: 0 Join, 1 Leave, 2 Change, 3 Pick. -/
def doOp (l : List Cl) (o : Opr) : List Cl :=
  if o.1 = 0 then (joinL l o.2.1 o.2.2.1 o.2.2.2.1).1 else if o.1 = 1 then (leaveL l o.2.1).1 else if o.1 = 2 then (changeL l o.2.1 o.2.2.1).1 else if o.1 = 3 then (pickR l).1 else l
theorem pickR_good {l : List Cl} (h : GoodG l) : GoodG (pickR l).1 := by
  unfold pickR
  split
  · exact h
  · exact pick_good h
theorem doOp_good {l : List Cl} (o : Opr) (h : GoodG l) : GoodG (doOp l o) := by
  unfold doOp
  split
  · exact join_good h
  · split
    · exact leave_good h
    · split
      · exact change_good h
      · split
        · exact pickR_good h
        · exact h
def madeF (ops : List Opr) : List Cl := ops.foldl doOp []
theorem madeF_good : ∀ (ops : List Opr) (l : List Cl), GoodG l → GoodG (ops.foldl doOp l)
  | [], l, h => h
  | o :: ops, l, h => madeF_good ops _ (doOp_good o h)
theorem madeF_take {ops : List Opr} {i : Nat} {o : Opr} (h : ops[i]? = some o) : madeF (ops.take (i + 1)) = doOp (madeF (ops.take i)) o := by
  unfold madeF
  rw [List.take_add_one, h, List.foldl_append]
  rfl
def madeL (ops : List Opr) : List Cl := madeF (ops.take 300)
theorem madeL_good (ops : List Opr) : GoodG (madeL ops) := madeF_good _ _ good_nil
/-- A list of calls is read. -/
def ReadsO (W : World) (A : Option Addr) (xs : List Opr) : Prop := ∀ j x, xs[j]? = some x → ∃ ad, A = some ad ∧ ad.block < W.heap.size ∧ W.cell? (ad.add (j * 5)) = some (.int .i64 x.1) ∧
  W.cell? ⟨(ad.add (j * 5)).block, (ad.add (j * 5)).off + 1, none⟩ = some (.int .i64 x.2.1) ∧ W.cell? ⟨(ad.add (j * 5)).block, (ad.add (j * 5)).off + 2, none⟩ = some (.int .i64 x.2.2.1) ∧
  W.cell? ⟨(ad.add (j * 5)).block, (ad.add (j * 5)).off + 3, none⟩ = some (.int .i64 x.2.2.2.1) ∧ W.cell? ⟨(ad.add (j * 5)).block, (ad.add (j * 5)).off + 4, none⟩ = some (.int .i64 x.2.2.2.2)
theorem ReadsO.below {W W' : World} {A : Option Addr} {xs : List Opr} (h : ReadsO W A xs) (hb : Below W.heap.size W W') : ReadsO W' A xs := fun j x hx => by
  obtain ⟨ad, rfl, h1, a, b, c, d, e⟩ := h j x hx
  have hl : (ad.add (j * 5)).block < W.heap.size := by rw [add_block]; exact h1
  exact ⟨ad, rfl, Nat.lt_of_lt_of_le h1 hb.size, (hb.cell (p := ad.add (j * 5)) hl).trans a, (hb.cell (p := ⟨(ad.add (j * 5)).block, _, none⟩) hl).trans b, (hb.cell (p := ⟨(ad.add (j * 5)).block, _, none⟩) hl).trans c, (hb.cell (p := ⟨(ad.add (j * 5)).block, _, none⟩) hl).trans d, (hb.cell (p := ⟨(ad.add (j * 5)).block, _, none⟩) hl).trans e⟩
theorem readsO_C {W : World} {A : Option Addr} {n : Nat} {xs : List Opr} (h : Open.kOp.C W A n xs) : ReadsO W A xs := fun j x hx => by
  have hl := (List.getElem?_eq_some_iff.1 hx).1
  have hn : xs.length = n := h.1
  obtain ⟨ad, rfl, hc⟩ := h.2.2 (by omega)
  obtain ⟨c, h1, h2, h3⟩ := hc j x hx
  have hk : c = [.int .i64 x.1, .int .i64 x.2.1, .int .i64 x.2.2.1, .int .i64 x.2.2.2.1, .int .i64 x.2.2.2.2] := by
    obtain ⟨_, _, rfl, rfl, _, _, rfl, rfl, _, _, rfl, rfl, _, _, rfl, rfl, rfl⟩ := h2
    rfl
  subst hk
  have h3' : ∀ i u, [Value.int .i64 x.1, .int .i64 x.2.1, .int .i64 x.2.2.1, .int .i64 x.2.2.2.1, .int .i64 x.2.2.2.2][i]? = some u → W.cell? (ad.add (j * 5 + i)) = some u := h3
  have c0 := h3' 0 _ rfl
  rw [Nat.add_zero] at c0
  exact ⟨ad, rfl, by have := World.block_lt_of_cell? W _ c0; rwa [add_block] at this, c0, by rw [← add_field _ _ 1 (by omega)]; exact h3' 1 _ rfl, by rw [← add_field _ _ 2 (by omega)]; exact h3' 2 _ rfl, by rw [← add_field _ _ 3 (by omega)]; exact h3' 3 _ rfl, by rw [← add_field _ _ 4 (by omega)]; exact h3' 4 _ rfl⟩

set_option maxRecDepth 100000 in
set_option maxHeartbeats 8000000 in
theorem made_calls (A0 : Option Addr) (c0 : Nat) (ops : List Opr) (W : World) (hR0 : ReadsO W A0 ops) (hlen : ops.length ≤ 9223372036854775807) :
    Calls Try.prog 21 #[.slice A0 ops.length c0] W fun e W' => ∃ G v, e = .returned (ptrG G) ∧ Grp tG tC W.heap.size G v (madeL ops) W' ∧ Below W.heap.size W W' := by
  have hR := Lib.hid hR0
  clear hR0
  go_enter Try.func21, Try.ntmps21
  go_wp2_with ((with_reducible refine gate_callee (f := 15) rfl ?_); refine goesL_ (some 6) rfl rfl Try.func15 (by kernel_rfl) rfl #[] rfl (by (try simp only [List.map_toArray, List.map_cons, List.map_nil]); first | done | rfl) ?_; (with_reducible refine (new_calls _).mono ?_); rintro e w2 ⟨rfl, g2, b2⟩; refine ⟨_, rfl, ?_⟩; have g2' := Lib.hid g2; have b2' := Lib.hid b2; clear g2 b2)
  go_loopw [9] (fun iv wr => ∃ (i : Nat) (v : Value), iv = .int .i64 (i : Int) ∧ i ≤ ops.length ∧ i ≤ 300 ∧ Grp tG tC W.heap.size W.heap.size v (madeF (ops.take i)) wr ∧ Below W.heap.size W wr)
    (fun iv _ => ops.length - (intOf iv).toNat)
  case atStart => exact ⟨0, _, rfl, Nat.zero_le _, by omega, g2'.out, b2'.out⟩
  case round =>
    obtain ⟨i, v, rfl, hi, hi3, hgr, hbel⟩ := hrel
    have hgr' := Lib.hid hgr
    have hbel' := Lib.hid hbel
    by_cases hlt : i < ops.length
    · obtain ⟨⟨kd, oid, ot, orm, on⟩, ho⟩ : ∃ o, ops[i]? = some o := ⟨ops[i], List.getElem?_eq_getElem hlt⟩
      obtain ⟨ad, rfl, _, q0, q1, q2, q3, q4⟩ := hR.out.below hbel i _ ho
      dsimp only at q0 q1 q2 q3 q4
      have ho' := Lib.hid ho
      have hst := Lib.hid (madeF_take ho)
      have hgood := Lib.hid (show GoodG (madeF (ops.take i)) from madeF_good (ops.take i) [] good_nil)
      have bC := Blk.new wr 35 #[.int .i64 kd, .int .i64 oid, .int .i64 ot, .int .i64 orm, .int .i64 on]
      have d0 := bC.cell 0
      have d1 := bC.cell 1
      have d2 := bC.cell 2
      have d3 := bC.cell 3
      simp only [List.getElem?_toArray, List.getElem?_cons_zero, List.getElem?_cons_succ] at d0 d1 d2 d3
      have g3' := Lib.hid (hgr'.out.alloc (.cells #[.int .i64 kd, .int .i64 oid, .int .i64 ot, .int .i64 orm, .int .i64 on] 35))
      have b3' := Lib.hid (hbel'.out.alloc hbel'.out.size (.cells #[.int .i64 kd, .int .i64 oid, .int .i64 ot, .int .i64 orm, .int .i64 on] 35))
      clear hgr hbel ho bC
      by_cases h300 : 300 ≤ i
      · have h300' : (300 : Int) ≤ (i : Int) := by omega
        have he : madeL ops = madeF (ops.take i) := by rw [show i = 300 by omega]; rfl
        rw [← he] at g3'
        clear h300 hi3 he
        go_wp2
        go_ret
        exact ⟨_, v, rfl, g3'.out, b3'.out⟩
      · have hlt3 : i < 300 := by omega
        have hlt3' : ¬ (300 : Int) ≤ (i : Int) := by omega
        by_cases k0 : kd = 0
        · subst k0
          have hdo := Lib.hid (show doOp (madeF (ops.take i)) (0, oid, ot, orm, on) = (joinL (madeF (ops.take i)) oid ot orm).1 from rfl)
          go_wp2_with ((with_reducible refine gate_callee (f := 16) rfl ?_); refine goesL_ (some 27) rfl rfl Try.func16 (by kernel_rfl) rfl #[ptrG W.heap.size, .int .i64 oid, .int .i64 ot, .int .i64 orm] rfl (by (try simp only [List.map_toArray, List.map_cons, List.map_nil]); first | done | rfl) ?_; (with_reducible refine (join_calls W.heap.size W.heap.size v (madeF (ops.take i)) oid ot orm _ hgood.out g3'.out b3'.out.size).mono ?_); rintro e w4 ⟨rfl, v4, g4, m4, _⟩; refine ⟨_, rfl, ?_⟩; have g4' := Lib.hid g4; have b4' := Lib.hid (step_grp b3'.out (Nat.le_refl _) g3'.out m4); clear g4 m4)
          go_roundw
          case rel => exact ⟨i + 1, v4, by go_num, by omega, by omega, by rw [hst.out, hdo.out]; exact g4'.out, b4'.out⟩
          case measure => simp [intOf]; omega
        · by_cases k1 : kd = 1
          · subst k1
            have hdo := Lib.hid (show doOp (madeF (ops.take i)) (1, oid, ot, orm, on) = (leaveL (madeF (ops.take i)) oid).1 from rfl)
            go_wp2_with ((with_reducible refine gate_callee (f := 24) rfl ?_); refine goesL_ (some 33) rfl rfl Try.func24 (by kernel_rfl) rfl #[ptrG W.heap.size, .int .i64 oid] rfl (by (try simp only [List.map_toArray, List.map_cons, List.map_nil]); first | done | rfl) ?_; (with_reducible refine (leave_calls W.heap.size W.heap.size v (madeF (ops.take i)) oid _ hgood.out g3'.out).mono ?_); rintro e w4 ⟨rfl, v4, g4, m4, _⟩; refine ⟨_, rfl, ?_⟩; have g4' := Lib.hid g4; have b4' := Lib.hid (step_grp b3'.out (Nat.le_refl _) g3'.out m4); clear g4 m4)
            go_roundw
            case rel => exact ⟨i + 1, v4, by go_num, by omega, by omega, by rw [hst.out, hdo.out]; exact g4'.out, b4'.out⟩
            case measure => simp [intOf]; omega
          · by_cases k2 : kd = 2
            · subst k2
              have hdo := Lib.hid (show doOp (madeF (ops.take i)) (2, oid, ot, orm, on) = (changeL (madeF (ops.take i)) oid ot).1 from rfl)
              go_wp2_with ((with_reducible refine gate_callee (f := 25) rfl ?_); refine goesL_ (some 41) rfl rfl Try.func25 (by kernel_rfl) rfl #[ptrG W.heap.size, .int .i64 oid, .int .i64 ot] rfl (by (try simp only [List.map_toArray, List.map_cons, List.map_nil]); first | done | rfl) ?_; (with_reducible refine (change_calls W.heap.size W.heap.size v (madeF (ops.take i)) oid ot _ hgood.out g3'.out).mono ?_); rintro e w4 ⟨rfl, g4, m4⟩; obtain ⟨v4, hv4⟩ : ∃ v4, v4 = v := ⟨_, rfl⟩; rw [← hv4] at g4; refine ⟨_, rfl, ?_⟩; have g4' := Lib.hid g4; have b4' := Lib.hid (step_grp b3'.out (Nat.le_refl _) g3'.out m4); clear g4 m4)
              go_roundw
              case rel => exact ⟨i + 1, v4, by go_num, by omega, by omega, by rw [hst.out, hdo.out]; exact g4'.out, b4'.out⟩
              case measure => simp [intOf]; omega
            · by_cases k3 : kd = 3
              · subst k3
                have hdo := Lib.hid (show doOp (madeF (ops.take i)) (3, oid, ot, orm, on) = (pickR (madeF (ops.take i))).1 from rfl)
                go_wp2_with ((with_reducible refine gate_callee (f := 23) rfl ?_); refine goesL_ (some 45) rfl rfl Try.func23 (by kernel_rfl) rfl #[ptrG W.heap.size] rfl (by (try simp only [List.map_toArray, List.map_cons, List.map_nil]); first | done | rfl) ?_; (with_reducible refine (pick_calls W.heap.size W.heap.size v (madeF (ops.take i)) _ hgood.out g3'.out).mono ?_); rintro e w4 ⟨rfl, g4, m4⟩; obtain ⟨v4, hv4⟩ : ∃ v4, v4 = v := ⟨_, rfl⟩; rw [← hv4] at g4; refine ⟨_, rfl, ?_⟩; have g4' := Lib.hid g4; have b4' := Lib.hid (step_grp b3'.out (Nat.le_refl _) g3'.out m4); clear g4 m4)
                go_roundw
                case rel => exact ⟨i + 1, v4, by go_num, by omega, by omega, by rw [hst.out, hdo.out]; exact g4'.out, b4'.out⟩
                case measure => simp [intOf]; omega
              · have hdo := Lib.hid (show doOp (madeF (ops.take i)) (kd, oid, ot, orm, on) = madeF (ops.take i) by unfold doOp; rw [if_neg k0, if_neg k1, if_neg k2, if_neg k3])
                go_wp2
                go_roundw
                case rel => exact ⟨i + 1, v, by go_num, by omega, by omega, by rw [hst.out, hdo.out]; exact g3'.out, b3'.out⟩
                case measure => simp [intOf]; omega
    · have hi' : i = ops.length := by omega
      subst hi'
      have he : madeL ops = madeF (ops.take ops.length) := by unfold madeL; rw [List.take_of_length_le (Nat.le_refl _), List.take_of_length_le hi3]
      rw [← he] at hgr'
      clear hgr hbel
      go_wp2
      go_ret
      exact ⟨_, v, rfl, hgr'.out, hbel'.out⟩
end Go.Proofs.Ytkcmmghhghgdpaa.Str
