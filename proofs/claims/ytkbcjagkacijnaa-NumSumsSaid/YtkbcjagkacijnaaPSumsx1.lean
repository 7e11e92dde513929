-- Written for this claim by this project's own driver over the kit's print: functions and their contracts.
import Derived.Test.YtkbcjagkacijnaaPSumsx0
import Derived.Test.YtkbcjagkacijnaaSumsX
namespace Go.Proofs.Ytkbcjagkacijnaa.PSums
open Go.RowKit Go.Proofs.YtkbcjagkacijnaaW.PrintWords Go.Proofs.YtkbcjagkacijnaaW.PrintLast Go.Proofs.YtkbcjagkacijnaaW.PrintMore
attribute [local go_sem] max2_int min2_int max_two min_two max_three min_three max_four min_four   -- for this text's walks alone
set_option linter.unusedVariables false
set_option linter.unusedSimpArgs false

/-! furlonglaw01_awake (function 55): by hand, in YtkbcjagkacijnaaSumsX -/
/-! num_Sum (function 76): by hand, in YtkbcjagkacijnaaSumsX -/
/-! furlongref01_Sum (function 77): by hand, in YtkbcjagkacijnaaSumsX -/
/-! ### furlonglaw01_NumSums: function 29 -/
def furlonglaw01_NumSums.l0 : Nat → List Int → List Int → List Int → Int → Int → Int → Int → List Int → Int → Int → Option (Bool)
  | 0, _, _, _, _, _, _, _, _, _, _ => none
  | k + 1, x0, x3, z3, x4, x5, x6, x7, x30, x31, x32 => if x32 < x31 then (if 0 ≤ x32 then (if x32 < (x30.length : Int) then (if x32 < (x3.length : Int) then (if (rd x3 x32) = (rd x30 x32) then (furlonglaw01_NumSums.l0 k x0 x3 z3 x4 x5 x6 x7 x30 x31 (wrap64 (x32 + 1))) else (some false)) else (none)) else (none)) else (none)) else (if x4 = x6 then (if x5 = x7 then (if 0 ≤ (wrap64 ((x0.length : Int) + 1)) then (if (wrap64 ((x0.length : Int) + 1)) ≤ (z3.length : Int) then (if 0 ≤ (x0.length : Int) then (if (x0.length : Int) < ((z3.take ((wrap64 ((x0.length : Int) + 1)) : Int).toNat).length : Int) then (some ((rd (z3.take ((wrap64 ((x0.length : Int) + 1)) : Int).toNat) (x0.length : Int)) == 71)) else (none)) else (none)) else (none)) else (none)) else (some false)) else (some false))
def furlonglaw01_NumSums.f (k : Nat) (l0 : List Int) : Option (Bool) := (furlonglaw01_awake.f k).bind fun t101 => (if t101 = true then ((some (([] : List Int) : List Int)).bind fun y102 => (if y102.length + l0.length < 17592186044416 then ((some (y102 ++ l0 : List Int)).bind fun y105 => (if y105.length < 17592186044416 then ((some (y105 ++ [71] : List Int)).bind fun y108 => (if 0 ≤ (l0.length : Int) then (if (l0.length : Int) ≤ (y108.length : Int) then ((some (y108.take ((l0.length : Int) : Int).toNat : List Int)).bind fun y111 => ((num_Sum.f k y111).bind fun bt115 => ((furlongref01_Sum.f k l0).bind fun bt117 => (furlonglaw01_NumSums.l0 k l0 y111 y108 bt115.1 bt115.2 bt117.1 bt117.2 l0 (l0.length : Int) 0)))) else (none)) else (none))) else (none))) else (none))) else (some false))
theorem furlonglaw01_NumSums.mono_l : ∀ k, (∀ y0 y1 y2 y3 y4 y5 y6 y7 y8 y9, LeO (furlonglaw01_NumSums.l0 k y0 y1 y2 y3 y4 y5 y6 y7 y8 y9) (furlonglaw01_NumSums.l0 (k + 1) y0 y1 y2 y3 y4 y5 y6 y7 y8 y9))
  | 0 => fun _ _ _ _ _ _ _ _ _ _ r h => by simp [furlonglaw01_NumSums.l0] at h
  | k + 1 => by
    have ih0 := furlonglaw01_NumSums.mono_l k
    · intro y0 y1 y2 y3 y4 y5 y6 y7 y8 y9
      unfold furlonglaw01_NumSums.l0
      repeat' first
      | (with_reducible exact ih0 _ _ _ _ _ _ _ _ _ _)
      | (with_reducible exact furlonglaw01_awake.mono _)
      | (with_reducible exact furlongref01_Sum.mono _ _)
      | (with_reducible exact num_Sum.mono _ _)
      | (with_reducible exact LeO.refl _)
      | (with_reducible exact LeO.none _)
      | (with_reducible refine LeO.ite ?_ ?_)
      | (with_reducible refine LeO.bind ?_ (fun _ => ?_))
      | exact ih0 _ _ _ _ _ _ _ _ _ _
      | exact furlonglaw01_awake.mono _
      | exact furlongref01_Sum.mono _ _
      | exact num_Sum.mono _ _
      | exact LeO.none _
      | refine LeO.ite ?_ ?_
      | refine LeO.bind ?_ (fun _ => ?_)
theorem furlonglaw01_NumSums.mono : ∀ a0 k, LeO (furlonglaw01_NumSums.f k a0) (furlonglaw01_NumSums.f (k + 1) a0) := by
  intro a0 k
  have ih0 := furlonglaw01_NumSums.mono_l k
  unfold furlonglaw01_NumSums.f
  repeat' first
      | (with_reducible exact ih0 _ _ _ _ _ _ _ _ _ _)
      | (with_reducible exact furlonglaw01_awake.mono _)
      | (with_reducible exact furlongref01_Sum.mono _ _)
      | (with_reducible exact num_Sum.mono _ _)
      | (with_reducible exact LeO.refl _)
      | (with_reducible exact LeO.none _)
      | (with_reducible refine LeO.ite ?_ ?_)
      | (with_reducible refine LeO.bind ?_ (fun _ => ?_))
      | exact ih0 _ _ _ _ _ _ _ _ _ _
      | exact furlonglaw01_awake.mono _
      | exact furlongref01_Sum.mono _ _
      | exact num_Sum.mono _ _
      | exact LeO.none _
      | refine LeO.ite ?_ ?_
      | refine LeO.bind ?_ (fun _ => ?_)
theorem cut_room {P : Program} (t e : TypeId) (kh : IntKind) {i : TypeInfo} (ht : P.underlying t = some (.slice e)) (hi : P.info? e = some i) (A : Option Addr) (n c m : Nat) (j : Int) (h0 : 0 ≤ j) (hm : j ≤ c) (hj : m = j.toNat) :
    ∀ W : World, (Instr.slice t (.slice A n c) none (some (.int kh j)) none).run P W = .ok (.slice A m c) W := by
  intro W
  subst hj
  have hel : P.elem t = e := by simp [Program.elem, ht]
  have hu : P.underlying t = some (.slice (P.elem t)) := by rw [hel]; exact ht
  have ha : (A.map fun x => x.add 0) = A := by cases A <;> simp [Addr.add]
  rw [run_slice_h W t A n c hu kh j h0 hm, hel]
  simp [sizeOf, typeInfo, hi, sliced, Result.andThen, ha]
set_option maxHeartbeats 8000000 in
set_option maxRecDepth 100000 in
theorem furlonglaw01_NumSums.calls (k : Nat) (A0 : Option Addr) (c0 : Nat) (l0 : List Int) (r : Bool) (w : World) (hr0 : Kd.C (Kd.int .i64) w A0 l0.length l0) (hc0 : l0.length ≤ c0) (h : furlonglaw01_NumSums.f k l0 = some r) :
    Calls Try.prog 29 #[.slice A0 l0.length c0] w fun e w' => e = .returned (.bool r) ∧ Below w.heap.size w w' := by
  have HR0 := Aside0.mk hr0
  have HC0 := Aside0.mk hc0
  clear hr0 hc0
  have HB := Aside0.mk (Below.refl w.heap.size w)
  have H : ((furlonglaw01_awake.f k).bind fun t101 => (if t101 = true then ((some (([] : List Int) : List Int)).bind fun y102 => (if y102.length + l0.length < 17592186044416 then ((some (y102 ++ l0 : List Int)).bind fun y105 => (if y105.length < 17592186044416 then ((some (y105 ++ [71] : List Int)).bind fun y108 => (if 0 ≤ (l0.length : Int) then (if (l0.length : Int) ≤ (y108.length : Int) then ((some (y108.take ((l0.length : Int) : Int).toNat : List Int)).bind fun y111 => ((num_Sum.f k y111).bind fun bt115 => ((furlongref01_Sum.f k l0).bind fun bt117 => (furlonglaw01_NumSums.l0 k l0 y111 y108 bt115.1 bt115.2 bt117.1 bt117.2 l0 (l0.length : Int) 0)))) else (none)) else (none))) else (none))) else (none))) else (some false))) = some r := h
  clear h
  replace H := Option.bind_eq_some_iff.mp H
  obtain ⟨t101, A20, H⟩ := H
  replace H : (if t101 = true then ((some (([] : List Int) : List Int)).bind fun y102 => (if y102.length + l0.length < 17592186044416 then ((some (y102 ++ l0 : List Int)).bind fun y105 => (if y105.length < 17592186044416 then ((some (y105 ++ [71] : List Int)).bind fun y108 => (if 0 ≤ (l0.length : Int) then (if (l0.length : Int) ≤ (y108.length : Int) then ((some (y108.take ((l0.length : Int) : Int).toNat : List Int)).bind fun y111 => ((num_Sum.f k y111).bind fun bt115 => ((furlongref01_Sum.f k l0).bind fun bt117 => (furlonglaw01_NumSums.l0 k l0 y111 y108 bt115.1 bt115.2 bt117.1 bt117.2 l0 (l0.length : Int) 0)))) else (none)) else (none))) else (none))) else (none))) else (some false)) = some r := H
  have A2 := Aside0.mk A20
  clear A20
  by_cases c3 : t101 = true
  · subst c3
    have H1 : ((some (([] : List Int) : List Int)).bind fun y102 => (if y102.length + l0.length < 17592186044416 then ((some (y102 ++ l0 : List Int)).bind fun y105 => (if y105.length < 17592186044416 then ((some (y105 ++ [71] : List Int)).bind fun y108 => (if 0 ≤ (l0.length : Int) then (if (l0.length : Int) ≤ (y108.length : Int) then ((some (y108.take ((l0.length : Int) : Int).toNat : List Int)).bind fun y111 => ((num_Sum.f k y111).bind fun bt115 => ((furlongref01_Sum.f k l0).bind fun bt117 => (furlonglaw01_NumSums.l0 k l0 y111 y108 bt115.1 bt115.2 bt117.1 bt117.2 l0 (l0.length : Int) 0)))) else (none)) else (none))) else (none))) else (none))) = some r := by rw [if_pos rfl] at H; exact H
    clear H
    have H := H1
    clear H1
    obtain ⟨y102, hy102⟩ : ∃ y_ : List Int, y_ = (([] : List Int)) := ⟨_, rfl⟩
    replace H : (if y102.length + l0.length < 17592186044416 then ((some (y102 ++ l0 : List Int)).bind fun y105 => (if y105.length < 17592186044416 then ((some (y105 ++ [71] : List Int)).bind fun y108 => (if 0 ≤ (l0.length : Int) then (if (l0.length : Int) ≤ (y108.length : Int) then ((some (y108.take ((l0.length : Int) : Int).toNat : List Int)).bind fun y111 => ((num_Sum.f k y111).bind fun bt115 => ((furlongref01_Sum.f k l0).bind fun bt117 => (furlonglaw01_NumSums.l0 k l0 y111 y108 bt115.1 bt115.2 bt117.1 bt117.2 l0 (l0.length : Int) 0)))) else (none)) else (none))) else (none))) else (none)) = some r := by first | (rw [hy102]; with_reducible exact H) | (have H2_ := (Option.bind_some _ _).symm.trans H; rw [hy102]; with_reducible exact H2_) | (have H2_ := (Option.bind_some _ _).symm.trans H; with_reducible exact H2_) | with_reducible exact H | (rw [hy102]; exact H) | exact H
    have Ny102 := Aside0.mk hy102
    clear hy102
    by_cases c4 : y102.length + l0.length < 17592186044416
    · rw [if_pos c4] at H
      have LMc4 := Aside0.mk c4
      clear c4
      obtain ⟨y105, hy105⟩ : ∃ y_ : List Int, y_ = (y102 ++ l0) := ⟨_, rfl⟩
      replace H : (if y105.length < 17592186044416 then ((some (y105 ++ [71] : List Int)).bind fun y108 => (if 0 ≤ (l0.length : Int) then (if (l0.length : Int) ≤ (y108.length : Int) then ((some (y108.take ((l0.length : Int) : Int).toNat : List Int)).bind fun y111 => ((num_Sum.f k y111).bind fun bt115 => ((furlongref01_Sum.f k l0).bind fun bt117 => (furlonglaw01_NumSums.l0 k l0 y111 y108 bt115.1 bt115.2 bt117.1 bt117.2 l0 (l0.length : Int) 0)))) else (none)) else (none))) else (none)) = some r := by first | (rw [hy105]; with_reducible exact H) | (have H2_ := (Option.bind_some _ _).symm.trans H; rw [hy105]; with_reducible exact H2_) | (have H2_ := (Option.bind_some _ _).symm.trans H; with_reducible exact H2_) | with_reducible exact H | (rw [hy105]; exact H) | exact H
      have Ny105 := Aside0.mk hy105
      clear hy105
      by_cases c5 : y105.length < 17592186044416
      · rw [if_pos c5] at H
        have LMc5 := Aside0.mk c5
        clear c5
        obtain ⟨y108, hy108⟩ : ∃ y_ : List Int, y_ = (y105 ++ [71]) := ⟨_, rfl⟩
        replace H : (if 0 ≤ (l0.length : Int) then (if (l0.length : Int) ≤ (y108.length : Int) then ((some (y108.take ((l0.length : Int) : Int).toNat : List Int)).bind fun y111 => ((num_Sum.f k y111).bind fun bt115 => ((furlongref01_Sum.f k l0).bind fun bt117 => (furlonglaw01_NumSums.l0 k l0 y111 y108 bt115.1 bt115.2 bt117.1 bt117.2 l0 (l0.length : Int) 0)))) else (none)) else (none)) = some r := by first | (rw [hy108]; with_reducible exact H) | (have H2_ := (Option.bind_some _ _).symm.trans H; rw [hy108]; with_reducible exact H2_) | (have H2_ := (Option.bind_some _ _).symm.trans H; with_reducible exact H2_) | with_reducible exact H | (rw [hy108]; exact H) | exact H
        have Ny108 := Aside0.mk hy108
        clear hy108
        by_cases c6 : 0 ≤ (l0.length : Int)
        · rw [if_pos c6] at H
          have c6b0 := eq_true c6
          have c6b1 : decide (0 ≤ (l0.length : Int)) = true := decide_eq_true c6
          clear c6
          by_cases c7 : (l0.length : Int) ≤ (y108.length : Int)
          · rw [if_pos c7] at H
            have c7b0 := eq_true c7
            have c7b1 : decide ((l0.length : Int) ≤ (y108.length : Int)) = true := decide_eq_true c7
            clear c7
            obtain ⟨y111, hy111⟩ : ∃ y_ : List Int, y_ = (y108.take ((l0.length : Int) : Int).toNat) := ⟨_, rfl⟩
            replace H : ((num_Sum.f k y111).bind fun bt115 => ((furlongref01_Sum.f k l0).bind fun bt117 => (furlonglaw01_NumSums.l0 k l0 y111 y108 bt115.1 bt115.2 bt117.1 bt117.2 l0 (l0.length : Int) 0))) = some r := by first | (rw [hy111]; with_reducible exact H) | (have H2_ := (Option.bind_some _ _).symm.trans H; rw [hy111]; with_reducible exact H2_) | (have H2_ := (Option.bind_some _ _).symm.trans H; with_reducible exact H2_) | with_reducible exact H | (rw [hy111]; exact H) | exact H
            have Ny111 := Aside0.mk hy111
            clear hy111
            replace H := Option.bind_eq_some_iff.mp H
            obtain ⟨⟨t115, t116⟩, A80, H⟩ := H
            replace H : ((furlongref01_Sum.f k l0).bind fun bt117 => (furlonglaw01_NumSums.l0 k l0 y111 y108 t115 t116 bt117.1 bt117.2 l0 (l0.length : Int) 0)) = some r := H
            have A8 := Aside0.mk A80
            clear A80
            replace H := Option.bind_eq_some_iff.mp H
            obtain ⟨⟨t117, t118⟩, A90, H⟩ := H
            replace H : (furlonglaw01_NumSums.l0 k l0 y111 y108 t115 t116 t117 t118 l0 (l0.length : Int) 0) = some r := H
            have A9 := Aside0.mk A90
            clear A90
            have H' := Aside0.mk H
            clear H
            go_enter Try.func29, Try.ntmps29
            go_wp2_with (first | ((with_reducible refine gate_callee (f := 55) rfl ?_); refine goesL_ (some 10) rfl rfl Try.func55 (by kernel_rfl) rfl #[] rfl (by (try simp only [List.map_toArray, List.map_cons, List.map_nil]); first | done | rfl | (simp only [List.length_drop, List.length_take]; rfl)) ?_; (with_reducible refine (furlonglaw01_awake.calls k  true _ A2.out).mono ?_); rintro e w10 ⟨rfl, hb⟩; refine ⟨_, rfl, ?_⟩; have n0_ := Aside0.mk (below_step (by repeat (first | (with_reducible first | exact HB.out | apply below_alloc | apply pw_below_drewN | apply below_drew1) | exact HB.out)) hb); clear HB; have HB := n0_; clear n0_; (try clear hb); (try clear hb2); (try clear hk); (try clear hi)) | ((with_reducible refine gate_dst (N := 12) rfl ?_); (try (refine gate_guard (by rfl) ?_; dsimp only)); refine Kd.R_lit (Kd.int .i64) _ 2 ?hg (N := 12) ?hd (xs := ([] : List Int)) (inner := []) (ok := fun _ => True) (okp := fun _ => True) ?hr ?hp (fun _ hk => hk) trivial (Below.refl _ _) (Nat.le_refl _) (by simp) ?_; (case hd => rfl); (case hg => rfl); (case hr => first | (go_simp; done) | (go_simp; rfl)); (case hp => exact (Reps.none _ _)); intro v103 w11 ho12 hb hg_ hnew_; clear hg_ hnew_; (first | rw [← Ny102.out] at ho12 | (simp only [Int.reduceToNat] at ho12; rw [← Ny102.out] at ho12)); have n0_ := Aside0.mk (Kd.R_lower ho12 (below_size (by repeat (first | (with_reducible first | exact HB.out | apply below_alloc | apply pw_below_drewN | apply below_drew1) | exact HB.out)))); have n1_ := Aside0.mk (below_step (by repeat (first | (with_reducible first | exact HB.out | apply below_alloc | apply pw_below_drewN | apply below_drew1) | exact HB.out)) hb); clear HB; have HO104 := n0_; have HB := n1_; clear n0_ n1_; clear hb ho12) | ((with_reducible refine gate_builtin (b := .append) (xs := #[.tmp 12, .tmp 13]) rfl ?_); (try (refine gate_guard (by rfl) ?_; dsimp only)); at_builtin; refine Kd.R_append_rows (Kd.int .i64) (w0 := w) w.heap.size rfl (.tmp 12) (.tmp 13) 72 2 (.int .i64 0) 8 rfl Try.underlying72 info2 rfl (by decide) (by omega) v103 y102 l0 _ _ _ (fun _ => True) (fun _ => False) rfl rfl ?aO ?aR (fun _ _ h => h) (fun _ h => h.elim) ?aF ?aB ?aS ?aL ?_; (case aR => repeat (first | exact (Kd.C_below HR0.out HB.out) | (with_reducible refine Kd.C_alloc ?_ _) | (with_reducible refine Kd.C_drewN ?_ _) | (with_reducible refine Kd.C_drew ?_))); (case aB => exact (by repeat (first | (with_reducible first | exact HB.out | apply below_alloc | apply pw_below_drewN | apply below_drew1) | exact HB.out))); (case aF => exact (fun _ _ => trivial)); (case aO => exact (by (with_reducible repeat (first | apply Kd.R_alloc | apply Kd.R_drewN | apply Kd.R_drew)); exact HO104.out)); (case aS => exact (below_size (by repeat (first | (with_reducible first | exact HB.out | apply below_alloc | apply pw_below_drewN | apply below_drew1) | exact HB.out)))); (case aL => have := LMc4.out; omega); intro v106 w13 ho hb hg hat; rw [← Ny105.out] at ho; have n0_ := Aside0.mk (hb); have n1_ := Aside0.mk (ho); clear HB; clear HO104; have HB := n0_; have HO107 := n1_; clear n0_ n1_; clear ho hb hg hat) | ((with_reducible refine gate_builtin (b := .append) (xs := #[.tmp 14, .tmp 15]) rfl ?_); (try (refine gate_guard (by rfl) ?_; dsimp only)); at_builtin; refine Kd.R_append (Kd.int .i64) (w0 := w) w.heap.size rfl (.tmp 14) (.tmp 15) 72 2 (.int .i64 0) 8 rfl Try.underlying72 info2 rfl (by decide) (by omega) v106 y105 71 [.int .i64 71] (fun _ => True) (fun _ => False) rfl rfl ?aP (fun _ hk => hk.elim) ?aF ?aO ?aB ?aS ?aL ?_; (case aP => exact rfl); (case aB => exact (by repeat (first | (with_reducible first | exact HB.out | apply below_alloc | apply pw_below_drewN | apply below_drew1) | exact HB.out))); (case aF => exact (fun _ _ => trivial)); (case aO => exact (by (with_reducible repeat (first | apply Kd.R_alloc | apply Kd.R_drewN | apply Kd.R_drew)); exact HO107.out)); (case aS => exact (below_size (by repeat (first | (with_reducible first | exact HB.out | apply below_alloc | apply pw_below_drewN | apply below_drew1) | exact HB.out)))); (case aL => have := LMc5.out; omega); intro v109 w14 ho hb hg hat; rw [← Ny108.out] at ho; have n0_ := Aside0.mk (hb); have n1_ := Aside0.mk (ho); clear HB; clear HO107; have HB := n0_; have HO110 := n1_; clear n0_ n1_; clear ho hb hg hat; obtain ⟨Ao16, co16, eo16⟩ := Kd.R_slice HO110.out; subst eo16; have q15 : ((l0.length : Int) : Int) ≤ ((y108.length : Int) : Int) := of_decide_eq_true (by first | (with_reducible assumption) | assumption); obtain ⟨i015, hi015, _, hsz15, _⟩ := info_parts info2; have hroom15 : y108.length ≤ co16 := (Kd.R_reads' HO110.out).2.1; have hC15 : Kd.C (Kd.int .i64) _ Ao16 y108.length y108 := (Kd.R_reads' HO110.out).2.2; have hcut15 := cut_to (P := Try.prog) 72 2 .i64 Try.underlying72 hi015 Ao16 y108.length co16 (l0.length : Int) (of_decide_eq_true (by first | (with_reducible assumption) | assumption)) q15 hroom15; have hr15 := Kd.C_take (m := ((l0.length : Int) : Int).toNat) hC15 (by omega); have hy15 : y111.length = ((l0.length : Int) : Int).toNat := (by rw [Ny111.out, List.length_take]; omega); rw [← Ny111.out] at hr15; rw [← hy15] at hcut15; have HR114 := Aside0.mk hr15; have HR108 := Aside0.mk hC15; have HC108 := Aside0.mk hroom15; have HC114 := Aside0.mk (show y111.length ≤ co16 from by omega); clear hr15 hC15 hroom15 hi015 hsz15; have KY15 := Aside0.mk hy15; clear hy15; have KL15 := Aside0.mk (show ((l0.length : Int) : Int).toNat ≤ y108.length from by omega); replace q15 := eq_true q15) | ((with_reducible refine gate_callee (f := 76) rfl ?_); refine goesL_ (some 22) rfl rfl Try.func76 (by kernel_rfl) rfl #[.slice Ao16 y111.length co16] rfl (by (try simp only [List.map_toArray, List.map_cons, List.map_nil]); first | done | rfl | (simp only [List.length_drop, List.length_take]; rfl)) ?_; (with_reducible refine (num_Sum.calls k _ _ y111 t115 t116 _ ?side1 ?side2 A8.out).mono ?_); (case side1 => repeat (first | exact (by repeat (first | (with_reducible exact HR114.out) | (with_reducible refine Kd.C_alloc ?_ _) | (with_reducible refine Kd.C_drewN ?_ _) | (with_reducible refine Kd.C_drew ?_) | exact HR114.out)) | (with_reducible refine Kd.C_alloc ?_ _) | (with_reducible refine Kd.C_drewN ?_ _) | (with_reducible refine Kd.C_drew ?_))); (case side2 => exact HC114.out); rintro e w17 ⟨rfl, hb⟩; refine ⟨_, rfl, ?_⟩; have n0_ := Aside0.mk (Kd.R_below (by (with_reducible repeat (first | apply Kd.R_alloc | apply Kd.R_drewN | apply Kd.R_drew)); exact HO110.out) hb); have n1_ := Aside0.mk (Kd.C_below (by repeat (first | (with_reducible exact HR114.out) | (with_reducible refine Kd.C_alloc ?_ _) | (with_reducible refine Kd.C_drewN ?_ _) | (with_reducible refine Kd.C_drew ?_) | exact HR114.out)) hb); have n9_ := Aside0.mk (Kd.C_below (by repeat (first | (with_reducible exact HR108.out) | (with_reducible refine Kd.C_alloc ?_ _) | (with_reducible refine Kd.C_drewN ?_ _) | (with_reducible refine Kd.C_drew ?_) | exact HR108.out)) hb); have n2_ := Aside0.mk (below_step (by repeat (first | (with_reducible first | exact HB.out | apply below_alloc | apply pw_below_drewN | apply below_drew1) | exact HB.out)) hb); clear HO110; clear HR114; clear HR108; clear HB; have HO110 := n0_; have HR114 := n1_; have HR108 := n9_; have HB := n2_; clear n0_ n1_ n2_ n9_; (try clear hb); (try clear hb2); (try clear hk); (try clear hi)) | ((with_reducible refine gate_callee (f := 77) rfl ?_); refine goesL_ (some 27) rfl rfl Try.func77 (by kernel_rfl) rfl #[.slice A0 l0.length c0] rfl (by (try simp only [List.map_toArray, List.map_cons, List.map_nil]); first | done | rfl | (simp only [List.length_drop, List.length_take]; rfl)) ?_; (with_reducible refine (furlongref01_Sum.calls k _ _ l0 t117 t118 _ ?side1 ?side2 A9.out).mono ?_); (case side1 => repeat (first | exact (Kd.C_below HR0.out HB.out) | (with_reducible refine Kd.C_alloc ?_ _) | (with_reducible refine Kd.C_drewN ?_ _) | (with_reducible refine Kd.C_drew ?_))); (case side2 => exact HC0.out); rintro e w18 ⟨rfl, hb⟩; refine ⟨_, rfl, ?_⟩; have n0_ := Aside0.mk (Kd.R_below (by (with_reducible repeat (first | apply Kd.R_alloc | apply Kd.R_drewN | apply Kd.R_drew)); exact HO110.out) hb); have n1_ := Aside0.mk (Kd.C_below (by repeat (first | (with_reducible exact HR114.out) | (with_reducible refine Kd.C_alloc ?_ _) | (with_reducible refine Kd.C_drewN ?_ _) | (with_reducible refine Kd.C_drew ?_) | exact HR114.out)) hb); have n9_ := Aside0.mk (Kd.C_below (by repeat (first | (with_reducible exact HR108.out) | (with_reducible refine Kd.C_alloc ?_ _) | (with_reducible refine Kd.C_drewN ?_ _) | (with_reducible refine Kd.C_drew ?_) | exact HR108.out)) hb); have n2_ := Aside0.mk (below_step (by repeat (first | (with_reducible first | exact HB.out | apply below_alloc | apply pw_below_drewN | apply below_drew1) | exact HB.out)) hb); clear HO110; clear HR114; clear HR108; clear HB; have HO110 := n0_; have HR114 := n1_; have HR108 := n9_; have HB := n2_; clear n0_ n1_ n2_ n9_; (try clear hb); (try clear hb2); (try clear hk); (try clear hi)))
            go_loopg [32] k (fun kq v32 w' => ∃ (x32_1 : Int), v32 = .int .i64 x32_1 ∧ Aside0 (furlonglaw01_NumSums.l0 kq l0 y111 y108 t115 t116 t117 t118 l0 (l0.length : Int) x32_1 = some r) ∧ Aside0 (kq ≤ k) ∧ Aside0 (Kd.C (Kd.int .i64) w' Ao16 y111.length y111) ∧ Aside0 (Kd.C (Kd.int .i64) w' Ao16 y108.length y108) ∧ Aside0 (Below w.heap.size w w'))
            case atStart => exact ⟨(0), (by first | rfl | (simp; done) | (simp [*]; done)), H', ⟨Nat.le_refl _⟩, ⟨by repeat (first | (with_reducible exact HR114.out) | (with_reducible refine Kd.C_alloc ?_ _) | (with_reducible refine Kd.C_drewN ?_ _) | (with_reducible refine Kd.C_drew ?_) | exact HR114.out)⟩, ⟨by repeat (first | (with_reducible exact HR108.out) | (with_reducible refine Kd.C_alloc ?_ _) | (with_reducible refine Kd.C_drewN ?_ _) | (with_reducible refine Kd.C_drew ?_) | exact HR108.out)⟩, ⟨by repeat (first | (with_reducible first | exact HB.out | apply below_alloc | apply pw_below_drewN | apply below_drew1) | exact HB.out)⟩⟩
            case round =>
              clear H'
              try clear q1
              try clear c2
              try clear p2
              try clear c3
              try clear c4
              try clear c5
              try clear c6
              try clear c6b0
              try clear c6b1
              try clear c7
              try clear c7b0
              try clear c7b1
              try clear q15
              try clear q15
              obtain ⟨x32_1, rfl, HA, HK1, HR114, HR108, HB⟩ := hrel
              cases gk with
              | zero => exact absurd HA.out (by simp [furlonglaw01_NumSums.l0])
              | succ k1 =>
                have H := HA.out
                clear HA
                simp only [furlonglaw01_NumSums.l0] at H
                by_cases c19 : x32_1 < (l0.length : Int)
                · rw [if_pos c19] at H
                  have c19b0 : decide (x32_1 < (l0.length : Int)) = true := decide_eq_true c19
                  clear c19
                  by_cases c20 : 0 ≤ x32_1
                  · rw [if_pos c20] at H
                    have c20b0 : decide (0 ≤ x32_1) = true := decide_eq_true c20
                    clear c20
                    by_cases c21 : x32_1 < (l0.length : Int)
                    · rw [if_pos c21] at H
                      have c21b0 : decide (x32_1 < (l0.length : Int)) = true := decide_eq_true c21
                      clear c21
                      by_cases c22 : x32_1 < (y111.length : Int)
                      · rw [if_pos c22] at H
                        have c22b0 : decide (x32_1 < (y111.length : Int)) = true := decide_eq_true c22
                        clear c22
                        by_cases c23 : (rd y111 x32_1) = (rd l0 x32_1)
                        · rw [if_pos c23] at H
                          have c23b0 : ((rd y111 x32_1) == (rd l0 x32_1)) = true := beq_iff_eq.mpr c23
                          have c23b1 : ((rd y111 x32_1) != (rd l0 x32_1)) = false := bne_eq_false_iff_eq.mpr c23
                          clear c23
                          have H' := Aside0.mk H
                          clear H
                          have p119 : 0 ≤ (x32_1 : Int) := of_decide_eq_true (by first | (with_reducible assumption) | assumption)
                          have q119 : x32_1 < (l0.length : Int) := of_decide_eq_true (by first | (with_reducible assumption) | assumption)
                          obtain ⟨ad119, e119, hx119_0⟩ := Kd.at_int HR0.out x32_1 p119 q119
                          cases e119
                          (try (replace hx119_0 := (HB.out.cell (World.block_lt_of_cell? w _ hx119_0)).trans hx119_0))
                          replace p119 := eq_true p119
                          replace q119 := eq_true q119
                          have p120 : 0 ≤ (x32_1 : Int) := of_decide_eq_true (by first | (with_reducible assumption) | assumption)
                          have q120 : x32_1 < (y111.length : Int) := of_decide_eq_true (by first | (with_reducible assumption) | assumption)
                          obtain ⟨ad120, e120, hx120_0⟩ := Kd.at_int HR114.out x32_1 p120 q120
                          cases e120
                          (try (replace hx120_0 := (HB.out.cell (World.block_lt_of_cell? w _ hx120_0)).trans hx120_0))
                          replace p120 := eq_true p120
                          replace q120 := eq_true q120
                          go_wp2
                          go_roundg k1
                          case measure => have := HK1.out; omega
                          case rel => exact ⟨(wrap64 (x32_1 + 1)), (by first | rfl | (simp; done) | (simp [*]; done)), H', ⟨by have := HK1.out; omega⟩, ⟨by repeat (first | (with_reducible exact HR114.out) | (with_reducible refine Kd.C_alloc ?_ _) | (with_reducible refine Kd.C_drewN ?_ _) | (with_reducible refine Kd.C_drew ?_) | exact HR114.out)⟩, ⟨by repeat (first | (with_reducible exact HR108.out) | (with_reducible refine Kd.C_alloc ?_ _) | (with_reducible refine Kd.C_drewN ?_ _) | (with_reducible refine Kd.C_drew ?_) | exact HR108.out)⟩, ⟨by repeat (first | (with_reducible first | exact HB.out | apply below_alloc | apply pw_below_drewN | apply below_drew1) | exact HB.out)⟩⟩
                        · rw [if_neg c23] at H
                          have c23b0 : ((rd y111 x32_1) == (rd l0 x32_1)) = false := beq_eq_false_iff_ne.mpr c23
                          have c23b1 : ((rd y111 x32_1) != (rd l0 x32_1)) = true := bne_iff_ne.mpr c23
                          obtain rfl := Option.some.inj H
                          have p119 : 0 ≤ (x32_1 : Int) := of_decide_eq_true (by first | (with_reducible assumption) | assumption)
                          have q119 : x32_1 < (l0.length : Int) := of_decide_eq_true (by first | (with_reducible assumption) | assumption)
                          obtain ⟨ad119, e119, hx119_0⟩ := Kd.at_int HR0.out x32_1 p119 q119
                          cases e119
                          (try (replace hx119_0 := (HB.out.cell (World.block_lt_of_cell? w _ hx119_0)).trans hx119_0))
                          replace p119 := eq_true p119
                          replace q119 := eq_true q119
                          have p120 : 0 ≤ (x32_1 : Int) := of_decide_eq_true (by first | (with_reducible assumption) | assumption)
                          have q120 : x32_1 < (y111.length : Int) := of_decide_eq_true (by first | (with_reducible assumption) | assumption)
                          obtain ⟨ad120, e120, hx120_0⟩ := Kd.at_int HR114.out x32_1 p120 q120
                          cases e120
                          (try (replace hx120_0 := (HB.out.cell (World.block_lt_of_cell? w _ hx120_0)).trans hx120_0))
                          replace p120 := eq_true p120
                          replace q120 := eq_true q120
                          go_wp2
                          go_ret
                          exact ⟨by first | rfl | (simp [errW_none, errW_some] <;> rfl) | (simp [*, errW_none, errW_some] <;> rfl), by repeat (first | (with_reducible first | exact HB.out | apply below_alloc | apply pw_below_drewN | apply below_drew1) | exact HB.out)⟩
                      · rw [if_neg c22] at H
                        exact absurd H (by simp)
                    · rw [if_neg c21] at H
                      exact absurd H (by simp)
                  · rw [if_neg c20] at H
                    exact absurd H (by simp)
                · rw [if_neg c19] at H
                  have c19b0 : decide (x32_1 < (l0.length : Int)) = false := decide_eq_false c19
                  clear c19
                  by_cases c24 : t115 = t117
                  · rw [if_pos c24] at H
                    have c24b0 : (t115 == t117) = true := beq_iff_eq.mpr c24
                    have c24b1 : (t115 != t117) = false := bne_eq_false_iff_eq.mpr c24
                    clear c24
                    by_cases c25 : t116 = t118
                    · rw [if_pos c25] at H
                      have c25b0 : (t116 == t118) = true := beq_iff_eq.mpr c25
                      have c25b1 : (t116 != t118) = false := bne_eq_false_iff_eq.mpr c25
                      clear c25
                      obtain ⟨ji26, hji26⟩ : ∃ j_ : Int, (wrap64 ((l0.length : Int) + 1)) = j_ := ⟨_, rfl⟩
                      replace H : (if 0 ≤ (ji26) then (if (ji26) ≤ (y108.length : Int) then (if 0 ≤ (l0.length : Int) then (if (l0.length : Int) < ((y108.take ((ji26) : Int).toNat).length : Int) then (some ((rd (y108.take ((ji26) : Int).toNat) (l0.length : Int)) == 71)) else (none)) else (none)) else (none)) else (none)) = some r := by first | (rw [hji26] at H; exact H) | (simp only [hji26] at H ⊢; exact H)
                      have hji26w : (IntKind.i64.wrap ((l0.length : Int) + 1)) = ji26 := (i64_w _).trans hji26
                      by_cases c27 : 0 ≤ (ji26)
                      · rw [if_pos c27] at H
                        have c27b0 := eq_true c27
                        have c27b1 : decide (0 ≤ (ji26)) = true := decide_eq_true c27
                        clear c27
                        by_cases c28 : (ji26) ≤ (y108.length : Int)
                        · rw [if_pos c28] at H
                          have c28b0 := eq_true c28
                          obtain ⟨y121, Hy121⟩ : ∃ y_ : List Int, y_ = y108.take ((ji26) : Int).toNat := ⟨_, rfl⟩
                          rw [← Hy121] at H
                          have c28b1 : decide ((ji26) ≤ (y108.length : Int)) = true := decide_eq_true c28
                          clear c28
                          by_cases c29 : 0 ≤ (l0.length : Int)
                          · rw [if_pos c29] at H
                            have c29b0 : decide (0 ≤ (l0.length : Int)) = true := decide_eq_true c29
                            have c29b1 : decide (0 ≤ l0.length) = true := decide_eq_true (by omega)
                            clear c29
                            by_cases c30 : (l0.length : Int) < (y121.length : Int)
                            · rw [if_pos c30] at H
                              have c30b0 : decide ((l0.length : Int) < (y121.length : Int)) = true := decide_eq_true c30
                              have c30b1 : decide (l0.length < y121.length) = true := decide_eq_true (Int.ofNat_lt.mp c30)
                              clear c30
                              obtain rfl := Option.some.inj H
                              obtain ⟨i031, hi031, _, hsz31, _⟩ := info_parts info2
                              obtain ⟨hcut31, hA31, hC31⟩ := print_take_of (P := Try.prog) (Value.int .i64) 0 72 2 .i64 Try.underlying72 hi031 hsz31 Ao16 co16 y108 (ji26) (of_decide_eq_true (by first | (with_reducible assumption) | assumption)) (of_decide_eq_true (by first | (with_reducible assumption) | assumption)) HC108.out
                              clear hcut31
                              rw [← Hy121] at hA31 hC31
                              have le28 : ji26 ≤ (y108.length : Int) := of_decide_eq_true c28b1
                              have ge27 : 0 ≤ ji26 := of_decide_eq_true c27b1
                              have hcut31 := cut_room (P := Try.prog) 72 2 .i64 Try.underlying72 hi031 Ao16 y111.length co16 y121.length ji26 ge27 (by have := HC108.out; omega) (by rw [Hy121, List.length_take]; omega)
                              clear le28 ge27
                              have Ny121 := Aside0.mk Hy121; clear Hy121
                              have HR121 := Aside0.mk (Kd.C_of_reads (h1 := fun _ => rfl) (hA31 _ (Kd.reads_of_C HR108.out)))
                              have HC121 := Aside0.mk hC31
                              clear hA31 hC31 hi031 hsz31
                              have p122 : 0 ≤ ((l0.length : Int) : Int) := of_decide_eq_true (by first | (with_reducible assumption) | assumption)
                              have q122 : (l0.length : Int) < (y121.length : Int) := of_decide_eq_true (by first | (with_reducible assumption) | assumption)
                              obtain ⟨ad122, e122, hx122_0⟩ := Kd.at_int HR121.out (l0.length : Int) p122 q122
                              cases e122
                              (try (replace hx122_0 := (HB.out.cell (World.block_lt_of_cell? w _ hx122_0)).trans hx122_0))
                              (try simp only [Go.IntWalk.toNatUp] at hx122_0)
                              replace p122 := eq_true p122
                              replace q122 := eq_true q122
                              go_wp2
                              go_ret
                              exact ⟨by first | rfl | (simp [errW_none, errW_some] <;> rfl) | (simp only [← hji26]; first | rfl | (simp [errW_none, errW_some] <;> rfl)) | (simp [*, errW_none, errW_some] <;> rfl), by repeat (first | (with_reducible first | exact HB.out | apply below_alloc | apply pw_below_drewN | apply below_drew1) | exact HB.out)⟩
                            · rw [if_neg c30] at H
                              exact absurd H (by simp)
                          · rw [if_neg c29] at H
                            exact absurd H (by simp)
                        · rw [if_neg c28] at H
                          exact absurd H (by simp)
                      · rw [if_neg c27] at H
                        exact absurd H (by simp)
                    · rw [if_neg c25] at H
                      have c25b0 : (t116 == t118) = false := beq_eq_false_iff_ne.mpr c25
                      have c25b1 : (t116 != t118) = true := bne_iff_ne.mpr c25
                      obtain rfl := Option.some.inj H
                      go_wp2
                      go_ret
                      exact ⟨by first | rfl | (simp [errW_none, errW_some] <;> rfl) | (simp [*, errW_none, errW_some] <;> rfl), by repeat (first | (with_reducible first | exact HB.out | apply below_alloc | apply pw_below_drewN | apply below_drew1) | exact HB.out)⟩
                  · rw [if_neg c24] at H
                    have c24b0 : (t115 == t117) = false := beq_eq_false_iff_ne.mpr c24
                    have c24b1 : (t115 != t117) = true := bne_iff_ne.mpr c24
                    obtain rfl := Option.some.inj H
                    go_wp2
                    go_ret
                    exact ⟨by first | rfl | (simp [errW_none, errW_some] <;> rfl) | (simp [*, errW_none, errW_some] <;> rfl), by repeat (first | (with_reducible first | exact HB.out | apply below_alloc | apply pw_below_drewN | apply below_drew1) | exact HB.out)⟩
          · rw [if_neg c7] at H
            exact absurd H (by simp)
        · rw [if_neg c6] at H
          exact absurd H (by simp)
      · rw [if_neg c5] at H
        exact absurd H (by simp)
    · rw [if_neg c4] at H
      exact absurd H (by simp)
  · replace c3 := Bool.eq_false_iff.mpr c3
    subst c3
    have H1 : (some false) = some r := by rw [if_neg (show ¬ (false = true) by decide)] at H; exact H
    clear H
    have H := H1
    clear H1
    obtain rfl := Option.some.inj H
    go_enter Try.func29, Try.ntmps29
    go_wp2_with (first | ((with_reducible refine gate_callee (f := 55) rfl ?_); refine goesL_ (some 10) rfl rfl Try.func55 (by kernel_rfl) rfl #[] rfl (by (try simp only [List.map_toArray, List.map_cons, List.map_nil]); first | done | rfl | (simp only [List.length_drop, List.length_take]; rfl)) ?_; (with_reducible refine (furlonglaw01_awake.calls k  false _ A2.out).mono ?_); rintro e w32 ⟨rfl, hb⟩; refine ⟨_, rfl, ?_⟩; have n0_ := Aside0.mk (below_step (by repeat (first | (with_reducible first | exact HB.out | apply below_alloc | apply pw_below_drewN | apply below_drew1) | exact HB.out)) hb); clear HB; have HB := n0_; clear n0_; (try clear hb); (try clear hb2); (try clear hk); (try clear hi)))
    go_ret
    exact ⟨by first | rfl | (simp [errW_none, errW_some] <;> rfl) | (simp [*, errW_none, errW_some] <;> rfl), by repeat (first | (with_reducible first | exact HB.out | apply below_alloc | apply pw_below_drewN | apply below_drew1) | exact HB.out)⟩

/-- THE ONE PURE STATEMENT of furlonglaw01_NumSums: yours. -/
def furlonglaw01_NumSums.Pure : Prop := ∀ (l0 : List Int), l0.length ≤ maxLen → l0.length * 8 ≤ 140737488351232 → (∀ x ∈ l0, (Lit.int .i64 x).wf = true) → ∃ k, furlonglaw01_NumSums.f k l0 = some true
theorem furlonglaw01_NumSums.walk (P : furlonglaw01_NumSums.Pure) (a0 : Option Addr) (len0 cap0 : Nat) (z0 : List Int) (w : World) (w0 : (a0 = none ∧ len0 = 0 ∧ cap0 = 0 ∧ z0 = []) ∨ ∃ x, a0 = some x ∧ len0 ≤ cap0 ∧ cap0 ≤ maxLen ∧ z0.length = cap0 ∧ (∀ i, i < z0.length → w.cell? (x.add i) = some (.int .i64 (z0.getD i 0))) ∧ ∀ n ∈ z0, (Lit.int .i64 n).wf = true) (y0 : len0 * 8 ≤ 140737488351232) :
    Calls Try.prog 29 #[.slice a0 len0 cap0] w fun e w' => e = .returned (.bool true) ∧ Below w.heap.size w w' := by
  obtain ⟨l0, rfl, hr0, hm0, hw0, hc0⟩ := ReadsInt.ofRowC w0
  obtain ⟨k, h⟩ := P l0 hm0 y0 hw0
  refine (furlonglaw01_NumSums.calls k _ _ l0 true w (Kd.C_of_reads (d := (0 : Int)) (h1 := fun _ => rfl) hr0) hc0 h).mono ?_
  rintro e w' ⟨rfl, hd⟩
  exact ⟨rfl, hd⟩

end Go.Proofs.Ytkbcjagkacijnaa.PSums
