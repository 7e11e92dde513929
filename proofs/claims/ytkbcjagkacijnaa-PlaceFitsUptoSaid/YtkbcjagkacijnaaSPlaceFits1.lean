/- What the law PlaceFits needs of the seat's contracts and plain laws, several texts one behind the other; no conditions. -/
import Derived.Test.YtkbcjagkacijnaaSPlaceFits0
import Derived.Test.YtkbcjagkacijnaaWMore
import Derived.Test.YtkbcjagkacijnaaWNEv
import Derived.Test.YtkbcjagkacijnaaRows
import Derived.ProofKit
import Derived.OpenShut
section
-- Written for this claim by this project's own driver over the kit's print: functions and their contracts.
-- findfix
namespace Go.Proofs.Ytkbcjagkacijnaa.PPl
open Go.RowKit Go.Proofs.YtkbcjagkacijnaaW.PrintWords Go.Proofs.YtkbcjagkacijnaaW.PrintLast Go.Proofs.YtkbcjagkacijnaaW.PrintMore
attribute [local go_sem] max2_int min2_int max_two min_two max_three min_three max_four min_four   -- for this text's walks alone
set_option linter.unusedVariables false
set_option linter.unusedSimpArgs false

def furlonglaw07_awake.f (k : Nat)  : Option (Bool) := (place_Find.f (([(⟨1, 4, 9, 0, 0⟩ : S46), (⟨2, 2, 9, 0, 0⟩ : S46)] : List (S46))) (([(⟨5, 0, 1, (([0, 2] : List Int)), 0, 0, 0, false⟩ : S50)] : List (S50))) 2 3).bind fun bt112 => (if bt112.1 = 1 then (if bt112.2.2 = 0 then ((furlongref01_Ints.f k bt112.2.1 (([1, 3] : List Int))).bind fun t120 => (some t120)) else (some false)) else (some false))
theorem furlonglaw07_awake.mono : ∀ k, LeO (furlonglaw07_awake.f k ) (furlonglaw07_awake.f (k + 1) ) := by
  intro  k
  unfold furlonglaw07_awake.f
  repeat' first
      | (with_reducible exact furlongref01_Ints.mono _ _ _)
      | (with_reducible exact LeO.refl _)
      | (with_reducible exact LeO.none _)
      | (with_reducible refine LeO.ite ?_ ?_)
      | (with_reducible refine LeO.bind ?_ (fun _ => ?_))
      | exact furlongref01_Ints.mono _ _ _
      | exact LeO.none _
      | refine LeO.ite ?_ ?_
      | refine LeO.bind ?_ (fun _ => ?_)
set_option maxHeartbeats 8000000 in
set_option maxRecDepth 100000 in
theorem furlonglaw07_awake.calls (k : Nat)  (r : Bool) (w : World) (h : furlonglaw07_awake.f k  = some r) :
  Calls Try.prog 31 #[] w fun e w' => e = .returned (.bool r) ∧ Below w.heap.size w w' := by
 have hu46 := Try.underlying46
 have hu50 := Try.underlying50
 have hu25 := Try.underlying25
 have HB := Aside0.mk (Below.refl w.heap.size w)
 have H : ((place_Find.f (([(⟨1, 4, 9, 0, 0⟩ : S46), (⟨2, 2, 9, 0, 0⟩ : S46)] : List (S46))) (([(⟨5, 0, 1, (([0, 2] : List Int)), 0, 0, 0, false⟩ : S50)] : List (S50))) 2 3).bind fun bt112 => (if bt112.1 = 1 then (if bt112.2.2 = 0 then ((furlongref01_Ints.f k bt112.2.1 (([1, 3] : List Int))).bind fun t120 => (some t120)) else (some false)) else (some false))) = some r := h
 clear h
 obtain ⟨y103, hy103⟩ : ∃ y_ : List (S46), y_ = (([(⟨1, 4, 9, 0, 0⟩ : S46), (⟨2, 2, 9, 0, 0⟩ : S46)] : List (S46))) := ⟨_, rfl⟩
 replace H : ((place_Find.f y103 (([(⟨5, 0, 1, (([0, 2] : List Int)), 0, 0, 0, false⟩ : S50)] : List (S50))) 2 3).bind fun bt112 => (if bt112.1 = 1 then (if bt112.2.2 = 0 then ((furlongref01_Ints.f k bt112.2.1 (([1, 3] : List Int))).bind fun t120 => (some t120)) else (some false)) else (some false))) = some r := by first | (rw [hy103]; with_reducible exact H) | (have H2_ := (Option.bind_some _ _).symm.trans H; rw [hy103]; with_reducible exact H2_) | (have H2_ := (Option.bind_some _ _).symm.trans H; with_reducible exact H2_) | with_reducible exact H | (rw [hy103]; exact H) | exact H
 have Ny103 := Aside0.mk hy103
 clear hy103
 obtain ⟨y106, hy106⟩ : ∃ y_ : List Int, y_ = (([0, 2] : List Int)) := ⟨_, rfl⟩
 replace H : ((place_Find.f y103 (([(⟨5, 0, 1, y106, 0, 0, 0, false⟩ : S50)] : List (S50))) 2 3).bind fun bt112 => (if bt112.1 = 1 then (if bt112.2.2 = 0 then ((furlongref01_Ints.f k bt112.2.1 (([1, 3] : List Int))).bind fun t120 => (some t120)) else (some false)) else (some false))) = some r := by first | (rw [hy106]; with_reducible exact H) | (have H2_ := (Option.bind_some _ _).symm.trans H; rw [hy106]; with_reducible exact H2_) | (have H2_ := (Option.bind_some _ _).symm.trans H; with_reducible exact H2_) | with_reducible exact H | (rw [hy106]; exact H) | exact H
 have Ny106 := Aside0.mk hy106
 clear hy106
 obtain ⟨y109, hy109⟩ : ∃ y_ : List (S50), y_ = (([(⟨5, 0, 1, y106, 0, 0, 0, false⟩ : S50)] : List (S50))) := ⟨_, rfl⟩
 replace H : ((place_Find.f y103 y109 2 3).bind fun bt112 => (if bt112.1 = 1 then (if bt112.2.2 = 0 then ((furlongref01_Ints.f k bt112.2.1 (([1, 3] : List Int))).bind fun t120 => (some t120)) else (some false)) else (some false))) = some r := by first | (rw [hy109]; with_reducible exact H) | (have H2_ := (Option.bind_some _ _).symm.trans H; rw [hy109]; with_reducible exact H2_) | (have H2_ := (Option.bind_some _ _).symm.trans H; with_reducible exact H2_) | with_reducible exact H | (rw [hy109]; exact H) | exact H
 have Ny109 := Aside0.mk hy109
 clear hy109
 replace H := Option.bind_eq_some_iff.mp H
 obtain ⟨⟨t112, t113, t116⟩, A10, H⟩ := H
 replace H : (if t112 = 1 then (if t116 = 0 then ((furlongref01_Ints.f k t113 (([1, 3] : List Int))).bind fun t120 => (some t120)) else (some false)) else (some false)) = some r := H
 have A1 := Aside0.mk A10
 clear A10
 by_cases c2 : t112 = 1
 ·
  rw [if_pos c2] at H
  have c2b0 : (t112 == 1) = true := beq_iff_eq.mpr c2
  have c2b1 : (t112 != 1) = false := bne_eq_false_iff_eq.mpr c2
  clear c2
  by_cases c3 : t116 = 0
  ·
   rw [if_pos c3] at H
   have c3b0 : (t116 == 0) = true := beq_iff_eq.mpr c3
   have c3b1 : (t116 != 0) = false := bne_eq_false_iff_eq.mpr c3
   clear c3
   obtain ⟨y117, hy117⟩ : ∃ y_ : List Int, y_ = (([1, 3] : List Int)) := ⟨_, rfl⟩
   replace H : ((furlongref01_Ints.f k t113 y117).bind fun t120 => (some t120)) = some r := by first | (rw [hy117]; with_reducible exact H) | (have H2_ := (Option.bind_some _ _).symm.trans H; rw [hy117]; with_reducible exact H2_) | (have H2_ := (Option.bind_some _ _).symm.trans H; with_reducible exact H2_) | with_reducible exact H | (rw [hy117]; exact H) | exact H
   have Ny117 := Aside0.mk hy117
   clear hy117
   replace H := Option.bind_eq_some_iff.mp H
   obtain ⟨t120, A40, H⟩ := H
   replace H : (some t120) = some r := H
   have A4 := Aside0.mk A40
   clear A40
   obtain rfl := Option.some.inj H
   go_enter Try.func31, Try.ntmps31
   go_wp2_with (first | ((with_reducible refine gate_dst (N := 7) rfl ?_); (try (refine gate_guard (by rfl) ?_; dsimp only)); refine Kd.R_lit k46 _ 46 ?hg (N := 7) ?hd (xs := ([(⟨1, 4, 9, 0, 0⟩ : S46), (⟨2, 2, 9, 0, 0⟩ : S46)] : List (S46))) (inner := [.int .i64 1, .int .i64 4, .int .i64 9, .int .i64 0, .int .i64 0, .int .i64 2, .int .i64 2, .int .i64 9, .int .i64 0, .int .i64 0]) (ok := fun _ => True) (okp := fun _ => True) ?hr ?hp (fun _ hk => hk) trivial (Below.refl _ _) (Nat.le_refl _) (by simp) ?_; (case hd => rfl); (case hg => rfl); (case hr => first | (go_simp; done) | (go_simp; rfl)); (case hp => exact (Reps.c5 (show Kd.M k46 _ _ _ (⟨1, 4, 9, 0, 0⟩ : S46) [.int .i64 1, .int .i64 4, .int .i64 9, .int .i64 0, .int .i64 0] from (k46_mkM _ _ _ (⟨1, 4, 9, 0, 0⟩ : S46) )) (Reps.c5 (show Kd.M k46 _ _ _ (⟨2, 2, 9, 0, 0⟩ : S46) [.int .i64 2, .int .i64 2, .int .i64 9, .int .i64 0, .int .i64 0] from (k46_mkM _ _ _ (⟨2, 2, 9, 0, 0⟩ : S46) )) (Reps.none _ _)))); intro v104 w5 ho6 hb hg_ hnew_; clear hg_ hnew_; (first | rw [← Ny103.out] at ho6 | (simp only [Int.reduceToNat] at ho6; rw [← Ny103.out] at ho6)); have n0_ := Aside0.mk (Kd.R_lower ho6 (below_size (by repeat (first | (with_reducible first | exact HB.out | apply below_alloc | apply pw_below_drewN | apply below_drew1) | exact HB.out)))); have n1_ := Aside0.mk (below_step (by repeat (first | (with_reducible first | exact HB.out | apply below_alloc | apply pw_below_drewN | apply below_drew1) | exact HB.out)) hb); clear HB; have HO105 := n0_; have HB := n1_; clear n0_ n1_; clear hb ho6) | ((with_reducible refine gate_dst (N := 10) rfl ?_); (try (refine gate_guard (by rfl) ?_; dsimp only)); refine Kd.R_lit (Kd.int .i64) _ 3 ?hg (N := 10) ?hd (xs := ([0, 2] : List Int)) (inner := [.int .i64 0, .int .i64 2]) (ok := fun _ => True) (okp := fun _ => True) ?hr ?hp (fun _ hk => hk) trivial (Below.refl _ _) (Nat.le_refl _) (by simp) ?_; (case hd => rfl); (case hg => rfl); (case hr => first | (go_simp; done) | (go_simp; rfl)); (case hp => exact (Reps.one (show Kd.M (Kd.int .i64) _ _ _ 0 [.int .i64 0] from rfl) (Reps.one (show Kd.M (Kd.int .i64) _ _ _ 2 [.int .i64 2] from rfl) (Reps.none _ _)))); intro v107 w7 ho8 hb hg_ hnew_; clear hg_ hnew_; (first | rw [← Ny106.out] at ho8 | (simp only [Int.reduceToNat] at ho8; rw [← Ny106.out] at ho8)); have n0_ := Aside0.mk (Kd.R_below (by (with_reducible repeat (first | apply Kd.R_alloc | apply Kd.R_drewN | apply Kd.R_drew)); exact HO105.out) hb); have n1_ := Aside0.mk (Kd.R_lower ho8 (below_size (by repeat (first | (with_reducible first | exact HB.out | apply below_alloc | apply pw_below_drewN | apply below_drew1) | exact HB.out)))); have n2_ := Aside0.mk (below_step (by repeat (first | (with_reducible first | exact HB.out | apply below_alloc | apply pw_below_drewN | apply below_drew1) | exact HB.out)) hb); clear HO105; clear HB; have HO105 := n0_; have HO108 := n1_; have HB := n2_; clear n0_ n1_ n2_; clear hb ho8; obtain ⟨Ao9, co9, eo9⟩ := Kd.R_slice HO108.out; subst eo9) | ((with_reducible refine gate_dst (N := 12) rfl ?_); (try (refine gate_guard (by rfl) ?_; dsimp only)); refine Kd.N_lit k50 _ 50 ?hg (N' := 12) ?hd (xs := ([(⟨5, 0, 1, y106, 0, 0, 0, false⟩ : S50)] : List (S50))) (inner := [.int .i64 5, .int .i64 0, .int .i64 1, .slice Ao9 y106.length co9, .int .i64 0, .int .i64 0, .int .i64 0, .bool false]) (ok := (fun k_ => some k_ ≠ (v104 : Value).ownBlock)) (okp := (fun k_ => some k_ ≠ (v104 : Value).ownBlock)) ?hr ?hp (fun _ hk => hk) ((show ∀ k_, w7.heap.size ≤ k_ → (fun k_ => some k_ ≠ (v104 : Value).ownBlock) k_ from fun k_ hk => Kd.fresh' (Kd.R_lt (by (with_reducible repeat (first | apply Kd.R_alloc | apply Kd.R_drewN | apply Kd.R_drew)); exact HO105.out)) k_ hk) _ (Nat.le_refl _)) (Below.refl _ _) (Nat.le_refl _) (by simp) ?_; (case hd => rfl); (case hg => rfl); (case hr => first | (go_simp; done) | (go_simp; rfl)); (case hp => exact (Reps.c8 (show Kd.FK k50 _ _ (⟨5, 0, 1, y106, 0, 0, 0, false⟩ : S50) [.int .i64 5, .int .i64 0, .int .i64 1, .slice Ao9 y106.length co9, .int .i64 0, .int .i64 0, .int .i64 0, .bool false] from (k50_mkF _ _ (⟨5, 0, 1, y106, 0, 0, 0, false⟩ : S50) (Kd.R_reads' (Kd.R_mono (ok' := (fun k_ => some k_ ≠ (v104 : Value).ownBlock)) (Kd.R_apart' (HO108.out) (Kd.R_typed HO105.out) (by decide)) (fun k_ hk => hk.2))).2.1 (Kd.R_F (Kd.R_mono (ok' := (fun k_ => some k_ ≠ (v104 : Value).ownBlock)) (Kd.R_apart' (HO108.out) (Kd.R_typed HO105.out) (by decide)) (fun k_ hk => hk.2))))) (Reps.none _ _))); intro v110 w10 ho11 hb hg_ hnew_; clear hg_ hnew_; (first | rw [← Ny109.out] at ho11 | (simp only [Int.reduceToNat] at ho11; rw [← Ny109.out] at ho11)); have n0_ := Aside0.mk (Kd.R_below (by (with_reducible repeat (first | apply Kd.R_alloc | apply Kd.R_drewN | apply Kd.R_drew)); exact HO105.out) hb); have n1_ := Aside0.mk (Kd.N_lower ho11 (below_size (by repeat (first | (with_reducible first | exact HB.out | apply below_alloc | apply pw_below_drewN | apply below_drew1) | exact HB.out)))); have n2_ := Aside0.mk (below_step (by repeat (first | (with_reducible first | exact HB.out | apply below_alloc | apply pw_below_drewN | apply below_drew1) | exact HB.out)) hb); clear HO105; clear HB; clear HO108; have HO105 := n0_; have HO111 := n1_; have HB := n2_; clear n0_ n1_ n2_; clear hb ho11; obtain ⟨Ao12, co12, eo12⟩ := Kd.R_slice HO105.out; subst eo12; obtain ⟨Ao13, co13, eo13⟩ := Kd.N_slice HO111.out; subst eo13) | ((with_reducible refine gate_callee (f := 33) rfl ?_); refine goesL_ (some 14) rfl rfl Try.func33 (by kernel_rfl) rfl #[.slice Ao12 y103.length co12, .slice Ao13 y109.length co13, .agg #[.int .i64 2, .int .i64 3]] rfl (by (try simp only [List.map_toArray, List.map_cons, List.map_nil]); first | done | rfl | (simp only [List.length_drop, List.length_take]; rfl)) ?_; (with_reducible refine (place_Find.calls _ _ y103 _ _ y109 2 3 t112 t113 t116 _ ?side1 ?side2 ?side3 ?side4 A1.out).mono ?_); (case side1 => repeat (first | exact (Kd.R_reads' HO105.out).2.2 | (with_reducible refine Kd.C_alloc ?_ _) | (with_reducible refine Kd.C_drewN ?_ _) | (with_reducible refine Kd.C_drew ?_))); (case side2 => exact (Kd.R_reads' HO105.out).2.1); (case side3 => repeat (first | exact (Kd.N_reads' HO111.out).2.2 | (with_reducible refine Kd.C_alloc ?_ _) | (with_reducible refine Kd.C_drewN ?_ _) | (with_reducible refine Kd.C_drew ?_))); (case side4 => exact (Kd.N_reads' HO111.out).2.1); rintro e w14 ⟨AF, cF, rfl, ho0, hb⟩; refine ⟨_, rfl, ?_⟩; have n0_ := Aside0.mk (Kd.R_below (by (with_reducible repeat (first | apply Kd.R_alloc | apply Kd.R_drewN | apply Kd.R_drew)); exact HO105.out) hb); have n1_ := Aside0.mk (Kd.N_elder' (by (with_reducible repeat (first | apply Kd.N_alloc | apply Kd.N_drewN | apply Kd.N_drew)); exact HO111.out) (Kd.R_base ho0) hb); have n2_ := Aside0.mk (Kd.R_lower ho0 (below_size (by repeat (first | (with_reducible first | exact HB.out | apply below_alloc | apply pw_below_drewN | apply below_drew1) | exact HB.out)))); have n3_ := Aside0.mk (below_step (by repeat (first | (with_reducible first | exact HB.out | apply below_alloc | apply pw_below_drewN | apply below_drew1) | exact HB.out)) hb); clear HO105; clear HO111; clear HB; have HO105 := n0_; have HO111 := n1_; have HO115 := n2_; have HB := n3_; clear n0_ n1_ n2_ n3_; (try clear hb); (try clear hb2); (try clear hk); (try clear hi); (try clear ho0)) | ((with_reducible refine gate_dst (N := 26) rfl ?_); (try (refine gate_guard (by rfl) ?_; dsimp only)); refine Kd.R_lit (Kd.int .i64) _ 3 ?hg (N := 26) ?hd (xs := ([1, 3] : List Int)) (inner := [.int .i64 1, .int .i64 3]) (ok := fun _ => True) (okp := fun _ => True) ?hr ?hp (fun _ hk => hk) trivial (Below.refl _ _) (Nat.le_refl _) (by simp) ?_; (case hd => rfl); (case hg => rfl); (case hr => first | (go_simp; done) | (go_simp; rfl)); (case hp => exact (Reps.one (show Kd.M (Kd.int .i64) _ _ _ 1 [.int .i64 1] from rfl) (Reps.one (show Kd.M (Kd.int .i64) _ _ _ 3 [.int .i64 3] from rfl) (Reps.none _ _)))); intro v118 w15 ho16 hb hg_ hnew_; clear hg_ hnew_; (first | rw [← Ny117.out] at ho16 | (simp only [Int.reduceToNat] at ho16; rw [← Ny117.out] at ho16)); have n0_ := Aside0.mk (Kd.R_below (by (with_reducible repeat (first | apply Kd.R_alloc | apply Kd.R_drewN | apply Kd.R_drew)); exact HO105.out) hb); have n1_ := Aside0.mk (Kd.N_elder' (by (with_reducible repeat (first | apply Kd.N_alloc | apply Kd.N_drewN | apply Kd.N_drew)); exact HO111.out) (Kd.R_base ho16) hb); have n2_ := Aside0.mk (Kd.R_elder' (by (with_reducible repeat (first | apply Kd.R_alloc | apply Kd.R_drewN | apply Kd.R_drew)); exact HO115.out) (Kd.R_base ho16) hb); have n3_ := Aside0.mk (Kd.R_lower (Kd.R_new' ho16 (Kd.R_lt (by (with_reducible repeat (first | apply Kd.R_alloc | apply Kd.R_drewN | apply Kd.R_drew)); exact HO115.out))) (below_size (by repeat (first | (with_reducible first | exact HB.out | apply below_alloc | apply pw_below_drewN | apply below_drew1) | exact HB.out)))); have n4_ := Aside0.mk (below_step (by repeat (first | (with_reducible first | exact HB.out | apply below_alloc | apply pw_below_drewN | apply below_drew1) | exact HB.out)) hb); clear HO105; clear HO111; clear HO115; clear HB; have HO105 := n0_; have HO111 := n1_; have HO115 := n2_; have HO119 := n3_; have HB := n4_; clear n0_ n1_ n2_ n3_ n4_; clear hb ho16; skip; obtain ⟨Ao18, co18, eo18⟩ := Kd.R_slice HO119.out; subst eo18) | (go_at_call 35; (with_reducible refine (furlongref01_Ints.calls k _ _ t113 _ _ y117 t120 _ ?side1 ?side2 ?side3 ?side4 A4.out).mono ?_); (case side1 => repeat (first | exact (Kd.R_reads' HO115.out).2.2 | (with_reducible refine Kd.C_alloc ?_ _) | (with_reducible refine Kd.C_drewN ?_ _) | (with_reducible refine Kd.C_drew ?_))); (case side2 => first | exact Nat.le_refl _ | exact (Kd.R_reads' HO115.out).2.1); (case side3 => repeat (first | exact (Kd.R_reads' HO119.out).2.2 | (with_reducible refine Kd.C_alloc ?_ _) | (with_reducible refine Kd.C_drewN ?_ _) | (with_reducible refine Kd.C_drew ?_))); (case side4 => exact (Kd.R_reads' HO119.out).2.1); rintro e w' ⟨rfl, ⟨nd, rfl⟩⟩))
   go_ret
   exact ⟨by first | rfl | (simp [errW_none, errW_some] <;> rfl) | (simp [*, errW_none, errW_some] <;> rfl), by repeat (first | (with_reducible first | exact HB.out | apply below_alloc | apply pw_below_drewN | apply below_drew1) | exact HB.out)⟩
  ·
   rw [if_neg c3] at H
   have c3b0 : (t116 == 0) = false := beq_eq_false_iff_ne.mpr c3
   have c3b1 : (t116 != 0) = true := bne_iff_ne.mpr c3
   obtain rfl := Option.some.inj H
   go_enter Try.func31, Try.ntmps31
   go_wp2_with (first | ((with_reducible refine gate_dst (N := 7) rfl ?_); (try (refine gate_guard (by rfl) ?_; dsimp only)); refine Kd.R_lit k46 _ 46 ?hg (N := 7) ?hd (xs := ([(⟨1, 4, 9, 0, 0⟩ : S46), (⟨2, 2, 9, 0, 0⟩ : S46)] : List (S46))) (inner := [.int .i64 1, .int .i64 4, .int .i64 9, .int .i64 0, .int .i64 0, .int .i64 2, .int .i64 2, .int .i64 9, .int .i64 0, .int .i64 0]) (ok := fun _ => True) (okp := fun _ => True) ?hr ?hp (fun _ hk => hk) trivial (Below.refl _ _) (Nat.le_refl _) (by simp) ?_; (case hd => rfl); (case hg => rfl); (case hr => first | (go_simp; done) | (go_simp; rfl)); (case hp => exact (Reps.c5 (show Kd.M k46 _ _ _ (⟨1, 4, 9, 0, 0⟩ : S46) [.int .i64 1, .int .i64 4, .int .i64 9, .int .i64 0, .int .i64 0] from (k46_mkM _ _ _ (⟨1, 4, 9, 0, 0⟩ : S46) )) (Reps.c5 (show Kd.M k46 _ _ _ (⟨2, 2, 9, 0, 0⟩ : S46) [.int .i64 2, .int .i64 2, .int .i64 9, .int .i64 0, .int .i64 0] from (k46_mkM _ _ _ (⟨2, 2, 9, 0, 0⟩ : S46) )) (Reps.none _ _)))); intro v104 w19 ho20 hb hg_ hnew_; clear hg_ hnew_; (first | rw [← Ny103.out] at ho20 | (simp only [Int.reduceToNat] at ho20; rw [← Ny103.out] at ho20)); have n0_ := Aside0.mk (Kd.R_lower ho20 (below_size (by repeat (first | (with_reducible first | exact HB.out | apply below_alloc | apply pw_below_drewN | apply below_drew1) | exact HB.out)))); have n1_ := Aside0.mk (below_step (by repeat (first | (with_reducible first | exact HB.out | apply below_alloc | apply pw_below_drewN | apply below_drew1) | exact HB.out)) hb); clear HB; have HO105 := n0_; have HB := n1_; clear n0_ n1_; clear hb ho20) | ((with_reducible refine gate_dst (N := 10) rfl ?_); (try (refine gate_guard (by rfl) ?_; dsimp only)); refine Kd.R_lit (Kd.int .i64) _ 3 ?hg (N := 10) ?hd (xs := ([0, 2] : List Int)) (inner := [.int .i64 0, .int .i64 2]) (ok := fun _ => True) (okp := fun _ => True) ?hr ?hp (fun _ hk => hk) trivial (Below.refl _ _) (Nat.le_refl _) (by simp) ?_; (case hd => rfl); (case hg => rfl); (case hr => first | (go_simp; done) | (go_simp; rfl)); (case hp => exact (Reps.one (show Kd.M (Kd.int .i64) _ _ _ 0 [.int .i64 0] from rfl) (Reps.one (show Kd.M (Kd.int .i64) _ _ _ 2 [.int .i64 2] from rfl) (Reps.none _ _)))); intro v107 w21 ho22 hb hg_ hnew_; clear hg_ hnew_; (first | rw [← Ny106.out] at ho22 | (simp only [Int.reduceToNat] at ho22; rw [← Ny106.out] at ho22)); have n0_ := Aside0.mk (Kd.R_below (by (with_reducible repeat (first | apply Kd.R_alloc | apply Kd.R_drewN | apply Kd.R_drew)); exact HO105.out) hb); have n1_ := Aside0.mk (Kd.R_lower ho22 (below_size (by repeat (first | (with_reducible first | exact HB.out | apply below_alloc | apply pw_below_drewN | apply below_drew1) | exact HB.out)))); have n2_ := Aside0.mk (below_step (by repeat (first | (with_reducible first | exact HB.out | apply below_alloc | apply pw_below_drewN | apply below_drew1) | exact HB.out)) hb); clear HO105; clear HB; have HO105 := n0_; have HO108 := n1_; have HB := n2_; clear n0_ n1_ n2_; clear hb ho22; obtain ⟨Ao23, co23, eo23⟩ := Kd.R_slice HO108.out; subst eo23) | ((with_reducible refine gate_dst (N := 12) rfl ?_); (try (refine gate_guard (by rfl) ?_; dsimp only)); refine Kd.N_lit k50 _ 50 ?hg (N' := 12) ?hd (xs := ([(⟨5, 0, 1, y106, 0, 0, 0, false⟩ : S50)] : List (S50))) (inner := [.int .i64 5, .int .i64 0, .int .i64 1, .slice Ao23 y106.length co23, .int .i64 0, .int .i64 0, .int .i64 0, .bool false]) (ok := (fun k_ => some k_ ≠ (v104 : Value).ownBlock)) (okp := (fun k_ => some k_ ≠ (v104 : Value).ownBlock)) ?hr ?hp (fun _ hk => hk) ((show ∀ k_, w21.heap.size ≤ k_ → (fun k_ => some k_ ≠ (v104 : Value).ownBlock) k_ from fun k_ hk => Kd.fresh' (Kd.R_lt (by (with_reducible repeat (first | apply Kd.R_alloc | apply Kd.R_drewN | apply Kd.R_drew)); exact HO105.out)) k_ hk) _ (Nat.le_refl _)) (Below.refl _ _) (Nat.le_refl _) (by simp) ?_; (case hd => rfl); (case hg => rfl); (case hr => first | (go_simp; done) | (go_simp; rfl)); (case hp => exact (Reps.c8 (show Kd.FK k50 _ _ (⟨5, 0, 1, y106, 0, 0, 0, false⟩ : S50) [.int .i64 5, .int .i64 0, .int .i64 1, .slice Ao23 y106.length co23, .int .i64 0, .int .i64 0, .int .i64 0, .bool false] from (k50_mkF _ _ (⟨5, 0, 1, y106, 0, 0, 0, false⟩ : S50) (Kd.R_reads' (Kd.R_mono (ok' := (fun k_ => some k_ ≠ (v104 : Value).ownBlock)) (Kd.R_apart' (HO108.out) (Kd.R_typed HO105.out) (by decide)) (fun k_ hk => hk.2))).2.1 (Kd.R_F (Kd.R_mono (ok' := (fun k_ => some k_ ≠ (v104 : Value).ownBlock)) (Kd.R_apart' (HO108.out) (Kd.R_typed HO105.out) (by decide)) (fun k_ hk => hk.2))))) (Reps.none _ _))); intro v110 w24 ho25 hb hg_ hnew_; clear hg_ hnew_; (first | rw [← Ny109.out] at ho25 | (simp only [Int.reduceToNat] at ho25; rw [← Ny109.out] at ho25)); have n0_ := Aside0.mk (Kd.R_below (by (with_reducible repeat (first | apply Kd.R_alloc | apply Kd.R_drewN | apply Kd.R_drew)); exact HO105.out) hb); have n1_ := Aside0.mk (Kd.N_lower ho25 (below_size (by repeat (first | (with_reducible first | exact HB.out | apply below_alloc | apply pw_below_drewN | apply below_drew1) | exact HB.out)))); have n2_ := Aside0.mk (below_step (by repeat (first | (with_reducible first | exact HB.out | apply below_alloc | apply pw_below_drewN | apply below_drew1) | exact HB.out)) hb); clear HO105; clear HB; clear HO108; have HO105 := n0_; have HO111 := n1_; have HB := n2_; clear n0_ n1_ n2_; clear hb ho25; obtain ⟨Ao26, co26, eo26⟩ := Kd.R_slice HO105.out; subst eo26; obtain ⟨Ao27, co27, eo27⟩ := Kd.N_slice HO111.out; subst eo27) | ((with_reducible refine gate_callee (f := 33) rfl ?_); refine goesL_ (some 14) rfl rfl Try.func33 (by kernel_rfl) rfl #[.slice Ao26 y103.length co26, .slice Ao27 y109.length co27, .agg #[.int .i64 2, .int .i64 3]] rfl (by (try simp only [List.map_toArray, List.map_cons, List.map_nil]); first | done | rfl | (simp only [List.length_drop, List.length_take]; rfl)) ?_; (with_reducible refine (place_Find.calls _ _ y103 _ _ y109 2 3 t112 t113 t116 _ ?side1 ?side2 ?side3 ?side4 A1.out).mono ?_); (case side1 => repeat (first | exact (Kd.R_reads' HO105.out).2.2 | (with_reducible refine Kd.C_alloc ?_ _) | (with_reducible refine Kd.C_drewN ?_ _) | (with_reducible refine Kd.C_drew ?_))); (case side2 => exact (Kd.R_reads' HO105.out).2.1); (case side3 => repeat (first | exact (Kd.N_reads' HO111.out).2.2 | (with_reducible refine Kd.C_alloc ?_ _) | (with_reducible refine Kd.C_drewN ?_ _) | (with_reducible refine Kd.C_drew ?_))); (case side4 => exact (Kd.N_reads' HO111.out).2.1); rintro e w28 ⟨AF, cF, rfl, ho0, hb⟩; refine ⟨_, rfl, ?_⟩; have n0_ := Aside0.mk (Kd.R_below (by (with_reducible repeat (first | apply Kd.R_alloc | apply Kd.R_drewN | apply Kd.R_drew)); exact HO105.out) hb); have n1_ := Aside0.mk (Kd.N_elder' (by (with_reducible repeat (first | apply Kd.N_alloc | apply Kd.N_drewN | apply Kd.N_drew)); exact HO111.out) (Kd.R_base ho0) hb); have n2_ := Aside0.mk (Kd.R_lower ho0 (below_size (by repeat (first | (with_reducible first | exact HB.out | apply below_alloc | apply pw_below_drewN | apply below_drew1) | exact HB.out)))); have n3_ := Aside0.mk (below_step (by repeat (first | (with_reducible first | exact HB.out | apply below_alloc | apply pw_below_drewN | apply below_drew1) | exact HB.out)) hb); clear HO105; clear HO111; clear HB; have HO105 := n0_; have HO111 := n1_; have HO115 := n2_; have HB := n3_; clear n0_ n1_ n2_ n3_; (try clear hb); (try clear hb2); (try clear hk); (try clear hi); (try clear ho0)))
   go_ret
   exact ⟨by first | rfl | (simp [errW_none, errW_some] <;> rfl) | (simp [*, errW_none, errW_some] <;> rfl), by repeat (first | (with_reducible first | exact HB.out | apply below_alloc | apply pw_below_drewN | apply below_drew1) | exact HB.out)⟩
 ·
  rw [if_neg c2] at H
  have c2b0 : (t112 == 1) = false := beq_eq_false_iff_ne.mpr c2
  have c2b1 : (t112 != 1) = true := bne_iff_ne.mpr c2
  obtain rfl := Option.some.inj H
  go_enter Try.func31, Try.ntmps31
  go_wp2_with (first | ((with_reducible refine gate_dst (N := 7) rfl ?_); (try (refine gate_guard (by rfl) ?_; dsimp only)); refine Kd.R_lit k46 _ 46 ?hg (N := 7) ?hd (xs := ([(⟨1, 4, 9, 0, 0⟩ : S46), (⟨2, 2, 9, 0, 0⟩ : S46)] : List (S46))) (inner := [.int .i64 1, .int .i64 4, .int .i64 9, .int .i64 0, .int .i64 0, .int .i64 2, .int .i64 2, .int .i64 9, .int .i64 0, .int .i64 0]) (ok := fun _ => True) (okp := fun _ => True) ?hr ?hp (fun _ hk => hk) trivial (Below.refl _ _) (Nat.le_refl _) (by simp) ?_; (case hd => rfl); (case hg => rfl); (case hr => first | (go_simp; done) | (go_simp; rfl)); (case hp => exact (Reps.c5 (show Kd.M k46 _ _ _ (⟨1, 4, 9, 0, 0⟩ : S46) [.int .i64 1, .int .i64 4, .int .i64 9, .int .i64 0, .int .i64 0] from (k46_mkM _ _ _ (⟨1, 4, 9, 0, 0⟩ : S46) )) (Reps.c5 (show Kd.M k46 _ _ _ (⟨2, 2, 9, 0, 0⟩ : S46) [.int .i64 2, .int .i64 2, .int .i64 9, .int .i64 0, .int .i64 0] from (k46_mkM _ _ _ (⟨2, 2, 9, 0, 0⟩ : S46) )) (Reps.none _ _)))); intro v104 w29 ho30 hb hg_ hnew_; clear hg_ hnew_; (first | rw [← Ny103.out] at ho30 | (simp only [Int.reduceToNat] at ho30; rw [← Ny103.out] at ho30)); have n0_ := Aside0.mk (Kd.R_lower ho30 (below_size (by repeat (first | (with_reducible first | exact HB.out | apply below_alloc | apply pw_below_drewN | apply below_drew1) | exact HB.out)))); have n1_ := Aside0.mk (below_step (by repeat (first | (with_reducible first | exact HB.out | apply below_alloc | apply pw_below_drewN | apply below_drew1) | exact HB.out)) hb); clear HB; have HO105 := n0_; have HB := n1_; clear n0_ n1_; clear hb ho30) | ((with_reducible refine gate_dst (N := 10) rfl ?_); (try (refine gate_guard (by rfl) ?_; dsimp only)); refine Kd.R_lit (Kd.int .i64) _ 3 ?hg (N := 10) ?hd (xs := ([0, 2] : List Int)) (inner := [.int .i64 0, .int .i64 2]) (ok := fun _ => True) (okp := fun _ => True) ?hr ?hp (fun _ hk => hk) trivial (Below.refl _ _) (Nat.le_refl _) (by simp) ?_; (case hd => rfl); (case hg => rfl); (case hr => first | (go_simp; done) | (go_simp; rfl)); (case hp => exact (Reps.one (show Kd.M (Kd.int .i64) _ _ _ 0 [.int .i64 0] from rfl) (Reps.one (show Kd.M (Kd.int .i64) _ _ _ 2 [.int .i64 2] from rfl) (Reps.none _ _)))); intro v107 w31 ho32 hb hg_ hnew_; clear hg_ hnew_; (first | rw [← Ny106.out] at ho32 | (simp only [Int.reduceToNat] at ho32; rw [← Ny106.out] at ho32)); have n0_ := Aside0.mk (Kd.R_below (by (with_reducible repeat (first | apply Kd.R_alloc | apply Kd.R_drewN | apply Kd.R_drew)); exact HO105.out) hb); have n1_ := Aside0.mk (Kd.R_lower ho32 (below_size (by repeat (first | (with_reducible first | exact HB.out | apply below_alloc | apply pw_below_drewN | apply below_drew1) | exact HB.out)))); have n2_ := Aside0.mk (below_step (by repeat (first | (with_reducible first | exact HB.out | apply below_alloc | apply pw_below_drewN | apply below_drew1) | exact HB.out)) hb); clear HO105; clear HB; have HO105 := n0_; have HO108 := n1_; have HB := n2_; clear n0_ n1_ n2_; clear hb ho32; obtain ⟨Ao33, co33, eo33⟩ := Kd.R_slice HO108.out; subst eo33) | ((with_reducible refine gate_dst (N := 12) rfl ?_); (try (refine gate_guard (by rfl) ?_; dsimp only)); refine Kd.N_lit k50 _ 50 ?hg (N' := 12) ?hd (xs := ([(⟨5, 0, 1, y106, 0, 0, 0, false⟩ : S50)] : List (S50))) (inner := [.int .i64 5, .int .i64 0, .int .i64 1, .slice Ao33 y106.length co33, .int .i64 0, .int .i64 0, .int .i64 0, .bool false]) (ok := (fun k_ => some k_ ≠ (v104 : Value).ownBlock)) (okp := (fun k_ => some k_ ≠ (v104 : Value).ownBlock)) ?hr ?hp (fun _ hk => hk) ((show ∀ k_, w31.heap.size ≤ k_ → (fun k_ => some k_ ≠ (v104 : Value).ownBlock) k_ from fun k_ hk => Kd.fresh' (Kd.R_lt (by (with_reducible repeat (first | apply Kd.R_alloc | apply Kd.R_drewN | apply Kd.R_drew)); exact HO105.out)) k_ hk) _ (Nat.le_refl _)) (Below.refl _ _) (Nat.le_refl _) (by simp) ?_; (case hd => rfl); (case hg => rfl); (case hr => first | (go_simp; done) | (go_simp; rfl)); (case hp => exact (Reps.c8 (show Kd.FK k50 _ _ (⟨5, 0, 1, y106, 0, 0, 0, false⟩ : S50) [.int .i64 5, .int .i64 0, .int .i64 1, .slice Ao33 y106.length co33, .int .i64 0, .int .i64 0, .int .i64 0, .bool false] from (k50_mkF _ _ (⟨5, 0, 1, y106, 0, 0, 0, false⟩ : S50) (Kd.R_reads' (Kd.R_mono (ok' := (fun k_ => some k_ ≠ (v104 : Value).ownBlock)) (Kd.R_apart' (HO108.out) (Kd.R_typed HO105.out) (by decide)) (fun k_ hk => hk.2))).2.1 (Kd.R_F (Kd.R_mono (ok' := (fun k_ => some k_ ≠ (v104 : Value).ownBlock)) (Kd.R_apart' (HO108.out) (Kd.R_typed HO105.out) (by decide)) (fun k_ hk => hk.2))))) (Reps.none _ _))); intro v110 w34 ho35 hb hg_ hnew_; clear hg_ hnew_; (first | rw [← Ny109.out] at ho35 | (simp only [Int.reduceToNat] at ho35; rw [← Ny109.out] at ho35)); have n0_ := Aside0.mk (Kd.R_below (by (with_reducible repeat (first | apply Kd.R_alloc | apply Kd.R_drewN | apply Kd.R_drew)); exact HO105.out) hb); have n1_ := Aside0.mk (Kd.N_lower ho35 (below_size (by repeat (first | (with_reducible first | exact HB.out | apply below_alloc | apply pw_below_drewN | apply below_drew1) | exact HB.out)))); have n2_ := Aside0.mk (below_step (by repeat (first | (with_reducible first | exact HB.out | apply below_alloc | apply pw_below_drewN | apply below_drew1) | exact HB.out)) hb); clear HO105; clear HB; clear HO108; have HO105 := n0_; have HO111 := n1_; have HB := n2_; clear n0_ n1_ n2_; clear hb ho35; obtain ⟨Ao36, co36, eo36⟩ := Kd.R_slice HO105.out; subst eo36; obtain ⟨Ao37, co37, eo37⟩ := Kd.N_slice HO111.out; subst eo37) | ((with_reducible refine gate_callee (f := 33) rfl ?_); refine goesL_ (some 14) rfl rfl Try.func33 (by kernel_rfl) rfl #[.slice Ao36 y103.length co36, .slice Ao37 y109.length co37, .agg #[.int .i64 2, .int .i64 3]] rfl (by (try simp only [List.map_toArray, List.map_cons, List.map_nil]); first | done | rfl | (simp only [List.length_drop, List.length_take]; rfl)) ?_; (with_reducible refine (place_Find.calls _ _ y103 _ _ y109 2 3 t112 t113 t116 _ ?side1 ?side2 ?side3 ?side4 A1.out).mono ?_); (case side1 => repeat (first | exact (Kd.R_reads' HO105.out).2.2 | (with_reducible refine Kd.C_alloc ?_ _) | (with_reducible refine Kd.C_drewN ?_ _) | (with_reducible refine Kd.C_drew ?_))); (case side2 => exact (Kd.R_reads' HO105.out).2.1); (case side3 => repeat (first | exact (Kd.N_reads' HO111.out).2.2 | (with_reducible refine Kd.C_alloc ?_ _) | (with_reducible refine Kd.C_drewN ?_ _) | (with_reducible refine Kd.C_drew ?_))); (case side4 => exact (Kd.N_reads' HO111.out).2.1); rintro e w38 ⟨AF, cF, rfl, ho0, hb⟩; refine ⟨_, rfl, ?_⟩; have n0_ := Aside0.mk (Kd.R_below (by (with_reducible repeat (first | apply Kd.R_alloc | apply Kd.R_drewN | apply Kd.R_drew)); exact HO105.out) hb); have n1_ := Aside0.mk (Kd.N_elder' (by (with_reducible repeat (first | apply Kd.N_alloc | apply Kd.N_drewN | apply Kd.N_drew)); exact HO111.out) (Kd.R_base ho0) hb); have n2_ := Aside0.mk (Kd.R_lower ho0 (below_size (by repeat (first | (with_reducible first | exact HB.out | apply below_alloc | apply pw_below_drewN | apply below_drew1) | exact HB.out)))); have n3_ := Aside0.mk (below_step (by repeat (first | (with_reducible first | exact HB.out | apply below_alloc | apply pw_below_drewN | apply below_drew1) | exact HB.out)) hb); clear HO105; clear HO111; clear HB; have HO105 := n0_; have HO111 := n1_; have HO115 := n2_; have HB := n3_; clear n0_ n1_ n2_ n3_; (try clear hb); (try clear hb2); (try clear hk); (try clear hi); (try clear ho0)))
  go_ret
  exact ⟨by first | rfl | (simp [errW_none, errW_some] <;> rfl) | (simp [*, errW_none, errW_some] <;> rfl), by repeat (first | (with_reducible first | exact HB.out | apply below_alloc | apply pw_below_drewN | apply below_drew1) | exact HB.out)⟩

end Go.Proofs.Ytkbcjagkacijnaa.PPl
end
section
-- Written for this claim by this project's own driver over the kit's print: functions and their contracts.
-- findfix
namespace Go.Proofs.Ytkbcjagkacijnaa.PPl
open Go.RowKit Go.Proofs.YtkbcjagkacijnaaW.PrintWords Go.Proofs.YtkbcjagkacijnaaW.PrintLast Go.Proofs.YtkbcjagkacijnaaW.PrintMore
attribute [local go_sem] max2_int min2_int max_two min_two max_three min_three max_four min_four   -- for this text's walks alone
set_option linter.unusedVariables false
set_option linter.unusedSimpArgs false

mutual
def furlonglaw07_PlaceFits.j0 : Nat → List (S46) → List (S50) → Int → List Int → Int → Bool → Int → Int → Option (Bool)
  | 0, _, _, _, _, _, _, _, _ => none
  | k + 1, x0, x1, x7, x8, x9, x36, x204000, x204001 => if x36 = true then (if x7 = 0 then (some ((x8.length : Int) == 0)) else (some false)) else (furlonglaw07_PlaceFits.l0 k x0 x1 x7 x8 x9 (-1) x0 (x0.length : Int) 0 x204000 x204001)
def furlonglaw07_PlaceFits.l0 : Nat → List (S46) → List (S50) → Int → List Int → Int → Int → List (S46) → Int → Int → Int → Int → Option (Bool)
  | 0, _, _, _, _, _, _, _, _, _, _, _ => none
  | k + 1, x0, x1, x7, x8, x9, x10, x44, x45, x46, x204000, x204001 => if x46 < x45 then (if 0 ≤ x46 then (if x46 < (x44.length : Int) then ((place_Free.f x0 x1 ((rd_T46 x44 x46).f0)).bind fun bt212 => (if bt212.2.2 = 0 then (if ((rd_T46 x44 x46).f0) = x7 then (furlonglaw07_PlaceFits.j2 k x0 x1 x7 x8 x9 x10 bt212.1 bt212.2.1 x44 x45 x46 (x9 == 0) x204000 x204001) else (furlonglaw07_PlaceFits.j2 k x0 x1 x7 x8 x9 x10 bt212.1 bt212.2.1 x44 x45 x46 false x204000 x204001)) else (some false))) else (none)) else (none)) else (furlonglaw07_PlaceFits.l1 k x0 x1 x7 x9 x10 x0 (x0.length : Int) 0 x204000 x204001)
def furlonglaw07_PlaceFits.j2 : Nat → List (S46) → List (S50) → Int → List Int → Int → Int → List Int → Int → List (S46) → Int → Int → Bool → Int → Int → Option (Bool)
  | 0, _, _, _, _, _, _, _, _, _, _, _, _, _, _ => none
  | k + 1, x0, x1, x7, x8, x9, x10, x13, x14, x44, x45, x46, x68, x204000, x204001 => if x68 = true then (if (x8.length : Int) = x204000 then (if (x13.length : Int) < (x8.length : Int) then (some false) else (if x14 < x204001 then (some false) else (if 0 ≤ (x8.length : Int) then (if (x8.length : Int) ≤ (x13.length : Int) then ((furlongref01_Ints.f k x8 (x13.take ((x8.length : Int) : Int).toNat)).bind fun t221 => (if t221 = true then (furlonglaw07_PlaceFits.l0 k x0 x1 x7 x8 x9 (x13.length : Int) x44 x45 (wrap64 (x46 + 1)) x204000 x204001) else (some false))) else (none)) else (none)))) else (some false)) else (furlonglaw07_PlaceFits.l0 k x0 x1 x7 x8 x9 x10 x44 x45 (wrap64 (x46 + 1)) x204000 x204001)
def furlonglaw07_PlaceFits.l1 : Nat → List (S46) → List (S50) → Int → Int → Int → List (S46) → Int → Int → Int → Int → Option (Bool)
  | 0, _, _, _, _, _, _, _, _, _, _ => none
  | k + 1, x0, x1, x7, x9, x10, x99, x100, x101, x204000, x204001 => if x101 < x100 then (if 0 ≤ x101 then (if x101 < (x99.length : Int) then ((place_Free.f x0 x1 ((rd_T46 x99 x101).f0)).bind fun bt224 => (if (bt224.1.length : Int) < x204000 then (furlonglaw07_PlaceFits.j4 k x0 x1 x7 x9 x10 bt224.1 x99 x100 x101 true x204000 x204001 ((rd_T46 x99 x101).f0) ((rd_T46 x99 x101).f1) ((rd_T46 x99 x101).f2) ((rd_T46 x99 x101).f3) ((rd_T46 x99 x101).f4)) else (furlonglaw07_PlaceFits.j4 k x0 x1 x7 x9 x10 bt224.1 x99 x100 x101 (decide (bt224.2.1 < x204001)) x204000 x204001 ((rd_T46 x99 x101).f0) ((rd_T46 x99 x101).f1) ((rd_T46 x99 x101).f2) ((rd_T46 x99 x101).f3) ((rd_T46 x99 x101).f4)))) else (none)) else (none)) else (if x9 = 0 then (some (decide (x10 ≥ 0))) else (some true))
def furlonglaw07_PlaceFits.j4 : Nat → List (S46) → List (S50) → Int → Int → Int → List Int → List (S46) → Int → Int → Bool → Int → Int → Int → Int → Int → Int → Int → Option (Bool)
  | 0, _, _, _, _, _, _, _, _, _, _, _, _, _, _, _, _, _ => none
  | k + 1, x0, x1, x7, x9, x10, x18, x99, x100, x101, x124, x204000, x204001, x224000, x224001, x224002, x224003, x224004 => if x124 = true then (furlonglaw07_PlaceFits.l1 k x0 x1 x7 x9 x10 x99 x100 (wrap64 (x101 + 1)) x204000 x204001) else (if x9 = 0 then (if (x18.length : Int) < x10 then (some false) else (if (x18.length : Int) = x10 then (if x224000 < x7 then (some false) else (furlonglaw07_PlaceFits.l1 k x0 x1 x7 x9 x10 x99 x100 (wrap64 (x101 + 1)) x204000 x204001)) else (furlonglaw07_PlaceFits.l1 k x0 x1 x7 x9 x10 x99 x100 (wrap64 (x101 + 1)) x204000 x204001))) else (some false))
end
def furlonglaw07_PlaceFits.f (k : Nat) (l0 : List (S46)) (l1 : List (S50)) (a2_0 : Int) (a2_1 : Int) : Option (Bool) := (furlonglaw07_awake.f k).bind fun t204 => (if t204 = true then ((place_Find.f l0 l1 a2_0 a2_1).bind fun bt205 => (if bt205.2.2 = 0 then (furlonglaw07_PlaceFits.j0 k l0 l1 bt205.1 bt205.2.1 bt205.2.2 false a2_0 a2_1) else (furlonglaw07_PlaceFits.j0 k l0 l1 bt205.1 bt205.2.1 bt205.2.2 (bt205.2.2 != 10) a2_0 a2_1))) else (some false))
theorem furlonglaw07_PlaceFits.mono_l : ∀ k, (∀ y0 y1 y2 y3 y4 y5 y6 y7, LeO (furlonglaw07_PlaceFits.j0 k y0 y1 y2 y3 y4 y5 y6 y7) (furlonglaw07_PlaceFits.j0 (k + 1) y0 y1 y2 y3 y4 y5 y6 y7)) ∧ (∀ y0 y1 y2 y3 y4 y5 y6 y7 y8 y9 y10, LeO (furlonglaw07_PlaceFits.l0 k y0 y1 y2 y3 y4 y5 y6 y7 y8 y9 y10) (furlonglaw07_PlaceFits.l0 (k + 1) y0 y1 y2 y3 y4 y5 y6 y7 y8 y9 y10)) ∧ (∀ y0 y1 y2 y3 y4 y5 y6 y7 y8 y9 y10 y11 y12 y13, LeO (furlonglaw07_PlaceFits.j2 k y0 y1 y2 y3 y4 y5 y6 y7 y8 y9 y10 y11 y12 y13) (furlonglaw07_PlaceFits.j2 (k + 1) y0 y1 y2 y3 y4 y5 y6 y7 y8 y9 y10 y11 y12 y13)) ∧ (∀ y0 y1 y2 y3 y4 y5 y6 y7 y8 y9, LeO (furlonglaw07_PlaceFits.l1 k y0 y1 y2 y3 y4 y5 y6 y7 y8 y9) (furlonglaw07_PlaceFits.l1 (k + 1) y0 y1 y2 y3 y4 y5 y6 y7 y8 y9)) ∧ (∀ y0 y1 y2 y3 y4 y5 y6 y7 y8 y9 y10 y11 y12 y13 y14 y15 y16, LeO (furlonglaw07_PlaceFits.j4 k y0 y1 y2 y3 y4 y5 y6 y7 y8 y9 y10 y11 y12 y13 y14 y15 y16) (furlonglaw07_PlaceFits.j4 (k + 1) y0 y1 y2 y3 y4 y5 y6 y7 y8 y9 y10 y11 y12 y13 y14 y15 y16))
  | 0 => ⟨fun _ _ _ _ _ _ _ _ r h => by simp [furlonglaw07_PlaceFits.j0] at h, fun _ _ _ _ _ _ _ _ _ _ _ r h => by simp [furlonglaw07_PlaceFits.l0] at h, fun _ _ _ _ _ _ _ _ _ _ _ _ _ _ r h => by simp [furlonglaw07_PlaceFits.j2] at h, fun _ _ _ _ _ _ _ _ _ _ r h => by simp [furlonglaw07_PlaceFits.l1] at h, fun _ _ _ _ _ _ _ _ _ _ _ _ _ _ _ _ _ r h => by simp [furlonglaw07_PlaceFits.j4] at h⟩
  | k + 1 => by
    obtain ⟨ih0, ih1, ih2, ih3, ih4⟩ := furlonglaw07_PlaceFits.mono_l k
    refine ⟨?_, ?_, ?_, ?_, ?_⟩
    · intro y0 y1 y2 y3 y4 y5 y6 y7
      unfold furlonglaw07_PlaceFits.j0
      repeat' first
      | (with_reducible exact ih0 _ _ _ _ _ _ _ _)
      | (with_reducible exact ih1 _ _ _ _ _ _ _ _ _ _ _)
      | (with_reducible exact ih2 _ _ _ _ _ _ _ _ _ _ _ _ _ _)
      | (with_reducible exact ih3 _ _ _ _ _ _ _ _ _ _)
      | (with_reducible exact ih4 _ _ _ _ _ _ _ _ _ _ _ _ _ _ _ _ _)
      | (with_reducible exact furlonglaw07_awake.mono _)
      | (with_reducible exact furlongref01_Ints.mono _ _ _)
      | (with_reducible exact LeO.refl _)
      | (with_reducible exact LeO.none _)
      | (with_reducible refine LeO.ite ?_ ?_)
      | (with_reducible refine LeO.bind ?_ (fun _ => ?_))
      | exact ih0 _ _ _ _ _ _ _ _
      | exact ih1 _ _ _ _ _ _ _ _ _ _ _
      | exact ih2 _ _ _ _ _ _ _ _ _ _ _ _ _ _
      | exact ih3 _ _ _ _ _ _ _ _ _ _
      | exact ih4 _ _ _ _ _ _ _ _ _ _ _ _ _ _ _ _ _
      | exact furlonglaw07_awake.mono _
      | exact furlongref01_Ints.mono _ _ _
      | exact LeO.none _
      | refine LeO.ite ?_ ?_
      | refine LeO.bind ?_ (fun _ => ?_)
    · intro y0 y1 y2 y3 y4 y5 y6 y7 y8 y9 y10
      unfold furlonglaw07_PlaceFits.l0
      repeat' first
      | (with_reducible exact ih0 _ _ _ _ _ _ _ _)
      | (with_reducible exact ih1 _ _ _ _ _ _ _ _ _ _ _)
      | (with_reducible exact ih2 _ _ _ _ _ _ _ _ _ _ _ _ _ _)
      | (with_reducible exact ih3 _ _ _ _ _ _ _ _ _ _)
      | (with_reducible exact ih4 _ _ _ _ _ _ _ _ _ _ _ _ _ _ _ _ _)
      | (with_reducible exact furlonglaw07_awake.mono _)
      | (with_reducible exact furlongref01_Ints.mono _ _ _)
      | (with_reducible exact LeO.refl _)
      | (with_reducible exact LeO.none _)
      | (with_reducible refine LeO.ite ?_ ?_)
      | (with_reducible refine LeO.bind ?_ (fun _ => ?_))
      | exact ih0 _ _ _ _ _ _ _ _
      | exact ih1 _ _ _ _ _ _ _ _ _ _ _
      | exact ih2 _ _ _ _ _ _ _ _ _ _ _ _ _ _
      | exact ih3 _ _ _ _ _ _ _ _ _ _
      | exact ih4 _ _ _ _ _ _ _ _ _ _ _ _ _ _ _ _ _
      | exact furlonglaw07_awake.mono _
      | exact furlongref01_Ints.mono _ _ _
      | exact LeO.none _
      | refine LeO.ite ?_ ?_
      | refine LeO.bind ?_ (fun _ => ?_)
    · intro y0 y1 y2 y3 y4 y5 y6 y7 y8 y9 y10 y11 y12 y13
      unfold furlonglaw07_PlaceFits.j2
      repeat' first
      | (with_reducible exact ih0 _ _ _ _ _ _ _ _)
      | (with_reducible exact ih1 _ _ _ _ _ _ _ _ _ _ _)
      | (with_reducible exact ih2 _ _ _ _ _ _ _ _ _ _ _ _ _ _)
      | (with_reducible exact ih3 _ _ _ _ _ _ _ _ _ _)
      | (with_reducible exact ih4 _ _ _ _ _ _ _ _ _ _ _ _ _ _ _ _ _)
      | (with_reducible exact furlonglaw07_awake.mono _)
      | (with_reducible exact furlongref01_Ints.mono _ _ _)
      | (with_reducible exact LeO.refl _)
      | (with_reducible exact LeO.none _)
      | (with_reducible refine LeO.ite ?_ ?_)
      | (with_reducible refine LeO.bind ?_ (fun _ => ?_))
      | exact ih0 _ _ _ _ _ _ _ _
      | exact ih1 _ _ _ _ _ _ _ _ _ _ _
      | exact ih2 _ _ _ _ _ _ _ _ _ _ _ _ _ _
      | exact ih3 _ _ _ _ _ _ _ _ _ _
      | exact ih4 _ _ _ _ _ _ _ _ _ _ _ _ _ _ _ _ _
      | exact furlonglaw07_awake.mono _
      | exact furlongref01_Ints.mono _ _ _
      | exact LeO.none _
      | refine LeO.ite ?_ ?_
      | refine LeO.bind ?_ (fun _ => ?_)
    · intro y0 y1 y2 y3 y4 y5 y6 y7 y8 y9
      unfold furlonglaw07_PlaceFits.l1
      repeat' first
      | (with_reducible exact ih0 _ _ _ _ _ _ _ _)
      | (with_reducible exact ih1 _ _ _ _ _ _ _ _ _ _ _)
      | (with_reducible exact ih2 _ _ _ _ _ _ _ _ _ _ _ _ _ _)
      | (with_reducible exact ih3 _ _ _ _ _ _ _ _ _ _)
      | (with_reducible exact ih4 _ _ _ _ _ _ _ _ _ _ _ _ _ _ _ _ _)
      | (with_reducible exact furlonglaw07_awake.mono _)
      | (with_reducible exact furlongref01_Ints.mono _ _ _)
      | (with_reducible exact LeO.refl _)
      | (with_reducible exact LeO.none _)
      | (with_reducible refine LeO.ite ?_ ?_)
      | (with_reducible refine LeO.bind ?_ (fun _ => ?_))
      | exact ih0 _ _ _ _ _ _ _ _
      | exact ih1 _ _ _ _ _ _ _ _ _ _ _
      | exact ih2 _ _ _ _ _ _ _ _ _ _ _ _ _ _
      | exact ih3 _ _ _ _ _ _ _ _ _ _
      | exact ih4 _ _ _ _ _ _ _ _ _ _ _ _ _ _ _ _ _
      | exact furlonglaw07_awake.mono _
      | exact furlongref01_Ints.mono _ _ _
      | exact LeO.none _
      | refine LeO.ite ?_ ?_
      | refine LeO.bind ?_ (fun _ => ?_)
    · intro y0 y1 y2 y3 y4 y5 y6 y7 y8 y9 y10 y11 y12 y13 y14 y15 y16
      unfold furlonglaw07_PlaceFits.j4
      repeat' first
      | (with_reducible exact ih0 _ _ _ _ _ _ _ _)
      | (with_reducible exact ih1 _ _ _ _ _ _ _ _ _ _ _)
      | (with_reducible exact ih2 _ _ _ _ _ _ _ _ _ _ _ _ _ _)
      | (with_reducible exact ih3 _ _ _ _ _ _ _ _ _ _)
      | (with_reducible exact ih4 _ _ _ _ _ _ _ _ _ _ _ _ _ _ _ _ _)
      | (with_reducible exact furlonglaw07_awake.mono _)
      | (with_reducible exact furlongref01_Ints.mono _ _ _)
      | (with_reducible exact LeO.refl _)
      | (with_reducible exact LeO.none _)
      | (with_reducible refine LeO.ite ?_ ?_)
      | (with_reducible refine LeO.bind ?_ (fun _ => ?_))
      | exact ih0 _ _ _ _ _ _ _ _
      | exact ih1 _ _ _ _ _ _ _ _ _ _ _
      | exact ih2 _ _ _ _ _ _ _ _ _ _ _ _ _ _
      | exact ih3 _ _ _ _ _ _ _ _ _ _
      | exact ih4 _ _ _ _ _ _ _ _ _ _ _ _ _ _ _ _ _
      | exact furlonglaw07_awake.mono _
      | exact furlongref01_Ints.mono _ _ _
      | exact LeO.none _
      | refine LeO.ite ?_ ?_
      | refine LeO.bind ?_ (fun _ => ?_)
theorem furlonglaw07_PlaceFits.mono : ∀ a0 a1 a2 a3 k, LeO (furlonglaw07_PlaceFits.f k a0 a1 a2 a3) (furlonglaw07_PlaceFits.f (k + 1) a0 a1 a2 a3) := by
  intro a0 a1 a2 a3 k
  obtain ⟨ih0, ih1, ih2, ih3, ih4⟩ := furlonglaw07_PlaceFits.mono_l k
  unfold furlonglaw07_PlaceFits.f
  repeat' first
      | (with_reducible exact ih0 _ _ _ _ _ _ _ _)
      | (with_reducible exact ih1 _ _ _ _ _ _ _ _ _ _ _)
      | (with_reducible exact ih2 _ _ _ _ _ _ _ _ _ _ _ _ _ _)
      | (with_reducible exact ih3 _ _ _ _ _ _ _ _ _ _)
      | (with_reducible exact ih4 _ _ _ _ _ _ _ _ _ _ _ _ _ _ _ _ _)
      | (with_reducible exact furlonglaw07_awake.mono _)
      | (with_reducible exact furlongref01_Ints.mono _ _ _)
      | (with_reducible exact LeO.refl _)
      | (with_reducible exact LeO.none _)
      | (with_reducible refine LeO.ite ?_ ?_)
      | (with_reducible refine LeO.bind ?_ (fun _ => ?_))
      | exact ih0 _ _ _ _ _ _ _ _
      | exact ih1 _ _ _ _ _ _ _ _ _ _ _
      | exact ih2 _ _ _ _ _ _ _ _ _ _ _ _ _ _
      | exact ih3 _ _ _ _ _ _ _ _ _ _
      | exact ih4 _ _ _ _ _ _ _ _ _ _ _ _ _ _ _ _ _
      | exact furlonglaw07_awake.mono _
      | exact furlongref01_Ints.mono _ _ _
      | exact LeO.none _
      | refine LeO.ite ?_ ?_
      | refine LeO.bind ?_ (fun _ => ?_)
set_option maxHeartbeats 8000000 in
set_option maxRecDepth 100000 in
theorem furlonglaw07_PlaceFits.calls (k : Nat) (A0 : Option Addr) (c0 : Nat) (l0 : List (S46)) (A1 : Option Addr) (c1 : Nat) (l1 : List (S50)) (a2_0 : Int) (a2_1 : Int) (r : Bool) (w : World) (hr0 : Kd.C k46 w A0 l0.length l0) (hc0 : l0.length ≤ c0) (hr1 : Kd.C k50 w A1 l1.length l1) (hc1 : l1.length ≤ c1) (h : furlonglaw07_PlaceFits.f k l0 l1 a2_0 a2_1 = some r) :
  Calls Try.prog 8 #[.slice A0 l0.length c0, .slice A1 l1.length c1, .agg #[.int .i64 a2_0, .int .i64 a2_1]] w fun e w' => e = .returned (.bool r) ∧ Below w.heap.size w w' := by
 have hu25 := Try.underlying25
 have hu46 := Try.underlying46
 have HR0 := Aside0.mk hr0
 have HC0 := Aside0.mk hc0
 clear hr0 hc0
 have HR1 := Aside0.mk hr1
 have HC1 := Aside0.mk hc1
 clear hr1 hc1
 have HB := Aside0.mk (Below.refl w.heap.size w)
 have H : ((furlonglaw07_awake.f k).bind fun t204 => (if t204 = true then ((place_Find.f l0 l1 a2_0 a2_1).bind fun bt205 => (if bt205.2.2 = 0 then (furlonglaw07_PlaceFits.j0 k l0 l1 bt205.1 bt205.2.1 bt205.2.2 false a2_0 a2_1) else (furlonglaw07_PlaceFits.j0 k l0 l1 bt205.1 bt205.2.1 bt205.2.2 (bt205.2.2 != 10) a2_0 a2_1))) else (some false))) = some r := h
 clear h
 replace H := Option.bind_eq_some_iff.mp H
 obtain ⟨t204, A40, H⟩ := H
 replace H : (if t204 = true then ((place_Find.f l0 l1 a2_0 a2_1).bind fun bt205 => (if bt205.2.2 = 0 then (furlonglaw07_PlaceFits.j0 k l0 l1 bt205.1 bt205.2.1 bt205.2.2 false a2_0 a2_1) else (furlonglaw07_PlaceFits.j0 k l0 l1 bt205.1 bt205.2.1 bt205.2.2 (bt205.2.2 != 10) a2_0 a2_1))) else (some false)) = some r := H
 have A4 := Aside0.mk A40
 clear A40
 by_cases c5 : t204 = true
 ·
  subst c5
  have H1 : ((place_Find.f l0 l1 a2_0 a2_1).bind fun bt205 => (if bt205.2.2 = 0 then (furlonglaw07_PlaceFits.j0 k l0 l1 bt205.1 bt205.2.1 bt205.2.2 false a2_0 a2_1) else (furlonglaw07_PlaceFits.j0 k l0 l1 bt205.1 bt205.2.1 bt205.2.2 (bt205.2.2 != 10) a2_0 a2_1))) = some r := by rw [if_pos rfl] at H; exact H
  clear H
  have H := H1
  clear H1
  replace H := Option.bind_eq_some_iff.mp H
  obtain ⟨⟨t205, t206, t209⟩, A60, H⟩ := H
  replace H : (if t209 = 0 then (furlonglaw07_PlaceFits.j0 k l0 l1 t205 t206 t209 false a2_0 a2_1) else (furlonglaw07_PlaceFits.j0 k l0 l1 t205 t206 t209 (t209 != 10) a2_0 a2_1)) = some r := H
  have A6 := Aside0.mk A60
  clear A60
  have HC7 := Aside0.mk H
  clear H
  go_enter Try.func8, Try.ntmps8
  go_upto_region 4 with (first | ((with_reducible refine gate_dst (N := 5) rfl ?_); (try (refine gate_guard (by rfl) ?_; dsimp only)); refine box_event ?hg (N := 5) ?hd (cs := #[.int .i64 a2_0, .int .i64 a2_1]) (t := 25) ?hr ?_; (case hd => rfl); (case hg => rfl); (case hr => first | (go_simp; done) | (go_simp; rfl)); intro gb203 hg w8 hbox hb; have n0_ := Aside0.mk (below_step (by repeat (first | (with_reducible first | exact HB.out | apply below_alloc | apply pw_below_drewN | apply below_drew1) | exact HB.out)) hb); have n1_ := Aside0.mk (hbox); have n2_ := Aside0.mk ((by rw [hg]; exact (below_size (by repeat (first | (with_reducible first | exact HB.out | apply below_alloc | apply pw_below_drewN | apply below_drew1) | exact HB.out))) : w.heap.size ≤ gb203)); have n3_ := Aside0.mk ((by rw [hg]; exact (below_size (by repeat (first | (with_reducible first | exact HB.out | apply below_alloc | apply pw_below_drewN | apply below_drew1) | exact HB.out))) : w.heap.size ≤ gb203)); clear HB; have HB := n0_; have BK203 := n1_; have GW203 := n2_; have GE203 := n3_; clear n0_ n1_ n2_ n3_; clear hb hbox hg) | ((with_reducible refine gate_callee (f := 31) rfl ?_); refine goesL_ (some 21) rfl rfl Try.func31 (by kernel_rfl) rfl #[] rfl (by (try simp only [List.map_toArray, List.map_cons, List.map_nil]); first | done | rfl | (simp only [List.length_drop, List.length_take]; rfl)) ?_; (with_reducible refine (furlonglaw07_awake.calls k  true _ A4.out).mono ?_); rintro e w9 ⟨rfl, hb⟩; refine ⟨_, rfl, ?_⟩; have n0_ := Aside0.mk (blk_below (g := gb203) (o := .cells #[.int .i64 a2_0, .int .i64 a2_1] 25 (0, 0)) (by (with_reducible repeat (first | refine blk_drewN ?_ _ | refine blk_drew ?_ | refine blk_alloc ?_ _)); exact BK203.out) hb); have n1_ := Aside0.mk (below_step (by repeat (first | (with_reducible first | exact HB.out | apply below_alloc | apply pw_below_drewN | apply below_drew1 | refine below_set ?_ GE203.out) | exact HB.out)) hb); clear BK203; clear HB; have BK203 := n0_; have HB := n1_; clear n0_ n1_; (try clear hb); (try clear hb2); (try clear hk); (try clear hi); have hcz10_0 : w9.cell? ⟨gb203, 0, none⟩ = some (.int .i64 a2_0) := (blk_cell BK203.out 0).trans rfl; have hcz10_1 : w9.cell? ⟨gb203, 1, none⟩ = some (.int .i64 a2_1) := (blk_cell BK203.out 1).trans rfl; have hfz10_0 := blk_frozen BK203.out 0; have hfz10_1 := blk_frozen BK203.out 1) | ((with_reducible refine gate_callee (f := 33) rfl ?_); refine goesL_ (some 27) rfl rfl Try.func33 (by kernel_rfl) rfl #[.slice A0 l0.length c0, .slice A1 l1.length c1, .agg #[.int .i64 a2_0, .int .i64 a2_1]] rfl (by (try simp only [List.map_toArray, List.map_cons, List.map_nil]); first | done | rfl | (simp only [List.length_drop, List.length_take]; rfl)) ?_; (with_reducible refine (place_Find.calls _ _ l0 _ _ l1 a2_0 a2_1 t205 t206 t209 _ ?side1 ?side2 ?side3 ?side4 A6.out).mono ?_); (case side1 => repeat (first | exact (Kd.C_below HR0.out HB.out) | (with_reducible refine Kd.C_alloc ?_ _) | (with_reducible refine Kd.C_drewN ?_ _) | (with_reducible refine Kd.C_drew ?_))); (case side2 => exact HC0.out); (case side3 => repeat (first | exact (Kd.C_below HR1.out HB.out) | (with_reducible refine Kd.C_alloc ?_ _) | (with_reducible refine Kd.C_drewN ?_ _) | (with_reducible refine Kd.C_drew ?_))); (case side4 => exact HC1.out); rintro e w11 ⟨AF, cF, rfl, ho0, hb⟩; refine ⟨_, rfl, ?_⟩; have n0_ := Aside0.mk (Kd.R_lower ho0 (below_size (by repeat (first | (with_reducible first | exact HB.out | apply below_alloc | apply pw_below_drewN | apply below_drew1 | refine below_set ?_ GE203.out) | exact HB.out)))); have n1_ := Aside0.mk (blk_below (g := gb203) (o := .cells #[.int .i64 a2_0, .int .i64 a2_1] 25 (0, 0)) (by (with_reducible repeat (first | refine blk_drewN ?_ _ | refine blk_drew ?_ | refine blk_alloc ?_ _)); exact BK203.out) hb); have n2_ := Aside0.mk (below_step (by repeat (first | (with_reducible first | exact HB.out | apply below_alloc | apply pw_below_drewN | apply below_drew1 | refine below_set ?_ GE203.out) | exact HB.out)) hb); clear BK203; clear HB; have HO208 := n0_; have BK203 := n1_; have HB := n2_; clear n0_ n1_ n2_; (try clear hb); (try clear hb2); (try clear hk); (try clear hi); (try clear ho0)))
  (try simp only [Act.put, List.setIfInBounds_toArray, List.set_cons_zero, List.set_cons_succ])
  go_cut [36] (fun v36 wc => ∃ (kq : Nat) (x36_6 : Bool), v36 = .bool x36_6 ∧ Aside0 (furlonglaw07_PlaceFits.j0 kq l0 l1 t205 t206 t209 x36_6 a2_0 a2_1 = some r) ∧ Aside0 (kq ≤ k) ∧ Aside0 (Kd.R (Kd.int .i64) 3 wc w.heap.size (fun _ => True) (Value.slice AF t206.length cF) t206) ∧ Aside0 (wc.heap[gb203]? = some (.cells #[.int .i64 a2_0, .int .i64 a2_1] 25 (0, 0))) ∧ Aside0 (Below w.heap.size w wc))
  case first =>
   have H := HC7.out
   clear HC7
   by_cases c12 : t209 = 0
   ·
    rw [if_pos c12] at H
    have c12b0 : (t209 == 0) = true := beq_iff_eq.mpr c12
    have c12b1 : (t209 != 0) = false := bne_eq_false_iff_eq.mpr c12
    clear c12
    (first | rw [c12b0] | (simp only [i64_w, i32_w]; rw [c12b0]) | skip)
    have H' := Aside0.mk H
    clear H
    go_wp2
    go_meet
    case rel => exact ⟨_, (false), (by first | rfl | (simp; done) | (simp [*]; done)), H', ⟨by first | omega | exact Nat.le_refl _⟩, ⟨by (with_reducible repeat (first | apply Kd.R_alloc | apply Kd.R_drewN | apply Kd.R_drew)); exact HO208.out⟩, ⟨by (with_reducible repeat (first | refine blk_drewN ?_ _ | refine blk_drew ?_ | refine blk_alloc ?_ _)); exact BK203.out⟩, ⟨by repeat (first | (with_reducible first | exact HB.out | apply below_alloc | apply pw_below_drewN | apply below_drew1 | refine below_set ?_ GE203.out) | exact HB.out)⟩⟩
   ·
    rw [if_neg c12] at H
    have c12b0 : (t209 == 0) = false := beq_eq_false_iff_ne.mpr c12
    have c12b1 : (t209 != 0) = true := bne_iff_ne.mpr c12
    (first | rw [c12b0] | (simp only [i64_w, i32_w]; rw [c12b0]) | skip)
    have H' := Aside0.mk H
    clear H
    go_wp2
    go_meet
    case rel => exact ⟨_, ((t209 != 10)), (by first | rfl | (simp; done) | (simp [*]; done)), H', ⟨by first | omega | exact Nat.le_refl _⟩, ⟨by (with_reducible repeat (first | apply Kd.R_alloc | apply Kd.R_drewN | apply Kd.R_drew)); exact HO208.out⟩, ⟨by (with_reducible repeat (first | refine blk_drewN ?_ _ | refine blk_drew ?_ | refine blk_alloc ?_ _)); exact BK203.out⟩, ⟨by repeat (first | (with_reducible first | exact HB.out | apply below_alloc | apply pw_below_drewN | apply below_drew1 | refine below_set ?_ GE203.out) | exact HB.out)⟩⟩
  case rest =>
   clear HC7
   (try clear c1); (try clear p2); (try clear c3); (try clear c5); (try clear c8); (try clear c12); (try clear c12b0); (try clear c12b1); (try clear hcz10_0); (try clear hcz10_1); (try clear hfz10_0); (try clear hfz10_1)
   obtain ⟨kq, x36_6, rfl, HA, HJ6, HO_8, BK203, HB⟩ := hcut
   cases kq with
   | zero => exact absurd HA.out (by simp [furlonglaw07_PlaceFits.j0])
   | succ kj6 =>
    have H := HA.out
    clear HA
    simp only [furlonglaw07_PlaceFits.j0] at H
    by_cases c13 : x36_6 = true
    ·
     subst c13
     have H1 : (if t205 = 0 then (some ((t206.length : Int) == 0)) else (some false)) = some r := by rw [if_pos rfl] at H; exact H
     clear H
     have H := H1
     clear H1
     by_cases c14 : t205 = 0
     ·
      rw [if_pos c14] at H
      have c14b0 : (t205 == 0) = true := beq_iff_eq.mpr c14
      have c14b1 : (t205 != 0) = false := bne_eq_false_iff_eq.mpr c14
      clear c14
      obtain rfl := Option.some.inj H
      skip
      go_wp2
      go_ret
      exact ⟨by first | rfl | (simp [errW_none, errW_some] <;> rfl) | (simp [*, errW_none, errW_some] <;> rfl), by repeat (first | (with_reducible first | exact HB.out | apply below_alloc | apply pw_below_drewN | apply below_drew1 | refine below_set ?_ GE203.out) | exact HB.out)⟩
     ·
      rw [if_neg c14] at H
      have c14b0 : (t205 == 0) = false := beq_eq_false_iff_ne.mpr c14
      have c14b1 : (t205 != 0) = true := bne_iff_ne.mpr c14
      obtain rfl := Option.some.inj H
      go_wp2
      go_ret
      exact ⟨by first | rfl | (simp [errW_none, errW_some] <;> rfl) | (simp [*, errW_none, errW_some] <;> rfl), by repeat (first | (with_reducible first | exact HB.out | apply below_alloc | apply pw_below_drewN | apply below_drew1 | refine below_set ?_ GE203.out) | exact HB.out)⟩
    ·
     replace c13 := Bool.eq_false_iff.mpr c13
     subst c13
     have H1 : (furlonglaw07_PlaceFits.l0 kj6 l0 l1 t205 t206 t209 (-1) l0 (l0.length : Int) 0 a2_0 a2_1) = some r := by rw [if_neg (show ¬ (false = true) by decide)] at H; exact H
     clear H
     have H := H1
     clear H1
     have H' := Aside0.mk H
     clear H
     go_wp2
     go_loopg [10, 46] kj6 (fun kq v10 v46 w' => ∃ (x10_2 : Int) (x46_2 : Int), v10 = .int .i64 x10_2 ∧ v46 = .int .i64 x46_2 ∧ Aside0 (furlonglaw07_PlaceFits.l0 kq l0 l1 t205 t206 t209 x10_2 l0 (l0.length : Int) x46_2 a2_0 a2_1 = some r) ∧ Aside0 (kq ≤ kj6) ∧ Aside0 (Kd.R (Kd.int .i64) 3 w' w.heap.size (fun _ => True) (Value.slice AF t206.length cF) t206) ∧ Aside0 (w'.heap[gb203]? = some (.cells #[.int .i64 a2_0, .int .i64 a2_1] 25 (0, 0))) ∧ Aside0 (Below w.heap.size w w'))
     case atStart => exact ⟨((-1)), (0), (by first | rfl | (simp; done) | (simp [*]; done)), (by first | rfl | (simp; done) | (simp [*]; done)), H', ⟨Nat.le_refl _⟩, ⟨by (with_reducible repeat (first | apply Kd.R_alloc | apply Kd.R_drewN | apply Kd.R_drew)); exact HO_8.out⟩, ⟨by (with_reducible repeat (first | refine blk_drewN ?_ _ | refine blk_drew ?_ | refine blk_alloc ?_ _)); exact BK203.out⟩, ⟨by repeat (first | (with_reducible first | exact HB.out | apply below_alloc | apply pw_below_drewN | apply below_drew1 | refine below_set ?_ GE203.out) | exact HB.out)⟩⟩
     case round =>
      clear H'
      (try clear c1); (try clear p2); (try clear c3); (try clear c5); (try clear c8); (try clear c12); (try clear c12b0); (try clear c12b1); (try clear c13); (try clear c14); (try clear c14b0); (try clear c14b1); (try clear hcz10_0); (try clear hcz10_1); (try clear hfz10_0); (try clear hfz10_1); (try clear p2)
      obtain ⟨x10_2, x46_2, rfl, rfl, HA, HK2, HO_8, BK203, HB⟩ := hrel
      cases gk with
      | zero => exact absurd HA.out (by simp [furlonglaw07_PlaceFits.l0])
      | succ k2 =>
       have H := HA.out
       clear HA
       simp only [furlonglaw07_PlaceFits.l0] at H
       by_cases c16 : x46_2 < (l0.length : Int)
       ·
        rw [if_pos c16] at H
        have c16b0 : decide (x46_2 < (l0.length : Int)) = true := decide_eq_true c16
        clear c16
        by_cases c17 : 0 ≤ x46_2
        ·
         rw [if_pos c17] at H
         have c17b0 : decide (0 ≤ x46_2) = true := decide_eq_true c17
         clear c17
         by_cases c18 : x46_2 < (l0.length : Int)
         ·
          rw [if_pos c18] at H
          have c18b0 : decide (x46_2 < (l0.length : Int)) = true := decide_eq_true c18
          clear c18
          replace H := Option.bind_eq_some_iff.mp H
          obtain ⟨⟨t212, t213, t214⟩, A190, H⟩ := H
          replace H : (if t214 = 0 then (if ((rd_T46 l0 x46_2).f0) = t205 then (furlonglaw07_PlaceFits.j2 k2 l0 l1 t205 t206 t209 x10_2 t212 t213 l0 (l0.length : Int) x46_2 (t209 == 0) a2_0 a2_1) else (furlonglaw07_PlaceFits.j2 k2 l0 l1 t205 t206 t209 x10_2 t212 t213 l0 (l0.length : Int) x46_2 false a2_0 a2_1)) else (some false)) = some r := H
          have A19 := Aside0.mk A190
          clear A190
          by_cases c20 : t214 = 0
          ·
           rw [if_pos c20] at H
           have c20b0 : (t214 == 0) = true := beq_iff_eq.mpr c20
           have c20b1 : (t214 != 0) = false := bne_eq_false_iff_eq.mpr c20
           clear c20
           have HC21 := Aside0.mk H
           clear H
           have p210 : 0 ≤ (x46_2 : Int) := of_decide_eq_true (by first | (with_reducible assumption) | assumption)
           have q210 : x46_2 < (l0.length : Int) := of_decide_eq_true (by first | (with_reducible assumption) | assumption)
           obtain ⟨ad210, e210, hx210_0, hx210_1, hx210_2, hx210_3, hx210_4⟩ := at_T46 HR0.out x46_2 p210 q210
           cases e210
           (try (replace hx210_0 := (HB.out.cell (World.block_lt_of_cell? w _ hx210_0)).trans hx210_0))
           (try (replace hx210_1 := (HB.out.cell (World.block_lt_of_cell? w _ hx210_1)).trans hx210_1))
           (try (replace hx210_2 := (HB.out.cell (World.block_lt_of_cell? w _ hx210_2)).trans hx210_2))
           (try (replace hx210_3 := (HB.out.cell (World.block_lt_of_cell? w _ hx210_3)).trans hx210_3))
           (try (replace hx210_4 := (HB.out.cell (World.block_lt_of_cell? w _ hx210_4)).trans hx210_4))
           replace p210 := eq_true p210
           replace q210 := eq_true q210
           go_upto_region 13 with (first | ((with_reducible refine gate_dst (N := 12) rfl ?_); (try (refine gate_guard (by rfl) ?_; dsimp only)); refine box_event ?hg (N := 12) ?hd (cs := #[.int .i64 0, .int .i64 0, .int .i64 0, .int .i64 0, .int .i64 0]) (t := 46) ?hr ?_; (case hd => rfl); (case hg => rfl); (case hr => first | (go_simp; done) | (go_simp; rfl)); intro gb211 hg w22 hbox hb; have n0_ := Aside0.mk (Kd.R_below (by (with_reducible repeat (first | apply Kd.R_alloc | apply Kd.R_drewN | apply Kd.R_drew)); exact HO_8.out) hb); have n1_ := Aside0.mk (blk_below (g := gb203) (o := .cells #[.int .i64 a2_0, .int .i64 a2_1] 25 (0, 0)) (by (with_reducible repeat (first | refine blk_drewN ?_ _ | refine blk_drew ?_ | refine blk_alloc ?_ _)); exact BK203.out) hb); have n2_ := Aside0.mk (below_step (by repeat (first | (with_reducible first | exact HB.out | apply below_alloc | apply pw_below_drewN | apply below_drew1 | refine below_set ?_ GE203.out) | exact HB.out)) hb); have n3_ := Aside0.mk (hbox); have n4_ := Aside0.mk ((by rw [hg]; exact (below_size (by repeat (first | (with_reducible first | exact HB.out | apply below_alloc | apply pw_below_drewN | apply below_drew1 | refine below_set ?_ GE203.out) | exact HB.out))) : w.heap.size ≤ gb211)); have n5_ := Aside0.mk ((by rw [hg]; exact (below_size (by repeat (first | (with_reducible first | exact HB.out | apply below_alloc | apply pw_below_drewN | apply below_drew1 | refine below_set ?_ GE203.out) | exact HB.out))) : w.heap.size ≤ gb211)); have n6_ := Aside0.mk ((by rw [hg]; exact Nat.ne_of_lt (blk_lt (g := gb203) (o := .cells #[.int .i64 a2_0, .int .i64 a2_1] 25 (0, 0)) (by (with_reducible repeat (first | refine blk_drewN ?_ _ | refine blk_drew ?_ | refine blk_alloc ?_ _)); exact BK203.out)) : gb203 ≠ gb211)); have n7_ := Aside0.mk ((by rw [hg]; exact Nat.ne_of_gt (blk_lt (g := gb203) (o := .cells #[.int .i64 a2_0, .int .i64 a2_1] 25 (0, 0)) (by (with_reducible repeat (first | refine blk_drewN ?_ _ | refine blk_drew ?_ | refine blk_alloc ?_ _)); exact BK203.out)) : gb211 ≠ gb203)); clear HO_8; clear BK203; clear HB; have HO_8 := n0_; have BK203 := n1_; have HB := n2_; have BK211 := n3_; have GW211 := n4_; have GE211 := n5_; have NB203_211 := n6_; have NB211_203 := n7_; clear n0_ n1_ n2_ n3_ n4_ n5_ n6_ n7_; clear hb hbox hg; have hnb23 := NB211_203.out; have hnc23 := NB203_211.out; have hcz24_0 : w22.cell? ⟨gb211, 0, none⟩ = some (.int .i64 0) := (blk_cell BK211.out 0).trans rfl; have hcz24_1 : w22.cell? ⟨gb211, 1, none⟩ = some (.int .i64 0) := (blk_cell BK211.out 1).trans rfl; have hcz24_2 : w22.cell? ⟨gb211, 2, none⟩ = some (.int .i64 0) := (blk_cell BK211.out 2).trans rfl; have hcz24_3 : w22.cell? ⟨gb211, 3, none⟩ = some (.int .i64 0) := (blk_cell BK211.out 3).trans rfl; have hcz24_4 : w22.cell? ⟨gb211, 4, none⟩ = some (.int .i64 0) := (blk_cell BK211.out 4).trans rfl; have hfz24_0 := blk_frozen BK211.out 0; have hfz24_1 := blk_frozen BK211.out 1; have hfz24_2 := blk_frozen BK211.out 2; have hfz24_3 := blk_frozen BK211.out 3; have hfz24_4 := blk_frozen BK211.out 4) | ((with_reducible refine gate_callee (f := 49) rfl ?_); refine goesL_ (some 55) rfl rfl Try.func49 (by kernel_rfl) rfl #[.slice (some ad210) l0.length c0, .slice A1 l1.length c1, .int .i64 ((rd_T46 l0 x46_2).f0)] rfl (by (try simp only [List.map_toArray, List.map_cons, List.map_nil]); first | done | rfl | (simp only [List.length_drop, List.length_take]; rfl)) ?_; (with_reducible refine (place_Free.calls _ _ l0 _ _ l1 ((rd_T46 l0 x46_2).f0) t212 t213 t214 _ ?side1 ?side2 ?side3 ?side4 A19.out).mono ?_); (case side1 => exact Kd.C_below HR0.out (by repeat (first | (with_reducible first | exact HB.out | apply below_alloc | apply pw_below_drewN | apply below_drew1 | refine below_set ?_ GE203.out | refine below_set ?_ GE211.out) | exact HB.out))); (case side2 => exact HC0.out); (case side3 => exact Kd.C_below HR1.out (by repeat (first | (with_reducible first | exact HB.out | apply below_alloc | apply pw_below_drewN | apply below_drew1 | refine below_set ?_ GE203.out | refine below_set ?_ GE211.out) | exact HB.out))); (case side4 => exact HC1.out); rintro e w25 ⟨v215, rfl, ho0, hb⟩; refine ⟨_, rfl, ?_⟩; have n0_ := Aside0.mk (Kd.R_elder' (by (with_reducible repeat (first | apply Kd.R_alloc | apply Kd.R_drewN | apply Kd.R_drew)); exact (Kd.R_mono (Kd.R_far (p := ⟨gb211, 4, none⟩) (Kd.R_far (p := ⟨gb211, 3, none⟩) (Kd.R_far (p := ⟨gb211, 2, none⟩) (Kd.R_far (p := ⟨gb211, 1, none⟩) (Kd.R_far (p := ⟨gb211, 0, none⟩) (Kd.R_types HO_8.out BK211.out (by decide)) (fun _ hk => hk.2) (.int .i64 ((rd_T46 l0 x46_2).f0))) (fun _ hk => hk.2) (.int .i64 ((rd_T46 l0 x46_2).f1))) (fun _ hk => hk.2) (.int .i64 ((rd_T46 l0 x46_2).f2))) (fun _ hk => hk.2) (.int .i64 ((rd_T46 l0 x46_2).f3))) (fun _ hk => hk.2) (.int .i64 ((rd_T46 l0 x46_2).f4))) (fun _ h_ => h_.1))) (Kd.R_base ho0) hb); have n1_ := Aside0.mk (Kd.R_lower (Kd.R_new' ho0 (Kd.R_lt (by (with_reducible repeat (first | apply Kd.R_alloc | apply Kd.R_drewN | apply Kd.R_drew)); exact (Kd.R_mono (Kd.R_far (p := ⟨gb211, 4, none⟩) (Kd.R_far (p := ⟨gb211, 3, none⟩) (Kd.R_far (p := ⟨gb211, 2, none⟩) (Kd.R_far (p := ⟨gb211, 1, none⟩) (Kd.R_far (p := ⟨gb211, 0, none⟩) (Kd.R_types HO_8.out BK211.out (by decide)) (fun _ hk => hk.2) (.int .i64 ((rd_T46 l0 x46_2).f0))) (fun _ hk => hk.2) (.int .i64 ((rd_T46 l0 x46_2).f1))) (fun _ hk => hk.2) (.int .i64 ((rd_T46 l0 x46_2).f2))) (fun _ hk => hk.2) (.int .i64 ((rd_T46 l0 x46_2).f3))) (fun _ hk => hk.2) (.int .i64 ((rd_T46 l0 x46_2).f4))) (fun _ h_ => h_.1))))) (below_size (by repeat (first | (with_reducible first | exact HB.out | apply below_alloc | apply pw_below_drewN | apply below_drew1 | refine below_set ?_ GE203.out | refine below_set ?_ GE211.out) | exact HB.out)))); have n2_ := Aside0.mk (blk_below (g := gb203) (o := .cells #[.int .i64 a2_0, .int .i64 a2_1] 25 (0, 0)) (by (with_reducible repeat (first | refine blk_drewN ?_ _ | refine blk_drew ?_ | refine blk_alloc ?_ _)); refine blk_far ?_ NB203_211.out _; (with_reducible repeat (first | refine blk_drewN ?_ _ | refine blk_drew ?_ | refine blk_alloc ?_ _)); refine blk_far ?_ NB203_211.out _; (with_reducible repeat (first | refine blk_drewN ?_ _ | refine blk_drew ?_ | refine blk_alloc ?_ _)); refine blk_far ?_ NB203_211.out _; (with_reducible repeat (first | refine blk_drewN ?_ _ | refine blk_drew ?_ | refine blk_alloc ?_ _)); refine blk_far ?_ NB203_211.out _; (with_reducible repeat (first | refine blk_drewN ?_ _ | refine blk_drew ?_ | refine blk_alloc ?_ _)); refine blk_far ?_ NB203_211.out _; (with_reducible repeat (first | refine blk_drewN ?_ _ | refine blk_drew ?_ | refine blk_alloc ?_ _)); exact BK203.out) hb); have n3_ := Aside0.mk (blk_below (g := gb211) (o := .cells #[.int .i64 ((rd_T46 l0 x46_2).f0), .int .i64 ((rd_T46 l0 x46_2).f1), .int .i64 ((rd_T46 l0 x46_2).f2), .int .i64 ((rd_T46 l0 x46_2).f3), .int .i64 ((rd_T46 l0 x46_2).f4)] 46 (0, 0)) (by (with_reducible repeat (first | refine blk_drewN ?_ _ | refine blk_drew ?_ | refine blk_alloc ?_ _)); refine blk_put (cs := #[.int .i64 ((rd_T46 l0 x46_2).f0), .int .i64 ((rd_T46 l0 x46_2).f1), .int .i64 ((rd_T46 l0 x46_2).f2), .int .i64 ((rd_T46 l0 x46_2).f3), .int .i64 0]) ?_ 4 _ rfl; (with_reducible repeat (first | refine blk_drewN ?_ _ | refine blk_drew ?_ | refine blk_alloc ?_ _)); refine blk_put (cs := #[.int .i64 ((rd_T46 l0 x46_2).f0), .int .i64 ((rd_T46 l0 x46_2).f1), .int .i64 ((rd_T46 l0 x46_2).f2), .int .i64 0, .int .i64 0]) ?_ 3 _ rfl; (with_reducible repeat (first | refine blk_drewN ?_ _ | refine blk_drew ?_ | refine blk_alloc ?_ _)); refine blk_put (cs := #[.int .i64 ((rd_T46 l0 x46_2).f0), .int .i64 ((rd_T46 l0 x46_2).f1), .int .i64 0, .int .i64 0, .int .i64 0]) ?_ 2 _ rfl; (with_reducible repeat (first | refine blk_drewN ?_ _ | refine blk_drew ?_ | refine blk_alloc ?_ _)); refine blk_put (cs := #[.int .i64 ((rd_T46 l0 x46_2).f0), .int .i64 0, .int .i64 0, .int .i64 0, .int .i64 0]) ?_ 1 _ rfl; (with_reducible repeat (first | refine blk_drewN ?_ _ | refine blk_drew ?_ | refine blk_alloc ?_ _)); refine blk_put (cs := #[.int .i64 0, .int .i64 0, .int .i64 0, .int .i64 0, .int .i64 0]) ?_ 0 _ rfl; (with_reducible repeat (first | refine blk_drewN ?_ _ | refine blk_drew ?_ | refine blk_alloc ?_ _)); exact BK211.out) hb); have n4_ := Aside0.mk (below_step (by repeat (first | (with_reducible first | exact HB.out | apply below_alloc | apply pw_below_drewN | apply below_drew1 | refine below_set ?_ GE203.out | refine below_set ?_ GE211.out) | exact HB.out)) hb); clear HO_8; clear BK203; clear BK211; clear HB; have HO_8 := n0_; have HO216 := n1_; have BK203 := n2_; have BK211 := n3_; have HB := n4_; clear n0_ n1_ n2_ n3_ n4_; (try clear hb); (try clear hb2); (try clear hk); (try clear hi); (try clear ho0)))
           (try simp only [Act.put, List.setIfInBounds_toArray, List.set_cons_zero, List.set_cons_succ])
           go_cut [68] (fun v68 wc => ∃ (kq : Nat) (x68_20 : Bool), v68 = .bool x68_20 ∧ Aside0 (furlonglaw07_PlaceFits.j2 kq l0 l1 t205 t206 t209 x10_2 t212 t213 l0 (l0.length : Int) x46_2 x68_20 a2_0 a2_1 = some r) ∧ Aside0 (kq ≤ k2) ∧ Aside0 (Kd.R (Kd.int .i64) 3 wc w.heap.size (fun k_ => some k_ ≠ (v215 : Value).ownBlock) (Value.slice AF t206.length cF) t206) ∧ Aside0 (Kd.R (Kd.int .i64) 3 wc w.heap.size (fun k_ => some k_ ≠ (Value.slice AF t206.length cF).ownBlock) v215 t212) ∧ Aside0 (wc.heap[gb203]? = some (.cells #[.int .i64 a2_0, .int .i64 a2_1] 25 (0, 0))) ∧ Aside0 (wc.heap[gb211]? = some (.cells #[.int .i64 ((rd_T46 l0 x46_2).f0), .int .i64 ((rd_T46 l0 x46_2).f1), .int .i64 ((rd_T46 l0 x46_2).f2), .int .i64 ((rd_T46 l0 x46_2).f3), .int .i64 ((rd_T46 l0 x46_2).f4)] 46 (0, 0))) ∧ Aside0 (Below w.heap.size w wc))
           case first =>
            have H := HC21.out
            clear HC21
            by_cases c26 : ((rd_T46 l0 x46_2).f0) = t205
            ·
             rw [if_pos c26] at H
             have c26b0 : (((rd_T46 l0 x46_2).f0) == t205) = true := beq_iff_eq.mpr c26
             have c26b1 : (((rd_T46 l0 x46_2).f0) != t205) = false := bne_eq_false_iff_eq.mpr c26
             clear c26
             (first | rw [c26b0] | (simp only [i64_w, i32_w]; rw [c26b0]) | skip)
             have H' := Aside0.mk H
             clear H
             have hnb27 := NB211_203.out
             have hnc27 := NB203_211.out
             have hcz28_0 : w25.cell? ⟨gb211, 0, none⟩ = some (.int .i64 ((rd_T46 l0 x46_2).f0)) := (blk_cell BK211.out 0).trans rfl
             have hcz28_1 : w25.cell? ⟨gb211, 1, none⟩ = some (.int .i64 ((rd_T46 l0 x46_2).f1)) := (blk_cell BK211.out 1).trans rfl
             have hcz28_2 : w25.cell? ⟨gb211, 2, none⟩ = some (.int .i64 ((rd_T46 l0 x46_2).f2)) := (blk_cell BK211.out 2).trans rfl
             have hcz28_3 : w25.cell? ⟨gb211, 3, none⟩ = some (.int .i64 ((rd_T46 l0 x46_2).f3)) := (blk_cell BK211.out 3).trans rfl
             have hcz28_4 : w25.cell? ⟨gb211, 4, none⟩ = some (.int .i64 ((rd_T46 l0 x46_2).f4)) := (blk_cell BK211.out 4).trans rfl
             have hfz28_0 := blk_frozen BK211.out 0
             have hfz28_1 := blk_frozen BK211.out 1
             have hfz28_2 := blk_frozen BK211.out 2
             have hfz28_3 := blk_frozen BK211.out 3
             have hfz28_4 := blk_frozen BK211.out 4
             go_wp2
             go_meet
             case rel => exact ⟨_, ((t209 == 0)), (by first | rfl | (simp; done) | (simp [*]; done)), H', ⟨by have := HJ6.out; have := HK2.out; first | omega | exact Nat.le_refl _⟩, ⟨by (with_reducible repeat (first | apply Kd.R_alloc | apply Kd.R_drewN | apply Kd.R_drew)); exact Kd.R_mono HO_8.out (fun _ hk => hk.2)⟩, ⟨by (with_reducible repeat (first | apply Kd.R_alloc | apply Kd.R_drewN | apply Kd.R_drew)); exact Kd.R_mono HO216.out (fun _ hk => hk.2)⟩, ⟨by (with_reducible repeat (first | refine blk_drewN ?_ _ | refine blk_drew ?_ | refine blk_alloc ?_ _)); exact BK203.out⟩, ⟨by (with_reducible repeat (first | refine blk_drewN ?_ _ | refine blk_drew ?_ | refine blk_alloc ?_ _)); exact BK211.out⟩, ⟨by repeat (first | (with_reducible first | exact HB.out | apply below_alloc | apply pw_below_drewN | apply below_drew1 | refine below_set ?_ GE203.out | refine below_set ?_ GE211.out) | exact HB.out)⟩⟩
            ·
             rw [if_neg c26] at H
             have c26b0 : (((rd_T46 l0 x46_2).f0) == t205) = false := beq_eq_false_iff_ne.mpr c26
             have c26b1 : (((rd_T46 l0 x46_2).f0) != t205) = true := bne_iff_ne.mpr c26
             (first | rw [c26b0] | (simp only [i64_w, i32_w]; rw [c26b0]) | skip)
             have H' := Aside0.mk H
             clear H
             have hnb29 := NB211_203.out
             have hnc29 := NB203_211.out
             have hcz30_0 : w25.cell? ⟨gb211, 0, none⟩ = some (.int .i64 ((rd_T46 l0 x46_2).f0)) := (blk_cell BK211.out 0).trans rfl
             have hcz30_1 : w25.cell? ⟨gb211, 1, none⟩ = some (.int .i64 ((rd_T46 l0 x46_2).f1)) := (blk_cell BK211.out 1).trans rfl
             have hcz30_2 : w25.cell? ⟨gb211, 2, none⟩ = some (.int .i64 ((rd_T46 l0 x46_2).f2)) := (blk_cell BK211.out 2).trans rfl
             have hcz30_3 : w25.cell? ⟨gb211, 3, none⟩ = some (.int .i64 ((rd_T46 l0 x46_2).f3)) := (blk_cell BK211.out 3).trans rfl
             have hcz30_4 : w25.cell? ⟨gb211, 4, none⟩ = some (.int .i64 ((rd_T46 l0 x46_2).f4)) := (blk_cell BK211.out 4).trans rfl
             have hfz30_0 := blk_frozen BK211.out 0
             have hfz30_1 := blk_frozen BK211.out 1
             have hfz30_2 := blk_frozen BK211.out 2
             have hfz30_3 := blk_frozen BK211.out 3
             have hfz30_4 := blk_frozen BK211.out 4
             go_wp2
             go_meet
             case rel => exact ⟨_, (false), (by first | rfl | (simp; done) | (simp [*]; done)), H', ⟨by have := HJ6.out; have := HK2.out; first | omega | exact Nat.le_refl _⟩, ⟨by (with_reducible repeat (first | apply Kd.R_alloc | apply Kd.R_drewN | apply Kd.R_drew)); exact Kd.R_mono HO_8.out (fun _ hk => hk.2)⟩, ⟨by (with_reducible repeat (first | apply Kd.R_alloc | apply Kd.R_drewN | apply Kd.R_drew)); exact Kd.R_mono HO216.out (fun _ hk => hk.2)⟩, ⟨by (with_reducible repeat (first | refine blk_drewN ?_ _ | refine blk_drew ?_ | refine blk_alloc ?_ _)); exact BK203.out⟩, ⟨by (with_reducible repeat (first | refine blk_drewN ?_ _ | refine blk_drew ?_ | refine blk_alloc ?_ _)); exact BK211.out⟩, ⟨by repeat (first | (with_reducible first | exact HB.out | apply below_alloc | apply pw_below_drewN | apply below_drew1 | refine below_set ?_ GE203.out | refine below_set ?_ GE211.out) | exact HB.out)⟩⟩
           case rest =>
            clear HC21
            (try clear c1); (try clear c2); (try clear p2); (try clear q2); (try clear hx2); (try clear c3); (try clear c4); (try clear c5); (try clear c8); (try clear c12); (try clear c12b0); (try clear c12b1); (try clear c13); (try clear c14); (try clear c14b0); (try clear c14b1); (try clear c16); (try clear c16b0); (try clear c17); (try clear c17b0); (try clear c18); (try clear c18b0); (try clear c20); (try clear c20b0); (try clear c20b1); (try clear p21); (try clear q21); (try clear hx21); (try clear c23); (try clear c26); (try clear c26b0); (try clear c26b1); (try clear c27); (try clear c29); (try clear hcz10_0); (try clear hcz10_1); (try clear hcz24_0); (try clear hcz24_1); (try clear hcz24_2); (try clear hcz24_3); (try clear hcz24_4); (try clear hcz28_0); (try clear hcz28_1); (try clear hcz28_2); (try clear hcz28_3); (try clear hcz28_4); (try clear hcz30_0); (try clear hcz30_1); (try clear hcz30_2); (try clear hcz30_3); (try clear hcz30_4); (try clear hfz10_0); (try clear hfz10_1); (try clear hfz24_0); (try clear hfz24_1); (try clear hfz24_2); (try clear hfz24_3); (try clear hfz24_4); (try clear hfz28_0); (try clear hfz28_1); (try clear hfz28_2); (try clear hfz28_3); (try clear hfz28_4); (try clear hfz30_0); (try clear hfz30_1); (try clear hfz30_2); (try clear hfz30_3); (try clear hfz30_4); (try clear hx210_0); (try clear hx210_1); (try clear hx210_2); (try clear hx210_3); (try clear hx210_4); (try clear p2); (try clear p210); (try clear q210)
            obtain ⟨kq, x68_20, rfl, HA, HJ20, HO_8, HO_13, BK203, BK211, HB⟩ := hcut
            cases kq with
            | zero => exact absurd HA.out (by simp [furlonglaw07_PlaceFits.j2])
            | succ kj20 =>
             have H := HA.out
             clear HA
             simp only [furlonglaw07_PlaceFits.j2] at H
             by_cases c31 : x68_20 = true
             ·
              subst c31
              have H1 : (if (t206.length : Int) = a2_0 then (if (t212.length : Int) < (t206.length : Int) then (some false) else (if t213 < a2_1 then (some false) else (if 0 ≤ (t206.length : Int) then (if (t206.length : Int) ≤ (t212.length : Int) then ((furlongref01_Ints.f kj20 t206 (t212.take ((t206.length : Int) : Int).toNat)).bind fun t221 => (if t221 = true then (furlonglaw07_PlaceFits.l0 kj20 l0 l1 t205 t206 t209 (t212.length : Int) l0 (l0.length : Int) (wrap64 (x46_2 + 1)) a2_0 a2_1) else (some false))) else (none)) else (none)))) else (some false)) = some r := by rw [if_pos rfl] at H; exact H
              clear H
              have H := H1
              clear H1
              by_cases c32 : (t206.length : Int) = a2_0
              ·
               rw [if_pos c32] at H
               have c32b0 : ((t206.length : Int) == a2_0) = true := beq_iff_eq.mpr c32
               have c32b1 : ((t206.length : Int) != a2_0) = false := bne_eq_false_iff_eq.mpr c32
               clear c32
               by_cases c33 : (t212.length : Int) < (t206.length : Int)
               ·
                rw [if_pos c33] at H
                have c33b0 : decide ((t212.length : Int) < (t206.length : Int)) = true := decide_eq_true c33
                have c33b1 : decide (t212.length < t206.length) = true := decide_eq_true (Int.ofNat_lt.mp c33)
                clear c33
                obtain rfl := Option.some.inj H
                obtain ⟨Ao34, co34, eo34⟩ := Kd.R_slice HO_13.out
                subst eo34
                skip
                have hnb36 := NB203_211.out
                have hnc36 := NB211_203.out
                have hcz37_0 : wc.cell? ⟨gb203, 0, none⟩ = some (.int .i64 a2_0) := (blk_cell BK203.out 0).trans rfl
                have hcz37_1 : wc.cell? ⟨gb203, 1, none⟩ = some (.int .i64 a2_1) := (blk_cell BK203.out 1).trans rfl
                have hfz37_0 := blk_frozen BK203.out 0
                have hfz37_1 := blk_frozen BK203.out 1
                go_wp2
                go_ret
                exact ⟨by first | rfl | (simp [errW_none, errW_some] <;> rfl) | (simp [*, errW_none, errW_some] <;> rfl), by repeat (first | (with_reducible first | exact HB.out | apply below_alloc | apply pw_below_drewN | apply below_drew1 | refine below_set ?_ GE203.out | refine below_set ?_ GE211.out) | exact HB.out)⟩
               ·
                rw [if_neg c33] at H
                have c33b0 : decide ((t212.length : Int) < (t206.length : Int)) = false := decide_eq_false c33
                have c33b1 : decide (t212.length < t206.length) = false := decide_eq_false (fun h => c33 (Int.ofNat_lt.mpr h))
                clear c33
                by_cases c38 : t213 < a2_1
                ·
                 rw [if_pos c38] at H
                 have c38b0 : decide (t213 < a2_1) = true := decide_eq_true c38
                 clear c38
                 obtain rfl := Option.some.inj H
                 obtain ⟨Ao39, co39, eo39⟩ := Kd.R_slice HO_13.out
                 subst eo39
                 skip
                 have hnb41 := NB203_211.out
                 have hnc41 := NB211_203.out
                 have hcz42_0 : wc.cell? ⟨gb203, 0, none⟩ = some (.int .i64 a2_0) := (blk_cell BK203.out 0).trans rfl
                 have hcz42_1 : wc.cell? ⟨gb203, 1, none⟩ = some (.int .i64 a2_1) := (blk_cell BK203.out 1).trans rfl
                 have hfz42_0 := blk_frozen BK203.out 0
                 have hfz42_1 := blk_frozen BK203.out 1
                 go_wp2
                 go_ret
                 exact ⟨by first | rfl | (simp [errW_none, errW_some] <;> rfl) | (simp [*, errW_none, errW_some] <;> rfl), by repeat (first | (with_reducible first | exact HB.out | apply below_alloc | apply pw_below_drewN | apply below_drew1 | refine below_set ?_ GE203.out | refine below_set ?_ GE211.out) | exact HB.out)⟩
                ·
                 rw [if_neg c38] at H
                 have c38b0 : decide (t213 < a2_1) = false := decide_eq_false c38
                 clear c38
                 by_cases c43 : 0 ≤ (t206.length : Int)
                 ·
                  rw [if_pos c43] at H
                  have c43b0 := eq_true c43
                  have c43b1 : decide (0 ≤ (t206.length : Int)) = true := decide_eq_true c43
                  clear c43
                  by_cases c44 : (t206.length : Int) ≤ (t212.length : Int)
                  ·
                   rw [if_pos c44] at H
                   have c44b0 := eq_true c44
                   have c44b1 : decide ((t206.length : Int) ≤ (t212.length : Int)) = true := decide_eq_true c44
                   clear c44
                   obtain ⟨y217, hy217⟩ : ∃ y_ : List Int, y_ = (t212.take ((t206.length : Int) : Int).toNat) := ⟨_, rfl⟩
                   replace H : ((furlongref01_Ints.f kj20 t206 y217).bind fun t221 => (if t221 = true then (furlonglaw07_PlaceFits.l0 kj20 l0 l1 t205 t206 t209 (t212.length : Int) l0 (l0.length : Int) (wrap64 (x46_2 + 1)) a2_0 a2_1) else (some false))) = some r := by first | (rw [hy217]; with_reducible exact H) | (have H2_ := (Option.bind_some _ _).symm.trans H; rw [hy217]; with_reducible exact H2_) | (have H2_ := (Option.bind_some _ _).symm.trans H; with_reducible exact H2_) | with_reducible exact H | (rw [hy217]; exact H) | exact H
                   have Ny217 := Aside0.mk hy217
                   clear hy217
                   replace H := Option.bind_eq_some_iff.mp H
                   obtain ⟨t221, A450, H⟩ := H
                   replace H : (if t221 = true then (furlonglaw07_PlaceFits.l0 kj20 l0 l1 t205 t206 t209 (t212.length : Int) l0 (l0.length : Int) (wrap64 (x46_2 + 1)) a2_0 a2_1) else (some false)) = some r := H
                   have A45 := Aside0.mk A450
                   clear A450
                   by_cases c46 : t221 = true
                   ·
                    subst c46
                    have H1 : (furlonglaw07_PlaceFits.l0 kj20 l0 l1 t205 t206 t209 (t212.length : Int) l0 (l0.length : Int) (wrap64 (x46_2 + 1)) a2_0 a2_1) = some r := by rw [if_pos rfl] at H; exact H
                    clear H
                    have H := H1
                    clear H1
                    have H' := Aside0.mk H
                    clear H
                    obtain ⟨Ao47, co47, eo47⟩ := Kd.R_slice HO_13.out
                    subst eo47
                    skip
                    have hnb49 := NB203_211.out
                    have hnc49 := NB211_203.out
                    have hcz50_0 : wc.cell? ⟨gb203, 0, none⟩ = some (.int .i64 a2_0) := (blk_cell BK203.out 0).trans rfl
                    have hcz50_1 : wc.cell? ⟨gb203, 1, none⟩ = some (.int .i64 a2_1) := (blk_cell BK203.out 1).trans rfl
                    have hfz50_0 := blk_frozen BK203.out 0
                    have hfz50_1 := blk_frozen BK203.out 1
                    have q51 : ((t206.length : Int) : Int) ≤ ((t212.length : Int) : Int) := of_decide_eq_true (by first | (with_reducible assumption) | assumption)
                    obtain ⟨i051, hi051, _, hsz51, _⟩ := info_parts info3
                    have hroom51 : t212.length ≤ co47 := (Kd.R_reads' HO_13.out).2.1
                    have hC51 : Kd.C (Kd.int .i64) _ Ao47 t212.length t212 := (Kd.R_reads' HO_13.out).2.2
                    have hcut51 := cut_to (P := Try.prog) 28 3 .i64 Try.underlying28 hi051 Ao47 t212.length co47 (t206.length : Int) (of_decide_eq_true (by first | (with_reducible assumption) | assumption)) q51 hroom51
                    have hr51 := Kd.C_take (m := ((t206.length : Int) : Int).toNat) hC51 (by omega)
                    have hy51 : y217.length = ((t206.length : Int) : Int).toNat := (by rw [Ny217.out, List.length_take]; omega)
                    rw [← Ny217.out] at hr51
                    rw [← hy51] at hcut51
                    have HR220 := Aside0.mk hr51
                    have HC220 := Aside0.mk (show y217.length ≤ co47 from by omega)
                    clear hr51 hC51 hroom51 hi051 hsz51
                    have KY51 := Aside0.mk hy51
                    clear hy51
                    have KL51 := Aside0.mk (show ((t206.length : Int) : Int).toNat ≤ t212.length from by omega)
                    replace q51 := eq_true q51
                    go_wp2_with (first | (go_at_call 35; (with_reducible refine (furlongref01_Ints.calls kj20 _ _ t206 _ _ y217 true _ ?side1 ?side2 ?side3 ?side4 A45.out).mono ?_); (case side1 => repeat (first | exact (Kd.R_reads' HO_8.out).2.2 | (with_reducible refine Kd.C_alloc ?_ _) | (with_reducible refine Kd.C_drewN ?_ _) | (with_reducible refine Kd.C_drew ?_))); (case side2 => first | exact Nat.le_refl _ | exact (Kd.R_reads' HO_8.out).2.1); (case side3 => repeat (first | exact (by repeat (first | (with_reducible exact HR220.out) | (with_reducible refine Kd.C_alloc ?_ _) | (with_reducible refine Kd.C_drewN ?_ _) | (with_reducible refine Kd.C_drew ?_) | exact HR220.out)) | (with_reducible refine Kd.C_alloc ?_ _) | (with_reducible refine Kd.C_drewN ?_ _) | (with_reducible refine Kd.C_drew ?_))); (case side4 => exact HC220.out); rintro e w' ⟨rfl, ⟨nd, rfl⟩⟩))
                    go_roundg kj20
                    case measure => have := HJ6.out; have := HK2.out; have := HJ20.out; omega
                    case rel => exact ⟨((t212.length : Int)), (wrap64 (x46_2 + 1)), (by first | rfl | (simp; done) | (simp [*]; done)), (by first | rfl | (simp; done) | (simp [*]; done)), H', ⟨by have := HJ6.out; have := HK2.out; have := HJ20.out; omega⟩, ⟨by (with_reducible repeat (first | apply Kd.R_alloc | apply Kd.R_drewN | apply Kd.R_drew)); exact Kd.R_mono HO_8.out (fun _ hk => trivial)⟩, ⟨by (with_reducible repeat (first | refine blk_drewN ?_ _ | refine blk_drew ?_ | refine blk_alloc ?_ _)); exact BK203.out⟩, ⟨by repeat (first | (with_reducible first | exact HB.out | apply below_alloc | apply pw_below_drewN | apply below_drew1 | refine below_set ?_ GE203.out | refine below_set ?_ GE211.out) | exact HB.out)⟩⟩
                   ·
                    replace c46 := Bool.eq_false_iff.mpr c46
                    subst c46
                    have H1 : (some false) = some r := by rw [if_neg (show ¬ (false = true) by decide)] at H; exact H
                    clear H
                    have H := H1
                    clear H1
                    obtain rfl := Option.some.inj H
                    obtain ⟨Ao52, co52, eo52⟩ := Kd.R_slice HO_13.out
                    subst eo52
                    skip
                    have hnb54 := NB203_211.out
                    have hnc54 := NB211_203.out
                    have hcz55_0 : wc.cell? ⟨gb203, 0, none⟩ = some (.int .i64 a2_0) := (blk_cell BK203.out 0).trans rfl
                    have hcz55_1 : wc.cell? ⟨gb203, 1, none⟩ = some (.int .i64 a2_1) := (blk_cell BK203.out 1).trans rfl
                    have hfz55_0 := blk_frozen BK203.out 0
                    have hfz55_1 := blk_frozen BK203.out 1
                    have q56 : ((t206.length : Int) : Int) ≤ ((t212.length : Int) : Int) := of_decide_eq_true (by first | (with_reducible assumption) | assumption)
                    obtain ⟨i056, hi056, _, hsz56, _⟩ := info_parts info3
                    have hroom56 : t212.length ≤ co52 := (Kd.R_reads' HO_13.out).2.1
                    have hC56 : Kd.C (Kd.int .i64) _ Ao52 t212.length t212 := (Kd.R_reads' HO_13.out).2.2
                    have hcut56 := cut_to (P := Try.prog) 28 3 .i64 Try.underlying28 hi056 Ao52 t212.length co52 (t206.length : Int) (of_decide_eq_true (by first | (with_reducible assumption) | assumption)) q56 hroom56
                    have hr56 := Kd.C_take (m := ((t206.length : Int) : Int).toNat) hC56 (by omega)
                    have hy56 : y217.length = ((t206.length : Int) : Int).toNat := (by rw [Ny217.out, List.length_take]; omega)
                    rw [← Ny217.out] at hr56
                    rw [← hy56] at hcut56
                    have HR220 := Aside0.mk hr56
                    have HC220 := Aside0.mk (show y217.length ≤ co52 from by omega)
                    clear hr56 hC56 hroom56 hi056 hsz56
                    have KY56 := Aside0.mk hy56
                    clear hy56
                    have KL56 := Aside0.mk (show ((t206.length : Int) : Int).toNat ≤ t212.length from by omega)
                    replace q56 := eq_true q56
                    go_wp2_with (first | (go_at_call 35; (with_reducible refine (furlongref01_Ints.calls kj20 _ _ t206 _ _ y217 false _ ?side1 ?side2 ?side3 ?side4 A45.out).mono ?_); (case side1 => repeat (first | exact (Kd.R_reads' HO_8.out).2.2 | (with_reducible refine Kd.C_alloc ?_ _) | (with_reducible refine Kd.C_drewN ?_ _) | (with_reducible refine Kd.C_drew ?_))); (case side2 => first | exact Nat.le_refl _ | exact (Kd.R_reads' HO_8.out).2.1); (case side3 => repeat (first | exact (by repeat (first | (with_reducible exact HR220.out) | (with_reducible refine Kd.C_alloc ?_ _) | (with_reducible refine Kd.C_drewN ?_ _) | (with_reducible refine Kd.C_drew ?_) | exact HR220.out)) | (with_reducible refine Kd.C_alloc ?_ _) | (with_reducible refine Kd.C_drewN ?_ _) | (with_reducible refine Kd.C_drew ?_))); (case side4 => exact HC220.out); rintro e w' ⟨rfl, ⟨nd, rfl⟩⟩))
                    go_ret
                    exact ⟨by first | rfl | (simp [errW_none, errW_some] <;> rfl) | (simp [*, errW_none, errW_some] <;> rfl), by repeat (first | (with_reducible first | exact HB.out | apply below_alloc | apply pw_below_drewN | apply below_drew1 | refine below_set ?_ GE203.out | refine below_set ?_ GE211.out) | exact HB.out)⟩
                  ·
                   rw [if_neg c44] at H
                   exact absurd H (by simp)
                 ·
                  rw [if_neg c43] at H
                  exact absurd H (by simp)
              ·
               rw [if_neg c32] at H
               have c32b0 : ((t206.length : Int) == a2_0) = false := beq_eq_false_iff_ne.mpr c32
               have c32b1 : ((t206.length : Int) != a2_0) = true := bne_iff_ne.mpr c32
               obtain rfl := Option.some.inj H
               obtain ⟨Ao57, co57, eo57⟩ := Kd.R_slice HO_13.out
               subst eo57
               skip
               have hnb59 := NB203_211.out
               have hnc59 := NB211_203.out
               have hcz60_0 : wc.cell? ⟨gb203, 0, none⟩ = some (.int .i64 a2_0) := (blk_cell BK203.out 0).trans rfl
               have hcz60_1 : wc.cell? ⟨gb203, 1, none⟩ = some (.int .i64 a2_1) := (blk_cell BK203.out 1).trans rfl
               have hfz60_0 := blk_frozen BK203.out 0
               have hfz60_1 := blk_frozen BK203.out 1
               go_wp2
               go_ret
               exact ⟨by first | rfl | (simp [errW_none, errW_some] <;> rfl) | (simp [*, errW_none, errW_some] <;> rfl), by repeat (first | (with_reducible first | exact HB.out | apply below_alloc | apply pw_below_drewN | apply below_drew1 | refine below_set ?_ GE203.out | refine below_set ?_ GE211.out) | exact HB.out)⟩
             ·
              replace c31 := Bool.eq_false_iff.mpr c31
              subst c31
              have H1 : (furlonglaw07_PlaceFits.l0 kj20 l0 l1 t205 t206 t209 x10_2 l0 (l0.length : Int) (wrap64 (x46_2 + 1)) a2_0 a2_1) = some r := by rw [if_neg (show ¬ (false = true) by decide)] at H; exact H
              clear H
              have H := H1
              clear H1
              have H' := Aside0.mk H
              clear H
              go_wp2
              go_roundg kj20
              case measure => have := HJ6.out; have := HK2.out; have := HJ20.out; omega
              case rel => exact ⟨(x10_2), (wrap64 (x46_2 + 1)), (by first | rfl | (simp; done) | (simp [*]; done)), (by first | rfl | (simp; done) | (simp [*]; done)), H', ⟨by have := HJ6.out; have := HK2.out; have := HJ20.out; omega⟩, ⟨by (with_reducible repeat (first | apply Kd.R_alloc | apply Kd.R_drewN | apply Kd.R_drew)); exact Kd.R_mono HO_8.out (fun _ hk => trivial)⟩, ⟨by (with_reducible repeat (first | refine blk_drewN ?_ _ | refine blk_drew ?_ | refine blk_alloc ?_ _)); exact BK203.out⟩, ⟨by repeat (first | (with_reducible first | exact HB.out | apply below_alloc | apply pw_below_drewN | apply below_drew1 | refine below_set ?_ GE203.out | refine below_set ?_ GE211.out) | exact HB.out)⟩⟩
          ·
           rw [if_neg c20] at H
           have c20b0 : (t214 == 0) = false := beq_eq_false_iff_ne.mpr c20
           have c20b1 : (t214 != 0) = true := bne_iff_ne.mpr c20
           obtain rfl := Option.some.inj H
           have p210 : 0 ≤ (x46_2 : Int) := of_decide_eq_true (by first | (with_reducible assumption) | assumption)
           have q210 : x46_2 < (l0.length : Int) := of_decide_eq_true (by first | (with_reducible assumption) | assumption)
           obtain ⟨ad210, e210, hx210_0, hx210_1, hx210_2, hx210_3, hx210_4⟩ := at_T46 HR0.out x46_2 p210 q210
           cases e210
           (try (replace hx210_0 := (HB.out.cell (World.block_lt_of_cell? w _ hx210_0)).trans hx210_0))
           (try (replace hx210_1 := (HB.out.cell (World.block_lt_of_cell? w _ hx210_1)).trans hx210_1))
           (try (replace hx210_2 := (HB.out.cell (World.block_lt_of_cell? w _ hx210_2)).trans hx210_2))
           (try (replace hx210_3 := (HB.out.cell (World.block_lt_of_cell? w _ hx210_3)).trans hx210_3))
           (try (replace hx210_4 := (HB.out.cell (World.block_lt_of_cell? w _ hx210_4)).trans hx210_4))
           replace p210 := eq_true p210
           replace q210 := eq_true q210
           go_wp2_with (first | ((with_reducible refine gate_dst (N := 12) rfl ?_); (try (refine gate_guard (by rfl) ?_; dsimp only)); refine box_event ?hg (N := 12) ?hd (cs := #[.int .i64 0, .int .i64 0, .int .i64 0, .int .i64 0, .int .i64 0]) (t := 46) ?hr ?_; (case hd => rfl); (case hg => rfl); (case hr => first | (go_simp; done) | (go_simp; rfl)); intro gb211 hg w61 hbox hb; have n0_ := Aside0.mk (Kd.R_below (by (with_reducible repeat (first | apply Kd.R_alloc | apply Kd.R_drewN | apply Kd.R_drew)); exact HO_8.out) hb); have n1_ := Aside0.mk (blk_below (g := gb203) (o := .cells #[.int .i64 a2_0, .int .i64 a2_1] 25 (0, 0)) (by (with_reducible repeat (first | refine blk_drewN ?_ _ | refine blk_drew ?_ | refine blk_alloc ?_ _)); exact BK203.out) hb); have n2_ := Aside0.mk (below_step (by repeat (first | (with_reducible first | exact HB.out | apply below_alloc | apply pw_below_drewN | apply below_drew1 | refine below_set ?_ GE203.out) | exact HB.out)) hb); have n3_ := Aside0.mk (hbox); have n4_ := Aside0.mk ((by rw [hg]; exact (below_size (by repeat (first | (with_reducible first | exact HB.out | apply below_alloc | apply pw_below_drewN | apply below_drew1 | refine below_set ?_ GE203.out) | exact HB.out))) : w.heap.size ≤ gb211)); have n5_ := Aside0.mk ((by rw [hg]; exact (below_size (by repeat (first | (with_reducible first | exact HB.out | apply below_alloc | apply pw_below_drewN | apply below_drew1 | refine below_set ?_ GE203.out) | exact HB.out))) : w.heap.size ≤ gb211)); have n6_ := Aside0.mk ((by rw [hg]; exact Nat.ne_of_lt (blk_lt (g := gb203) (o := .cells #[.int .i64 a2_0, .int .i64 a2_1] 25 (0, 0)) (by (with_reducible repeat (first | refine blk_drewN ?_ _ | refine blk_drew ?_ | refine blk_alloc ?_ _)); exact BK203.out)) : gb203 ≠ gb211)); have n7_ := Aside0.mk ((by rw [hg]; exact Nat.ne_of_gt (blk_lt (g := gb203) (o := .cells #[.int .i64 a2_0, .int .i64 a2_1] 25 (0, 0)) (by (with_reducible repeat (first | refine blk_drewN ?_ _ | refine blk_drew ?_ | refine blk_alloc ?_ _)); exact BK203.out)) : gb211 ≠ gb203)); clear HO_8; clear BK203; clear HB; have HO_8 := n0_; have BK203 := n1_; have HB := n2_; have BK211 := n3_; have GW211 := n4_; have GE211 := n5_; have NB203_211 := n6_; have NB211_203 := n7_; clear n0_ n1_ n2_ n3_ n4_ n5_ n6_ n7_; clear hb hbox hg; have hnb62 := NB211_203.out; have hnc62 := NB203_211.out; have hcz63_0 : w61.cell? ⟨gb211, 0, none⟩ = some (.int .i64 0) := (blk_cell BK211.out 0).trans rfl; have hcz63_1 : w61.cell? ⟨gb211, 1, none⟩ = some (.int .i64 0) := (blk_cell BK211.out 1).trans rfl; have hcz63_2 : w61.cell? ⟨gb211, 2, none⟩ = some (.int .i64 0) := (blk_cell BK211.out 2).trans rfl; have hcz63_3 : w61.cell? ⟨gb211, 3, none⟩ = some (.int .i64 0) := (blk_cell BK211.out 3).trans rfl; have hcz63_4 : w61.cell? ⟨gb211, 4, none⟩ = some (.int .i64 0) := (blk_cell BK211.out 4).trans rfl; have hfz63_0 := blk_frozen BK211.out 0; have hfz63_1 := blk_frozen BK211.out 1; have hfz63_2 := blk_frozen BK211.out 2; have hfz63_3 := blk_frozen BK211.out 3; have hfz63_4 := blk_frozen BK211.out 4) | ((with_reducible refine gate_callee (f := 49) rfl ?_); refine goesL_ (some 55) rfl rfl Try.func49 (by kernel_rfl) rfl #[.slice (some ad210) l0.length c0, .slice A1 l1.length c1, .int .i64 ((rd_T46 l0 x46_2).f0)] rfl (by (try simp only [List.map_toArray, List.map_cons, List.map_nil]); first | done | rfl | (simp only [List.length_drop, List.length_take]; rfl)) ?_; (with_reducible refine (place_Free.calls _ _ l0 _ _ l1 ((rd_T46 l0 x46_2).f0) t212 t213 t214 _ ?side1 ?side2 ?side3 ?side4 A19.out).mono ?_); (case side1 => exact Kd.C_below HR0.out (by repeat (first | (with_reducible first | exact HB.out | apply below_alloc | apply pw_below_drewN | apply below_drew1 | refine below_set ?_ GE203.out | refine below_set ?_ GE211.out) | exact HB.out))); (case side2 => exact HC0.out); (case side3 => exact Kd.C_below HR1.out (by repeat (first | (with_reducible first | exact HB.out | apply below_alloc | apply pw_below_drewN | apply below_drew1 | refine below_set ?_ GE203.out | refine below_set ?_ GE211.out) | exact HB.out))); (case side4 => exact HC1.out); rintro e w64 ⟨v215, rfl, ho0, hb⟩; refine ⟨_, rfl, ?_⟩; have n0_ := Aside0.mk (Kd.R_elder' (by (with_reducible repeat (first | apply Kd.R_alloc | apply Kd.R_drewN | apply Kd.R_drew)); exact (Kd.R_mono (Kd.R_far (p := ⟨gb211, 4, none⟩) (Kd.R_far (p := ⟨gb211, 3, none⟩) (Kd.R_far (p := ⟨gb211, 2, none⟩) (Kd.R_far (p := ⟨gb211, 1, none⟩) (Kd.R_far (p := ⟨gb211, 0, none⟩) (Kd.R_types HO_8.out BK211.out (by decide)) (fun _ hk => hk.2) (.int .i64 ((rd_T46 l0 x46_2).f0))) (fun _ hk => hk.2) (.int .i64 ((rd_T46 l0 x46_2).f1))) (fun _ hk => hk.2) (.int .i64 ((rd_T46 l0 x46_2).f2))) (fun _ hk => hk.2) (.int .i64 ((rd_T46 l0 x46_2).f3))) (fun _ hk => hk.2) (.int .i64 ((rd_T46 l0 x46_2).f4))) (fun _ h_ => h_.1))) (Kd.R_base ho0) hb); have n1_ := Aside0.mk (Kd.R_lower (Kd.R_new' ho0 (Kd.R_lt (by (with_reducible repeat (first | apply Kd.R_alloc | apply Kd.R_drewN | apply Kd.R_drew)); exact (Kd.R_mono (Kd.R_far (p := ⟨gb211, 4, none⟩) (Kd.R_far (p := ⟨gb211, 3, none⟩) (Kd.R_far (p := ⟨gb211, 2, none⟩) (Kd.R_far (p := ⟨gb211, 1, none⟩) (Kd.R_far (p := ⟨gb211, 0, none⟩) (Kd.R_types HO_8.out BK211.out (by decide)) (fun _ hk => hk.2) (.int .i64 ((rd_T46 l0 x46_2).f0))) (fun _ hk => hk.2) (.int .i64 ((rd_T46 l0 x46_2).f1))) (fun _ hk => hk.2) (.int .i64 ((rd_T46 l0 x46_2).f2))) (fun _ hk => hk.2) (.int .i64 ((rd_T46 l0 x46_2).f3))) (fun _ hk => hk.2) (.int .i64 ((rd_T46 l0 x46_2).f4))) (fun _ h_ => h_.1))))) (below_size (by repeat (first | (with_reducible first | exact HB.out | apply below_alloc | apply pw_below_drewN | apply below_drew1 | refine below_set ?_ GE203.out | refine below_set ?_ GE211.out) | exact HB.out)))); have n2_ := Aside0.mk (blk_below (g := gb203) (o := .cells #[.int .i64 a2_0, .int .i64 a2_1] 25 (0, 0)) (by (with_reducible repeat (first | refine blk_drewN ?_ _ | refine blk_drew ?_ | refine blk_alloc ?_ _)); refine blk_far ?_ NB203_211.out _; (with_reducible repeat (first | refine blk_drewN ?_ _ | refine blk_drew ?_ | refine blk_alloc ?_ _)); refine blk_far ?_ NB203_211.out _; (with_reducible repeat (first | refine blk_drewN ?_ _ | refine blk_drew ?_ | refine blk_alloc ?_ _)); refine blk_far ?_ NB203_211.out _; (with_reducible repeat (first | refine blk_drewN ?_ _ | refine blk_drew ?_ | refine blk_alloc ?_ _)); refine blk_far ?_ NB203_211.out _; (with_reducible repeat (first | refine blk_drewN ?_ _ | refine blk_drew ?_ | refine blk_alloc ?_ _)); refine blk_far ?_ NB203_211.out _; (with_reducible repeat (first | refine blk_drewN ?_ _ | refine blk_drew ?_ | refine blk_alloc ?_ _)); exact BK203.out) hb); have n3_ := Aside0.mk (blk_below (g := gb211) (o := .cells #[.int .i64 ((rd_T46 l0 x46_2).f0), .int .i64 ((rd_T46 l0 x46_2).f1), .int .i64 ((rd_T46 l0 x46_2).f2), .int .i64 ((rd_T46 l0 x46_2).f3), .int .i64 ((rd_T46 l0 x46_2).f4)] 46 (0, 0)) (by (with_reducible repeat (first | refine blk_drewN ?_ _ | refine blk_drew ?_ | refine blk_alloc ?_ _)); refine blk_put (cs := #[.int .i64 ((rd_T46 l0 x46_2).f0), .int .i64 ((rd_T46 l0 x46_2).f1), .int .i64 ((rd_T46 l0 x46_2).f2), .int .i64 ((rd_T46 l0 x46_2).f3), .int .i64 0]) ?_ 4 _ rfl; (with_reducible repeat (first | refine blk_drewN ?_ _ | refine blk_drew ?_ | refine blk_alloc ?_ _)); refine blk_put (cs := #[.int .i64 ((rd_T46 l0 x46_2).f0), .int .i64 ((rd_T46 l0 x46_2).f1), .int .i64 ((rd_T46 l0 x46_2).f2), .int .i64 0, .int .i64 0]) ?_ 3 _ rfl; (with_reducible repeat (first | refine blk_drewN ?_ _ | refine blk_drew ?_ | refine blk_alloc ?_ _)); refine blk_put (cs := #[.int .i64 ((rd_T46 l0 x46_2).f0), .int .i64 ((rd_T46 l0 x46_2).f1), .int .i64 0, .int .i64 0, .int .i64 0]) ?_ 2 _ rfl; (with_reducible repeat (first | refine blk_drewN ?_ _ | refine blk_drew ?_ | refine blk_alloc ?_ _)); refine blk_put (cs := #[.int .i64 ((rd_T46 l0 x46_2).f0), .int .i64 0, .int .i64 0, .int .i64 0, .int .i64 0]) ?_ 1 _ rfl; (with_reducible repeat (first | refine blk_drewN ?_ _ | refine blk_drew ?_ | refine blk_alloc ?_ _)); refine blk_put (cs := #[.int .i64 0, .int .i64 0, .int .i64 0, .int .i64 0, .int .i64 0]) ?_ 0 _ rfl; (with_reducible repeat (first | refine blk_drewN ?_ _ | refine blk_drew ?_ | refine blk_alloc ?_ _)); exact BK211.out) hb); have n4_ := Aside0.mk (below_step (by repeat (first | (with_reducible first | exact HB.out | apply below_alloc | apply pw_below_drewN | apply below_drew1 | refine below_set ?_ GE203.out | refine below_set ?_ GE211.out) | exact HB.out)) hb); clear HO_8; clear BK203; clear BK211; clear HB; have HO_8 := n0_; have HO216 := n1_; have BK203 := n2_; have BK211 := n3_; have HB := n4_; clear n0_ n1_ n2_ n3_ n4_; (try clear hb); (try clear hb2); (try clear hk); (try clear hi); (try clear ho0)))
           go_ret
           exact ⟨by first | rfl | (simp [errW_none, errW_some] <;> rfl) | (simp [*, errW_none, errW_some] <;> rfl), by repeat (first | (with_reducible first | exact HB.out | apply below_alloc | apply pw_below_drewN | apply below_drew1 | refine below_set ?_ GE203.out | refine below_set ?_ GE211.out) | exact HB.out)⟩
         ·
          rw [if_neg c18] at H
          exact absurd H (by simp)
        ·
         rw [if_neg c17] at H
         exact absurd H (by simp)
       ·
        rw [if_neg c16] at H
        have c16b0 : decide (x46_2 < (l0.length : Int)) = false := decide_eq_false c16
        clear c16
        have H' := Aside0.mk H
        clear H
        go_wp2
        go_loopg [101] k2 (fun kq v101 w' => ∃ (x101_3 : Int), v101 = .int .i64 x101_3 ∧ Aside0 (furlonglaw07_PlaceFits.l1 kq l0 l1 t205 t209 x10_2 l0 (l0.length : Int) x101_3 a2_0 a2_1 = some r) ∧ Aside0 (kq ≤ k2) ∧ Aside0 (w'.heap[gb203]? = some (.cells #[.int .i64 a2_0, .int .i64 a2_1] 25 (0, 0))) ∧ Aside0 (Below w.heap.size w w'))
        case atStart => exact ⟨(0), (by first | rfl | (simp; done) | (simp [*]; done)), H', ⟨Nat.le_refl _⟩, ⟨by (with_reducible repeat (first | refine blk_drewN ?_ _ | refine blk_drew ?_ | refine blk_alloc ?_ _)); exact BK203.out⟩, ⟨by repeat (first | (with_reducible first | exact HB.out | apply below_alloc | apply pw_below_drewN | apply below_drew1 | refine below_set ?_ GE203.out) | exact HB.out)⟩⟩
        case round =>
         clear H'
         (try clear c1); (try clear c2); (try clear p2); (try clear q2); (try clear hx2); (try clear c3); (try clear c4); (try clear c5); (try clear q5); (try clear c6); (try clear p6); (try clear c8); (try clear c12); (try clear c12b0); (try clear c12b1); (try clear c13); (try clear c14); (try clear c14b0); (try clear c14b1); (try clear c16); (try clear c16b0); (try clear c17); (try clear c17b0); (try clear c18); (try clear c18b0); (try clear c20); (try clear c20b0); (try clear c20b1); (try clear p21); (try clear q21); (try clear hx21); (try clear c23); (try clear c26); (try clear c26b0); (try clear c26b1); (try clear c27); (try clear c29); (try clear c31); (try clear c32); (try clear c32b0); (try clear c32b1); (try clear c33); (try clear c33b0); (try clear c33b1); (try clear c36); (try clear c38); (try clear c38b0); (try clear c41); (try clear c43); (try clear c43b0); (try clear c43b1); (try clear c44); (try clear c44b0); (try clear c44b1); (try clear c46); (try clear c49); (try clear q51); (try clear c54); (try clear q56); (try clear c59); (try clear c62); (try clear p64); (try clear hcz10_0); (try clear hcz10_1); (try clear hcz24_0); (try clear hcz24_1); (try clear hcz24_2); (try clear hcz24_3); (try clear hcz24_4); (try clear hcz28_0); (try clear hcz28_1); (try clear hcz28_2); (try clear hcz28_3); (try clear hcz28_4); (try clear hcz30_0); (try clear hcz30_1); (try clear hcz30_2); (try clear hcz30_3); (try clear hcz30_4); (try clear hcz37_0); (try clear hcz37_1); (try clear hcz42_0); (try clear hcz42_1); (try clear hcz50_0); (try clear hcz50_1); (try clear hcz55_0); (try clear hcz55_1); (try clear hcz60_0); (try clear hcz60_1); (try clear hcz63_0); (try clear hcz63_1); (try clear hcz63_2); (try clear hcz63_3); (try clear hcz63_4); (try clear hfz10_0); (try clear hfz10_1); (try clear hfz24_0); (try clear hfz24_1); (try clear hfz24_2); (try clear hfz24_3); (try clear hfz24_4); (try clear hfz28_0); (try clear hfz28_1); (try clear hfz28_2); (try clear hfz28_3); (try clear hfz28_4); (try clear hfz30_0); (try clear hfz30_1); (try clear hfz30_2); (try clear hfz30_3); (try clear hfz30_4); (try clear hfz37_0); (try clear hfz37_1); (try clear hfz42_0); (try clear hfz42_1); (try clear hfz50_0); (try clear hfz50_1); (try clear hfz55_0); (try clear hfz55_1); (try clear hfz60_0); (try clear hfz60_1); (try clear hfz63_0); (try clear hfz63_1); (try clear hfz63_2); (try clear hfz63_3); (try clear hfz63_4); (try clear hx210_0); (try clear hx210_1); (try clear hx210_2); (try clear hx210_3); (try clear hx210_4); (try clear p2); (try clear p21); (try clear p210); (try clear q2); (try clear q21); (try clear q210); (try clear q51); (try clear q56)
         obtain ⟨x101_3, rfl, HA, HK3, BK203, HB⟩ := hrel
         cases gk with
         | zero => exact absurd HA.out (by simp [furlonglaw07_PlaceFits.l1])
         | succ k3 =>
          have H := HA.out
          clear HA
          simp only [furlonglaw07_PlaceFits.l1] at H
          by_cases c65 : x101_3 < (l0.length : Int)
          ·
           rw [if_pos c65] at H
           have c65b0 : decide (x101_3 < (l0.length : Int)) = true := decide_eq_true c65
           clear c65
           by_cases c66 : 0 ≤ x101_3
           ·
            rw [if_pos c66] at H
            have c66b0 : decide (0 ≤ x101_3) = true := decide_eq_true c66
            clear c66
            by_cases c67 : x101_3 < (l0.length : Int)
            ·
             rw [if_pos c67] at H
             have c67b0 : decide (x101_3 < (l0.length : Int)) = true := decide_eq_true c67
             clear c67
             replace H := Option.bind_eq_some_iff.mp H
             obtain ⟨⟨t224, t225, t226⟩, A680, H⟩ := H
             replace H : (if (t224.length : Int) < a2_0 then (furlonglaw07_PlaceFits.j4 k3 l0 l1 t205 t209 x10_2 t224 l0 (l0.length : Int) x101_3 true a2_0 a2_1 ((rd_T46 l0 x101_3).f0) ((rd_T46 l0 x101_3).f1) ((rd_T46 l0 x101_3).f2) ((rd_T46 l0 x101_3).f3) ((rd_T46 l0 x101_3).f4)) else (furlonglaw07_PlaceFits.j4 k3 l0 l1 t205 t209 x10_2 t224 l0 (l0.length : Int) x101_3 (decide (t225 < a2_1)) a2_0 a2_1 ((rd_T46 l0 x101_3).f0) ((rd_T46 l0 x101_3).f1) ((rd_T46 l0 x101_3).f2) ((rd_T46 l0 x101_3).f3) ((rd_T46 l0 x101_3).f4))) = some r := H
             have A68 := Aside0.mk A680
             clear A680
             have HC69 := Aside0.mk H
             clear H
             have p222 : 0 ≤ (x101_3 : Int) := of_decide_eq_true (by first | (with_reducible assumption) | assumption)
             have q222 : x101_3 < (l0.length : Int) := of_decide_eq_true (by first | (with_reducible assumption) | assumption)
             obtain ⟨ad222, e222, hx222_0, hx222_1, hx222_2, hx222_3, hx222_4⟩ := at_T46 HR0.out x101_3 p222 q222
             cases e222
             (try (replace hx222_0 := (HB.out.cell (World.block_lt_of_cell? w _ hx222_0)).trans hx222_0))
             (try (replace hx222_1 := (HB.out.cell (World.block_lt_of_cell? w _ hx222_1)).trans hx222_1))
             (try (replace hx222_2 := (HB.out.cell (World.block_lt_of_cell? w _ hx222_2)).trans hx222_2))
             (try (replace hx222_3 := (HB.out.cell (World.block_lt_of_cell? w _ hx222_3)).trans hx222_3))
             (try (replace hx222_4 := (HB.out.cell (World.block_lt_of_cell? w _ hx222_4)).trans hx222_4))
             replace p222 := eq_true p222
             replace q222 := eq_true q222
             go_upto_region 22 with (first | ((with_reducible refine gate_dst (N := 17) rfl ?_); (try (refine gate_guard (by rfl) ?_; dsimp only)); refine box_event ?hg (N := 17) ?hd (cs := #[.int .i64 0, .int .i64 0, .int .i64 0, .int .i64 0, .int .i64 0]) (t := 46) ?hr ?_; (case hd => rfl); (case hg => rfl); (case hr => first | (go_simp; done) | (go_simp; rfl)); intro gb223 hg w70 hbox hb; have n0_ := Aside0.mk (blk_below (g := gb203) (o := .cells #[.int .i64 a2_0, .int .i64 a2_1] 25 (0, 0)) (by (with_reducible repeat (first | refine blk_drewN ?_ _ | refine blk_drew ?_ | refine blk_alloc ?_ _)); exact BK203.out) hb); have n1_ := Aside0.mk (below_step (by repeat (first | (with_reducible first | exact HB.out | apply below_alloc | apply pw_below_drewN | apply below_drew1 | refine below_set ?_ GE203.out) | exact HB.out)) hb); have n2_ := Aside0.mk (hbox); have n3_ := Aside0.mk ((by rw [hg]; exact (below_size (by repeat (first | (with_reducible first | exact HB.out | apply below_alloc | apply pw_below_drewN | apply below_drew1 | refine below_set ?_ GE203.out) | exact HB.out))) : w.heap.size ≤ gb223)); have n4_ := Aside0.mk ((by rw [hg]; exact (below_size (by repeat (first | (with_reducible first | exact HB.out | apply below_alloc | apply pw_below_drewN | apply below_drew1 | refine below_set ?_ GE203.out) | exact HB.out))) : w.heap.size ≤ gb223)); have n5_ := Aside0.mk ((by rw [hg]; exact Nat.ne_of_lt (blk_lt (g := gb203) (o := .cells #[.int .i64 a2_0, .int .i64 a2_1] 25 (0, 0)) (by (with_reducible repeat (first | refine blk_drewN ?_ _ | refine blk_drew ?_ | refine blk_alloc ?_ _)); exact BK203.out)) : gb203 ≠ gb223)); have n6_ := Aside0.mk ((by rw [hg]; exact Nat.ne_of_gt (blk_lt (g := gb203) (o := .cells #[.int .i64 a2_0, .int .i64 a2_1] 25 (0, 0)) (by (with_reducible repeat (first | refine blk_drewN ?_ _ | refine blk_drew ?_ | refine blk_alloc ?_ _)); exact BK203.out)) : gb223 ≠ gb203)); clear BK203; clear HB; have BK203 := n0_; have HB := n1_; have BK223 := n2_; have GW223 := n3_; have GE223 := n4_; have NB203_223 := n5_; have NB223_203 := n6_; clear n0_ n1_ n2_ n3_ n4_ n5_ n6_; clear hb hbox hg; have hnb71 := NB223_203.out; have hnc71 := NB203_223.out; have hcz72_0 : w70.cell? ⟨gb223, 0, none⟩ = some (.int .i64 0) := (blk_cell BK223.out 0).trans rfl; have hcz72_1 : w70.cell? ⟨gb223, 1, none⟩ = some (.int .i64 0) := (blk_cell BK223.out 1).trans rfl; have hcz72_2 : w70.cell? ⟨gb223, 2, none⟩ = some (.int .i64 0) := (blk_cell BK223.out 2).trans rfl; have hcz72_3 : w70.cell? ⟨gb223, 3, none⟩ = some (.int .i64 0) := (blk_cell BK223.out 3).trans rfl; have hcz72_4 : w70.cell? ⟨gb223, 4, none⟩ = some (.int .i64 0) := (blk_cell BK223.out 4).trans rfl; have hfz72_0 := blk_frozen BK223.out 0; have hfz72_1 := blk_frozen BK223.out 1; have hfz72_2 := blk_frozen BK223.out 2; have hfz72_3 := blk_frozen BK223.out 3; have hfz72_4 := blk_frozen BK223.out 4) | ((with_reducible refine gate_callee (f := 49) rfl ?_); refine goesL_ (some 110) rfl rfl Try.func49 (by kernel_rfl) rfl #[.slice (some ad222) l0.length c0, .slice A1 l1.length c1, .int .i64 ((rd_T46 l0 x101_3).f0)] rfl (by (try simp only [List.map_toArray, List.map_cons, List.map_nil]); first | done | rfl | (simp only [List.length_drop, List.length_take]; rfl)) ?_; (with_reducible refine (place_Free.calls _ _ l0 _ _ l1 ((rd_T46 l0 x101_3).f0) t224 t225 t226 _ ?side1 ?side2 ?side3 ?side4 A68.out).mono ?_); (case side1 => exact Kd.C_below HR0.out (by repeat (first | (with_reducible first | exact HB.out | apply below_alloc | apply pw_below_drewN | apply below_drew1 | refine below_set ?_ GE203.out | refine below_set ?_ GE223.out) | exact HB.out))); (case side2 => exact HC0.out); (case side3 => exact Kd.C_below HR1.out (by repeat (first | (with_reducible first | exact HB.out | apply below_alloc | apply pw_below_drewN | apply below_drew1 | refine below_set ?_ GE203.out | refine below_set ?_ GE223.out) | exact HB.out))); (case side4 => exact HC1.out); rintro e w73 ⟨v227, rfl, ho0, hb⟩; refine ⟨_, rfl, ?_⟩; have n0_ := Aside0.mk (Kd.R_lower ho0 (below_size (by repeat (first | (with_reducible first | exact HB.out | apply below_alloc | apply pw_below_drewN | apply below_drew1 | refine below_set ?_ GE203.out | refine below_set ?_ GE223.out) | exact HB.out)))); have n1_ := Aside0.mk (blk_below (g := gb203) (o := .cells #[.int .i64 a2_0, .int .i64 a2_1] 25 (0, 0)) (by (with_reducible repeat (first | refine blk_drewN ?_ _ | refine blk_drew ?_ | refine blk_alloc ?_ _)); refine blk_far ?_ NB203_223.out _; (with_reducible repeat (first | refine blk_drewN ?_ _ | refine blk_drew ?_ | refine blk_alloc ?_ _)); refine blk_far ?_ NB203_223.out _; (with_reducible repeat (first | refine blk_drewN ?_ _ | refine blk_drew ?_ | refine blk_alloc ?_ _)); refine blk_far ?_ NB203_223.out _; (with_reducible repeat (first | refine blk_drewN ?_ _ | refine blk_drew ?_ | refine blk_alloc ?_ _)); refine blk_far ?_ NB203_223.out _; (with_reducible repeat (first | refine blk_drewN ?_ _ | refine blk_drew ?_ | refine blk_alloc ?_ _)); refine blk_far ?_ NB203_223.out _; (with_reducible repeat (first | refine blk_drewN ?_ _ | refine blk_drew ?_ | refine blk_alloc ?_ _)); exact BK203.out) hb); have n2_ := Aside0.mk (blk_below (g := gb223) (o := .cells #[.int .i64 ((rd_T46 l0 x101_3).f0), .int .i64 ((rd_T46 l0 x101_3).f1), .int .i64 ((rd_T46 l0 x101_3).f2), .int .i64 ((rd_T46 l0 x101_3).f3), .int .i64 ((rd_T46 l0 x101_3).f4)] 46 (0, 0)) (by (with_reducible repeat (first | refine blk_drewN ?_ _ | refine blk_drew ?_ | refine blk_alloc ?_ _)); refine blk_put (cs := #[.int .i64 ((rd_T46 l0 x101_3).f0), .int .i64 ((rd_T46 l0 x101_3).f1), .int .i64 ((rd_T46 l0 x101_3).f2), .int .i64 ((rd_T46 l0 x101_3).f3), .int .i64 0]) ?_ 4 _ rfl; (with_reducible repeat (first | refine blk_drewN ?_ _ | refine blk_drew ?_ | refine blk_alloc ?_ _)); refine blk_put (cs := #[.int .i64 ((rd_T46 l0 x101_3).f0), .int .i64 ((rd_T46 l0 x101_3).f1), .int .i64 ((rd_T46 l0 x101_3).f2), .int .i64 0, .int .i64 0]) ?_ 3 _ rfl; (with_reducible repeat (first | refine blk_drewN ?_ _ | refine blk_drew ?_ | refine blk_alloc ?_ _)); refine blk_put (cs := #[.int .i64 ((rd_T46 l0 x101_3).f0), .int .i64 ((rd_T46 l0 x101_3).f1), .int .i64 0, .int .i64 0, .int .i64 0]) ?_ 2 _ rfl; (with_reducible repeat (first | refine blk_drewN ?_ _ | refine blk_drew ?_ | refine blk_alloc ?_ _)); refine blk_put (cs := #[.int .i64 ((rd_T46 l0 x101_3).f0), .int .i64 0, .int .i64 0, .int .i64 0, .int .i64 0]) ?_ 1 _ rfl; (with_reducible repeat (first | refine blk_drewN ?_ _ | refine blk_drew ?_ | refine blk_alloc ?_ _)); refine blk_put (cs := #[.int .i64 0, .int .i64 0, .int .i64 0, .int .i64 0, .int .i64 0]) ?_ 0 _ rfl; (with_reducible repeat (first | refine blk_drewN ?_ _ | refine blk_drew ?_ | refine blk_alloc ?_ _)); exact BK223.out) hb); have n3_ := Aside0.mk (below_step (by repeat (first | (with_reducible first | exact HB.out | apply below_alloc | apply pw_below_drewN | apply below_drew1 | refine below_set ?_ GE203.out | refine below_set ?_ GE223.out) | exact HB.out)) hb); clear BK203; clear BK223; clear HB; have HO228 := n0_; have BK203 := n1_; have BK223 := n2_; have HB := n3_; clear n0_ n1_ n2_ n3_; (try clear hb); (try clear hb2); (try clear hk); (try clear hi); (try clear ho0)))
             (try simp only [Act.put, List.setIfInBounds_toArray, List.set_cons_zero, List.set_cons_succ])
             go_cut [124] (fun v124 wc => ∃ (kq : Nat) (x124_68 : Bool), v124 = .bool x124_68 ∧ Aside0 (furlonglaw07_PlaceFits.j4 kq l0 l1 t205 t209 x10_2 t224 l0 (l0.length : Int) x101_3 x124_68 a2_0 a2_1 ((rd_T46 l0 x101_3).f0) ((rd_T46 l0 x101_3).f1) ((rd_T46 l0 x101_3).f2) ((rd_T46 l0 x101_3).f3) ((rd_T46 l0 x101_3).f4) = some r) ∧ Aside0 (kq ≤ k3) ∧ Aside0 (Kd.R (Kd.int .i64) 3 wc w.heap.size (fun _ => True) v227 t224) ∧ Aside0 (wc.heap[gb203]? = some (.cells #[.int .i64 a2_0, .int .i64 a2_1] 25 (0, 0))) ∧ Aside0 (wc.heap[gb223]? = some (.cells #[.int .i64 ((rd_T46 l0 x101_3).f0), .int .i64 ((rd_T46 l0 x101_3).f1), .int .i64 ((rd_T46 l0 x101_3).f2), .int .i64 ((rd_T46 l0 x101_3).f3), .int .i64 ((rd_T46 l0 x101_3).f4)] 46 (0, 0))) ∧ Aside0 (Below w.heap.size w wc))
             case first =>
              have H := HC69.out
              clear HC69
              by_cases c74 : (t224.length : Int) < a2_0
              ·
               rw [if_pos c74] at H
               have c74b0 : decide ((t224.length : Int) < a2_0) = true := decide_eq_true c74
               clear c74
               (first | rw [c74b0] | (simp only [i64_w, i32_w]; rw [c74b0]) | skip)
               have H' := Aside0.mk H
               clear H
               obtain ⟨Ao75, co75, eo75⟩ := Kd.R_slice HO228.out
               subst eo75
               have hnb76 := NB203_223.out
               have hnc76 := NB223_203.out
               have hcz77_0 : w73.cell? ⟨gb203, 0, none⟩ = some (.int .i64 a2_0) := (blk_cell BK203.out 0).trans rfl
               have hcz77_1 : w73.cell? ⟨gb203, 1, none⟩ = some (.int .i64 a2_1) := (blk_cell BK203.out 1).trans rfl
               have hfz77_0 := blk_frozen BK203.out 0
               have hfz77_1 := blk_frozen BK203.out 1
               go_wp2
               go_meet
               case rel => exact ⟨_, (true), (by first | rfl | (simp; done) | (simp [*]; done)), H', ⟨by have := HJ6.out; have := HK2.out; have := HK3.out; first | omega | exact Nat.le_refl _⟩, ⟨by (with_reducible repeat (first | apply Kd.R_alloc | apply Kd.R_drewN | apply Kd.R_drew)); exact HO228.out⟩, ⟨by (with_reducible repeat (first | refine blk_drewN ?_ _ | refine blk_drew ?_ | refine blk_alloc ?_ _)); exact BK203.out⟩, ⟨by (with_reducible repeat (first | refine blk_drewN ?_ _ | refine blk_drew ?_ | refine blk_alloc ?_ _)); exact BK223.out⟩, ⟨by repeat (first | (with_reducible first | exact HB.out | apply below_alloc | apply pw_below_drewN | apply below_drew1 | refine below_set ?_ GE203.out | refine below_set ?_ GE223.out) | exact HB.out)⟩⟩
              ·
               rw [if_neg c74] at H
               have c74b0 : decide ((t224.length : Int) < a2_0) = false := decide_eq_false c74
               clear c74
               (first | rw [c74b0] | (simp only [i64_w, i32_w]; rw [c74b0]) | skip)
               have H' := Aside0.mk H
               clear H
               obtain ⟨Ao78, co78, eo78⟩ := Kd.R_slice HO228.out
               subst eo78
               have hnb79 := NB203_223.out
               have hnc79 := NB223_203.out
               have hcz80_0 : w73.cell? ⟨gb203, 0, none⟩ = some (.int .i64 a2_0) := (blk_cell BK203.out 0).trans rfl
               have hcz80_1 : w73.cell? ⟨gb203, 1, none⟩ = some (.int .i64 a2_1) := (blk_cell BK203.out 1).trans rfl
               have hfz80_0 := blk_frozen BK203.out 0
               have hfz80_1 := blk_frozen BK203.out 1
               go_wp2
               go_meet
               case rel => exact ⟨_, (decide (t225 < a2_1)), (by first | rfl | (simp; done) | (simp [*]; done)), H', ⟨by have := HJ6.out; have := HK2.out; have := HK3.out; first | omega | exact Nat.le_refl _⟩, ⟨by (with_reducible repeat (first | apply Kd.R_alloc | apply Kd.R_drewN | apply Kd.R_drew)); exact HO228.out⟩, ⟨by (with_reducible repeat (first | refine blk_drewN ?_ _ | refine blk_drew ?_ | refine blk_alloc ?_ _)); exact BK203.out⟩, ⟨by (with_reducible repeat (first | refine blk_drewN ?_ _ | refine blk_drew ?_ | refine blk_alloc ?_ _)); exact BK223.out⟩, ⟨by repeat (first | (with_reducible first | exact HB.out | apply below_alloc | apply pw_below_drewN | apply below_drew1 | refine below_set ?_ GE203.out | refine below_set ?_ GE223.out) | exact HB.out)⟩⟩
             case rest =>
              clear HC69
              (try clear c1); (try clear c2); (try clear p2); (try clear q2); (try clear hx2); (try clear c3); (try clear c4); (try clear c5); (try clear q5); (try clear c6); (try clear p6); (try clear c7); (try clear c8); (try clear c12); (try clear c12b0); (try clear c12b1); (try clear c13); (try clear c14); (try clear c14b0); (try clear c14b1); (try clear c16); (try clear c16b0); (try clear c17); (try clear c17b0); (try clear c18); (try clear c18b0); (try clear c20); (try clear c20b0); (try clear c20b1); (try clear p21); (try clear q21); (try clear hx21); (try clear p22); (try clear q22); (try clear hx22); (try clear c23); (try clear c26); (try clear c26b0); (try clear c26b1); (try clear c27); (try clear c29); (try clear c31); (try clear c32); (try clear c32b0); (try clear c32b1); (try clear c33); (try clear c33b0); (try clear c33b1); (try clear c36); (try clear c38); (try clear c38b0); (try clear c41); (try clear c43); (try clear c43b0); (try clear c43b1); (try clear c44); (try clear c44b0); (try clear c44b1); (try clear c46); (try clear c49); (try clear q51); (try clear c54); (try clear q56); (try clear c59); (try clear c62); (try clear p64); (try clear c65); (try clear c65b0); (try clear c66); (try clear c66b0); (try clear c67); (try clear c67b0); (try clear c71); (try clear c74); (try clear c74b0); (try clear c76); (try clear c79); (try clear hcz10_0); (try clear hcz10_1); (try clear hcz24_0); (try clear hcz24_1); (try clear hcz24_2); (try clear hcz24_3); (try clear hcz24_4); (try clear hcz28_0); (try clear hcz28_1); (try clear hcz28_2); (try clear hcz28_3); (try clear hcz28_4); (try clear hcz30_0); (try clear hcz30_1); (try clear hcz30_2); (try clear hcz30_3); (try clear hcz30_4); (try clear hcz37_0); (try clear hcz37_1); (try clear hcz42_0); (try clear hcz42_1); (try clear hcz50_0); (try clear hcz50_1); (try clear hcz55_0); (try clear hcz55_1); (try clear hcz60_0); (try clear hcz60_1); (try clear hcz63_0); (try clear hcz63_1); (try clear hcz63_2); (try clear hcz63_3); (try clear hcz63_4); (try clear hcz72_0); (try clear hcz72_1); (try clear hcz72_2); (try clear hcz72_3); (try clear hcz72_4); (try clear hcz77_0); (try clear hcz77_1); (try clear hcz80_0); (try clear hcz80_1); (try clear hfz10_0); (try clear hfz10_1); (try clear hfz24_0); (try clear hfz24_1); (try clear hfz24_2); (try clear hfz24_3); (try clear hfz24_4); (try clear hfz28_0); (try clear hfz28_1); (try clear hfz28_2); (try clear hfz28_3); (try clear hfz28_4); (try clear hfz30_0); (try clear hfz30_1); (try clear hfz30_2); (try clear hfz30_3); (try clear hfz30_4); (try clear hfz37_0); (try clear hfz37_1); (try clear hfz42_0); (try clear hfz42_1); (try clear hfz50_0); (try clear hfz50_1); (try clear hfz55_0); (try clear hfz55_1); (try clear hfz60_0); (try clear hfz60_1); (try clear hfz63_0); (try clear hfz63_1); (try clear hfz63_2); (try clear hfz63_3); (try clear hfz63_4); (try clear hfz72_0); (try clear hfz72_1); (try clear hfz72_2); (try clear hfz72_3); (try clear hfz72_4); (try clear hfz77_0); (try clear hfz77_1); (try clear hfz80_0); (try clear hfz80_1); (try clear hx210_0); (try clear hx210_1); (try clear hx210_2); (try clear hx210_3); (try clear hx210_4); (try clear hx222_0); (try clear hx222_1); (try clear hx222_2); (try clear hx222_3); (try clear hx222_4); (try clear p2); (try clear p21); (try clear p210); (try clear p222); (try clear p6); (try clear p64); (try clear q2); (try clear q21); (try clear q210); (try clear q222); (try clear q5); (try clear q51); (try clear q56)
              obtain ⟨kq, x124_68, rfl, HA, HJ68, HO_18, BK203, BK223, HB⟩ := hcut
              cases kq with
              | zero => exact absurd HA.out (by simp [furlonglaw07_PlaceFits.j4])
              | succ kj68 =>
               have H := HA.out
               clear HA
               simp only [furlonglaw07_PlaceFits.j4] at H
               by_cases c81 : x124_68 = true
               ·
                subst c81
                have H1 : (furlonglaw07_PlaceFits.l1 kj68 l0 l1 t205 t209 x10_2 l0 (l0.length : Int) (wrap64 (x101_3 + 1)) a2_0 a2_1) = some r := by rw [if_pos rfl] at H; exact H
                clear H
                have H := H1
                clear H1
                have H' := Aside0.mk H
                clear H
                go_wp2
                go_roundg kj68
                case measure => have := HJ6.out; have := HK2.out; have := HK3.out; have := HJ68.out; omega
                case rel => exact ⟨(wrap64 (x101_3 + 1)), (by first | rfl | (simp; done) | (simp [*]; done)), H', ⟨by have := HJ6.out; have := HK2.out; have := HK3.out; have := HJ68.out; omega⟩, ⟨by (with_reducible repeat (first | refine blk_drewN ?_ _ | refine blk_drew ?_ | refine blk_alloc ?_ _)); exact BK203.out⟩, ⟨by repeat (first | (with_reducible first | exact HB.out | apply below_alloc | apply pw_below_drewN | apply below_drew1 | refine below_set ?_ GE203.out | refine below_set ?_ GE223.out) | exact HB.out)⟩⟩
               ·
                replace c81 := Bool.eq_false_iff.mpr c81
                subst c81
                have H1 : (if t209 = 0 then (if (t224.length : Int) < x10_2 then (some false) else (if (t224.length : Int) = x10_2 then (if ((rd_T46 l0 x101_3).f0) < t205 then (some false) else (furlonglaw07_PlaceFits.l1 kj68 l0 l1 t205 t209 x10_2 l0 (l0.length : Int) (wrap64 (x101_3 + 1)) a2_0 a2_1)) else (furlonglaw07_PlaceFits.l1 kj68 l0 l1 t205 t209 x10_2 l0 (l0.length : Int) (wrap64 (x101_3 + 1)) a2_0 a2_1))) else (some false)) = some r := by rw [if_neg (show ¬ (false = true) by decide)] at H; exact H
                clear H
                have H := H1
                clear H1
                by_cases c82 : t209 = 0
                ·
                 rw [if_pos c82] at H
                 have c82b0 : (t209 == 0) = true := beq_iff_eq.mpr c82
                 have c82b1 : (t209 != 0) = false := bne_eq_false_iff_eq.mpr c82
                 clear c82
                 by_cases c83 : (t224.length : Int) < x10_2
                 ·
                  rw [if_pos c83] at H
                  have c83b0 : decide ((t224.length : Int) < x10_2) = true := decide_eq_true c83
                  clear c83
                  obtain rfl := Option.some.inj H
                  obtain ⟨Ao84, co84, eo84⟩ := Kd.R_slice HO_18.out
                  subst eo84
                  go_wp2
                  go_ret
                  exact ⟨by first | rfl | (simp [errW_none, errW_some] <;> rfl) | (simp [*, errW_none, errW_some] <;> rfl), by repeat (first | (with_reducible first | exact HB.out | apply below_alloc | apply pw_below_drewN | apply below_drew1 | refine below_set ?_ GE203.out | refine below_set ?_ GE223.out) | exact HB.out)⟩
                 ·
                  rw [if_neg c83] at H
                  have c83b0 : decide ((t224.length : Int) < x10_2) = false := decide_eq_false c83
                  clear c83
                  by_cases c85 : (t224.length : Int) = x10_2
                  ·
                   rw [if_pos c85] at H
                   have c85b0 : ((t224.length : Int) == x10_2) = true := beq_iff_eq.mpr c85
                   have c85b1 : ((t224.length : Int) != x10_2) = false := bne_eq_false_iff_eq.mpr c85
                   clear c85
                   by_cases c86 : ((rd_T46 l0 x101_3).f0) < t205
                   ·
                    rw [if_pos c86] at H
                    have c86b0 : decide (((rd_T46 l0 x101_3).f0) < t205) = true := decide_eq_true c86
                    clear c86
                    obtain rfl := Option.some.inj H
                    obtain ⟨Ao87, co87, eo87⟩ := Kd.R_slice HO_18.out
                    subst eo87
                    have hnb88 := NB223_203.out
                    have hnc88 := NB203_223.out
                    have hcz89_0 : wc.cell? ⟨gb223, 0, none⟩ = some (.int .i64 ((rd_T46 l0 x101_3).f0)) := (blk_cell BK223.out 0).trans rfl
                    have hcz89_1 : wc.cell? ⟨gb223, 1, none⟩ = some (.int .i64 ((rd_T46 l0 x101_3).f1)) := (blk_cell BK223.out 1).trans rfl
                    have hcz89_2 : wc.cell? ⟨gb223, 2, none⟩ = some (.int .i64 ((rd_T46 l0 x101_3).f2)) := (blk_cell BK223.out 2).trans rfl
                    have hcz89_3 : wc.cell? ⟨gb223, 3, none⟩ = some (.int .i64 ((rd_T46 l0 x101_3).f3)) := (blk_cell BK223.out 3).trans rfl
                    have hcz89_4 : wc.cell? ⟨gb223, 4, none⟩ = some (.int .i64 ((rd_T46 l0 x101_3).f4)) := (blk_cell BK223.out 4).trans rfl
                    have hfz89_0 := blk_frozen BK223.out 0
                    have hfz89_1 := blk_frozen BK223.out 1
                    have hfz89_2 := blk_frozen BK223.out 2
                    have hfz89_3 := blk_frozen BK223.out 3
                    have hfz89_4 := blk_frozen BK223.out 4
                    go_wp2
                    go_ret
                    exact ⟨by first | rfl | (simp [errW_none, errW_some] <;> rfl) | (simp [*, errW_none, errW_some] <;> rfl), by repeat (first | (with_reducible first | exact HB.out | apply below_alloc | apply pw_below_drewN | apply below_drew1 | refine below_set ?_ GE203.out | refine below_set ?_ GE223.out) | exact HB.out)⟩
                   ·
                    rw [if_neg c86] at H
                    have c86b0 : decide (((rd_T46 l0 x101_3).f0) < t205) = false := decide_eq_false c86
                    clear c86
                    have H' := Aside0.mk H
                    clear H
                    obtain ⟨Ao90, co90, eo90⟩ := Kd.R_slice HO_18.out
                    subst eo90
                    have hnb91 := NB223_203.out
                    have hnc91 := NB203_223.out
                    have hcz92_0 : wc.cell? ⟨gb223, 0, none⟩ = some (.int .i64 ((rd_T46 l0 x101_3).f0)) := (blk_cell BK223.out 0).trans rfl
                    have hcz92_1 : wc.cell? ⟨gb223, 1, none⟩ = some (.int .i64 ((rd_T46 l0 x101_3).f1)) := (blk_cell BK223.out 1).trans rfl
                    have hcz92_2 : wc.cell? ⟨gb223, 2, none⟩ = some (.int .i64 ((rd_T46 l0 x101_3).f2)) := (blk_cell BK223.out 2).trans rfl
                    have hcz92_3 : wc.cell? ⟨gb223, 3, none⟩ = some (.int .i64 ((rd_T46 l0 x101_3).f3)) := (blk_cell BK223.out 3).trans rfl
                    have hcz92_4 : wc.cell? ⟨gb223, 4, none⟩ = some (.int .i64 ((rd_T46 l0 x101_3).f4)) := (blk_cell BK223.out 4).trans rfl
                    have hfz92_0 := blk_frozen BK223.out 0
                    have hfz92_1 := blk_frozen BK223.out 1
                    have hfz92_2 := blk_frozen BK223.out 2
                    have hfz92_3 := blk_frozen BK223.out 3
                    have hfz92_4 := blk_frozen BK223.out 4
                    go_wp2
                    go_roundg kj68
                    case measure => have := HJ6.out; have := HK2.out; have := HK3.out; have := HJ68.out; omega
                    case rel => exact ⟨(wrap64 (x101_3 + 1)), (by first | rfl | (simp; done) | (simp [*]; done)), H', ⟨by have := HJ6.out; have := HK2.out; have := HK3.out; have := HJ68.out; omega⟩, ⟨by (with_reducible repeat (first | refine blk_drewN ?_ _ | refine blk_drew ?_ | refine blk_alloc ?_ _)); exact BK203.out⟩, ⟨by repeat (first | (with_reducible first | exact HB.out | apply below_alloc | apply pw_below_drewN | apply below_drew1 | refine below_set ?_ GE203.out | refine below_set ?_ GE223.out) | exact HB.out)⟩⟩
                  ·
                   rw [if_neg c85] at H
                   have c85b0 : ((t224.length : Int) == x10_2) = false := beq_eq_false_iff_ne.mpr c85
                   have c85b1 : ((t224.length : Int) != x10_2) = true := bne_iff_ne.mpr c85
                   have H' := Aside0.mk H
                   clear H
                   obtain ⟨Ao93, co93, eo93⟩ := Kd.R_slice HO_18.out
                   subst eo93
                   go_wp2
                   go_roundg kj68
                   case measure => have := HJ6.out; have := HK2.out; have := HK3.out; have := HJ68.out; omega
                   case rel => exact ⟨(wrap64 (x101_3 + 1)), (by first | rfl | (simp; done) | (simp [*]; done)), H', ⟨by have := HJ6.out; have := HK2.out; have := HK3.out; have := HJ68.out; omega⟩, ⟨by (with_reducible repeat (first | refine blk_drewN ?_ _ | refine blk_drew ?_ | refine blk_alloc ?_ _)); exact BK203.out⟩, ⟨by repeat (first | (with_reducible first | exact HB.out | apply below_alloc | apply pw_below_drewN | apply below_drew1 | refine below_set ?_ GE203.out | refine below_set ?_ GE223.out) | exact HB.out)⟩⟩
                ·
                 rw [if_neg c82] at H
                 have c82b0 : (t209 == 0) = false := beq_eq_false_iff_ne.mpr c82
                 have c82b1 : (t209 != 0) = true := bne_iff_ne.mpr c82
                 obtain rfl := Option.some.inj H
                 go_wp2
                 go_ret
                 exact ⟨by first | rfl | (simp [errW_none, errW_some] <;> rfl) | (simp [*, errW_none, errW_some] <;> rfl), by repeat (first | (with_reducible first | exact HB.out | apply below_alloc | apply pw_below_drewN | apply below_drew1 | refine below_set ?_ GE203.out | refine below_set ?_ GE223.out) | exact HB.out)⟩
            ·
             rw [if_neg c67] at H
             exact absurd H (by simp)
           ·
            rw [if_neg c66] at H
            exact absurd H (by simp)
          ·
           rw [if_neg c65] at H
           have c65b0 : decide (x101_3 < (l0.length : Int)) = false := decide_eq_false c65
           clear c65
           by_cases c94 : t209 = 0
           ·
            rw [if_pos c94] at H
            have c94b0 : (t209 == 0) = true := beq_iff_eq.mpr c94
            have c94b1 : (t209 != 0) = false := bne_eq_false_iff_eq.mpr c94
            clear c94
            obtain rfl := Option.some.inj H
            go_wp2
            go_ret
            exact ⟨by first | rfl | (simp [errW_none, errW_some] <;> rfl) | (simp [*, errW_none, errW_some] <;> rfl), by repeat (first | (with_reducible first | exact HB.out | apply below_alloc | apply pw_below_drewN | apply below_drew1 | refine below_set ?_ GE203.out) | exact HB.out)⟩
           ·
            rw [if_neg c94] at H
            have c94b0 : (t209 == 0) = false := beq_eq_false_iff_ne.mpr c94
            have c94b1 : (t209 != 0) = true := bne_iff_ne.mpr c94
            obtain rfl := Option.some.inj H
            go_wp2
            go_ret
            exact ⟨by first | rfl | (simp [errW_none, errW_some] <;> rfl) | (simp [*, errW_none, errW_some] <;> rfl), by repeat (first | (with_reducible first | exact HB.out | apply below_alloc | apply pw_below_drewN | apply below_drew1 | refine below_set ?_ GE203.out) | exact HB.out)⟩
 ·
  replace c5 := Bool.eq_false_iff.mpr c5
  subst c5
  have H1 : (some false) = some r := by rw [if_neg (show ¬ (false = true) by decide)] at H; exact H
  clear H
  have H := H1
  clear H1
  obtain rfl := Option.some.inj H
  go_enter Try.func8, Try.ntmps8
  go_wp2_with (first | ((with_reducible refine gate_dst (N := 5) rfl ?_); (try (refine gate_guard (by rfl) ?_; dsimp only)); refine box_event ?hg (N := 5) ?hd (cs := #[.int .i64 a2_0, .int .i64 a2_1]) (t := 25) ?hr ?_; (case hd => rfl); (case hg => rfl); (case hr => first | (go_simp; done) | (go_simp; rfl)); intro gb203 hg w95 hbox hb; have n0_ := Aside0.mk (below_step (by repeat (first | (with_reducible first | exact HB.out | apply below_alloc | apply pw_below_drewN | apply below_drew1) | exact HB.out)) hb); have n1_ := Aside0.mk (hbox); have n2_ := Aside0.mk ((by rw [hg]; exact (below_size (by repeat (first | (with_reducible first | exact HB.out | apply below_alloc | apply pw_below_drewN | apply below_drew1) | exact HB.out))) : w.heap.size ≤ gb203)); have n3_ := Aside0.mk ((by rw [hg]; exact (below_size (by repeat (first | (with_reducible first | exact HB.out | apply below_alloc | apply pw_below_drewN | apply below_drew1) | exact HB.out))) : w.heap.size ≤ gb203)); clear HB; have HB := n0_; have BK203 := n1_; have GW203 := n2_; have GE203 := n3_; clear n0_ n1_ n2_ n3_; clear hb hbox hg) | ((with_reducible refine gate_callee (f := 31) rfl ?_); refine goesL_ (some 21) rfl rfl Try.func31 (by kernel_rfl) rfl #[] rfl (by (try simp only [List.map_toArray, List.map_cons, List.map_nil]); first | done | rfl | (simp only [List.length_drop, List.length_take]; rfl)) ?_; (with_reducible refine (furlonglaw07_awake.calls k  false _ A4.out).mono ?_); rintro e w96 ⟨rfl, hb⟩; refine ⟨_, rfl, ?_⟩; have n0_ := Aside0.mk (blk_below (g := gb203) (o := .cells #[.int .i64 a2_0, .int .i64 a2_1] 25 (0, 0)) (by (with_reducible repeat (first | refine blk_drewN ?_ _ | refine blk_drew ?_ | refine blk_alloc ?_ _)); exact BK203.out) hb); have n1_ := Aside0.mk (below_step (by repeat (first | (with_reducible first | exact HB.out | apply below_alloc | apply pw_below_drewN | apply below_drew1 | refine below_set ?_ GE203.out) | exact HB.out)) hb); clear BK203; clear HB; have BK203 := n0_; have HB := n1_; clear n0_ n1_; (try clear hb); (try clear hb2); (try clear hk); (try clear hi)))
  go_ret
  exact ⟨by first | rfl | (simp [errW_none, errW_some] <;> rfl) | (simp [*, errW_none, errW_some] <;> rfl), by repeat (first | (with_reducible first | exact HB.out | apply below_alloc | apply pw_below_drewN | apply below_drew1 | refine below_set ?_ GE203.out) | exact HB.out)⟩

end Go.Proofs.Ytkbcjagkacijnaa.PPl
end
section
namespace Go.Proofs.Ytkbcjagkacijnaa.PPl
open Go.RowKit Go.Proofs.YtkbcjagkacijnaaW.PrintWords Go.Proofs.YtkbcjagkacijnaaW.PrintLast
set_option linter.unusedVariables false
set_option linter.unusedSimpArgs false
theorem ints_ev (a b : List Int) (ha : a.length < 4611686018427387904) : Ev (fun k => furlongref01_Ints.f k a b) (decide (a = b)) := by
  by_cases hl : a.length = b.length
  · have key : ∀ (n i : Nat), i + n = a.length → Ev (fun k => furlongref01_Ints.l0 k a b (a.length : Int) (i : Int)) (decide (a.drop i = b.drop i)) := by
      intro n
      induction n with
      | zero =>
        intro i hi
        refine Ev.step (h := fun _ => some true) (fun k => ?_) ((Ev.of fun _ => rfl).eq ?_)
        · simp only [furlongref01_Ints.l0]
          rw [if_neg (by omega)]
        · rw [List.drop_of_length_le (by omega), List.drop_of_length_le (by omega)]; rfl
      | succ n ih =>
        intro i hi
        have h1 : i < a.length := by omega
        have h2 : i < b.length := by omega
        have d1 : a.drop i = a[i] :: a.drop (i + 1) := List.drop_eq_getElem_cons h1
        have d2 : b.drop i = b[i] :: b.drop (i + 1) := List.drop_eq_getElem_cons h2
        by_cases e : a[i] = b[i]
        · refine Ev.step (fun k => ?_) ((ih (i + 1) (by omega)).eq ?_)
          · simp only [furlongref01_Ints.l0]
            rw [if_pos (by omega), if_pos (by omega), if_pos (by omega), if_pos (by omega), rdI_get h1, rdI_get h2, if_pos e, w_succ (by omega)]
          · refine decide_eq_decide.mpr ⟨fun h => by rw [d1, d2, e, h], fun h => ?_⟩
            rw [d1, d2] at h
            exact (List.cons.inj h).2
        · refine Ev.step (h := fun _ => some false) (fun k => ?_) ((Ev.of fun _ => rfl).eq ?_)
          · simp only [furlongref01_Ints.l0]
            rw [if_pos (by omega), if_pos (by omega), if_pos (by omega), if_pos (by omega), rdI_get h1, rdI_get h2, if_neg e]
          · refine (decide_eq_false fun h => ?_).symm
            rw [d1, d2] at h
            exact e (List.cons.inj h).1
    have := key a.length 0 (by omega)
    have e : (fun k => furlongref01_Ints.f k a b) = fun k => furlongref01_Ints.l0 k a b (a.length : Int) ((0 : Nat) : Int) := by
      funext k
      unfold furlongref01_Ints.f
      rw [if_pos (by omega)]
      rfl
    rw [e]
    simpa using this
  · refine (Ev.of fun k => ?_).eq (show false = _ from ?_)
    · unfold furlongref01_Ints.f
      rw [if_neg (by omega)]
    · symm
      rw [decide_eq_false_iff_not]
      intro h
      rw [h] at hl
      exact hl rfl
theorem awake_ev : Ev (fun k => furlonglaw07_awake.f k) true := by
  have e : place_Find.f [⟨1, 4, 9, 0, 0⟩, ⟨2, 2, 9, 0, 0⟩] [⟨5, 0, 1, [0, 2], 0, 0, 0, false⟩] 2 3 = some (1, [1, 3], 0) := by decide
  have : (fun k => furlonglaw07_awake.f k) = fun k => (furlongref01_Ints.f k [1, 3] [1, 3]).bind fun t => some t := by
    funext k
    unfold furlonglaw07_awake.f
    rw [e]
    rfl
  rw [this]
  exact Ev.bind (ints_ev [1, 3] [1, 3] (by decide)) (Ev.of fun _ => rfl)
/-- May a list's Ids be? -/
def wfL (l0 : List S46) (l1 : List S50) : Prop := (l0.all (fun n => wfI n.f0) && l1.all (fun x => wfI x.f2)) = true
theorem find_law (nodes : List S46) (leases : List S50) (a0 a1 : Int) (hw : wfL nodes leases) : place_Find.f nodes leases a0 a1 = some (findD nodes leases a0 a1) := by
  unfold place_Find.f
  unfold wfL at hw
  rw [if_pos hw, findV_findD]
theorem free_law (nodes : List S46) (leases : List S50) (id : Int) (hw : wfL nodes leases) : place_Free.f nodes leases id = some (freeD nodes leases id) := by
  unfold place_Free.f
  unfold wfL at hw
  rw [if_pos hw, freeV_freeD]
theorem freeD_self {nodes : List S46} {leases : List S50} (h : chk nodes leases = 0) {n : S46} (hn : n ∈ nodes) : freeD nodes leases n.f0 = (freeCores leases n, n.f2 - memOf n.f0 leases, 0) := by
  unfold freeD
  rw [if_neg (by omega), find_self (nds_all (chk_ok h).2.1).1 hn]
section
variable (nodes : List S46) (leases : List S50) (a0 a1 : Int)
theorem fits_l1 (hw : wfL nodes leases) (h : chk nodes leases = 0) {id best : Int} {e : Int} (hbest : e = 0 → 0 ≤ best)
    (hno : e ≠ 0 → ∀ n ∈ nodes, fits a0 a1 leases n = false)
    (hyes : e = 0 → ∀ n ∈ nodes, fits a0 a1 leases n = true → best ≤ ((freeCores leases n).length : Int) ∧ (best = ((freeCores leases n).length : Int) → id ≤ n.f0)) :
    ∀ (m i : Nat), i + m = nodes.length → Ev (fun k => furlonglaw07_PlaceFits.l1 k nodes leases id e best nodes (nodes.length : Int) (i : Int) a0 a1) true := by
  have h64 := (chk_ok h).1
  intro m
  induction m with
  | zero =>
    intro i hi
    refine Ev.step (h := fun _ => some true) (fun k => ?_) (Ev.of fun _ => rfl)
    simp only [furlonglaw07_PlaceFits.l1]
    rw [if_neg (by omega)]
    by_cases he : e = 0
    · rw [if_pos he, decide_eq_true (hbest he)]
    · rw [if_neg he]
  | succ m ih =>
    intro i hi
    have hlt : i < nodes.length := by omega
    have hmem := List.getElem_mem hlt
    have hF := freeD_self h hmem
    have next := ih (i + 1) (by omega)
    generalize hn : nodes[i] = n at hmem hF
    have jt : ∀ (b3 b4 : Int), Ev (fun k => furlonglaw07_PlaceFits.j4 k nodes leases id e best (freeCores leases n) nodes (nodes.length : Int) (i : Int) true a0 a1 n.f0 n.f1 n.f2 b3 b4) true := fun b3 b4 => Ev.step (fun k => by simp only [furlonglaw07_PlaceFits.j4, ↓reduceIte]; rw [w_succ (by omega)]) next
    by_cases c1 : ((freeCores leases n).length : Int) < a0
    · refine Ev.step (fun k => ?_) (jt n.f3 n.f4)
      simp only [furlonglaw07_PlaceFits.l1]
      rw [if_pos (by omega), if_pos (by omega), if_pos (by omega), rd46_get hlt, hn, free_law nodes leases _ hw, hF]
      simp only [Option.bind_some]
      rw [if_pos c1]
    · by_cases c2 : n.f2 - memOf n.f0 leases < a1
      · refine Ev.step (fun k => ?_) (jt n.f3 n.f4)
        simp only [furlonglaw07_PlaceFits.l1]
        rw [if_pos (by omega), if_pos (by omega), if_pos (by omega), rd46_get hlt, hn, free_law nodes leases _ hw, hF]
        simp only [Option.bind_some]
        rw [if_neg c1, decide_eq_true c2]
      · have hfit : fits a0 a1 leases n = true := by unfold fits; rw [decide_eq_true (by omega), decide_eq_true (by omega)]; rfl
        have he : e = 0 := Classical.byContradiction fun he => by rw [hno he n hmem] at hfit; cases hfit
        have hy := hyes he n hmem hfit
        refine Ev.step (h := fun k => furlonglaw07_PlaceFits.j4 k nodes leases id e best (freeCores leases n) nodes (nodes.length : Int) (i : Int) false a0 a1 n.f0 n.f1 n.f2 n.f3 n.f4) (fun k => ?_) (Ev.step (fun k => ?_) next)
        · simp only [furlonglaw07_PlaceFits.l1]
          rw [if_pos (by omega), if_pos (by omega), if_pos (by omega), rd46_get hlt, hn, free_law nodes leases _ hw, hF]
          simp only [Option.bind_some]
          rw [if_neg c1, decide_eq_false c2]
        · simp only [furlonglaw07_PlaceFits.j4, Bool.false_eq_true, ↓reduceIte]
          rw [if_pos he, if_neg (by omega), w_succ (by omega)]
          by_cases c3 : ((freeCores leases n).length : Int) = best
          · rw [if_pos c3, if_neg (by have := hy.2 c3.symm; omega)]
          · rw [if_neg c3]
end
section
variable (nodes : List S46) (leases : List S50) (a0 a1 : Int)
/-- Round i of the first loop on: the best is known once its node is behind. -/
theorem fits_l0 (hw : wfL nodes leases) (h : chk nodes leases = 0) {id : Int} {cs : List Int} {e : Int} {M : S46}
    (hM : e = 0 → M ∈ nodes ∧ M.f0 = id ∧ cs = (freeCores leases M).take a0.toNat ∧ 1 ≤ a0 ∧ fits a0 a1 leases M = true)
    (hnext : ∀ best : Int, (e = 0 → best = ((freeCores leases M).length : Int)) → Ev (fun k => furlonglaw07_PlaceFits.l1 k nodes leases id e best nodes (nodes.length : Int) ((0 : Nat) : Int) a0 a1) true) :
    ∀ (m i : Nat), i + m = nodes.length → ∀ best : Int, (e = 0 → (∃ n ∈ nodes.take i, n = M) → best = ((freeCores leases M).length : Int)) →
      Ev (fun k => furlonglaw07_PlaceFits.l0 k nodes leases id cs e best nodes (nodes.length : Int) (i : Int) a0 a1) true := by
  have h64 := (chk_ok h).1
  have hid := (nds_all (chk_ok h).2.1).1
  intro m
  induction m with
  | zero =>
    intro i hi best hb
    refine Ev.step (fun k => ?_) (hnext best fun he => hb he ⟨M, by rw [List.take_of_length_le (by omega)]; exact (hM he).1, rfl⟩)
    simp only [furlonglaw07_PlaceFits.l0]
    rw [if_neg (by omega)]
    rfl
  | succ m ih =>
    intro i hi best hb
    have hlt : i < nodes.length := by omega
    have hmem := List.getElem_mem hlt
    have ht : nodes.take (i + 1) = nodes.take i ++ [nodes[i]] := List.take_succ_eq_append_getElem hlt
    have hF := freeD_self h hmem
    generalize hn : nodes[i] = n at hmem hF ht
    have other : ((n.f0 = id ∧ e = 0) → False) → Ev (fun k => furlonglaw07_PlaceFits.j2 k nodes leases id cs e best (freeCores leases n) (n.f2 - memOf n.f0 leases) nodes (nodes.length : Int) (i : Int) false a0 a1) true := fun hno => by
      refine Ev.step (fun k => ?_) (ih (i + 1) (by omega) best fun he hx => ?_)
      · simp only [furlonglaw07_PlaceFits.j2, Bool.false_eq_true, ↓reduceIte]
        rw [w_succ (by omega)]
      · obtain ⟨x, hx, rfl⟩ := hx
        rw [ht] at hx
        rcases List.mem_append.1 hx with hx | hx
        · exact hb he ⟨x, hx, rfl⟩
        · simp at hx
          subst hx
          exact (hno ⟨(hM he).2.1, he⟩).elim
    have head : ∀ k, furlonglaw07_PlaceFits.l0 (k + 1) nodes leases id cs e best nodes (nodes.length : Int) (i : Int) a0 a1 = if n.f0 = id then furlonglaw07_PlaceFits.j2 k nodes leases id cs e best (freeCores leases n) (n.f2 - memOf n.f0 leases) nodes (nodes.length : Int) (i : Int) (e == 0) a0 a1 else furlonglaw07_PlaceFits.j2 k nodes leases id cs e best (freeCores leases n) (n.f2 - memOf n.f0 leases) nodes (nodes.length : Int) (i : Int) false a0 a1 := fun k => by
      simp only [furlonglaw07_PlaceFits.l0]
      rw [if_pos (by omega), if_pos (by omega), if_pos (by omega), rd46_get hlt, hn, free_law nodes leases _ hw, hF]
      simp only [Option.bind_some, ↓reduceIte]
    by_cases c1 : n.f0 = id
    · by_cases c2 : e = 0
      · obtain ⟨hM1, hM2, hM3, hM4, hM5⟩ := hM c2
        obtain rfl : n = M := id_inj hid hmem hM1 (by omega)
        unfold fits at hM5
        simp only [Bool.and_eq_true, decide_eq_true_eq] at hM5
        have hlen : cs.length = a0.toNat := by rw [hM3, List.length_take]; omega
        refine Ev.step (fun k => by rw [head, if_pos c1]) (Ev.step (h := fun k => (furlongref01_Ints.f k cs ((freeCores leases n).take cs.length)).bind fun t => if t = true then furlonglaw07_PlaceFits.l0 k nodes leases id cs e ((freeCores leases n).length : Int) nodes (nodes.length : Int) ((i + 1 : Nat) : Int) a0 a1 else some false) (fun k => ?_) ?_)
        · simp only [furlonglaw07_PlaceFits.j2]
          rw [show (e == 0) = true by simp [c2], if_pos rfl, if_pos (by omega), if_neg (by omega), if_neg (by omega), if_pos (by omega), if_pos (by omega), w_succ (by omega)]
          rfl
        · refine Ev.bind (ints_ev _ _ (by have := freeCores_le leases n (by have := (nds_all (chk_ok h).2.1).2 n hmem; omega); omega)) ?_
          rw [show decide (cs = (freeCores leases n).take cs.length) = true by rw [hlen]; exact decide_eq_true hM3]
          simp only [↓reduceIte]
          exact ih (i + 1) (by omega) _ fun _ _ => rfl
      · refine Ev.step (fun k => by rw [head, if_pos c1, show (e == 0) = false by simpa using c2]) (other fun hh => c2 hh.2)
    · exact Ev.step (fun k => by rw [head, if_neg c1]) (other fun hh => c1 hh.1)
end
/-- P7.2: Fits. -/
theorem fits_ev (nodes : List S46) (leases : List S50) (a0 a1 : Int) (hw : wfL nodes leases) (hN : nodes.length < 1048577) (hL : leases.length < 1048577) (hsz : sizes leases ≤ 1048576) :
    Ev (fun k => furlonglaw07_PlaceFits.f k nodes leases a0 a1) true := by
  unfold furlonglaw07_PlaceFits.f
  refine Ev.bind awake_ev ?_
  simp only [if_true]
  rw [find_law nodes leases a0 a1 hw]
  simp only [Option.bind_some]
  have jt : ∀ e : Int, Ev (fun k => furlonglaw07_PlaceFits.j0 k nodes leases 0 [] e true a0 a1) true := fun e => Ev.step (h := fun _ => some true) (fun k => by simp [furlonglaw07_PlaceFits.j0]) (Ev.of fun _ => rfl)
  have jf : ∀ (id e : Int) (cs : List Int), Ev (fun k => furlonglaw07_PlaceFits.l0 k nodes leases id cs e (-1) nodes (nodes.length : Int) ((0 : Nat) : Int) a0 a1) true → Ev (fun k => furlonglaw07_PlaceFits.j0 k nodes leases id cs e false a0 a1) true := fun id e cs hh => Ev.step (fun k => by simp only [furlonglaw07_PlaceFits.j0, Bool.false_eq_true, ↓reduceIte]; rfl) hh
  unfold findD
  by_cases h : chk nodes leases = 0
  · rw [if_neg (show ¬ chk nodes leases ≠ 0 by omega)]
    by_cases c : a0 < 1 ∨ 64 < a0 ∨ goodV a0 a1 = false
    · rw [if_pos c]
      exact jt 1
    · rw [if_neg c]
      cases hp : pick a0 a1 leases none nodes with
      | none =>
        have hz := pick_none h hp
        simp only
        refine jf 0 10 [] (fits_l0 nodes leases a0 a1 hw h (M := z46) (fun he => absurd he (by decide)) (fun best _ => fits_l1 nodes leases a0 a1 hw h (fun he => absurd he (by decide)) (fun _ => hz) (fun he => absurd he (by decide)) nodes.length 0 (by omega)) nodes.length 0 (by omega) (-1) (fun he => absurd he (by decide)))
      | some m =>
        obtain ⟨h1, h2, h3⟩ := pick_some h hp
        simp only [↓reduceIte]
        refine jf m.f0 0 _ (fits_l0 nodes leases a0 a1 hw h (M := m) (fun _ => ⟨h2, rfl, rfl, by omega, h1⟩) (fun best hb => ?_) nodes.length 0 (by omega) (-1) (fun _ hx => by obtain ⟨x, hx, _⟩ := hx; simp at hx))
        have hb := hb rfl
        exact fits_l1 nodes leases a0 a1 hw h (fun _ => by omega) (fun he => absurd rfl he) (fun _ n hn hf => by have := h3 n hn hf; omega) nodes.length 0 (by omega)
  · rw [if_pos h]
    have hc : chk nodes leases = 3 ∨ chk nodes leases = 4 := by
      unfold chk at h ⊢
      split
      · exact .inl rfl
      · split
        · rename_i h1 h2
          exact absurd (by rw [if_neg h1, if_pos h2]) h
        · exact .inr rfl
    simp only
    rcases hc with hc | hc
    · rw [hc]; exact jt 3
    · rw [hc]; exact jt 4
end Go.Proofs.Ytkbcjagkacijnaa.PPl
end
section
namespace Go.Proofs.Ytkbcjagkacijnaa.Open
set_option linter.unusedVariables false
set_option linter.unusedSimpArgs false
open Go.RowKit Go.Proofs.YtkbcjagkacijnaaW.PrintWords

/-- Values of type T read as what k says; good: what is known of them; bulk: no more than the data's. -/
def Opens {α : Type} (P : Program) (T : TypeId) (k : Kd α) (good : α → Prop) (bulk : α → Nat) : Prop :=
  ∀ (H : Type) (enc : TypeId × Value → H) (W : World) (fuel : Nat) (cs : List Value) (x : DataW H × List MemPlace),
    DataW.trod enc P W 0 (fun _ => true) true fuel T cs = some x → ∃ a : α, k.K W a cs ∧ good a ∧ bulk a ≤ Rows.uptoBulk x.1

theorem Opens.int {P : Program} {T : TypeId} {q : IntKind} (h : P.underlying T = some (.int q)) : Opens P T (Kd.int q) (fun n => (Lit.int q n).wf = true) (fun _ => 1) := by
  intro H enc W fuel cs x hx
  obtain ⟨n, rfl, rfl, hw⟩ := DataW.trod_int h hx
  exact ⟨n, rfl, hw, by simp [Rows.uptoBulk]⟩
theorem Opens.bool {P : Program} {T : TypeId} (h : P.underlying T = some .bool) : Opens P T Kd.bool (fun _ => True) (fun _ => 1) := by
  intro H enc W fuel cs x hx
  obtain ⟨n, rfl, rfl⟩ := DataW.trod_bool h hx
  exact ⟨n, rfl, trivial, by simp [Rows.uptoBulk]⟩

theorem list_of {α : Type} (n : Nat) : ∀ (R : Nat → α → Prop), (∀ i, i < n → ∃ a, R i a) → ∃ l : List α, l.length = n ∧ ∀ i a, l[i]? = some a → R i a := by
  induction n with
  | zero => intro R _; exact ⟨[], rfl, fun i a h => by simp at h⟩
  | succ n ih =>
    intro R h
    obtain ⟨a, ha⟩ := h 0 (by omega)
    obtain ⟨l, hl, hr⟩ := ih (fun i a => R (i + 1) a) (fun i hi => h (i + 1) (by omega))
    refine ⟨a :: l, by simp [hl], fun i b hb => ?_⟩
    cases i with
    | zero => simp at hb; subst hb; exact ha
    | succ i => exact hr i b (by simpa using hb)

theorem cells_get {w : World} {base : Nat} {a : Addr} {n : Nat} {cs : List Value} (h : w.cells? base a n = some cs) (j : Nat) (u : Value) (hu : cs[j]? = some u) : w.cell? (a.add j) = some u := by
  unfold World.cells? at h
  split at h
  · have hl := mapM_some_length h
    have hj : j < n := by
      have := (List.getElem?_eq_some_iff.1 hu).1
      simp at hl; omega
    have := mapM_some_get h j j (by simp [hj])
    rw [this, hu]
  · cases h

theorem add_add (a : Addr) (m j : Nat) : (a.add m).add j = a.add (m + j) := by
  unfold Addr.add
  by_cases h1 : m = 0 <;> by_cases h2 : j = 0 <;> simp [h1, h2, Nat.add_assoc]
theorem bulk_sum {α H : Type} (bulk : α → Nat) : ∀ (l : List α) (ds : List (DataW H)), l.length = ds.length → (∀ (i : Nat) (a : α) (d : DataW H), l[i]? = some a → ds[i]? = some d → bulk a ≤ Rows.uptoBulk d) → (l.map bulk).sum ≤ Rows.uptoBulkAll ds
  | [], [], _, _ => by simp
  | a :: l, d :: ds, hl, h => by
    have h0 := h 0 a d rfl rfl
    have h1 := bulk_sum bulk l ds (by simpa using hl) (fun i b e hb he => h (i + 1) b e (by simpa using hb) (by simpa using he))
    simp only [List.map_cons, List.sum_cons, Rows.uptoBulkAll]
    omega
  | [], _ :: _, hl, _ => by simp at hl
  | _ :: _, [], hl, _ => by simp at hl

theorem Opens.slice {α : Type} {P : Program} {T e : TypeId} {k : Kd α} {good : α → Prop} {bulk : α → Nat} (ht : P.underlying T = some (.slice e)) (hz : P.cellsOf e = k.sz) (h : Opens P e k good bulk) :
    Opens P T (Kd.slice e k) (fun l => l.length ≤ maxLen ∧ ∀ a ∈ l, good a) (fun l => (l.map bulk).sum + 1) := by
  intro H enc W fuel cs x hx
  rcases DataW.trod_slice ht hx with ⟨rfl, rfl⟩ | ⟨a, len, cap, elems, rest, n, _, rfl, rfl, _, hl, hm, hlen, hel, _, _⟩
  · exact ⟨[], ⟨none, 0, rfl, Nat.le_refl _, Kd.C_nil k W⟩, ⟨Nat.zero_le _, fun a h => by cases h⟩, by simp [Rows.uptoBulk]⟩
  · have hone : ∀ i, i < len → ∃ v : α, ∃ c, (∃ y, elems[i]? = some y ∧ bulk v ≤ Rows.uptoBulk y.1) ∧ k.K W v c ∧ good v ∧ ∀ j u, c[j]? = some u → W.cell? (a.add (i * k.sz + j)) = some u := by
      intro i hi
      have he := hel i hi
      have hy : elems[i]? = some (elems[i]'(by omega)) := List.getElem?_eq_getElem (by omega)
      rw [hy, Option.bind_eq_some_iff] at he
      obtain ⟨c, hc, ht'⟩ := he
      obtain ⟨v, hv, hg, hb⟩ := h H enc W n c _ ht'
      refine ⟨v, c, ⟨_, hy, hb⟩, hv, hg, fun j u hu => ?_⟩
      have := cells_get hc j u hu
      rw [hz] at this
      rw [← add_add]
      exact this
    obtain ⟨l, hll, hr⟩ := list_of len _ hone
    have hmem : ∀ v ∈ l, good v := by
      intro v hv
      obtain ⟨i, hi⟩ := List.getElem?_of_mem hv
      obtain ⟨c, _, _, hg, _⟩ := hr i v hi
      exact hg
    refine ⟨l, ⟨some a, cap, by rw [hll], by omega, by omega, ?_, fun hpos => ⟨a, rfl, fun j p hp => ?_⟩⟩, ⟨by omega, hmem⟩, ?_⟩
    · unfold maxLen at hm; omega
    · obtain ⟨c, _, hk, _, hc⟩ := hr j p hp
      exact ⟨c, k.K_len hk, hk, hc⟩
    · have hs := bulk_sum (H := H) bulk l (elems.map (·.1)) (by simp [hll, hlen]) (fun i b d hb hd => by
        obtain ⟨c, ⟨y, hy, hby⟩, _⟩ := hr i b hb
        rw [List.getElem?_map, hy] at hd
        simp at hd
        subst hd
        exact hby)
      simp only [Rows.uptoBulk]
      omega

/-- Fields, one behind the other. -/
def OpensFs {α : Type} (P : Program) (ts : List TypeId) (k : Kd α) (good : α → Prop) (bulk : α → Nat) : Prop :=
  ∀ (H : Type) (enc : TypeId × Value → H) (W : World) (n : Nat) (cs : List Value) (xs : List (DataW H × List MemPlace)), cs.length = (ts.map P.cellsOf).sum → xs.length = ts.length →
    (∀ i t, ts[i]? = some t → DataW.trod enc P W 0 (fun _ => true) true n t ((cs.drop ((ts.take i).map P.cellsOf).sum).take (P.cellsOf t)) = xs[i]?) →
    ∃ a : α, k.K W a cs ∧ good a ∧ bulk a ≤ Rows.uptoBulkAll (xs.map (·.1))

theorem OpensFs.one {α : Type} {P : Program} {t : TypeId} {k : Kd α} {good : α → Prop} {bulk : α → Nat} (h : Opens P t k good bulk) : OpensFs P [t] k good bulk := by
  intro H enc W n cs xs hl hx hf
  match xs, hx with
  | [x], _ =>
    have h0 := hf 0 t rfl
    simp at h0 hl
    rw [List.take_of_length_le (by omega)] at h0
    obtain ⟨a, h1, h2, h3⟩ := h H enc W n cs x h0
    exact ⟨a, h1, h2, by simpa [Rows.uptoBulkAll] using h3⟩

theorem OpensFs.cons {α β : Type} {P : Program} {t : TypeId} {ts : List TypeId} {k : Kd α} {ks : Kd β} {g : α → Prop} {gs : β → Prop} {b : α → Nat} {bs : β → Nat} (h : Opens P t k g b) (hs : OpensFs P ts ks gs bs) :
    OpensFs P (t :: ts) (Kd.pair k ks) (fun x => g x.1 ∧ gs x.2) (fun x => b x.1 + bs x.2) := by
  intro H enc W n cs xs hl hx hf
  match xs, hx with
  | x :: xs, hx =>
    have h0 := hf 0 t rfl
    simp at h0 hl
    obtain ⟨a, h1, h2, h3⟩ := h H enc W n _ x h0
    obtain ⟨c, g1, g2, g3⟩ := hs H enc W n (cs.drop (P.cellsOf t)) xs (by rw [List.length_drop]; omega) (by simpa using hx) (fun i t' ht' => by
      have := hf (i + 1) t' (by simpa using ht')
      simp only [List.take_succ_cons, List.map_cons, List.sum_cons, List.getElem?_cons_succ] at this
      rw [List.drop_drop]
      exact this)
    exact ⟨(a, c), ⟨_, _, (List.take_append_drop (P.cellsOf t) cs).symm, h1, g1⟩, ⟨h2, g2⟩, by simp only [List.map_cons, Rows.uptoBulkAll]; omega⟩

theorem Opens.struct {α : Type} {P : Program} {T : TypeId} {fs : Array Field} {ts : List TypeId} {k : Kd α} {good : α → Prop} {bulk : α → Nat} (ht : P.underlying T = some (.struct fs))
    (hts : fs.toList.map (·.type) = ts) (hoff : fs.toList.map (·.offset) = (List.range ts.length).map fun i => ((ts.take i).map P.cellsOf).sum) (hsz : P.cellsOf T = (ts.map P.cellsOf).sum) (h : OpensFs P ts k good bulk) :
    Opens P T k good (fun a => bulk a + 1) := by
  intro H enc W fuel cs x hx
  obtain ⟨xs, n, _, rfl, hl, hlen, hf⟩ := DataW.trod_struct ht hx
  have hn : ts.length = fs.size := by rw [← hts]; simp
  obtain ⟨a, h1, h2, h3⟩ := h H enc W n cs xs (by rw [hl, hsz]) (by rw [hlen, hn]) (fun i t hi => by
    have hlt : i < fs.size := by have := (List.getElem?_eq_some_iff.1 hi).1; omega
    have hfi : fs[i]? = some fs[i] := Array.getElem?_eq_getElem hlt
    have e1 : fs[i].type = t := by
      have := congrArg (fun l => l[i]?) hts
      simp [hi, hlt] at this
      exact this
    have e2 : fs[i].offset = ((ts.take i).map P.cellsOf).sum := by
      have := congrArg (fun l => l[i]?) hoff
      simp [hlt, hn] at this
      rw [List.map_take]
      exact this
    have := hf i _ hfi
    rw [e1, e2] at this
    exact this)
  exact ⟨a, h1, h2, by simp only [Rows.uptoBulk]; omega⟩

theorem Opens.iso {α β : Type} {P : Program} {T : TypeId} {k : Kd α} {good : α → Prop} {bulk : α → Nat} (f : β → α) (g : α → β) (hfg : ∀ a, f (g a) = a) (h : Opens P T k good bulk) :
    Opens P T (Kd.iso k f) (fun b => good (f b)) (fun b => bulk (f b)) := by
  intro H enc W fuel cs x hx
  obtain ⟨a, h1, h2, h3⟩ := h H enc W fuel cs x hx
  exact ⟨g a, by show k.K W (f (g a)) cs; rw [hfg]; exact h1, by show good (f (g a)); rw [hfg]; exact h2, by show bulk (f (g a)) ≤ _; rw [hfg]; exact h3⟩
end Go.Proofs.Ytkbcjagkacijnaa.Open
end
section
namespace Go.Proofs.Ytkbcjagkacijnaa.Open
open Go.RowKit Go.Proofs.YtkbcjagkacijnaaW.PrintWords
set_option linter.unusedVariables false
abbrev kV : Kd (Int × Int) := Kd.pair (Kd.int .i64) (Kd.int .i64)
abbrev okV (x : Int × Int) : Prop := (Lit.int .i64 x.1).wf = true ∧ (Lit.int .i64 x.2).wf = true
set_option maxRecDepth 100000 in
theorem vec : Opens Try.prog 25 kV okV (fun _ => 1 + 1 + 1) :=
  Opens.struct (ts := [2, 2]) Try.underlying25 (by kernel_rfl) (by kernel_rfl) (by kernel_rfl) (OpensFs.cons (Opens.int Try.underlying2) (OpensFs.one (Opens.int Try.underlying2)))
theorem of_vec {W : World} {c : Array Value} {x : Int × Int} (h : kV.K W x c.toList) : c = #[.int .i64 x.1, .int .i64 x.2] := by
  obtain ⟨d, e, h1, rfl, rfl⟩ := h
  exact Array.toList_inj.mp (by simpa using h1)
end Go.Proofs.Ytkbcjagkacijnaa.Open
end
section
namespace Go.Proofs.Ytkbcjagkacijnaa.Open
open Go.RowKit Go.Proofs.YtkbcjagkacijnaaW.PrintWords Go.Proofs.Ytkbcjagkacijnaa.PPl
set_option linter.unusedVariables false
theorem Opens.less {α : Type} {P : Program} {T : TypeId} {k : Kd α} {good : α → Prop} {b b' : α → Nat} (h : Opens P T k good b) (hb : ∀ a, b' a ≤ b a) : Opens P T k good b' := by
  intro H enc W fuel cs x hx
  obtain ⟨a, h1, h2, h3⟩ := h H enc W fuel cs x hx
  exact ⟨a, h1, h2, Nat.le_trans (hb a) h3⟩
theorem ones : ∀ (l : List Int), (l.map fun _ => (1 : Nat)).sum = l.length
  | [] => rfl
  | a :: l => by rw [List.map_cons, List.sum_cons, ones l, List.length_cons]; omega
def wf64' (z : Int) : Prop := (Lit.int .i64 z).wf = true
def okN (x : S46) : Prop := wf64' x.f0 ∧ wf64' x.f1 ∧ wf64' x.f2 ∧ wf64' x.f3 ∧ wf64' x.f4
def okL (x : S50) : Prop := wf64' x.f0 ∧ wf64' x.f1 ∧ wf64' x.f2 ∧ (x.f3.length ≤ maxLen ∧ ∀ a ∈ x.f3, (Lit.int .i64 a).wf = true) ∧ wf64' x.f4 ∧ wf64' x.f5 ∧ wf64' x.f6 ∧ True
def bulkN (l : List S46) : Nat := l.length
def bulkL (l : List S50) : Nat := l.length + (l.map fun x => x.f3.length).sum
set_option maxRecDepth 100000 in
theorem node : Opens Try.prog 46 k46 okN (fun _ => 1 + (1 + (1 + (1 + 1))) + 1) :=
  Opens.iso (fun x : S46 => (x.f0, x.f1, x.f2, x.f3, x.f4)) (fun y => ⟨y.1, y.2.1, y.2.2.1, y.2.2.2.1, y.2.2.2.2⟩) (fun _ => rfl)
    (Opens.struct (ts := [3, 3, 2, 3, 3]) Try.underlying46 (by kernel_rfl) (by kernel_rfl) (by kernel_rfl)
      (OpensFs.cons (Opens.int Try.underlying3) (OpensFs.cons (Opens.int Try.underlying3) (OpensFs.cons (Opens.int Try.underlying2) (OpensFs.cons (Opens.int Try.underlying3) (OpensFs.one (Opens.int Try.underlying3)))))))
set_option maxRecDepth 100000 in
theorem cores : Opens Try.prog 28 (Kd.slice 3 (Kd.int .i64)) (fun l => l.length ≤ maxLen ∧ ∀ a ∈ l, (Lit.int .i64 a).wf = true) (fun l => (l.map fun _ => 1).sum + 1) :=
  Opens.slice Try.underlying28 (by kernel_rfl) (Opens.int Try.underlying3)
set_option maxRecDepth 100000 in
theorem lease : Opens Try.prog 50 k50 okL (fun x => 1 + (1 + (1 + (((x.f3.map fun _ => 1).sum + 1) + (1 + (1 + (1 + 1)))))) + 1) :=
  Opens.iso (fun x : S50 => (x.f0, x.f1, x.f2, x.f3, x.f4, x.f5, x.f6, x.f7)) (fun y => ⟨y.1, y.2.1, y.2.2.1, y.2.2.2.1, y.2.2.2.2.1, y.2.2.2.2.2.1, y.2.2.2.2.2.2.1, y.2.2.2.2.2.2.2⟩) (fun _ => rfl)
    (Opens.struct (ts := [3, 3, 3, 28, 2, 2, 2, 4]) Try.underlying50 (by kernel_rfl) (by kernel_rfl) (by kernel_rfl)
      (OpensFs.cons (Opens.int Try.underlying3) (OpensFs.cons (Opens.int Try.underlying3) (OpensFs.cons (Opens.int Try.underlying3) (OpensFs.cons cores (OpensFs.cons (Opens.int Try.underlying2) (OpensFs.cons (Opens.int Try.underlying2) (OpensFs.cons (Opens.int Try.underlying2) (OpensFs.one (Opens.bool Try.underlying4))))))))))
set_option maxRecDepth 100000 in
theorem nodes : Opens Try.prog 22 (Kd.slice 46 k46) (fun l => l.length ≤ maxLen ∧ ∀ a ∈ l, okN a) bulkN :=
  Opens.less (Opens.slice Try.underlying22 (by kernel_rfl) node) fun l => by
    show l.length ≤ (l.map fun _ => 1 + (1 + (1 + (1 + 1))) + 1).sum + 1
    induction l with
    | nil => simp
    | cons a l ih => simp only [List.map_cons, List.sum_cons, List.length_cons] at ih ⊢; omega
set_option maxRecDepth 100000 in
theorem leases : Opens Try.prog 23 (Kd.slice 50 k50) (fun l => l.length ≤ maxLen ∧ ∀ a ∈ l, okL a) bulkL :=
  Opens.less (Opens.slice Try.underlying23 (by kernel_rfl) lease) fun l => by
    show l.length + (l.map fun x => x.f3.length).sum ≤ (l.map fun x => 1 + (1 + (1 + (((x.f3.map fun _ => 1).sum + 1) + (1 + (1 + (1 + 1)))))) + 1).sum + 1
    induction l with
    | nil => simp
    | cons a l ih =>
      have := ones a.f3
      simp only [List.map_cons, List.sum_cons, List.length_cons] at ih ⊢
      omega
end Go.Proofs.Ytkbcjagkacijnaa.Open
end
section
namespace Go.Proofs.Ytkbcjagkacijnaa.Walk
set_option linter.unusedVariables false
open Go.RowKit Go.Proofs.YtkbcjagkacijnaaW.PrintWords Go.Proofs.Ytkbcjagkacijnaa.PPl
theorem wfL_of {l0 : List S46} {l1 : List S50} (g0 : ∀ a ∈ l0, Open.okN a) (g1 : ∀ a ∈ l1, Open.okL a) : wfL l0 l1 := by
  unfold wfL
  rw [Bool.and_eq_true, List.all_eq_true, List.all_eq_true]
  exact ⟨fun a h => (g0 a h).1, fun a h => (g1 a h).2.2.1⟩
theorem sizes_of (l : List S50) : l.length + sizes l = Open.bulkL l := rfl
theorem PlaceFits (W : World) (A0 : Option Addr) (c0 : Nat) (l0 : List S46) (hc0 : l0.length ≤ c0) (hr0 : k46.C W A0 l0.length l0) (g0 : l0.length ≤ maxLen ∧ ∀ a ∈ l0, Open.okN a)
    (A1 : Option Addr) (c1 : Nat) (l1 : List S50) (hc1 : l1.length ≤ c1) (hr1 : k50.C W A1 l1.length l1) (g1 : l1.length ≤ maxLen ∧ ∀ a ∈ l1, Open.okL a)
    (cs : Array Value) (x : Int × Int) (hK : Open.kV.K W x cs.toList) (g2 : Open.okV x) (hb : Open.bulkN l0 + Open.bulkL l1 ≤ 1048576) :
    Calls Try.prog 8 #[.slice A0 l0.length c0, .slice A1 l1.length c1, .agg cs] W fun e w' => e = .returned (.bool true) ∧ Below W.heap.size W w' := by
  obtain rfl := Open.of_vec hK
  have hs := sizes_of l1
  have hn : Open.bulkN l0 = l0.length := rfl
  obtain ⟨k, h⟩ := fits_ev l0 l1 x.1 x.2 (wfL_of g0.2 g1.2) (by omega) (by omega) (by omega)
  exact furlonglaw07_PlaceFits.calls k A0 c0 l0 A1 c1 l1 x.1 x.2 true W hr0 hc0 hr1 hc1 (h k (Nat.le_refl _))
end Go.Proofs.Ytkbcjagkacijnaa.Walk
end
