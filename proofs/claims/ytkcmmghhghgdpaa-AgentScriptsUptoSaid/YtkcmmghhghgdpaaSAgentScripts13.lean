/- What the law AgentScripts needs of the seat's contracts and plain laws, several texts one behind the other; no conditions. -/
import Derived.Test.YtkcmmghhghgdpaaSAgentScripts12
section
namespace Go.Proofs.Ytkcmmghhghgdpaa.Open
open Go.RowKit Go.Proofs.YtkcmmghhghgdpaaW.PrintWords Go.Proofs.Ytkcmmghhghgdpaa.Agt
set_option linter.unusedVariables false
theorem Opens.lessB {α : Type} {P : Program} {T : TypeId} {k : Kd α} {good : α → Prop} {b b' : α → Nat} (h : Opens P T k good b) (hb : ∀ a, b' a ≤ b a) : Opens P T k good b' := by
  intro H enc W fuel cs x hx
  obtain ⟨a, h1, h2, h3⟩ := h H enc W fuel cs x hx
  exact ⟨a, h1, h2, Nat.le_trans (hb a) h3⟩
theorem onesB : ∀ (l : List Int), (l.map fun _ => (1 : Nat)).sum = l.length
  | [] => rfl
  | a :: l => by rw [List.map_cons, List.sum_cons, onesB l, List.length_cons]; omega
def bkL (l : List Ls) : Nat := l.length + (l.map fun x => x.cores.length).sum
def bkA (l : List AOp) : Nat := (l.map fun o => bkL o.leases).sum
set_option maxRecDepth 100000 in
theorem leaseB : Opens Try.prog 81 kLs okLs (fun x => 1 + (1 + (1 + (((x.cores.map fun _ => 1).sum + 1) + (1 + (1 + (1 + 1)))))) + 1) :=
  Opens.iso (fun x : Ls => (x.task, x.queue, x.node, x.cores, x.mem, x.since, x.til, x.stop)) (fun y => ⟨y.1, y.2.1, y.2.2.1, y.2.2.2.1, y.2.2.2.2.1, y.2.2.2.2.2.1, y.2.2.2.2.2.2.1, y.2.2.2.2.2.2.2⟩) (fun _ => rfl)
    (Opens.struct (ts := [3, 3, 3, 22, 2, 2, 2, 4]) Try.underlying81 (by kernel_rfl) (by kernel_rfl) (by kernel_rfl)
      (OpensFs.cons (Opens.int Try.underlying3) (OpensFs.cons (Opens.int Try.underlying3) (OpensFs.cons (Opens.int Try.underlying3) (OpensFs.cons ints (OpensFs.cons (Opens.int Try.underlying2) (OpensFs.cons (Opens.int Try.underlying2) (OpensFs.cons (Opens.int Try.underlying2) (OpensFs.one (Opens.bool Try.underlying4))))))))))
set_option maxRecDepth 100000 in
theorem leasesB : Opens Try.prog 55 (Kd.slice 81 kLs) (fun l => l.length ≤ maxLen ∧ ∀ a ∈ l, okLs a) bkL :=
  Opens.lessB (Opens.slice Try.underlying55 (by kernel_rfl) leaseB) fun l => by
    show l.length + (l.map fun x => x.cores.length).sum ≤ (l.map fun x => 1 + (1 + (1 + (((x.cores.map fun _ => 1).sum + 1) + (1 + (1 + (1 + 1)))))) + 1).sum + 1
    induction l with
    | nil => simp
    | cons a l ih =>
      have := onesB a.cores
      simp only [List.map_cons, List.sum_cons, List.length_cons] at ih ⊢
      omega
set_option maxRecDepth 100000 in
theorem aopB : Opens Try.prog 58 kAOp okAOp (fun x => 1 + (1 + (1 + (1 + (bkL x.leases + 0)))) + 1) :=
  Opens.iso (fun x : AOp => (x.kind, x.n, x.m, x.dt, x.leases, x.tasks)) (fun y => ⟨y.1, y.2.1, y.2.2.1, y.2.2.2.1, y.2.2.2.2.1, y.2.2.2.2.2⟩) (fun _ => rfl)
    (Opens.struct (ts := [3, 3, 3, 2, 55, 56]) Try.underlying58 (by kernel_rfl) (by kernel_rfl) (by kernel_rfl)
      (OpensFs.cons (Opens.int Try.underlying3) (OpensFs.cons (Opens.int Try.underlying3) (OpensFs.cons (Opens.int Try.underlying3) (OpensFs.cons (Opens.int Try.underlying2) (OpensFs.cons leasesB (OpensFs.one tasksA)))))))
set_option maxRecDepth 100000 in
theorem aopsB : Opens Try.prog 54 (Kd.slice 58 kAOp) (fun l => l.length ≤ maxLen ∧ ∀ a ∈ l, okAOp a) bkA :=
  Opens.lessB (Opens.slice Try.underlying54 (by kernel_rfl) aopB) fun l => by
    show (l.map fun o => bkL o.leases).sum ≤ (l.map fun x => 1 + (1 + (1 + (1 + (bkL x.leases + 0)))) + 1).sum + 1
    induction l with
    | nil => simp
    | cons a l ih =>
      simp only [List.map_cons, List.sum_cons] at ih ⊢
      omega
theorem sum_mem {α : Type} (f : α → Nat) : ∀ (l : List α) (x : α), x ∈ l → f x ≤ (l.map f).sum
  | a :: l, x, h => by
    rw [List.map_cons, List.sum_cons]
    rcases List.mem_cons.1 h with rfl | h
    · omega
    · have := sum_mem f l x h
      omega
theorem bkA_mem {l : List AOp} {n : Nat} (h : bkA l ≤ n) {o : AOp} (ho : o ∈ l) : o.leases.length ≤ n ∧ ∀ x ∈ o.leases, x.cores.length ≤ n := by
  have h1 := sum_mem (fun o : AOp => bkL o.leases) l o ho
  unfold bkA at h
  unfold bkL at h1 h
  refine ⟨by omega, fun x hx => ?_⟩
  have h2 := sum_mem (fun x : Ls => x.cores.length) o.leases x hx
  omega
end Go.Proofs.Ytkcmmghhghgdpaa.Open
namespace Go.Proofs.Ytkcmmghhghgdpaa.Agt
open Go.RowKit Go.Shelf Go.Maps Go.Proofs.Ytkcmmghhghgdpaa.Iter Go.Proofs.Ytkcmmghhghgdpaa.Str Go.Proofs.YtkcmmghhghgdpaaW.PrintWords Go.Proofs.YtkcmmghhghgdpaaW.PrintLast
set_option linter.unusedVariables false
set_option linter.unusedSimpArgs false
def playG (S : Ag) (kd n m dt : Int) (xs : List Ls) (ts : List Ts) : Ag :=
  if kd = 0 then (bootG S n).1 else if kd = 1 then (haltG S).1 else if kd = 2 then (passG S dt).1 else if kd = 3 then (beatG S).1 else if kd = 4 then (replyG S n m xs ts).1 else if kd = 5 then (quantG S).1 else S
/-- Who doesn't run has nothing. -/
def OffG (S : Ag) : Prop := S.runs = false → S.sent = [] ∧ S.replied = 0 ∧ S.jobs = []
theorem playG_w {S : Ag} {N : Nat} (h : AgW S N) (kd n m dt : Int) (xs : List Ls) (ts : List Ts) : AgW (playG S kd n m dt xs ts) (N + 1) := by
  unfold playG
  split
  · exact (h.boot n).mono (Nat.le_succ _)
  split
  · exact h.halt.mono (Nat.le_succ _)
  split
  · exact (h.pass dt).mono (Nat.le_succ _)
  split
  · exact h.beat
  split
  · exact (h.reply n m xs ts).mono (Nat.le_succ _)
  split
  · exact h.quant
  · exact h.mono (Nat.le_succ _)
theorem playG_off {S : Ag} (h : OffG S) (kd n m dt : Int) (xs : List Ls) (ts : List Ts) : OffG (playG S kd n m dt xs ts) := by
  unfold playG
  split
  · unfold bootG
    split
    · exact h
    split
    · exact h
    · intro h2
      cases h2
  split
  · unfold haltG
    split
    · exact fun _ => ⟨rfl, rfl, rfl⟩
    · exact h
  split
  · unfold passG
    split
    · exact h
    split
    · exact h
    · exact h
  split
  · unfold beatG
    split
    · rename_i hr
      intro h2
      exact absurd (hr.symm.trans h2) (by simp)
    · exact h
  split
  · unfold replyG
    split
    · rename_i hr
      split
      · exact h
      split
      · intro h2
        exact absurd (hr.symm.trans h2) (by simp)
      · exact h
    · exact h
  split
  · intro h2
    obtain ⟨e1, e2, e3⟩ := h h2
    exact ⟨e1, e2, by show S.jobs.map _ = []; rw [e3]; rfl⟩
  · exact h
theorem DocM.moveT {Q : Nat → Prop} {vs vj : Value} {l : List (Jb × DJ)} {S : Ag} {W W' : World} (h : DocM Q vs vj l S W) (hk : ∀ (k : Nat) (cur : Array Value) (e : TypeId), k < W.heap.size → W.heap[k]? = some (Obj.cells cur e (0, 0)) → e ≠ tDA → W'.heap[k]? = W.heap[k]?) : DocM Q vs vj l S W' :=
  ⟨h.fst, Str.own_move h.sent fun k hb => by obtain ⟨_, hl, cur, hc⟩ := own_block h.sent hb; exact hk k cur tQ hl hc (by decide), h.sentQ, Str.own_move h.jrow fun k hb => by obtain ⟨_, hl, cur, hc⟩ := own_block h.jrow hb; exact hk k cur tDJ hl hc (by decide), h.jrowQ,
   fun p hp => (h.job p hp).move2 fun k cur e hl hc he => hk k cur e hl hc (by rcases he with rfl | rfl <;> decide)⟩
theorem play_all {Q : Nat → Prop} {a : Nat} {As Aj : Option Addr} {cs cj : Nat} {l : List (Jb × DJ)} {S : Ag} {N : Nat} {xs : List Ls} {ts : List Ts} (kd n m dt : Int) (Al At : Option Addr) (cl ct : Nat) (W : World) (hag : AgQ a S Q W) (hd : DocM Q (.slice As S.sent.length cs) (.slice Aj l.length cj) l S W) (hq : ∀ k, Q k → k < W.heap.size)
    (hw : AgW S N) (hN : N ≤ 1000) (hoff : OffG S) (hL : ReadsL (fun k => ¬ Q k) W Al xs) (hT : ReadsT (fun k => ¬ Q k) W At ts) (hxl : xs.length ≤ 2000000) (hcl : ∀ x ∈ xs, x.cores.length ≤ 2000000) (htl : ts.length ≤ 9223372036854775807) :
    Calls Try.prog 41 #[ptr a, .agg #[.int .i64 S.nid, .int .i64 S.nco, .int .i64 S.nme, .int .i64 S.nin, .int .i64 S.nbe, .int .i64 S.short, .int .i64 S.clock, .bool S.runs, .int .i64 S.inc, .slice As S.sent.length cs, .int .i64 S.replied, .slice Aj l.length cj], .agg #[.int .i64 kd, .int .i64 n, .int .i64 m, .int .i64 dt, .slice Al xs.length cl, .slice At ts.length ct]] W (PlayD Q a (playG S kd n m dt xs ts) W) := by
  have hsl : S.sent.length ≤ 100000 := by have := hw.len; omega
  have hhad : ∀ j ∈ S.jobs, j.had < 9223372036854775807 := fun j hj => by have := hw.had j hj; omega
  unfold playG
  by_cases k0 : kd = 0
  · subst k0
    rw [if_pos rfl]
    exact play0 n m dt Al At _ cl _ ct W rfl hag hd hq hoff
  by_cases k1 : kd = 1
  · subst k1
    rw [if_neg (by decide), if_pos rfl]
    exact play1 n m dt Al At _ cl _ ct W rfl hag hd hq
  by_cases k2 : kd = 2
  · subst k2
    rw [if_neg (by decide), if_neg (by decide), if_pos rfl]
    exact play2 n m dt Al At _ cl _ ct W rfl hag hd hq hw.ok
  by_cases k3 : kd = 3
  · subst k3
    rw [if_neg (by decide), if_neg (by decide), if_neg (by decide), if_pos rfl]
    exact play3 n m dt Al At _ cl _ ct W rfl hag hd hq hsl
  by_cases k4 : kd = 4
  · subst k4
    rw [if_neg (by decide), if_neg (by decide), if_neg (by decide), if_neg (by decide), if_pos rfl]
    exact play4 n m dt Al At cl ct W rfl hag hd hq hw.ok hsl hL hT hxl hcl htl
  by_cases k5 : kd = 5
  · subst k5
    rw [if_neg (by decide), if_neg (by decide), if_neg (by decide), if_neg (by decide), if_neg (by decide), if_pos rfl]
    exact play5 n m dt Al At _ cl _ ct W rfl hag hd hq hw.ok hhad
  · rw [if_neg k0, if_neg k1, if_neg k2, if_neg k3, if_neg k4, if_neg k5]
    exact playN kd n m dt Al At _ cl _ ct W hag hd hq (beq_eq_false_iff_ne.mpr k0) (beq_eq_false_iff_ne.mpr k1) (beq_eq_false_iff_ne.mpr k2) (beq_eq_false_iff_ne.mpr k3) (beq_eq_false_iff_ne.mpr k4) (beq_eq_false_iff_ne.mpr k5)
set_option maxRecDepth 100000 in
set_option maxHeartbeats 4000000 in
theorem newDn (nid nco nme nin nbe short : Int) (W : World) (hno : ¬ okNew nid nco nme short) :
    Calls Try.prog 40 #[.agg #[.int .i64 nid, .int .i64 nco, .int .i64 nme, .int .i64 nin, .int .i64 nbe], .int .i64 short] W fun e W' => e = .returned (.tuple #[.agg #[.int .i64 0, .int .i64 0, .int .i64 0, .int .i64 0, .int .i64 0, .int .i64 0, .int .i64 0, .bool false, .int .i64 0, .slice none 0 0, .int .i64 0, .slice none 0 0], .int .i64 1]) ∧ Below W.heap.size W W' := by
  have bX := Blk.new W 53 #[.int .i64 nid, .int .i64 nco, .int .i64 nme, .int .i64 nin, .int .i64 nbe]
  have d0 := bX.cell 0
  have d1 := bX.cell 1
  have d2 := bX.cell 2
  have d3 := bX.cell 3
  have d4 := bX.cell 4
  simp only [List.getElem?_toArray, List.getElem?_cons_zero, List.getElem?_cons_succ] at d0 d1 d2 d3 d4
  have hb0 := Lib.hid ((Below.refl W.heap.size W).alloc (Nat.le_refl _) (.cells #[.int .i64 nid, .int .i64 nco, .int .i64 nme, .int .i64 nin, .int .i64 nbe] 53))
  clear bX
  by_cases c1 : nid < 0
  · go_enter Try.func40, Try.ntmps40
    go_wp2
    have RR := Blk.new (W.alloc (.cells #[.int .i64 nid, .int .i64 nco, .int .i64 nme, .int .i64 nin, .int .i64 nbe] 53)) tDA #[.int .i64 0, .int .i64 0, .int .i64 0, .int .i64 0, .int .i64 0, .int .i64 0, .int .i64 0, .bool false, .int .i64 0, .slice none 0 0, .int .i64 0, .slice none 0 0]
    rw [World.size_alloc] at RR
    refine bodyPost_ret (results_ct rfl _ _ _ tDA #[.int .i64 0, .int .i64 0, .int .i64 0, .int .i64 0, .int .i64 0, .int .i64 0, .int .i64 0, .bool false, .int .i64 0, .slice none 0 0, .int .i64 0, .slice none 0 0] (0, 0) _ rfl RR Try.underlying91 rfl (by kernel_rfl)) rfl ?_
    exact ⟨rfl, (hb0.out.alloc (by simp) _)⟩
  by_cases c2 : nco < 1
  · go_enter Try.func40, Try.ntmps40
    go_wp2
    have RR := Blk.new (W.alloc (.cells #[.int .i64 nid, .int .i64 nco, .int .i64 nme, .int .i64 nin, .int .i64 nbe] 53)) tDA #[.int .i64 0, .int .i64 0, .int .i64 0, .int .i64 0, .int .i64 0, .int .i64 0, .int .i64 0, .bool false, .int .i64 0, .slice none 0 0, .int .i64 0, .slice none 0 0]
    rw [World.size_alloc] at RR
    refine bodyPost_ret (results_ct rfl _ _ _ tDA #[.int .i64 0, .int .i64 0, .int .i64 0, .int .i64 0, .int .i64 0, .int .i64 0, .int .i64 0, .bool false, .int .i64 0, .slice none 0 0, .int .i64 0, .slice none 0 0] (0, 0) _ rfl RR Try.underlying91 rfl (by kernel_rfl)) rfl ?_
    exact ⟨rfl, (hb0.out.alloc (by simp) _)⟩
  by_cases c3 : 64 < nco
  · go_enter Try.func40, Try.ntmps40
    go_wp2
    have RR := Blk.new (W.alloc (.cells #[.int .i64 nid, .int .i64 nco, .int .i64 nme, .int .i64 nin, .int .i64 nbe] 53)) tDA #[.int .i64 0, .int .i64 0, .int .i64 0, .int .i64 0, .int .i64 0, .int .i64 0, .int .i64 0, .bool false, .int .i64 0, .slice none 0 0, .int .i64 0, .slice none 0 0]
    rw [World.size_alloc] at RR
    refine bodyPost_ret (results_ct rfl _ _ _ tDA #[.int .i64 0, .int .i64 0, .int .i64 0, .int .i64 0, .int .i64 0, .int .i64 0, .int .i64 0, .bool false, .int .i64 0, .slice none 0 0, .int .i64 0, .slice none 0 0] (0, 0) _ rfl RR Try.underlying91 rfl (by kernel_rfl)) rfl ?_
    exact ⟨rfl, (hb0.out.alloc (by simp) _)⟩
  by_cases c4 : nme < 0
  · go_enter Try.func40, Try.ntmps40
    go_wp2
    have RR := Blk.new (W.alloc (.cells #[.int .i64 nid, .int .i64 nco, .int .i64 nme, .int .i64 nin, .int .i64 nbe] 53)) tDA #[.int .i64 0, .int .i64 0, .int .i64 0, .int .i64 0, .int .i64 0, .int .i64 0, .int .i64 0, .bool false, .int .i64 0, .slice none 0 0, .int .i64 0, .slice none 0 0]
    rw [World.size_alloc] at RR
    refine bodyPost_ret (results_ct rfl _ _ _ tDA #[.int .i64 0, .int .i64 0, .int .i64 0, .int .i64 0, .int .i64 0, .int .i64 0, .int .i64 0, .bool false, .int .i64 0, .slice none 0 0, .int .i64 0, .slice none 0 0] (0, 0) _ rfl RR Try.underlying91 rfl (by kernel_rfl)) rfl ?_
    exact ⟨rfl, (hb0.out.alloc (by simp) _)⟩
  by_cases c5 : 1099511627776 < nme
  · go_enter Try.func40, Try.ntmps40
    go_wp2
    have RR := Blk.new (W.alloc (.cells #[.int .i64 nid, .int .i64 nco, .int .i64 nme, .int .i64 nin, .int .i64 nbe] 53)) tDA #[.int .i64 0, .int .i64 0, .int .i64 0, .int .i64 0, .int .i64 0, .int .i64 0, .int .i64 0, .bool false, .int .i64 0, .slice none 0 0, .int .i64 0, .slice none 0 0]
    rw [World.size_alloc] at RR
    refine bodyPost_ret (results_ct rfl _ _ _ tDA #[.int .i64 0, .int .i64 0, .int .i64 0, .int .i64 0, .int .i64 0, .int .i64 0, .int .i64 0, .bool false, .int .i64 0, .slice none 0 0, .int .i64 0, .slice none 0 0] (0, 0) _ rfl RR Try.underlying91 rfl (by kernel_rfl)) rfl ?_
    exact ⟨rfl, (hb0.out.alloc (by simp) _)⟩
  by_cases c6 : short < 0
  · go_enter Try.func40, Try.ntmps40
    go_wp2
    have RR := Blk.new (W.alloc (.cells #[.int .i64 nid, .int .i64 nco, .int .i64 nme, .int .i64 nin, .int .i64 nbe] 53)) tDA #[.int .i64 0, .int .i64 0, .int .i64 0, .int .i64 0, .int .i64 0, .int .i64 0, .int .i64 0, .bool false, .int .i64 0, .slice none 0 0, .int .i64 0, .slice none 0 0]
    rw [World.size_alloc] at RR
    refine bodyPost_ret (results_ct rfl _ _ _ tDA #[.int .i64 0, .int .i64 0, .int .i64 0, .int .i64 0, .int .i64 0, .int .i64 0, .int .i64 0, .bool false, .int .i64 0, .slice none 0 0, .int .i64 0, .slice none 0 0] (0, 0) _ rfl RR Try.underlying91 rfl (by kernel_rfl)) rfl ?_
    exact ⟨rfl, (hb0.out.alloc (by simp) _)⟩
  by_cases c7 : 1099511627776 < short
  · go_enter Try.func40, Try.ntmps40
    go_wp2
    have RR := Blk.new (W.alloc (.cells #[.int .i64 nid, .int .i64 nco, .int .i64 nme, .int .i64 nin, .int .i64 nbe] 53)) tDA #[.int .i64 0, .int .i64 0, .int .i64 0, .int .i64 0, .int .i64 0, .int .i64 0, .int .i64 0, .bool false, .int .i64 0, .slice none 0 0, .int .i64 0, .slice none 0 0]
    rw [World.size_alloc] at RR
    refine bodyPost_ret (results_ct rfl _ _ _ tDA #[.int .i64 0, .int .i64 0, .int .i64 0, .int .i64 0, .int .i64 0, .int .i64 0, .int .i64 0, .bool false, .int .i64 0, .slice none 0 0, .int .i64 0, .slice none 0 0] (0, 0) _ rfl RR Try.underlying91 rfl (by kernel_rfl)) rfl ?_
    exact ⟨rfl, (hb0.out.alloc (by simp) _)⟩
  exact absurd (show okNew nid nco nme short by unfold okNew; omega) hno
theorem newDy (nid nco nme nin nbe short : Int) (W : World) (hok : okNew nid nco nme short) :
    Calls Try.prog 40 #[.agg #[.int .i64 nid, .int .i64 nco, .int .i64 nme, .int .i64 nin, .int .i64 nbe], .int .i64 short] W fun e W' => e = .returned (.tuple #[.agg #[.int .i64 nid, .int .i64 nco, .int .i64 nme, .int .i64 nin, .int .i64 nbe, .int .i64 short, .int .i64 0, .bool false, .int .i64 0, .slice none 0 0, .int .i64 0, .slice none 0 0], .int .i64 0]) ∧ Below W.heap.size W W' :=
  (newD nid nco nme nin nbe short W).mono fun e W' ⟨h1, _, h3⟩ => ⟨h1 hok, h3⟩
end Go.Proofs.Ytkcmmghhghgdpaa.Agt
end
section
namespace Go.Proofs.Ytkcmmghhghgdpaa.Walk
open Go.RowKit Go.Shelf Go.Maps Go.Proofs.Ytkcmmghhghgdpaa.Iter Go.Proofs.Ytkcmmghhghgdpaa.Str Go.Proofs.Ytkcmmghhghgdpaa.Agt Go.Proofs.YtkcmmghhghgdpaaW.PrintWords Go.Proofs.YtkcmmghhghgdpaaW.PrintLast
set_option linter.unusedVariables false
set_option linter.unusedSimpArgs false

set_option maxRecDepth 100000 in
set_option maxHeartbeats 16000000 in
theorem AgentScripts (W : World) (cs1 : Array Value) (nd : Int × Int × Int × Int × Int) (hk1 : Open.kNd.K W nd cs1.toList) (g1 : Open.okNd nd) (short : Int) (gs : (Lit.int .i64 short).wf = true)
    (A0 : Option Addr) (c0 : Nat) (ops : List Open.AOp) (hc0 : ops.length ≤ c0) (hr0 : Open.kAOp.C W A0 ops.length ops) (g0 : ops.length ≤ maxLen ∧ ∀ a ∈ ops, Open.okAOp a) (hbk : Open.bkA ops ≤ 1048576) :
    Calls Try.prog 12 #[.agg cs1, .int .i64 short, .slice A0 ops.length c0] W fun e W' => e = .returned (.bool true) ∧ Below W.heap.size W W' := by
  obtain ⟨nid, nco, nme, nin, nbe⟩ := nd
  obtain rfl := node_cells hk1
  dsimp only
  have hl63 : ops.length ≤ 9223372036854775807 := g0.1
  have hR := Lib.hid (readsA_C hr0 g0.2)
  clear hr0 g0 hk1 g1 gs
  have hbk' := Lib.hid hbk
  clear hbk
  have bW0 : Below W.heap.size W (W.alloc (.cells #[.int .i64 nid, .int .i64 nco, .int .i64 nme, .int .i64 nin, .int .i64 nbe] 53)) := (Below.refl _ _).alloc (Nat.le_refl _) _
  have bnd0 := Blk.new W 53 #[.int .i64 nid, .int .i64 nco, .int .i64 nme, .int .i64 nin, .int .i64 nbe]
  by_cases hok : okNew nid nco nme short
  rotate_left
  · go_enter Try.func12, Try.ntmps12
    go_wp2_with (first | (((with_reducible refine gate_callee (f := 26) rfl ?_); refine goesL_ (some 14) rfl rfl Try.func26 (by kernel_rfl) rfl #[] rfl (by (try simp only [List.map_toArray, List.map_cons, List.map_nil]); first | done | rfl) ?_; (with_reducible refine (Agt.awake_calls _).mono ?_); rintro e w1 ⟨rfl, b1⟩; refine ⟨_, rfl, ?_⟩; have b1' := Lib.hid (bW0.trans (below_le b1 bW0.size)); have bn1 := bnd0.below b1 bnd0.lt; have n0 := bn1.cell 0; have n1 := bn1.cell 1; have n2 := bn1.cell 2; have n3 := bn1.cell 3; have n4 := bn1.cell 4; simp only [List.getElem?_toArray, List.getElem?_cons_zero, List.getElem?_cons_succ] at n0 n1 n2 n3 n4; have bn1' := Lib.hid bn1; clear b1 bn1)) | (((with_reducible refine gate_callee (f := 27) rfl ?_); refine goesL_ (some 19) rfl rfl Try.func27 (by kernel_rfl) rfl #[.agg #[.int .i64 nid, .int .i64 nco, .int .i64 nme, .int .i64 nin, .int .i64 nbe], .int .i64 short] rfl (by (try simp only [List.map_toArray, List.map_cons, List.map_nil]); first | done | rfl) ?_; (with_reducible refine (newE nid nco nme nin nbe short _).mono ?_); (intro e w2 hnew; obtain ⟨rfl, b2⟩ := newNo hok hnew; clear hnew); refine ⟨_, rfl, ?_⟩; have b2' := Lib.hid (b1'.out.trans (below_le b2 b1'.out.size)); clear n0 n1 n2 n3 n4; have bn2 := bn1'.out.below b2 bn1'.out.lt; have n0 := bn2.cell 0; have n1 := bn2.cell 1; have n2 := bn2.cell 2; have n3 := bn2.cell 3; have n4 := bn2.cell 4; simp only [List.getElem?_toArray, List.getElem?_cons_zero, List.getElem?_cons_succ] at n0 n1 n2 n3 n4; clear b2 bn2)) | (((with_reducible refine gate_callee (f := 40) rfl ?_); refine goesL_ (some 25) rfl rfl Try.func40 (by kernel_rfl) rfl #[.agg #[.int .i64 nid, .int .i64 nco, .int .i64 nme, .int .i64 nin, .int .i64 nbe], .int .i64 short] rfl (by (try simp only [List.map_toArray, List.map_cons, List.map_nil]); first | done | rfl) ?_; (with_reducible refine (newDn nid nco nme nin nbe short _ hok).mono ?_); rintro e w3 ⟨rfl, b3⟩; refine ⟨_, rfl, ?_⟩; have b3' := Lib.hid (b2'.out.trans (below_le b3 b2'.out.size)); clear b3)))
    go_ret
    exact ⟨rfl, b3'.out.alloc b3'.out.size _⟩
  have hok' := Lib.hid hok
  by_cases hbig : 200 < ops.length
  · have hb1 : (200 : Int) < (ops.length : Int) := by omega
    go_enter Try.func12, Try.ntmps12
    go_wp2_with (first | (((with_reducible refine gate_callee (f := 26) rfl ?_); refine goesL_ (some 14) rfl rfl Try.func26 (by kernel_rfl) rfl #[] rfl (by (try simp only [List.map_toArray, List.map_cons, List.map_nil]); first | done | rfl) ?_; (with_reducible refine (Agt.awake_calls _).mono ?_); rintro e w1 ⟨rfl, b1⟩; refine ⟨_, rfl, ?_⟩; have b1' := Lib.hid (bW0.trans (below_le b1 bW0.size)); have bn1 := bnd0.below b1 bnd0.lt; have n0 := bn1.cell 0; have n1 := bn1.cell 1; have n2 := bn1.cell 2; have n3 := bn1.cell 3; have n4 := bn1.cell 4; simp only [List.getElem?_toArray, List.getElem?_cons_zero, List.getElem?_cons_succ] at n0 n1 n2 n3 n4; have bn1' := Lib.hid bn1; clear b1 bn1)) | (((with_reducible refine gate_callee (f := 27) rfl ?_); refine goesL_ (some 19) rfl rfl Try.func27 (by kernel_rfl) rfl #[.agg #[.int .i64 nid, .int .i64 nco, .int .i64 nme, .int .i64 nin, .int .i64 nbe], .int .i64 short] rfl (by (try simp only [List.map_toArray, List.map_cons, List.map_nil]); first | done | rfl) ?_; (with_reducible refine (newE nid nco nme nin nbe short _).mono ?_); (intro e w2 hnew; obtain ⟨a, rfl, g2, b2⟩ := newYes hok hnew; clear hnew); refine ⟨_, rfl, ?_⟩; have ag2' := Lib.hid (AgQ.ofNew g2 b2); have hs1 := b2.size; have b2' := Lib.hid (b1'.out.trans (below_le b2 b1'.out.size)); clear n0 n1 n2 n3 n4; have bn2 := bn1'.out.below b2 bn1'.out.lt; have n0 := bn2.cell 0; have n1 := bn2.cell 1; have n2 := bn2.cell 2; have n3 := bn2.cell 3; have n4 := bn2.cell 4; simp only [List.getElem?_toArray, List.getElem?_cons_zero, List.getElem?_cons_succ] at n0 n1 n2 n3 n4; clear b2 bn2 g2)) | (((with_reducible refine gate_callee (f := 40) rfl ?_); refine goesL_ (some 25) rfl rfl Try.func40 (by kernel_rfl) rfl #[.agg #[.int .i64 nid, .int .i64 nco, .int .i64 nme, .int .i64 nin, .int .i64 nbe], .int .i64 short] rfl (by (try simp only [List.map_toArray, List.map_cons, List.map_nil]); first | done | rfl) ?_; (with_reducible refine (newDy nid nco nme nin nbe short _ hok'.out).mono ?_); rintro e w3 ⟨rfl, b3⟩; refine ⟨_, rfl, ?_⟩; have ag3' := Lib.hid (ag2'.out.below b3); have hs2 := b3.size; have b3' := Lib.hid (b2'.out.trans (below_le b3 b2'.out.size)); clear b3)))
    go_ret
    exact ⟨rfl, b3'.out.alloc b3'.out.size _⟩
  have hb1 : ¬ (200 : Int) < (ops.length : Int) := by omega
  have hinv0 := Lib.hid (AgW.new (nin := nin) (nbe := nbe) hok)
  go_enter Try.func12, Try.ntmps12
  go_wp2_with (first | (((with_reducible refine gate_callee (f := 26) rfl ?_); refine goesL_ (some 14) rfl rfl Try.func26 (by kernel_rfl) rfl #[] rfl (by (try simp only [List.map_toArray, List.map_cons, List.map_nil]); first | done | rfl) ?_; (with_reducible refine (Agt.awake_calls _).mono ?_); rintro e w1 ⟨rfl, b1⟩; refine ⟨_, rfl, ?_⟩; have b1' := Lib.hid (bW0.trans (below_le b1 bW0.size)); have bn1 := bnd0.below b1 bnd0.lt; have n0 := bn1.cell 0; have n1 := bn1.cell 1; have n2 := bn1.cell 2; have n3 := bn1.cell 3; have n4 := bn1.cell 4; simp only [List.getElem?_toArray, List.getElem?_cons_zero, List.getElem?_cons_succ] at n0 n1 n2 n3 n4; have bn1' := Lib.hid bn1; clear b1 bn1)) | (((with_reducible refine gate_callee (f := 27) rfl ?_); refine goesL_ (some 19) rfl rfl Try.func27 (by kernel_rfl) rfl #[.agg #[.int .i64 nid, .int .i64 nco, .int .i64 nme, .int .i64 nin, .int .i64 nbe], .int .i64 short] rfl (by (try simp only [List.map_toArray, List.map_cons, List.map_nil]); first | done | rfl) ?_; (with_reducible refine (newE nid nco nme nin nbe short _).mono ?_); (intro e w2 hnew; obtain ⟨a, rfl, g2, b2⟩ := newYes hok hnew; clear hnew); refine ⟨_, rfl, ?_⟩; have ag2' := Lib.hid (AgQ.ofNew g2 b2); have hs1 := b2.size; have b2' := Lib.hid (b1'.out.trans (below_le b2 b1'.out.size)); clear n0 n1 n2 n3 n4; have bn2 := bn1'.out.below b2 bn1'.out.lt; have n0 := bn2.cell 0; have n1 := bn2.cell 1; have n2 := bn2.cell 2; have n3 := bn2.cell 3; have n4 := bn2.cell 4; simp only [List.getElem?_toArray, List.getElem?_cons_zero, List.getElem?_cons_succ] at n0 n1 n2 n3 n4; clear b2 bn2 g2)) | (((with_reducible refine gate_callee (f := 40) rfl ?_); refine goesL_ (some 25) rfl rfl Try.func40 (by kernel_rfl) rfl #[.agg #[.int .i64 nid, .int .i64 nco, .int .i64 nme, .int .i64 nin, .int .i64 nbe], .int .i64 short] rfl (by (try simp only [List.map_toArray, List.map_cons, List.map_nil]); first | done | rfl) ?_; (with_reducible refine (newDy nid nco nme nin nbe short _ hok'.out).mono ?_); rintro e w3 ⟨rfl, b3⟩; refine ⟨_, rfl, ?_⟩; have ag3' := Lib.hid (ag2'.out.below b3); have hs2 := b3.size; have b3' := Lib.hid (b2'.out.trans (below_le b3 b2'.out.size)); clear b3)))
  obtain ⟨T9, hT9⟩ : ∃ T9, w3.heap.size = T9 := ⟨_, rfl⟩
  have BN := Blk.new w3 tDA #[.int .i64 nid, .int .i64 nco, .int .i64 nme, .int .i64 nin, .int .i64 nbe, .int .i64 short, .int .i64 0, .bool false, .int .i64 0, .slice none 0 0, .int .i64 0, .slice none 0 0]
  have hst := Lib.hid (show ∃ Q : Nat → Prop, AgQ a (newG nid nco nme nin nbe short) Q (w3.alloc (.cells #[.int .i64 nid, .int .i64 nco, .int .i64 nme, .int .i64 nin, .int .i64 nbe, .int .i64 short, .int .i64 0, .bool false, .int .i64 0, .slice none 0 0, .int .i64 0, .slice none 0 0] tDA)) ∧ (∀ k, Q k → k < (w3.alloc (.cells #[.int .i64 nid, .int .i64 nco, .int .i64 nme, .int .i64 nin, .int .i64 nbe, .int .i64 short, .int .i64 0, .bool false, .int .i64 0, .slice none 0 0, .int .i64 0, .slice none 0 0] tDA)).heap.size) ∧ (∀ k, k < W.heap.size → Q k) ∧ Q T9 from
    ⟨fun k => k < w1.heap.size ∨ k = w3.heap.size, ag3'.out.more ((Below.refl _ _).alloc (Nat.le_refl _) _) fun k hk => hk.elim .inl fun h => .inr (by omega), fun k hk => by rw [World.size_alloc]; omega, fun k hk => .inl (by have := b1'.out.size; omega), .inr hT9.symm⟩)
  have hWT : W.heap.size ≤ T9 := by have := b3'.out.size; omega
  have bA' := Lib.hid (b3'.out.alloc b3'.out.size (.cells #[.int .i64 nid, .int .i64 nco, .int .i64 nme, .int .i64 nin, .int .i64 nbe, .int .i64 short, .int .i64 0, .bool false, .int .i64 0, .slice none 0 0, .int .i64 0, .slice none 0 0] tDA))
  rw [hT9] at BN ⊢
  have BN' := Lib.hid BN
  obtain ⟨wA, hwA⟩ : ∃ wA, w3.alloc (.cells #[.int .i64 nid, .int .i64 nco, .int .i64 nme, .int .i64 nin, .int .i64 nbe, .int .i64 short, .int .i64 0, .bool false, .int .i64 0, .slice none 0 0, .int .i64 0, .slice none 0 0] tDA) = wA := ⟨_, rfl⟩
  rw [hwA] at BN' hst bA' ⊢
  clear hwA hT9 BN
  go_loopw [47] (fun iv wr => ∃ (i : Nat) (S : Ag) (As : Option Addr) (cs : Nat) (Aj : Option Addr) (cj : Nat) (l : List (Jb × DJ)) (Q : Nat → Prop), iv = .int .i64 (i : Int) ∧ i ≤ ops.length ∧ AgW S i ∧ OffG S ∧ AgQ a S Q wr ∧ DocM Q (.slice As S.sent.length cs) (.slice Aj l.length cj) l S wr ∧ (∀ k, Q k → k < wr.heap.size) ∧ (∀ k, k < W.heap.size → Q k) ∧ Q T9 ∧ Blk wr T9 tDA #[.int .i64 S.nid, .int .i64 S.nco, .int .i64 S.nme, .int .i64 S.nin, .int .i64 S.nbe, .int .i64 S.short, .int .i64 S.clock, .bool S.runs, .int .i64 S.inc, .slice As S.sent.length cs, .int .i64 S.replied, .slice Aj l.length cj] ∧ Below W.heap.size W wr)
    (fun iv _ => ops.length - (intOf iv).toNat)
  case atStart =>
    obtain ⟨Q, h1, h2, h3, h4⟩ := hst.out
    exact ⟨0, newG nid nco nme nin nbe short, none, 0, none, 0, [], Q, rfl, Nat.zero_le _, hinv0.out, fun _ => ⟨rfl, rfl, rfl⟩, h1, DocM.none rfl rfl, h2, h3, h4, BN'.out, bA'.out⟩
  case round =>
    obtain ⟨i, S, As, cs, Aj, cj, l, Q, rfl, hi, hw, hoff, hag, hd, hq, hQW, hQT, BT, hbW⟩ := hrel
    by_cases hlt : i < ops.length
    · obtain ⟨⟨kd, n, m, dt, ls, ts⟩, hx⟩ : ∃ x, ops[i]? = some x := ⟨ops[i], List.getElem?_eq_getElem hlt⟩
      obtain ⟨ad, Al, cl, At, ct, rfl, _, _, p0, p1, p2, p3, p4, p5, hL, hT, l1, l2⟩ := (hR.out.keep hbW) i _ hx
      obtain ⟨hl1, hl2⟩ := Open.bkA_mem hbk'.out (List.mem_of_getElem? hx)
      dsimp only at p0 p1 p2 p3 p4 p5 hL hT l1 l2 hl1 hl2
      have ba := (Below.refl wr.heap.size wr).alloc (Nat.le_refl _) (.cells #[.int .i64 kd, .int .i64 n, .int .i64 m, .int .i64 dt, .slice Al ls.length cl, .slice At ts.length ct] 58)
      obtain ⟨S2, hS2⟩ : ∃ S2, playG S kd n m dt ls ts = S2 := ⟨_, rfl⟩
      have hwn := Lib.hid (hS2 ▸ playG_w hw kd n m dt ls ts)
      have hon := Lib.hid (hS2 ▸ playG_off hoff kd n m dt ls ts)
      have hP := Lib.hid (show Calls Try.prog 41 #[ptr a, .agg #[.int .i64 S.nid, .int .i64 S.nco, .int .i64 S.nme, .int .i64 S.nin, .int .i64 S.nbe, .int .i64 S.short, .int .i64 S.clock, .bool S.runs, .int .i64 S.inc, .slice As S.sent.length cs, .int .i64 S.replied, .slice Aj l.length cj], .agg #[.int .i64 kd, .int .i64 n, .int .i64 m, .int .i64 dt, .slice Al ls.length cl, .slice At ts.length ct]] (wr.alloc (.cells #[.int .i64 kd, .int .i64 n, .int .i64 m, .int .i64 dt, .slice Al ls.length cl, .slice At ts.length ct] 58)) (PlayD Q a S2 (wr.alloc (.cells #[.int .i64 kd, .int .i64 n, .int .i64 m, .int .i64 dt, .slice Al ls.length cl, .slice At ts.length ct] 58))) from hS2 ▸ play_all kd n m dt Al At cl ct _ (hag.below ba) (hd.below ba) (fun k hk => by have := hq k hk; rw [World.size_alloc]; omega) hw (by omega) hoff
        ((hL.below ba).mono fun k hk => by
          have : ¬ k < W.heap.size := fun h => hk (hQW k h)
          omega) ((hT.below ba).mono fun k hk => by
          have : ¬ k < W.heap.size := fun h => hk (hQW k h)
          omega) (by omega) (fun x hx => by have := hl2 x hx; omega) l2)
      have bC := Blk.new wr 58 #[.int .i64 kd, .int .i64 n, .int .i64 m, .int .i64 dt, .slice Al ls.length cl, .slice At ts.length ct]
      have BTa := BT.alloc (.cells #[.int .i64 kd, .int .i64 n, .int .i64 m, .int .i64 dt, .slice Al ls.length cl, .slice At ts.length ct] 58)
      have d0 := BTa.cell 0
      have d1 := BTa.cell 1
      have d2 := BTa.cell 2
      have d3 := BTa.cell 3
      have d4 := BTa.cell 4
      have d5 := BTa.cell 5
      have d6 := BTa.cell 6
      have d7 := BTa.cell 7
      have d8 := BTa.cell 8
      have d9 := BTa.cell 9
      have d10 := BTa.cell 10
      have d11 := BTa.cell 11
      simp only [List.getElem?_toArray, List.getElem?_cons_zero, List.getElem?_cons_succ] at d0 d1 d2 d3 d4 d5 d6 d7 d8 d9 d10 d11
      have o0 := bC.cell 0
      have o1 := bC.cell 1
      have o2 := bC.cell 2
      have o3 := bC.cell 3
      have o4 := bC.cell 4
      have o5 := bC.cell 5
      simp only [List.getElem?_toArray, List.getElem?_cons_zero, List.getElem?_cons_succ] at o0 o1 o2 o3 o4 o5
      have BT2 := Lib.hid BTa
      have hQT' := Lib.hid hQT
      have hQW' := Lib.hid hQW
      have hsW2 : W.heap.size ≤ (wr.alloc (.cells #[.int .i64 kd, .int .i64 n, .int .i64 m, .int .i64 dt, .slice Al ls.length cl, .slice At ts.length ct] 58)).heap.size := by have := hbW.size; rw [World.size_alloc]; omega
      have hbW2 := Lib.hid (hbW.alloc hbW.size (.cells #[.int .i64 kd, .int .i64 n, .int .i64 m, .int .i64 dt, .slice Al ls.length cl, .slice At ts.length ct] 58))
      clear hw hoff hag hd hq hQW hQT BT hbW hL hT hx ba bC BTa hl1 hl2 hS2
      go_upto_region 14 with (((with_reducible refine gate_callee (f := 41) rfl ?_); refine goesL_ (some 55) rfl rfl Try.func41 (by kernel_rfl) rfl #[ptr a, .agg #[.int .i64 S.nid, .int .i64 S.nco, .int .i64 S.nme, .int .i64 S.nin, .int .i64 S.nbe, .int .i64 S.short, .int .i64 S.clock, .bool S.runs, .int .i64 S.inc, .slice As S.sent.length cs, .int .i64 S.replied, .slice Aj l.length cj], .agg #[.int .i64 kd, .int .i64 n, .int .i64 m, .int .i64 dt, .slice Al ls.length cl, .slice At ts.length ct]] rfl (by (try simp only [List.map_toArray, List.map_cons, List.map_nil]); first | done | rfl) ?_; (with_reducible refine (hP.out).mono ?_); rintro e w4 ⟨As2, cs2, Aj2, cj2, l3, Q2, rfl, p1, p2, p3, p4, p5⟩; refine ⟨_, rfl, ?_⟩; have BT4 := p5.blk hQT'.out BT2.out; clear d0 d1 d2 d3 d4 d5 d6 d7 d8 d9 d10 d11; have d0 := BT4.cell 0; have d1 := BT4.cell 1; have d2 := BT4.cell 2; have d3 := BT4.cell 3; have d4 := BT4.cell 4; have d5 := BT4.cell 5; have d6 := BT4.cell 6; have d7 := BT4.cell 7; have d8 := BT4.cell 8; have d9 := BT4.cell 9; have d10 := BT4.cell 10; have d11 := BT4.cell 11; simp only [List.getElem?_toArray, List.getElem?_cons_zero, List.getElem?_cons_succ] at d0 d1 d2 d3 d4 d5 d6 d7 d8 d9 d10 d11; have f0 := BT4.frozen 0; have f1 := BT4.frozen 1; have f2 := BT4.frozen 2; have f3 := BT4.frozen 3; have f4 := BT4.frozen 4; have f5 := BT4.frozen 5; have f6 := BT4.frozen 6; have f7 := BT4.frozen 7; have f8 := BT4.frozen 8; have f9 := BT4.frozen 9; have f10 := BT4.frozen 10; have f11 := BT4.frozen 11; have BT4' := Lib.hid BT4; have p1' := Lib.hid p1; have p2' := Lib.hid p2; have p3' := Lib.hid p3; have p4' := Lib.hid p4; have p5' := Lib.hid (p5.below (fun k hk => hQW'.out k hk) hsW2); clear p1 p2 p3 p4 p5 BT4))
      change Code.wp _ _ _ _ (set12 w4 T9 (.int .i64 S2.nid) (.int .i64 S2.nco) (.int .i64 S2.nme) (.int .i64 S2.nin) (.int .i64 S2.nbe) (.int .i64 S2.short) (.int .i64 S2.clock) (.bool S2.runs) (.int .i64 S2.inc) (.slice As2 S2.sent.length cs2) (.int .i64 S2.replied) (.slice Aj2 l3.length cj2))
      have BT5a := blk12 BT4'.out (by rfl) (.int .i64 S2.nid) (.int .i64 S2.nco) (.int .i64 S2.nme) (.int .i64 S2.nin) (.int .i64 S2.nbe) (.int .i64 S2.short) (.int .i64 S2.clock) (.bool S2.runs) (.int .i64 S2.inc) (.slice As2 S2.sent.length cs2) (.int .i64 S2.replied) (.slice Aj2 l3.length cj2)
      have hn5 : ∀ k, k ≠ T9 → (set12 w4 T9 (.int .i64 S2.nid) (.int .i64 S2.nco) (.int .i64 S2.nme) (.int .i64 S2.nin) (.int .i64 S2.nbe) (.int .i64 S2.short) (.int .i64 S2.clock) (.bool S2.runs) (.int .i64 S2.inc) (.slice As2 S2.sent.length cs2) (.int .i64 S2.replied) (.slice Aj2 l3.length cj2)).heap[k]? = w4.heap[k]? := fun k hk => set12_heap _ _ _ _ _ _ _ _ _ _ _ _ _ _ hk
      have p1a : AgQ a S2 Q2 (set12 w4 T9 (.int .i64 S2.nid) (.int .i64 S2.nco) (.int .i64 S2.nme) (.int .i64 S2.nin) (.int .i64 S2.nbe) (.int .i64 S2.short) (.int .i64 S2.clock) (.bool S2.runs) (.int .i64 S2.inc) (.slice As2 S2.sent.length cs2) (.int .i64 S2.replied) (.slice Aj2 l3.length cj2)) := p1'.out.only (by simp [set12]) fun k hl hnq => hn5 k (fun e => hnq (e ▸ p3'.out T9 hQT'.out))
      have p2a := p2'.out.moveT (W' := set12 w4 T9 (.int .i64 S2.nid) (.int .i64 S2.nco) (.int .i64 S2.nme) (.int .i64 S2.nin) (.int .i64 S2.nbe) (.int .i64 S2.short) (.int .i64 S2.clock) (.bool S2.runs) (.int .i64 S2.inc) (.slice As2 S2.sent.length cs2) (.int .i64 S2.replied) (.slice Aj2 l3.length cj2)) fun k cur e hl hc he => hn5 k (cells_ne hc BT4'.out he)
      have b5a := (hbW2.out.trans p5'.out).trans (below12 (Below.refl W.heap.size w4) hWT (.int .i64 S2.nid) (.int .i64 S2.nco) (.int .i64 S2.nme) (.int .i64 S2.nin) (.int .i64 S2.nbe) (.int .i64 S2.short) (.int .i64 S2.clock) (.bool S2.runs) (.int .i64 S2.inc) (.slice As2 S2.sent.length cs2) (.int .i64 S2.replied) (.slice Aj2 l3.length cj2))
      have hz5a : (set12 w4 T9 (.int .i64 S2.nid) (.int .i64 S2.nco) (.int .i64 S2.nme) (.int .i64 S2.nin) (.int .i64 S2.nbe) (.int .i64 S2.short) (.int .i64 S2.clock) (.bool S2.runs) (.int .i64 S2.inc) (.slice As2 S2.sent.length cs2) (.int .i64 S2.replied) (.slice Aj2 l3.length cj2)).heap.size = w4.heap.size := by simp [set12]
      obtain ⟨w5, hw5⟩ : ∃ w5, set12 w4 T9 (.int .i64 S2.nid) (.int .i64 S2.nco) (.int .i64 S2.nme) (.int .i64 S2.nin) (.int .i64 S2.nbe) (.int .i64 S2.short) (.int .i64 S2.clock) (.bool S2.runs) (.int .i64 S2.inc) (.slice As2 S2.sent.length cs2) (.int .i64 S2.replied) (.slice Aj2 l3.length cj2) = w5 := ⟨_, rfl⟩
      rw [hw5] at BT5a p1a p2a b5a hz5a ⊢
      clear hw5 hn5 d0 d1 d2 d3 d4 d5 d6 d7 d8 d9 d10 d11 f0 f1 f2 f3 f4 f5 f6 f7 f8 f9 f10 f11
      have d0 := BT5a.cell 0
      have d1 := BT5a.cell 1
      have d2 := BT5a.cell 2
      have d3 := BT5a.cell 3
      have d4 := BT5a.cell 4
      have d5 := BT5a.cell 5
      have d6 := BT5a.cell 6
      have d7 := BT5a.cell 7
      have d8 := BT5a.cell 8
      have d9 := BT5a.cell 9
      have d10 := BT5a.cell 10
      have d11 := BT5a.cell 11
      simp only [List.getElem?_toArray, List.getElem?_cons_zero, List.getElem?_cons_succ] at d0 d1 d2 d3 d4 d5 d6 d7 d8 d9 d10 d11
      have BT5 := Lib.hid BT5a
      have p1s := Lib.hid p1a
      have p2s := Lib.hid p2a
      have b5s := Lib.hid b5a
      have hz5 := Lib.hid hz5a
      clear BT5a p1a p2a b5a hz5a
      go_wp2_with ((go_at_call 42; go_loud (refine (alike_calls _ p1s.out p2s.out hwn.out.ok).mono ?_; rintro e w6 ⟨rfl, b6⟩; have p16 := Lib.hid (p1s.out.below b6); have p26 := Lib.hid (p2s.out.below b6); have BT6 := Lib.hid (BT5.out.below b6 BT5.out.lt); have b6' := Lib.hid (b5s.out.trans (below_le b6 b5s.out.size)); have hz6 := Lib.hid b6.size; clear b6)))
      go_roundw
      case rel => exact ⟨i + 1, S2, As2, cs2, Aj2, cj2, l3, Q2, by go_num, by omega, hwn.out, hon.out, p16.out, p26.out, (fun k hk => by have h1 := p4'.out k hk; have h2 := hz5.out; have h3 := hz6.out; omega), (fun k hk => p3'.out k (hQW'.out k hk)), p3'.out T9 hQT'.out, BT6.out, b6'.out⟩
      case measure => simp [intOf]; omega
    · have hi' : i = ops.length := by omega
      subst hi'
      have hbW' := Lib.hid hbW
      clear hw hoff hag hd hq hQW hQT BT hbW
      go_wp2
      go_ret
      exact ⟨rfl, hbW'.out⟩
end Go.Proofs.Ytkcmmghhghgdpaa.Walk
end
