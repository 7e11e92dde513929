/- What the law AgentNil needs of the seat's contracts and plain laws, several texts one behind the other; no conditions. -/
import Derived.Test.YtkcmmghhghgdpaaSAgentNil1
section
namespace Go.Proofs.Ytkcmmghhghgdpaa.Agt
open Go.RowKit Go.Shelf Go.Maps Go.Proofs.Ytkcmmghhghgdpaa.Iter Go.Proofs.Ytkcmmghhghgdpaa.Str Go.Proofs.YtkcmmghhghgdpaaW.PrintWords Go.Proofs.YtkcmmghhghgdpaaW.PrintLast Go.Proofs.Ytkcmmghhghgdpaa.Open
set_option linter.unusedVariables false
set_option linter.unusedSimpArgs false
/-- What AgentNever keeps. -/
structure NInv (S : Ag) (short : Int) (G : List Int) (up : Bool) (frm : Int) (L : List Ls) (N : Nat) : Prop where
  w : AgW S N
  short : S.short = short
  up : up = S.runs
  len : G.length ≤ N
  on : S.runs = true → G = S.sent
  off : S.runs = false → S.sent = [] ∧ S.jobs = []
  jobs : ∀ j ∈ S.jobs, j.le ∈ L ∧ j.frm = frm
  frm : 0 ≤ frm ∧ frm ≤ S.clock
section
variable {S S' : Ag} {short : Int} {G : List Int} {up : Bool} {frm : Int} {L : List Ls} {N : Nat}
theorem NInv.new {nid nco nme nin nbe short : Int} (h : okNew nid nco nme short) : NInv (newG nid nco nme nin nbe short) short [] false 0 [] 0 :=
  ⟨AgW.new h, rfl, rfl, Nat.le_refl _, fun _ => rfl, fun _ => ⟨rfl, rfl⟩, (fun j hj => by cases hj), ⟨Int.le_refl _, Int.le_refl _⟩⟩
theorem NInv.mono {M : Nat} (h : NInv S short G up frm L N) (hm : N ≤ M) : NInv S short G up frm L M := ⟨h.w.mono hm, h.short, h.up, by have := h.len; omega, h.on, h.off, h.jobs, h.frm⟩
theorem NInv.pass {dt cd : Int} (h : NInv S short G up frm L N) (e : passG S dt = (S', cd)) : NInv S' short G up frm L N := by
  have hw := h.w.pass dt
  rw [e] at hw
  unfold passG at e
  split at e
  · injection e with e _
    exact e ▸ h
  · split at e
    · injection e with e _
      exact e ▸ h
    · rename_i h1 h2
      injection e with e _
      subst e
      have := h.frm
      exact ⟨hw, h.short, h.up, h.len, h.on, h.off, h.jobs, ⟨this.1, by show frm ≤ S.clock + dt; omega⟩⟩
theorem NInv.quant (h : NInv S short G up frm L N) : NInv (quantG S).1 short G up frm L (N + 1) := by
  have hj : ∀ j ∈ (quantG S).1.jobs, ∃ q ∈ S.jobs, j.le = q.le ∧ j.frm = q.frm := fun j hj => by
    obtain ⟨q, hq, rfl⟩ := List.mem_map.1 hj
    refine ⟨q, hq, ?_⟩
    split <;> exact ⟨rfl, rfl⟩
  refine ⟨h.w.quant, h.short, h.up, by have := h.len; omega, h.on, fun hf => ⟨(h.off hf).1, ?_⟩, fun j hjm => ?_, h.frm⟩
  · show S.jobs.map _ = []
    rw [(h.off hf).2]
    rfl
  · obtain ⟨q, hq, e1, e2⟩ := hj j hjm
    rw [e1, e2]
    exact h.jobs q hq
end
/-- Memory in AgentNever's loop: the agent, the row of the beats, all below B as it was in w2. -/
structure InN (B a : Nat) (S : Ag) (v : Value) (G : List Int) (w2 wr : World) : Prop where
  ag : AgQ a S (fun k => k < B ∨ v.ownBlock = some k) wr
  row : wr.ownsRow B tQ 1 v G.length (G.map (Value.int .i64))
  bel : Below B w2 wr
  hB : B ≤ w2.heap.size
section
variable {B a b H : Nat} {S S' : Ag} {v : Value} {G : List Int} {w2 wr W' : World} {cs : Array Value} {t : TypeId}
theorem InN.start (h : AgQ a S (fun k => k < B) w2) (hB : B ≤ w2.heap.size) : InN B a S (.slice none 0 0) [] w2 w2 :=
  ⟨h.less fun k hk => hk.elim id (fun h => by cases h), World.ownsRow_nil _ _ _ _, Below.refl _ _, hB⟩
theorem InN.nil (h : InN B a S v G w2 wr) : InN B a S (.slice none 0 0) [] w2 wr :=
  ⟨h.ag.less fun k hk => hk.elim .inl (fun h => by cases h), World.ownsRow_nil _ _ _ _, h.bel, h.hB⟩
theorem InN.le (h : InN B a S v G w2 wr) : B ≤ wr.heap.size := Nat.le_trans h.hB h.bel.size
theorem InN.below (h : InN B a S v G w2 wr) (hb : Below wr.heap.size wr W') : InN B a S v G w2 W' := ⟨h.ag.below hb, own_below h.row hb, h.bel.trans (below_le hb h.le), h.hB⟩
theorem InN.drew (h : InN B a S v G w2 wr) : InN B a S v G w2 wr.drew := h.below (Below.refl _ _).drew
theorem InN.drewN (h : InN B a S v G w2 wr) (n : Nat) : InN B a S v G w2 (wr.drewN n) := h.below (pw_below_drewN (Below.refl _ _) _)
theorem InN.alloc (h : InN B a S v G w2 wr) (x : Obj) : InN B a S v G w2 (wr.alloc x) := h.below ((Below.refl _ _).alloc (Nat.le_refl _) _)
theorem InN.box (h : InN B a S v G w2 wr) (x : Obj) : AgQ a S (fun k => (k < B ∨ v.ownBlock = some k) ∨ k = wr.heap.size) (wr.alloc x) := h.ag.more ((Below.refl _ _).alloc (Nat.le_refl _) _) fun k hk => hk.elim .inl fun hk => .inr (by omega)
theorem InN.rowlt (h : InN B a S v G w2 wr) : ∀ k, v.ownBlock = some k → B ≤ k ∧ k < wr.heap.size := fun k hk => by
  obtain ⟨h1, h2, _⟩ := own_block h.row hk
  exact ⟨h1, h2⟩
theorem InN.next (h : InN B a S v G w2 wr) {x : Obj} (g : AgQ a S' (fun k => (k < B ∨ v.ownBlock = some k) ∨ k = wr.heap.size) W') (hk : KeepQ (fun k => (k < B ∨ v.ownBlock = some k) ∨ k = wr.heap.size) (wr.alloc x) W') : InN B a S' v G w2 W' :=
  ⟨g.less fun k hk => .inl hk, Str.own_move (h.alloc x).row (fun k hb => hk.block k ((h.alloc x).rowlt k hb).2 (fun hn => hn (.inl (.inr hb)))),
    ((h.alloc x).bel).trans (hk.below (fun k hk => .inl (.inl hk)) (by have := h.le; rw [World.size_alloc]; omega)), h.hB⟩
theorem InN.reads (h : InN B a S v G w2 wr) (hH : H ≤ B) {A : Option Addr} {xs : List Ls} (x : Obj) (hL : ReadsL (fun k => H ≤ k) wr A xs) : ReadsL (fun k => ¬ ((k < B ∨ v.ownBlock = some k) ∨ k = wr.heap.size)) (wr.alloc x) A xs :=
  (hL.keep ((Below.refl _ _).alloc (Nat.le_trans hH h.le) _)).mono fun k hk => Classical.byContradiction fun hc => hk (.inl (.inl (by omega)))
theorem InN.blk (hk : KeepQ (fun k => (k < B ∨ v.ownBlock = some k) ∨ k = wr.heap.size) (wr.alloc (.cells cs t)) W') : Blk W' wr.heap.size t cs := hk.blk (.inr rfl) (Blk.new wr t cs)
theorem InN.cellAt {g c : Nat} (h : InN B a S (.slice (some ⟨g, 0, none⟩) G.length c) G w2 wr) {p : Nat} {x : Int} (hx : G[p]? = some x) : wr.cell? ⟨g, p, none⟩ = some (.int .i64 x) := by
  have hp := (List.getElem?_eq_some_iff.1 hx).1
  rw [h.row.cellAt p (by omega), List.getElem?_map, hx]
  rfl
theorem InN.cell (h : InN B a S v G w2 wr) {p : Nat} {x : Int} (hx : G[p]? = some x) : ∃ g c, v = .slice (some ⟨g, 0, none⟩) G.length c ∧ wr.cell? ⟨g, p, none⟩ = some (.int .i64 x) := by
  have hp := (List.getElem?_eq_some_iff.1 hx).1
  obtain ⟨g, c, rfl⟩ := own_someL h.row (by omega)
  refine ⟨g, c, rfl, ?_⟩
  rw [h.row.cellAt p (by omega), List.getElem?_map, hx]
  rfl
end
section
variable {a : Nat} {S S' : Ag} {Q : Nat → Prop} {W : World}
theorem quantC (e1 : (quantG S).1 = S') (hok : AgOk S) (hhad : ∀ j ∈ S.jobs, j.had < 9223372036854775807) (h : AgQ a S Q W) : Calls Try.prog 38 #[ptr a] W fun e W' => ∃ u, e = .returned u ∧ AgQ a S' Q W' ∧ KeepQ Q W W' := by
  subst e1
  exact (quantQ h hok hhad).mono fun e W' ⟨u, h1, _, h3, h4⟩ => ⟨u, h1, h3, h4⟩
end
end Go.Proofs.Ytkcmmghhghgdpaa.Agt
end
section
namespace Go.Proofs.Ytkcmmghhghgdpaa.Agt
open Go.RowKit Go.Shelf Go.Maps Go.Proofs.Ytkcmmghhghgdpaa.Iter Go.Proofs.Ytkcmmghhghgdpaa.Str Go.Proofs.YtkcmmghhghgdpaaW.PrintWords Go.Proofs.YtkcmmghhghgdpaaW.PrintLast
set_option linter.unusedVariables false
set_option linter.unusedSimpArgs false
set_option maxRecDepth 100000 in
set_option maxHeartbeats 2000000 in
theorem reply_nil (n m : Int) (A A2 : Option Addr) (l c l2 c2 : Nat) (W : World) : Calls Try.prog 32 #[.pointer none, .int .i64 n, .int .i64 m, .slice A l c, .slice A2 l2 c2] W fun e W' => e = .returned (.int .i64 17) ∧ Below W.heap.size W W' := by
  go_enter Try.func32, Try.ntmps32
  go_wp2
  go_ret
  exact ⟨rfl, Below.refl _ _⟩
set_option maxRecDepth 100000 in
set_option maxHeartbeats 2000000 in
theorem live_nil (W : World) : Calls Try.prog 33 #[.pointer none] W fun e W' => e = .returned (.slice none 0 0) ∧ Below W.heap.size W W' := by
  go_enter Try.func33, Try.ntmps33
  go_wp2
  go_ret
  exact ⟨rfl, Below.refl _ _⟩
set_option maxRecDepth 100000 in
set_option maxHeartbeats 2000000 in
theorem quant_nil (W : World) : Calls Try.prog 38 #[.pointer none] W fun e W' => e = .returned (.slice none 0 0) ∧ Below W.heap.size W W' := by
  go_enter Try.func38, Try.ntmps38
  go_wp2
  go_ret
  exact ⟨rfl, Below.refl _ _⟩
set_option maxRecDepth 100000 in
set_option maxHeartbeats 2000000 in
theorem fin_nil (W : World) : Calls Try.prog 34 #[.pointer none] W fun e W' => e = .returned (.slice none 0 0) ∧ Below W.heap.size W W' := by
  go_enter Try.func34, Try.ntmps34
  go_wp2
  go_ret
  exact ⟨rfl, Below.refl _ _⟩

/-- Blocks that are none of an agent's may be stored into. -/
theorem AgQ.poke {a : Nat} {S : Ag} {Q : Nat → Prop} {W : World} (h : AgQ a S Q W) {p : Addr} (hp : Q p.block) (u : Value) : AgQ a S Q (W.setCell p u) := by
  obtain ⟨B, vs, vj, js, h, hB, hn⟩ := h
  refine ⟨B, vs, vj, js, h.frame fun k hk => Below.heap_setCell W p u k (fun e => hn k hk (e ▸ hp)), by simpa using hB, hn⟩
theorem live_two {a : Nat} {S : Ag} {Q : Nat → Prop} {W : World} {x y z u : Int} (h : AgQ a S Q W) (hok : AgOk S) (hl : liveG S = [(x, y), (z, u)]) : Calls Try.prog 33 #[ptr a] W fun e W' => ∃ g c, e = .returned (.slice (some ⟨g, 0, none⟩) 2 c) ∧
    W'.ownsRow W.heap.size tRun 2 (.slice (some ⟨g, 0, none⟩) 2 c) 2 [.int .i64 x, .int .i64 y, .int .i64 z, .int .i64 u] ∧ W.heap.size ≤ g ∧ g < W'.heap.size ∧ Below W.heap.size W W' :=
  (liveC h hok).mono fun e W' ⟨A, c, h1, h2, h3⟩ => by
    rw [hl] at h1 h2
    obtain ⟨g, c2, hv⟩ := own_someL h2 (by simp)
    injection hv with e1 _ _
    subst e1
    obtain ⟨k1, k2, _⟩ := own_block h2 (k := g) rfl
    exact ⟨g, c, h1, h2, k1, k2, h3⟩
theorem live_none {a : Nat} {S : Ag} {Q : Nat → Prop} {W : World} (h : AgQ a S Q W) (hok : AgOk S) (hl : liveG S = []) : Calls Try.prog 33 #[ptr a] W fun e W' => ∃ A c, e = .returned (.slice A 0 c) ∧ Below W.heap.size W W' :=
  (liveC h hok).mono fun e W' ⟨A, c, h1, h2, h3⟩ => by
    rw [hl] at h1
    exact ⟨A, c, h1, h3⟩
theorem fin_one {a : Nat} {S : Ag} {Q : Nat → Prop} {W : World} {x : Ls} (h : AgQ a S Q W) (hok : AgOk S) (hl : finG S = [x]) (hx : 0 < x.cores.length) : Calls Try.prog 34 #[ptr a] W fun e W' => ∃ g c p d, e = .returned (.slice (some ⟨g, 0, none⟩) 1 c) ∧
    W'.cell? ⟨g, 3, none⟩ = some (.slice (some ⟨p, 0, none⟩) x.cores.length d) ∧ W'.ownsRow W.heap.size tI 1 (.slice (some ⟨p, 0, none⟩) x.cores.length d) x.cores.length (x.cores.map (Value.int .i64)) ∧ W.heap.size ≤ g ∧ g < W'.heap.size ∧ W.heap.size ≤ p ∧ p < W'.heap.size ∧ g ≠ p ∧ x.cores.length ≤ d ∧ Below W.heap.size W W' :=
  (finC h hok).mono fun e W' ⟨A, c, zs, h1, hz, h2, h3, h4⟩ => by
    rw [hl] at hz
    match zs, hz, h1, h2, h3 with
    | [(y, A1, c1)], hz, h1, h2, h3 =>
      obtain rfl : y = x := by simpa using hz
      have ho : W'.ownsRow W.heap.size tI 1 (.slice A1 y.cores.length c1) y.cores.length (y.cores.map (Value.int .i64)) := h3 _ List.mem_cons_self
      obtain ⟨g, c2, hv⟩ := own_someL h2 (by simp)
      injection hv with e1 _ _
      subst e1
      obtain ⟨p, c3, hv⟩ := own_someL ho hx
      injection hv with e1 _ _
      subst e1
      obtain ⟨k1, k2, cur, k3⟩ := own_block h2 (k := g) rfl
      obtain ⟨m1, m2, cur2, m3⟩ := own_block ho (k := p) rfl
      have hc := h2.cellAt 3 (by simp)
      have hd : y.cores.length ≤ c1 := by
        rcases ho.2 with ⟨e, _⟩ | ⟨g9, cap, cur9, e, _, _, hcap, _⟩
        · simp at e
        · injection e with _ _ e3
          omega
      refine ⟨g, c, p, c1, h1, hc, ho, k1, k2, m1, m2, fun e => ?_, hd, h4⟩
      subst e
      rw [k3] at m3
      injection m3 with m3
      injection m3 with _ m3 _
      exact absurd m3 (by decide)
theorem ints_same (A0 A1 : Option Addr) (c0 c1 : Nat) (xs : List Int) (W : World) (h0 : ReadsI W A0 xs) (h1 : ReadsI W A1 xs) (l0 : xs.length ≤ 4611686018427387904) (k0 : xs.length ≤ c0) (k1 : xs.length ≤ c1) :
    Calls Try.prog 18 #[.slice A0 xs.length c0, .slice A1 xs.length c1] W fun e W' => e = .returned (.bool true) ∧ Below W.heap.size W W' :=
  (ints_calls A0 A1 c0 c1 xs xs W h0 h1 l0 k0 k1).mono fun e W' h => by simpa using h
abbrev nL : Ls := ⟨2, 0, 1, [1, 3], 0, 0, 0, false⟩
abbrev nT : Ts := ⟨2, 0, 0, 0, 1, [2], 0⟩
abbrev nS1 : Ag := ⟨1, 4, 9, 0, 0, 36, 0, true, 1, [], 0, []⟩
abbrev nS2 : Ag := ⟨1, 4, 9, 0, 0, 36, 0, true, 1, [0], 0, []⟩
def nS3 : Ag := ⟨1, 4, 9, 0, 0, 36, 0, true, 1, [0], 1, [⟨nL, 0, 1, 0, joinsF 0 [] [2]⟩]⟩
def nS4 : Ag := (quantG nS3).1
theorem nw1 : bootG (newG 1 4 9 0 0 36) 1 = (nS1, 0) := by rfl
theorem nw2 : beatG nS1 = (nS2, 1, 0) := by rfl
theorem nw4 : replyG nS2 1 1 [nL] [nT] = (nS3, 0) := by rfl
theorem nq : (quantG nS3).1 = nS4 := rfl
theorem nw5 : liveG nS3 = [(2, 1), (2, 3)] := by rfl
theorem nw6 : finG nS4 = [nL] := by rfl
theorem nw7 : liveG nS4 = [] := by rfl
theorem nW1 : AgW nS1 0 := by have := (AgW.new (nid := 1) (nco := 4) (nme := 9) (nin := 0) (nbe := 0) (short := 36) (by decide)).boot 1; rwa [nw1] at this
theorem nW2 : AgW nS2 1 := by have := nW1.beat; rwa [nw2] at this
theorem nW3 : AgW nS3 1 := by have := nW2.reply 1 1 [nL] [nT]; rwa [nw4] at this
theorem nW4 : AgW nS4 2 := nW3.quant
theorem n_reply {B a : Nat} {w : World} (g : AgE B a nS2 w) (hB : B ≤ w.heap.size) :
    Calls Try.prog 32 #[ptr a, .int .i64 1, .int .i64 1, .slice (some ⟨w.heap.size + 1, 0, none⟩) 1 1, .slice (some ⟨w.heap.size + 1 + 1 + 1, 0, none⟩) 1 1]
      ((((w.alloc (.cells #[.int .i64 1, .int .i64 3] 3)).alloc (.cells #[.int .i64 2, .int .i64 0, .int .i64 1, .slice (some ⟨w.heap.size, 0, none⟩) 2 2, .int .i64 0, .int .i64 0, .int .i64 0, .bool false] 81)).alloc (.cells #[.int .i64 2] 3)).alloc (.cells #[.int .i64 2, .int .i64 0, .int .i64 0, .int .i64 0, .int .i64 1, .slice (some ⟨w.heap.size + 1 + 1, 0, none⟩) 1 1, .int .i64 0] 85))
      fun e W' => e = .returned (.int .i64 0) ∧ AgE B a nS3 W' ∧ Below B w W' :=
  (reply_lit 1 1 nL nT g hB nW2.ok (by decide) (by decide) rfl (by decide) rfl (by simp [lit1, lit2, leCs])).mono fun e W' h => by rwa [nw4] at h
end Go.Proofs.Ytkcmmghhghgdpaa.Agt
end
section
namespace Go.Proofs.Ytkcmmghhghgdpaa.Walk
open Go.RowKit Go.Shelf Go.Maps Go.Proofs.Ytkcmmghhghgdpaa.Iter Go.Proofs.Ytkcmmghhghgdpaa.Str Go.Proofs.Ytkcmmghhghgdpaa.Agt Go.Proofs.YtkcmmghhghgdpaaW.PrintWords Go.Proofs.YtkcmmghhghgdpaaW.PrintLast
set_option linter.unusedVariables false
set_option linter.unusedSimpArgs false

set_option maxRecDepth 100000 in
set_option maxHeartbeats 16000000 in
theorem AgentNil (W : World) (cs2 : Array Value) (o : Open.AOp) (hk2 : Open.kAOp.K W o cs2.toList) (g2 : Open.okAOp o) :
    Calls Try.prog 13 #[.agg cs2] W fun e W' => e = .returned (.bool true) ∧ Below W.heap.size W W' := by
  obtain ⟨Alo, clo, Ato, cto, rfl, hLo, hTo, l1o, l2o⟩ := aop_cells hk2 g2
  clear hk2 g2 hLo hTo
  obtain ⟨kd, n, m, dt, ls, ts⟩ := o
  dsimp only at l1o l2o ⊢
  have b0' := Lib.hid (show Below W.heap.size W (W.alloc (.cells #[.int .i64 kd, .int .i64 n, .int .i64 m, .int .i64 dt, .slice Alo ls.length clo, .slice Ato ts.length cto] 58)) from (Below.refl _ _).alloc (Nat.le_refl _) _)
  have o0' := Lib.hid (Blk.new W 58 #[.int .i64 kd, .int .i64 n, .int .i64 m, .int .i64 dt, .slice Alo ls.length clo, .slice Ato ts.length cto])
  have z0 := o0'.out.cell 0
  have z1 := o0'.out.cell 1
  have z2 := o0'.out.cell 2
  have z3 := o0'.out.cell 3
  have z4 := o0'.out.cell 4
  have z5 := o0'.out.cell 5
  simp only [List.getElem?_toArray, List.getElem?_cons_zero, List.getElem?_cons_succ] at z0 z1 z2 z3 z4 z5
  go_enter Try.func13, Try.ntmps13
  go_upto_region 7 with (first | ((with_reducible refine gate_callee (f := 26) rfl ?_); refine goesL_ (some 13) rfl rfl Try.func26 (by kernel_rfl) rfl #[] rfl (by (try simp only [List.map_toArray, List.map_cons, List.map_nil]); first | done | rfl) ?_; (with_reducible refine (Agt.awake_calls _).mono ?_); rintro e wa ⟨rfl, ba⟩; refine ⟨_, rfl, ?_⟩; have oa' := Lib.hid (o0'.out.below ba o0'.out.lt); have ba' := Lib.hid (b0'.out.trans (below_le ba b0'.out.size)); clear z0 z1 z2 z3 z4 z5; have z0 := oa'.out.cell 0; have z1 := oa'.out.cell 1; have z2 := oa'.out.cell 2; have z3 := oa'.out.cell 3; have z4 := oa'.out.cell 4; have z5 := oa'.out.cell 5; simp only [List.getElem?_toArray, List.getElem?_cons_zero, List.getElem?_cons_succ] at z0 z1 z2 z3 z4 z5; clear ba) | ((with_reducible refine gate_callee (f := 31) rfl ?_); refine goesL_ (some 17) rfl rfl Try.func31 (by kernel_rfl) rfl #[.pointer none] rfl (by (try simp only [List.map_toArray, List.map_cons, List.map_nil]); first | done | rfl) ?_; (with_reducible refine (beat_nil _).mono ?_); rintro e wb ⟨rfl, bb⟩; refine ⟨_, rfl, ?_⟩; have ob' := Lib.hid (oa'.out.below bb oa'.out.lt); have bb' := Lib.hid (ba'.out.trans (below_le bb ba'.out.size)); clear z0 z1 z2 z3 z4 z5; have z0 := ob'.out.cell 0; have z1 := ob'.out.cell 1; have z2 := ob'.out.cell 2; have z3 := ob'.out.cell 3; have z4 := ob'.out.cell 4; have z5 := ob'.out.cell 5; simp only [List.getElem?_toArray, List.getElem?_cons_zero, List.getElem?_cons_succ] at z0 z1 z2 z3 z4 z5; clear bb) | ((with_reducible refine gate_callee (f := 28) rfl ?_); refine goesL_ (some 23) rfl rfl Try.func28 (by kernel_rfl) rfl #[.pointer none, .int .i64 n] rfl (by (try simp only [List.map_toArray, List.map_cons, List.map_nil]); first | done | rfl) ?_; (with_reducible refine (boot_nil n _).mono ?_); rintro e wc ⟨rfl, bc⟩; refine ⟨_, rfl, ?_⟩; have oc' := Lib.hid (ob'.out.below bc ob'.out.lt); have bc' := Lib.hid (bb'.out.trans (below_le bc bb'.out.size)); clear z0 z1 z2 z3 z4 z5; have z0 := oc'.out.cell 0; have z1 := oc'.out.cell 1; have z2 := oc'.out.cell 2; have z3 := oc'.out.cell 3; have z4 := oc'.out.cell 4; have z5 := oc'.out.cell 5; simp only [List.getElem?_toArray, List.getElem?_cons_zero, List.getElem?_cons_succ] at z0 z1 z2 z3 z4 z5; clear bc) | (go_at_call 29; go_loud (refine (halt_nil _).mono ?_; rintro e wd ⟨rfl, bd⟩; have od' := Lib.hid (oc'.out.below bd oc'.out.lt); have bd' := Lib.hid (bc'.out.trans (below_le bd bc'.out.size)); clear z0 z1 z2 z3 z4 z5; have z0 := od'.out.cell 0; have z1 := od'.out.cell 1; have z2 := od'.out.cell 2; have z3 := od'.out.cell 3; have z4 := od'.out.cell 4; have z5 := od'.out.cell 5; simp only [List.getElem?_toArray, List.getElem?_cons_zero, List.getElem?_cons_succ] at z0 z1 z2 z3 z4 z5; clear bd)) | (go_at_call 30; go_loud (refine (pass_nil dt _).mono ?_; rintro e we ⟨rfl, be⟩; have oe' := Lib.hid (od'.out.below be od'.out.lt); have be' := Lib.hid (bd'.out.trans (below_le be bd'.out.size)); clear z0 z1 z2 z3 z4 z5; have z0 := oe'.out.cell 0; have z1 := oe'.out.cell 1; have z2 := oe'.out.cell 2; have z3 := oe'.out.cell 3; have z4 := oe'.out.cell 4; have z5 := oe'.out.cell 5; simp only [List.getElem?_toArray, List.getElem?_cons_zero, List.getElem?_cons_succ] at z0 z1 z2 z3 z4 z5; clear be)) | (go_at_call 32; go_loud (refine (reply_nil n m _ _ _ _ _ _ _).mono ?_; rintro e wf ⟨rfl, bf⟩; have of' := Lib.hid (oe'.out.below bf oe'.out.lt); have bf' := Lib.hid (be'.out.trans (below_le bf be'.out.size)); clear z0 z1 z2 z3 z4 z5; have z0 := of'.out.cell 0; have z1 := of'.out.cell 1; have z2 := of'.out.cell 2; have z3 := of'.out.cell 3; have z4 := of'.out.cell 4; have z5 := of'.out.cell 5; simp only [List.getElem?_toArray, List.getElem?_cons_zero, List.getElem?_cons_succ] at z0 z1 z2 z3 z4 z5; clear bf)) | (go_at_call 33; go_loud (refine (live_nil _).mono ?_; rintro e wg ⟨rfl, bg⟩; have og' := Lib.hid (of'.out.below bg of'.out.lt); have bg' := Lib.hid (bf'.out.trans (below_le bg bf'.out.size)); clear z0 z1 z2 z3 z4 z5; have z0 := og'.out.cell 0; have z1 := og'.out.cell 1; have z2 := og'.out.cell 2; have z3 := og'.out.cell 3; have z4 := og'.out.cell 4; have z5 := og'.out.cell 5; simp only [List.getElem?_toArray, List.getElem?_cons_zero, List.getElem?_cons_succ] at z0 z1 z2 z3 z4 z5; clear bg)) | (go_at_call 38; go_loud (refine (quant_nil _).mono ?_; rintro e wh ⟨rfl, bh⟩; have oh' := Lib.hid (og'.out.below bh og'.out.lt); have bh' := Lib.hid (bg'.out.trans (below_le bh bg'.out.size)); clear z0 z1 z2 z3 z4 z5; have z0 := oh'.out.cell 0; have z1 := oh'.out.cell 1; have z2 := oh'.out.cell 2; have z3 := oh'.out.cell 3; have z4 := oh'.out.cell 4; have z5 := oh'.out.cell 5; simp only [List.getElem?_toArray, List.getElem?_cons_zero, List.getElem?_cons_succ] at z0 z1 z2 z3 z4 z5; clear bh)) | (go_at_call 34; go_loud (refine (fin_nil _).mono ?_; rintro e wi ⟨rfl, bi⟩; have oi' := Lib.hid (oh'.out.below bi oh'.out.lt); have bi' := Lib.hid (bh'.out.trans (below_le bi bh'.out.size)); clear z0 z1 z2 z3 z4 z5; have z0 := oi'.out.cell 0; have z1 := oi'.out.cell 1; have z2 := oi'.out.cell 2; have z3 := oi'.out.cell 3; have z4 := oi'.out.cell 4; have z5 := oi'.out.cell 5; simp only [List.getElem?_toArray, List.getElem?_cons_zero, List.getElem?_cons_succ] at z0 z1 z2 z3 z4 z5; clear bi)) | (go_at_call 37; go_loud (refine (clock_nil _).mono ?_; rintro e wj ⟨rfl, bj⟩; have oj' := Lib.hid (oi'.out.below bj oi'.out.lt); have bj' := Lib.hid (bi'.out.trans (below_le bj bi'.out.size)); clear z0 z1 z2 z3 z4 z5; have z0 := oj'.out.cell 0; have z1 := oj'.out.cell 1; have z2 := oj'.out.cell 2; have z3 := oj'.out.cell 3; have z4 := oj'.out.cell 4; have z5 := oj'.out.cell 5; simp only [List.getElem?_toArray, List.getElem?_cons_zero, List.getElem?_cons_succ] at z0 z1 z2 z3 z4 z5; clear bj)) | (go_at_call 43; go_loud (refine (inc_nil _).mono ?_; rintro e wk ⟨rfl, bk⟩; have ok' := Lib.hid (oj'.out.below bk oj'.out.lt); have bk' := Lib.hid (bj'.out.trans (below_le bk bj'.out.size)); clear z0 z1 z2 z3 z4 z5; have z0 := ok'.out.cell 0; have z1 := ok'.out.cell 1; have z2 := ok'.out.cell 2; have z3 := ok'.out.cell 3; have z4 := ok'.out.cell 4; have z5 := ok'.out.cell 5; simp only [List.getElem?_toArray, List.getElem?_cons_zero, List.getElem?_cons_succ] at z0 z1 z2 z3 z4 z5; clear bk)))
  clear z0 z1 z2 z3 z4 z5
  go_upto_region 14 with (first | (((with_reducible refine gate_callee (f := 27) rfl ?_); refine goesL_ (some 84) rfl rfl Try.func27 (by kernel_rfl) rfl #[.agg #[.int .i64 1, .int .i64 4, .int .i64 9, .int .i64 0, .int .i64 0], .int .i64 36] rfl (by (try simp only [List.map_toArray, List.map_cons, List.map_nil]); first | done | rfl) ?_; (with_reducible refine (newE 1 4 9 0 0 36 _).mono ?_); (intro e w2 hnew; obtain ⟨a, rfl, g2, b2⟩ := newYes (by decide) hnew; clear hnew); refine ⟨_, rfl, ?_⟩; have g2' := Lib.hid g2; have b2' := Lib.hid b2; clear g2 b2)) | (((with_reducible refine gate_callee (f := 28) rfl ?_); refine goesL_ (some 88) rfl rfl Try.func28 (by kernel_rfl) rfl #[ptr a, .int .i64 1] rfl (by (try simp only [List.map_toArray, List.map_cons, List.map_nil]); first | done | rfl) ?_; (with_reducible refine (bootE 1 g2'.out b2'.out.size).mono ?_); rintro e w3 ⟨rfl, g3, b3⟩; refine ⟨_, rfl, ?_⟩; rw [nw1] at g3; have b3 := b2'.out.trans b3; have g3' := Lib.hid g3; have b3' := Lib.hid b3; clear g3 b3; simp only [nw1])) | (((with_reducible refine gate_callee (f := 31) rfl ?_); refine goesL_ (some 90) rfl rfl Try.func31 (by kernel_rfl) rfl #[ptr a] rfl (by (try simp only [List.map_toArray, List.map_cons, List.map_nil]); first | done | rfl) ?_; (with_reducible refine (beatE g3'.out b3'.out.size (by decide)).mono ?_); rintro e w4 ⟨rfl, g4, b4⟩; refine ⟨_, rfl, ?_⟩; rw [nw2] at g4; have b4 := b3'.out.trans b4; have g4' := Lib.hid g4; have b4' := Lib.hid b4; clear g4 b4; simp only [nw2])) | (((with_reducible refine gate_callee (f := 32) rfl ?_); refine goesL_ (some 98) rfl rfl Try.func32 (by kernel_rfl) rfl #[ptr a, .int .i64 1, .int .i64 1, .slice (some ⟨w4.heap.size + 1, 0, none⟩) 1 1, .slice (some ⟨w4.heap.size + 1 + 1 + 1, 0, none⟩) 1 1] rfl (by (try simp only [List.map_toArray, List.map_cons, List.map_nil]); first | done | rfl) ?_; (with_reducible refine (n_reply g4'.out b4'.out.size).mono ?_); rintro e w5 ⟨rfl, g5, b5⟩; refine ⟨_, rfl, ?_⟩; have b5 := b4'.out.trans b5; have b5' := Lib.hid b5; clear b5; have g5' := Lib.hid ((AgQ.of g5 b5'.out.size).more (Q' := fun k => k < wk.heap.size ∨ w5.heap.size ≤ k) (Below.refl _ _) (fun k hk => hk)); clear g5; have b5W' := Lib.hid (bk'.out.trans (below_le b5'.out bk'.out.size)))) | (((with_reducible refine gate_callee (f := 33) rfl ?_); refine goesL_ (some 100) rfl rfl Try.func33 (by kernel_rfl) rfl #[ptr a] rfl (by (try simp only [List.map_toArray, List.map_cons, List.map_nil]); first | done | rfl) ?_; (with_reducible refine (live_two g5'.out nW3.ok nw5).mono ?_); rintro e w6 ⟨x1, xc, rfl, u6, h1, h2, b6⟩; refine ⟨_, rfl, ?_⟩; have g6' := Lib.hid (g5'.out.below b6); have b6' := Lib.hid (b5W'.out.trans (below_le b6 b5W'.out.size)); have f0 := u6.frozenAt 0; have f1 := u6.frozenAt 1; have p0 := u6.cellAt 0 (by simp); have p1 := u6.cellAt 1 (by simp); have hx1' := Lib.hid h1; have hx2' := Lib.hid h2; clear u6 b6 h1 h2)))
  have hxW' := Lib.hid (show W.heap.size ≤ x1 from Nat.le_trans b5W'.out.size hx1'.out)
  have h56' := Lib.hid (show w5.heap.size ≤ w6.heap.size from Nat.le_trans hx1'.out (Nat.le_of_lt hx2'.out))
  go_upto_region 20 with (first | (((with_reducible refine gate_callee (f := 33) rfl ?_); refine goesL_ (some 112) rfl rfl Try.func33 (by kernel_rfl) rfl #[ptr a] rfl (by (try simp only [List.map_toArray, List.map_cons, List.map_nil]); first | done | rfl) ?_; (with_reducible refine (live_two (W := ((w6.setCell ⟨x1, 0, none⟩ (.int .i64 (-1))).setCell ⟨x1, 1, none⟩ (.int .i64 0))) ((g6'.out.poke (p := ⟨x1, 0, none⟩) (.inr hx1'.out) _).poke (p := ⟨x1, 1, none⟩) (.inr hx1'.out) _) nW3.ok nw5).mono ?_); rintro e w7 ⟨y1, yc, rfl, u7, h1, h2, b7⟩; refine ⟨_, rfl, ?_⟩; have hsz : w6.heap.size = ((w6.setCell ⟨x1, 0, none⟩ (.int .i64 (-1))).setCell ⟨x1, 1, none⟩ (.int .i64 0)).heap.size := (by simp); have g7' := Lib.hid (((g6'.out.poke (p := ⟨x1, 0, none⟩) (.inr hx1'.out) (.int .i64 (-1))).poke (p := ⟨x1, 1, none⟩) (.inr hx1'.out) (.int .i64 0)).below b7); have b6s := ((b6'.out.setCell (p := ⟨x1, 0, none⟩) hxW'.out (.int .i64 (-1))).setCell (p := ⟨x1, 1, none⟩) hxW'.out (.int .i64 0)); have b7' := Lib.hid (b6s.trans (below_le b7 b6s.size)); have u7' := Lib.hid u7; have hy1' := Lib.hid (show w5.heap.size ≤ y1 from Nat.le_trans h56'.out (by rw [hsz]; exact h1)); have hy2' := Lib.hid h2; clear u7 b7 h1 h2 b6s hsz)) | (((with_reducible refine gate_callee (f := 38) rfl ?_); refine goesL_ (some 114) rfl rfl Try.func38 (by kernel_rfl) rfl #[ptr a] rfl (by (try simp only [List.map_toArray, List.map_cons, List.map_nil]); first | done | rfl) ?_; (with_reducible refine (quantC nq nW3.ok (fun j hj => (by have := nW3.had j hj; omega)) g7'.out).mono ?_); rintro e w8 ⟨u8v, rfl, g8, k8⟩; refine ⟨_, rfl, ?_⟩; have g8' := Lib.hid g8; have u8' := Lib.hid (own_keepQ u7'.out k8 (fun k h1 h2 => .inr (Nat.le_trans h56'.out (Nat.le_trans (by simp) h1)))); have b8' := Lib.hid (b7'.out.trans (k8.below (fun k hk => .inl (Nat.lt_of_lt_of_le hk bk'.out.size)) b7'.out.size)); have hy8' := Lib.hid (Nat.lt_of_lt_of_le hy2'.out k8.size); clear g8 k8)) | (((with_reducible refine gate_callee (f := 34) rfl ?_); refine goesL_ (some 116) rfl rfl Try.func34 (by kernel_rfl) rfl #[ptr a] rfl (by (try simp only [List.map_toArray, List.map_cons, List.map_nil]); first | done | rfl) ?_; (with_reducible refine (fin_one g8'.out nW4.ok nw6 (by decide)).mono ?_); rintro e w9 ⟨q9, qc9, r9, rc9, rfl, cl9, ur9, h1, h2, h3, h4, h5, h6, b9⟩; refine ⟨_, rfl, ?_⟩; have g9' := Lib.hid (g8'.out.below b9); have b9' := Lib.hid (b8'.out.trans (below_le b9 b8'.out.size)); have u9' := Lib.hid (own_below u8'.out b9); have v9' := Lib.hid ur9; have n9' := Lib.hid (And.intro h1 (And.intro h2 (And.intro h3 (And.intro h4 (And.intro h5 h6))))); clear ur9 b9 h1 h2 h3 h4 h5 h6)) | (((with_reducible refine gate_callee (f := 34) rfl ?_); refine goesL_ (some 118) rfl rfl Try.func34 (by kernel_rfl) rfl #[ptr a] rfl (by (try simp only [List.map_toArray, List.map_cons, List.map_nil]); first | done | rfl) ?_; (with_reducible refine (fin_one g9'.out nW4.ok nw6 (by decide)).mono ?_); rintro e w10 ⟨q10, qc10, r10, rc10, rfl, cl10, ur10, h1, h2, h3, h4, h5, h6, b10⟩; refine ⟨_, rfl, ?_⟩; have g10' := Lib.hid (g9'.out.below b10); have b10' := Lib.hid (b9'.out.trans (below_le b10 b9'.out.size)); have u10' := Lib.hid (own_below u9'.out b10); have v10' := Lib.hid ur10; have n10' := Lib.hid (And.intro h1 (And.intro h2 (And.intro h3 (And.intro h4 (And.intro h5 h6))))); have cl9b := (b10.cell (p := ⟨q9, 3, none⟩) n9'.out.2.1).trans cl9; have v9b' := Lib.hid (own_below v9'.out b10); clear cl9; have f9 := v9b'.out.frozenAt 0; have p9 := v9b'.out.cellAt 0 (by simp); clear ur10 b10 h1 h2 h3 h4 h5 h6)))
  go_upto_region 21 with (fail)
  have hr9 := n9'.out
  have hr10 := n10'.out
  have hq10 : q10 ≠ r9 := by omega
  have hr10n : r10 ≠ r9 := by omega
  have hyn : y1 ≠ r9 := by have := hy8'.out; omega
  have u11' := Lib.hid (show (w10.setCell ⟨r9, 0, none⟩ (.int .i64 77)).ownsRow _ tRun 2 (.slice (some ⟨y1, 0, none⟩) 2 yc) 2 [.int .i64 2, .int .i64 1, .int .i64 2, .int .i64 3] from Str.own_move u10'.out (fun k hk => Below.heap_setCell _ _ _ _ (fun e => hyn (by simp [Value.ownBlock] at hk; exact hk.trans e))))
  have v11' := Lib.hid (show (w10.setCell ⟨r9, 0, none⟩ (.int .i64 77)).ownsRow _ tI 1 (.slice (some ⟨r10, 0, none⟩) 2 rc10) 2 [.int .i64 1, .int .i64 3] from Str.own_move v10'.out (fun k hk => Below.heap_setCell _ _ _ _ (fun e => hr10n (by simp [Value.ownBlock] at hk; exact hk.trans e))))
  have c11 : (w10.setCell ⟨r9, 0, none⟩ (.int .i64 77)).cell? ⟨q10, 3, none⟩ = some (.slice (some ⟨r10, 0, none⟩) 2 rc10) := (World.cell?_of_block (a := ⟨q10, 3, none⟩) (Below.heap_setCell w10 ⟨r9, 0, none⟩ (.int .i64 77) q10 (fun e => hq10 e))).trans cl10
  have y0 := u11'.out.cellAt 0 (by simp)
  have y1c := u11'.out.cellAt 1 (by simp)
  have g11' := Lib.hid (g10'.out.poke (p := ⟨r9, 0, none⟩) (.inr (show w5.heap.size ≤ r9 by have := hy1'.out; have := hy8'.out; omega)) (.int .i64 77))
  have b11' := Lib.hid (b10'.out.setCell (p := ⟨r9, 0, none⟩) (show W.heap.size ≤ r9 by have := b8'.out.size; omega) (.int .i64 77))
  have hrc : 2 ≤ rc10 := hr10.2.2.2.2.2
  obtain ⟨w11, hw11⟩ : ∃ w, (w10.setCell ⟨r9, 0, none⟩ (.int .i64 77)) = w := ⟨_, rfl⟩
  rw [hw11] at u11' v11' c11 y0 y1c g11' b11' ⊢
  simp only [List.getElem?_cons_zero, List.getElem?_cons_succ] at y0 y1c
  have heq := fun w => eqRun_same w (2, 1)
  dsimp only at heq
  clear hw11 hr9 hr10 hq10 hr10n hyn cl10 cl9b f9 p9
  go_wp2_with (first | ((go_at_call 18; go_loud (refine (ints_same (some ⟨r10, 0, none⟩) (some ⟨w11.heap.size, 0, none⟩) rc10 2 [1, 3] (w11.alloc (.cells #[.int .i64 1, .int .i64 3] 3)) (((reads_row v11'.out).1).below ((Below.refl _ _).alloc (Nat.le_refl _) _)) (reads_new w11 [1, 3]) (by simp) hrc (by simp)).mono ?_; rintro e w12 ⟨rfl, b12⟩; have g12' := Lib.hid ((g11'.out.below ((Below.refl _ _).alloc (Nat.le_refl _) _)).below b12); have b12' := Lib.hid ((b11'.out.alloc b11'.out.size _).trans (below_le b12 (by have := b11'.out.size; rw [World.size_alloc]; omega))); clear b12))) | ((go_at_call 33; go_loud (refine (live_none g12'.out nW4.ok nw7).mono ?_; rintro e w13 ⟨A13, c13, rfl, b13⟩; have b13' := Lib.hid (b12'.out.trans (below_le b13 b12'.out.size)); clear b13))))
  go_ret
  exact ⟨rfl, b13'.out⟩
end Go.Proofs.Ytkcmmghhghgdpaa.Walk
end
