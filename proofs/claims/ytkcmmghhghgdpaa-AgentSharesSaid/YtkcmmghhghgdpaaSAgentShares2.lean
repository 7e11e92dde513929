/- What the law AgentShares needs of the seat's contracts and plain laws, several texts one behind the other; no conditions. -/
import Derived.Test.YtkcmmghhghgdpaaSAgentShares1
import Derived.Test.YtkcmmghhghgdpaaSAgentShares0
import Derived.Lib.MinMax
section
namespace Go.Proofs.Ytkcmmghhghgdpaa.Agt
open Go.RowKit Go.Shelf Go.Maps Go.Proofs.Ytkcmmghhghgdpaa.Iter Go.Proofs.Ytkcmmghhghgdpaa.Str Go.Proofs.YtkcmmghhghgdpaaW.PrintWords Go.Proofs.YtkcmmghhghgdpaaW.PrintLast Go.Proofs.Ytkcmmghhghgdpaa.Open
set_option linter.unusedVariables false
set_option linter.unusedSimpArgs false
/-- An agent in memory; no block of Q is any of its. -/
def AgQ (a : Nat) (S : Ag) (Q : Nat → Prop) (W : World) : Prop := ∃ B vs vj js, AgM B a vs vj js S W ∧ B ≤ W.heap.size ∧ ∀ k, Foot a vs vj js k → ¬ Q k
/-- The blocks of Q stay. -/
abbrev KeepQ (Q : Nat → Prop) (W W' : World) : Prop := FrF (fun k => ¬ Q k) W W'
section
variable {a : Nat} {S : Ag} {Q Q' : Nat → Prop} {W W' W'' : World}
theorem AgQ.of {B : Nat} (h : AgE B a S W) (hB : B ≤ W.heap.size) : AgQ a S (fun k => k < B) W := by
  obtain ⟨vs, vj, js, h⟩ := h
  exact ⟨B, vs, vj, js, h, hB, fun k hk hq => by have := (h.foot k hk).1; omega⟩
theorem AgQ.ofNew {W0 : World} (h : AgE W0.heap.size a S W) (hb : Below W0.heap.size W0 W) : AgQ a S (fun k => k < W0.heap.size) W := AgQ.of h hb.size
theorem AgQ.e (h : AgQ a S Q W) : ∃ B, AgE B a S W := by
  obtain ⟨B, vs, vj, js, h, _⟩ := h
  exact ⟨B, vs, vj, js, h⟩
theorem AgQ.lt (h : AgQ a S Q W) : a < W.heap.size := by
  obtain ⟨B, h⟩ := h.e
  exact h.lt
theorem AgQ.more (h : AgQ a S Q W) (hb : Below W.heap.size W W') (hq : ∀ k, Q' k → Q k ∨ W.heap.size ≤ k) : AgQ a S Q' W' := by
  obtain ⟨B, vs, vj, js, h, hB, hn⟩ := h
  exact ⟨B, vs, vj, js, h.below hb, by have := hb.size; omega, fun k hk hk' => (hq k hk').elim (hn k hk) (fun h2 => by have := (h.foot k hk).2; omega)⟩
theorem AgQ.below (h : AgQ a S Q W) (hb : Below W.heap.size W W') : AgQ a S Q W' := h.more hb fun k hk => .inl hk
theorem AgQ.less (h : AgQ a S Q W) (hq : ∀ k, Q' k → Q k) : AgQ a S Q' W := h.more (Below.refl _ _) fun k hk => .inl (hq k hk)
theorem KeepQ.below {B : Nat} (h : KeepQ Q W W') (hq : ∀ k, k < B → Q k) (hB : B ≤ W.heap.size) : Below B W W' := ⟨h.os, h.tape, h.output, h.size, fun k hk => h.block k (by omega) (fun hn => hn (hq k hk))⟩
theorem KeepQ.blk {k : Nat} {t : TypeId} {cs : Array Value} (h : KeepQ Q W W') (hq : Q k) (hb : Blk W k t cs) : Blk W' k t cs := (h.block k hb.lt (fun hn => hn hq)).trans hb
theorem bootQ (n : Int) (h : AgQ a S Q W) : Calls Try.prog 28 #[ptr a, .int .i64 n] W fun e W' => e = .returned (.int .i64 (bootG S n).2) ∧ AgQ a (bootG S n).1 Q W' ∧ KeepQ Q W W' := by
  obtain ⟨B, vs, vj, js, h, hB, hn⟩ := h
  exact (boot_calls B a vs vj js S n W h).mono fun e W' ⟨h1, h2, h3⟩ => ⟨h1, ⟨B, vs, vj, js, h2, Nat.le_trans hB h3.size, hn⟩, ⟨h3.os, h3.tape, h3.output, h3.size, fun k hk hq => h3.block k hk (fun hf => hq (fun hQ => hn k hf hQ))⟩⟩
theorem beatQ (h : AgQ a S Q W) (hl : S.sent.length ≤ 100000) (hq : ∀ k, Q k → k < W.heap.size) : Calls Try.prog 31 #[ptr a] W fun e W' => e = .returned (.tuple #[.int .i64 (beatG S).2.1, .int .i64 (beatG S).2.2]) ∧ AgQ a (beatG S).1 Q W' ∧ KeepQ Q W W' := by
  obtain ⟨B, vs, vj, js, h, hB, hn⟩ := h
  exact (beat_calls B a vs vj js S W h hl hB).mono fun e W' ⟨h1, vs', h2, h3, h4⟩ => ⟨h1, ⟨B, vs', vj, js, h2, Nat.le_trans hB h3.size, fun k hk hQ => (h4 k hk).elim (fun hf => hn k hf hQ) (fun h5 => by have := hq k hQ; omega)⟩, ⟨h3.os, h3.tape, h3.output, h3.size, fun k hk hq => h3.block k hk (fun hf => hq (fun hQ => hn k hf hQ))⟩⟩
theorem replyQ (n m : Int) (A : Option Addr) (c0 : Nat) (xs : List Ls) (A2 : Option Addr) (c2 : Nat) (ts : List Ts) (h : AgQ a S Q W) (hok : AgOk S) (hsl : S.sent.length ≤ 100000) (hq : ∀ k, Q k → k < W.heap.size)
    (hL : ReadsL (fun k => ¬ Q k) W A xs) (hT : ReadsT (fun k => ¬ Q k) W A2 ts) (hxl : xs.length ≤ 9223372036854775807) (htl : ts.length ≤ 9223372036854775807) :
    Calls Try.prog 32 #[ptr a, .int .i64 n, .int .i64 m, .slice A xs.length c0, .slice A2 ts.length c2] W fun e W' => e = .returned (.int .i64 (replyG S n m xs ts).2) ∧ AgQ a (replyG S n m xs ts).1 Q W' ∧ KeepQ Q W W' := by
  obtain ⟨B, vs, vj, js, h, hB, hn⟩ := h
  refine (reply_calls B a vs vj js S n m A c0 xs A2 c2 ts W h hok hB (fun j x hx => ?_) (fun j x hx => ?_) hxl htl hsl).mono fun e W' ⟨h1, vj', js', h2, h3, h4⟩ => ⟨h1, ⟨B, vs, vj', js', h2, Nat.le_trans hB h3.size, fun k hk hQ => (h4 k hk).elim (fun hf => hn k hf hQ) (fun h5 => by have := hq k hQ; omega)⟩, ⟨h3.os, h3.tape, h3.output, h3.size, fun k hk hq => h3.block k hk (fun hf => hq (fun hQ => hn k hf hQ))⟩⟩
  · obtain ⟨ad, A', c, rfl, q1, q2, q3, q4, q5, q6, q7, q8, q9, hr, q10, q11, q12, hnn⟩ := hL j x hx
    exact ⟨ad, A', c, rfl, q1, q2, q3, q4, q5, q6, q7, q8, q9, hr.mono (fun k hk => hn k hk), q10, q11, q12, fun hk => hnn (hn _ hk)⟩
  · obtain ⟨ad, A', c, rfl, q1, q2, q3, q4, q5, q6, q7, q8, hr, q10, q11, q12, hnn⟩ := hT j x hx
    exact ⟨ad, A', c, rfl, q1, q2, q3, q4, q5, q6, q7, q8, hr.mono (fun k hk => hn k hk), q10, q11, q12, fun hk => hnn (hn _ hk)⟩
theorem quantQ (h : AgQ a S Q W) (hok : AgOk S) (hhad : ∀ j ∈ S.jobs, j.had < 9223372036854775807) : Calls Try.prog 38 #[ptr a] W fun e W' => ∃ u, e = .returned u ∧ W'.ownsRow W.heap.size tRan 2 u (quantG S).2.length (flatR (quantG S).2) ∧ AgQ a (quantG S).1 Q W' ∧ KeepQ Q W W' := by
  obtain ⟨B, vs, vj, js, h, hB, hn⟩ := h
  exact (Quantum_calls B a vs vj js S W h hok hhad).mono fun e W' ⟨u, h1, h2, h3, h4⟩ => ⟨u, h1, h2, ⟨B, vs, vj, js, h3, Nat.le_trans hB h4.size, hn⟩, ⟨h4.os, h4.tape, h4.output, h4.size, fun k hk hq => h4.block k hk (fun hf => hq (fun hQ => hn k hf hQ))⟩⟩
theorem finQ (h : AgQ a S Q W) (hok : AgOk S) : Calls Try.prog 34 #[ptr a] W fun e W' => ∃ u, e = .returned u ∧ (∃ zs : List LeM, zs.map (·.1) = finG S ∧ W'.ownsRow W.heap.size tL 8 u zs.length (flatL zs) ∧ ∀ z ∈ zs, OwnC W.heap.size W' z) ∧ Below W.heap.size W W' := by
  obtain ⟨B, h⟩ := h.e
  exact finE h hok
end
theorem ReadsA.frF {F : Nat → Prop} {W W' : World} {A : Option Addr} {xs : List AOp} (h : ReadsA F W A xs) (hb : FrF F W W') : ReadsA F W' A xs := fun j x hx => by
  obtain ⟨ad, Al, cl, At, ct, rfl, h1, hn, c0, c1, c2, c3, c4, c5, hL, hT, l1, l2⟩ := h j x hx
  have e : W'.heap[(ad.add (j * 6)).block]? = W.heap[(ad.add (j * 6)).block]? := by rw [add_block]; exact hb.block _ h1 hn
  have k : ∀ i v, W.cell? ⟨(ad.add (j * 6)).block, (ad.add (j * 6)).off + i, none⟩ = some v → W'.cell? ⟨(ad.add (j * 6)).block, (ad.add (j * 6)).off + i, none⟩ = some v := fun i v e2 => (World.cell?_of_block (a := ⟨(ad.add (j * 6)).block, _, none⟩) e).trans e2
  exact ⟨ad, Al, cl, At, ct, rfl, Nat.lt_of_lt_of_le h1 hb.size, hn, (World.cell?_of_block e).trans c0, k 1 _ c1, k 2 _ c2, k 3 _ c3, k 4 _ c4, k 5 _ c5, hL.frF hb, hT.frF hb, l1, l2⟩
theorem ReadsL.mono {F F' : Nat → Prop} {W : World} {A : Option Addr} {xs : List Ls} (h : ReadsL F W A xs) (hF : ∀ k, F' k → F k) : ReadsL F' W A xs := fun j x hx => by
  obtain ⟨ad, A', c, rfl, q1, q2, q3, q4, q5, q6, q7, q8, q9, hr, q10, q11, q12, hn⟩ := h j x hx
  exact ⟨ad, A', c, rfl, q1, q2, q3, q4, q5, q6, q7, q8, q9, hr.mono hF, q10, q11, q12, fun hk => hn (hF _ hk)⟩
theorem ReadsT.mono {F F' : Nat → Prop} {W : World} {A : Option Addr} {xs : List Ts} (h : ReadsT F W A xs) (hF : ∀ k, F' k → F k) : ReadsT F' W A xs := fun j x hx => by
  obtain ⟨ad, A', c, rfl, q1, q2, q3, q4, q5, q6, q7, q8, hr, q10, q11, q12, hn⟩ := h j x hx
  exact ⟨ad, A', c, rfl, q1, q2, q3, q4, q5, q6, q7, q8, hr.mono hF, q10, q11, q12, fun hk => hn (hF _ hk)⟩
theorem ReadsA.mono {F F' : Nat → Prop} {W : World} {A : Option Addr} {xs : List AOp} (h : ReadsA F W A xs) (hF : ∀ k, F' k → F k) : ReadsA F' W A xs := fun j x hx => by
  obtain ⟨ad, Al, cl, At, ct, h0, h1, hn, c0, c1, c2, c3, c4, c5, hL, hT, l1, l2⟩ := h j x hx
  exact ⟨ad, Al, cl, At, ct, h0, h1, fun hk => hn (hF _ hk), c0, c1, c2, c3, c4, c5, hL.mono hF, hT.mono hF, l1, l2⟩
end Go.Proofs.Ytkcmmghhghgdpaa.Agt
end
section
namespace Go.Proofs.Ytkcmmghhghgdpaa.Agt
open Go.RowKit Go.Shelf Go.Maps Go.Proofs.Ytkcmmghhghgdpaa.Iter Go.Proofs.Ytkcmmghhghgdpaa.Str Go.Proofs.YtkcmmghhghgdpaaW.PrintWords Go.Proofs.YtkcmmghhghgdpaaW.PrintLast Go.Proofs.Ytkcmmghhghgdpaa.Open
set_option linter.unusedVariables false
set_option linter.unusedSimpArgs false
section
variable {a : Nat} {S S' : Ag} {Q : Nat → Prop} {W W' : World} {cd bn : Int}
theorem bootC (n : Int) (e1 : bootG S n = (S', cd)) (h : AgQ a S Q W) : Calls Try.prog 28 #[ptr a, .int .i64 n] W fun e W' => e = .returned (.int .i64 cd) ∧ AgQ a S' Q W' ∧ KeepQ Q W W' := by
  have := bootQ n h
  rw [e1] at this
  exact this
theorem beatC (e1 : beatG S = (S', bn, cd)) (hl : S.sent.length ≤ 100000) (hq : ∀ k, Q k → k < W.heap.size) (h : AgQ a S Q W) : Calls Try.prog 31 #[ptr a] W fun e W' => e = .returned (.tuple #[.int .i64 bn, .int .i64 cd]) ∧ AgQ a S' Q W' ∧ KeepQ Q W W' := by
  have := beatQ h hl hq
  rw [e1] at this
  exact this
theorem replyC (n m : Int) {A : Option Addr} {c0 : Nat} {xs : List Ls} {A2 : Option Addr} {c2 : Nat} {ts : List Ts} (e1 : replyG S n m xs ts = (S', cd)) (hok : AgOk S) (hsl : S.sent.length ≤ 100000) (hq : ∀ k, Q k → k < W.heap.size)
    (hL : ReadsL (fun k => ¬ Q k) W A xs) (hT : ReadsT (fun k => ¬ Q k) W A2 ts) (hxl : xs.length ≤ 9223372036854775807) (htl : ts.length ≤ 9223372036854775807) (h : AgQ a S Q W) :
    Calls Try.prog 32 #[ptr a, .int .i64 n, .int .i64 m, .slice A xs.length c0, .slice A2 ts.length c2] W fun e W' => e = .returned (.int .i64 cd) ∧ AgQ a S' Q W' ∧ KeepQ Q W W' := by
  have := replyQ n m A c0 xs A2 c2 ts h hok hsl hq hL hT hxl htl
  rw [e1] at this
  exact this
end
/-- What AgentLate keeps. -/
structure LInv (S : Ag) (last inc count : Int) (N : Nat) : Prop where
  w : AgW S N
  inc : inc = S.inc
  last0 : 0 ≤ last
  count0 : 0 ≤ count
  countN : count ≤ N
  rep0 : 0 ≤ S.replied
  on : S.runs = true → count = S.sent.length ∧ last = S.replied
  off : S.runs = false → S.sent = [] ∧ S.replied = 0
section
variable {S S' : Ag} {last inc count : Int} {N : Nat}
theorem LInv.new {nid nco nme nin nbe short : Int} (h : okNew nid nco nme short) : LInv (newG nid nco nme nin nbe short) 0 0 0 0 :=
  ⟨AgW.new h, rfl, Int.le_refl _, Int.le_refl _, Int.le_refl _, Int.le_refl _, fun h => by simp [newG] at h, fun _ => ⟨rfl, rfl⟩⟩
theorem LInv.mono {M : Nat} (h : LInv S last inc count N) (hm : N ≤ M) : LInv S last inc count M := ⟨h.w.mono hm, h.inc, h.last0, h.count0, by have := h.countN; omega, h.rep0, h.on, h.off⟩
theorem LInv.halt {cd : Int} (h : LInv S last inc count N) (e : haltG S = (S', cd)) : LInv S' last inc count N := by
  have hw := h.w.halt
  rw [e] at hw
  unfold haltG at e
  split at e
  · injection e with e _
    subst e
    exact ⟨hw, h.inc, h.last0, h.count0, h.countN, Int.le_refl _, fun h => (by cases h), fun _ => ⟨rfl, rfl⟩⟩
  · injection e with e _
    exact e ▸ h
theorem LInv.pass {dt cd : Int} (h : LInv S last inc count N) (e : passG S dt = (S', cd)) : LInv S' last inc count N := by
  have hw := h.w.pass dt
  rw [e] at hw
  unfold passG at e
  split at e
  · injection e with e _
    exact e ▸ h
  · split at e
    · injection e with e _
      exact e ▸ h
    · injection e with e _
      subst e
      exact ⟨hw, h.inc, h.last0, h.count0, h.countN, h.rep0, h.on, h.off⟩
end
/-- Memory in a law's loop: the agent, and all below B as it was in w2. -/
structure InL (B a : Nat) (S : Ag) (w2 wr : World) : Prop where
  ag : AgQ a S (fun k => k < B) wr
  bel : Below B w2 wr
  hB : B ≤ w2.heap.size
section
variable {B a b H : Nat} {S S' : Ag} {w2 wr W' : World} {cs : Array Value} {t : TypeId}
theorem InL.le (h : InL B a S w2 wr) : B ≤ wr.heap.size := Nat.le_trans h.hB h.bel.size
theorem InL.below (h : InL B a S w2 wr) (hb : Below wr.heap.size wr W') : InL B a S w2 W' := ⟨h.ag.below hb, h.bel.trans (below_le hb h.le), h.hB⟩
theorem InL.drew (h : InL B a S w2 wr) : InL B a S w2 wr.drew := h.below (Below.refl _ _).drew
theorem InL.drewN (h : InL B a S w2 wr) (n : Nat) : InL B a S w2 (wr.drewN n) := h.below (pw_below_drewN (Below.refl _ _) _)
theorem InL.alloc (h : InL B a S w2 wr) (x : Obj) : InL B a S w2 (wr.alloc x) := h.below ((Below.refl _ _).alloc (Nat.le_refl _) _)
theorem InL.box (h : InL B a S w2 wr) (x : Obj) : AgQ a S (fun k => k < B ∨ k = wr.heap.size) (wr.alloc x) := h.ag.more ((Below.refl _ _).alloc (Nat.le_refl _) _) fun k hk => hk.elim .inl fun hk => .inr (by omega)
theorem InL.next (h : InL B a S w2 wr) {x : Obj} (g : AgQ a S' (fun k => k < B ∨ k = wr.heap.size) W') (hk : KeepQ (fun k => k < B ∨ k = wr.heap.size) (wr.alloc x) W') : InL B a S' w2 W' :=
  ⟨g.less fun k hk => .inl hk, ((h.alloc x).bel).trans (hk.below (fun k hk => .inl hk) (by have := h.le; rw [World.size_alloc]; omega)), h.hB⟩
theorem InL.reads (h : InL B a S w2 wr) (hH : H ≤ B) {A : Option Addr} {xs : List Ls} (x : Obj) (hL : ReadsL (fun k => H ≤ k) wr A xs) : ReadsL (fun k => ¬ (k < B ∨ k = wr.heap.size)) (wr.alloc x) A xs :=
  (hL.keep ((Below.refl _ _).alloc (Nat.le_trans hH h.le) _)).mono fun k hk => by omega
theorem InL.blk (hk : KeepQ (fun k => k < B ∨ k = wr.heap.size) (wr.alloc (.cells cs t)) W') : Blk W' wr.heap.size t cs := hk.blk (.inr rfl) (Blk.new wr t cs)
end
theorem own_slice {W : World} {base e size n : Nat} {v : Value} {xs : List Value} (h : W.ownsRow base e size v n xs) : ∃ A c, v = .slice A n c := by
  rcases h.2 with ⟨rfl, rfl⟩ | ⟨g, cap, cur, rfl, _⟩
  · exact ⟨none, 0, rfl⟩
  · exact ⟨_, cap, rfl⟩
section
variable {a : Nat} {S : Ag} {Q : Nat → Prop} {W : World}
theorem finC (h : AgQ a S Q W) (hok : AgOk S) : Calls Try.prog 34 #[ptr a] W fun e W' => ∃ A c, ∃ zs : List LeM, e = .returned (.slice A zs.length c) ∧ zs.map (·.1) = finG S ∧ W'.ownsRow W.heap.size tL 8 (.slice A zs.length c) zs.length (flatL zs) ∧ (∀ z ∈ zs, OwnC W.heap.size W' z) ∧ Below W.heap.size W W' :=
  (finQ h hok).mono fun e W' ⟨u, h1, ⟨zs, hz, h2, h3⟩, h4⟩ => by
    obtain ⟨A, c, rfl⟩ := own_slice h2
    exact ⟨A, c, zs, h1, hz, h2, h3, h4⟩
end
end Go.Proofs.Ytkcmmghhghgdpaa.Agt
end
section
namespace Go.Proofs.Ytkcmmghhghgdpaa.Agt
open Go.RowKit Go.Shelf Go.Maps Go.Proofs.Ytkcmmghhghgdpaa.Iter Go.Proofs.Ytkcmmghhghgdpaa.Str Go.Proofs.YtkcmmghhghgdpaaW.PrintWords Go.Proofs.YtkcmmghhghgdpaaW.PrintLast Go.Proofs.Ytkcmmghhghgdpaa.Open
set_option linter.unusedVariables false
set_option linter.unusedSimpArgs false
/-- What AgentNever keeps. -/
structure NInv (S : Ag) (short : Int) (G : List Int) (up : Bool) (frm : Int) (L : List Ls) (N : Nat) : Prop where
  w : AgW S N
  short : S.short = short
  up : up = S.runs
  len : G.length ≤ N
  on : S.runs = true → G = S.sent
  off : S.runs = false → S.sent = [] ∧ S.jobs = []
  jobs : ∀ j ∈ S.jobs, j.le ∈ L ∧ j.frm = frm
  frm : 0 ≤ frm ∧ frm ≤ S.clock
section
variable {S S' : Ag} {short : Int} {G : List Int} {up : Bool} {frm : Int} {L : List Ls} {N : Nat}
theorem NInv.new {nid nco nme nin nbe short : Int} (h : okNew nid nco nme short) : NInv (newG nid nco nme nin nbe short) short [] false 0 [] 0 :=
  ⟨AgW.new h, rfl, rfl, Nat.le_refl _, fun _ => rfl, fun _ => ⟨rfl, rfl⟩, (fun j hj => by cases hj), ⟨Int.le_refl _, Int.le_refl _⟩⟩
theorem NInv.mono {M : Nat} (h : NInv S short G up frm L N) (hm : N ≤ M) : NInv S short G up frm L M := ⟨h.w.mono hm, h.short, h.up, by have := h.len; omega, h.on, h.off, h.jobs, h.frm⟩
theorem NInv.pass {dt cd : Int} (h : NInv S short G up frm L N) (e : passG S dt = (S', cd)) : NInv S' short G up frm L N := by
  have hw := h.w.pass dt
  rw [e] at hw
  unfold passG at e
  split at e
  · injection e with e _
    exact e ▸ h
  · split at e
    · injection e with e _
      exact e ▸ h
    · rename_i h1 h2
      injection e with e _
      subst e
      have := h.frm
      exact ⟨hw, h.short, h.up, h.len, h.on, h.off, h.jobs, ⟨this.1, by show frm ≤ S.clock + dt; omega⟩⟩
end
/-- Memory in AgentNever's loop: the agent, the row of the beats, all below B as it was in w2. -/
structure InN (B a : Nat) (S : Ag) (v : Value) (G : List Int) (w2 wr : World) : Prop where
  ag : AgQ a S (fun k => k < B ∨ v.ownBlock = some k) wr
  row : wr.ownsRow B tQ 1 v G.length (G.map (Value.int .i64))
  bel : Below B w2 wr
  hB : B ≤ w2.heap.size
section
variable {B a b H : Nat} {S S' : Ag} {v : Value} {G : List Int} {w2 wr W' : World} {cs : Array Value} {t : TypeId}
theorem InN.start (h : AgQ a S (fun k => k < B) w2) (hB : B ≤ w2.heap.size) : InN B a S (.slice none 0 0) [] w2 w2 :=
  ⟨h.less fun k hk => hk.elim id (fun h => by cases h), World.ownsRow_nil _ _ _ _, Below.refl _ _, hB⟩
theorem InN.nil (h : InN B a S v G w2 wr) : InN B a S (.slice none 0 0) [] w2 wr :=
  ⟨h.ag.less fun k hk => hk.elim .inl (fun h => by cases h), World.ownsRow_nil _ _ _ _, h.bel, h.hB⟩
theorem InN.le (h : InN B a S v G w2 wr) : B ≤ wr.heap.size := Nat.le_trans h.hB h.bel.size
theorem InN.below (h : InN B a S v G w2 wr) (hb : Below wr.heap.size wr W') : InN B a S v G w2 W' := ⟨h.ag.below hb, own_below h.row hb, h.bel.trans (below_le hb h.le), h.hB⟩
theorem InN.drew (h : InN B a S v G w2 wr) : InN B a S v G w2 wr.drew := h.below (Below.refl _ _).drew
theorem InN.drewN (h : InN B a S v G w2 wr) (n : Nat) : InN B a S v G w2 (wr.drewN n) := h.below (pw_below_drewN (Below.refl _ _) _)
theorem InN.alloc (h : InN B a S v G w2 wr) (x : Obj) : InN B a S v G w2 (wr.alloc x) := h.below ((Below.refl _ _).alloc (Nat.le_refl _) _)
theorem InN.box (h : InN B a S v G w2 wr) (x : Obj) : AgQ a S (fun k => (k < B ∨ v.ownBlock = some k) ∨ k = wr.heap.size) (wr.alloc x) := h.ag.more ((Below.refl _ _).alloc (Nat.le_refl _) _) fun k hk => hk.elim .inl fun hk => .inr (by omega)
theorem InN.rowlt (h : InN B a S v G w2 wr) : ∀ k, v.ownBlock = some k → B ≤ k ∧ k < wr.heap.size := fun k hk => by
  obtain ⟨h1, h2, _⟩ := own_block h.row hk
  exact ⟨h1, h2⟩
theorem InN.next (h : InN B a S v G w2 wr) {x : Obj} (g : AgQ a S' (fun k => (k < B ∨ v.ownBlock = some k) ∨ k = wr.heap.size) W') (hk : KeepQ (fun k => (k < B ∨ v.ownBlock = some k) ∨ k = wr.heap.size) (wr.alloc x) W') : InN B a S' v G w2 W' :=
  ⟨g.less fun k hk => .inl hk, Str.own_move (h.alloc x).row (fun k hb => hk.block k ((h.alloc x).rowlt k hb).2 (fun hn => hn (.inl (.inr hb)))),
    ((h.alloc x).bel).trans (hk.below (fun k hk => .inl (.inl hk)) (by have := h.le; rw [World.size_alloc]; omega)), h.hB⟩
theorem InN.reads (h : InN B a S v G w2 wr) (hH : H ≤ B) {A : Option Addr} {xs : List Ls} (x : Obj) (hL : ReadsL (fun k => H ≤ k) wr A xs) : ReadsL (fun k => ¬ ((k < B ∨ v.ownBlock = some k) ∨ k = wr.heap.size)) (wr.alloc x) A xs :=
  (hL.keep ((Below.refl _ _).alloc (Nat.le_trans hH h.le) _)).mono fun k hk => Classical.byContradiction fun hc => hk (.inl (.inl (by omega)))
theorem InN.blk (hk : KeepQ (fun k => (k < B ∨ v.ownBlock = some k) ∨ k = wr.heap.size) (wr.alloc (.cells cs t)) W') : Blk W' wr.heap.size t cs := hk.blk (.inr rfl) (Blk.new wr t cs)
theorem InN.cellAt {g c : Nat} (h : InN B a S (.slice (some ⟨g, 0, none⟩) G.length c) G w2 wr) {p : Nat} {x : Int} (hx : G[p]? = some x) : wr.cell? ⟨g, p, none⟩ = some (.int .i64 x) := by
  have hp := (List.getElem?_eq_some_iff.1 hx).1
  rw [h.row.cellAt p (by omega), List.getElem?_map, hx]
  rfl
theorem InN.cell (h : InN B a S v G w2 wr) {p : Nat} {x : Int} (hx : G[p]? = some x) : ∃ g c, v = .slice (some ⟨g, 0, none⟩) G.length c ∧ wr.cell? ⟨g, p, none⟩ = some (.int .i64 x) := by
  have hp := (List.getElem?_eq_some_iff.1 hx).1
  obtain ⟨g, c, rfl⟩ := own_someL h.row (by omega)
  refine ⟨g, c, rfl, ?_⟩
  rw [h.row.cellAt p (by omega), List.getElem?_map, hx]
  rfl
end
section
variable {a : Nat} {S S' : Ag} {Q : Nat → Prop} {W : World}
end
end Go.Proofs.Ytkcmmghhghgdpaa.Agt
end
section
namespace Go.Proofs.Ytkcmmghhghgdpaa.Agt
open Go.RowKit Go.Shelf Go.Maps Go.Proofs.Ytkcmmghhghgdpaa.Iter Go.Proofs.Ytkcmmghhghgdpaa.Str Go.Proofs.YtkcmmghhghgdpaaW.PrintWords Go.Proofs.YtkcmmghhghgdpaaW.PrintLast
set_option linter.unusedVariables false
set_option linter.unusedSimpArgs false
/-- Blocks that are none of an agent's may be stored into. -/
theorem AgQ.poke {a : Nat} {S : Ag} {Q : Nat → Prop} {W : World} (h : AgQ a S Q W) {p : Addr} (hp : Q p.block) (u : Value) : AgQ a S Q (W.setCell p u) := by
  obtain ⟨B, vs, vj, js, h, hB, hn⟩ := h
  refine ⟨B, vs, vj, js, h.frame fun k hk => Below.heap_setCell W p u k (fun e => hn k hk (e ▸ hp)), by simpa using hB, hn⟩
abbrev nL : Ls := ⟨2, 0, 1, [1, 3], 0, 0, 0, false⟩
def nS3 : Ag := ⟨1, 4, 9, 0, 0, 36, 0, true, 1, [0], 1, [⟨nL, 0, 1, 0, joinsF 0 [] [2]⟩]⟩
def nS4 : Ag := (quantG nS3).1
theorem nq : (quantG nS3).1 = nS4 := rfl
end Go.Proofs.Ytkcmmghhghgdpaa.Agt
end
section
namespace Go.Proofs.Ytkcmmghhghgdpaa.Agt
open Go.RowKit Go.Shelf Go.Maps Go.Proofs.Ytkcmmghhghgdpaa.Iter Go.Proofs.Ytkcmmghhghgdpaa.Str Go.Proofs.YtkcmmghhghgdpaaW.PrintWords Go.Proofs.YtkcmmghhghgdpaaW.PrintLast
set_option linter.unusedVariables false
set_option linter.unusedSimpArgs false
/-- The threads of a job that is new. -/
theorem joins_at (ts : List Int) (h : ∀ t ∈ ts, 1 ≤ t ∧ t ≤ 16) (hn : ts.length ≤ 100) : ∀ k, k ≤ ts.length → (joinsF 0 [] (ts.take k)).length = k ∧ ∀ (i : Nat) (c : Cl), (joinsF 0 [] (ts.take k))[i]? = some c → c.id = (i : Int) ∧ ts[i]? = some c.t
  | 0, _ => by simp [joinsF]
  | k + 1, hk => by
    obtain ⟨h1, h2⟩ := joins_at ts h hn k (by omega)
    obtain ⟨t, ht⟩ : ∃ t, ts[k]? = some t := ⟨ts[k], List.getElem?_eq_getElem (by omega)⟩
    obtain ⟨t1, t2⟩ := h t (List.mem_of_getElem? ht)
    have hid : ∀ c ∈ joinsF 0 [] (ts.take k), c.id < (k : Int) := fun c hc => by
      obtain ⟨i, hi⟩ := List.mem_iff_getElem?.1 hc
      have := (List.getElem?_eq_some_iff.1 hi).1
      rw [(h2 i c hi).1]
      omega
    have hs := sd_nonneg t1 t2
    have e : (joinL (joinsF 0 [] (ts.take k)) (k : Int) t (SQ / t)).1 = levelL (joinsF 0 [] (ts.take k) ++ [⟨(k : Int), t, SQ / t⟩]) := by
      unfold joinL
      rw [if_neg (by rw [has_not hid]; simp), if_neg (by show ¬ (t < 1 ∨ 16 < t ∨ sd t < 0 ∨ sd t < sd t); omega), if_neg (by omega), ins_last (fun d hd => hid d hd)]
    rw [joinsF_take ts k t ht, e]
    refine ⟨by rw [level_len]; simp [h1], fun i c hc => ?_⟩
    unfold levelL at hc
    rw [List.getElem?_map] at hc
    cases hg : (joinsF 0 [] (ts.take k) ++ [(⟨(k : Int), t, SQ / t⟩ : Cl)])[i]? with
    | none => rw [hg] at hc; cases hc
    | some d =>
      rw [hg] at hc
      obtain rfl := Option.some.inj hc
      show d.id = _ ∧ _ = some d.t
      by_cases hi : i < k
      · rw [List.getElem?_append_left (by omega)] at hg
        exact h2 i d hg
      · have hil := (List.getElem?_eq_some_iff.1 hg).1
        rw [List.length_append, h1] at hil
        simp at hil
        obtain rfl : i = k := by omega
        rw [List.getElem?_append_right (by omega), h1] at hg
        simp at hg
        subst hg
        exact ⟨rfl, ht⟩
theorem joins_all (ts : List Int) (h : ∀ t ∈ ts, 1 ≤ t ∧ t ≤ 16) (hn : ts.length ≤ 100) : (joinsF 0 [] ts).length = ts.length ∧ ∀ (i : Nat) (c : Cl), (joinsF 0 [] ts)[i]? = some c → c.id = (i : Int) ∧ ts[i]? = some c.t := by
  have := joins_at ts h hn ts.length (Nat.le_refl _)
  rwa [List.take_length] at this
theorem joins_sum (ts : List Int) (h : ∀ t ∈ ts, 1 ≤ t ∧ t ≤ 16) (hn : ts.length ≤ 100) : sumT (joinsF 0 [] ts) = ts.sum := by
  obtain ⟨h1, h2⟩ := joins_all ts h hn
  unfold sumT
  congr 1
  apply List.ext_getElem?
  intro i
  rw [List.getElem?_map]
  cases hc : (joinsF 0 [] ts)[i]? with
  | none =>
    rw [List.getElem?_eq_none_iff, h1] at hc
    rw [List.getElem?_eq_none_iff.2 hc]
    rfl
  | some c => exact (h2 i c hc).2.symm
/-- Each thread's share. -/
theorem joins_fair (ts : List Int) (h : ∀ t ∈ ts, 1 ≤ t ∧ t ≤ 16) (hn : ts.length ≤ 100) (q i : Nat) (t : Int) (ht : ts[i]? = some t) :
    cnt (i : Int) (runL q (joinsF 0 [] ts)).2 * ts.sum - q * t ≤ ts.sum * ((ts.length : Int) - 1) ∧ -(cnt (i : Int) (runL q (joinsF 0 [] ts)).2 * ts.sum - q * t) ≤ ts.sum * ((ts.length : Int) - 1) := by
  obtain ⟨h1, h2⟩ := joins_all ts h hn
  have hi := (List.getElem?_eq_some_iff.1 ht).1
  obtain ⟨c, hc⟩ : ∃ c, (joinsF 0 [] ts)[i]? = some c := ⟨_, List.getElem?_eq_getElem (by omega)⟩
  obtain ⟨e1, e2⟩ := h2 i c hc
  have := fair (n := q) (joinsF_good ts 0 [] good_nil).1 (List.mem_of_getElem? hc)
  rw [joins_sum ts h hn, h1, e1] at this
  rw [ht] at e2
  obtain rfl := Option.some.inj e2
  exact this
abbrev sL : Ls := ⟨8, 0, 3, [0], 0, 0, 0, false⟩
abbrev sT (work : Int) (ts : List Int) : Ts := ⟨8, 0, 0, 0, work, ts, 0⟩
abbrev sS1 : Ag := ⟨3, 1, 1, 0, 0, 10, 0, true, 5, [], 0, []⟩
abbrev sS2 : Ag := ⟨3, 1, 1, 0, 0, 10, 0, true, 5, [0], 0, []⟩
/-- The agent behind q quanta. -/
def shS (work : Int) (l0 : List Cl) (q : Nat) : Ag := ⟨3, 1, 1, 0, 0, 10, 0, true, 5, [0], 1, [⟨sL, 0, work, (q : Int), (runL q l0).1⟩]⟩
theorem sw1 : bootG (newG 3 1 1 0 0 10) 5 = (sS1, 0) := by rfl
theorem sw2 : beatG sS1 = (sS2, 1, 0) := by rfl
theorem sW1 : AgW sS1 0 := by have := (AgW.new (nid := 3) (nco := 1) (nme := 1) (nin := 0) (nbe := 0) (short := 10) (by decide)).boot 5; rwa [sw1] at this
theorem sW2 : AgW sS2 1 := by have := sW1.beat; rwa [sw2] at this
theorem sh_fits (work : Int) (ts : List Int) (h : ∀ t ∈ ts, 1 ≤ t ∧ t ≤ 16) (h1 : 1 ≤ ts.length) (h2 : ts.length ≤ 16) (hw : 0 ≤ work) : fitsT (sT work ts) = true := by
  unfold fitsT
  have : (ts.any fun k => decide (k < 1) || decide (16 < k)) = false := List.any_eq_false.2 fun k hk => by
    have := h k hk
    simp
    omega
  simp only [this, Bool.not_false, Bool.true_and, Bool.and_eq_true, decide_eq_true_eq]
  omega
theorem sh_reply (work : Int) (ts : List Int) (h : ∀ t ∈ ts, 1 ≤ t ∧ t ≤ 16) (h1 : 1 ≤ ts.length) (h2 : ts.length ≤ 16) (hw : 0 ≤ work) : replyG sS2 5 1 [sL] [sT work ts] = (shS work (joinsF 0 [] ts) 0, 0) := by
  have hf : formB sS2 [sT work ts] [sL] = true := by
    unfold formB formF
    rw [List.foldl_cons, List.foldl_nil, lstep_some (x := sL) (t := sT work ts) (last := 0) (tk' := [0]) (by rintro (⟨p, e, _⟩ | e | e); · cases e
                                                                                                             · exact e rfl
                                                                                                             · cases e) (by rfl) (sh_fits work ts h h1 h2 hw) (by rfl)]
    rfl
  unfold replyG
  rw [if_pos rfl, if_neg (by decide), if_pos hf]
  rfl
theorem sh_ok (work : Int) (l0 : List Cl) (h : GoodG l0) (q : Nat) : AgW (shS work l0 q) (q + 1) := by
  refine ⟨⟨⟨Int.le_refl _, by simp [shS]⟩, by simp [shS], by simp [shS], by simp [shS], fun j hj => ?_, List.pairwise_singleton _ _⟩, fun x hx => ?_, by simp [shS], fun j hj => ?_⟩
  · obtain rfl := List.mem_singleton.1 hj
    exact ⟨by simp, run_good' h q, Int.le_refl _, Int.le_refl _, Int.natCast_nonneg _⟩
  · obtain rfl := List.mem_singleton.1 hx
    exact ⟨Int.le_refl _, Int.le_refl _⟩
  · obtain rfl := List.mem_singleton.1 hj
    show (q : Int) ≤ ((q + 1 : Nat) : Int)
    omega
theorem sh_done (work : Int) (l0 : List Cl) (q : Nat) : doneJ ⟨sL, 0, work, (q : Int), (runL q l0).1⟩ = decide (0 < work ∧ work ≤ (q : Int)) := by
  unfold doneJ
  simp
theorem sh_live (work : Int) (l0 : List Cl) (q : Nat) : liveJ (shS work l0 q) ⟨sL, 0, work, (q : Int), (runL q l0).1⟩ = !decide (0 < work ∧ work ≤ (q : Int)) := by
  unfold liveJ
  rw [sh_done]
  simp [shS]
theorem sh_quant0 (work : Int) (l0 : List Cl) (q : Nat) (h : 0 < work ∧ work ≤ (q : Int)) : quantG (shS work l0 q) = (shS work l0 q, []) := by
  have := sh_live work l0 q
  rw [decide_eq_true h] at this
  unfold quantG
  simp only [show (shS work l0 q).jobs = [⟨sL, 0, work, (q : Int), (runL q l0).1⟩] from rfl, List.filter_cons, List.filter_nil, List.map_cons, List.map_nil, this, Bool.not_true, if_neg Bool.false_ne_true]
  rfl
theorem sh_quant1 (work : Int) (l0 : List Cl) (q : Nat) (hne : l0 ≠ []) (h : ¬ (0 < work ∧ work ≤ (q : Int))) : quantG (shS work l0 q) = (shS work l0 (q + 1), [(8, (pickL (runL q l0).1).2)]) := by
  have := sh_live work l0 q
  rw [decide_eq_false h] at this
  have hn2 : (runL q l0).1 ≠ [] := fun e => by
    have := run_len q l0
    rw [e] at this
    exact hne (List.length_eq_zero_iff.1 this.symm)
  have hp : pickR (runL q l0).1 = ((pickL (runL q l0).1).1, (pickL (runL q l0).1).2, 0) := if_neg hn2
  unfold quantG
  simp only [show (shS work l0 q).jobs = [⟨sL, 0, work, (q : Int), (runL q l0).1⟩] from rfl, List.filter_cons, List.filter_nil, List.map_cons, List.map_nil, this, Bool.not_false, if_true, quantJ, hp]
  unfold shS
  rw [run_one]
  simp
theorem sh_fin0 (work : Int) (l0 : List Cl) (q : Nat) (h : ¬ (0 < work ∧ work ≤ (q : Int))) : (finG (shS work l0 q)).length = 0 := by
  have := sh_done work l0 q
  rw [decide_eq_false h] at this
  unfold finG
  simp only [show (shS work l0 q).jobs = [⟨sL, 0, work, (q : Int), (runL q l0).1⟩] from rfl, List.filter_cons, List.filter_nil, this, if_neg Bool.false_ne_true]
  rfl
theorem sh_fin1 (work : Int) (l0 : List Cl) (q : Nat) (h : 0 < work ∧ work ≤ (q : Int)) : (finG (shS work l0 q)).length = 1 := by
  have := sh_done work l0 q
  rw [decide_eq_true h] at this
  unfold finG
  simp only [show (shS work l0 q).jobs = [⟨sL, 0, work, (q : Int), (runL q l0).1⟩] from rfl, List.filter_cons, List.filter_nil, this, if_true]
  rfl
theorem run_snoc (q : Nat) (l : List Cl) : (runL (q + 1) l).2 = (runL q l).2 ++ [(pickL (runL q l).1).2] := by
  rw [run_app q 1]
  rfl
/-- The threads that get quanta are there. -/
theorem run_ids (ts : List Int) (h : ∀ t ∈ ts, 1 ≤ t ∧ t ≤ 16) (h1 : 1 ≤ ts.length) (hn : ts.length ≤ 100) (q : Nat) : ∀ z ∈ (runL q (joinsF 0 [] ts)).2, 0 ≤ z ∧ z < (ts.length : Int) := fun z hz => by
  obtain ⟨k1, k2⟩ := joins_all ts h hn
  have hne : joinsF 0 [] ts ≠ [] := fun e => by rw [e] at k1; simp at k1; omega
  obtain ⟨c, hc, rfl⟩ := (run_spec q _ (joinsF_good ts 0 [] good_nil).1 hne).2.2.1 z hz
  obtain ⟨i, hi⟩ := List.mem_iff_getElem?.1 hc
  have hl := (List.getElem?_eq_some_iff.1 hi).1
  rw [(k2 i c hi).1]
  omega
/-- Quanta so far, behind i rounds. -/
def ShQ (work : Int) (i q : Nat) : Prop := q ≤ i ∧ (0 < work → (q : Int) ≤ work) ∧ (q < i → 0 < work ∧ (q : Int) = work)
theorem ShQ.zero {work : Int} (hw : 0 ≤ work) : ShQ work 0 0 := ⟨Nat.le_refl _, fun _ => by omega, fun h => by omega⟩
theorem ShQ.stay {work : Int} {i q : Nat} (h : ShQ work i q) (hd : 0 < work ∧ work ≤ (q : Int)) : ShQ work (i + 1) q := by
  obtain ⟨h1, h2, h3⟩ := h
  exact ⟨by omega, h2, fun _ => ⟨hd.1, by have := h2 hd.1; omega⟩⟩
theorem ShQ.step {work : Int} {i q : Nat} (h : ShQ work i q) (hd : ¬ (0 < work ∧ work ≤ (q : Int))) : ShQ work (i + 1) (q + 1) := by
  obtain ⟨h1, h2, h3⟩ := h
  refine ⟨by omega, fun hw => by omega, fun hlt => ?_⟩
  have := h3 (by omega)
  omega
section
variable {a : Nat} {S S' : Ag} {Q : Nat → Prop} {W : World}
theorem quantR {rs : List (Int × Int)} (e1 : quantG S = (S', rs)) (hok : AgOk S) (hhad : ∀ j ∈ S.jobs, j.had < 9223372036854775807) (h : AgQ a S Q W) : Calls Try.prog 38 #[ptr a] W fun e W' => ∃ A c, e = .returned (.slice A rs.length c) ∧
    W'.ownsRow W.heap.size tRan 2 (.slice A rs.length c) rs.length (flatR rs) ∧ AgQ a S' Q W' ∧ KeepQ Q W W' := by
  have := quantQ h hok hhad
  rw [e1] at this
  exact this.mono fun e W' ⟨u, h1, h2, h3, h4⟩ => by
    obtain ⟨A, c, rfl⟩ := own_slice h2
    exact ⟨A, c, h1, h2, h3, h4⟩
theorem fin_len {k : Nat} (hl : (finG S).length = k) (hok : AgOk S) (h : AgQ a S Q W) : Calls Try.prog 34 #[ptr a] W fun e W' => ∃ A c, e = .returned (.slice A k c) ∧ Below W.heap.size W W' :=
  (finC h hok).mono fun e W' ⟨A, c, zs, h1, hz, _, _, h4⟩ => by
    have := congrArg List.length hz
    rw [List.length_map, hl] at this
    rw [this] at h1
    exact ⟨A, c, h1, h4⟩
end
theorem own_poke {W : World} {base e size n : Nat} {v : Value} {xs : List Value} (h : W.ownsRow base e size v n xs) {p : Addr} (hp : p.block < base) (u : Value) : (W.setCell p u).ownsRow base e size v n xs :=
  Str.own_move h fun k hk => by
    have := (own_block h hk).1
    exact Below.heap_setCell W p u k (fun e => by omega)
/-- Reply of the law's lease and task. -/
theorem sh_calls {B a : Nat} {w W0 : World} {A0 : Option Addr} {c0 : Nat} {ts : List Int} {work : Int} (g : AgQ a sS2 (fun k => k < B) w) (hB : B ≤ w.heap.size) (h0 : W0.heap.size ≤ B) (hr : ReadsF (fun k => W0.heap.size ≤ k) w A0 ts) (hc : ts.length ≤ c0)
    (h : ∀ t ∈ ts, 1 ≤ t ∧ t ≤ 16) (h1 : 1 ≤ ts.length) (h2 : ts.length ≤ 16) (hw : 0 ≤ work) :
    Calls Try.prog 32 #[ptr a, .int .i64 5, .int .i64 1, .slice (some ⟨w.heap.size + 1, 0, none⟩) 1 1, .slice (some ⟨w.heap.size + 1 + 1, 0, none⟩) 1 1]
      (((w.alloc (.cells #[.int .i64 0] 3)).alloc (.cells #[.int .i64 8, .int .i64 0, .int .i64 3, .slice (some ⟨w.heap.size, 0, none⟩) 1 1, .int .i64 0, .int .i64 0, .int .i64 0, .bool false] 81)).alloc (.cells #[.int .i64 8, .int .i64 0, .int .i64 0, .int .i64 0, .int .i64 work, .slice A0 ts.length c0, .int .i64 0] 85))
      fun e W' => e = .returned (.int .i64 0) ∧ AgQ a (shS work (joinsF 0 [] ts) 0) (fun k => k < B) W' ∧ Below B w W' := by
  have b1 : Below w.heap.size w (lit1 w sL) := lit1_below w sL
  have b2 := b1.alloc b1.size (.cells #[.int .i64 8, .int .i64 0, .int .i64 0, .int .i64 0, .int .i64 work, .slice A0 ts.length c0, .int .i64 0] 85)
  have hsz : ((lit1 w sL).alloc (.cells #[.int .i64 8, .int .i64 0, .int .i64 0, .int .i64 0, .int .i64 work, .slice A0 ts.length c0, .int .i64 0] 85)).heap.size = w.heap.size + 3 := by simp [lit1]
  have g2 : AgQ a sS2 (fun k => k < B ∨ (w.heap.size ≤ k ∧ k < w.heap.size + 3)) ((lit1 w sL).alloc (.cells #[.int .i64 8, .int .i64 0, .int .i64 0, .int .i64 0, .int .i64 work, .slice A0 ts.length c0, .int .i64 0] 85)) :=
    g.more b2 fun k hk => hk.elim .inl fun hk => .inr hk.1
  have hL : ReadsL (fun k => ¬ (k < B ∨ (w.heap.size ≤ k ∧ k < w.heap.size + 3))) ((lit1 w sL).alloc (.cells #[.int .i64 8, .int .i64 0, .int .i64 0, .int .i64 0, .int .i64 work, .slice A0 ts.length c0, .int .i64 0] 85)) (some ⟨w.heap.size + 1, 0, none⟩) [sL] := fun j y hy => by
    have := ((lit1_reads w sL (Nat.le_refl _) (by decide) rfl).below ((Below.refl _ _).alloc (Nat.le_refl _) (.cells #[.int .i64 8, .int .i64 0, .int .i64 0, .int .i64 0, .int .i64 work, .slice A0 ts.length c0, .int .i64 0] 85))) j y hy
    obtain ⟨ad, A', c, hA, q1, q2, q3, q4, q5, q6, q7, q8, q9, hr9, q10, q11, q12, hn⟩ := this
    obtain rfl := Option.some.inj hA
    rw [hsz] at q1
    refine ⟨_, A', c, rfl, by rw [hsz]; exact q1, q2, q3, q4, q5, q6, q7, q8, q9, ⟨hr9.1, fun ad2 hA2 hl2 hf => ?_⟩, q10, q11, q12, fun hf => hf (.inr ⟨by show w.heap.size ≤ w.heap.size + 1; omega, q1⟩)⟩
    have h3 := hr9.2 ad2 hA2 hl2
    obtain ⟨x, hx⟩ : ∃ x, y.cores[0]? = some x := ⟨_, List.getElem?_eq_getElem hl2⟩
    obtain ⟨ad3, hA3, h4, _⟩ := hr9.1 0 x hx
    rw [hA2] at hA3
    obtain rfl := Option.some.inj hA3
    rw [hsz] at h4
    exact hf (.inr ⟨by omega, h4⟩)
  have hT : ReadsT (fun k => ¬ (k < B ∨ (w.heap.size ≤ k ∧ k < w.heap.size + 3))) ((lit1 w sL).alloc (.cells #[.int .i64 8, .int .i64 0, .int .i64 0, .int .i64 0, .int .i64 work, .slice A0 ts.length c0, .int .i64 0] 85)) (some ⟨w.heap.size + 1 + 1, 0, none⟩) [sT work ts] := fun j y hy => by
    obtain ⟨rfl, rfl⟩ : j = 0 ∧ y = sT work ts := by
      cases j with
      | zero => exact ⟨rfl, by simpa using hy.symm⟩
      | succ j => simp at hy
    have hb := Blk.new (lit1 w sL) tT #[.int .i64 8, .int .i64 0, .int .i64 0, .int .i64 0, .int .i64 work, .slice A0 ts.length c0, .int .i64 0]
    have hs1 : (lit1 w sL).heap.size = w.heap.size + 1 + 1 := by simp [lit1]
    rw [hs1] at hb
    refine ⟨⟨w.heap.size + 1 + 1, 0, none⟩, A0, c0, rfl, by rw [hsz]; show w.heap.size + 1 + 1 < _; omega, hb.cell 0, hb.cell 1, hb.cell 2, hb.cell 3, hb.cell 4, hb.cell 5, hb.cell 6, ⟨hr.1.below b2, fun ad hA hl hf => ?_⟩, hc, rfl, by show ts.length ≤ _; omega, fun hf => hf (.inr ⟨by show w.heap.size ≤ w.heap.size + 1 + 1; omega, by show w.heap.size + 1 + 1 < _; omega⟩)⟩
    have := hr.2 ad hA hl
    exact hf (.inl (by omega))
  refine (replyC 5 1 (c0 := 1) (c2 := 1) (sh_reply work ts h h1 h2 hw) sW2.ok (by decide) (fun k hk => by rw [hsz]; rcases hk with hk | hk <;> omega) hL hT (by simp) (by simp) g2).mono fun e W' ⟨k1, k2, k3⟩ => ⟨k1, k2.less fun k hk => .inl hk, (below_le b2 hB).trans (k3.below (fun k hk => .inl hk) (by rw [hsz]; omega))⟩
end Go.Proofs.Ytkcmmghhghgdpaa.Agt
end
section
namespace Go.Proofs.Ytkcmmghhghgdpaa.Walk
open Go.RowKit Go.Shelf Go.Maps Go.Proofs.Ytkcmmghhghgdpaa.Iter Go.Proofs.Ytkcmmghhghgdpaa.Str Go.Proofs.Ytkcmmghhghgdpaa.Agt Go.Proofs.YtkcmmghhghgdpaaW.PrintWords Go.Proofs.YtkcmmghhghgdpaaW.PrintLast
set_option linter.unusedVariables false
set_option linter.unusedSimpArgs false

set_option maxRecDepth 100000 in
set_option maxHeartbeats 32000000 in
theorem AgentShares (W : World) (A0 : Option Addr) (c0 : Nat) (ts : List Int) (hc0 : ts.length ≤ c0) (hr0 : (Kd.int .i64).C W A0 ts.length ts) (g0 : ts.length ≤ maxLen ∧ ∀ a ∈ ts, (Lit.int .i64 a).wf = true) (work : Int) (ww : (Lit.int .i64 work).wf = true) (n : Int) (wn : (Lit.int .i64 n).wf = true) :
    Calls Try.prog 11 #[.slice A0 ts.length c0, .int .i64 work, .int .i64 n] W fun e W' => e = .returned (.bool true) ∧ Below W.heap.size W W' := by
  have hl63 : ts.length ≤ 9223372036854775807 := g0.1
  have hR := Lib.hid (readsF_C hr0)
  clear hr0 g0 ww wn
  by_cases h1 : ¬ 1 ≤ ts.length
  · have e1 : (ts.length : Int) < 1 := by omega
    go_enter Try.func11, Try.ntmps11
    go_wp2_with (((with_reducible refine gate_callee (f := 26) rfl ?_); refine goesL_ (some 21) rfl rfl Try.func26 (by kernel_rfl) rfl #[] rfl (by (try simp only [List.map_toArray, List.map_cons, List.map_nil]); first | done | rfl) ?_; (with_reducible refine (Agt.awake_calls _).mono ?_); rintro e w1 ⟨rfl, b1⟩; refine ⟨_, rfl, ?_⟩; have b1' := Lib.hid b1; clear b1))
    go_ret
    exact ⟨rfl, b1'.out⟩
  have e1 : ¬ (ts.length : Int) < 1 := by omega
  have h1 : 1 ≤ ts.length := by omega
  by_cases h2 : ¬ ts.length ≤ 16
  · have e2 : (16 : Int) < (ts.length : Int) := by omega
    go_enter Try.func11, Try.ntmps11
    go_wp2_with (((with_reducible refine gate_callee (f := 26) rfl ?_); refine goesL_ (some 21) rfl rfl Try.func26 (by kernel_rfl) rfl #[] rfl (by (try simp only [List.map_toArray, List.map_cons, List.map_nil]); first | done | rfl) ?_; (with_reducible refine (Agt.awake_calls _).mono ?_); rintro e w1 ⟨rfl, b1⟩; refine ⟨_, rfl, ?_⟩; have b1' := Lib.hid b1; clear b1))
    go_ret
    exact ⟨rfl, b1'.out⟩
  have h2 : ts.length ≤ 16 := by omega
  have e2 : ¬ (16 : Int) < (ts.length : Int) := by omega
  by_cases e3 : work < 0
  · go_enter Try.func11, Try.ntmps11
    go_wp2_with (((with_reducible refine gate_callee (f := 26) rfl ?_); refine goesL_ (some 21) rfl rfl Try.func26 (by kernel_rfl) rfl #[] rfl (by (try simp only [List.map_toArray, List.map_cons, List.map_nil]); first | done | rfl) ?_; (with_reducible refine (Agt.awake_calls _).mono ?_); rintro e w1 ⟨rfl, b1⟩; refine ⟨_, rfl, ?_⟩; have b1' := Lib.hid b1; clear b1))
    go_ret
    exact ⟨rfl, b1'.out⟩
  by_cases e4 : 500 < work
  · go_enter Try.func11, Try.ntmps11
    go_wp2_with (((with_reducible refine gate_callee (f := 26) rfl ?_); refine goesL_ (some 21) rfl rfl Try.func26 (by kernel_rfl) rfl #[] rfl (by (try simp only [List.map_toArray, List.map_cons, List.map_nil]); first | done | rfl) ?_; (with_reducible refine (Agt.awake_calls _).mono ?_); rintro e w1 ⟨rfl, b1⟩; refine ⟨_, rfl, ?_⟩; have b1' := Lib.hid b1; clear b1))
    go_ret
    exact ⟨rfl, b1'.out⟩
  by_cases e5 : n < 0
  · go_enter Try.func11, Try.ntmps11
    go_wp2_with (((with_reducible refine gate_callee (f := 26) rfl ?_); refine goesL_ (some 21) rfl rfl Try.func26 (by kernel_rfl) rfl #[] rfl (by (try simp only [List.map_toArray, List.map_cons, List.map_nil]); first | done | rfl) ?_; (with_reducible refine (Agt.awake_calls _).mono ?_); rintro e w1 ⟨rfl, b1⟩; refine ⟨_, rfl, ?_⟩; have b1' := Lib.hid b1; clear b1))
    go_ret
    exact ⟨rfl, b1'.out⟩
  by_cases e6 : 600 < n
  · go_enter Try.func11, Try.ntmps11
    go_wp2_with (((with_reducible refine gate_callee (f := 26) rfl ?_); refine goesL_ (some 21) rfl rfl Try.func26 (by kernel_rfl) rfl #[] rfl (by (try simp only [List.map_toArray, List.map_cons, List.map_nil]); first | done | rfl) ?_; (with_reducible refine (Agt.awake_calls _).mono ?_); rintro e w1 ⟨rfl, b1⟩; refine ⟨_, rfl, ?_⟩; have b1' := Lib.hid b1; clear b1))
    go_ret
    exact ⟨rfl, b1'.out⟩
  have hw0 : 0 ≤ work := by omega
  obtain ⟨N, rfl⟩ : ∃ N : Nat, n = (N : Int) := ⟨n.toNat, by omega⟩
  obtain ⟨i0, hif, hz0, hz1, hz2⟩ := info_parts infoInt
  go_enter Try.func11, Try.ntmps11
  go_wp2_with (((with_reducible refine gate_callee (f := 26) rfl ?_); refine goesL_ (some 21) rfl rfl Try.func26 (by kernel_rfl) rfl #[] rfl (by (try simp only [List.map_toArray, List.map_cons, List.map_nil]); first | done | rfl) ?_; (with_reducible refine (Agt.awake_calls _).mono ?_); rintro e w1 ⟨rfl, b1⟩; refine ⟨_, rfl, ?_⟩; have b1' := Lib.hid b1; clear b1))
  go_loopw [7, 49] (fun sv iv wr => ∃ (i : Nat), sv = .int .i64 (ts.take i).sum ∧ iv = .int .i64 (i : Int) ∧ i ≤ ts.length ∧ (∀ t ∈ ts.take i, 1 ≤ t ∧ t ≤ 16) ∧ Below W.heap.size W wr)
    (fun _ iv _ => ts.length - (intOf iv).toNat)
  case atStart => exact ⟨0, rfl, rfl, Nat.zero_le _, (fun t ht => by simp at ht), b1'.out⟩
  case round =>
    obtain ⟨i, rfl, rfl, hi, hall, hbel⟩ := hrel
    by_cases hlt : i < ts.length
    · obtain ⟨t, ht⟩ : ∃ t, ts[i]? = some t := ⟨ts[i], List.getElem?_eq_getElem hlt⟩
      obtain ⟨ad, rfl, _, q0⟩ := (hR.out.keep hbel).1 i t ht
      have hst := Lib.hid (sum_take ts i t ht)
      have hb := sum_bound (ts.take i) hall
      rw [List.length_take] at hb
      have hall' := Lib.hid hall
      have hbel' := Lib.hid hbel
      have ht' := Lib.hid ht
      clear hall hbel ht
      by_cases t1 : t < 1
      · go_wp2
        go_ret
        exact ⟨rfl, hbel'.out⟩
      · by_cases t2 : 16 < t
        · go_wp2
          go_ret
          exact ⟨rfl, hbel'.out⟩
        · have hw : IntKind.i64.wrap ((ts.take i).sum + t) = (ts.take i).sum + t := IntWalk.i64_in _ (by omega)
          go_wp2
          go_roundw
          case rel => exact ⟨i + 1, by rw [hst.out], by go_num, by omega, fun x hx => by
            rw [List.take_add_one, ht'.out] at hx
            rcases List.mem_append.1 hx with hx | hx
            · exact hall'.out x hx
            · obtain rfl := List.mem_singleton.1 hx
              omega, hbel'.out⟩
          case measure => simp [intOf]; omega
    · have hi' : i = ts.length := by omega
      subst hi'
      rw [List.take_length] at hall ⊢
      have hsb := sum_bound ts hall
      have hts' := Lib.hid hall
      have hbW' := Lib.hid hbel
      clear hall hbel
      go_wp2_with (first | (((with_reducible refine gate_callee (f := 27) rfl ?_); refine goesL_ (some 65) rfl rfl Try.func27 (by kernel_rfl) rfl #[.agg #[.int .i64 3, .int .i64 1, .int .i64 1, .int .i64 0, .int .i64 0], .int .i64 10] rfl (by (try simp only [List.map_toArray, List.map_cons, List.map_nil]); first | done | rfl) ?_; (with_reducible refine (newE 3 1 1 0 0 10 _).mono ?_); (intro e w2 hnew; obtain ⟨a, rfl, g2, b2⟩ := newYes (by decide) hnew; clear hnew); refine ⟨_, rfl, ?_⟩; have g2' := Lib.hid (AgQ.ofNew g2 b2); have b2' := Lib.hid b2; clear g2 b2)) | ((go_at_call 28; go_loud (refine (bootC 5 sw1 g2'.out).mono ?_; rintro e w3 ⟨rfl, g3, k3⟩; have b3' := Lib.hid (b2'.out.trans (k3.below (fun k hk => hk) b2'.out.size)); have g3' := Lib.hid g3; clear g3 k3))) | (((with_reducible refine gate_callee (f := 31) rfl ?_); refine goesL_ (some 77) rfl rfl Try.func31 (by kernel_rfl) rfl #[ptr a] rfl (by (try simp only [List.map_toArray, List.map_cons, List.map_nil]); first | done | rfl) ?_; (with_reducible refine (beatC sw2 (by decide) (fun k hk => Nat.lt_of_lt_of_le hk b3'.out.size) g3'.out).mono ?_); rintro e w4 ⟨rfl, g4, k4⟩; refine ⟨_, rfl, ?_⟩; have b4' := Lib.hid (b3'.out.trans (k4.below (fun k hk => hk) b3'.out.size)); have g4' := Lib.hid g4; clear g4 k4)) | ((go_at_call 32; go_loud (refine (sh_calls (W0 := W) g4'.out b4'.out.size hbW'.out.size (hR.out.keep (hbW'.out.trans (below_le b4'.out hbW'.out.size))) hc0 hts'.out h1 h2 hw0).mono ?_; rintro e w5 ⟨rfl, g5, b5⟩; have b5' := Lib.hid (b4'.out.trans b5); have g5' := Lib.hid g5; clear g5 b5))) | (at_make; refine wpList_make_full _ rfl _ _ 22 rfl w5.heap.size 3 i0 (.int .i64 0) 1 Try.underlying22 hif hz0 hz1 .i64 .i64 _ _ ts.length rfl rfl rfl rfl (by rw [hz2]; omega) (by unfold maxLen; omega) (by simp) ?_; intro w6 hown hgrow))
      obtain ⟨l0, hl0⟩ : ∃ l, joinsF 0 [] ts = l := ⟨_, rfl⟩
      have hgood' := Lib.hid (show GoodG l0 from hl0 ▸ joinsF_good ts 0 [] good_nil)
      have hids' := Lib.hid (fun (q : Nat) => show ∀ z ∈ (runL q l0).2, 0 ≤ z ∧ z < (ts.length : Int) from hl0 ▸ run_ids ts hts'.out h1 (by omega) q)
      have hfair' := Lib.hid (fun (q i : Nat) (t : Int) (ht : ts[i]? = some t) => show cnt (i : Int) (runL q l0).2 * ts.sum - q * t ≤ ts.sum * ((ts.length : Int) - 1) ∧ -(cnt (i : Int) (runL q l0).2 * ts.sum - q * t) ≤ ts.sum * ((ts.length : Int) - 1) from hl0 ▸ joins_fair ts hts'.out (by omega) q i t ht)
      have hne' := Lib.hid (show l0 ≠ [] from fun e => by have := (joins_all ts hts'.out (by omega)).1; rw [hl0, e] at this; simp at this; omega)
      rw [hl0] at g5'
      obtain ⟨H, hH⟩ : ∃ H, w5.heap.size = H := ⟨_, rfl⟩
      obtain ⟨B, hBe⟩ : ∃ B, wr.heap.size = B := ⟨_, rfl⟩
      have bH : Blk w6 H 3 ((cntUp ts.length (runL 0 l0).2).map (Value.int .i64)).toArray := by
        have h9 := blk_of_own hown
        rw [show (Value.int .i64 0).cells = #[Value.int .i64 0] from rfl, toList_madeCells_one, Nat.mul_one, hH] at h9
        rw [show (runL 0 l0).2 = [] from rfl, cntUp_nil, List.map_replicate]
        exact h9
      have hBW' := Lib.hid (show W.heap.size ≤ B from hBe ▸ hbW'.out.size)
      have hBH' := Lib.hid (show B ≤ H from hBe ▸ hH ▸ b5'.out.size)
      have g6' := Lib.hid (show AgQ a (shS work l0 0) (fun k => k < B ∨ k = H) w6 from hBe ▸ hH ▸ g5'.out.more (grown_below hgrow) fun k hk => hk.elim .inl fun hk => .inr (by omega))
      have b6' := Lib.hid (show Below W.heap.size W w6 from hbW'.out.trans (below_le (b5'.out.trans (below_le (grown_below hgrow) b5'.out.size)) hbW'.out.size))
      rw [hH]
      clear hown hgrow hH hBe hl0 g5' b5' g4' b4' g3' b3' g2' b2'
      go_loopw [15, 99] (fun cv iv wr => ∃ (i q : Nat), cv = .int .i64 (q : Int) ∧ iv = .int .i64 (i : Int) ∧ i ≤ N ∧ ShQ work i q ∧ Blk wr H 3 ((cntUp ts.length (runL q l0).2).map (Value.int .i64)).toArray ∧ AgQ a (shS work l0 q) (fun k => k < B ∨ k = H) wr ∧ Below W.heap.size W wr)
        (fun _ iv _ => N - (intOf iv).toNat)
      case atStart => exact ⟨0, 0, rfl, rfl, Nat.zero_le _, ShQ.zero hw0, bH, g6'.out, b6'.out⟩
      case round =>
        clear bH g6' b6'
        obtain ⟨i, q, rfl, rfl, hi, hq, hbh, hag, hbel⟩ := hrel
        have hq' := Lib.hid hq
        have hqi := hq.1
        have hbh' := Lib.hid hbh
        have hag' := Lib.hid hag
        have hbel' := Lib.hid hbel
        have hok' := Lib.hid (sh_ok work l0 hgood'.out q)
        by_cases hlt : i < N
        · have hltI : (i : Int) < (N : Int) := by omega
          have hHlt' := Lib.hid (show H + 1 ≤ wr.heap.size from hbh.lt)
          have hhad' := Lib.hid (show ∀ j ∈ (shS work l0 q).jobs, j.had < 9223372036854775807 from fun j hj => by have := hok'.out.had j hj; omega)
          obtain ⟨q2, rs, hqe, hrx, hq2, hrs1⟩ : ∃ q2 rs, quantG (shS work l0 q) = (shS work l0 q2, rs) ∧ (runL q2 l0).2 = (runL q l0).2 ++ rs.map (·.2) ∧ ShQ work (i + 1) q2 ∧ rs.length ≤ 1 ∧ ∀ r ∈ rs, r.1 = 8 := by
            by_cases hd : 0 < work ∧ work ≤ (q : Int)
            · exact ⟨q, [], sh_quant0 work l0 q hd, by simp, hq.stay hd, by simp, fun r hr => by simp at hr⟩
            · exact ⟨q + 1, _, sh_quant1 work l0 q hne'.out hd, run_snoc q l0, hq.step hd, by simp, fun r hr => by obtain rfl := List.mem_singleton.1 hr; rfl⟩
          have hids2' := Lib.hid (show ∀ r ∈ rs, 0 ≤ r.2 ∧ r.2 < (ts.length : Int) from fun r hr => hids'.out q2 r.2 (by rw [hrx]; exact List.mem_append_right _ (List.mem_map_of_mem hr)))
          obtain ⟨hrs1, hrs8⟩ := hrs1
          obtain ⟨xs, hxs⟩ : ∃ xs, (runL q l0).2 = xs := ⟨_, rfl⟩
          have hxl : xs.length = q := by rw [← hxs, run_len2]
          have hx2l : q2 = q + rs.length := by have := congrArg List.length hrx; rw [run_len2, List.length_append, List.length_map, run_len2] at this; exact this
          rw [hxs] at hbh' hrx
          have hqe' := Lib.hid hqe
          have hrx' := Lib.hid hrx
          have hq2' := Lib.hid hq2
          have hrs8' := Lib.hid hrs8
          clear hqe hrx hq2 hrs8 hq hbh hag hbel hxs
          go_wp2_with (((with_reducible refine gate_callee (f := 38) rfl ?_); refine goesL_ (some 102) rfl rfl Try.func38 (by kernel_rfl) rfl #[ptr a] rfl (by (try simp only [List.map_toArray, List.map_cons, List.map_nil]); first | done | rfl) ?_; (with_reducible refine (quantR hqe'.out hok'.out.ok hhad'.out hag'.out).mono ?_); rintro e w7 ⟨A7, c7, rfl, u7, g7, k7⟩; refine ⟨_, rfl, ?_⟩; have u7' := Lib.hid (own_lower' u7 hHlt'.out); have g7' := Lib.hid g7; have bh7' := Lib.hid (k7.blk (.inr rfl) hbh'.out); have b7' := Lib.hid (hbel'.out.trans (k7.below (fun k hk => .inl (Nat.lt_of_lt_of_le hk hBW'.out)) hbel'.out.size)); have b7w' := Lib.hid k7.size; clear u7 g7 k7))
          go_loopw [15, 104] (fun cv jv wr => ∃ (j : Nat), cv = .int .i64 ((q + j : Nat) : Int) ∧ jv = .int .i64 (j : Int) ∧ j ≤ rs.length ∧ Blk wr H 3 ((cntUp ts.length (xs ++ (rs.take j).map (·.2))).map (Value.int .i64)).toArray ∧ wr.ownsRow (H + 1) tRan 2 (.slice A7 rs.length c7) rs.length (flatR rs) ∧ AgQ a (shS work l0 q2) (fun k => k < B ∨ k = H) wr ∧ Below W.heap.size W wr)
            (fun _ jv _ => rs.length - (intOf jv).toNat)
          case atStart => exact ⟨0, rfl, rfl, Nat.zero_le _, by simpa using bh7'.out, u7'.out, g7'.out, b7'.out⟩
          case round =>
            obtain ⟨j, rfl, rfl, hj, hbh, hown, hag, hbel⟩ := hrel
            by_cases hlj : j < rs.length
            · obtain ⟨r, hr⟩ : ∃ r, rs[j]? = some r := ⟨rs[j], List.getElem?_eq_getElem hlj⟩
              obtain ⟨r1, r2⟩ := r
              obtain rfl : r1 = 8 := hrs8'.out _ (List.mem_of_getElem? hr)
              obtain ⟨z1, z2⟩ := hids2'.out _ (List.mem_of_getElem? hr)
              obtain ⟨m, rfl⟩ : ∃ m : Nat, r2 = (m : Int) := ⟨r2.toNat, by omega⟩
              have hml : m < ts.length := by dsimp only at z2; omega
              obtain ⟨gr, rfl, _, p0, p1⟩ := (own_readsR hown) j _ hr
              dsimp only at p0 p1
              have bC := Blk.new wr 87 #[.int .i64 8, .int .i64 (m : Int)]
              have d0 := bC.cell 0
              have d1 := bC.cell 1
              simp only [List.getElem?_toArray, List.getElem?_cons_zero, List.getElem?_cons_succ] at d0 d1
              have bk := hbh.alloc (.cells #[.int .i64 8, .int .i64 (m : Int)] 87)
              have q1 := bk.cell m
              rw [List.getElem?_toArray, List.getElem?_map, cntUp_get _ _ m hml] at q1
              simp only [Option.map_some] at q1
              have q2f := bk.frozen m
              have hcb := cnt_le (m : Int) (xs ++ (rs.take j).map (·.2))
              have hcn0 := cnt_nonneg (m : Int) (xs ++ (rs.take j).map (·.2))
              rw [List.length_append, List.length_map, List.length_take] at hcb
              have hbs := hbh.set m (.int .i64 (cnt (m : Int) (xs ++ (rs.take j).map (·.2)) + 1)) (by simp [cntUp_len]; exact hml)
              rw [List.setIfInBounds_toArray, ← List.map_set, ← cntUp_snoc _ _ _ hml] at hbs
              have htk : xs ++ (rs.take j).map (·.2) ++ [(m : Int)] = xs ++ (rs.take (j + 1)).map (·.2) := by rw [List.take_add_one, hr]; simp
              rw [htk] at hbs
              have hHl := hbh.lt
              have hbs' := Lib.hid (hbs.alloc (.cells #[.int .i64 8, .int .i64 (m : Int)] 87))
              have ho' := Lib.hid (own_below (own_poke hown (p := ⟨H, m, none⟩) (Nat.lt_succ_self H) (.int .i64 (cnt (m : Int) (xs ++ (rs.take j).map (·.2)) + 1))) ((Below.refl _ _).alloc (Nat.le_refl _) (.cells #[.int .i64 8, .int .i64 (m : Int)] 87)))
              have ha' := Lib.hid ((hag.poke (p := ⟨H, m, none⟩) (.inr rfl) (.int .i64 (cnt (m : Int) (xs ++ (rs.take j).map (·.2)) + 1))).below ((Below.refl _ _).alloc (Nat.le_refl _) (.cells #[.int .i64 8, .int .i64 (m : Int)] 87)))
              have be' := Lib.hid ((hbel.setCell (p := ⟨H, m, none⟩) (show W.heap.size ≤ H by have := hBW'.out; have := hBH'.out; omega) (.int .i64 (cnt (m : Int) (xs ++ (rs.take j).map (·.2)) + 1))).alloc (by simpa using hbel.size) (.cells #[.int .i64 8, .int .i64 (m : Int)] 87))
              generalize cnt (m : Int) (xs ++ (rs.take j).map (·.2)) = C at *
              have hw : IntKind.i64.wrap (C + 1) = C + 1 := IntWalk.i64_in _ (by omega)
              have hwq : IntKind.i64.wrap (((q + j : Nat) : Int) + 1) = ((q + (j + 1) : Nat) : Int) := by rw [IntWalk.i64_in _ (by omega)]; omega
              clear hbs hown hag hbel bk bC hbh hr htk z1
              go_wp2
              go_roundw
              case rel => exact ⟨j + 1, by first | rfl | go_num, by go_num, by omega, hbs'.out, ho'.out, ha'.out, be'.out⟩
              case measure => simp [intOf]; omega
            · have hj' : j = rs.length := by omega
              subst hj'
              rw [List.take_length, ← hrx'.out] at hbh
              have hbh3' := Lib.hid hbh
              have hag3' := Lib.hid hag
              have hbel3' := Lib.hid hbel
              subst hx2l
              clear hown hag hbel hbh
              go_wp2
              go_roundw
              case rel => exact ⟨i + 1, q + rs.length, rfl, by go_num, by omega, hq2'.out, hbh3'.out, hag3'.out, hbel3'.out⟩
              case measure => simp [intOf]; omega
        · obtain rfl : i = N := by omega
          obtain ⟨_, hq2, hq3⟩ := hq
          clear hbh hag hbel
          by_cases c1 : 0 < work
          · have c0' : ¬ work = 0 := by omega
            have hqw := hq2 c1
            by_cases c2 : work ≤ (i : Int)
            · have hqe : (q : Int) = work := by
                by_cases hlt2 : q < i
                · exact (hq3 hlt2).2
                · omega
              have hmin : min work (i : Int) = work := Int.min_eq_left c2
              have hfin := sh_fin1 work l0 q ⟨c1, by omega⟩
              subst hqe
              clear hq2 hq3
              have hfair2' := Lib.hid (hfair'.out q)
              go_wp2_with ((go_at_call 34; go_loud (refine (fin_len hfin hok'.out.ok hag'.out).mono ?_; rintro e w8 ⟨A8, c8, rfl, b8⟩; have b8' := Lib.hid (hbel'.out.trans (below_le b8 hbel'.out.size)); have bh8' := Lib.hid (hbh'.out.below b8 hbh'.out.lt); clear b8)))
              have hxl : (runL q l0).2.length = q := run_len2 q l0
              obtain ⟨xs, hxs⟩ : ∃ xs, (runL q l0).2 = xs := ⟨_, rfl⟩
              rw [hxs] at bh8' hfair2' hxl
              obtain ⟨T, hT⟩ : ∃ T, ts.sum = T := ⟨_, rfl⟩
              rw [hT] at hfair2' hsb ⊢
              clear hxs hT hbh' hfair'
              go_loopw [168] (fun kv wr => ∃ (k : Nat), kv = .int .i64 (k : Int) ∧ k ≤ ts.length ∧ Below w8.heap.size w8 wr)
                (fun kv _ => ts.length - (intOf kv).toNat)
              case atStart => exact ⟨0, rfl, Nat.zero_le _, Below.refl _ _⟩
              case round =>
                obtain ⟨k, rfl, hk, hbel⟩ := hrel
                by_cases hlk : k < ts.length
                · obtain ⟨t, ht⟩ : ∃ t, ts[k]? = some t := ⟨ts[k], List.getElem?_eq_getElem hlk⟩
                  obtain ⟨at1, at2⟩ := hts'.out t (List.mem_of_getElem? ht)
                  obtain ⟨ad, rfl, _, q0⟩ := (hR.out.keep (b8'.out.trans (below_le hbel b8'.out.size))).1 k t ht
                  obtain ⟨f1, f2⟩ := hfair2'.out k t ht
                  have q1 := (bh8'.out.below hbel bh8'.out.lt).cell k
                  rw [List.getElem?_toArray, List.getElem?_map, cntUp_get _ _ k hlk] at q1
                  simp only [Option.map_some] at q1
                  have hcb := cnt_le (k : Int) xs
                  have hcn := cnt_nonneg (k : Int) xs
                  have hbel' := Lib.hid hbel
                  clear hbel ht
                  generalize hC : cnt (k : Int) xs = C at *
                  clear hC
                  have m1 : C * T ≤ 600 * 256 := Int.mul_le_mul (by omega) (by omega) (by omega) (by omega)
                  have m0 : 0 ≤ C * T := Int.mul_nonneg (by omega) (by omega)
                  have m2 : (q : Int) * t ≤ 600 * 16 := Int.mul_le_mul (by omega) (by omega) (by omega) (by omega)
                  have m3 : 0 ≤ (q : Int) * t := Int.mul_nonneg (by omega) (by omega)
                  have m4 : T * ((ts.length : Int) - 1) ≤ 256 * 16 := Int.mul_le_mul (by omega) (by omega) (by omega) (by omega)
                  have m5 : 0 ≤ T * ((ts.length : Int) - 1) := Int.mul_nonneg (by omega) (by omega)
                  have w1' : IntKind.i64.wrap (C * T) = C * T := IntWalk.i64_in _ (by omega)
                  have w2' : IntKind.i64.wrap ((q : Int) * t) = (q : Int) * t := IntWalk.i64_in _ (by omega)
                  have w3' : IntKind.i64.wrap ((ts.length : Int) - 1) = (ts.length : Int) - 1 := IntWalk.i64_in _ (by omega)
                  have w5' : IntKind.i64.wrap (T * ((ts.length : Int) - 1)) = T * ((ts.length : Int) - 1) := IntWalk.i64_in _ (by omega)
                  have w6' : IntKind.i64.wrap (C * T - (q : Int) * t) = C * T - (q : Int) * t := IntWalk.i64_in _ (by omega)
                  have w7' : IntKind.i64.wrap (-(C * T - (q : Int) * t)) = -(C * T - (q : Int) * t) := IntWalk.i64_in _ (by omega)
                  have f1' : ¬ T * ((ts.length : Int) - 1) < C * T - (q : Int) * t := by omega
                  have f2' : ¬ T * ((ts.length : Int) - 1) < -(C * T - (q : Int) * t) := by omega
                  clear f1 f2
                  go_wp2
                  go_roundw
                  case rel => exact ⟨k + 1, by go_num, by omega, hbel'.out⟩
                  case measure => simp [intOf]; omega
                · have hk' : k = ts.length := by omega
                  subst hk'
                  have hbel' := Lib.hid hbel
                  clear hbel
                  go_wp2
                  go_ret
                  exact ⟨rfl, b8'.out.trans (below_le hbel'.out b8'.out.size)⟩
            · have hqe : q = i := by
                by_cases hlt2 : q < i
                · have := (hq3 hlt2).2
                  omega
                · omega
              have hmin : min work (i : Int) = (i : Int) := Int.min_eq_right (by omega)
              have hfin := sh_fin0 work l0 q (by omega)
              subst hqe
              clear hq2 hq3
              have hfair2' := Lib.hid (hfair'.out q)
              go_wp2_with ((go_at_call 34; go_loud (refine (fin_len hfin hok'.out.ok hag'.out).mono ?_; rintro e w8 ⟨A8, c8, rfl, b8⟩; have b8' := Lib.hid (hbel'.out.trans (below_le b8 hbel'.out.size)); have bh8' := Lib.hid (hbh'.out.below b8 hbh'.out.lt); clear b8)))
              have hxl : (runL q l0).2.length = q := run_len2 q l0
              obtain ⟨xs, hxs⟩ : ∃ xs, (runL q l0).2 = xs := ⟨_, rfl⟩
              rw [hxs] at bh8' hfair2' hxl
              obtain ⟨T, hT⟩ : ∃ T, ts.sum = T := ⟨_, rfl⟩
              rw [hT] at hfair2' hsb ⊢
              clear hxs hT hbh' hfair'
              go_loopw [168] (fun kv wr => ∃ (k : Nat), kv = .int .i64 (k : Int) ∧ k ≤ ts.length ∧ Below w8.heap.size w8 wr)
                (fun kv _ => ts.length - (intOf kv).toNat)
              case atStart => exact ⟨0, rfl, Nat.zero_le _, Below.refl _ _⟩
              case round =>
                obtain ⟨k, rfl, hk, hbel⟩ := hrel
                by_cases hlk : k < ts.length
                · obtain ⟨t, ht⟩ : ∃ t, ts[k]? = some t := ⟨ts[k], List.getElem?_eq_getElem hlk⟩
                  obtain ⟨at1, at2⟩ := hts'.out t (List.mem_of_getElem? ht)
                  obtain ⟨ad, rfl, _, q0⟩ := (hR.out.keep (b8'.out.trans (below_le hbel b8'.out.size))).1 k t ht
                  obtain ⟨f1, f2⟩ := hfair2'.out k t ht
                  have q1 := (bh8'.out.below hbel bh8'.out.lt).cell k
                  rw [List.getElem?_toArray, List.getElem?_map, cntUp_get _ _ k hlk] at q1
                  simp only [Option.map_some] at q1
                  have hcb := cnt_le (k : Int) xs
                  have hcn := cnt_nonneg (k : Int) xs
                  have hbel' := Lib.hid hbel
                  clear hbel ht
                  generalize hC : cnt (k : Int) xs = C at *
                  clear hC
                  have m1 : C * T ≤ 600 * 256 := Int.mul_le_mul (by omega) (by omega) (by omega) (by omega)
                  have m0 : 0 ≤ C * T := Int.mul_nonneg (by omega) (by omega)
                  have m2 : (q : Int) * t ≤ 600 * 16 := Int.mul_le_mul (by omega) (by omega) (by omega) (by omega)
                  have m3 : 0 ≤ (q : Int) * t := Int.mul_nonneg (by omega) (by omega)
                  have m4 : T * ((ts.length : Int) - 1) ≤ 256 * 16 := Int.mul_le_mul (by omega) (by omega) (by omega) (by omega)
                  have m5 : 0 ≤ T * ((ts.length : Int) - 1) := Int.mul_nonneg (by omega) (by omega)
                  have w1' : IntKind.i64.wrap (C * T) = C * T := IntWalk.i64_in _ (by omega)
                  have w2' : IntKind.i64.wrap ((q : Int) * t) = (q : Int) * t := IntWalk.i64_in _ (by omega)
                  have w3' : IntKind.i64.wrap ((ts.length : Int) - 1) = (ts.length : Int) - 1 := IntWalk.i64_in _ (by omega)
                  have w5' : IntKind.i64.wrap (T * ((ts.length : Int) - 1)) = T * ((ts.length : Int) - 1) := IntWalk.i64_in _ (by omega)
                  have w6' : IntKind.i64.wrap (C * T - (q : Int) * t) = C * T - (q : Int) * t := IntWalk.i64_in _ (by omega)
                  have w7' : IntKind.i64.wrap (-(C * T - (q : Int) * t)) = -(C * T - (q : Int) * t) := IntWalk.i64_in _ (by omega)
                  have f1' : ¬ T * ((ts.length : Int) - 1) < C * T - (q : Int) * t := by omega
                  have f2' : ¬ T * ((ts.length : Int) - 1) < -(C * T - (q : Int) * t) := by omega
                  clear f1 f2
                  go_wp2
                  go_roundw
                  case rel => exact ⟨k + 1, by go_num, by omega, hbel'.out⟩
                  case measure => simp [intOf]; omega
                · have hk' : k = ts.length := by omega
                  subst hk'
                  have hbel' := Lib.hid hbel
                  clear hbel
                  go_wp2
                  go_ret
                  exact ⟨rfl, b8'.out.trans (below_le hbel'.out b8'.out.size)⟩
          · obtain rfl : work = 0 := by omega
            have hqe : q = i := by
              by_cases hlt2 : q < i
              · exact absurd (hq3 hlt2).1 c1
              · omega
            have hfin := sh_fin0 0 l0 q (by omega)
            subst hqe
            clear hq2 hq3
            have hfair2' := Lib.hid (hfair'.out q)
            go_wp2_with ((go_at_call 34; go_loud (refine (fin_len hfin hok'.out.ok hag'.out).mono ?_; rintro e w8 ⟨A8, c8, rfl, b8⟩; have b8' := Lib.hid (hbel'.out.trans (below_le b8 hbel'.out.size)); have bh8' := Lib.hid (hbh'.out.below b8 hbh'.out.lt); clear b8)))
            have hxl : (runL q l0).2.length = q := run_len2 q l0
            obtain ⟨xs, hxs⟩ : ∃ xs, (runL q l0).2 = xs := ⟨_, rfl⟩
            rw [hxs] at bh8' hfair2' hxl
            obtain ⟨T, hT⟩ : ∃ T, ts.sum = T := ⟨_, rfl⟩
            rw [hT] at hfair2' hsb ⊢
            clear hxs hT hbh' hfair'
            go_loopw [168] (fun kv wr => ∃ (k : Nat), kv = .int .i64 (k : Int) ∧ k ≤ ts.length ∧ Below w8.heap.size w8 wr)
              (fun kv _ => ts.length - (intOf kv).toNat)
            case atStart => exact ⟨0, rfl, Nat.zero_le _, Below.refl _ _⟩
            case round =>
              obtain ⟨k, rfl, hk, hbel⟩ := hrel
              by_cases hlk : k < ts.length
              · obtain ⟨t, ht⟩ : ∃ t, ts[k]? = some t := ⟨ts[k], List.getElem?_eq_getElem hlk⟩
                obtain ⟨at1, at2⟩ := hts'.out t (List.mem_of_getElem? ht)
                obtain ⟨ad, rfl, _, q0⟩ := (hR.out.keep (b8'.out.trans (below_le hbel b8'.out.size))).1 k t ht
                obtain ⟨f1, f2⟩ := hfair2'.out k t ht
                have q1 := (bh8'.out.below hbel bh8'.out.lt).cell k
                rw [List.getElem?_toArray, List.getElem?_map, cntUp_get _ _ k hlk] at q1
                simp only [Option.map_some] at q1
                have hcb := cnt_le (k : Int) xs
                have hcn := cnt_nonneg (k : Int) xs
                have hbel' := Lib.hid hbel
                clear hbel ht
                generalize hC : cnt (k : Int) xs = C at *
                clear hC
                have m1 : C * T ≤ 600 * 256 := Int.mul_le_mul (by omega) (by omega) (by omega) (by omega)
                have m0 : 0 ≤ C * T := Int.mul_nonneg (by omega) (by omega)
                have m2 : (q : Int) * t ≤ 600 * 16 := Int.mul_le_mul (by omega) (by omega) (by omega) (by omega)
                have m3 : 0 ≤ (q : Int) * t := Int.mul_nonneg (by omega) (by omega)
                have m4 : T * ((ts.length : Int) - 1) ≤ 256 * 16 := Int.mul_le_mul (by omega) (by omega) (by omega) (by omega)
                have m5 : 0 ≤ T * ((ts.length : Int) - 1) := Int.mul_nonneg (by omega) (by omega)
                have w1' : IntKind.i64.wrap (C * T) = C * T := IntWalk.i64_in _ (by omega)
                have w2' : IntKind.i64.wrap ((q : Int) * t) = (q : Int) * t := IntWalk.i64_in _ (by omega)
                have w3' : IntKind.i64.wrap ((ts.length : Int) - 1) = (ts.length : Int) - 1 := IntWalk.i64_in _ (by omega)
                have w5' : IntKind.i64.wrap (T * ((ts.length : Int) - 1)) = T * ((ts.length : Int) - 1) := IntWalk.i64_in _ (by omega)
                have w6' : IntKind.i64.wrap (C * T - (q : Int) * t) = C * T - (q : Int) * t := IntWalk.i64_in _ (by omega)
                have w7' : IntKind.i64.wrap (-(C * T - (q : Int) * t)) = -(C * T - (q : Int) * t) := IntWalk.i64_in _ (by omega)
                have f1' : ¬ T * ((ts.length : Int) - 1) < C * T - (q : Int) * t := by omega
                have f2' : ¬ T * ((ts.length : Int) - 1) < -(C * T - (q : Int) * t) := by omega
                clear f1 f2
                go_wp2
                go_roundw
                case rel => exact ⟨k + 1, by go_num, by omega, hbel'.out⟩
                case measure => simp [intOf]; omega
              · have hk' : k = ts.length := by omega
                subst hk'
                have hbel' := Lib.hid hbel
                clear hbel
                go_wp2
                go_ret
                exact ⟨rfl, b8'.out.trans (below_le hbel'.out b8'.out.size)⟩
end Go.Proofs.Ytkcmmghhghgdpaa.Walk
end
