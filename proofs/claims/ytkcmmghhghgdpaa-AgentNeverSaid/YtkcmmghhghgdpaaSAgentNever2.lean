/- What the law AgentNever needs of the seat's contracts and plain laws, several texts one behind the other; no conditions. -/
import Derived.Test.YtkcmmghhghgdpaaSAgentNever1
section
namespace Go.Proofs.Ytkcmmghhghgdpaa.Agt
open Go.RowKit Go.Shelf Go.Maps Go.Proofs.Ytkcmmghhghgdpaa.Iter Go.Proofs.Ytkcmmghhghgdpaa.Str Go.Proofs.YtkcmmghhghgdpaaW.PrintWords Go.Proofs.YtkcmmghhghgdpaaW.PrintLast Go.Proofs.Ytkcmmghhghgdpaa.Open
set_option linter.unusedVariables false
set_option linter.unusedSimpArgs false
section
variable {a : Nat} {S S' : Ag} {Q : Nat → Prop} {W W' : World} {cd bn : Int}
theorem bootC (n : Int) (e1 : bootG S n = (S', cd)) (h : AgQ a S Q W) : Calls Try.prog 28 #[ptr a, .int .i64 n] W fun e W' => e = .returned (.int .i64 cd) ∧ AgQ a S' Q W' ∧ KeepQ Q W W' := by
  have := bootQ n h
  rw [e1] at this
  exact this
theorem haltC (e1 : haltG S = (S', cd)) (h : AgQ a S Q W) : Calls Try.prog 29 #[ptr a] W fun e W' => e = .returned (.int .i64 cd) ∧ AgQ a S' Q W' ∧ KeepQ Q W W' := by
  have := haltQ h
  rw [e1] at this
  exact this
theorem passC (dt : Int) (e1 : passG S dt = (S', cd)) (hok : AgOk S) (h : AgQ a S Q W) : Calls Try.prog 30 #[ptr a, .int .i64 dt] W fun e W' => e = .returned (.int .i64 cd) ∧ AgQ a S' Q W' ∧ KeepQ Q W W' := by
  have := passQ dt h hok
  rw [e1] at this
  exact this
theorem beatC (e1 : beatG S = (S', bn, cd)) (hl : S.sent.length ≤ 100000) (hq : ∀ k, Q k → k < W.heap.size) (h : AgQ a S Q W) : Calls Try.prog 31 #[ptr a] W fun e W' => e = .returned (.tuple #[.int .i64 bn, .int .i64 cd]) ∧ AgQ a S' Q W' ∧ KeepQ Q W W' := by
  have := beatQ h hl hq
  rw [e1] at this
  exact this
theorem replyC (n m : Int) {A : Option Addr} {c0 : Nat} {xs : List Ls} {A2 : Option Addr} {c2 : Nat} {ts : List Ts} (e1 : replyG S n m xs ts = (S', cd)) (hok : AgOk S) (hsl : S.sent.length ≤ 100000) (hq : ∀ k, Q k → k < W.heap.size)
    (hL : ReadsL (fun k => ¬ Q k) W A xs) (hT : ReadsT (fun k => ¬ Q k) W A2 ts) (hxl : xs.length ≤ 9223372036854775807) (htl : ts.length ≤ 9223372036854775807) (h : AgQ a S Q W) :
    Calls Try.prog 32 #[ptr a, .int .i64 n, .int .i64 m, .slice A xs.length c0, .slice A2 ts.length c2] W fun e W' => e = .returned (.int .i64 cd) ∧ AgQ a S' Q W' ∧ KeepQ Q W W' := by
  have := replyQ n m A c0 xs A2 c2 ts h hok hsl hq hL hT hxl htl
  rw [e1] at this
  exact this
end
/-- What AgentLate keeps. -/
structure LInv (S : Ag) (last inc count : Int) (N : Nat) : Prop where
  w : AgW S N
  inc : inc = S.inc
  last0 : 0 ≤ last
  count0 : 0 ≤ count
  countN : count ≤ N
  rep0 : 0 ≤ S.replied
  on : S.runs = true → count = S.sent.length ∧ last = S.replied
  off : S.runs = false → S.sent = [] ∧ S.replied = 0
section
variable {S S' : Ag} {last inc count : Int} {N : Nat}
theorem LInv.new {nid nco nme nin nbe short : Int} (h : okNew nid nco nme short) : LInv (newG nid nco nme nin nbe short) 0 0 0 0 :=
  ⟨AgW.new h, rfl, Int.le_refl _, Int.le_refl _, Int.le_refl _, Int.le_refl _, fun h => by simp [newG] at h, fun _ => ⟨rfl, rfl⟩⟩
theorem LInv.mono {M : Nat} (h : LInv S last inc count N) (hm : N ≤ M) : LInv S last inc count M := ⟨h.w.mono hm, h.inc, h.last0, h.count0, by have := h.countN; omega, h.rep0, h.on, h.off⟩
theorem LInv.boot1 {n : Int} (h : LInv S last inc count N) (e : bootG S n = (S', 0)) : LInv S' 0 n 0 N := by
  have hw := h.w.boot n
  rw [e] at hw
  unfold bootG at e
  split at e
  · cases e
  · rename_i h1
    split at e
    · cases e
    · injection e with e _
      subst e
      obtain ⟨f1, f2⟩ := h.off (by simpa using h1)
      exact ⟨hw, rfl, Int.le_refl _, Int.le_refl _, Int.natCast_nonneg _, h.rep0, fun _ => by simp [f1, f2], fun h => by cases h⟩
theorem LInv.boot0 {n cd : Int} (h : LInv S last inc count N) (e : bootG S n = (S', cd)) (hc : cd ≠ 0) : LInv S' last inc count N := by
  unfold bootG at e
  split at e
  · injection e with e _
    exact e ▸ h
  · split at e
    · injection e with e _
      exact e ▸ h
    · injection e with _ e
      exact absurd e.symm hc
theorem LInv.halt {cd : Int} (h : LInv S last inc count N) (e : haltG S = (S', cd)) : LInv S' last inc count N := by
  have hw := h.w.halt
  rw [e] at hw
  unfold haltG at e
  split at e
  · injection e with e _
    subst e
    exact ⟨hw, h.inc, h.last0, h.count0, h.countN, Int.le_refl _, fun h => (by cases h), fun _ => ⟨rfl, rfl⟩⟩
  · injection e with e _
    exact e ▸ h
theorem LInv.pass {dt cd : Int} (h : LInv S last inc count N) (e : passG S dt = (S', cd)) : LInv S' last inc count N := by
  have hw := h.w.pass dt
  rw [e] at hw
  unfold passG at e
  split at e
  · injection e with e _
    exact e ▸ h
  · split at e
    · injection e with e _
      exact e ▸ h
    · injection e with e _
      subst e
      exact ⟨hw, h.inc, h.last0, h.count0, h.countN, h.rep0, h.on, h.off⟩
theorem LInv.beat1 {bn : Int} (h : LInv S last inc count N) (e : beatG S = (S', bn, 0)) : LInv S' last inc (count + 1) (N + 1) := by
  have hw := h.w.beat
  rw [e] at hw
  unfold beatG at e
  split at e
  · rename_i h1
    injection e with e _
    subst e
    have := h.countN
    have := h.count0
    obtain ⟨k1, k2⟩ := h.on h1
    exact ⟨hw, h.inc, h.last0, by omega, by omega, h.rep0, fun _ => ⟨by simp [k1], k2⟩, fun hf => by simp [h1] at hf⟩
  · cases e
theorem LInv.beat0 {bn cd : Int} (h : LInv S last inc count N) (e : beatG S = (S', bn, cd)) (hc : cd ≠ 0) : LInv S' last inc count (N + 1) := by
  unfold beatG at e
  split at e
  · injection e with _ e
    injection e with _ e
    exact absurd e.symm hc
  · injection e with e _
    exact e ▸ h.mono (by omega)
theorem LInv.reply1 {n m : Int} {xs : List Ls} {ts : List Ts} (h : LInv S last inc count N) (e : replyG S n m xs ts = (S', 0)) : LInv S' m inc count N := by
  have hw := h.w.reply n m xs ts
  rw [e] at hw
  unfold replyG at e
  split at e
  · rename_i h1
    split at e
    · cases e
    · rename_i h2
      split at e
      · injection e with e _
        subst e
        unfold staleG at h2
        have := h.rep0
        exact ⟨hw, h.inc, by omega, h.count0, h.countN, by show 0 ≤ m; omega, fun _ => ⟨(h.on h1).1, rfl⟩, fun hf => by simp [h1] at hf⟩
      · cases e
  · cases e
theorem LInv.reply0 {n m cd : Int} {xs : List Ls} {ts : List Ts} (h : LInv S last inc count N) (e : replyG S n m xs ts = (S', cd)) (hc : cd ≠ 0) : LInv S' last inc count N := by
  unfold replyG at e
  split at e
  · split at e
    · injection e with e _
      exact e ▸ h
    · split at e
      · injection e with _ e
        exact absurd e.symm hc
      · injection e with e _
        exact e ▸ h
  · injection e with e _
    exact e ▸ h
/-- The law. -/
theorem LInv.law {n m cd : Int} {xs : List Ls} {ts : List Ts} (h : LInv S last inc count N) (e : replyG S n m xs ts = (S', cd)) :
    (n = inc ∧ last < m ∧ m ≤ count → cd = 0 ∨ cd = 4 ∨ cd = 13) ∧ (¬ (n = inc ∧ last < m ∧ m ≤ count) → S' = S ∧ (cd = 15 ∨ cd = 13)) := by
  unfold replyG at e
  have h1 := h.inc
  have h2 := h.last0
  split at e
  · rename_i hr
    obtain ⟨k1, k2⟩ := h.on hr
    split at e
    · rename_i hs
      injection e with e e'
      unfold staleG at hs
      exact ⟨fun hc => by omega, fun _ => ⟨e.symm, .inl e'.symm⟩⟩
    · rename_i hs
      unfold staleG at hs
      have hc : n = inc ∧ last < m ∧ m ≤ count := by omega
      split at e
      · injection e with e e'
        exact ⟨fun _ => .inl e'.symm, fun hn => absurd hc hn⟩
      · injection e with e e'
        exact ⟨fun _ => .inr (.inl e'.symm), fun hn => absurd hc hn⟩
  · injection e with e e'
    exact ⟨fun _ => .inr (.inr e'.symm), fun _ => ⟨e.symm, .inr e'.symm⟩⟩
end
/-- Memory in a law's loop: the agent, and all below B as it was in w2. -/
structure InL (B a : Nat) (S : Ag) (w2 wr : World) : Prop where
  ag : AgQ a S (fun k => k < B) wr
  bel : Below B w2 wr
  hB : B ≤ w2.heap.size
section
variable {B a b H : Nat} {S S' : Ag} {w2 wr W' : World} {cs : Array Value} {t : TypeId}
theorem InL.le (h : InL B a S w2 wr) : B ≤ wr.heap.size := Nat.le_trans h.hB h.bel.size
theorem InL.below (h : InL B a S w2 wr) (hb : Below wr.heap.size wr W') : InL B a S w2 W' := ⟨h.ag.below hb, h.bel.trans (below_le hb h.le), h.hB⟩
theorem InL.drew (h : InL B a S w2 wr) : InL B a S w2 wr.drew := h.below (Below.refl _ _).drew
theorem InL.drewN (h : InL B a S w2 wr) (n : Nat) : InL B a S w2 (wr.drewN n) := h.below (pw_below_drewN (Below.refl _ _) _)
theorem InL.alloc (h : InL B a S w2 wr) (x : Obj) : InL B a S w2 (wr.alloc x) := h.below ((Below.refl _ _).alloc (Nat.le_refl _) _)
theorem InL.box (h : InL B a S w2 wr) (x : Obj) : AgQ a S (fun k => k < B ∨ k = wr.heap.size) (wr.alloc x) := h.ag.more ((Below.refl _ _).alloc (Nat.le_refl _) _) fun k hk => hk.elim .inl fun hk => .inr (by omega)
theorem InL.qlt (h : InL B a S w2 wr) (x : Obj) : ∀ k, (k < B ∨ k = wr.heap.size) → k < (wr.alloc x).heap.size := fun k hk => by
  have := h.le
  rw [World.size_alloc]
  omega
theorem InL.next (h : InL B a S w2 wr) {x : Obj} (g : AgQ a S' (fun k => k < B ∨ k = wr.heap.size) W') (hk : KeepQ (fun k => k < B ∨ k = wr.heap.size) (wr.alloc x) W') : InL B a S' w2 W' :=
  ⟨g.less fun k hk => .inl hk, ((h.alloc x).bel).trans (hk.below (fun k hk => .inl hk) (by have := h.le; rw [World.size_alloc]; omega)), h.hB⟩
theorem InL.reads (h : InL B a S w2 wr) (hH : H ≤ B) {A : Option Addr} {xs : List Ls} (x : Obj) (hL : ReadsL (fun k => H ≤ k) wr A xs) : ReadsL (fun k => ¬ (k < B ∨ k = wr.heap.size)) (wr.alloc x) A xs :=
  (hL.keep ((Below.refl _ _).alloc (Nat.le_trans hH h.le) _)).mono fun k hk => by omega
theorem InL.readsT (h : InL B a S w2 wr) (hH : H ≤ B) {A : Option Addr} {xs : List Ts} (x : Obj) (hL : ReadsT (fun k => H ≤ k) wr A xs) : ReadsT (fun k => ¬ (k < B ∨ k = wr.heap.size)) (wr.alloc x) A xs :=
  (hL.keep ((Below.refl _ _).alloc (Nat.le_trans hH h.le) _)).mono fun k hk => by omega
theorem InL.blk (hk : KeepQ (fun k => k < B ∨ k = wr.heap.size) (wr.alloc (.cells cs t)) W') : Blk W' wr.heap.size t cs := hk.blk (.inr rfl) (Blk.new wr t cs)
end
theorem own_slice {W : World} {base e size n : Nat} {v : Value} {xs : List Value} (h : W.ownsRow base e size v n xs) : ∃ A c, v = .slice A n c := by
  rcases h.2 with ⟨rfl, rfl⟩ | ⟨g, cap, cur, rfl, _⟩
  · exact ⟨none, 0, rfl⟩
  · exact ⟨_, cap, rfl⟩
section
variable {a : Nat} {S : Ag} {Q : Nat → Prop} {W : World}
theorem liveC (h : AgQ a S Q W) (hok : AgOk S) : Calls Try.prog 33 #[ptr a] W fun e W' => ∃ A c, e = .returned (.slice A (liveG S).length c) ∧ W'.ownsRow W.heap.size tRun 2 (.slice A (liveG S).length c) (liveG S).length (flatR (liveG S)) ∧ Below W.heap.size W W' :=
  (liveQ h hok).mono fun e W' ⟨u, h1, h2, h3⟩ => by
    obtain ⟨A, c, rfl⟩ := own_slice h2
    exact ⟨A, c, h1, h2, h3⟩
end
theorem runs_len : ∀ (l : List Jb), (∀ j ∈ l, j.le.cores.length ≤ 64) → (l.flatMap runsJ).length ≤ 64 * l.length
  | [], _ => by simp
  | j :: l, h => by
    have h1 := h j List.mem_cons_self
    have h2 := runs_len l fun x hx => h x (List.mem_cons_of_mem _ hx)
    rw [List.flatMap_cons, List.length_append, List.length_cons]
    simp only [runsJ, List.length_map]
    omega
theorem AgOk.liveLen {S : Ag} (h : AgOk S) : (liveG S).length ≤ 100000 := by
  have h1 := runs_len (S.jobs.filter (liveJ S)) fun j hj => (h.job j (List.mem_filter.1 hj).1).1
  have h2 := List.length_filter_le (liveJ S) S.jobs
  have h3 := h.jobs
  unfold liveG
  omega
end Go.Proofs.Ytkcmmghhghgdpaa.Agt
end
section
namespace Go.Proofs.Ytkcmmghhghgdpaa.Agt
open Go.RowKit Go.Shelf Go.Maps Go.Proofs.Ytkcmmghhghgdpaa.Iter Go.Proofs.Ytkcmmghhghgdpaa.Str Go.Proofs.YtkcmmghhghgdpaaW.PrintWords Go.Proofs.YtkcmmghhghgdpaaW.PrintLast Go.Proofs.Ytkcmmghhghgdpaa.Open
set_option linter.unusedVariables false
set_option linter.unusedSimpArgs false
/-- What AgentNever keeps. -/
structure NInv (S : Ag) (short : Int) (G : List Int) (up : Bool) (frm : Int) (L : List Ls) (N : Nat) : Prop where
  w : AgW S N
  short : S.short = short
  up : up = S.runs
  len : G.length ≤ N
  on : S.runs = true → G = S.sent
  off : S.runs = false → S.sent = [] ∧ S.jobs = []
  jobs : ∀ j ∈ S.jobs, j.le ∈ L ∧ j.frm = frm
  frm : 0 ≤ frm ∧ frm ≤ S.clock
section
variable {S S' : Ag} {short : Int} {G : List Int} {up : Bool} {frm : Int} {L : List Ls} {N : Nat}
theorem NInv.new {nid nco nme nin nbe short : Int} (h : okNew nid nco nme short) : NInv (newG nid nco nme nin nbe short) short [] false 0 [] 0 :=
  ⟨AgW.new h, rfl, rfl, Nat.le_refl _, fun _ => rfl, fun _ => ⟨rfl, rfl⟩, (fun j hj => by cases hj), ⟨Int.le_refl _, Int.le_refl _⟩⟩
theorem NInv.mono {M : Nat} (h : NInv S short G up frm L N) (hm : N ≤ M) : NInv S short G up frm L M := ⟨h.w.mono hm, h.short, h.up, by have := h.len; omega, h.on, h.off, h.jobs, h.frm⟩
theorem NInv.boot1 {n : Int} (h : NInv S short G up frm L N) (e : bootG S n = (S', 0)) : NInv S' short [] true frm [] N := by
  have hw := h.w.boot n
  rw [e] at hw
  unfold bootG at e
  split at e
  · cases e
  · rename_i h1
    split at e
    · cases e
    · injection e with e _
      subst e
      obtain ⟨f1, f2⟩ := h.off (by simpa using h1)
      exact ⟨hw, h.short, rfl, Nat.zero_le _, fun _ => f1.symm, fun h => (by cases h), (fun j hj => by rw [f2] at hj; cases hj), h.frm⟩
theorem NInv.boot0 {n cd : Int} (h : NInv S short G up frm L N) (e : bootG S n = (S', cd)) (hc : cd ≠ 0) : NInv S' short G up frm L N := by
  unfold bootG at e
  split at e
  · injection e with e _
    exact e ▸ h
  · split at e
    · injection e with e _
      exact e ▸ h
    · injection e with _ e
      exact absurd e.symm hc
theorem NInv.halt1 (h : NInv S short G up frm L N) (e : haltG S = (S', 0)) : NInv S' short G false frm [] N := by
  have hw := h.w.halt
  rw [e] at hw
  unfold haltG at e
  split at e
  · injection e with e _
    subst e
    exact ⟨hw, h.short, rfl, h.len, fun h => (by cases h), fun _ => ⟨rfl, rfl⟩, (fun j hj => by cases hj), h.frm⟩
  · cases e
theorem NInv.halt0 {cd : Int} (h : NInv S short G up frm L N) (e : haltG S = (S', cd)) (hc : cd ≠ 0) : NInv S' short G up frm L N := by
  unfold haltG at e
  split at e
  · injection e with _ e
    exact absurd e.symm hc
  · injection e with e _
    exact e ▸ h
theorem NInv.pass {dt cd : Int} (h : NInv S short G up frm L N) (e : passG S dt = (S', cd)) : NInv S' short G up frm L N := by
  have hw := h.w.pass dt
  rw [e] at hw
  unfold passG at e
  split at e
  · injection e with e _
    exact e ▸ h
  · split at e
    · injection e with e _
      exact e ▸ h
    · rename_i h1 h2
      injection e with e _
      subst e
      have := h.frm
      exact ⟨hw, h.short, h.up, h.len, h.on, h.off, h.jobs, ⟨this.1, by show frm ≤ S.clock + dt; omega⟩⟩
theorem NInv.beat1 {bn : Int} (h : NInv S short G up frm L N) (e : beatG S = (S', bn, 0)) : NInv S' short (G ++ [S'.clock]) up frm L (N + 1) := by
  have hw := h.w.beat
  rw [e] at hw
  unfold beatG at e
  split at e
  · rename_i h1
    injection e with e _
    subst e
    have := h.len
    exact ⟨hw, h.short, h.up, by simp; omega, fun _ => by rw [h.on h1], fun hf => by simp [h1] at hf, h.jobs, h.frm⟩
  · cases e
theorem NInv.beat0 {bn cd : Int} (h : NInv S short G up frm L N) (e : beatG S = (S', bn, cd)) (hc : cd ≠ 0) : NInv S' short G up frm L (N + 1) := by
  unfold beatG at e
  split at e
  · injection e with _ e
    injection e with _ e
    exact absurd e.symm hc
  · injection e with e _
    exact e ▸ h.mono (by omega)
theorem jobF_frm (jobs : List Jb) (x : Ls) (t : Ts) (frm : Int) : (jobF jobs x t frm).frm = frm := by
  rcases jobF_cases jobs x t frm with ⟨q, hq, e⟩ | e <;> rw [e]
theorem NInv.reply1 {n m : Int} {xs : List Ls} {ts : List Ts} (h : NInv S short G up frm L N) (e : replyG S n m xs ts = (S', 0)) : ∃ (p : Nat) (x : Int), m = (p : Int) + 1 ∧ G[p]? = some x ∧ NInv S' short G up x xs N := by
  have hw := h.w.reply n m xs ts
  rw [e] at hw
  unfold replyG at e
  split at e
  · rename_i h1
    split at e
    · cases e
    · rename_i h2
      split at e
      · injection e with e _
        subst e
        unfold staleG at h2
        have hg := h.on h1
        have hp : (m - 1).toNat < S.sent.length := by omega
        refine ⟨(m - 1).toNat, S.sent[(m - 1).toNat], by omega, by rw [hg]; exact List.getElem?_eq_getElem hp, ?_⟩
        have hx : S.sent.getD (m - 1).toNat 0 = S.sent[(m - 1).toNat] := by rw [List.getD_eq_getElem?_getD, List.getElem?_eq_getElem hp]; rfl
        rw [hx] at hw ⊢
        refine ⟨hw, h.short, h.up, h.len, h.on, fun hf => by simp [h1] at hf, fun j hj => ?_, h.w.sent _ (List.getElem_mem hp)⟩
        obtain ⟨x, hx, rfl⟩ := List.mem_map.1 hj
        rw [jobF_le, jobF_frm]
        exact ⟨hx, rfl⟩
      · cases e
  · cases e
theorem NInv.reply0 {n m cd : Int} {xs : List Ls} {ts : List Ts} (h : NInv S short G up frm L N) (e : replyG S n m xs ts = (S', cd)) (hc : cd ≠ 0) : NInv S' short G up frm L N := by
  unfold replyG at e
  split at e
  · split at e
    · injection e with e _
      exact e ▸ h
    · split at e
      · injection e with _ e
        exact absurd e.symm hc
      · injection e with e _
        exact e ▸ h
  · injection e with e _
    exact e ▸ h
theorem NInv.quant (h : NInv S short G up frm L N) : NInv (quantG S).1 short G up frm L (N + 1) := by
  have hj : ∀ j ∈ (quantG S).1.jobs, ∃ q ∈ S.jobs, j.le = q.le ∧ j.frm = q.frm := fun j hj => by
    obtain ⟨q, hq, rfl⟩ := List.mem_map.1 hj
    refine ⟨q, hq, ?_⟩
    split <;> exact ⟨rfl, rfl⟩
  refine ⟨h.w.quant, h.short, h.up, by have := h.len; omega, h.on, fun hf => ⟨(h.off hf).1, ?_⟩, fun j hjm => ?_, h.frm⟩
  · show S.jobs.map _ = []
    rw [(h.off hf).2]
    rfl
  · obtain ⟨q, hq, e1, e2⟩ := hj j hjm
    rw [e1, e2]
    exact h.jobs q hq
/-- The law, of each run. -/
theorem NInv.law (h : NInv S short G up frm L N) {r : Int × Int} (hr : r ∈ liveG S) : up = true ∧ S.clock - frm < short ∧ listsF L r = true := by
  obtain ⟨j, hj, hrj⟩ := List.mem_flatMap.1 hr
  obtain ⟨hj1, hj2⟩ := List.mem_filter.1 hj
  obtain ⟨c, hc, rfl⟩ := List.mem_map.1 hrj
  obtain ⟨h1, h2⟩ := h.jobs j hj1
  unfold liveJ at hj2
  rw [Bool.and_eq_true, decide_eq_true_eq, h2, h.short] at hj2
  refine ⟨?_, hj2.1, List.any_eq_true.2 ⟨j.le, h1, decide_eq_true ⟨rfl, hc⟩⟩⟩
  rw [h.up]
  cases hrn : S.runs with
  | true => rfl
  | false =>
    rw [(h.off hrn).2] at hj1
    cases hj1
end
/-- Memory in AgentNever's loop: the agent, the row of the beats, all below B as it was in w2. -/
structure InN (B a : Nat) (S : Ag) (v : Value) (G : List Int) (w2 wr : World) : Prop where
  ag : AgQ a S (fun k => k < B ∨ v.ownBlock = some k) wr
  row : wr.ownsRow B tQ 1 v G.length (G.map (Value.int .i64))
  bel : Below B w2 wr
  hB : B ≤ w2.heap.size
section
variable {B a b H : Nat} {S S' : Ag} {v : Value} {G : List Int} {w2 wr W' : World} {cs : Array Value} {t : TypeId}
theorem InN.start (h : AgQ a S (fun k => k < B) w2) (hB : B ≤ w2.heap.size) : InN B a S (.slice none 0 0) [] w2 w2 :=
  ⟨h.less fun k hk => hk.elim id (fun h => by cases h), World.ownsRow_nil _ _ _ _, Below.refl _ _, hB⟩
theorem InN.nil (h : InN B a S v G w2 wr) : InN B a S (.slice none 0 0) [] w2 wr :=
  ⟨h.ag.less fun k hk => hk.elim .inl (fun h => by cases h), World.ownsRow_nil _ _ _ _, h.bel, h.hB⟩
theorem InN.le (h : InN B a S v G w2 wr) : B ≤ wr.heap.size := Nat.le_trans h.hB h.bel.size
theorem InN.below (h : InN B a S v G w2 wr) (hb : Below wr.heap.size wr W') : InN B a S v G w2 W' := ⟨h.ag.below hb, own_below h.row hb, h.bel.trans (below_le hb h.le), h.hB⟩
theorem InN.drew (h : InN B a S v G w2 wr) : InN B a S v G w2 wr.drew := h.below (Below.refl _ _).drew
theorem InN.drewN (h : InN B a S v G w2 wr) (n : Nat) : InN B a S v G w2 (wr.drewN n) := h.below (pw_below_drewN (Below.refl _ _) _)
theorem InN.alloc (h : InN B a S v G w2 wr) (x : Obj) : InN B a S v G w2 (wr.alloc x) := h.below ((Below.refl _ _).alloc (Nat.le_refl _) _)
theorem InN.box (h : InN B a S v G w2 wr) (x : Obj) : AgQ a S (fun k => (k < B ∨ v.ownBlock = some k) ∨ k = wr.heap.size) (wr.alloc x) := h.ag.more ((Below.refl _ _).alloc (Nat.le_refl _) _) fun k hk => hk.elim .inl fun hk => .inr (by omega)
theorem InN.rowlt (h : InN B a S v G w2 wr) : ∀ k, v.ownBlock = some k → B ≤ k ∧ k < wr.heap.size := fun k hk => by
  obtain ⟨h1, h2, _⟩ := own_block h.row hk
  exact ⟨h1, h2⟩
theorem InN.qlt (h : InN B a S v G w2 wr) (x : Obj) : ∀ k, ((k < B ∨ v.ownBlock = some k) ∨ k = wr.heap.size) → k < (wr.alloc x).heap.size := fun k hk => by
  have := h.le
  rw [World.size_alloc]
  rcases hk with (hk | hk) | hk
  · omega
  · have := h.rowlt k hk
    omega
  · omega
theorem InN.next (h : InN B a S v G w2 wr) {x : Obj} (g : AgQ a S' (fun k => (k < B ∨ v.ownBlock = some k) ∨ k = wr.heap.size) W') (hk : KeepQ (fun k => (k < B ∨ v.ownBlock = some k) ∨ k = wr.heap.size) (wr.alloc x) W') : InN B a S' v G w2 W' :=
  ⟨g.less fun k hk => .inl hk, Str.own_move (h.alloc x).row (fun k hb => hk.block k ((h.alloc x).rowlt k hb).2 (fun hn => hn (.inl (.inr hb)))),
    ((h.alloc x).bel).trans (hk.below (fun k hk => .inl (.inl hk)) (by have := h.le; rw [World.size_alloc]; omega)), h.hB⟩
theorem InN.reads (h : InN B a S v G w2 wr) (hH : H ≤ B) {A : Option Addr} {xs : List Ls} (x : Obj) (hL : ReadsL (fun k => H ≤ k) wr A xs) : ReadsL (fun k => ¬ ((k < B ∨ v.ownBlock = some k) ∨ k = wr.heap.size)) (wr.alloc x) A xs :=
  (hL.keep ((Below.refl _ _).alloc (Nat.le_trans hH h.le) _)).mono fun k hk => Classical.byContradiction fun hc => hk (.inl (.inl (by omega)))
theorem InN.readsT (h : InN B a S v G w2 wr) (hH : H ≤ B) {A : Option Addr} {xs : List Ts} (x : Obj) (hL : ReadsT (fun k => H ≤ k) wr A xs) : ReadsT (fun k => ¬ ((k < B ∨ v.ownBlock = some k) ∨ k = wr.heap.size)) (wr.alloc x) A xs :=
  (hL.keep ((Below.refl _ _).alloc (Nat.le_trans hH h.le) _)).mono fun k hk => Classical.byContradiction fun hc => hk (.inl (.inl (by omega)))
theorem InN.blk (hk : KeepQ (fun k => (k < B ∨ v.ownBlock = some k) ∨ k = wr.heap.size) (wr.alloc (.cells cs t)) W') : Blk W' wr.heap.size t cs := hk.blk (.inr rfl) (Blk.new wr t cs)
/-- Behind an append to the row. -/
theorem InN.app (h : InN B a S v G w2 wr) {g cap : Nat} {x : Int} (hr : W'.ownsRow B tQ 1 (.slice (some ⟨g, 0, none⟩) (G.length + 1) cap) (G.length + 1) (G.map (Value.int .i64) ++ [.int .i64 x])) (hg : wr.grownBy W' v.ownBlock)
    (hat : v.ownBlock = some g ∨ g = wr.heap.size) : InN B a S (.slice (some ⟨g, 0, none⟩) (G ++ [x]).length cap) (G ++ [x]) w2 W' := by
  have hle := h.le
  refine ⟨?_, by simpa using hr, h.bel.trans ⟨hg.os, hg.tape, hg.output, hg.size, fun k hk => hg.block k (by omega) (fun e => by have := (h.rowlt k e.symm).1; omega)⟩, h.hB⟩
  obtain ⟨B', vs, vj, js, hA, hB', hn⟩ := h.ag
  refine ⟨B', vs, vj, js, hA.frame (fun k hk => hg.block k (hA.foot k hk).2 (fun e => hn k hk (.inr e.symm))), Nat.le_trans hB' hg.size, fun k hk hq => ?_⟩
  rcases hq with hq | hq
  · exact hn k hk (.inl hq)
  · obtain rfl : g = k := by simpa [Value.ownBlock] using hq
    rcases hat with h1 | h1
    · exact hn _ hk (.inr h1)
    · have := (hA.foot _ hk).2
      omega
theorem InN.cellAt {g c : Nat} (h : InN B a S (.slice (some ⟨g, 0, none⟩) G.length c) G w2 wr) {p : Nat} {x : Int} (hx : G[p]? = some x) : wr.cell? ⟨g, p, none⟩ = some (.int .i64 x) := by
  have hp := (List.getElem?_eq_some_iff.1 hx).1
  rw [h.row.cellAt p (by omega), List.getElem?_map, hx]
  rfl
theorem InN.cell (h : InN B a S v G w2 wr) {p : Nat} {x : Int} (hx : G[p]? = some x) : ∃ g c, v = .slice (some ⟨g, 0, none⟩) G.length c ∧ wr.cell? ⟨g, p, none⟩ = some (.int .i64 x) := by
  have hp := (List.getElem?_eq_some_iff.1 hx).1
  obtain ⟨g, c, rfl⟩ := own_someL h.row (by omega)
  refine ⟨g, c, rfl, ?_⟩
  rw [h.row.cellAt p (by omega), List.getElem?_map, hx]
  rfl
end
section
variable {a : Nat} {S S' : Ag} {Q : Nat → Prop} {W : World}
theorem quantC (e1 : (quantG S).1 = S') (hok : AgOk S) (hhad : ∀ j ∈ S.jobs, j.had < 9223372036854775807) (h : AgQ a S Q W) : Calls Try.prog 38 #[ptr a] W fun e W' => ∃ u, e = .returned u ∧ AgQ a S' Q W' ∧ KeepQ Q W W' := by
  subst e1
  exact (quantQ h hok hhad).mono fun e W' ⟨u, h1, _, h3, h4⟩ => ⟨u, h1, h3, h4⟩
end
theorem keep_cell {B : Nat} {W W' : World} (hb : Below B W W') {p : Addr} {v : Value} (h : W.cell? p = some v) (hB : p.block < B) : W'.cell? p = some v := (hb.cell hB).trans h
theorem readsL_nil (F : Nat → Prop) (W : World) (A : Option Addr) : ReadsL F W A [] := fun j x hx => by simp at hx
end Go.Proofs.Ytkcmmghhghgdpaa.Agt
end
section
namespace Go.Proofs.Ytkcmmghhghgdpaa.Walk
open Go.RowKit Go.Shelf Go.Maps Go.Proofs.Ytkcmmghhghgdpaa.Iter Go.Proofs.Ytkcmmghhghgdpaa.Str Go.Proofs.Ytkcmmghhghgdpaa.Agt Go.Proofs.YtkcmmghhghgdpaaW.PrintWords Go.Proofs.YtkcmmghhghgdpaaW.PrintLast
set_option linter.unusedVariables false
set_option linter.unusedSimpArgs false

set_option maxRecDepth 100000 in
set_option maxHeartbeats 32000000 in
theorem AgentNever (W : World) (cs1 : Array Value) (nd : Int × Int × Int × Int × Int) (hk1 : Open.kNd.K W nd cs1.toList) (g1 : Open.okNd nd) (short : Int) (gs : (Lit.int .i64 short).wf = true)
    (A0 : Option Addr) (c0 : Nat) (ops : List Open.AOp) (hc0 : ops.length ≤ c0) (hr0 : Open.kAOp.C W A0 ops.length ops) (g0 : ops.length ≤ maxLen ∧ ∀ a ∈ ops, Open.okAOp a) :
    Calls Try.prog 10 #[.agg cs1, .int .i64 short, .slice A0 ops.length c0] W fun e W' => e = .returned (.bool true) ∧ Below W.heap.size W W' := by
  obtain ⟨nid, nco, nme, nin, nbe⟩ := nd
  obtain rfl := node_cells hk1
  dsimp only
  have hl63 : ops.length ≤ 9223372036854775807 := g0.1
  have hR := Lib.hid (readsA_C hr0 g0.2)
  clear hr0 g0 hk1 g1 gs
  have bW0 : Below W.heap.size W (W.alloc (.cells #[.int .i64 nid, .int .i64 nco, .int .i64 nme, .int .i64 nin, .int .i64 nbe] 53)) := (Below.refl _ _).alloc (Nat.le_refl _) _
  have bnd0 := Blk.new W 53 #[.int .i64 nid, .int .i64 nco, .int .i64 nme, .int .i64 nin, .int .i64 nbe]
  by_cases hok : okNew nid nco nme short
  rotate_left
  · go_enter Try.func10, Try.ntmps10
    go_wp2_with (first | (((with_reducible refine gate_callee (f := 26) rfl ?_); refine goesL_ (some 19) rfl rfl Try.func26 (by kernel_rfl) rfl #[] rfl (by (try simp only [List.map_toArray, List.map_cons, List.map_nil]); first | done | rfl) ?_; (with_reducible refine (Agt.awake_calls _).mono ?_); rintro e w1 ⟨rfl, b1⟩; refine ⟨_, rfl, ?_⟩; have b1' := Lib.hid (bW0.trans (below_le b1 bW0.size)); have bn1 := bnd0.below b1 bnd0.lt; have n0 := bn1.cell 0; have n1 := bn1.cell 1; have n2 := bn1.cell 2; have n3 := bn1.cell 3; have n4 := bn1.cell 4; simp only [List.getElem?_toArray, List.getElem?_cons_zero, List.getElem?_cons_succ] at n0 n1 n2 n3 n4; clear b1 bn1)) | (((with_reducible refine gate_callee (f := 27) rfl ?_); refine goesL_ (some 24) rfl rfl Try.func27 (by kernel_rfl) rfl #[.agg #[.int .i64 nid, .int .i64 nco, .int .i64 nme, .int .i64 nin, .int .i64 nbe], .int .i64 short] rfl (by (try simp only [List.map_toArray, List.map_cons, List.map_nil]); first | done | rfl) ?_; (with_reducible refine (newE nid nco nme nin nbe short _).mono ?_); (intro e w2 hnew; obtain ⟨rfl, b2⟩ := newNo hok hnew; clear hnew); refine ⟨_, rfl, ?_⟩; have b2' := Lib.hid (b1'.out.trans (below_le b2 b1'.out.size)); clear b2)))
    go_ret
    exact ⟨rfl, b2'.out⟩
  by_cases hbig : 200 < ops.length
  · have hb1 : (200 : Int) < (ops.length : Int) := by omega
    go_enter Try.func10, Try.ntmps10
    go_wp2_with (first | (((with_reducible refine gate_callee (f := 26) rfl ?_); refine goesL_ (some 19) rfl rfl Try.func26 (by kernel_rfl) rfl #[] rfl (by (try simp only [List.map_toArray, List.map_cons, List.map_nil]); first | done | rfl) ?_; (with_reducible refine (Agt.awake_calls _).mono ?_); rintro e w1 ⟨rfl, b1⟩; refine ⟨_, rfl, ?_⟩; have b1' := Lib.hid (bW0.trans (below_le b1 bW0.size)); have bn1 := bnd0.below b1 bnd0.lt; have n0 := bn1.cell 0; have n1 := bn1.cell 1; have n2 := bn1.cell 2; have n3 := bn1.cell 3; have n4 := bn1.cell 4; simp only [List.getElem?_toArray, List.getElem?_cons_zero, List.getElem?_cons_succ] at n0 n1 n2 n3 n4; clear b1 bn1)) | (((with_reducible refine gate_callee (f := 27) rfl ?_); refine goesL_ (some 24) rfl rfl Try.func27 (by kernel_rfl) rfl #[.agg #[.int .i64 nid, .int .i64 nco, .int .i64 nme, .int .i64 nin, .int .i64 nbe], .int .i64 short] rfl (by (try simp only [List.map_toArray, List.map_cons, List.map_nil]); first | done | rfl) ?_; (with_reducible refine (newE nid nco nme nin nbe short _).mono ?_); (intro e w2 hnew; obtain ⟨a, rfl, g2, b2⟩ := newYes hok hnew; clear hnew); refine ⟨_, rfl, ?_⟩; have in2' := Lib.hid (InN.start (AgQ.ofNew g2 b2) b2.size); have b2' := Lib.hid (b1'.out.trans (below_le b2 b1'.out.size)); clear g2 b2)))
    go_ret
    exact ⟨rfl, b2'.out⟩
  have hb1 : ¬ (200 : Int) < (ops.length : Int) := by omega
  have hinv0 := Lib.hid (NInv.new (nin := nin) (nbe := nbe) hok)
  obtain ⟨i0, hif, hz0, hz1, hz2⟩ := info_parts infoQ
  go_enter Try.func10, Try.ntmps10
  go_wp2_with (first | (((with_reducible refine gate_callee (f := 26) rfl ?_); refine goesL_ (some 19) rfl rfl Try.func26 (by kernel_rfl) rfl #[] rfl (by (try simp only [List.map_toArray, List.map_cons, List.map_nil]); first | done | rfl) ?_; (with_reducible refine (Agt.awake_calls _).mono ?_); rintro e w1 ⟨rfl, b1⟩; refine ⟨_, rfl, ?_⟩; have b1' := Lib.hid (bW0.trans (below_le b1 bW0.size)); have bn1 := bnd0.below b1 bnd0.lt; have n0 := bn1.cell 0; have n1 := bn1.cell 1; have n2 := bn1.cell 2; have n3 := bn1.cell 3; have n4 := bn1.cell 4; simp only [List.getElem?_toArray, List.getElem?_cons_zero, List.getElem?_cons_succ] at n0 n1 n2 n3 n4; clear b1 bn1)) | (((with_reducible refine gate_callee (f := 27) rfl ?_); refine goesL_ (some 24) rfl rfl Try.func27 (by kernel_rfl) rfl #[.agg #[.int .i64 nid, .int .i64 nco, .int .i64 nme, .int .i64 nin, .int .i64 nbe], .int .i64 short] rfl (by (try simp only [List.map_toArray, List.map_cons, List.map_nil]); first | done | rfl) ?_; (with_reducible refine (newE nid nco nme nin nbe short _).mono ?_); (intro e w2 hnew; obtain ⟨a, rfl, g2, b2⟩ := newYes hok hnew; clear hnew); refine ⟨_, rfl, ?_⟩; have in2' := Lib.hid (InN.start (AgQ.ofNew g2 b2) b2.size); have b2' := Lib.hid (b1'.out.trans (below_le b2 b1'.out.size)); clear g2 b2)))
  have hWB' := Lib.hid (show W.heap.size ≤ w1.heap.size from b1'.out.size)
  obtain ⟨B, hBe⟩ : ∃ B, w1.heap.size = B := ⟨_, rfl⟩
  rw [hBe] at in2' hWB'
  clear hBe hok
  go_loopw [9, 10, 11, 12, 36] (fun vs vl vf vu iv wr => ∃ (i : Nat) (S : Ag) (G : List Int) (up : Bool) (frm : Int) (L : List Ls) (A9 : Option Addr) (c9 : Nat) (A10 : Option Addr) (c10 : Nat), vs = .slice A9 G.length c9 ∧ vl = .slice A10 L.length c10 ∧ vf = .int .i64 frm ∧ vu = .bool up ∧ iv = .int .i64 (i : Int) ∧ i ≤ ops.length ∧ NInv S short G up frm L i ∧
      InN B a S (.slice A9 G.length c9) G w2 wr ∧ ReadsL (fun k => W.heap.size ≤ k) W A10 L ∧ L.length ≤ 9223372036854775807)
    (fun _ _ _ _ iv _ => ops.length - (intOf iv).toNat)
  case atStart => exact ⟨0, _, [], false, 0, [], none, 0, none, 0, rfl, rfl, rfl, rfl, rfl, Nat.zero_le _, hinv0.out, in2'.out, readsL_nil _ _ _, by simp⟩
  case round =>
    obtain ⟨i, S, G, up, frm, L, A9, c9, A10, c10, rfl, rfl, rfl, rfl, rfl, hi, hinv, hin, hrl, hll⟩ := hrel
    have hin' := Lib.hid hin
    have hinv' := Lib.hid hinv
    have hrl' := Lib.hid hrl
    have hok' := hinv.w.ok
    have hsl' : S.sent.length ≤ 100000 := by have := hinv.w.len; omega
    have hgl : G.length ≤ 200 := by have := hinv.len; omega
    have hhad' := Lib.hid (show ∀ j ∈ S.jobs, j.had < 9223372036854775807 from fun j hj => by have := hinv.w.had j hj; omega)
    have hbW' := Lib.hid (b2'.out.trans (below_le hin.bel hWB'.out))
    by_cases hlt : i < ops.length
    · obtain ⟨⟨kd, n, m, dt, ls, ts⟩, hx⟩ : ∃ x, ops[i]? = some x := ⟨ops[i], List.getElem?_eq_getElem hlt⟩
      obtain ⟨ad, Al, cl, At, ct, rfl, _, _, p0, p1, p2, p3, p4, p5, _, _, l1, l2⟩ := (hR.out.keep hbW'.out) i _ hx
      obtain ⟨ad', Al', cl', At', ct', hA, hal, _, _, _, _, _, q4, q5, hL, hT, _, _⟩ := hR.out i _ hx
      obtain rfl := Option.some.inj hA
      have hq4 := (keep_cell hbW'.out q4 (by show (Addr.add _ _).block < _; rw [add_block]; exact hal)).symm.trans p4
      have hq5 := (keep_cell hbW'.out q5 (by show (Addr.add _ _).block < _; rw [add_block]; exact hal)).symm.trans p5
      injection hq4 with hq4
      injection hq4 with e1 _ e2
      have e1 := e1.symm
      have e2 := e2.symm
      subst e1
      subst e2
      injection hq5 with hq5
      injection hq5 with e1 _ e2
      have e1 := e1.symm
      have e2 := e2.symm
      subst e1
      subst e2
      clear q4 q5 hA
      dsimp only at p0 p1 p2 p3 p4 p5 hL hT l1 l2
      have hL' := Lib.hid hL
      have hT' := Lib.hid hT
      have bC := Blk.new wr 58 #[.int .i64 kd, .int .i64 n, .int .i64 m, .int .i64 dt, .slice Al ls.length cl, .slice At ts.length ct]
      have d0 := bC.cell 0
      have d1 := bC.cell 1
      have d2 := bC.cell 2
      have d3 := bC.cell 3
      have d4 := bC.cell 4
      have d5 := bC.cell 5
      simp only [List.getElem?_toArray, List.getElem?_cons_zero, List.getElem?_cons_succ] at d0 d1 d2 d3 d4 d5
      clear hinv hL hT bC hx hrl
      by_cases k0 : kd = 0
      · subst k0
        obtain ⟨S', cd, he⟩ : ∃ S' cd, bootG S n = (S', cd) := ⟨_, _, rfl⟩
        by_cases c0 : cd = 0
        · subst c0
          have n3' := Lib.hid (show NInv _ short _ _ _ _ (i + 1) from (hinv'.out.boot1 he).mono (by omega))
          have ok3' := n3'.out.w.ok
          have rl3' := Lib.hid (readsL_nil (fun k => W.heap.size ≤ k) W none)
          have ll3 : _ ≤ 9223372036854775807 := (show ([] : List Ls).length ≤ 9223372036854775807 by simp)
          have he' := Lib.hid he
          clear he hin
          go_wp2_with (first | (((with_reducible refine gate_callee (f := 28) rfl ?_); refine goesL_ (some 47) rfl rfl Try.func28 (by kernel_rfl) rfl #[ptr a, .int .i64 n] rfl (by (try simp only [List.map_toArray, List.map_cons, List.map_nil]); first | done | rfl) ?_; (with_reducible refine (bootC n he'.out (hin'.out.box _)).mono ?_); rintro e w3 ⟨rfl, g3, k3⟩; refine ⟨_, rfl, ?_⟩; have bx := InN.blk k3; have z0 := bx.cell 0; have z1 := bx.cell 1; have z2 := bx.cell 2; have z3 := bx.cell 3; have z4 := bx.cell 4; have z5 := bx.cell 5; simp only [List.getElem?_toArray, List.getElem?_cons_zero, List.getElem?_cons_succ] at z0 z1 z2 z3 z4 z5; have i3' := Lib.hid ((hin'.out.next g3 k3).nil); clear bx g3 k3)) | (((with_reducible refine gate_callee (f := 33) rfl ?_); refine goesL_ (some 110) rfl rfl Try.func33 (by kernel_rfl) rfl #[ptr a] rfl (by (try simp only [List.map_toArray, List.map_cons, List.map_nil]); first | done | rfl) ?_; (with_reducible refine (liveC (S := S') (InN.ag (by first | exact i3'.out | exact i3'.out.drew | exact i3'.out.drewN _)) ok3').mono ?_); rintro e w5 ⟨A5, c5, rfl, u5, b5⟩; refine ⟨_, rfl, ?_⟩; have i5' := Lib.hid (InN.below (by first | exact i3'.out | exact i3'.out.drew | exact i3'.out.drewN _) b5); have rr' := Lib.hid (own_readsR u5); clear u5 b5)))
          obtain ⟨rs, hrs⟩ : ∃ rs, liveG S' = rs := ⟨_, rfl⟩
          have hlw' := Lib.hid (show ∀ r ∈ rs, true = true ∧ S'.clock - frm < short ∧ listsF [] r = true from fun r hr => n3'.out.law (hrs ▸ hr))
          have hbW5' := Lib.hid (b2'.out.trans (below_le i5'.out.bel hWB'.out))
          rw [hrs] at rr' ⊢
          have hrl5 : rs.length ≤ 100000 := hrs ▸ ok3'.liveLen
          clear hrs
          go_loopw [112] (fun jv wq => ∃ (j : Nat), jv = .int .i64 (j : Int) ∧ j ≤ rs.length ∧ Below w5.heap.size w5 wq)
            (fun jv _ => rs.length - (intOf jv).toNat)
          case atStart => exact ⟨0, rfl, Nat.zero_le _, Below.refl _ _⟩
          case round =>
            obtain ⟨j, rfl, hj, hbq⟩ := hrel
            have hbq' := Lib.hid hbq
            by_cases hlj : j < rs.length
            · obtain ⟨r, hr⟩ : ∃ r, rs[j]? = some r := ⟨rs[j], List.getElem?_eq_getElem hlj⟩
              obtain ⟨h1, h2, h3⟩ := hlw'.out r (List.mem_of_getElem? hr)
              obtain ⟨gr, rfl, _, p0, p1⟩ := (rr'.out.below hbq) j r hr
              have hcl := ok3'.clock
              have hfr := n3'.out.frm
              have hls' := Lib.hid h3
              have hw6 : IntKind.i64.wrap (S'.clock - frm) = S'.clock - frm := IntWalk.i64_in _ (by omega)
              have hc6 : ¬ short ≤ S'.clock - frm := by omega
              have hbx' := Lib.hid (hbq.alloc hbq.size (.cells #[.int .i64 r.1, .int .i64 r.2] tRun))
              have g6' := Lib.hid (((i5'.out.ag.below hbq).more ((Below.refl _ _).alloc (Nat.le_refl _) (.cells #[.int .i64 r.1, .int .i64 r.2] tRun)) fun k hk => .inl hk))
              clear h2 h3 hr hbq
              cases (show false = true from hls'.out)
            · have hj' : j = rs.length := by omega
              subst hj'
              clear hbq
              go_wp2
              go_roundw
              case rel => exact ⟨i + 1, _, [], true, _, [], _, _, _, _, by first | rfl | simp, rfl, rfl, rfl, by go_num, by omega, n3'.out, i5'.out.below hbq'.out, rl3'.out, ll3⟩
              case measure => simp [intOf]; omega
        · have n3' := Lib.hid (show NInv _ short _ _ _ _ (i + 1) from (hinv'.out.boot0 he c0).mono (by omega))
          have ok3' := n3'.out.w.ok
          have rl3' := hrl'
          have ll3 : _ ≤ 9223372036854775807 := hll
          have he' := Lib.hid he
          clear he hin
          go_wp2_with (first | (((with_reducible refine gate_callee (f := 28) rfl ?_); refine goesL_ (some 47) rfl rfl Try.func28 (by kernel_rfl) rfl #[ptr a, .int .i64 n] rfl (by (try simp only [List.map_toArray, List.map_cons, List.map_nil]); first | done | rfl) ?_; (with_reducible refine (bootC n he'.out (hin'.out.box _)).mono ?_); rintro e w3 ⟨rfl, g3, k3⟩; refine ⟨_, rfl, ?_⟩; have bx := InN.blk k3; have z0 := bx.cell 0; have z1 := bx.cell 1; have z2 := bx.cell 2; have z3 := bx.cell 3; have z4 := bx.cell 4; have z5 := bx.cell 5; simp only [List.getElem?_toArray, List.getElem?_cons_zero, List.getElem?_cons_succ] at z0 z1 z2 z3 z4 z5; have i3' := Lib.hid (hin'.out.next g3 k3); clear bx g3 k3)) | (((with_reducible refine gate_callee (f := 33) rfl ?_); refine goesL_ (some 110) rfl rfl Try.func33 (by kernel_rfl) rfl #[ptr a] rfl (by (try simp only [List.map_toArray, List.map_cons, List.map_nil]); first | done | rfl) ?_; (with_reducible refine (liveC (S := S') (InN.ag (by first | exact i3'.out | exact i3'.out.drew | exact i3'.out.drewN _)) ok3').mono ?_); rintro e w5 ⟨A5, c5, rfl, u5, b5⟩; refine ⟨_, rfl, ?_⟩; have i5' := Lib.hid (InN.below (by first | exact i3'.out | exact i3'.out.drew | exact i3'.out.drewN _) b5); have rr' := Lib.hid (own_readsR u5); clear u5 b5)))
          obtain ⟨rs, hrs⟩ : ∃ rs, liveG S' = rs := ⟨_, rfl⟩
          have hlw' := Lib.hid (show ∀ r ∈ rs, up = true ∧ S'.clock - frm < short ∧ listsF L r = true from fun r hr => n3'.out.law (hrs ▸ hr))
          have hbW5' := Lib.hid (b2'.out.trans (below_le i5'.out.bel hWB'.out))
          rw [hrs] at rr' ⊢
          have hrl5 : rs.length ≤ 100000 := hrs ▸ ok3'.liveLen
          clear hrs
          go_loopw [112] (fun jv wq => ∃ (j : Nat), jv = .int .i64 (j : Int) ∧ j ≤ rs.length ∧ Below w5.heap.size w5 wq)
            (fun jv _ => rs.length - (intOf jv).toNat)
          case atStart => exact ⟨0, rfl, Nat.zero_le _, Below.refl _ _⟩
          case round =>
            obtain ⟨j, rfl, hj, hbq⟩ := hrel
            have hbq' := Lib.hid hbq
            by_cases hlj : j < rs.length
            · obtain ⟨r, hr⟩ : ∃ r, rs[j]? = some r := ⟨rs[j], List.getElem?_eq_getElem hlj⟩
              obtain ⟨h1, h2, h3⟩ := hlw'.out r (List.mem_of_getElem? hr)
              obtain ⟨gr, rfl, _, p0, p1⟩ := (rr'.out.below hbq) j r hr
              have hcl := ok3'.clock
              have hfr := n3'.out.frm
              have hls' := Lib.hid h3
              have hw6 : IntKind.i64.wrap (S'.clock - frm) = S'.clock - frm := IntWalk.i64_in _ (by omega)
              have hc6 : ¬ short ≤ S'.clock - frm := by omega
              have hbx' := Lib.hid (hbq.alloc hbq.size (.cells #[.int .i64 r.1, .int .i64 r.2] tRun))
              have g6' := Lib.hid (((i5'.out.ag.below hbq).more ((Below.refl _ _).alloc (Nat.le_refl _) (.cells #[.int .i64 r.1, .int .i64 r.2] tRun)) fun k hk => .inl hk))
              clear h2 h3 hr hbq
              obtain rfl : up = true := h1
              go_wp2_with (first | ((go_at_call 37; go_loud (refine (clockQ g6'.out).mono ?_; rintro e w6 ⟨rfl, b6⟩; have bx6 := (Blk.new wr tRun #[.int .i64 r.1, .int .i64 r.2]).below b6 (by simp); have y0 := bx6.cell 0; have y1 := bx6.cell 1; simp only [List.getElem?_toArray, List.getElem?_cons_zero, List.getElem?_cons_succ] at y0 y1; have b6' := Lib.hid (hbx'.out.trans (below_le b6 hbx'.out.size)); clear bx6 b6))) | ((go_at_call 39; go_loud (refine (lists_calls A10 c10 L r _ (rl3'.out.keep (hbW5'.out.trans (below_le b6'.out hbW5'.out.size))) ll3).mono ?_; rintro e w7 ⟨rfl, b7⟩; have b7' := Lib.hid (b6'.out.trans (below_le b7 b6'.out.size)); clear b7; simp only [hls'.out]))))
              go_roundw
              case rel => exact ⟨j + 1, by go_num, by omega, b7'.out⟩
              case measure => simp [intOf]; omega
            · have hj' : j = rs.length := by omega
              subst hj'
              clear hbq
              go_wp2
              go_roundw
              case rel => exact ⟨i + 1, _, G, up, _, L, _, _, _, _, by first | rfl | simp, rfl, rfl, rfl, by go_num, by omega, n3'.out, i5'.out.below hbq'.out, rl3'.out, ll3⟩
              case measure => simp [intOf]; omega
      by_cases k1 : kd = 1
      · subst k1
        obtain ⟨S', cd, he⟩ : ∃ S' cd, haltG S = (S', cd) := ⟨_, _, rfl⟩
        by_cases c0 : cd = 0
        · subst c0
          have n3' := Lib.hid (show NInv _ short _ _ _ _ (i + 1) from (hinv'.out.halt1 he).mono (by omega))
          have ok3' := n3'.out.w.ok
          have rl3' := Lib.hid (readsL_nil (fun k => W.heap.size ≤ k) W none)
          have ll3 : _ ≤ 9223372036854775807 := (show ([] : List Ls).length ≤ 9223372036854775807 by simp)
          have he' := Lib.hid he
          clear he hin
          go_wp2_with (first | (((with_reducible refine gate_callee (f := 29) rfl ?_); refine goesL_ (some 52) rfl rfl Try.func29 (by kernel_rfl) rfl #[ptr a] rfl (by (try simp only [List.map_toArray, List.map_cons, List.map_nil]); first | done | rfl) ?_; (with_reducible refine (haltC he'.out (hin'.out.box _)).mono ?_); rintro e w3 ⟨rfl, g3, k3⟩; refine ⟨_, rfl, ?_⟩; have bx := InN.blk k3; have z0 := bx.cell 0; have z1 := bx.cell 1; have z2 := bx.cell 2; have z3 := bx.cell 3; have z4 := bx.cell 4; have z5 := bx.cell 5; simp only [List.getElem?_toArray, List.getElem?_cons_zero, List.getElem?_cons_succ] at z0 z1 z2 z3 z4 z5; have i3' := Lib.hid (hin'.out.next g3 k3); clear bx g3 k3)) | (((with_reducible refine gate_callee (f := 33) rfl ?_); refine goesL_ (some 110) rfl rfl Try.func33 (by kernel_rfl) rfl #[ptr a] rfl (by (try simp only [List.map_toArray, List.map_cons, List.map_nil]); first | done | rfl) ?_; (with_reducible refine (liveC (S := S') (InN.ag (by first | exact i3'.out | exact i3'.out.drew | exact i3'.out.drewN _)) ok3').mono ?_); rintro e w5 ⟨A5, c5, rfl, u5, b5⟩; refine ⟨_, rfl, ?_⟩; have i5' := Lib.hid (InN.below (by first | exact i3'.out | exact i3'.out.drew | exact i3'.out.drewN _) b5); have rr' := Lib.hid (own_readsR u5); clear u5 b5)))
          obtain ⟨rs, hrs⟩ : ∃ rs, liveG S' = rs := ⟨_, rfl⟩
          have hlw' := Lib.hid (show ∀ r ∈ rs, false = true ∧ S'.clock - frm < short ∧ listsF [] r = true from fun r hr => n3'.out.law (hrs ▸ hr))
          have hbW5' := Lib.hid (b2'.out.trans (below_le i5'.out.bel hWB'.out))
          rw [hrs] at rr' ⊢
          have hrl5 : rs.length ≤ 100000 := hrs ▸ ok3'.liveLen
          clear hrs
          go_loopw [112] (fun jv wq => ∃ (j : Nat), jv = .int .i64 (j : Int) ∧ j ≤ rs.length ∧ Below w5.heap.size w5 wq)
            (fun jv _ => rs.length - (intOf jv).toNat)
          case atStart => exact ⟨0, rfl, Nat.zero_le _, Below.refl _ _⟩
          case round =>
            obtain ⟨j, rfl, hj, hbq⟩ := hrel
            have hbq' := Lib.hid hbq
            by_cases hlj : j < rs.length
            · obtain ⟨r, hr⟩ : ∃ r, rs[j]? = some r := ⟨rs[j], List.getElem?_eq_getElem hlj⟩
              obtain ⟨h1, h2, h3⟩ := hlw'.out r (List.mem_of_getElem? hr)
              obtain ⟨gr, rfl, _, p0, p1⟩ := (rr'.out.below hbq) j r hr
              have hcl := ok3'.clock
              have hfr := n3'.out.frm
              have hls' := Lib.hid h3
              have hw6 : IntKind.i64.wrap (S'.clock - frm) = S'.clock - frm := IntWalk.i64_in _ (by omega)
              have hc6 : ¬ short ≤ S'.clock - frm := by omega
              have hbx' := Lib.hid (hbq.alloc hbq.size (.cells #[.int .i64 r.1, .int .i64 r.2] tRun))
              have g6' := Lib.hid (((i5'.out.ag.below hbq).more ((Below.refl _ _).alloc (Nat.le_refl _) (.cells #[.int .i64 r.1, .int .i64 r.2] tRun)) fun k hk => .inl hk))
              clear h2 h3 hr hbq
              cases (show false = true from hls'.out)
            · have hj' : j = rs.length := by omega
              subst hj'
              clear hbq
              go_wp2
              go_roundw
              case rel => exact ⟨i + 1, _, G, false, _, [], _, _, _, _, by first | rfl | simp, rfl, rfl, rfl, by go_num, by omega, n3'.out, i5'.out.below hbq'.out, rl3'.out, ll3⟩
              case measure => simp [intOf]; omega
        · have n3' := Lib.hid (show NInv _ short _ _ _ _ (i + 1) from (hinv'.out.halt0 he c0).mono (by omega))
          have ok3' := n3'.out.w.ok
          have rl3' := hrl'
          have ll3 : _ ≤ 9223372036854775807 := hll
          have he' := Lib.hid he
          clear he hin
          go_wp2_with (first | (((with_reducible refine gate_callee (f := 29) rfl ?_); refine goesL_ (some 52) rfl rfl Try.func29 (by kernel_rfl) rfl #[ptr a] rfl (by (try simp only [List.map_toArray, List.map_cons, List.map_nil]); first | done | rfl) ?_; (with_reducible refine (haltC he'.out (hin'.out.box _)).mono ?_); rintro e w3 ⟨rfl, g3, k3⟩; refine ⟨_, rfl, ?_⟩; have bx := InN.blk k3; have z0 := bx.cell 0; have z1 := bx.cell 1; have z2 := bx.cell 2; have z3 := bx.cell 3; have z4 := bx.cell 4; have z5 := bx.cell 5; simp only [List.getElem?_toArray, List.getElem?_cons_zero, List.getElem?_cons_succ] at z0 z1 z2 z3 z4 z5; have i3' := Lib.hid (hin'.out.next g3 k3); clear bx g3 k3)) | (((with_reducible refine gate_callee (f := 33) rfl ?_); refine goesL_ (some 110) rfl rfl Try.func33 (by kernel_rfl) rfl #[ptr a] rfl (by (try simp only [List.map_toArray, List.map_cons, List.map_nil]); first | done | rfl) ?_; (with_reducible refine (liveC (S := S') (InN.ag (by first | exact i3'.out | exact i3'.out.drew | exact i3'.out.drewN _)) ok3').mono ?_); rintro e w5 ⟨A5, c5, rfl, u5, b5⟩; refine ⟨_, rfl, ?_⟩; have i5' := Lib.hid (InN.below (by first | exact i3'.out | exact i3'.out.drew | exact i3'.out.drewN _) b5); have rr' := Lib.hid (own_readsR u5); clear u5 b5)))
          obtain ⟨rs, hrs⟩ : ∃ rs, liveG S' = rs := ⟨_, rfl⟩
          have hlw' := Lib.hid (show ∀ r ∈ rs, up = true ∧ S'.clock - frm < short ∧ listsF L r = true from fun r hr => n3'.out.law (hrs ▸ hr))
          have hbW5' := Lib.hid (b2'.out.trans (below_le i5'.out.bel hWB'.out))
          rw [hrs] at rr' ⊢
          have hrl5 : rs.length ≤ 100000 := hrs ▸ ok3'.liveLen
          clear hrs
          go_loopw [112] (fun jv wq => ∃ (j : Nat), jv = .int .i64 (j : Int) ∧ j ≤ rs.length ∧ Below w5.heap.size w5 wq)
            (fun jv _ => rs.length - (intOf jv).toNat)
          case atStart => exact ⟨0, rfl, Nat.zero_le _, Below.refl _ _⟩
          case round =>
            obtain ⟨j, rfl, hj, hbq⟩ := hrel
            have hbq' := Lib.hid hbq
            by_cases hlj : j < rs.length
            · obtain ⟨r, hr⟩ : ∃ r, rs[j]? = some r := ⟨rs[j], List.getElem?_eq_getElem hlj⟩
              obtain ⟨h1, h2, h3⟩ := hlw'.out r (List.mem_of_getElem? hr)
              obtain ⟨gr, rfl, _, p0, p1⟩ := (rr'.out.below hbq) j r hr
              have hcl := ok3'.clock
              have hfr := n3'.out.frm
              have hls' := Lib.hid h3
              have hw6 : IntKind.i64.wrap (S'.clock - frm) = S'.clock - frm := IntWalk.i64_in _ (by omega)
              have hc6 : ¬ short ≤ S'.clock - frm := by omega
              have hbx' := Lib.hid (hbq.alloc hbq.size (.cells #[.int .i64 r.1, .int .i64 r.2] tRun))
              have g6' := Lib.hid (((i5'.out.ag.below hbq).more ((Below.refl _ _).alloc (Nat.le_refl _) (.cells #[.int .i64 r.1, .int .i64 r.2] tRun)) fun k hk => .inl hk))
              clear h2 h3 hr hbq
              obtain rfl : up = true := h1
              go_wp2_with (first | ((go_at_call 37; go_loud (refine (clockQ g6'.out).mono ?_; rintro e w6 ⟨rfl, b6⟩; have bx6 := (Blk.new wr tRun #[.int .i64 r.1, .int .i64 r.2]).below b6 (by simp); have y0 := bx6.cell 0; have y1 := bx6.cell 1; simp only [List.getElem?_toArray, List.getElem?_cons_zero, List.getElem?_cons_succ] at y0 y1; have b6' := Lib.hid (hbx'.out.trans (below_le b6 hbx'.out.size)); clear bx6 b6))) | ((go_at_call 39; go_loud (refine (lists_calls A10 c10 L r _ (rl3'.out.keep (hbW5'.out.trans (below_le b6'.out hbW5'.out.size))) ll3).mono ?_; rintro e w7 ⟨rfl, b7⟩; have b7' := Lib.hid (b6'.out.trans (below_le b7 b6'.out.size)); clear b7; simp only [hls'.out]))))
              go_roundw
              case rel => exact ⟨j + 1, by go_num, by omega, b7'.out⟩
              case measure => simp [intOf]; omega
            · have hj' : j = rs.length := by omega
              subst hj'
              clear hbq
              go_wp2
              go_roundw
              case rel => exact ⟨i + 1, _, G, up, _, L, _, _, _, _, by first | rfl | simp, rfl, rfl, rfl, by go_num, by omega, n3'.out, i5'.out.below hbq'.out, rl3'.out, ll3⟩
              case measure => simp [intOf]; omega
      by_cases k2 : kd = 2
      · subst k2
        obtain ⟨S', cd, he⟩ : ∃ S' cd, passG S dt = (S', cd) := ⟨_, _, rfl⟩
        have n3' := Lib.hid (show NInv _ short _ _ _ _ (i + 1) from (hinv'.out.pass he).mono (by omega))
        have ok3' := n3'.out.w.ok
        have rl3' := hrl'
        have ll3 : _ ≤ 9223372036854775807 := hll
        have he' := Lib.hid he
        clear he hin
        go_wp2_with (first | (((with_reducible refine gate_callee (f := 30) rfl ?_); refine goesL_ (some 59) rfl rfl Try.func30 (by kernel_rfl) rfl #[ptr a, .int .i64 dt] rfl (by (try simp only [List.map_toArray, List.map_cons, List.map_nil]); first | done | rfl) ?_; (with_reducible refine (passC dt he'.out hok' (hin'.out.box _)).mono ?_); rintro e w3 ⟨rfl, g3, k3⟩; refine ⟨_, rfl, ?_⟩; have bx := InN.blk k3; have z0 := bx.cell 0; have z1 := bx.cell 1; have z2 := bx.cell 2; have z3 := bx.cell 3; have z4 := bx.cell 4; have z5 := bx.cell 5; simp only [List.getElem?_toArray, List.getElem?_cons_zero, List.getElem?_cons_succ] at z0 z1 z2 z3 z4 z5; have i3' := Lib.hid (hin'.out.next g3 k3); clear bx g3 k3)) | (((with_reducible refine gate_callee (f := 33) rfl ?_); refine goesL_ (some 110) rfl rfl Try.func33 (by kernel_rfl) rfl #[ptr a] rfl (by (try simp only [List.map_toArray, List.map_cons, List.map_nil]); first | done | rfl) ?_; (with_reducible refine (liveC (S := S') (InN.ag (by first | exact i3'.out | exact i3'.out.drew | exact i3'.out.drewN _)) ok3').mono ?_); rintro e w5 ⟨A5, c5, rfl, u5, b5⟩; refine ⟨_, rfl, ?_⟩; have i5' := Lib.hid (InN.below (by first | exact i3'.out | exact i3'.out.drew | exact i3'.out.drewN _) b5); have rr' := Lib.hid (own_readsR u5); clear u5 b5)))
        obtain ⟨rs, hrs⟩ : ∃ rs, liveG S' = rs := ⟨_, rfl⟩
        have hlw' := Lib.hid (show ∀ r ∈ rs, up = true ∧ S'.clock - frm < short ∧ listsF L r = true from fun r hr => n3'.out.law (hrs ▸ hr))
        have hbW5' := Lib.hid (b2'.out.trans (below_le i5'.out.bel hWB'.out))
        rw [hrs] at rr' ⊢
        have hrl5 : rs.length ≤ 100000 := hrs ▸ ok3'.liveLen
        clear hrs
        go_loopw [112] (fun jv wq => ∃ (j : Nat), jv = .int .i64 (j : Int) ∧ j ≤ rs.length ∧ Below w5.heap.size w5 wq)
          (fun jv _ => rs.length - (intOf jv).toNat)
        case atStart => exact ⟨0, rfl, Nat.zero_le _, Below.refl _ _⟩
        case round =>
          obtain ⟨j, rfl, hj, hbq⟩ := hrel
          have hbq' := Lib.hid hbq
          by_cases hlj : j < rs.length
          · obtain ⟨r, hr⟩ : ∃ r, rs[j]? = some r := ⟨rs[j], List.getElem?_eq_getElem hlj⟩
            obtain ⟨h1, h2, h3⟩ := hlw'.out r (List.mem_of_getElem? hr)
            obtain ⟨gr, rfl, _, p0, p1⟩ := (rr'.out.below hbq) j r hr
            have hcl := ok3'.clock
            have hfr := n3'.out.frm
            have hls' := Lib.hid h3
            have hw6 : IntKind.i64.wrap (S'.clock - frm) = S'.clock - frm := IntWalk.i64_in _ (by omega)
            have hc6 : ¬ short ≤ S'.clock - frm := by omega
            have hbx' := Lib.hid (hbq.alloc hbq.size (.cells #[.int .i64 r.1, .int .i64 r.2] tRun))
            have g6' := Lib.hid (((i5'.out.ag.below hbq).more ((Below.refl _ _).alloc (Nat.le_refl _) (.cells #[.int .i64 r.1, .int .i64 r.2] tRun)) fun k hk => .inl hk))
            clear h2 h3 hr hbq
            obtain rfl : up = true := h1
            go_wp2_with (first | ((go_at_call 37; go_loud (refine (clockQ g6'.out).mono ?_; rintro e w6 ⟨rfl, b6⟩; have bx6 := (Blk.new wr tRun #[.int .i64 r.1, .int .i64 r.2]).below b6 (by simp); have y0 := bx6.cell 0; have y1 := bx6.cell 1; simp only [List.getElem?_toArray, List.getElem?_cons_zero, List.getElem?_cons_succ] at y0 y1; have b6' := Lib.hid (hbx'.out.trans (below_le b6 hbx'.out.size)); clear bx6 b6))) | ((go_at_call 39; go_loud (refine (lists_calls A10 c10 L r _ (rl3'.out.keep (hbW5'.out.trans (below_le b6'.out hbW5'.out.size))) ll3).mono ?_; rintro e w7 ⟨rfl, b7⟩; have b7' := Lib.hid (b6'.out.trans (below_le b7 b6'.out.size)); clear b7; simp only [hls'.out]))))
            go_roundw
            case rel => exact ⟨j + 1, by go_num, by omega, b7'.out⟩
            case measure => simp [intOf]; omega
          · have hj' : j = rs.length := by omega
            subst hj'
            clear hbq
            go_wp2
            go_roundw
            case rel => exact ⟨i + 1, _, G, up, _, L, _, _, _, _, by first | rfl | simp, rfl, rfl, rfl, by go_num, by omega, n3'.out, i5'.out.below hbq'.out, rl3'.out, ll3⟩
            case measure => simp [intOf]; omega
      by_cases k3 : kd = 3
      · subst k3
        obtain ⟨S', bn, cd, he⟩ : ∃ S' bn cd, beatG S = (S', bn, cd) := ⟨_, _, _, rfl⟩
        by_cases c0 : cd = 0
        · subst c0
          have n3' := Lib.hid (show NInv _ short _ _ _ _ (i + 1) from hinv'.out.beat1 he)
          have ok3' := n3'.out.w.ok
          have rl3' := hrl'
          have ll3 : _ ≤ 9223372036854775807 := hll
          have he' := Lib.hid he
          clear he hin
          go_wp2_with (first | (((with_reducible refine gate_callee (f := 31) rfl ?_); refine goesL_ (some 64) rfl rfl Try.func31 (by kernel_rfl) rfl #[ptr a] rfl (by (try simp only [List.map_toArray, List.map_cons, List.map_nil]); first | done | rfl) ?_; (with_reducible refine (beatC he'.out hsl' (hin'.out.qlt _) (hin'.out.box _)).mono ?_); rintro e w3 ⟨rfl, g3, k3⟩; refine ⟨_, rfl, ?_⟩; have bx := InN.blk k3; have z0 := bx.cell 0; have z1 := bx.cell 1; have z2 := bx.cell 2; have z3 := bx.cell 3; have z4 := bx.cell 4; have z5 := bx.cell 5; simp only [List.getElem?_toArray, List.getElem?_cons_zero, List.getElem?_cons_succ] at z0 z1 z2 z3 z4 z5; have i3' := Lib.hid (hin'.out.next g3 k3); clear bx g3 k3)) | (((with_reducible refine gate_callee (f := 37) rfl ?_); refine goesL_ (some 71) rfl rfl Try.func37 (by kernel_rfl) rfl #[ptr a] rfl (by (try simp only [List.map_toArray, List.map_cons, List.map_nil]); first | done | rfl) ?_; (with_reducible refine (clockQ i3'.out.ag).mono ?_); rintro e w4 ⟨rfl, b4⟩; refine ⟨_, rfl, ?_⟩; have ial' := Lib.hid ((i3'.out.below b4).alloc (.cells #[.int .i64 S'.clock] tQ)); have hla := ial'.out.le; clear b4)) | ((at_builtin; refine wpList_append_lies _ rfl _ _ 72 rfl B tQ i0 _ 1 8 Try.underlying72 hif hz0 hz1 hz2 rfl (by decide) _ _ _ rfl ial'.out.row ⟨w4.heap.size, 0, none⟩ 1 1 [.int .i64 S'.clock] rfl rfl (World.news_of_block (cs := #[.int .i64 S'.clock]) (t := tQ) (fr := (0, 0)) (heap_alloc_new _ _)) (by simp [Value.oneCell']) (by omega) (by unfold maxLen; omega) (by omega) hla _ rfl ?_)))
          intro gg cap w9 hrow9 hgr9 hat9 _
          have i3a' := Lib.hid (ial'.out.app hrow9 hgr9 (by simpa using hat9))
          clear hrow9 hgr9 hat9 i3'
          have i3' := i3a'
          go_wp2_with (((with_reducible refine gate_callee (f := 33) rfl ?_); refine goesL_ (some 110) rfl rfl Try.func33 (by kernel_rfl) rfl #[ptr a] rfl (by (try simp only [List.map_toArray, List.map_cons, List.map_nil]); first | done | rfl) ?_; (with_reducible refine (liveC (S := S') (InN.ag (by first | exact i3'.out | exact i3'.out.drew | exact i3'.out.drewN _)) ok3').mono ?_); rintro e w5 ⟨A5, c5, rfl, u5, b5⟩; refine ⟨_, rfl, ?_⟩; have i5' := Lib.hid (InN.below (by first | exact i3'.out | exact i3'.out.drew | exact i3'.out.drewN _) b5); have rr' := Lib.hid (own_readsR u5); clear u5 b5))
          obtain ⟨rs, hrs⟩ : ∃ rs, liveG S' = rs := ⟨_, rfl⟩
          have hlw' := Lib.hid (show ∀ r ∈ rs, up = true ∧ S'.clock - frm < short ∧ listsF L r = true from fun r hr => n3'.out.law (hrs ▸ hr))
          have hbW5' := Lib.hid (b2'.out.trans (below_le i5'.out.bel hWB'.out))
          rw [hrs] at rr' ⊢
          have hrl5 : rs.length ≤ 100000 := hrs ▸ ok3'.liveLen
          clear hrs
          go_loopw [112] (fun jv wq => ∃ (j : Nat), jv = .int .i64 (j : Int) ∧ j ≤ rs.length ∧ Below w5.heap.size w5 wq)
            (fun jv _ => rs.length - (intOf jv).toNat)
          case atStart => exact ⟨0, rfl, Nat.zero_le _, Below.refl _ _⟩
          case round =>
            obtain ⟨j, rfl, hj, hbq⟩ := hrel
            have hbq' := Lib.hid hbq
            by_cases hlj : j < rs.length
            · obtain ⟨r, hr⟩ : ∃ r, rs[j]? = some r := ⟨rs[j], List.getElem?_eq_getElem hlj⟩
              obtain ⟨h1, h2, h3⟩ := hlw'.out r (List.mem_of_getElem? hr)
              obtain ⟨gr, rfl, _, p0, p1⟩ := (rr'.out.below hbq) j r hr
              have hcl := ok3'.clock
              have hfr := n3'.out.frm
              have hls' := Lib.hid h3
              have hw6 : IntKind.i64.wrap (S'.clock - frm) = S'.clock - frm := IntWalk.i64_in _ (by omega)
              have hc6 : ¬ short ≤ S'.clock - frm := by omega
              have hbx' := Lib.hid (hbq.alloc hbq.size (.cells #[.int .i64 r.1, .int .i64 r.2] tRun))
              have g6' := Lib.hid (((i5'.out.ag.below hbq).more ((Below.refl _ _).alloc (Nat.le_refl _) (.cells #[.int .i64 r.1, .int .i64 r.2] tRun)) fun k hk => .inl hk))
              clear h2 h3 hr hbq
              obtain rfl : up = true := h1
              go_wp2_with (first | ((go_at_call 37; go_loud (refine (clockQ g6'.out).mono ?_; rintro e w6 ⟨rfl, b6⟩; have bx6 := (Blk.new wr tRun #[.int .i64 r.1, .int .i64 r.2]).below b6 (by simp); have y0 := bx6.cell 0; have y1 := bx6.cell 1; simp only [List.getElem?_toArray, List.getElem?_cons_zero, List.getElem?_cons_succ] at y0 y1; have b6' := Lib.hid (hbx'.out.trans (below_le b6 hbx'.out.size)); clear bx6 b6))) | ((go_at_call 39; go_loud (refine (lists_calls A10 c10 L r _ (rl3'.out.keep (hbW5'.out.trans (below_le b6'.out hbW5'.out.size))) ll3).mono ?_; rintro e w7 ⟨rfl, b7⟩; have b7' := Lib.hid (b6'.out.trans (below_le b7 b6'.out.size)); clear b7; simp only [hls'.out]))))
              go_roundw
              case rel => exact ⟨j + 1, by go_num, by omega, b7'.out⟩
              case measure => simp [intOf]; omega
            · have hj' : j = rs.length := by omega
              subst hj'
              clear hbq
              go_wp2
              go_roundw
              case rel => exact ⟨i + 1, _, (G ++ [S'.clock]), up, _, L, _, _, _, _, by first | rfl | simp, rfl, rfl, rfl, by go_num, by omega, n3'.out, i5'.out.below hbq'.out, rl3'.out, ll3⟩
              case measure => simp [intOf]; omega
        · have n3' := Lib.hid (show NInv _ short _ _ _ _ (i + 1) from hinv'.out.beat0 he c0)
          have ok3' := n3'.out.w.ok
          have rl3' := hrl'
          have ll3 : _ ≤ 9223372036854775807 := hll
          have he' := Lib.hid he
          clear he hin
          go_wp2_with (first | (((with_reducible refine gate_callee (f := 31) rfl ?_); refine goesL_ (some 64) rfl rfl Try.func31 (by kernel_rfl) rfl #[ptr a] rfl (by (try simp only [List.map_toArray, List.map_cons, List.map_nil]); first | done | rfl) ?_; (with_reducible refine (beatC he'.out hsl' (hin'.out.qlt _) (hin'.out.box _)).mono ?_); rintro e w3 ⟨rfl, g3, k3⟩; refine ⟨_, rfl, ?_⟩; have bx := InN.blk k3; have z0 := bx.cell 0; have z1 := bx.cell 1; have z2 := bx.cell 2; have z3 := bx.cell 3; have z4 := bx.cell 4; have z5 := bx.cell 5; simp only [List.getElem?_toArray, List.getElem?_cons_zero, List.getElem?_cons_succ] at z0 z1 z2 z3 z4 z5; have i3' := Lib.hid (hin'.out.next g3 k3); clear bx g3 k3)) | (((with_reducible refine gate_callee (f := 33) rfl ?_); refine goesL_ (some 110) rfl rfl Try.func33 (by kernel_rfl) rfl #[ptr a] rfl (by (try simp only [List.map_toArray, List.map_cons, List.map_nil]); first | done | rfl) ?_; (with_reducible refine (liveC (S := S') (InN.ag (by first | exact i3'.out | exact i3'.out.drew | exact i3'.out.drewN _)) ok3').mono ?_); rintro e w5 ⟨A5, c5, rfl, u5, b5⟩; refine ⟨_, rfl, ?_⟩; have i5' := Lib.hid (InN.below (by first | exact i3'.out | exact i3'.out.drew | exact i3'.out.drewN _) b5); have rr' := Lib.hid (own_readsR u5); clear u5 b5)))
          obtain ⟨rs, hrs⟩ : ∃ rs, liveG S' = rs := ⟨_, rfl⟩
          have hlw' := Lib.hid (show ∀ r ∈ rs, up = true ∧ S'.clock - frm < short ∧ listsF L r = true from fun r hr => n3'.out.law (hrs ▸ hr))
          have hbW5' := Lib.hid (b2'.out.trans (below_le i5'.out.bel hWB'.out))
          rw [hrs] at rr' ⊢
          have hrl5 : rs.length ≤ 100000 := hrs ▸ ok3'.liveLen
          clear hrs
          go_loopw [112] (fun jv wq => ∃ (j : Nat), jv = .int .i64 (j : Int) ∧ j ≤ rs.length ∧ Below w5.heap.size w5 wq)
            (fun jv _ => rs.length - (intOf jv).toNat)
          case atStart => exact ⟨0, rfl, Nat.zero_le _, Below.refl _ _⟩
          case round =>
            obtain ⟨j, rfl, hj, hbq⟩ := hrel
            have hbq' := Lib.hid hbq
            by_cases hlj : j < rs.length
            · obtain ⟨r, hr⟩ : ∃ r, rs[j]? = some r := ⟨rs[j], List.getElem?_eq_getElem hlj⟩
              obtain ⟨h1, h2, h3⟩ := hlw'.out r (List.mem_of_getElem? hr)
              obtain ⟨gr, rfl, _, p0, p1⟩ := (rr'.out.below hbq) j r hr
              have hcl := ok3'.clock
              have hfr := n3'.out.frm
              have hls' := Lib.hid h3
              have hw6 : IntKind.i64.wrap (S'.clock - frm) = S'.clock - frm := IntWalk.i64_in _ (by omega)
              have hc6 : ¬ short ≤ S'.clock - frm := by omega
              have hbx' := Lib.hid (hbq.alloc hbq.size (.cells #[.int .i64 r.1, .int .i64 r.2] tRun))
              have g6' := Lib.hid (((i5'.out.ag.below hbq).more ((Below.refl _ _).alloc (Nat.le_refl _) (.cells #[.int .i64 r.1, .int .i64 r.2] tRun)) fun k hk => .inl hk))
              clear h2 h3 hr hbq
              obtain rfl : up = true := h1
              go_wp2_with (first | ((go_at_call 37; go_loud (refine (clockQ g6'.out).mono ?_; rintro e w6 ⟨rfl, b6⟩; have bx6 := (Blk.new wr tRun #[.int .i64 r.1, .int .i64 r.2]).below b6 (by simp); have y0 := bx6.cell 0; have y1 := bx6.cell 1; simp only [List.getElem?_toArray, List.getElem?_cons_zero, List.getElem?_cons_succ] at y0 y1; have b6' := Lib.hid (hbx'.out.trans (below_le b6 hbx'.out.size)); clear bx6 b6))) | ((go_at_call 39; go_loud (refine (lists_calls A10 c10 L r _ (rl3'.out.keep (hbW5'.out.trans (below_le b6'.out hbW5'.out.size))) ll3).mono ?_; rintro e w7 ⟨rfl, b7⟩; have b7' := Lib.hid (b6'.out.trans (below_le b7 b6'.out.size)); clear b7; simp only [hls'.out]))))
              go_roundw
              case rel => exact ⟨j + 1, by go_num, by omega, b7'.out⟩
              case measure => simp [intOf]; omega
            · have hj' : j = rs.length := by omega
              subst hj'
              clear hbq
              go_wp2
              go_roundw
              case rel => exact ⟨i + 1, _, G, up, _, L, _, _, _, _, by first | rfl | simp, rfl, rfl, rfl, by go_num, by omega, n3'.out, i5'.out.below hbq'.out, rl3'.out, ll3⟩
              case measure => simp [intOf]; omega
      by_cases k4 : kd = 4
      · subst k4
        obtain ⟨S', cd, he⟩ : ∃ S' cd, replyG S n m ls ts = (S', cd) := ⟨_, _, rfl⟩
        by_cases c0 : cd = 0
        · subst c0
          obtain ⟨p, x, hm, hgx, hn1⟩ := hinv'.out.reply1 he
          subst hm
          have hpl := (List.getElem?_eq_some_iff.1 hgx).1
          obtain ⟨g9, c9', hv9, _⟩ := hin.cell hgx
          injection hv9 with e1 _ e3
          subst e1
          subst e3
          clear hpl
          have hpl : p < G.length := (List.getElem?_eq_some_iff.1 hgx).1
          have hgx' := Lib.hid hgx
          clear hgx
          have hm1 : ¬ (p : Int) + 1 < 1 := by omega
          have hm2 : ¬ (G.length : Int) < (p : Int) + 1 := by omega
          have hw1 : IntKind.i64.wrap ((p : Int) + 1 - 1) = (p : Int) := by rw [IntWalk.i64_in _ (by omega)]; omega
          have hw2 : IntKind.i64.wrap (p : Int) = (p : Int) := IntWalk.i64_in _ (by omega)
          have n3' := Lib.hid (show NInv _ short _ _ _ _ (i + 1) from hn1.mono (by omega))
          have ok3' := n3'.out.w.ok
          have rl3' := hL'
          have ll3 : _ ≤ 9223372036854775807 := l1
          have he' := Lib.hid he
          clear he hin
          go_wp2_with (((with_reducible refine gate_callee (f := 32) rfl ?_); refine goesL_ (some 85) rfl rfl Try.func32 (by kernel_rfl) rfl #[ptr a, .int .i64 n, .int .i64 ((p : Int) + 1), .slice Al ls.length cl, .slice At ts.length ct] rfl (by (try simp only [List.map_toArray, List.map_cons, List.map_nil]); first | done | rfl) ?_; (with_reducible refine (replyC n _ he'.out hok' hsl' (hin'.out.qlt _) (hin'.out.reads hWB'.out _ (hL'.out.keep hbW'.out)) (hin'.out.readsT hWB'.out _ (hT'.out.keep hbW'.out)) l1 l2 (hin'.out.box _)).mono ?_); rintro e w3 ⟨rfl, g3, k3⟩; refine ⟨_, rfl, ?_⟩; have bx := InN.blk k3; have z0 := bx.cell 0; have z1 := bx.cell 1; have z2 := bx.cell 2; have z3 := bx.cell 3; have z4 := bx.cell 4; have z5 := bx.cell 5; simp only [List.getElem?_toArray, List.getElem?_cons_zero, List.getElem?_cons_succ] at z0 z1 z2 z3 z4 z5; have i3' := Lib.hid (hin'.out.next g3 k3); have hcell := i3'.out.cellAt hgx'.out; clear bx g3 k3))
          go_quiet (fail)
          go_wp2_with (((with_reducible refine gate_callee (f := 33) rfl ?_); refine goesL_ (some 110) rfl rfl Try.func33 (by kernel_rfl) rfl #[ptr a] rfl (by (try simp only [List.map_toArray, List.map_cons, List.map_nil]); first | done | rfl) ?_; (with_reducible refine (liveC (S := S') (InN.ag (by first | exact i3'.out | exact i3'.out.drew | exact i3'.out.drewN _)) ok3').mono ?_); rintro e w5 ⟨A5, c5, rfl, u5, b5⟩; refine ⟨_, rfl, ?_⟩; have i5' := Lib.hid (InN.below (by first | exact i3'.out | exact i3'.out.drew | exact i3'.out.drewN _) b5); have rr' := Lib.hid (own_readsR u5); clear u5 b5))
          obtain ⟨rs, hrs⟩ : ∃ rs, liveG S' = rs := ⟨_, rfl⟩
          have hlw' := Lib.hid (show ∀ r ∈ rs, up = true ∧ S'.clock - x < short ∧ listsF ls r = true from fun r hr => n3'.out.law (hrs ▸ hr))
          have hbW5' := Lib.hid (b2'.out.trans (below_le i5'.out.bel hWB'.out))
          rw [hrs] at rr' ⊢
          have hrl5 : rs.length ≤ 100000 := hrs ▸ ok3'.liveLen
          clear hrs
          go_loopw [112] (fun jv wq => ∃ (j : Nat), jv = .int .i64 (j : Int) ∧ j ≤ rs.length ∧ Below w5.heap.size w5 wq)
            (fun jv _ => rs.length - (intOf jv).toNat)
          case atStart => exact ⟨0, rfl, Nat.zero_le _, Below.refl _ _⟩
          case round =>
            obtain ⟨j, rfl, hj, hbq⟩ := hrel
            have hbq' := Lib.hid hbq
            by_cases hlj : j < rs.length
            · obtain ⟨r, hr⟩ : ∃ r, rs[j]? = some r := ⟨rs[j], List.getElem?_eq_getElem hlj⟩
              obtain ⟨h1, h2, h3⟩ := hlw'.out r (List.mem_of_getElem? hr)
              obtain ⟨gr, rfl, _, p0, p1⟩ := (rr'.out.below hbq) j r hr
              have hcl := ok3'.clock
              have hfr := n3'.out.frm
              have hls' := Lib.hid h3
              have hw6 : IntKind.i64.wrap (S'.clock - x) = S'.clock - x := IntWalk.i64_in _ (by omega)
              have hc6 : ¬ short ≤ S'.clock - x := by omega
              have hbx' := Lib.hid (hbq.alloc hbq.size (.cells #[.int .i64 r.1, .int .i64 r.2] tRun))
              have g6' := Lib.hid (((i5'.out.ag.below hbq).more ((Below.refl _ _).alloc (Nat.le_refl _) (.cells #[.int .i64 r.1, .int .i64 r.2] tRun)) fun k hk => .inl hk))
              clear h2 h3 hr hbq
              obtain rfl : up = true := h1
              go_wp2_with (first | ((go_at_call 37; go_loud (refine (clockQ g6'.out).mono ?_; rintro e w6 ⟨rfl, b6⟩; have bx6 := (Blk.new wr tRun #[.int .i64 r.1, .int .i64 r.2]).below b6 (by simp); have y0 := bx6.cell 0; have y1 := bx6.cell 1; simp only [List.getElem?_toArray, List.getElem?_cons_zero, List.getElem?_cons_succ] at y0 y1; have b6' := Lib.hid (hbx'.out.trans (below_le b6 hbx'.out.size)); clear bx6 b6))) | ((go_at_call 39; go_loud (refine (lists_calls Al cl ls r _ (rl3'.out.keep (hbW5'.out.trans (below_le b6'.out hbW5'.out.size))) ll3).mono ?_; rintro e w7 ⟨rfl, b7⟩; have b7' := Lib.hid (b6'.out.trans (below_le b7 b6'.out.size)); clear b7; simp only [hls'.out]))))
              go_roundw
              case rel => exact ⟨j + 1, by go_num, by omega, b7'.out⟩
              case measure => simp [intOf]; omega
            · have hj' : j = rs.length := by omega
              subst hj'
              clear hbq
              go_wp2
              go_roundw
              case rel => exact ⟨i + 1, _, G, up, _, ls, _, _, _, _, by first | rfl | simp, rfl, rfl, rfl, by go_num, by omega, n3'.out, i5'.out.below hbq'.out, rl3'.out, ll3⟩
              case measure => simp [intOf]; omega
        · have n3' := Lib.hid (show NInv _ short _ _ _ _ (i + 1) from (hinv'.out.reply0 he c0).mono (by omega))
          have ok3' := n3'.out.w.ok
          have rl3' := hrl'
          have ll3 : _ ≤ 9223372036854775807 := hll
          have he' := Lib.hid he
          clear he hin
          go_wp2_with (first | (((with_reducible refine gate_callee (f := 32) rfl ?_); refine goesL_ (some 85) rfl rfl Try.func32 (by kernel_rfl) rfl #[ptr a, .int .i64 n, .int .i64 m, .slice Al ls.length cl, .slice At ts.length ct] rfl (by (try simp only [List.map_toArray, List.map_cons, List.map_nil]); first | done | rfl) ?_; (with_reducible refine (replyC n _ he'.out hok' hsl' (hin'.out.qlt _) (hin'.out.reads hWB'.out _ (hL'.out.keep hbW'.out)) (hin'.out.readsT hWB'.out _ (hT'.out.keep hbW'.out)) l1 l2 (hin'.out.box _)).mono ?_); rintro e w3 ⟨rfl, g3, k3⟩; refine ⟨_, rfl, ?_⟩; have bx := InN.blk k3; have z0 := bx.cell 0; have z1 := bx.cell 1; have z2 := bx.cell 2; have z3 := bx.cell 3; have z4 := bx.cell 4; have z5 := bx.cell 5; simp only [List.getElem?_toArray, List.getElem?_cons_zero, List.getElem?_cons_succ] at z0 z1 z2 z3 z4 z5; have i3' := Lib.hid (hin'.out.next g3 k3); clear bx g3 k3)) | (((with_reducible refine gate_callee (f := 33) rfl ?_); refine goesL_ (some 110) rfl rfl Try.func33 (by kernel_rfl) rfl #[ptr a] rfl (by (try simp only [List.map_toArray, List.map_cons, List.map_nil]); first | done | rfl) ?_; (with_reducible refine (liveC (S := S') (InN.ag (by first | exact i3'.out | exact i3'.out.drew | exact i3'.out.drewN _)) ok3').mono ?_); rintro e w5 ⟨A5, c5, rfl, u5, b5⟩; refine ⟨_, rfl, ?_⟩; have i5' := Lib.hid (InN.below (by first | exact i3'.out | exact i3'.out.drew | exact i3'.out.drewN _) b5); have rr' := Lib.hid (own_readsR u5); clear u5 b5)))
          obtain ⟨rs, hrs⟩ : ∃ rs, liveG S' = rs := ⟨_, rfl⟩
          have hlw' := Lib.hid (show ∀ r ∈ rs, up = true ∧ S'.clock - frm < short ∧ listsF L r = true from fun r hr => n3'.out.law (hrs ▸ hr))
          have hbW5' := Lib.hid (b2'.out.trans (below_le i5'.out.bel hWB'.out))
          rw [hrs] at rr' ⊢
          have hrl5 : rs.length ≤ 100000 := hrs ▸ ok3'.liveLen
          clear hrs
          go_loopw [112] (fun jv wq => ∃ (j : Nat), jv = .int .i64 (j : Int) ∧ j ≤ rs.length ∧ Below w5.heap.size w5 wq)
            (fun jv _ => rs.length - (intOf jv).toNat)
          case atStart => exact ⟨0, rfl, Nat.zero_le _, Below.refl _ _⟩
          case round =>
            obtain ⟨j, rfl, hj, hbq⟩ := hrel
            have hbq' := Lib.hid hbq
            by_cases hlj : j < rs.length
            · obtain ⟨r, hr⟩ : ∃ r, rs[j]? = some r := ⟨rs[j], List.getElem?_eq_getElem hlj⟩
              obtain ⟨h1, h2, h3⟩ := hlw'.out r (List.mem_of_getElem? hr)
              obtain ⟨gr, rfl, _, p0, p1⟩ := (rr'.out.below hbq) j r hr
              have hcl := ok3'.clock
              have hfr := n3'.out.frm
              have hls' := Lib.hid h3
              have hw6 : IntKind.i64.wrap (S'.clock - frm) = S'.clock - frm := IntWalk.i64_in _ (by omega)
              have hc6 : ¬ short ≤ S'.clock - frm := by omega
              have hbx' := Lib.hid (hbq.alloc hbq.size (.cells #[.int .i64 r.1, .int .i64 r.2] tRun))
              have g6' := Lib.hid (((i5'.out.ag.below hbq).more ((Below.refl _ _).alloc (Nat.le_refl _) (.cells #[.int .i64 r.1, .int .i64 r.2] tRun)) fun k hk => .inl hk))
              clear h2 h3 hr hbq
              obtain rfl : up = true := h1
              go_wp2_with (first | ((go_at_call 37; go_loud (refine (clockQ g6'.out).mono ?_; rintro e w6 ⟨rfl, b6⟩; have bx6 := (Blk.new wr tRun #[.int .i64 r.1, .int .i64 r.2]).below b6 (by simp); have y0 := bx6.cell 0; have y1 := bx6.cell 1; simp only [List.getElem?_toArray, List.getElem?_cons_zero, List.getElem?_cons_succ] at y0 y1; have b6' := Lib.hid (hbx'.out.trans (below_le b6 hbx'.out.size)); clear bx6 b6))) | ((go_at_call 39; go_loud (refine (lists_calls A10 c10 L r _ (rl3'.out.keep (hbW5'.out.trans (below_le b6'.out hbW5'.out.size))) ll3).mono ?_; rintro e w7 ⟨rfl, b7⟩; have b7' := Lib.hid (b6'.out.trans (below_le b7 b6'.out.size)); clear b7; simp only [hls'.out]))))
              go_roundw
              case rel => exact ⟨j + 1, by go_num, by omega, b7'.out⟩
              case measure => simp [intOf]; omega
            · have hj' : j = rs.length := by omega
              subst hj'
              clear hbq
              go_wp2
              go_roundw
              case rel => exact ⟨i + 1, _, G, up, _, L, _, _, _, _, by first | rfl | simp, rfl, rfl, rfl, by go_num, by omega, n3'.out, i5'.out.below hbq'.out, rl3'.out, ll3⟩
              case measure => simp [intOf]; omega
      by_cases k5 : kd = 5
      · subst k5
        obtain ⟨S', he⟩ : ∃ S', (quantG S).1 = S' := ⟨_, rfl⟩
        have n3' := Lib.hid (show NInv _ short _ _ _ _ (i + 1) from he ▸ hinv'.out.quant)
        have ok3' := n3'.out.w.ok
        have rl3' := hrl'
        have ll3 : _ ≤ 9223372036854775807 := hll
        have he' := Lib.hid he
        clear he hin
        go_wp2_with (first | (((with_reducible refine gate_callee (f := 38) rfl ?_); refine goesL_ (some 108) rfl rfl Try.func38 (by kernel_rfl) rfl #[ptr a] rfl (by (try simp only [List.map_toArray, List.map_cons, List.map_nil]); first | done | rfl) ?_; (with_reducible refine (quantC he'.out hok' hhad'.out (hin'.out.box _)).mono ?_); rintro e w3 ⟨u3, rfl, g3, k3⟩; refine ⟨_, rfl, ?_⟩; have bx := InN.blk k3; have z0 := bx.cell 0; have z1 := bx.cell 1; have z2 := bx.cell 2; have z3 := bx.cell 3; have z4 := bx.cell 4; have z5 := bx.cell 5; simp only [List.getElem?_toArray, List.getElem?_cons_zero, List.getElem?_cons_succ] at z0 z1 z2 z3 z4 z5; have i3' := Lib.hid (hin'.out.next g3 k3); clear bx g3 k3)) | (((with_reducible refine gate_callee (f := 33) rfl ?_); refine goesL_ (some 110) rfl rfl Try.func33 (by kernel_rfl) rfl #[ptr a] rfl (by (try simp only [List.map_toArray, List.map_cons, List.map_nil]); first | done | rfl) ?_; (with_reducible refine (liveC (S := S') (InN.ag (by first | exact i3'.out | exact i3'.out.drew | exact i3'.out.drewN _)) ok3').mono ?_); rintro e w5 ⟨A5, c5, rfl, u5, b5⟩; refine ⟨_, rfl, ?_⟩; have i5' := Lib.hid (InN.below (by first | exact i3'.out | exact i3'.out.drew | exact i3'.out.drewN _) b5); have rr' := Lib.hid (own_readsR u5); clear u5 b5)))
        obtain ⟨rs, hrs⟩ : ∃ rs, liveG S' = rs := ⟨_, rfl⟩
        have hlw' := Lib.hid (show ∀ r ∈ rs, up = true ∧ S'.clock - frm < short ∧ listsF L r = true from fun r hr => n3'.out.law (hrs ▸ hr))
        have hbW5' := Lib.hid (b2'.out.trans (below_le i5'.out.bel hWB'.out))
        rw [hrs] at rr' ⊢
        have hrl5 : rs.length ≤ 100000 := hrs ▸ ok3'.liveLen
        clear hrs
        go_loopw [112] (fun jv wq => ∃ (j : Nat), jv = .int .i64 (j : Int) ∧ j ≤ rs.length ∧ Below w5.heap.size w5 wq)
          (fun jv _ => rs.length - (intOf jv).toNat)
        case atStart => exact ⟨0, rfl, Nat.zero_le _, Below.refl _ _⟩
        case round =>
          obtain ⟨j, rfl, hj, hbq⟩ := hrel
          have hbq' := Lib.hid hbq
          by_cases hlj : j < rs.length
          · obtain ⟨r, hr⟩ : ∃ r, rs[j]? = some r := ⟨rs[j], List.getElem?_eq_getElem hlj⟩
            obtain ⟨h1, h2, h3⟩ := hlw'.out r (List.mem_of_getElem? hr)
            obtain ⟨gr, rfl, _, p0, p1⟩ := (rr'.out.below hbq) j r hr
            have hcl := ok3'.clock
            have hfr := n3'.out.frm
            have hls' := Lib.hid h3
            have hw6 : IntKind.i64.wrap (S'.clock - frm) = S'.clock - frm := IntWalk.i64_in _ (by omega)
            have hc6 : ¬ short ≤ S'.clock - frm := by omega
            have hbx' := Lib.hid (hbq.alloc hbq.size (.cells #[.int .i64 r.1, .int .i64 r.2] tRun))
            have g6' := Lib.hid (((i5'.out.ag.below hbq).more ((Below.refl _ _).alloc (Nat.le_refl _) (.cells #[.int .i64 r.1, .int .i64 r.2] tRun)) fun k hk => .inl hk))
            clear h2 h3 hr hbq
            obtain rfl : up = true := h1
            go_wp2_with (first | ((go_at_call 37; go_loud (refine (clockQ g6'.out).mono ?_; rintro e w6 ⟨rfl, b6⟩; have bx6 := (Blk.new wr tRun #[.int .i64 r.1, .int .i64 r.2]).below b6 (by simp); have y0 := bx6.cell 0; have y1 := bx6.cell 1; simp only [List.getElem?_toArray, List.getElem?_cons_zero, List.getElem?_cons_succ] at y0 y1; have b6' := Lib.hid (hbx'.out.trans (below_le b6 hbx'.out.size)); clear bx6 b6))) | ((go_at_call 39; go_loud (refine (lists_calls A10 c10 L r _ (rl3'.out.keep (hbW5'.out.trans (below_le b6'.out hbW5'.out.size))) ll3).mono ?_; rintro e w7 ⟨rfl, b7⟩; have b7' := Lib.hid (b6'.out.trans (below_le b7 b6'.out.size)); clear b7; simp only [hls'.out]))))
            go_roundw
            case rel => exact ⟨j + 1, by go_num, by omega, b7'.out⟩
            case measure => simp [intOf]; omega
          · have hj' : j = rs.length := by omega
            subst hj'
            clear hbq
            go_wp2
            go_roundw
            case rel => exact ⟨i + 1, _, G, up, _, L, _, _, _, _, by first | rfl | simp, rfl, rfl, rfl, by go_num, by omega, n3'.out, i5'.out.below hbq'.out, rl3'.out, ll3⟩
            case measure => simp [intOf]; omega
      have n3' := Lib.hid (show NInv _ short _ _ _ _ (i + 1) from hinv'.out.mono (by omega))
      have ok3' := n3'.out.w.ok
      have rl3' := hrl'
      have ll3 : _ ≤ 9223372036854775807 := hll
      have i3' := Lib.hid (hin.alloc (.cells #[.int .i64 kd, .int .i64 n, .int .i64 m, .int .i64 dt, .slice Al ls.length cl, .slice At ts.length ct] 58))
      clear hin
      go_wp2_with (((with_reducible refine gate_callee (f := 33) rfl ?_); refine goesL_ (some 110) rfl rfl Try.func33 (by kernel_rfl) rfl #[ptr a] rfl (by (try simp only [List.map_toArray, List.map_cons, List.map_nil]); first | done | rfl) ?_; (with_reducible refine (liveC (S := S) (InN.ag (by first | exact i3'.out | exact i3'.out.drew | exact i3'.out.drewN _)) ok3').mono ?_); rintro e w5 ⟨A5, c5, rfl, u5, b5⟩; refine ⟨_, rfl, ?_⟩; have i5' := Lib.hid (InN.below (by first | exact i3'.out | exact i3'.out.drew | exact i3'.out.drewN _) b5); have rr' := Lib.hid (own_readsR u5); clear u5 b5))
      obtain ⟨rs, hrs⟩ : ∃ rs, liveG S = rs := ⟨_, rfl⟩
      have hlw' := Lib.hid (show ∀ r ∈ rs, up = true ∧ S.clock - frm < short ∧ listsF L r = true from fun r hr => n3'.out.law (hrs ▸ hr))
      have hbW5' := Lib.hid (b2'.out.trans (below_le i5'.out.bel hWB'.out))
      rw [hrs] at rr' ⊢
      have hrl5 : rs.length ≤ 100000 := hrs ▸ ok3'.liveLen
      clear hrs
      go_loopw [112] (fun jv wq => ∃ (j : Nat), jv = .int .i64 (j : Int) ∧ j ≤ rs.length ∧ Below w5.heap.size w5 wq)
        (fun jv _ => rs.length - (intOf jv).toNat)
      case atStart => exact ⟨0, rfl, Nat.zero_le _, Below.refl _ _⟩
      case round =>
        obtain ⟨j, rfl, hj, hbq⟩ := hrel
        have hbq' := Lib.hid hbq
        by_cases hlj : j < rs.length
        · obtain ⟨r, hr⟩ : ∃ r, rs[j]? = some r := ⟨rs[j], List.getElem?_eq_getElem hlj⟩
          obtain ⟨h1, h2, h3⟩ := hlw'.out r (List.mem_of_getElem? hr)
          obtain ⟨gr, rfl, _, p0, p1⟩ := (rr'.out.below hbq) j r hr
          have hcl := ok3'.clock
          have hfr := n3'.out.frm
          have hls' := Lib.hid h3
          have hw6 : IntKind.i64.wrap (S.clock - frm) = S.clock - frm := IntWalk.i64_in _ (by omega)
          have hc6 : ¬ short ≤ S.clock - frm := by omega
          have hbx' := Lib.hid (hbq.alloc hbq.size (.cells #[.int .i64 r.1, .int .i64 r.2] tRun))
          have g6' := Lib.hid (((i5'.out.ag.below hbq).more ((Below.refl _ _).alloc (Nat.le_refl _) (.cells #[.int .i64 r.1, .int .i64 r.2] tRun)) fun k hk => .inl hk))
          clear h2 h3 hr hbq
          obtain rfl : up = true := h1
          go_wp2_with (first | ((go_at_call 37; go_loud (refine (clockQ g6'.out).mono ?_; rintro e w6 ⟨rfl, b6⟩; have bx6 := (Blk.new wr tRun #[.int .i64 r.1, .int .i64 r.2]).below b6 (by simp); have y0 := bx6.cell 0; have y1 := bx6.cell 1; simp only [List.getElem?_toArray, List.getElem?_cons_zero, List.getElem?_cons_succ] at y0 y1; have b6' := Lib.hid (hbx'.out.trans (below_le b6 hbx'.out.size)); clear bx6 b6))) | ((go_at_call 39; go_loud (refine (lists_calls A10 c10 L r _ (rl3'.out.keep (hbW5'.out.trans (below_le b6'.out hbW5'.out.size))) ll3).mono ?_; rintro e w7 ⟨rfl, b7⟩; have b7' := Lib.hid (b6'.out.trans (below_le b7 b6'.out.size)); clear b7; simp only [hls'.out]))))
          go_roundw
          case rel => exact ⟨j + 1, by go_num, by omega, b7'.out⟩
          case measure => simp [intOf]; omega
        · have hj' : j = rs.length := by omega
          subst hj'
          clear hbq
          go_wp2
          go_roundw
          case rel => exact ⟨i + 1, _, G, up, _, L, _, _, _, _, by first | rfl | simp, rfl, rfl, rfl, by go_num, by omega, n3'.out, i5'.out.below hbq'.out, rl3'.out, ll3⟩
          case measure => simp [intOf]; omega
    · have hi' : i = ops.length := by omega
      subst hi'
      clear hin hinv hrl
      go_wp2
      go_ret
      exact ⟨rfl, hbW'.out⟩
end Go.Proofs.Ytkcmmghhghgdpaa.Walk
end
