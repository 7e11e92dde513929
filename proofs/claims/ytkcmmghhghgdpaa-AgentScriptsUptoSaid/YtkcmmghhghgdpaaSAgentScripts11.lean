/- What the law AgentScripts needs of the seat's contracts and plain laws, several texts one behind the other; no conditions. -/
import Derived.Test.YtkcmmghhghgdpaaSAgentScripts10
import Derived.Test.YtkcmmghhghgdpaaSAgentScripts9
import Derived.Lib.MinMax
import Derived.Deep.RegionHeld3
import Derived.Deep.RegionLaw
import Derived.Deep.AppendLies
section
namespace Go.Proofs.Ytkcmmghhghgdpaa.Agt
open Go.RowKit Go.Shelf Go.Maps Go.Proofs.Ytkcmmghhghgdpaa.Iter Go.Proofs.Ytkcmmghhghgdpaa.Str Go.Proofs.YtkcmmghhghgdpaaW.PrintWords Go.Proofs.YtkcmmghhghgdpaaW.PrintLast
set_option linter.unusedVariables false
set_option linter.unusedSimpArgs false
/-- Leases that are read. -/
def ReadsM (W : World) (A : Option Addr) (l : List LeM) : Prop := ∀ j y, l[j]? = some y → ∃ g, A = some ⟨g, 0, none⟩ ∧ g < W.heap.size ∧ W.cell? ⟨g, j * 8, none⟩ = some (.int .i64 y.1.task) ∧ W.cell? ⟨g, j * 8 + 1, none⟩ = some (.int .i64 y.1.queue) ∧ W.cell? ⟨g, j * 8 + 2, none⟩ = some (.int .i64 y.1.node) ∧
  W.cell? ⟨g, j * 8 + 3, none⟩ = some (.slice y.2.1 y.1.cores.length y.2.2) ∧ W.cell? ⟨g, j * 8 + 4, none⟩ = some (.int .i64 y.1.mem) ∧ W.cell? ⟨g, j * 8 + 5, none⟩ = some (.int .i64 y.1.since) ∧ W.cell? ⟨g, j * 8 + 6, none⟩ = some (.int .i64 y.1.til) ∧ W.cell? ⟨g, j * 8 + 7, none⟩ = some (.bool y.1.stop) ∧
  ReadsI W y.2.1 y.1.cores ∧ y.1.cores.length ≤ y.2.2
theorem ReadsM.below {W W' : World} {A : Option Addr} {l : List LeM} (h : ReadsM W A l) (hb : Below W.heap.size W W') : ReadsM W' A l := fun j r hr => by
  obtain ⟨g, rfl, h1, p0, p1, p2, p3, p4, p5, p6, p7, hi, hl⟩ := h j r hr
  have k : ∀ n v, W.cell? ⟨g, n, none⟩ = some v → W'.cell? ⟨g, n, none⟩ = some v := fun n v e => (hb.cell (p := ⟨g, n, none⟩) h1).trans e
  exact ⟨g, rfl, Nat.lt_of_lt_of_le h1 hb.size, k _ _ p0, k _ _ p1, k _ _ p2, k _ _ p3, k _ _ p4, k _ _ p5, k _ _ p6, k _ _ p7, hi.below hb, hl⟩
theorem own_readsM {W : World} {base n c b2 : Nat} {A : Option Addr} {l : List LeM} (h : W.ownsRow base tL 8 (.slice A n c) l.length (flatL l)) (hc : ∀ z ∈ l, OwnC b2 W z) : ReadsM W A l := fun j y hy => by
  have hj := (List.getElem?_eq_some_iff.1 hy).1
  obtain ⟨g, c2, hv⟩ := own_someL h (by omega)
  injection hv with h1 h2 h3
  subst h1
  obtain ⟨_, hg, _⟩ := own_block h (k := g) rfl
  subst h2
  subst h3
  have k : ∀ i, i < 8 → W.cell? ⟨g, j * 8 + i, none⟩ = (leCs y)[i]? := fun i hi => by rw [h.cellAt (j * 8 + i) (by omega)]; exact flatL_get l j i y hi hy
  have ho := hc y (List.mem_of_getElem? hy)
  refine ⟨g, rfl, hg, k 0 (by omega), k 1 (by omega), k 2 (by omega), k 3 (by omega), k 4 (by omega), k 5 (by omega), k 6 (by omega), k 7 (by omega), ho.reads, ?_⟩
  rcases ho.2 with ⟨e, h0⟩ | ⟨g2, cap, cur, e, _, _, hcap, _⟩
  · simp at e
    omega
  · injection e with e1 e2 e3
    omega
set_option maxRecDepth 100000 in
set_option maxHeartbeats 8000000 in
theorem sameLeases_calls (l m : List LeM) (A A2 : Option Addr) (c c2 : Nat) (W : World) (hr : ReadsM W A l) (hr2 : ReadsM W A2 m) (he : l.map (·.1) = m.map (·.1)) (hl : l.length ≤ 100000) (hcl : ∀ y ∈ l, y.1.cores.length ≤ 100000) :
    Calls Try.prog 36 #[.slice A l.length c, .slice A2 m.length c2] W fun e W' => e = .returned (.bool true) ∧ Below W.heap.size W W' := by
  have hlm : m.length = l.length := by have := congrArg List.length he; simpa using this.symm
  rw [hlm]
  have hr' := Lib.hid hr
  have hr2' := Lib.hid hr2
  have he' := Lib.hid he
  have hcl' := Lib.hid hcl
  have hlm' := Lib.hid hlm
  clear hr hr2 he hcl hlm
  go_enter Try.func36, Try.ntmps36
  go_wp2
  go_loopw [13] (fun iv wr => ∃ (i : Nat), iv = .int .i64 (i : Int) ∧ i ≤ l.length ∧ Below W.heap.size W wr)
    (fun iv _ => l.length - (intOf iv).toNat)
  case atStart => exact ⟨0, rfl, Nat.zero_le _, Below.refl _ _⟩
  case round =>
    obtain ⟨i, rfl, hi, hbel⟩ := hrel
    by_cases hlt : i < l.length
    · obtain ⟨y, hy⟩ : ∃ y, l[i]? = some y := ⟨l[i], List.getElem?_eq_getElem hlt⟩
      obtain ⟨z, hz⟩ : ∃ z, m[i]? = some z := ⟨m[i]'(by rw [hlm'.out]; exact hlt), List.getElem?_eq_getElem _⟩
      have hyz : y.1 = z.1 := by
        have h1 := congrArg (fun q => q[i]?) he'.out
        simp only [List.getElem?_map, hy, hz, Option.map_some] at h1
        exact Option.some.inj h1
      obtain ⟨g1, rfl, _, p0, p1, p2, p3, p4, p5, p6, p7, hi1, hl1⟩ := (hr'.out.below hbel) i y hy
      obtain ⟨g2, rfl, _, q0, q1, q2, q3, q4, q5, q6, q7, hi2, hl2⟩ := (hr2'.out.below hbel) i z hz
      have hC := Lib.hid (fun w (hb : Below wr.heap.size wr w) => sameLease_calls y z w hyz (hi1.below hb) (hi2.below hb) hl1 hl2 (hcl'.out y (List.mem_of_getElem? hy)))
      have hbel' := Lib.hid hbel
      clear hbel hy hz hyz hi1 hi2 hl1 hl2
      go_wp2
      refine start_ (n := 10) (S := fun w' => w'.cell? ⟨g1, i * 8, none⟩ = some (.int .i64 y.1.task) ∧ w'.cell? ⟨g1, i * 8 + 1, none⟩ = some (.int .i64 y.1.queue) ∧ w'.cell? ⟨g1, i * 8 + 2, none⟩ = some (.int .i64 y.1.node) ∧ w'.cell? ⟨g1, i * 8 + 3, none⟩ = some (.slice y.2.1 y.1.cores.length y.2.2) ∧ w'.cell? ⟨g1, i * 8 + 4, none⟩ = some (.int .i64 y.1.mem) ∧ w'.cell? ⟨g1, i * 8 + 5, none⟩ = some (.int .i64 y.1.since) ∧ w'.cell? ⟨g1, i * 8 + 6, none⟩ = some (.int .i64 y.1.til) ∧ w'.cell? ⟨g1, i * 8 + 7, none⟩ = some (.bool y.1.stop) ∧ w'.cell? ⟨g2, i * 8, none⟩ = some (.int .i64 z.1.task) ∧ w'.cell? ⟨g2, i * 8 + 1, none⟩ = some (.int .i64 z.1.queue) ∧ w'.cell? ⟨g2, i * 8 + 2, none⟩ = some (.int .i64 z.1.node) ∧ w'.cell? ⟨g2, i * 8 + 3, none⟩ = some (.slice z.2.1 z.1.cores.length z.2.2) ∧ w'.cell? ⟨g2, i * 8 + 4, none⟩ = some (.int .i64 z.1.mem) ∧ w'.cell? ⟨g2, i * 8 + 5, none⟩ = some (.int .i64 z.1.since) ∧ w'.cell? ⟨g2, i * 8 + 6, none⟩ = some (.int .i64 z.1.til) ∧ w'.cell? ⟨g2, i * 8 + 7, none⟩ = some (.bool z.1.stop)) (ds := [8]) #[false, false, false, false, false, false, false, false, false, false] (by kernel_rfl) rfl rfl ⟨p0, p1, p2, p3, p4, p5, p6, p7, q0, q1, q2, q3, q4, q5, q6, q7⟩ (fun hHeld => ?_)
      refine pure_ (i := 0) (N := some 16) (v := ?_) (a' := ?_) #[true, false, false, false, false, false, false, false, false, false] rfl rfl (by kernel_rfl) (fun _ _ _ h => h) (Or.inl ⟨by rfl, ?_⟩) ?_ ?_
      rotate_left
      · intro w'
        go_simp
        with_reducible rfl
      rotate_left
      · simp only [Act.put, List.setIfInBounds_toArray, List.set_cons_zero, List.set_cons_succ, i64_w, i32_w]
        rfl
      refine pure_ (i := 1) (N := some 17) (v := ?_) (a' := ?_) #[true, true, false, false, false, false, false, false, false, false] rfl rfl (by kernel_rfl) (fun _ _ _ h => h) (Or.inl ⟨by rfl, ?_⟩) ?_ ?_
      rotate_left
      · intro w'
        go_simp
        with_reducible rfl
      rotate_left
      · simp only [Act.put, List.setIfInBounds_toArray, List.set_cons_zero, List.set_cons_succ, i64_w, i32_w]
        rfl
      refine pure_ (i := 2) (N := some 18) (v := ?_) (a' := ?_) #[true, true, true, false, false, false, false, false, false, false] rfl rfl (by kernel_rfl) (fun _ _ _ h => h) (Or.inl ⟨by rfl, ?_⟩) ?_ ?_
      rotate_left
      · intro w'
        go_simp
        with_reducible rfl
      rotate_left
      · simp only [Act.put, List.setIfInBounds_toArray, List.set_cons_zero, List.set_cons_succ, i64_w, i32_w]
        rfl
      refine take_ (i := 3) (N := some 19) (v := ?_) (a' := ?_) #[true, true, true, true, false, false, false, false, false, false] rfl rfl (by kernel_rfl) (fun _ _ _ h => h) (Or.inl ⟨by rfl, ?_⟩) hHeld ?_ ?_
      rotate_left
      · rintro w' ⟨s0, s1, s2, s3, s4, s5, s6, s7, s8, s9, s10, s11, s12, s13, s14, s15⟩
        go_simp
        with_reducible rfl
      rotate_left
      · simp only [Act.put, List.setIfInBounds_toArray, List.set_cons_zero, List.set_cons_succ, i64_w, i32_w]
        rfl
      refine pure_ (i := 4) (N := some 20) (v := ?_) (a' := ?_) #[true, true, true, true, true, false, false, false, false, false] rfl rfl (by kernel_rfl) (fun _ _ _ h => h) (Or.inl ⟨by rfl, ?_⟩) ?_ ?_
      rotate_left
      · intro w'
        go_simp
        with_reducible rfl
      rotate_left
      · simp only [Act.put, List.setIfInBounds_toArray, List.set_cons_zero, List.set_cons_succ, i64_w, i32_w]
        rfl
      refine pure_ (i := 5) (N := some 21) (v := ?_) (a' := ?_) #[true, true, true, true, true, true, false, false, false, false] rfl rfl (by kernel_rfl) (fun _ _ _ h => h) (Or.inl ⟨by rfl, ?_⟩) ?_ ?_
      rotate_left
      · intro w'
        go_simp
        with_reducible rfl
      rotate_left
      · simp only [Act.put, List.setIfInBounds_toArray, List.set_cons_zero, List.set_cons_succ, i64_w, i32_w]
        rfl
      refine pure_ (i := 6) (N := some 22) (v := ?_) (a' := ?_) #[true, true, true, true, true, true, true, false, false, false] rfl rfl (by kernel_rfl) (fun _ _ _ h => h) (Or.inl ⟨by rfl, ?_⟩) ?_ ?_
      rotate_left
      · intro w'
        go_simp
        with_reducible rfl
      rotate_left
      · simp only [Act.put, List.setIfInBounds_toArray, List.set_cons_zero, List.set_cons_succ, i64_w, i32_w]
        rfl
      refine take_ (i := 7) (N := some 23) (v := ?_) (a' := ?_) #[true, true, true, true, true, true, true, true, false, false] rfl rfl (by kernel_rfl) (fun _ _ _ h => h) (Or.inl ⟨by rfl, ?_⟩) hHeld ?_ ?_
      rotate_left
      · rintro w' ⟨s0, s1, s2, s3, s4, s5, s6, s7, s8, s9, s10, s11, s12, s13, s14, s15⟩
        go_simp
        with_reducible rfl
      rotate_left
      · simp only [Act.put, List.setIfInBounds_toArray, List.set_cons_zero, List.set_cons_succ, i64_w, i32_w]
        rfl
      refine last_ (i := 8) (N := some 24) #[true, true, true, true, true, true, true, true, true, false] rfl rfl (by kernel_rfl) (by decide) (fun K hK => ?_)
      refine goes_ Try.func61 (by kernel_rfl) rfl #[leV2 y, leV2 z] (by rfl) rfl rfl (by (try simp only [List.map_toArray, List.map_cons, List.map_nil]); first | done | rfl) ?_
      with_reducible refine (hC.out _ ((Below.refl wr.heap.size wr).drew)).mono ?_
      rintro e w5 ⟨rfl, b5⟩
      refine ⟨_, rfl, ?_⟩
      refine hK.out _ _ ?_
      clear hK K
      refine norm_ (a' := ?_) ?_ ?_
      rotate_left
      · show Act.put _ (some 24) _ = _
        simp only [Act.put, List.setIfInBounds_toArray, List.set_cons_zero, List.set_cons_succ, i64_w, i32_w]
        rfl
      refine pure_ (i := 9) (N := some 25) (v := ?_) (a' := ?_) #[true, true, true, true, true, true, true, true, true, true] rfl rfl (by kernel_rfl) (fun _ _ _ h => h) (Or.inl ⟨by rfl, ?_⟩) ?_ ?_
      rotate_left
      · intro w'
        go_simp
        with_reducible rfl
      rotate_left
      · simp only [Act.put, List.setIfInBounds_toArray, List.set_cons_zero, List.set_cons_succ, i64_w, i32_w]
        rfl
      refine done_ (by kernel_rfl) ?_
      have b7 := Lib.hid (hbel'.out.trans (below_le (show Below wr.heap.size wr w5 from ⟨b5.os, b5.tape, b5.output, b5.size, b5.block⟩) hbel'.out.size))
      clear b5
      go_wp2
      go_roundw
      case rel => exact ⟨i + 1, by go_num, by omega, b7.out⟩
      case measure => simp [intOf]; omega
    · have hi' : i = l.length := by omega
      subst hi'
      have hbel' := Lib.hid hbel
      clear hbel
      go_wp2
      go_ret
      exact ⟨rfl, hbel'.out⟩
end Go.Proofs.Ytkcmmghhghgdpaa.Agt
end
section
namespace Go.Proofs.Ytkcmmghhghgdpaa.Open
open Go.RowKit Go.Proofs.YtkcmmghhghgdpaaW.PrintWords Go.Proofs.Ytkcmmghhghgdpaa.Agt
set_option linter.unusedVariables false
/-- A call of an agent. -/
structure AOp where
  kind : Int
  n : Int
  m : Int
  dt : Int
  leases : List Ls
  tasks : List Ts
abbrev kInts : Kd (List Int) := Kd.slice 3 (Kd.int .i64)
abbrev kLs : Kd Ls := Kd.iso (Kd.pair (Kd.int .i64) (Kd.pair (Kd.int .i64) (Kd.pair (Kd.int .i64) (Kd.pair kInts (Kd.pair (Kd.int .i64) (Kd.pair (Kd.int .i64) (Kd.pair (Kd.int .i64) Kd.bool))))))) fun x : Ls => (x.task, x.queue, x.node, x.cores, x.mem, x.since, x.til, x.stop)
abbrev kTs : Kd Ts := Kd.iso (Kd.pair (Kd.int .i64) (Kd.pair (Kd.int .i64) (Kd.pair (Kd.pair (Kd.int .i64) (Kd.int .i64)) (Kd.pair (Kd.int .i64) (Kd.pair kInts (Kd.int .i64)))))) fun x : Ts => (x.id, x.queue, (x.cpu, x.mem), x.work, x.tk, x.state)
abbrev kAOp : Kd AOp := Kd.iso (Kd.pair (Kd.int .i64) (Kd.pair (Kd.int .i64) (Kd.pair (Kd.int .i64) (Kd.pair (Kd.int .i64) (Kd.pair (Kd.slice 81 kLs) (Kd.slice 85 kTs)))))) fun x : AOp => (x.kind, x.n, x.m, x.dt, x.leases, x.tasks)
abbrev kNd : Kd (Int × Int × Int × Int × Int) := Kd.pair (Kd.int .i64) (Kd.pair (Kd.int .i64) (Kd.pair (Kd.int .i64) (Kd.pair (Kd.int .i64) (Kd.int .i64))))
def okInts (l : List Int) : Prop := l.length ≤ maxLen ∧ ∀ a ∈ l, (Lit.int .i64 a).wf = true
def okLs (x : Ls) : Prop := wf64 x.task ∧ wf64 x.queue ∧ wf64 x.node ∧ okInts x.cores ∧ wf64 x.mem ∧ wf64 x.since ∧ wf64 x.til ∧ True
def okTs (x : Ts) : Prop := wf64 x.id ∧ wf64 x.queue ∧ (wf64 x.cpu ∧ wf64 x.mem) ∧ wf64 x.work ∧ okInts x.tk ∧ wf64 x.state
def okAOp (x : AOp) : Prop := wf64 x.kind ∧ wf64 x.n ∧ wf64 x.m ∧ wf64 x.dt ∧ (x.leases.length ≤ maxLen ∧ ∀ a ∈ x.leases, okLs a) ∧ (x.tasks.length ≤ maxLen ∧ ∀ a ∈ x.tasks, okTs a)
def okNd (x : Int × Int × Int × Int × Int) : Prop := wf64 x.1 ∧ wf64 x.2.1 ∧ wf64 x.2.2.1 ∧ wf64 x.2.2.2.1 ∧ wf64 x.2.2.2.2
theorem Opens.none {α : Type} {P : Program} {T : TypeId} {k : Kd α} {good : α → Prop} {b : α → Nat} (h : Opens P T k good b) : Opens P T k good (fun _ => 0) := by
  intro H enc W fuel cs x hx
  obtain ⟨a, h1, h2, h3⟩ := h H enc W fuel cs x hx
  exact ⟨a, h1, h2, Nat.zero_le _⟩
set_option maxRecDepth 100000 in
theorem intsA : Opens Try.prog 22 kInts okInts (fun _ => 0) := Opens.none ints
set_option maxRecDepth 100000 in
theorem vecA : Opens Try.prog 83 (Kd.pair (Kd.int .i64) (Kd.int .i64)) (fun x => wf64 x.1 ∧ wf64 x.2) (fun _ => 0) :=
  Opens.none (Opens.struct (ts := [2, 2]) Try.underlying83 (by kernel_rfl) (by kernel_rfl) (by kernel_rfl) (OpensFs.cons (Opens.int Try.underlying2) (OpensFs.one (Opens.int Try.underlying2))))
set_option maxRecDepth 100000 in
theorem taskA : Opens Try.prog 85 kTs okTs (fun _ => 0) :=
  Opens.none (Opens.iso (fun x : Ts => (x.id, x.queue, (x.cpu, x.mem), x.work, x.tk, x.state)) (fun y => ⟨y.1, y.2.1, y.2.2.1.1, y.2.2.1.2, y.2.2.2.1, y.2.2.2.2.1, y.2.2.2.2.2⟩) (fun _ => rfl)
    (Opens.struct (ts := [3, 3, 83, 3, 22, 3]) Try.underlying85 (by kernel_rfl) (by kernel_rfl) (by kernel_rfl)
      (OpensFs.cons (Opens.int Try.underlying3) (OpensFs.cons (Opens.int Try.underlying3) (OpensFs.cons vecA (OpensFs.cons (Opens.int Try.underlying3) (OpensFs.cons intsA (OpensFs.one (Opens.int Try.underlying3)))))))))
set_option maxRecDepth 100000 in
theorem tasksA : Opens Try.prog 56 (Kd.slice 85 kTs) (fun l => l.length ≤ maxLen ∧ ∀ a ∈ l, okTs a) (fun _ => 0) := Opens.none (Opens.slice Try.underlying56 (by kernel_rfl) taskA)
set_option maxRecDepth 100000 in
theorem anode : Opens Try.prog 53 kNd okNd (fun _ => 0) :=
  Opens.none (Opens.struct (ts := [3, 3, 2, 3, 3]) Try.underlying53 (by kernel_rfl) (by kernel_rfl) (by kernel_rfl)
      (OpensFs.cons (Opens.int Try.underlying3) (OpensFs.cons (Opens.int Try.underlying3) (OpensFs.cons (Opens.int Try.underlying2) (OpensFs.cons (Opens.int Try.underlying3) (OpensFs.one (Opens.int Try.underlying3)))))))
end Go.Proofs.Ytkcmmghhghgdpaa.Open
namespace Go.Proofs.Ytkcmmghhghgdpaa.Agt
open Go.RowKit Go.Proofs.YtkcmmghhghgdpaaW.PrintWords Go.Proofs.Ytkcmmghhghgdpaa.Open Go.Proofs.Ytkcmmghhghgdpaa.Str
/-- A list that is read lies below the end of memory. -/
theorem readsF_C {W : World} {A : Option Addr} {n : Nat} {xs : List Int} (h : (Kd.int .i64).C W A n xs) : ReadsF (fun k => W.heap.size ≤ k) W A xs := by
  have key : ∀ ad, A = some ad → 0 < xs.length → ad.block < W.heap.size := fun ad hA hl => by
    have hn : xs.length = n := h.1
    obtain ⟨ad', hA', hc⟩ := h.2.2 (by omega)
    rw [hA] at hA'
    obtain rfl := Option.some.inj hA'
    obtain ⟨c, h1, h2, h3⟩ := hc 0 (xs[0]) (List.getElem?_eq_getElem hl)
    obtain rfl : c = [.int .i64 xs[0]] := h2
    have := h3 0 _ rfl
    have := World.block_lt_of_cell? W _ this
    rwa [add_block] at this
  refine ⟨fun j x hx => ?_, fun ad hA hl hf => by have := key ad hA hl; omega⟩
  have hl := (List.getElem?_eq_some_iff.1 hx).1
  have hn : xs.length = n := h.1
  obtain ⟨ad, rfl, hc⟩ := h.2.2 (by omega)
  obtain ⟨c, h1, h2, h3⟩ := hc j x hx
  obtain rfl : c = [.int .i64 x] := h2
  have e : W.cell? (ad.add (j * 1 + 0)) = some (.int .i64 x) := h3 0 _ rfl
  rw [Nat.mul_one, Nat.add_zero] at e
  exact ⟨ad, rfl, key ad rfl (by omega), e⟩
theorem readsL_C {W : World} {A : Option Addr} {n : Nat} {xs : List Ls} (h : kLs.C W A n xs) (hg : ∀ x ∈ xs, okLs x) : ReadsL (fun k => W.heap.size ≤ k) W A xs := fun j x hx => by
  have hl := (List.getElem?_eq_some_iff.1 hx).1
  have hn : xs.length = n := h.1
  obtain ⟨ad, rfl, hc⟩ := h.2.2 (by omega)
  obtain ⟨c, h1, h2, h3⟩ := hc j x hx
  obtain ⟨g1, g2, g3, ⟨g4, _⟩, _⟩ := hg x (List.mem_of_getElem? hx)
  obtain ⟨_, _, rfl, rfl, _, _, rfl, rfl, _, _, rfl, rfl, _, _, rfl, ⟨A', c', rfl, hlc, hC⟩, _, _, rfl, rfl, _, _, rfl, rfl, _, _, rfl, rfl, rfl⟩ := h2
  have h3' : ∀ i u, [Value.int .i64 x.task, .int .i64 x.queue, .int .i64 x.node, .slice A' x.cores.length c', .int .i64 x.mem, .int .i64 x.since, .int .i64 x.til, .bool x.stop][i]? = some u → W.cell? (ad.add (j * 8 + i)) = some u := h3
  have c0 := h3' 0 _ rfl
  rw [Nat.add_zero] at c0
  have hb : ad.block < W.heap.size := by have := World.block_lt_of_cell? W _ c0; rwa [add_block] at this
  exact ⟨ad, A', c', rfl, hb, c0, by rw [← add_field _ _ 1 (by omega)]; exact h3' 1 _ rfl, by rw [← add_field _ _ 2 (by omega)]; exact h3' 2 _ rfl, by rw [← add_field _ _ 3 (by omega)]; exact h3' 3 _ rfl, by rw [← add_field _ _ 4 (by omega)]; exact h3' 4 _ rfl,
    by rw [← add_field _ _ 5 (by omega)]; exact h3' 5 _ rfl, by rw [← add_field _ _ 6 (by omega)]; exact h3' 6 _ rfl, by rw [← add_field _ _ 7 (by omega)]; exact h3' 7 _ rfl, readsF_C hC, hlc, g1, g4, by omega⟩
theorem readsT_C {W : World} {A : Option Addr} {n : Nat} {xs : List Ts} (h : kTs.C W A n xs) (hg : ∀ x ∈ xs, okTs x) : ReadsT (fun k => W.heap.size ≤ k) W A xs := fun j x hx => by
  have hl := (List.getElem?_eq_some_iff.1 hx).1
  have hn : xs.length = n := h.1
  obtain ⟨ad, rfl, hc⟩ := h.2.2 (by omega)
  obtain ⟨c, h1, h2, h3⟩ := hc j x hx
  obtain ⟨g1, g2, _, _, ⟨g4, _⟩, _⟩ := hg x (List.mem_of_getElem? hx)
  obtain ⟨_, _, rfl, rfl, _, _, rfl, rfl, _, _, rfl, ⟨_, _, rfl, rfl, rfl⟩, _, _, rfl, rfl, _, _, rfl, ⟨A', c', rfl, hlc, hC⟩, rfl⟩ := h2
  have h3' : ∀ i u, [Value.int .i64 x.id, .int .i64 x.queue, .int .i64 x.cpu, .int .i64 x.mem, .int .i64 x.work, .slice A' x.tk.length c', .int .i64 x.state][i]? = some u → W.cell? (ad.add (j * 7 + i)) = some u := h3
  have c0 := h3' 0 _ rfl
  rw [Nat.add_zero] at c0
  have hb : ad.block < W.heap.size := by have := World.block_lt_of_cell? W _ c0; rwa [add_block] at this
  exact ⟨ad, A', c', rfl, hb, c0, by rw [← add_field _ _ 1 (by omega)]; exact h3' 1 _ rfl, by rw [← add_field _ _ 2 (by omega)]; exact h3' 2 _ rfl, by rw [← add_field _ _ 3 (by omega)]; exact h3' 3 _ rfl, by rw [← add_field _ _ 4 (by omega)]; exact h3' 4 _ rfl,
    by rw [← add_field _ _ 5 (by omega)]; exact h3' 5 _ rfl, by rw [← add_field _ _ 6 (by omega)]; exact h3' 6 _ rfl, readsF_C hC, hlc, g1, g4, by omega⟩
/-- Calls of an agent that are read. -/
def ReadsA (F : Nat → Prop) (W : World) (A : Option Addr) (ops : List AOp) : Prop := ∀ j x, ops[j]? = some x → ∃ ad Al cl At ct, A = some ad ∧ ad.block < W.heap.size ∧ ¬ F ad.block ∧ W.cell? (ad.add (j * 6)) = some (.int .i64 x.kind) ∧
  W.cell? ⟨(ad.add (j * 6)).block, (ad.add (j * 6)).off + 1, none⟩ = some (.int .i64 x.n) ∧ W.cell? ⟨(ad.add (j * 6)).block, (ad.add (j * 6)).off + 2, none⟩ = some (.int .i64 x.m) ∧
  W.cell? ⟨(ad.add (j * 6)).block, (ad.add (j * 6)).off + 3, none⟩ = some (.int .i64 x.dt) ∧ W.cell? ⟨(ad.add (j * 6)).block, (ad.add (j * 6)).off + 4, none⟩ = some (.slice Al x.leases.length cl) ∧
  W.cell? ⟨(ad.add (j * 6)).block, (ad.add (j * 6)).off + 5, none⟩ = some (.slice At x.tasks.length ct) ∧ ReadsL F W Al x.leases ∧ ReadsT F W At x.tasks ∧ x.leases.length ≤ 9223372036854775807 ∧ x.tasks.length ≤ 9223372036854775807
theorem readsA_C {W : World} {A : Option Addr} {n : Nat} {xs : List AOp} (h : kAOp.C W A n xs) (hg : ∀ x ∈ xs, okAOp x) : ReadsA (fun k => W.heap.size ≤ k) W A xs := fun j x hx => by
  have hl := (List.getElem?_eq_some_iff.1 hx).1
  have hn : xs.length = n := h.1
  obtain ⟨ad, rfl, hc⟩ := h.2.2 (by omega)
  obtain ⟨c, h1, h2, h3⟩ := hc j x hx
  obtain ⟨_, _, _, _, ⟨g1, g2⟩, ⟨g3, g4⟩⟩ := hg x (List.mem_of_getElem? hx)
  obtain ⟨_, _, rfl, rfl, _, _, rfl, rfl, _, _, rfl, rfl, _, _, rfl, rfl, _, _, rfl, ⟨A1, c1, rfl, hl1, hC1⟩, ⟨A2, c2, rfl, hl2, hC2⟩⟩ := h2
  have h3' : ∀ i u, [Value.int .i64 x.kind, .int .i64 x.n, .int .i64 x.m, .int .i64 x.dt, .slice A1 x.leases.length c1, .slice A2 x.tasks.length c2][i]? = some u → W.cell? (ad.add (j * 6 + i)) = some u := h3
  have c0 := h3' 0 _ rfl
  rw [Nat.add_zero] at c0
  have hb : ad.block < W.heap.size := by have := World.block_lt_of_cell? W _ c0; rwa [add_block] at this
  exact ⟨ad, A1, c1, A2, c2, rfl, hb, by omega, c0, by rw [← add_field _ _ 1 (by omega)]; exact h3' 1 _ rfl, by rw [← add_field _ _ 2 (by omega)]; exact h3' 2 _ rfl, by rw [← add_field _ _ 3 (by omega)]; exact h3' 3 _ rfl, by rw [← add_field _ _ 4 (by omega)]; exact h3' 4 _ rfl,
    by rw [← add_field _ _ 5 (by omega)]; exact h3' 5 _ rfl, readsL_C hC1 g2, readsT_C hC2 g4, g1, g3⟩
theorem ReadsA.keep {B : Nat} {W W' : World} {A : Option Addr} {xs : List AOp} (h : ReadsA (fun k => B ≤ k) W A xs) (hb : Below B W W') : ReadsA (fun k => B ≤ k) W' A xs := fun j x hx => by
  obtain ⟨ad, Al, cl, At, ct, rfl, h1, hn, c0, c1, c2, c3, c4, c5, hL, hT, l1, l2⟩ := h j x hx
  have e : W'.heap[(ad.add (j * 6)).block]? = W.heap[(ad.add (j * 6)).block]? := by rw [add_block]; exact hb.block _ (by omega)
  have k : ∀ i v, W.cell? ⟨(ad.add (j * 6)).block, (ad.add (j * 6)).off + i, none⟩ = some v → W'.cell? ⟨(ad.add (j * 6)).block, (ad.add (j * 6)).off + i, none⟩ = some v := fun i v e2 => (World.cell?_of_block (a := ⟨(ad.add (j * 6)).block, _, none⟩) e).trans e2
  exact ⟨ad, Al, cl, At, ct, rfl, Nat.lt_of_lt_of_le h1 hb.size, hn, (World.cell?_of_block e).trans c0, k 1 _ c1, k 2 _ c2, k 3 _ c3, k 4 _ c4, k 5 _ c5, hL.keep hb, hT.keep hb, l1, l2⟩
end Go.Proofs.Ytkcmmghhghgdpaa.Agt
end
section
namespace Go.Proofs.Ytkcmmghhghgdpaa.Agt
open Go.RowKit Go.Shelf Go.Maps Go.Proofs.Ytkcmmghhghgdpaa.Iter Go.Proofs.Ytkcmmghhghgdpaa.Str Go.Proofs.YtkcmmghhghgdpaaW.PrintWords Go.Proofs.YtkcmmghhghgdpaaW.PrintLast Go.Proofs.Ytkcmmghhghgdpaa.Open
set_option linter.unusedVariables false
set_option linter.unusedSimpArgs false
/-- An agent in memory; no block of Q is any of its. -/
def AgQ (a : Nat) (S : Ag) (Q : Nat → Prop) (W : World) : Prop := ∃ B vs vj js, AgM B a vs vj js S W ∧ B ≤ W.heap.size ∧ ∀ k, Foot a vs vj js k → ¬ Q k
/-- The blocks of Q stay. -/
abbrev KeepQ (Q : Nat → Prop) (W W' : World) : Prop := FrF (fun k => ¬ Q k) W W'
section
variable {a : Nat} {S : Ag} {Q Q' : Nat → Prop} {W W' W'' : World}
theorem AgQ.of {B : Nat} (h : AgE B a S W) (hB : B ≤ W.heap.size) : AgQ a S (fun k => k < B) W := by
  obtain ⟨vs, vj, js, h⟩ := h
  exact ⟨B, vs, vj, js, h, hB, fun k hk hq => by have := (h.foot k hk).1; omega⟩
theorem AgQ.ofNew {W0 : World} (h : AgE W0.heap.size a S W) (hb : Below W0.heap.size W0 W) : AgQ a S (fun k => k < W0.heap.size) W := AgQ.of h hb.size
theorem AgQ.e (h : AgQ a S Q W) : ∃ B, AgE B a S W := by
  obtain ⟨B, vs, vj, js, h, _⟩ := h
  exact ⟨B, vs, vj, js, h⟩
theorem AgQ.lt (h : AgQ a S Q W) : a < W.heap.size := by
  obtain ⟨B, h⟩ := h.e
  exact h.lt
theorem AgQ.more (h : AgQ a S Q W) (hb : Below W.heap.size W W') (hq : ∀ k, Q' k → Q k ∨ W.heap.size ≤ k) : AgQ a S Q' W' := by
  obtain ⟨B, vs, vj, js, h, hB, hn⟩ := h
  exact ⟨B, vs, vj, js, h.below hb, by have := hb.size; omega, fun k hk hk' => (hq k hk').elim (hn k hk) (fun h2 => by have := (h.foot k hk).2; omega)⟩
theorem AgQ.below (h : AgQ a S Q W) (hb : Below W.heap.size W W') : AgQ a S Q W' := h.more hb fun k hk => .inl hk
theorem AgQ.less (h : AgQ a S Q W) (hq : ∀ k, Q' k → Q k) : AgQ a S Q' W := h.more (Below.refl _ _) fun k hk => .inl (hq k hk)
theorem KeepQ.below {B : Nat} (h : KeepQ Q W W') (hq : ∀ k, k < B → Q k) (hB : B ≤ W.heap.size) : Below B W W' := ⟨h.os, h.tape, h.output, h.size, fun k hk => h.block k (by omega) (fun hn => hn (hq k hk))⟩
theorem KeepQ.blk {k : Nat} {t : TypeId} {cs : Array Value} (h : KeepQ Q W W') (hq : Q k) (hb : Blk W k t cs) : Blk W' k t cs := (h.block k hb.lt (fun hn => hn hq)).trans hb
theorem bootQ (n : Int) (h : AgQ a S Q W) : Calls Try.prog 28 #[ptr a, .int .i64 n] W fun e W' => e = .returned (.int .i64 (bootG S n).2) ∧ AgQ a (bootG S n).1 Q W' ∧ KeepQ Q W W' := by
  obtain ⟨B, vs, vj, js, h, hB, hn⟩ := h
  exact (boot_calls B a vs vj js S n W h).mono fun e W' ⟨h1, h2, h3⟩ => ⟨h1, ⟨B, vs, vj, js, h2, Nat.le_trans hB h3.size, hn⟩, ⟨h3.os, h3.tape, h3.output, h3.size, fun k hk hq => h3.block k hk (fun hf => hq (fun hQ => hn k hf hQ))⟩⟩
theorem haltQ (h : AgQ a S Q W) : Calls Try.prog 29 #[ptr a] W fun e W' => e = .returned (.int .i64 (haltG S).2) ∧ AgQ a (haltG S).1 Q W' ∧ KeepQ Q W W' := by
  obtain ⟨B, vs, vj, js, h, hB, hn⟩ := h
  exact (halt_calls B a vs vj js S W h).mono fun e W' ⟨h1, vs', vj', js', h2, h3, h4⟩ => ⟨h1, ⟨B, vs', vj', js', h2, Nat.le_trans hB h3.size, fun k hk => hn k (h4 k hk)⟩, ⟨h3.os, h3.tape, h3.output, h3.size, fun k hk hq => h3.block k hk (fun hf => hq (fun hQ => hn k hf hQ))⟩⟩
theorem passQ (dt : Int) (h : AgQ a S Q W) (hok : AgOk S) : Calls Try.prog 30 #[ptr a, .int .i64 dt] W fun e W' => e = .returned (.int .i64 (passG S dt).2) ∧ AgQ a (passG S dt).1 Q W' ∧ KeepQ Q W W' := by
  obtain ⟨B, vs, vj, js, h, hB, hn⟩ := h
  exact (pass_calls B a vs vj js S dt W h hok.clock.1 hok.clock.2).mono fun e W' ⟨h1, h2, h3⟩ => ⟨h1, ⟨B, vs, vj, js, h2, Nat.le_trans hB h3.size, hn⟩, ⟨h3.os, h3.tape, h3.output, h3.size, fun k hk hq => h3.block k hk (fun hf => hq (fun hQ => hn k hf hQ))⟩⟩
theorem beatQ (h : AgQ a S Q W) (hl : S.sent.length ≤ 100000) (hq : ∀ k, Q k → k < W.heap.size) : Calls Try.prog 31 #[ptr a] W fun e W' => e = .returned (.tuple #[.int .i64 (beatG S).2.1, .int .i64 (beatG S).2.2]) ∧ AgQ a (beatG S).1 Q W' ∧ KeepQ Q W W' := by
  obtain ⟨B, vs, vj, js, h, hB, hn⟩ := h
  exact (beat_calls B a vs vj js S W h hl hB).mono fun e W' ⟨h1, vs', h2, h3, h4⟩ => ⟨h1, ⟨B, vs', vj, js, h2, Nat.le_trans hB h3.size, fun k hk hQ => (h4 k hk).elim (fun hf => hn k hf hQ) (fun h5 => by have := hq k hQ; omega)⟩, ⟨h3.os, h3.tape, h3.output, h3.size, fun k hk hq => h3.block k hk (fun hf => hq (fun hQ => hn k hf hQ))⟩⟩
theorem replyQ (n m : Int) (A : Option Addr) (c0 : Nat) (xs : List Ls) (A2 : Option Addr) (c2 : Nat) (ts : List Ts) (h : AgQ a S Q W) (hok : AgOk S) (hsl : S.sent.length ≤ 100000) (hq : ∀ k, Q k → k < W.heap.size)
    (hL : ReadsL (fun k => ¬ Q k) W A xs) (hT : ReadsT (fun k => ¬ Q k) W A2 ts) (hxl : xs.length ≤ 9223372036854775807) (htl : ts.length ≤ 9223372036854775807) :
    Calls Try.prog 32 #[ptr a, .int .i64 n, .int .i64 m, .slice A xs.length c0, .slice A2 ts.length c2] W fun e W' => e = .returned (.int .i64 (replyG S n m xs ts).2) ∧ AgQ a (replyG S n m xs ts).1 Q W' ∧ KeepQ Q W W' := by
  obtain ⟨B, vs, vj, js, h, hB, hn⟩ := h
  refine (reply_calls B a vs vj js S n m A c0 xs A2 c2 ts W h hok hB (fun j x hx => ?_) (fun j x hx => ?_) hxl htl hsl).mono fun e W' ⟨h1, vj', js', h2, h3, h4⟩ => ⟨h1, ⟨B, vs, vj', js', h2, Nat.le_trans hB h3.size, fun k hk hQ => (h4 k hk).elim (fun hf => hn k hf hQ) (fun h5 => by have := hq k hQ; omega)⟩, ⟨h3.os, h3.tape, h3.output, h3.size, fun k hk hq => h3.block k hk (fun hf => hq (fun hQ => hn k hf hQ))⟩⟩
  · obtain ⟨ad, A', c, rfl, q1, q2, q3, q4, q5, q6, q7, q8, q9, hr, q10, q11, q12, hnn⟩ := hL j x hx
    exact ⟨ad, A', c, rfl, q1, q2, q3, q4, q5, q6, q7, q8, q9, hr.mono (fun k hk => hn k hk), q10, q11, q12, fun hk => hnn (hn _ hk)⟩
  · obtain ⟨ad, A', c, rfl, q1, q2, q3, q4, q5, q6, q7, q8, hr, q10, q11, q12, hnn⟩ := hT j x hx
    exact ⟨ad, A', c, rfl, q1, q2, q3, q4, q5, q6, q7, q8, hr.mono (fun k hk => hn k hk), q10, q11, q12, fun hk => hnn (hn _ hk)⟩
theorem quantQ (h : AgQ a S Q W) (hok : AgOk S) (hhad : ∀ j ∈ S.jobs, j.had < 9223372036854775807) : Calls Try.prog 38 #[ptr a] W fun e W' => ∃ u, e = .returned u ∧ W'.ownsRow W.heap.size tRan 2 u (quantG S).2.length (flatR (quantG S).2) ∧ AgQ a (quantG S).1 Q W' ∧ KeepQ Q W W' := by
  obtain ⟨B, vs, vj, js, h, hB, hn⟩ := h
  exact (Quantum_calls B a vs vj js S W h hok hhad).mono fun e W' ⟨u, h1, h2, h3, h4⟩ => ⟨u, h1, h2, ⟨B, vs, vj, js, h3, Nat.le_trans hB h4.size, hn⟩, ⟨h4.os, h4.tape, h4.output, h4.size, fun k hk hq => h4.block k hk (fun hf => hq (fun hQ => hn k hf hQ))⟩⟩
theorem liveQ (h : AgQ a S Q W) (hok : AgOk S) : Calls Try.prog 33 #[ptr a] W fun e W' => ∃ u, e = .returned u ∧ W'.ownsRow W.heap.size tRun 2 u (liveG S).length (flatR (liveG S)) ∧ Below W.heap.size W W' := by
  obtain ⟨B, h⟩ := h.e
  exact liveE h hok
theorem finQ (h : AgQ a S Q W) (hok : AgOk S) : Calls Try.prog 34 #[ptr a] W fun e W' => ∃ u, e = .returned u ∧ (∃ zs : List LeM, zs.map (·.1) = finG S ∧ W'.ownsRow W.heap.size tL 8 u zs.length (flatL zs) ∧ ∀ z ∈ zs, OwnC W.heap.size W' z) ∧ Below W.heap.size W W' := by
  obtain ⟨B, h⟩ := h.e
  exact finE h hok
theorem clockQ (h : AgQ a S Q W) : Calls Try.prog 37 #[ptr a] W fun e W' => e = .returned (.int .i64 S.clock) ∧ Below W.heap.size W W' := by
  obtain ⟨B, h⟩ := h.e
  exact clockE h
theorem incQ (h : AgQ a S Q W) : Calls Try.prog 43 #[ptr a] W fun e W' => e = .returned (.int .i64 S.inc) ∧ Below W.heap.size W W' := by
  obtain ⟨B, h⟩ := h.e
  exact incE h
end
theorem ReadsA.frF {F : Nat → Prop} {W W' : World} {A : Option Addr} {xs : List AOp} (h : ReadsA F W A xs) (hb : FrF F W W') : ReadsA F W' A xs := fun j x hx => by
  obtain ⟨ad, Al, cl, At, ct, rfl, h1, hn, c0, c1, c2, c3, c4, c5, hL, hT, l1, l2⟩ := h j x hx
  have e : W'.heap[(ad.add (j * 6)).block]? = W.heap[(ad.add (j * 6)).block]? := by rw [add_block]; exact hb.block _ h1 hn
  have k : ∀ i v, W.cell? ⟨(ad.add (j * 6)).block, (ad.add (j * 6)).off + i, none⟩ = some v → W'.cell? ⟨(ad.add (j * 6)).block, (ad.add (j * 6)).off + i, none⟩ = some v := fun i v e2 => (World.cell?_of_block (a := ⟨(ad.add (j * 6)).block, _, none⟩) e).trans e2
  exact ⟨ad, Al, cl, At, ct, rfl, Nat.lt_of_lt_of_le h1 hb.size, hn, (World.cell?_of_block e).trans c0, k 1 _ c1, k 2 _ c2, k 3 _ c3, k 4 _ c4, k 5 _ c5, hL.frF hb, hT.frF hb, l1, l2⟩
theorem ReadsL.mono {F F' : Nat → Prop} {W : World} {A : Option Addr} {xs : List Ls} (h : ReadsL F W A xs) (hF : ∀ k, F' k → F k) : ReadsL F' W A xs := fun j x hx => by
  obtain ⟨ad, A', c, rfl, q1, q2, q3, q4, q5, q6, q7, q8, q9, hr, q10, q11, q12, hn⟩ := h j x hx
  exact ⟨ad, A', c, rfl, q1, q2, q3, q4, q5, q6, q7, q8, q9, hr.mono hF, q10, q11, q12, fun hk => hn (hF _ hk)⟩
theorem ReadsT.mono {F F' : Nat → Prop} {W : World} {A : Option Addr} {xs : List Ts} (h : ReadsT F W A xs) (hF : ∀ k, F' k → F k) : ReadsT F' W A xs := fun j x hx => by
  obtain ⟨ad, A', c, rfl, q1, q2, q3, q4, q5, q6, q7, q8, hr, q10, q11, q12, hn⟩ := h j x hx
  exact ⟨ad, A', c, rfl, q1, q2, q3, q4, q5, q6, q7, q8, hr.mono hF, q10, q11, q12, fun hk => hn (hF _ hk)⟩
theorem ReadsA.mono {F F' : Nat → Prop} {W : World} {A : Option Addr} {xs : List AOp} (h : ReadsA F W A xs) (hF : ∀ k, F' k → F k) : ReadsA F' W A xs := fun j x hx => by
  obtain ⟨ad, Al, cl, At, ct, h0, h1, hn, c0, c1, c2, c3, c4, c5, hL, hT, l1, l2⟩ := h j x hx
  exact ⟨ad, Al, cl, At, ct, h0, h1, fun hk => hn (hF _ hk), c0, c1, c2, c3, c4, c5, hL.mono hF, hT.mono hF, l1, l2⟩
theorem newNo {nid nco nme nin nbe short : Int} {W W' : World} {e : Ending} (hok : ¬ okNew nid nco nme short) (h : (okNew nid nco nme short ∧ ∃ a, e = .returned (.tuple #[ptr a, .int .i64 0]) ∧ AgE W.heap.size a (newG nid nco nme nin nbe short) W' ∧ Below W.heap.size W W') ∨
      (¬ okNew nid nco nme short ∧ e = .returned (.tuple #[.pointer none, .int .i64 1]) ∧ Below W.heap.size W W')) : e = .returned (.tuple #[.pointer none, .int .i64 1]) ∧ Below W.heap.size W W' := by
  rcases h with ⟨h, _⟩ | ⟨_, h⟩
  · exact absurd h hok
  · exact h
/-- The arguments, taken apart. -/
theorem node_cells {W : World} {cs : Array Value} {x : Int × Int × Int × Int × Int} (h : kNd.K W x cs.toList) : cs = #[.int .i64 x.1, .int .i64 x.2.1, .int .i64 x.2.2.1, .int .i64 x.2.2.2.1, .int .i64 x.2.2.2.2] := by
  obtain ⟨_, _, e, rfl, _, _, rfl, rfl, _, _, rfl, rfl, _, _, rfl, rfl, rfl⟩ := h
  exact Array.toList_inj.1 e
end Go.Proofs.Ytkcmmghhghgdpaa.Agt
end
section
namespace Go.Proofs.Ytkcmmghhghgdpaa.Agt
open Go.RowKit Go.Shelf Go.Maps Go.Proofs.Ytkcmmghhghgdpaa.Iter Go.Proofs.Ytkcmmghhghgdpaa.Str Go.Proofs.YtkcmmghhghgdpaaW.PrintWords Go.Proofs.YtkcmmghhghgdpaaW.PrintLast Go.Proofs.Ytkcmmghhghgdpaa.Open
set_option linter.unusedVariables false
set_option linter.unusedSimpArgs false
section
variable {a : Nat} {S S' : Ag} {Q : Nat → Prop} {W W' : World} {cd bn : Int}
theorem bootC (n : Int) (e1 : bootG S n = (S', cd)) (h : AgQ a S Q W) : Calls Try.prog 28 #[ptr a, .int .i64 n] W fun e W' => e = .returned (.int .i64 cd) ∧ AgQ a S' Q W' ∧ KeepQ Q W W' := by
  have := bootQ n h
  rw [e1] at this
  exact this
theorem haltC (e1 : haltG S = (S', cd)) (h : AgQ a S Q W) : Calls Try.prog 29 #[ptr a] W fun e W' => e = .returned (.int .i64 cd) ∧ AgQ a S' Q W' ∧ KeepQ Q W W' := by
  have := haltQ h
  rw [e1] at this
  exact this
theorem passC (dt : Int) (e1 : passG S dt = (S', cd)) (hok : AgOk S) (h : AgQ a S Q W) : Calls Try.prog 30 #[ptr a, .int .i64 dt] W fun e W' => e = .returned (.int .i64 cd) ∧ AgQ a S' Q W' ∧ KeepQ Q W W' := by
  have := passQ dt h hok
  rw [e1] at this
  exact this
theorem beatC (e1 : beatG S = (S', bn, cd)) (hl : S.sent.length ≤ 100000) (hq : ∀ k, Q k → k < W.heap.size) (h : AgQ a S Q W) : Calls Try.prog 31 #[ptr a] W fun e W' => e = .returned (.tuple #[.int .i64 bn, .int .i64 cd]) ∧ AgQ a S' Q W' ∧ KeepQ Q W W' := by
  have := beatQ h hl hq
  rw [e1] at this
  exact this
theorem replyC (n m : Int) {A : Option Addr} {c0 : Nat} {xs : List Ls} {A2 : Option Addr} {c2 : Nat} {ts : List Ts} (e1 : replyG S n m xs ts = (S', cd)) (hok : AgOk S) (hsl : S.sent.length ≤ 100000) (hq : ∀ k, Q k → k < W.heap.size)
    (hL : ReadsL (fun k => ¬ Q k) W A xs) (hT : ReadsT (fun k => ¬ Q k) W A2 ts) (hxl : xs.length ≤ 9223372036854775807) (htl : ts.length ≤ 9223372036854775807) (h : AgQ a S Q W) :
    Calls Try.prog 32 #[ptr a, .int .i64 n, .int .i64 m, .slice A xs.length c0, .slice A2 ts.length c2] W fun e W' => e = .returned (.int .i64 cd) ∧ AgQ a S' Q W' ∧ KeepQ Q W W' := by
  have := replyQ n m A c0 xs A2 c2 ts h hok hsl hq hL hT hxl htl
  rw [e1] at this
  exact this
end
/-- What AgentLate keeps. -/
structure LInv (S : Ag) (last inc count : Int) (N : Nat) : Prop where
  w : AgW S N
  inc : inc = S.inc
  last0 : 0 ≤ last
  count0 : 0 ≤ count
  countN : count ≤ N
  rep0 : 0 ≤ S.replied
  on : S.runs = true → count = S.sent.length ∧ last = S.replied
  off : S.runs = false → S.sent = [] ∧ S.replied = 0
section
variable {S S' : Ag} {last inc count : Int} {N : Nat}
theorem LInv.new {nid nco nme nin nbe short : Int} (h : okNew nid nco nme short) : LInv (newG nid nco nme nin nbe short) 0 0 0 0 :=
  ⟨AgW.new h, rfl, Int.le_refl _, Int.le_refl _, Int.le_refl _, Int.le_refl _, fun h => by simp [newG] at h, fun _ => ⟨rfl, rfl⟩⟩
theorem LInv.mono {M : Nat} (h : LInv S last inc count N) (hm : N ≤ M) : LInv S last inc count M := ⟨h.w.mono hm, h.inc, h.last0, h.count0, by have := h.countN; omega, h.rep0, h.on, h.off⟩
theorem LInv.halt {cd : Int} (h : LInv S last inc count N) (e : haltG S = (S', cd)) : LInv S' last inc count N := by
  have hw := h.w.halt
  rw [e] at hw
  unfold haltG at e
  split at e
  · injection e with e _
    subst e
    exact ⟨hw, h.inc, h.last0, h.count0, h.countN, Int.le_refl _, fun h => (by cases h), fun _ => ⟨rfl, rfl⟩⟩
  · injection e with e _
    exact e ▸ h
theorem LInv.pass {dt cd : Int} (h : LInv S last inc count N) (e : passG S dt = (S', cd)) : LInv S' last inc count N := by
  have hw := h.w.pass dt
  rw [e] at hw
  unfold passG at e
  split at e
  · injection e with e _
    exact e ▸ h
  · split at e
    · injection e with e _
      exact e ▸ h
    · injection e with e _
      subst e
      exact ⟨hw, h.inc, h.last0, h.count0, h.countN, h.rep0, h.on, h.off⟩
end
/-- Memory in a law's loop: the agent, and all below B as it was in w2. -/
structure InL (B a : Nat) (S : Ag) (w2 wr : World) : Prop where
  ag : AgQ a S (fun k => k < B) wr
  bel : Below B w2 wr
  hB : B ≤ w2.heap.size
section
variable {B a b H : Nat} {S S' : Ag} {w2 wr W' : World} {cs : Array Value} {t : TypeId}
theorem InL.le (h : InL B a S w2 wr) : B ≤ wr.heap.size := Nat.le_trans h.hB h.bel.size
theorem InL.below (h : InL B a S w2 wr) (hb : Below wr.heap.size wr W') : InL B a S w2 W' := ⟨h.ag.below hb, h.bel.trans (below_le hb h.le), h.hB⟩
theorem InL.drew (h : InL B a S w2 wr) : InL B a S w2 wr.drew := h.below (Below.refl _ _).drew
theorem InL.drewN (h : InL B a S w2 wr) (n : Nat) : InL B a S w2 (wr.drewN n) := h.below (pw_below_drewN (Below.refl _ _) _)
theorem InL.alloc (h : InL B a S w2 wr) (x : Obj) : InL B a S w2 (wr.alloc x) := h.below ((Below.refl _ _).alloc (Nat.le_refl _) _)
theorem InL.box (h : InL B a S w2 wr) (x : Obj) : AgQ a S (fun k => k < B ∨ k = wr.heap.size) (wr.alloc x) := h.ag.more ((Below.refl _ _).alloc (Nat.le_refl _) _) fun k hk => hk.elim .inl fun hk => .inr (by omega)
theorem InL.next (h : InL B a S w2 wr) {x : Obj} (g : AgQ a S' (fun k => k < B ∨ k = wr.heap.size) W') (hk : KeepQ (fun k => k < B ∨ k = wr.heap.size) (wr.alloc x) W') : InL B a S' w2 W' :=
  ⟨g.less fun k hk => .inl hk, ((h.alloc x).bel).trans (hk.below (fun k hk => .inl hk) (by have := h.le; rw [World.size_alloc]; omega)), h.hB⟩
theorem InL.reads (h : InL B a S w2 wr) (hH : H ≤ B) {A : Option Addr} {xs : List Ls} (x : Obj) (hL : ReadsL (fun k => H ≤ k) wr A xs) : ReadsL (fun k => ¬ (k < B ∨ k = wr.heap.size)) (wr.alloc x) A xs :=
  (hL.keep ((Below.refl _ _).alloc (Nat.le_trans hH h.le) _)).mono fun k hk => by omega
theorem InL.blk (hk : KeepQ (fun k => k < B ∨ k = wr.heap.size) (wr.alloc (.cells cs t)) W') : Blk W' wr.heap.size t cs := hk.blk (.inr rfl) (Blk.new wr t cs)
end
theorem own_slice {W : World} {base e size n : Nat} {v : Value} {xs : List Value} (h : W.ownsRow base e size v n xs) : ∃ A c, v = .slice A n c := by
  rcases h.2 with ⟨rfl, rfl⟩ | ⟨g, cap, cur, rfl, _⟩
  · exact ⟨none, 0, rfl⟩
  · exact ⟨_, cap, rfl⟩
section
variable {a : Nat} {S : Ag} {Q : Nat → Prop} {W : World}
theorem liveC (h : AgQ a S Q W) (hok : AgOk S) : Calls Try.prog 33 #[ptr a] W fun e W' => ∃ A c, e = .returned (.slice A (liveG S).length c) ∧ W'.ownsRow W.heap.size tRun 2 (.slice A (liveG S).length c) (liveG S).length (flatR (liveG S)) ∧ Below W.heap.size W W' :=
  (liveQ h hok).mono fun e W' ⟨u, h1, h2, h3⟩ => by
    obtain ⟨A, c, rfl⟩ := own_slice h2
    exact ⟨A, c, h1, h2, h3⟩
theorem finC (h : AgQ a S Q W) (hok : AgOk S) : Calls Try.prog 34 #[ptr a] W fun e W' => ∃ A c, ∃ zs : List LeM, e = .returned (.slice A zs.length c) ∧ zs.map (·.1) = finG S ∧ W'.ownsRow W.heap.size tL 8 (.slice A zs.length c) zs.length (flatL zs) ∧ (∀ z ∈ zs, OwnC W.heap.size W' z) ∧ Below W.heap.size W W' :=
  (finQ h hok).mono fun e W' ⟨u, h1, ⟨zs, hz, h2, h3⟩, h4⟩ => by
    obtain ⟨A, c, rfl⟩ := own_slice h2
    exact ⟨A, c, zs, h1, hz, h2, h3, h4⟩
end
theorem runs_len : ∀ (l : List Jb), (∀ j ∈ l, j.le.cores.length ≤ 64) → (l.flatMap runsJ).length ≤ 64 * l.length
  | [], _ => by simp
  | j :: l, h => by
    have h1 := h j List.mem_cons_self
    have h2 := runs_len l fun x hx => h x (List.mem_cons_of_mem _ hx)
    rw [List.flatMap_cons, List.length_append, List.length_cons]
    simp only [runsJ, List.length_map]
    omega
theorem AgOk.liveLen {S : Ag} (h : AgOk S) : (liveG S).length ≤ 100000 := by
  have h1 := runs_len (S.jobs.filter (liveJ S)) fun j hj => (h.job j (List.mem_filter.1 hj).1).1
  have h2 := List.length_filter_le (liveJ S) S.jobs
  have h3 := h.jobs
  unfold liveG
  omega
theorem AgOk.finLen {S : Ag} {zs : List LeM} (h : AgOk S) (hz : zs.map (·.1) = finG S) : zs.length ≤ 100000 ∧ ∀ y ∈ zs, y.1.cores.length ≤ 100000 := by
  have e := congrArg List.length hz
  rw [List.length_map] at e
  unfold finG at e
  rw [List.length_map] at e
  have h2 := List.length_filter_le doneJ S.jobs
  have h3 := h.jobs
  refine ⟨by omega, fun y hy => ?_⟩
  have : y.1 ∈ finG S := hz ▸ List.mem_map_of_mem hy
  obtain ⟨j, hj, e⟩ := List.mem_map.1 this
  have := (h.job j (List.mem_filter.1 hj).1).1
  rw [← e]
  omega
end Go.Proofs.Ytkcmmghhghgdpaa.Agt
end
section
namespace Go.Proofs.Ytkcmmghhghgdpaa.Agt
open Go.RowKit Go.Shelf Go.Maps Go.Proofs.Ytkcmmghhghgdpaa.Iter Go.Proofs.Ytkcmmghhghgdpaa.Str Go.Proofs.YtkcmmghhghgdpaaW.PrintWords Go.Proofs.YtkcmmghhghgdpaaW.PrintLast Go.Proofs.Ytkcmmghhghgdpaa.Open
set_option linter.unusedVariables false
set_option linter.unusedSimpArgs false
/-- What AgentNever keeps. -/
structure NInv (S : Ag) (short : Int) (G : List Int) (up : Bool) (frm : Int) (L : List Ls) (N : Nat) : Prop where
  w : AgW S N
  short : S.short = short
  up : up = S.runs
  len : G.length ≤ N
  on : S.runs = true → G = S.sent
  off : S.runs = false → S.sent = [] ∧ S.jobs = []
  jobs : ∀ j ∈ S.jobs, j.le ∈ L ∧ j.frm = frm
  frm : 0 ≤ frm ∧ frm ≤ S.clock
section
variable {S S' : Ag} {short : Int} {G : List Int} {up : Bool} {frm : Int} {L : List Ls} {N : Nat}
theorem NInv.new {nid nco nme nin nbe short : Int} (h : okNew nid nco nme short) : NInv (newG nid nco nme nin nbe short) short [] false 0 [] 0 :=
  ⟨AgW.new h, rfl, rfl, Nat.le_refl _, fun _ => rfl, fun _ => ⟨rfl, rfl⟩, (fun j hj => by cases hj), ⟨Int.le_refl _, Int.le_refl _⟩⟩
theorem NInv.mono {M : Nat} (h : NInv S short G up frm L N) (hm : N ≤ M) : NInv S short G up frm L M := ⟨h.w.mono hm, h.short, h.up, by have := h.len; omega, h.on, h.off, h.jobs, h.frm⟩
theorem NInv.pass {dt cd : Int} (h : NInv S short G up frm L N) (e : passG S dt = (S', cd)) : NInv S' short G up frm L N := by
  have hw := h.w.pass dt
  rw [e] at hw
  unfold passG at e
  split at e
  · injection e with e _
    exact e ▸ h
  · split at e
    · injection e with e _
      exact e ▸ h
    · rename_i h1 h2
      injection e with e _
      subst e
      have := h.frm
      exact ⟨hw, h.short, h.up, h.len, h.on, h.off, h.jobs, ⟨this.1, by show frm ≤ S.clock + dt; omega⟩⟩
theorem NInv.quant (h : NInv S short G up frm L N) : NInv (quantG S).1 short G up frm L (N + 1) := by
  have hj : ∀ j ∈ (quantG S).1.jobs, ∃ q ∈ S.jobs, j.le = q.le ∧ j.frm = q.frm := fun j hj => by
    obtain ⟨q, hq, rfl⟩ := List.mem_map.1 hj
    refine ⟨q, hq, ?_⟩
    split <;> exact ⟨rfl, rfl⟩
  refine ⟨h.w.quant, h.short, h.up, by have := h.len; omega, h.on, fun hf => ⟨(h.off hf).1, ?_⟩, fun j hjm => ?_, h.frm⟩
  · show S.jobs.map _ = []
    rw [(h.off hf).2]
    rfl
  · obtain ⟨q, hq, e1, e2⟩ := hj j hjm
    rw [e1, e2]
    exact h.jobs q hq
end
/-- Memory in AgentNever's loop: the agent, the row of the beats, all below B as it was in w2. -/
structure InN (B a : Nat) (S : Ag) (v : Value) (G : List Int) (w2 wr : World) : Prop where
  ag : AgQ a S (fun k => k < B ∨ v.ownBlock = some k) wr
  row : wr.ownsRow B tQ 1 v G.length (G.map (Value.int .i64))
  bel : Below B w2 wr
  hB : B ≤ w2.heap.size
section
variable {B a b H : Nat} {S S' : Ag} {v : Value} {G : List Int} {w2 wr W' : World} {cs : Array Value} {t : TypeId}
theorem InN.start (h : AgQ a S (fun k => k < B) w2) (hB : B ≤ w2.heap.size) : InN B a S (.slice none 0 0) [] w2 w2 :=
  ⟨h.less fun k hk => hk.elim id (fun h => by cases h), World.ownsRow_nil _ _ _ _, Below.refl _ _, hB⟩
theorem InN.nil (h : InN B a S v G w2 wr) : InN B a S (.slice none 0 0) [] w2 wr :=
  ⟨h.ag.less fun k hk => hk.elim .inl (fun h => by cases h), World.ownsRow_nil _ _ _ _, h.bel, h.hB⟩
theorem InN.le (h : InN B a S v G w2 wr) : B ≤ wr.heap.size := Nat.le_trans h.hB h.bel.size
theorem InN.below (h : InN B a S v G w2 wr) (hb : Below wr.heap.size wr W') : InN B a S v G w2 W' := ⟨h.ag.below hb, own_below h.row hb, h.bel.trans (below_le hb h.le), h.hB⟩
theorem InN.drew (h : InN B a S v G w2 wr) : InN B a S v G w2 wr.drew := h.below (Below.refl _ _).drew
theorem InN.drewN (h : InN B a S v G w2 wr) (n : Nat) : InN B a S v G w2 (wr.drewN n) := h.below (pw_below_drewN (Below.refl _ _) _)
theorem InN.alloc (h : InN B a S v G w2 wr) (x : Obj) : InN B a S v G w2 (wr.alloc x) := h.below ((Below.refl _ _).alloc (Nat.le_refl _) _)
theorem InN.box (h : InN B a S v G w2 wr) (x : Obj) : AgQ a S (fun k => (k < B ∨ v.ownBlock = some k) ∨ k = wr.heap.size) (wr.alloc x) := h.ag.more ((Below.refl _ _).alloc (Nat.le_refl _) _) fun k hk => hk.elim .inl fun hk => .inr (by omega)
theorem InN.rowlt (h : InN B a S v G w2 wr) : ∀ k, v.ownBlock = some k → B ≤ k ∧ k < wr.heap.size := fun k hk => by
  obtain ⟨h1, h2, _⟩ := own_block h.row hk
  exact ⟨h1, h2⟩
theorem InN.next (h : InN B a S v G w2 wr) {x : Obj} (g : AgQ a S' (fun k => (k < B ∨ v.ownBlock = some k) ∨ k = wr.heap.size) W') (hk : KeepQ (fun k => (k < B ∨ v.ownBlock = some k) ∨ k = wr.heap.size) (wr.alloc x) W') : InN B a S' v G w2 W' :=
  ⟨g.less fun k hk => .inl hk, Str.own_move (h.alloc x).row (fun k hb => hk.block k ((h.alloc x).rowlt k hb).2 (fun hn => hn (.inl (.inr hb)))),
    ((h.alloc x).bel).trans (hk.below (fun k hk => .inl (.inl hk)) (by have := h.le; rw [World.size_alloc]; omega)), h.hB⟩
theorem InN.reads (h : InN B a S v G w2 wr) (hH : H ≤ B) {A : Option Addr} {xs : List Ls} (x : Obj) (hL : ReadsL (fun k => H ≤ k) wr A xs) : ReadsL (fun k => ¬ ((k < B ∨ v.ownBlock = some k) ∨ k = wr.heap.size)) (wr.alloc x) A xs :=
  (hL.keep ((Below.refl _ _).alloc (Nat.le_trans hH h.le) _)).mono fun k hk => Classical.byContradiction fun hc => hk (.inl (.inl (by omega)))
theorem InN.blk (hk : KeepQ (fun k => (k < B ∨ v.ownBlock = some k) ∨ k = wr.heap.size) (wr.alloc (.cells cs t)) W') : Blk W' wr.heap.size t cs := hk.blk (.inr rfl) (Blk.new wr t cs)
theorem InN.cellAt {g c : Nat} (h : InN B a S (.slice (some ⟨g, 0, none⟩) G.length c) G w2 wr) {p : Nat} {x : Int} (hx : G[p]? = some x) : wr.cell? ⟨g, p, none⟩ = some (.int .i64 x) := by
  have hp := (List.getElem?_eq_some_iff.1 hx).1
  rw [h.row.cellAt p (by omega), List.getElem?_map, hx]
  rfl
theorem InN.cell (h : InN B a S v G w2 wr) {p : Nat} {x : Int} (hx : G[p]? = some x) : ∃ g c, v = .slice (some ⟨g, 0, none⟩) G.length c ∧ wr.cell? ⟨g, p, none⟩ = some (.int .i64 x) := by
  have hp := (List.getElem?_eq_some_iff.1 hx).1
  obtain ⟨g, c, rfl⟩ := own_someL h.row (by omega)
  refine ⟨g, c, rfl, ?_⟩
  rw [h.row.cellAt p (by omega), List.getElem?_map, hx]
  rfl
end
section
variable {a : Nat} {S S' : Ag} {Q : Nat → Prop} {W : World}
end
theorem keep_cell {B : Nat} {W W' : World} (hb : Below B W W') {p : Addr} {v : Value} (h : W.cell? p = some v) (hB : p.block < B) : W'.cell? p = some v := (hb.cell hB).trans h
end Go.Proofs.Ytkcmmghhghgdpaa.Agt
end
section
namespace Go.Proofs.Ytkcmmghhghgdpaa.Agt
open Go.RowKit Go.Shelf Go.Maps Go.Proofs.Ytkcmmghhghgdpaa.Iter Go.Proofs.Ytkcmmghhghgdpaa.Str Go.Proofs.YtkcmmghhghgdpaaW.PrintWords Go.Proofs.YtkcmmghhghgdpaaW.PrintLast
set_option linter.unusedVariables false
set_option linter.unusedSimpArgs false
abbrev nL : Ls := ⟨2, 0, 1, [1, 3], 0, 0, 0, false⟩
def nS3 : Ag := ⟨1, 4, 9, 0, 0, 36, 0, true, 1, [0], 1, [⟨nL, 0, 1, 0, joinsF 0 [] [2]⟩]⟩
def nS4 : Ag := (quantG nS3).1
theorem nq : (quantG nS3).1 = nS4 := rfl
end Go.Proofs.Ytkcmmghhghgdpaa.Agt
end
section
namespace Go.Proofs.Ytkcmmghhghgdpaa.Agt
open Go.RowKit Go.Shelf Go.Maps Go.Proofs.Ytkcmmghhghgdpaa.Iter Go.Proofs.Ytkcmmghhghgdpaa.Str Go.Proofs.YtkcmmghhghgdpaaW.PrintWords Go.Proofs.YtkcmmghhghgdpaaW.PrintLast
set_option linter.unusedVariables false
set_option linter.unusedSimpArgs false
abbrev sT (work : Int) (ts : List Int) : Ts := ⟨8, 0, 0, 0, work, ts, 0⟩
theorem run_snoc (q : Nat) (l : List Cl) : (runL (q + 1) l).2 = (runL q l).2 ++ [(pickL (runL q l).1).2] := by
  rw [run_app q 1]
  rfl
/-- Quanta so far, behind i rounds. -/
def ShQ (work : Int) (i q : Nat) : Prop := q ≤ i ∧ (0 < work → (q : Int) ≤ work) ∧ (q < i → 0 < work ∧ (q : Int) = work)
theorem ShQ.zero {work : Int} (hw : 0 ≤ work) : ShQ work 0 0 := ⟨Nat.le_refl _, fun _ => by omega, fun h => by omega⟩
theorem ShQ.step {work : Int} {i q : Nat} (h : ShQ work i q) (hd : ¬ (0 < work ∧ work ≤ (q : Int))) : ShQ work (i + 1) (q + 1) := by
  obtain ⟨h1, h2, h3⟩ := h
  refine ⟨by omega, fun hw => by omega, fun hlt => ?_⟩
  have := h3 (by omega)
  omega
section
variable {a : Nat} {S S' : Ag} {Q : Nat → Prop} {W : World}
end
theorem own_poke {W : World} {base e size n : Nat} {v : Value} {xs : List Value} (h : W.ownsRow base e size v n xs) {p : Addr} (hp : p.block < base) (u : Value) : (W.setCell p u).ownsRow base e size v n xs :=
  Str.own_move h fun k hk => by
    have := (own_block h hk).1
    exact Below.heap_setCell W p u k (fun e => by omega)
end Go.Proofs.Ytkcmmghhghgdpaa.Agt
end
section
namespace Go.Proofs.Ytkcmmghhghgdpaa.Str
open Go.RowKit Go.Shelf Go.Maps Go.Proofs.Ytkcmmghhghgdpaa.Iter Go.Proofs.Ytkcmmghhghgdpaa.SeqM Go.Proofs.YtkcmmghhghgdpaaW.PrintWords Go.Proofs.YtkcmmghhghgdpaaW.PrintLast
set_option linter.unusedVariables false
set_option linter.unusedSimpArgs false
abbrev tR : Nat := 114
abbrev slR : Nat := 33
theorem infoR : (Try.prog.info? 114).map (fun i => (i.zero, i.size, i.bytes)) = some (some (.agg #[.int .i64 0, .int .i64 0, .int .i64 0]), 3, 24) := by kernel_rfl
theorem cells_new (w : World) (cs : List Value) (t : TypeId) : ∀ j u, cs[j]? = some u → (w.alloc (.cells cs.toArray t)).cell? (Addr.add ⟨w.heap.size, 0, none⟩ j) = some u := fun j u h => by
  rw [Addr.add_lit, Nat.zero_add, (Blk.new w t cs.toArray).cell j]
  simpa using h
theorem own_readsR {W : World} {base : Nat} {A : Option Addr} {n c : Nat} {l : List Cl} (h : W.ownsRow base tR 3 (.slice A n c) l.length (flat l)) : ReadsG W A l ∧ (∀ ad, A = some ad → base ≤ ad.block ∧ ad.block < W.heap.size) ∧ n = l.length ∧ n ≤ c := by
  rcases h.2 with ⟨h1, h0⟩ | ⟨g, cap, cur, hv, hb, hg, hc, _⟩
  · simp at h1
    obtain ⟨rfl, rfl, rfl⟩ := h1
    refine ⟨fun j x hx => ?_, (fun ad h => by cases h), h0.symm, Nat.le_refl _⟩
    have := (List.getElem?_eq_some_iff.1 hx).1
    omega
  · injection hv with e1 e2 e3
    subst e1
    subst e2
    have hl : g < W.heap.size := (Array.getElem?_eq_some_iff.1 hg).1
    refine ⟨fun j x hx => ?_, (fun ad h => by obtain rfl := Option.some.inj h; exact ⟨hb, hl⟩), rfl, by omega⟩
    have hj := (List.getElem?_eq_some_iff.1 hx).1
    refine ⟨g, rfl, hl, ?_, ?_, ?_⟩
    · rw [h.cellAt (j * 3) (by omega)]
      have := flat_get l j 0 x (by omega) hx
      simpa [cC] using this
    · rw [h.cellAt (j * 3 + 1) (by omega)]
      have := flat_get l j 1 x (by omega) hx
      simpa [cC] using this
    · rw [h.cellAt (j * 3 + 2) (by omega)]
      have := flat_get l j 2 x (by omega) hx
      simpa [cC] using this
theorem own_lower {W : World} {B B' e size n : Nat} {v : Value} {xs : List Value} (h : W.ownsRow B e size v n xs) (hb : B' ≤ B) : W.ownsRow B' e size v n xs := by
  refine ⟨h.1, ?_⟩
  rcases h.2 with hn | ⟨g, cap, cur, e, hg, rest⟩
  · exact .inl hn
  · exact .inr ⟨g, cap, cur, e, Nat.le_trans hb hg, rest⟩

set_option maxRecDepth 100000 in
set_option maxHeartbeats 4000000 in
theorem right_yes (t : Int) (W : World) (h1 : 1 ≤ t) (h2 : t ≤ 16) : Calls Try.prog 81 #[.int .i64 t] W fun e W' => e = .returned (.bool true) ∧ W' = W := by
  go_enter Try.func81, Try.ntmps81
  go_wp2
  go_ret
  exact ⟨rfl, rfl⟩
set_option maxRecDepth 100000 in
set_option maxHeartbeats 4000000 in
theorem right_no (t : Int) (W : World) (h : t < 1 ∨ 16 < t) : Calls Try.prog 81 #[.int .i64 t] W fun e W' => e = .returned (.bool false) ∧ W' = W := by
  rcases h with h | h
  · have h1 : ¬ 1 ≤ t := by omega
    clear h
    go_enter Try.func81, Try.ntmps81
    go_wp2
    go_ret
    exact ⟨rfl, rfl⟩
  · have h1 : 1 ≤ t := by omega
    have h2 : ¬ t ≤ 16 := by omega
    clear h
    go_enter Try.func81, Try.ntmps81
    go_wp2
    go_ret
    exact ⟨rfl, rfl⟩
set_option maxRecDepth 100000 in
set_option maxHeartbeats 4000000 in
theorem sdR_calls (t : Int) (W : World) (h1 : 1 ≤ t) (h2 : t ≤ 16) : Calls Try.prog 82 #[.int .i64 t] W fun e W' => e = .returned (.int .i64 (sd t)) ∧ W' = W := by
  have hq : Int.tdiv 720720 t = sd t := by unfold sd; exact Int.tdiv_eq_ediv_of_nonneg (by omega)
  have hne : (t == 0) = false := beq_eq_false_iff_ne.mpr (by omega)
  have hw : IntKind.i64.wrap (sd t) = sd t := IntWalk.i64_in _ (by have := sd_nonneg h1 h2; omega)
  have h0 : ¬ t = 0 := by omega
  go_enter Try.func82, Try.ntmps82
  go_wp2
  go_ret
  exact ⟨rfl, rfl⟩

set_option maxRecDepth 100000 in
set_option maxHeartbeats 4000000 in
theorem place_calls (A : Option Addr) (c0 : Nat) (l : List Cl) (id : Int) (W : World) (hs : Sorted l) (hlen : l.length ≤ 2000) (hr : ReadsG W A l) :
    Calls Try.prog 80 #[.slice A l.length c0, .int .i64 id] W fun e W' => e = .returned (.int .i64 (placeL l id)) ∧ Below W.heap.size W W' := by
  have hr' := Lib.hid hr
  have hs' := Lib.hid hs
  clear hr hs
  go_enter Try.func80, Try.ntmps80
  go_wp2
  go_loopw [9] (fun iv wr => ∃ (i : Nat), iv = .int .i64 (i : Int) ∧ i ≤ l.length ∧ (∀ j c, j < i → l[j]? = some c → c.id ≠ id) ∧ Below W.heap.size W wr)
    (fun iv _ => l.length - (intOf iv).toNat)
  case atStart => exact ⟨0, rfl, Nat.zero_le _, (fun j c h => by omega), Below.refl _ _⟩
  case round =>
    obtain ⟨i, rfl, hi, hno, hbel⟩ := hrel
    by_cases hlt : i < l.length
    · obtain ⟨c, hc⟩ : ∃ c, l[i]? = some c := ⟨l[i], List.getElem?_eq_getElem hlt⟩
      obtain ⟨g, rfl, _, q0, q1, q2⟩ := (hr'.out.below hbel) i c hc
      have bC := Blk.new wr tR #[.int .i64 c.id, .int .i64 c.t, .int .i64 c.p]
      have d0 := bC.cell 0
      simp only [List.getElem?_toArray, List.getElem?_cons_zero, List.getElem?_cons_succ] at d0
      have hb2 := Lib.hid (hbel.alloc hbel.size (.cells #[.int .i64 c.id, .int .i64 c.t, .int .i64 c.p] tR))
      by_cases he : c.id = id
      · have hp := Lib.hid (place_at hs'.out hc he)
        have e1 : (c.id == id) = true := beq_iff_eq.mpr he
        clear hbel hc bC he hno
        go_wp2
        go_ret
        exact ⟨by rw [hp.out]; rfl, hb2.out⟩
      · have hno' := Lib.hid (show ∀ j d, j < i + 1 → l[j]? = some d → d.id ≠ id from fun j d hj hd => by
          by_cases hji : j = i
          · subst hji
            rw [hc] at hd
            obtain rfl := Option.some.inj hd
            exact he
          · exact hno j d (by omega) hd)
        have e1 : (c.id == id) = false := beq_eq_false_iff_ne.mpr he
        clear hbel hc bC he hno
        go_wp2
        go_roundw
        case rel => exact ⟨i + 1, by go_num, by omega, hno'.out, hb2.out⟩
        case measure => simp [intOf]; omega
    · have hi' : i = l.length := by omega
      subst hi'
      have hp := Lib.hid (place_none (fun j c hc => hno j c (List.getElem?_eq_some_iff.1 hc).1 hc))
      have hb2 := Lib.hid hbel
      clear hbel hno
      go_wp2
      go_ret
      exact ⟨by rw [hp.out]; rfl, hb2.out⟩

set_option maxRecDepth 100000 in
set_option maxHeartbeats 8000000 in
theorem levelR_calls (B : Nat) (A : Option Addr) (c0 : Nat) (l : List Cl) (W : World) (hlen : l.length ≤ 3000) (hb : ∀ c ∈ l, 0 ≤ c.p ∧ c.p ≤ 1500000) (hr : W.ownsRow B tR 3 (.slice A l.length c0) l.length (flat l)) :
    Calls Try.prog 83 #[.slice A l.length c0] W fun e W' => ∃ u, e = .returned u ∧ W'.ownsRow W.heap.size tR 3 u l.length (flat (levelL l)) ∧ Below W.heap.size W W' := by
  obtain ⟨i0, hif, hz0, hz1, hz2⟩ := info_parts infoR
  have hrd := Lib.hid (own_readsR hr).1
  have hb' := Lib.hid hb
  have hll := level_len l
  clear hr hb
  go_enter Try.func83, Try.ntmps83
  go_wp2
  go_loopw [3, 11] (fun mv iv wr => ∃ (i : Nat) (m : Value), m = mv ∧ iv = .int .i64 (i : Int) ∧ i ≤ l.length ∧ wr.ownsRow W.heap.size tR 3 m i (flat ((levelL l).take i)) ∧ Below W.heap.size W wr)
    (fun _ iv _ => l.length - (intOf iv).toNat)
  case atStart => exact ⟨0, _, rfl, rfl, Nat.zero_le _, World.ownsRow_nil _ _ _ _, Below.refl _ _⟩
  case round =>
    obtain ⟨i, m, rfl, rfl, hi, hown, hbel⟩ := hrel
    by_cases hlt : i < l.length
    · obtain ⟨c, hc⟩ : ∃ c, l[i]? = some c := ⟨l[i], List.getElem?_eq_getElem hlt⟩
      obtain ⟨g, rfl, _, q0, q1, q2⟩ := (hrd.out.below hbel) i c hc
      have bC := Blk.new wr tR #[.int .i64 c.id, .int .i64 c.t, .int .i64 c.p]
      have d2 := bC.cell 2
      simp only [List.getElem?_toArray, List.getElem?_cons_zero, List.getElem?_cons_succ] at d2
      have bC' := Lib.hid bC
      have hb2 := Lib.hid (hbel.alloc hbel.size (.cells #[.int .i64 c.id, .int .i64 c.t, .int .i64 c.p] tR))
      have ho2 := Lib.hid (hown.alloc (.cells #[.int .i64 c.id, .int .i64 c.t, .int .i64 c.p] tR))
      have hcm := Lib.hid (minF_least (List.mem_of_getElem? hc))
      have hst := Lib.hid (level_take hc)
      have hcb := hb'.out c (List.mem_of_getElem? hc)
      clear hbel hc bC hown
      go_wp2
      go_loopw [6, 19] (fun lv kv wq => ∃ (k : Nat), lv = .int .i64 (minF c.p (l.take k)) ∧ kv = .int .i64 (k : Int) ∧ k ≤ l.length ∧ wq.ownsRow W.heap.size tR 3 m i (flat ((levelL l).take i)) ∧ Blk wq wr.heap.size tR #[.int .i64 c.id, .int .i64 c.t, .int .i64 c.p] ∧ Below W.heap.size W wq)
        (fun _ kv _ => l.length - (intOf kv).toNat)
      case atStart => exact ⟨0, rfl, rfl, Nat.zero_le _, ho2.out, bC'.out, hb2.out⟩
      case round =>
        clear q0 q1 q2 d2
        obtain ⟨k, rfl, rfl, hk, hown, hcb2, hbel⟩ := hrel
        by_cases hltk : k < l.length
        · obtain ⟨d, hd⟩ : ∃ d, l[k]? = some d := ⟨l[k], List.getElem?_eq_getElem hltk⟩
          obtain ⟨g2, hg2, _, q0, q1, q2⟩ := (hrd.out.below hbel) k d hd
          injection hg2 with hg2
          injection hg2 with hg2
          subst hg2
          have bD := Blk.new wr tR #[.int .i64 d.id, .int .i64 d.t, .int .i64 d.p]
          have d2 := bD.cell 2
          simp only [List.getElem?_toArray, List.getElem?_cons_zero, List.getElem?_cons_succ] at d2
          have hmt := Lib.hid (minF_take c.p l k d hd)
          have hb3 := Lib.hid (hbel.alloc hbel.size (.cells #[.int .i64 d.id, .int .i64 d.t, .int .i64 d.p] tR))
          have ho3 := Lib.hid (hown.alloc (.cells #[.int .i64 d.id, .int .i64 d.t, .int .i64 d.p] tR))
          have hc3 := Lib.hid (hcb2.alloc (.cells #[.int .i64 d.id, .int .i64 d.t, .int .i64 d.p] tR))
          clear hbel hd bD hown hcb2
          go_wp2
          go_roundw
          case rel => exact ⟨k + 1, by rw [hmt.out], by go_num, by omega, ho3.out, hc3.out, hb3.out⟩
          case measure => simp [intOf]; omega
        · have hk' : k = l.length := by omega
          subst hk'
          rw [show minF c.p (l.take l.length) = leastP l by rw [List.take_of_length_le (Nat.le_refl _)]; exact hcm.out]
          have hlp := hcm.out
          have hl0 : 0 ≤ leastP l ∧ leastP l ≤ c.p := by
            have h1 := minF_le l c.p
            rw [hlp] at h1
            have h2 := minF_ge l c.p 0 (by omega) (fun x hx => (hb'.out x hx).1)
            rw [hlp] at h2
            exact ⟨h2, h1.1⟩
          obtain ⟨M, hM⟩ : ∃ M, leastP l = M := ⟨_, rfl⟩
          rw [hM] at hst hl0 ⊢
          have hw : IntKind.i64.wrap (c.p - M) = c.p - M := IntWalk.i64_in _ (by omega)
          have d0 := hcb2.cell 0
          have d1 := hcb2.cell 1
          have d2 := hcb2.cell 2
          simp only [List.getElem?_toArray, List.getElem?_cons_zero, List.getElem?_cons_succ] at d0 d1 d2
          have ho3 := Lib.hid (hown.alloc (.cells #[.int .i64 c.id, .int .i64 c.t, .int .i64 (c.p - M)] tR))
          have hb3 := Lib.hid (hbel.alloc hbel.size (.cells #[.int .i64 c.id, .int .i64 c.t, .int .i64 (c.p - M)] tR))
          have hsz := hbel.size
          clear hcm hM hlp hown hcb2 hbel
          go_wp2_with ((at_builtin; refine wpList_append_own _ rfl _ _ slR rfl W.heap.size tR i0 _ 3 24 Try.underlying33 hif hz0 hz1 hz2 rfl (by decide) _ _ _ rfl ho3.out ⟨wr.heap.size, 0, none⟩ 1 1 [.int .i64 c.id, .int .i64 c.t, .int .i64 (c.p - M)] rfl rfl (cells_new _ _ _) (by simp [Value.oneCell']) (by first | omega | (unfold maxLen; omega)) (by omega) (by simp; omega) ?_))
          intro v9 w9 hown9 hgr9 _
          have ho9 := Lib.hid hown9
          have hb9 := Lib.hid (below_grown hb3.out hgr9 (Nat.le_refl _) (fun k hk => (own_block ho3.out hk).1))
          clear hown9 hgr9
          go_wp2
          go_roundw
          case rel => exact ⟨i + 1, _, rfl, by go_num, by omega, by rw [hst.out, flat_app]; exact ho9.out, hb9.out⟩
          case measure => simp [intOf]; omega
    · have hi' : i = l.length := by omega
      subst hi'
      have hb2 := Lib.hid hbel
      rw [show (levelL l).take l.length = levelL l by rw [← hll]; exact List.take_of_length_le (Nat.le_refl _)] at hown
      have ho2 := Lib.hid hown
      clear hbel hown
      go_wp2
      go_ret
      exact ⟨_, rfl, ho2.out, hb2.out⟩
end Go.Proofs.Ytkcmmghhghgdpaa.Str
end
section
namespace Go.Proofs.Ytkcmmghhghgdpaa.Str
open Go.RowKit Go.Shelf Go.Maps Go.Proofs.Ytkcmmghhghgdpaa.Iter Go.Proofs.Ytkcmmghhghgdpaa.SeqM Go.Proofs.YtkcmmghhghgdpaaW.PrintWords Go.Proofs.YtkcmmghhghgdpaaW.PrintLast
set_option linter.unusedVariables false
set_option linter.unusedSimpArgs false
/-- A result of the document's calls. -/
def RowR (W : World) (u : Value) (l : List Cl) : Prop := W.ownsRow 0 tR 3 u l.length (flat l)
theorem RowR.below {W W' : World} {u : Value} {l : List Cl} (h : RowR W u l) (hb : Below W.heap.size W W') : RowR W' u l := own_below h hb
theorem RowR.slice {W : World} {u : Value} {l : List Cl} (h : RowR W u l) : ∃ A c, u = .slice A l.length c := slice_of_own h
theorem RowR.reads {W : World} {A : Option Addr} {n c : Nat} {l : List Cl} (h : RowR W (.slice A n c) l) : ReadsG W A l := (own_readsR h).1

set_option maxRecDepth 100000 in
set_option maxHeartbeats 8000000 in
theorem joinR_callsQ (A : Option Addr) (c0 : Nat) (l : List Cl) (id t rem : Int) (W : World) (hgood : GoodG l) (hr : RowR W (.slice A l.length c0) l) :
    Calls Try.prog 48 #[.slice A l.length c0, .int .i64 id, .int .i64 t, .int .i64 rem] W fun e W' => ∃ u, e = .returned (.tuple #[u, .int .i64 (joinL l id t rem).2]) ∧ RowR W' u (joinL l id t rem).1 ∧ (u = .slice A l.length c0 ∨ ∀ k, u.ownBlock = some k → W.heap.size ≤ k) ∧ Below W.heap.size W W' := by
  obtain ⟨i0, hif, hz0, hz1, hz2⟩ := info_parts infoR
  have hln := good_len hgood
  have hsr := Lib.hid hgood.2.1
  have hgood' := Lib.hid hgood
  have hr' := Lib.hid hr
  have hrd := Lib.hid hr.reads
  by_cases hh : hasL id l = true
  · have hj := Lib.hid (show joinL l id t rem = (l, 9) by unfold joinL; rw [if_pos hh])
    have hp0 : 0 ≤ placeL l id := has_place.1 hh
    obtain ⟨pl, hpl⟩ : ∃ pl, placeL l id = pl := ⟨_, rfl⟩
    rw [hpl] at hp0
    have hpl' := Lib.hid hpl
    clear hgood hr hh hpl
    go_enter Try.func48, Try.ntmps48
    go_wp2_with ((with_reducible refine gate_callee (f := 80) rfl ?_); refine goesL_ (some 17) rfl rfl Try.func80 (by kernel_rfl) rfl #[.slice A l.length c0, .int .i64 id] rfl (by (try simp only [List.map_toArray, List.map_cons, List.map_nil]); first | done | rfl) ?_; (with_reducible refine (place_calls A c0 l id _ hsr.out (by omega) hrd.out).mono ?_); rintro e w1 ⟨rfl, b1⟩; refine ⟨_, rfl, ?_⟩; simp only [hpl'.out])
    go_ret2
    exact ⟨_, by rw [hj.out]; rfl, by rw [hj.out]; exact hr'.out.below b1, .inl rfl, b1⟩
  · have hp0 : ¬ 0 ≤ placeL l id := fun h => hh (has_place.2 h)
    have hh' := Lib.hid (show hasL id l = false by simpa using hh)
    obtain ⟨pl, hpl⟩ : ∃ pl, placeL l id = pl := ⟨_, rfl⟩
    rw [hpl] at hp0
    have hpl' := Lib.hid hpl
    clear hpl hr
    by_cases hbad : t < 1 ∨ 16 < t ∨ rem < 0 ∨ sd t < rem
    · have hj := Lib.hid (show joinL l id t rem = (l, 1) by unfold joinL; rw [if_neg hh, if_pos hbad])
      clear hh hgood
      by_cases ht : t < 1 ∨ 16 < t
      · have ht' := Lib.hid ht
        clear ht hbad
        go_enter Try.func48, Try.ntmps48
        go_wp2_with (first | ((with_reducible refine gate_callee (f := 80) rfl ?_); refine goesL_ (some 17) rfl rfl Try.func80 (by kernel_rfl) rfl #[.slice A l.length c0, .int .i64 id] rfl (by (try simp only [List.map_toArray, List.map_cons, List.map_nil]); first | done | rfl) ?_; (with_reducible refine (place_calls A c0 l id _ hsr.out (by omega) hrd.out).mono ?_); rintro e w1 ⟨rfl, b1⟩; refine ⟨_, rfl, ?_⟩; simp only [hpl'.out]) | ((with_reducible refine gate_callee (f := 81) rfl ?_); refine goesL_ (some 22) rfl rfl Try.func81 (by kernel_rfl) rfl #[.int .i64 t] rfl (by (try simp only [List.map_toArray, List.map_cons, List.map_nil]); first | done | rfl) ?_; (with_reducible refine (right_no t _ ht'.out).mono ?_); rintro e w2 ⟨rfl, rfl⟩; refine ⟨_, rfl, ?_⟩))
        go_ret2
        exact ⟨_, by rw [hj.out]; rfl, by rw [hj.out]; exact hr'.out.below b1, .inl rfl, b1⟩
      · have ht1 : 1 ≤ t := by omega
        have ht2 : t ≤ 16 := by omega
        by_cases hrm : rem < 0
        · clear ht hbad
          go_enter Try.func48, Try.ntmps48
          go_wp2_with (first | ((with_reducible refine gate_callee (f := 80) rfl ?_); refine goesL_ (some 17) rfl rfl Try.func80 (by kernel_rfl) rfl #[.slice A l.length c0, .int .i64 id] rfl (by (try simp only [List.map_toArray, List.map_cons, List.map_nil]); first | done | rfl) ?_; (with_reducible refine (place_calls A c0 l id _ hsr.out (by omega) hrd.out).mono ?_); rintro e w1 ⟨rfl, b1⟩; refine ⟨_, rfl, ?_⟩; simp only [hpl'.out]) | ((with_reducible refine gate_callee (f := 81) rfl ?_); refine goesL_ (some 22) rfl rfl Try.func81 (by kernel_rfl) rfl #[.int .i64 t] rfl (by (try simp only [List.map_toArray, List.map_cons, List.map_nil]); first | done | rfl) ?_; (with_reducible refine (right_yes t _ ht1 ht2).mono ?_); rintro e w2 ⟨rfl, rfl⟩; refine ⟨_, rfl, ?_⟩))
          go_ret2
          exact ⟨_, by rw [hj.out]; rfl, by rw [hj.out]; exact hr'.out.below b1, .inl rfl, b1⟩
        · have hsd : sd t < rem := by omega
          clear ht hbad
          go_enter Try.func48, Try.ntmps48
          go_wp2_with (first | ((with_reducible refine gate_callee (f := 80) rfl ?_); refine goesL_ (some 17) rfl rfl Try.func80 (by kernel_rfl) rfl #[.slice A l.length c0, .int .i64 id] rfl (by (try simp only [List.map_toArray, List.map_cons, List.map_nil]); first | done | rfl) ?_; (with_reducible refine (place_calls A c0 l id _ hsr.out (by omega) hrd.out).mono ?_); rintro e w1 ⟨rfl, b1⟩; refine ⟨_, rfl, ?_⟩; simp only [hpl'.out]) | ((with_reducible refine gate_callee (f := 81) rfl ?_); refine goesL_ (some 22) rfl rfl Try.func81 (by kernel_rfl) rfl #[.int .i64 t] rfl (by (try simp only [List.map_toArray, List.map_cons, List.map_nil]); first | done | rfl) ?_; (with_reducible refine (right_yes t _ ht1 ht2).mono ?_); rintro e w2 ⟨rfl, rfl⟩; refine ⟨_, rfl, ?_⟩) | (go_at_call 82; refine (sdR_calls t _ ht1 ht2).mono ?_; rintro e w2 ⟨rfl, rfl⟩))
          go_ret2
          exact ⟨_, by rw [hj.out]; rfl, by rw [hj.out]; exact hr'.out.below b1, .inl rfl, b1⟩
    · have ht1 : 1 ≤ t := by omega
      have ht2 : t ≤ 16 := by omega
      have hrm : ¬ rem < 0 := by omega
      have hsd : ¬ sd t < rem := by omega
      by_cases hfull : l.length = 1024
      · have hj := Lib.hid (show joinL l id t rem = (l, 10) by unfold joinL; rw [if_neg hh, if_neg hbad, if_pos hfull])
        have hf : (1024 : Int) ≤ (l.length : Int) := by omega
        clear hh hbad hgood hfull
        go_enter Try.func48, Try.ntmps48
        go_wp2_with (first | ((with_reducible refine gate_callee (f := 80) rfl ?_); refine goesL_ (some 17) rfl rfl Try.func80 (by kernel_rfl) rfl #[.slice A l.length c0, .int .i64 id] rfl (by (try simp only [List.map_toArray, List.map_cons, List.map_nil]); first | done | rfl) ?_; (with_reducible refine (place_calls A c0 l id _ hsr.out (by omega) hrd.out).mono ?_); rintro e w1 ⟨rfl, b1⟩; refine ⟨_, rfl, ?_⟩; simp only [hpl'.out]) | ((with_reducible refine gate_callee (f := 81) rfl ?_); refine goesL_ (some 22) rfl rfl Try.func81 (by kernel_rfl) rfl #[.int .i64 t] rfl (by (try simp only [List.map_toArray, List.map_cons, List.map_nil]); first | done | rfl) ?_; (with_reducible refine (right_yes t _ ht1 ht2).mono ?_); rintro e w2 ⟨rfl, rfl⟩; refine ⟨_, rfl, ?_⟩) | (go_at_call 82; refine (sdR_calls t _ ht1 ht2).mono ?_; rintro e w2 ⟨rfl, rfl⟩))
        go_ret2
        exact ⟨_, by rw [hj.out]; rfl, by rw [hj.out]; exact hr'.out.below b1, .inl rfl, b1⟩
      · have hj := Lib.hid (show joinL l id t rem = (levelL (insL ⟨id, t, rem⟩ l), 0) by unfold joinL; rw [if_neg hh, if_neg hbad, if_neg hfull])
        have hf : ¬ (1024 : Int) ≤ (l.length : Int) := by omega
        have hins := Lib.hid (jF_end ⟨id, t, rem⟩ l)
        have hbd := Lib.hid (show ∀ c ∈ insL ⟨id, t, rem⟩ l, 0 ≤ c.p ∧ c.p ≤ 1500000 from fun c hc => by
          rcases ins_mem.1 hc with rfl | h
          · have := sd_nonneg ht1 ht2
            exact ⟨by show 0 ≤ rem; omega, by show rem ≤ 1500000; omega⟩
          · exact ok_bound hgood.1.1 c h)
        have hil := Lib.hid (ins_len ⟨id, t, rem⟩ l)
        clear hh hbad hgood hfull
        go_enter Try.func48, Try.ntmps48
        go_wp2_with (first | ((with_reducible refine gate_callee (f := 80) rfl ?_); refine goesL_ (some 17) rfl rfl Try.func80 (by kernel_rfl) rfl #[.slice A l.length c0, .int .i64 id] rfl (by (try simp only [List.map_toArray, List.map_cons, List.map_nil]); first | done | rfl) ?_; (with_reducible refine (place_calls A c0 l id _ hsr.out (by omega) hrd.out).mono ?_); rintro e w1 ⟨rfl, b1⟩; refine ⟨_, rfl, ?_⟩; simp only [hpl'.out]) | ((with_reducible refine gate_callee (f := 81) rfl ?_); refine goesL_ (some 22) rfl rfl Try.func81 (by kernel_rfl) rfl #[.int .i64 t] rfl (by (try simp only [List.map_toArray, List.map_cons, List.map_nil]); first | done | rfl) ?_; (with_reducible refine (right_yes t _ ht1 ht2).mono ?_); rintro e w2 ⟨rfl, rfl⟩; refine ⟨_, rfl, ?_⟩) | (go_at_call 82; refine (sdR_calls t _ ht1 ht2).mono ?_; rintro e w2 ⟨rfl, rfl⟩))
        have b1' := Lib.hid b1
        clear b1
        go_loopw [10, 11, 42] (fun mv pv iv wr => ∃ (i : Nat) (m : Value), m = mv ∧ pv = .bool (jF ⟨id, t, rem⟩ (l.take i)).1 ∧ iv = .int .i64 (i : Int) ∧ i ≤ l.length ∧ wr.ownsRow W.heap.size tR 3 m (jF ⟨id, t, rem⟩ (l.take i)).2.length (flat (jF ⟨id, t, rem⟩ (l.take i)).2) ∧ Below W.heap.size W wr)
          (fun _ _ iv _ => l.length - (intOf iv).toNat)
        case atStart => exact ⟨0, _, rfl, rfl, rfl, Nat.zero_le _, World.ownsRow_nil _ _ _ _, b1'.out⟩
        case round =>
          obtain ⟨i, m, rfl, rfl, rfl, hi, hown, hbel⟩ := hrel
          have hjl := jF_len ⟨id, t, rem⟩ (l.take i)
          rw [List.length_take, Nat.min_eq_left hi] at hjl
          by_cases hlt : i < l.length
          · obtain ⟨c, hc⟩ : ∃ c, l[i]? = some c := ⟨l[i], List.getElem?_eq_getElem hlt⟩
            obtain ⟨g, rfl, _, q0, q1, q2⟩ := (hrd.out.below hbel) i c hc
            have hst := jF_take ⟨id, t, rem⟩ l i c hc
            obtain ⟨⟨pb, ml⟩, hs⟩ : ∃ s, jF ⟨id, t, rem⟩ (l.take i) = s := ⟨_, rfl⟩
            rw [hs] at hst hown hjl ⊢
            dsimp only at hown hjl ⊢
            have bC := Blk.new wr tR #[.int .i64 c.id, .int .i64 c.t, .int .i64 c.p]
            have d0 := bC.cell 0
            have d1 := bC.cell 1
            have d2 := bC.cell 2
            simp only [List.getElem?_toArray, List.getElem?_cons_zero, List.getElem?_cons_succ] at d0 d1 d2
            have hsz := hbel.size
            have hb2 := Lib.hid (hbel.alloc hbel.size (.cells #[.int .i64 c.id, .int .i64 c.t, .int .i64 c.p] tR))
            have ho2 := Lib.hid (hown.alloc (.cells #[.int .i64 c.id, .int .i64 c.t, .int .i64 c.p] tR))
            have hmo := Lib.hid (fun k (hk : m.ownBlock = some k) => (own_block hown hk).2.1)
            by_cases hins2 : pb = false ∧ id < c.id
            · obtain ⟨rfl, hlt2⟩ := hins2
              have hst' := Lib.hid (hst.trans (show jst ⟨id, t, rem⟩ (false, ml) c = (true, (ml ++ [⟨id, t, rem⟩]) ++ [c]) from if_pos ⟨rfl, hlt2⟩))
              have ho3 := Lib.hid (ho2.out.alloc (.cells #[.int .i64 id, .int .i64 t, .int .i64 rem] tR))
              have hb3 := Lib.hid (hb2.out.alloc hb2.out.size (.cells #[.int .i64 id, .int .i64 t, .int .i64 rem] tR))
              have hcn := cells_new (wr.alloc (.cells #[.int .i64 c.id, .int .i64 c.t, .int .i64 c.p] tR)) [.int .i64 id, .int .i64 t, .int .i64 rem] tR
              simp only [World.size_alloc] at hcn
              have bC3 := Lib.hid (bC.alloc (.cells #[.int .i64 id, .int .i64 t, .int .i64 rem] tR))
              clear hbel hc bC hown hst hs
              go_wp2_with ((at_builtin; refine wpList_append_own _ rfl _ _ slR rfl W.heap.size tR i0 _ 3 24 Try.underlying33 hif hz0 hz1 hz2 rfl (by decide) _ _ _ rfl ho3.out ⟨(wr.heap.size + 1), 0, none⟩ 1 1 [.int .i64 id, .int .i64 t, .int .i64 rem] rfl rfl hcn (by simp [Value.oneCell']) (by first | omega | (unfold maxLen; omega)) (by omega) (by simp; omega) ?_))
              intro v8 w8 hown8 hgr8 _
              have ho8 := Lib.hid hown8
              have hsz8 := hgr8.size
              simp only [World.size_alloc] at hsz8
              have hb8 := Lib.hid (below_grown hb3.out hgr8 (Nat.le_refl _) (fun k hk => (own_block ho3.out hk).1))
              have bC8 := bC3.out.kept hgr8 (fun e => by have := hmo.out _ e.symm; omega)
              have d0 := bC8.cell 0
              have d1 := bC8.cell 1
              have d2 := bC8.cell 2
              simp only [List.getElem?_toArray, List.getElem?_cons_zero, List.getElem?_cons_succ] at d0 d1 d2
              have ho9 := Lib.hid (ho8.out.alloc (.cells #[.int .i64 c.id, .int .i64 c.t, .int .i64 c.p] tR))
              have hb9 := Lib.hid (hb8.out.alloc hb8.out.size (.cells #[.int .i64 c.id, .int .i64 c.t, .int .i64 c.p] tR))
              clear hown8 hgr8 bC8
              go_wp2_with ((at_builtin; refine wpList_append_own _ rfl _ _ slR rfl W.heap.size tR i0 _ 3 24 Try.underlying33 hif hz0 hz1 hz2 rfl (by decide) _ _ _ rfl ho9.out ⟨w8.heap.size, 0, none⟩ 1 1 [.int .i64 c.id, .int .i64 c.t, .int .i64 c.p] rfl rfl (cells_new _ _ _) (by simp [Value.oneCell']) (by first | omega | (unfold maxLen; omega)) (by omega) (by simp; omega) ?_))
              intro v10 w10 hown10 hgr10 _
              have ho10 := Lib.hid hown10
              have hb10 := Lib.hid (below_grown hb9.out hgr10 (Nat.le_refl _) (fun k hk => (own_block ho9.out hk).1))
              clear hown10 hgr10
              go_wp2
              go_roundw
              case rel => exact ⟨i + 1, _, rfl, by rw [hst'.out], by go_num, by omega, by rw [hst'.out]; simp only [flat_app, List.length_append, List.append_assoc]; exact ho10.out, hb10.out⟩
              case measure => simp [intOf]; omega
            · have hst' := Lib.hid (hst.trans (show jst ⟨id, t, rem⟩ (pb, ml) c = (pb, ml ++ [c]) from if_neg hins2))
              have ho3 := Lib.hid (ho2.out.alloc (.cells #[.int .i64 c.id, .int .i64 c.t, .int .i64 c.p] tR))
              have hb3 := Lib.hid (hb2.out.alloc hb2.out.size (.cells #[.int .i64 c.id, .int .i64 c.t, .int .i64 c.p] tR))
              have hcn := cells_new (wr.alloc (.cells #[.int .i64 c.id, .int .i64 c.t, .int .i64 c.p] tR)) [.int .i64 c.id, .int .i64 c.t, .int .i64 c.p] tR
              simp only [World.size_alloc] at hcn
              clear hbel hc bC hown hst hs
              cases pb with
              | true =>
                clear hins2
                go_wp2_with ((at_builtin; refine wpList_append_own _ rfl _ _ slR rfl W.heap.size tR i0 _ 3 24 Try.underlying33 hif hz0 hz1 hz2 rfl (by decide) _ _ _ rfl ho3.out ⟨(wr.heap.size + 1), 0, none⟩ 1 1 [.int .i64 c.id, .int .i64 c.t, .int .i64 c.p] rfl rfl hcn (by simp [Value.oneCell']) (by first | omega | (unfold maxLen; omega)) (by omega) (by simp; omega) ?_))
                intro v10 w10 hown10 hgr10 _
                have ho10 := Lib.hid hown10
                have hb10 := Lib.hid (below_grown hb3.out hgr10 (Nat.le_refl _) (fun k hk => (own_block ho3.out hk).1))
                clear hown10 hgr10
                go_wp2
                go_roundw
                case rel => exact ⟨i + 1, _, rfl, by rw [hst'.out], by go_num, by omega, by rw [hst'.out]; simp only [flat_app, List.length_append]; exact ho10.out, hb10.out⟩
                case measure => simp [intOf]; omega
              | false =>
                have hlt2 : ¬ id < c.id := fun h => hins2 ⟨rfl, h⟩
                clear hins2
                go_wp2_with ((at_builtin; refine wpList_append_own _ rfl _ _ slR rfl W.heap.size tR i0 _ 3 24 Try.underlying33 hif hz0 hz1 hz2 rfl (by decide) _ _ _ rfl ho3.out ⟨(wr.heap.size + 1), 0, none⟩ 1 1 [.int .i64 c.id, .int .i64 c.t, .int .i64 c.p] rfl rfl hcn (by simp [Value.oneCell']) (by first | omega | (unfold maxLen; omega)) (by omega) (by simp; omega) ?_))
                intro v10 w10 hown10 hgr10 _
                have ho10 := Lib.hid hown10
                have hb10 := Lib.hid (below_grown hb3.out hgr10 (Nat.le_refl _) (fun k hk => (own_block ho3.out hk).1))
                clear hown10 hgr10
                go_wp2
                go_roundw
                case rel => exact ⟨i + 1, _, rfl, by rw [hst'.out], by go_num, by omega, by rw [hst'.out]; simp only [flat_app, List.length_append]; exact ho10.out, hb10.out⟩
                case measure => simp [intOf]; omega
          · have hi' : i = l.length := by omega
            subst hi'
            rw [show l.take l.length = l from List.take_of_length_le (Nat.le_refl _)] at hown hjl ⊢
            obtain ⟨⟨pb, ml⟩, hs⟩ : ∃ s, jF ⟨id, t, rem⟩ l = s := ⟨_, rfl⟩
            have hins' := hins.out
            rw [hs] at hins' hown hjl ⊢
            dsimp only at hown hjl ⊢
            have hsz := hbel.size
            have hb2 := Lib.hid hbel
            have ho2 := Lib.hid hown
            clear hown hbel hs
            cases pb with
            | true =>
              have hml : ml = insL ⟨id, t, rem⟩ l := hins'
              subst hml
              clear hins'
              obtain ⟨Am, cm, rfl⟩ := slice_of_own ho2.out
              have hl3 : (insL ⟨id, t, rem⟩ l).length ≤ 3000 := by rw [hil.out]; omega
              go_wp2_with ((with_reducible refine gate_callee (f := 83) rfl ?_); refine goesL_ (some 76) rfl rfl Try.func83 (by kernel_rfl) rfl #[.slice Am (insL ⟨id, t, rem⟩ l).length cm] rfl (by (try simp only [List.map_toArray, List.map_cons, List.map_nil]); first | done | rfl) ?_; (with_reducible refine (levelR_calls W.heap.size Am cm _ _ hl3 hbd.out ho2.out).mono ?_); rintro e w9 ⟨u, rfl, u9, b9⟩; refine ⟨_, rfl, ?_⟩)
              go_ret2
              exact ⟨_, by rw [hj.out]; rfl, by rw [hj.out]; show World.ownsRow _ _ _ _ _ _ _; rw [level_len]; exact own_lower u9 (Nat.zero_le _), .inr (fun k hk => Nat.le_trans hb2.out.size (own_block u9 hk).1), hb2.out.trans (b9.mono hb2.out.size)⟩
            | false =>
              have hml : ml ++ [⟨id, t, rem⟩] = insL ⟨id, t, rem⟩ l := hins'
              clear hins'
              have ho3 := Lib.hid (ho2.out.alloc (.cells #[.int .i64 id, .int .i64 t, .int .i64 rem] tR))
              have hb3 := Lib.hid (hb2.out.alloc hb2.out.size (.cells #[.int .i64 id, .int .i64 t, .int .i64 rem] tR))
              have hml' := Lib.hid hml
              clear hml
              go_wp2_with ((at_builtin; refine wpList_append_own _ rfl _ _ slR rfl W.heap.size tR i0 _ 3 24 Try.underlying33 hif hz0 hz1 hz2 rfl (by decide) _ _ _ rfl ho3.out ⟨wr.heap.size, 0, none⟩ 1 1 [.int .i64 id, .int .i64 t, .int .i64 rem] rfl rfl (cells_new _ _ _) (by simp [Value.oneCell']) (by first | omega | (unfold maxLen; omega)) (by omega) (by simp; omega) ?_))
              intro v8 w8 hown8 hgr8 _
              have hb8 := Lib.hid (below_grown hb3.out hgr8 (Nat.le_refl _) (fun k hk => (own_block ho3.out hk).1))
              have ho8 := Lib.hid (show w8.ownsRow W.heap.size tR 3 v8 (insL ⟨id, t, rem⟩ l).length (flat (insL ⟨id, t, rem⟩ l)) by
                rw [← hml'.out, flat_app, List.length_append]
                exact hown8)
              clear hown8 hgr8
              obtain ⟨Am, cm, rfl⟩ := slice_of_own ho8.out
              have hl3 : (insL ⟨id, t, rem⟩ l).length ≤ 3000 := by rw [hil.out]; omega
              go_wp2_with ((with_reducible refine gate_callee (f := 83) rfl ?_); refine goesL_ (some 76) rfl rfl Try.func83 (by kernel_rfl) rfl #[.slice Am (insL ⟨id, t, rem⟩ l).length cm] rfl (by (try simp only [List.map_toArray, List.map_cons, List.map_nil]); first | done | rfl) ?_; (with_reducible refine (levelR_calls W.heap.size Am cm _ _ hl3 hbd.out ho8.out).mono ?_); rintro e w9 ⟨u, rfl, u9, b9⟩; refine ⟨_, rfl, ?_⟩)
              go_ret2
              exact ⟨_, by rw [hj.out]; rfl, by rw [hj.out]; show World.ownsRow _ _ _ _ _ _ _; rw [level_len]; exact own_lower u9 (Nat.zero_le _), .inr (fun k hk => Nat.le_trans hb8.out.size (own_block u9 hk).1), hb8.out.trans (b9.mono hb8.out.size)⟩
end Go.Proofs.Ytkcmmghhghgdpaa.Str
end
section
namespace Go.Proofs.Ytkcmmghhghgdpaa.Str
open Go.RowKit Go.Shelf Go.Maps Go.Proofs.Ytkcmmghhghgdpaa.Iter Go.Proofs.Ytkcmmghhghgdpaa.SeqM Go.Proofs.YtkcmmghhghgdpaaW.PrintWords Go.Proofs.YtkcmmghhghgdpaaW.PrintLast
set_option linter.unusedVariables false
set_option linter.unusedSimpArgs false
theorem below_drew {B : Nat} {w w' : World} (h : Below B w.drew w') : Below B w w' := ⟨h.os, h.tape, h.output, h.size, h.block⟩
end Go.Proofs.Ytkcmmghhghgdpaa.Str
end
section
namespace Go.Proofs.Ytkcmmghhghgdpaa.Str
open Go.RowKit Go.Shelf Go.Maps Go.Proofs.Ytkcmmghhghgdpaa.Iter Go.Proofs.Ytkcmmghhghgdpaa.SeqM Go.Proofs.YtkcmmghhghgdpaaW.PrintWords Go.Proofs.YtkcmmghhghgdpaaW.PrintLast
set_option linter.unusedVariables false
set_option linter.unusedSimpArgs false
theorem levelR_calls2 (B : Nat) (A : Option Addr) (c0 n : Nat) (l : List Cl) (W : World) (hn : n = l.length) (hlen : l.length ≤ 3000) (hb : ∀ c ∈ l, 0 ≤ c.p ∧ c.p ≤ 1500000) (hr : W.ownsRow B tR 3 (.slice A n c0) n (flat l)) :
    Calls Try.prog 83 #[.slice A n c0] W fun e W' => ∃ u, e = .returned u ∧ W'.ownsRow W.heap.size tR 3 u l.length (flat (levelL l)) ∧ Below W.heap.size W W' := by
  subst hn
  exact levelR_calls B A c0 l W hlen hb hr
theorem own_some {W : World} {base e size n : Nat} {v : Value} {xs : List Value} (h : W.ownsRow base e size v n xs) (hn : 0 < n) : ∃ g c, v = .slice (some ⟨g, 0, none⟩) n c := by
  rcases h.2 with ⟨_, h0⟩ | ⟨g, cap, cur, rfl, _⟩
  · omega
  · exact ⟨g, cap, rfl⟩
/-- A copy of a row: append([]Client{}, l...). -/
theorem run_copy_row0 {w : World} {g cap : Nat} {l : List Cl} (hr : w.ownsRow 0 tR 3 (.slice (some ⟨g, 0, none⟩) l.length cap) l.length (flat l)) (hl : l.length ≤ 2000) :
    ∃ v' w', (Builtin.append_ #[slR, slR] slR #[.slice (some ⟨w.heap.size, 0, none⟩) 0 0, .slice (some ⟨g, 0, none⟩) l.length cap]).run Try.prog (w.alloc (.cells #[] tR)) = .ok v' w' ∧ w'.ownsRow w.heap.size tR 3 v' l.length (flat l) ∧ (w.alloc (.cells #[] tR)).grownBy w' (some w.heap.size) := by
  obtain ⟨i0, hif, hz0, hz1, hz2⟩ := info_parts infoR
  have hd := (hr.alloc (.cells #[] tR)).cells (g := g) rfl
  obtain ⟨v', w', h1, h2, h3, _⟩ := run_append_own2 (P := Try.prog) (w.alloc (.cells #[] tR)) w.heap.size slR slR tR i0 (.agg #[.int .i64 0, .int .i64 0, .int .i64 0]) 3 24 Try.underlying33 hif hz0 hz1 hz2 rfl (by decide)
    (.slice (some ⟨w.heap.size, 0, none⟩) 0 0) 0 [] (World.ownsRow_made w #[] 0 (Nat.le_refl _) (Nat.zero_le _) (by simp)) ⟨g, 0, none⟩ l.length cap (flat l) (flat_len l) hd (flat_one l) (by unfold maxLen; omega) (by omega) (by simp)
  refine ⟨v', w', h1, ?_, h3⟩
  rw [Nat.zero_add] at h2
  exact h2

set_option maxRecDepth 100000 in
set_option maxHeartbeats 8000000 in
theorem pickD_callsQ (A : Option Addr) (c0 : Nat) (l : List Cl) (W : World) (hgood : GoodG l) (hr : RowR W (.slice A l.length c0) l) :
    Calls Try.prog 51 #[.slice A l.length c0] W fun e W' => ∃ u, e = .returned (.tuple #[u, .int .i64 (pickR l).2.1, .int .i64 (pickR l).2.2]) ∧ RowR W' u (pickR l).1 ∧ (u = .slice A l.length c0 ∨ ∀ k, u.ownBlock = some k → W.heap.size ≤ k) ∧ Below W.heap.size W W' := by
  have hln := good_len hgood
  have hr' := Lib.hid hr
  have hrd := Lib.hid hr.reads
  by_cases hemp : l = []
  · have hl0 : (l.length : Int) = 0 := by rw [hemp]; rfl
    have hj := Lib.hid (show pickR l = (l, 0, 8) from if_pos hemp)
    clear hemp hgood hr
    go_enter Try.func51, Try.ntmps51
    go_wp2
    go_ret3
    exact ⟨_, by rw [hj.out]; rfl, by rw [hj.out]; exact hr'.out, .inl rfl, Below.refl _ _⟩
  · have hpos : 0 < l.length := by cases l with | nil => exact absurd rfl hemp | cons => simp
    have hl0 : ((l.length : Int) == 0) = false := beq_eq_false_iff_ne.mpr (by omega)
    have hj := Lib.hid (show pickR l = ((pickL l).1, (pickL l).2, 0) from if_neg hemp)
    have hbb := Lib.hid (bump_bound hgood (firstL l))
    have hok := Lib.hid hgood.1.1
    clear hemp hgood hr
    go_enter Try.func51, Try.ntmps51
    go_wp2
    go_loopw [5, 15] (fun bv iv wr => ∃ (best i : Nat), bv = .int .i64 (best : Int) ∧ iv = .int .i64 (i : Int) ∧ i ≤ l.length ∧ best < l.length ∧ firstL l = firstFrom l best i (l.drop i) ∧ Below W.heap.size W wr)
      (fun _ iv _ => l.length - (intOf iv).toNat)
    case atStart => exact ⟨0, 0, rfl, rfl, Nat.zero_le _, hpos, rfl, Below.refl _ _⟩
    case round =>
      obtain ⟨best, i, rfl, rfl, hi, hb, hF, hbel⟩ := hrel
      have hF' := Lib.hid hF
      clear hF
      by_cases hlt : i < l.length
      · obtain ⟨c, hc⟩ : ∃ c, l[i]? = some c := ⟨l[i], List.getElem?_eq_getElem hlt⟩
        obtain ⟨d, hd⟩ : ∃ d, l[best]? = some d := ⟨l[best], List.getElem?_eq_getElem hb⟩
        have hb2 := Lib.hid (hbel.alloc hbel.size (.cells #[.int .i64 c.id, .int .i64 c.t, .int .i64 c.p] tR))
        obtain ⟨g, rfl, _, q0, q1, q2⟩ := (hrd.out.below hbel) i c hc
        obtain ⟨g2, hg2, _, _, _, z2⟩ := (hrd.out.below hb2.out) best d hd
        injection hg2 with hg2
        injection hg2 with hg2
        subst hg2
        have bC := Blk.new wr tR #[.int .i64 c.id, .int .i64 c.t, .int .i64 c.p]
        have c2 := bC.cell 2
        simp only [List.getElem?_toArray, List.getElem?_cons_zero, List.getElem?_cons_succ] at c2
        have hst := firstFrom_drop l best i hlt
        unfold fstep at hst
        rw [show l.getD i ⟨0, 0, 0⟩ = c by simp [hc], show l.getD best ⟨0, 0, 0⟩ = d by simp [hd]] at hst
        have hst' := Lib.hid (hF'.out.trans hst)
        clear hst bC hc hd hbel
        by_cases hp : c.p < d.p
        · have x1 : decide (c.p < d.p) = true := decide_eq_true hp
          go_wp2
          go_quiet (fail)
          go_wp2
          go_roundw
          case rel => exact ⟨i, i + 1, by first | rfl | go_num, by go_num, by omega, by omega, by rw [hst'.out, if_pos hp], by first | exact hb2.out | exact hb2.out.drew | exact pw_below_drewN hb2.out _⟩
          case measure => simp [intOf]; omega
        · have x1 : decide (c.p < d.p) = false := decide_eq_false hp
          go_wp2
          go_quiet (fail)
          go_wp2
          go_roundw
          case rel => exact ⟨best, i + 1, by first | rfl | go_num, by go_num, by omega, by omega, by rw [hst'.out, if_neg (by omega)], by first | exact hb2.out | exact hb2.out.drew | exact pw_below_drewN hb2.out _⟩
          case measure => simp [intOf]; omega
      · have hi' : i = l.length := by omega
        subst hi'
        have hf : firstL l = best := by rw [hF'.out, List.drop_of_length_le (Nat.le_refl _)]; rfl
        clear hF'
        obtain ⟨d, hd⟩ : ∃ d, l[best]? = some d := ⟨l[best], List.getElem?_eq_getElem hb⟩
        obtain ⟨g, rfl, _, q0, q1, q2⟩ := (hrd.out.below hbel) best d hd
        have hrw := hr'.out.below hbel
        obtain ⟨v9, w9, hrun9, hown9, hgr9⟩ := run_copy_row0 hrw (by omega)
        have hb9 := Lib.hid (below_grown (hbel.alloc hbel.size (.cells #[] tR)) hgr9 (Nat.le_refl _) (fun k hk => by injection hk with hk; have := hbel.size; omega))
        obtain ⟨mg, mc, rfl⟩ := own_some hown9 hpos
        have hpk := Lib.hid (show pickL l = (levelL (l.modify best bump), d.id) by
          unfold pickL
          rw [hf, show l.getD best ⟨0, 0, 0⟩ = d by simp [hd]])
        have hbb := Lib.hid (show ∀ c ∈ l.modify best bump, 0 ≤ c.p ∧ c.p ≤ 1500000 by rw [← hf]; exact hbb.out)
        obtain ⟨k1, k2, k3, k4⟩ := hok.out d (List.mem_of_getElem? hd)
        have hsd := sd_nonneg k1 k2
        have hw : IntKind.i64.wrap (d.p + sd d.t) = d.p + sd d.t := IntWalk.i64_in _ (by omega)
        have p1 := hown9.cellAt (best * 3 + 1) (by omega)
        rw [flat_get l best 1 d (by omega) hd] at p1
        have p2 := hown9.cellAt (best * 3 + 2) (by omega)
        rw [flat_get l best 2 d (by omega) hd] at p2
        simp only [cC, List.getElem?_cons_zero, List.getElem?_cons_succ] at p1 p2
        have f2 := hown9.frozenAt (best * 3 + 2)
        have hstored := (hown9.stored (best * 3 + 2) (.int .i64 (d.p + sd d.t))).1
        rw [flat_setP, modify_bump l best d hd] at hstored
        have hst' := Lib.hid hstored
        have hbs := Lib.hid (hb9.out.setCell (p := ⟨mg, best * 3 + 2, none⟩) (by have := (own_block hown9 (k := mg) rfl).1; have := hbel.size; simp; omega) (.int .i64 (d.p + sd d.t)))
        have hrd9 := Lib.hid (hrd.out.below hbs.out)
        obtain ⟨g2, hg2, _, r0, _, _⟩ := hrd9.out best d hd
        injection hg2 with hg2
        injection hg2 with hg2
        subst hg2
        have hgl := World.block_lt_of_cell? _ _ r0
        have hll : (l.modify best bump).length = l.length := List.length_modify ..
        have hl3 : (l.modify best bump).length ≤ 3000 := by omega
        clear hf hd hrw hown9 hgr9 hbel hstored
        go_upto_region 11 with (at_builtin; refine wpList_append_run _ rfl _ _ _ _ rfl _ _ rfl rfl hrun9 ?_)
        go_wp2_with fail
        go_region_law (first | (go_simp; go_at_call 82; refine (sdR_calls d.t _ k1 k2).mono ?_; rintro e w2 ⟨rfl, rfl⟩))
        all_goals (
          go_wp2
          go_region_held3 (fun w' => w'.cell? ⟨g, best * 3, none⟩ = some (.int .i64 d.id)) (first | go_keep | exact (b10.cell (p := ⟨g, best * 3, none⟩) (by simpa using hgl)).trans (by assumption))
            (first | (go_at_call 83; refine (levelR_calls2 wr.heap.size (some ⟨mg, 0, none⟩) mc l.length (l.modify best bump) _ hll.symm hl3 hbb.out (by exact hst'.out)).mono ?_; rintro e w10 ⟨u, rfl, u10, b10⟩))
          go_wp2
          go_ret3
          refine ⟨_, by rw [hj.out, hpk.out]; rfl, ?_, .inr (fun k hk => Nat.le_trans hbs.out.size (own_block u10 hk).1), ?_⟩
          · rw [hj.out, hpk.out]
            show World.ownsRow _ _ _ _ _ _ _
            rw [level_len]
            exact own_lower u10 (Nat.zero_le _)
          · exact hbs.out.trans ((below_drew (below_drew b10)).mono hbs.out.size))
end Go.Proofs.Ytkcmmghhghgdpaa.Str
end
section
namespace Go.Proofs.Ytkcmmghhghgdpaa.Agt
open Go.RowKit Go.Shelf Go.Maps Go.Proofs.Ytkcmmghhghgdpaa.Iter Go.Proofs.Ytkcmmghhghgdpaa.Str Go.Proofs.YtkcmmghhghgdpaaW.PrintWords Go.Proofs.YtkcmmghhghgdpaaW.PrintLast
set_option linter.unusedVariables false
set_option linter.unusedSimpArgs false
abbrev tDA : Nat := 91
abbrev tDJ : Nat := 163
/-- Where a job of the document lies: its cores, its clients. -/
structure DJ where
  A : Option Addr
  c : Nat
  u : Value
abbrev jdCs (p : Jb × DJ) : List Value := [.int .i64 p.1.le.task, .int .i64 p.1.le.queue, .int .i64 p.1.le.node, .slice p.2.A p.1.le.cores.length p.2.c, .int .i64 p.1.le.mem, .int .i64 p.1.le.since, .int .i64 p.1.le.til, .bool p.1.le.stop, .int .i64 p.1.work, .int .i64 p.1.had, .int .i64 p.1.frm, p.2.u]
def flatD (l : List (Jb × DJ)) : List Value := l.flatMap jdCs
theorem flatD_app (l m : List (Jb × DJ)) : flatD (l ++ m) = flatD l ++ flatD m := by simp [flatD]
theorem flatD_get : ∀ (l : List (Jb × DJ)) (j i : Nat) (p : Jb × DJ), i < 12 → l[j]? = some p → (flatD l)[j * 12 + i]? = (jdCs p)[i]?
  | [], j, i, p, _, h => by simp at h
  | x :: l, 0, i, p, hi, h => by
    obtain rfl : x = p := by simpa using h
    show (jdCs x ++ flatD l)[0 * 12 + i]? = _
    rw [Nat.zero_mul, Nat.zero_add, List.getElem?_append_left (by simp; omega)]
  | x :: l, j + 1, i, p, hi, h => by
    show (jdCs x ++ flatD l)[(j + 1) * 12 + i]? = _
    rw [List.getElem?_append_right (by simp; omega)]
    have := flatD_get l j i p hi (by simpa using h)
    rw [← this]
    congr 1
    simp
    omega
/-- A job's own rows. -/
structure DocJ (Q : Nat → Prop) (W : World) (p : Jb × DJ) : Prop where
  cores : W.ownsRow 0 tI 1 (.slice p.2.A p.1.le.cores.length p.2.c) p.1.le.cores.length (p.1.le.cores.map (Value.int .i64))
  coreQ : ∀ k, (Value.slice p.2.A p.1.le.cores.length p.2.c).ownBlock = some k → Q k
  grp : RowR W p.2.u p.1.th
  grpQ : ∀ k, p.2.u.ownBlock = some k → Q k
/-- The document's agent. -/
structure DocM (Q : Nat → Prop) (vs vj : Value) (l : List (Jb × DJ)) (S : Ag) (W : World) : Prop where
  fst : l.map (·.1) = S.jobs
  sent : W.ownsRow 0 tQ 1 vs S.sent.length (S.sent.map (Value.int .i64))
  sentQ : ∀ k, vs.ownBlock = some k → Q k
  jrow : W.ownsRow 0 tDJ 12 vj l.length (flatD l)
  jrowQ : ∀ k, vj.ownBlock = some k → Q k
  job : ∀ p ∈ l, DocJ Q W p
/-- As a value. -/
def DocR (Q : Nat → Prop) (W : World) (x : Value) (S : Ag) : Prop := ∃ vs vj l, x = .agg (agCells S vs vj) ∧ DocM Q vs vj l S W
section
variable {Q Q' : Nat → Prop} {vs vj : Value} {l : List (Jb × DJ)} {S : Ag} {W W' : World} {x : Value}
theorem DocJ.keep {p : Jb × DJ} (h : DocJ Q W p) (hk : ∀ k, k < W.heap.size → Q k → W'.heap[k]? = W.heap[k]?) : DocJ Q W' p :=
  ⟨Str.own_move h.cores fun k hb => hk k (own_block h.cores hb).2.1 (h.coreQ k hb), h.coreQ, Str.own_move h.grp fun k hb => hk k (own_block h.grp hb).2.1 (h.grpQ k hb), h.grpQ⟩
theorem DocJ.mono {p : Jb × DJ} (h : DocJ Q W p) (hq : ∀ k, k < W.heap.size → Q k → Q' k) : DocJ Q' W p :=
  ⟨h.cores, fun k hb => hq k (own_block h.cores hb).2.1 (h.coreQ k hb), h.grp, fun k hb => hq k (own_block h.grp hb).2.1 (h.grpQ k hb)⟩
theorem DocM.keep (h : DocM Q vs vj l S W) (hk : ∀ k, k < W.heap.size → Q k → W'.heap[k]? = W.heap[k]?) : DocM Q vs vj l S W' :=
  ⟨h.fst, Str.own_move h.sent fun k hb => hk k (own_block h.sent hb).2.1 (h.sentQ k hb), h.sentQ, Str.own_move h.jrow fun k hb => hk k (own_block h.jrow hb).2.1 (h.jrowQ k hb), h.jrowQ, fun p hp => (h.job p hp).keep hk⟩
theorem DocM.mono (h : DocM Q vs vj l S W) (hq : ∀ k, k < W.heap.size → Q k → Q' k) : DocM Q' vs vj l S W :=
  ⟨h.fst, h.sent, fun k hb => hq k (own_block h.sent hb).2.1 (h.sentQ k hb), h.jrow, fun k hb => hq k (own_block h.jrow hb).2.1 (h.jrowQ k hb), fun p hp => (h.job p hp).mono hq⟩
theorem DocM.below (h : DocM Q vs vj l S W) (hb : Below W.heap.size W W') : DocM Q vs vj l S W' := h.keep fun k hk _ => hb.block k hk
theorem DocM.len (h : DocM Q vs vj l S W) : l.length = S.jobs.length := by rw [← h.fst, List.length_map]
theorem DocM.none (h1 : S.sent = []) (h2 : S.jobs = []) : DocM Q (.slice .none 0 0) (.slice .none 0 0) [] S W :=
  ⟨by rw [h2]; rfl, by rw [h1]; exact World.ownsRow_nil _ _ _ _, (fun k hk => by cases hk), World.ownsRow_nil _ _ _ _, (fun k hk => by cases hk), fun p hp => by cases hp⟩
theorem DocR.keep (h : DocR Q W x S) (hk : ∀ k, k < W.heap.size → Q k → W'.heap[k]? = W.heap[k]?) : DocR Q W' x S := by
  obtain ⟨vs, vj, l, h1, h2⟩ := h
  exact ⟨vs, vj, l, h1, h2.keep hk⟩
theorem DocR.mono (h : DocR Q W x S) (hq : ∀ k, k < W.heap.size → Q k → Q' k) : DocR Q' W x S := by
  obtain ⟨vs, vj, l, h1, h2⟩ := h
  exact ⟨vs, vj, l, h1, h2.mono hq⟩
theorem DocR.below (h : DocR Q W x S) (hb : Below W.heap.size W W') : DocR Q W' x S := h.keep fun k hk _ => hb.block k hk
end
/-- Twelve cells stored one behind the other. -/
abbrev set12 (w : World) (b : Nat) (v0 v1 v2 v3 v4 v5 v6 v7 v8 v9 v10 v11 : Value) : World :=
  (((((((((((w.setCell ⟨b, 0, none⟩ v0).setCell ⟨b, 1, none⟩ v1).setCell ⟨b, 2, none⟩ v2).setCell ⟨b, 3, none⟩ v3).setCell ⟨b, 4, none⟩ v4).setCell ⟨b, 5, none⟩ v5).setCell ⟨b, 6, none⟩ v6).setCell ⟨b, 7, none⟩ v7).setCell ⟨b, 8, none⟩ v8).setCell ⟨b, 9, none⟩ v9).setCell ⟨b, 10, none⟩ v10).setCell ⟨b, 11, none⟩ v11
theorem blk12 {w : World} {b : Nat} {t : TypeId} {cs : Array Value} (h : Blk w b t cs) (hs : cs.size = 12) (v0 v1 v2 v3 v4 v5 v6 v7 v8 v9 v10 v11 : Value) : Blk (set12 w b v0 v1 v2 v3 v4 v5 v6 v7 v8 v9 v10 v11) b t #[v0, v1, v2, v3, v4, v5, v6, v7, v8, v9, v10, v11] := by
  obtain ⟨l⟩ := cs
  match l, hs with
  | [a0, a1, a2, a3, a4, a5, a6, a7, a8, a9, a10, a11], _ =>
    have := (((((((((((h.set 0 v0 (by simp)).set 1 v1 (by simp)).set 2 v2 (by simp)).set 3 v3 (by simp)).set 4 v4 (by simp)).set 5 v5 (by simp)).set 6 v6 (by simp)).set 7 v7 (by simp)).set 8 v8 (by simp)).set 9 v9 (by simp)).set 10 v10 (by simp)).set 11 v11 (by simp)
    simpa using this
theorem below12 {B : Nat} {w W : World} {b : Nat} (h : Below B W w) (hb : B ≤ b) (v0 v1 v2 v3 v4 v5 v6 v7 v8 v9 v10 v11 : Value) : Below B W (set12 w b v0 v1 v2 v3 v4 v5 v6 v7 v8 v9 v10 v11) :=
  (((((((((((h.setCell (p := ⟨b, 0, none⟩) hb _).setCell (p := ⟨b, 1, none⟩) hb _).setCell (p := ⟨b, 2, none⟩) hb _).setCell (p := ⟨b, 3, none⟩) hb _).setCell (p := ⟨b, 4, none⟩) hb _).setCell (p := ⟨b, 5, none⟩) hb _).setCell (p := ⟨b, 6, none⟩) hb _).setCell (p := ⟨b, 7, none⟩) hb _).setCell (p := ⟨b, 8, none⟩) hb _).setCell (p := ⟨b, 9, none⟩) hb _).setCell (p := ⟨b, 10, none⟩) hb _).setCell (p := ⟨b, 11, none⟩) hb _
theorem DocM.of {Q : Nat → Prop} {vs vj : Value} {l : List (Jb × DJ)} {S S' : Ag} {W : World} (h : DocM Q vs vj l S W) (e1 : S'.sent = S.sent) (e2 : S'.jobs = S.jobs) : DocM Q vs vj l S' W :=
  ⟨by rw [e2]; exact h.fst, by rw [e1]; exact h.sent, h.sentQ, h.jrow, h.jrowQ, h.job⟩
/-- A copy of a row: append([]E{}, l...). -/
theorem copy_run {P : Program} {w : World} {t e : TypeId} {z : Value} {size bytes : Nat} (ht : P.underlying t = some (.slice e)) (hinfo : (P.info? e).map (fun i => (i.zero, i.size, i.bytes)) = some (some z, size, bytes)) (hzs : z.cells.size = size) (hsz : 0 < size) (hby : bytes ≤ 1000)
    {base : Nat} {u : Value} {m : Nat} {ys : List Value} (hy : w.ownsRow base e size u m ys) (h1 : ∀ x ∈ ys, x.oneCell' = true) (hm : m ≤ 100000000) :
    ∃ v' w', (Builtin.append_ #[t, t] t #[.slice (some ⟨w.heap.size, 0, none⟩) 0 0, u]).run P (w.alloc (.cells #[] e)) = .ok v' w' ∧ w'.ownsRow w.heap.size e size v' m ys ∧ Below w.heap.size w w' := by
  obtain ⟨i0, hif, hz0, hz1, hz2⟩ := info_parts hinfo
  have hr0 : (w.alloc (.cells #[] e)).ownsRow w.heap.size e size (.slice (some ⟨w.heap.size, 0, none⟩) 0 0) 0 [] := World.ownsRow_made w #[] 0 (Nat.le_refl _) (Nat.zero_le _) (by simp)
  have hb0 : Below w.heap.size w (w.alloc (.cells #[] e)) := (Below.refl _ _).alloc (Nat.le_refl _) _
  rcases hy.2 with ⟨rfl, h0⟩ | ⟨g, cap, cur, rfl, _, hg, hc, hmx, _⟩
  · subst h0
    have hys : ys = [] := by have := hy.1; simpa using this
    subst hys
    exact ⟨_, _, run_append_owned_none (w.alloc (.cells #[] e)) w.heap.size t t e i0 size ht hif _ 0 _ hr0, hr0, hb0⟩
  · have hd := (hy.alloc (.cells #[] e)).cells (g := g) rfl
    have hbb : (0 + m) * bytes ≤ 140737488355328 := by
      have : (0 + m) * bytes ≤ 100000000 * 1000 := Nat.mul_le_mul (by omega) hby
      omega
    obtain ⟨v', w', k1, k2, k3, _⟩ := run_append_own2 (P := P) (w.alloc (.cells #[] e)) w.heap.size t t e i0 z size bytes ht hif hz0 hz1 hz2 hzs hsz _ 0 [] hr0 ⟨g, 0, none⟩ m cap ys hy.1 hd h1 (by unfold maxLen; omega) hbb (by simp)
    rw [Nat.zero_add] at k2
    exact ⟨v', w', k1, k2, below_grown hb0 k3 (Nat.le_refl _) fun k hk => Nat.le_of_eq (Option.some.inj (show some w.heap.size = some k from hk))⟩
theorem ints_one (xs : List Int) : ∀ x ∈ xs.map (Value.int .i64), x.oneCell' = true := fun x hx => by
  obtain ⟨y, _, rfl⟩ := List.mem_map.1 hx
  rfl
theorem drew_heap (w : World) : w.drew.heap = w.heap := rfl
theorem set12_heap (w : World) (b : Nat) (v0 v1 v2 v3 v4 v5 v6 v7 v8 v9 v10 v11 : Value) {k : Nat} (hk : k ≠ b) : (set12 w b v0 v1 v2 v3 v4 v5 v6 v7 v8 v9 v10 v11).heap[k]? = w.heap[k]? := by
  unfold set12
  rw [Below.heap_setCell _ _ _ k hk, Below.heap_setCell _ _ _ k hk, Below.heap_setCell _ _ _ k hk, Below.heap_setCell _ _ _ k hk, Below.heap_setCell _ _ _ k hk, Below.heap_setCell _ _ _ k hk, Below.heap_setCell _ _ _ k hk, Below.heap_setCell _ _ _ k hk, Below.heap_setCell _ _ _ k hk, Below.heap_setCell _ _ _ k hk, Below.heap_setCell _ _ _ k hk, Below.heap_setCell _ _ _ k hk]
end Go.Proofs.Ytkcmmghhghgdpaa.Agt
end
section
namespace Go.Proofs.Ytkcmmghhghgdpaa.Agt
open Go.RowKit Go.Shelf Go.Maps Go.Proofs.Ytkcmmghhghgdpaa.Iter Go.Proofs.Ytkcmmghhghgdpaa.Str Go.Proofs.YtkcmmghhghgdpaaW.PrintWords Go.Proofs.YtkcmmghhghgdpaaW.PrintLast
set_option linter.unusedVariables false
set_option linter.unusedSimpArgs false
abbrev zD : Array Value := #[.int .i64 0, .int .i64 0, .int .i64 0, .int .i64 0, .int .i64 0, .int .i64 0, .int .i64 0, .bool false, .int .i64 0, .slice none 0 0, .int .i64 0, .slice none 0 0]
theorem results_c {P : Program} {fn : Func} {p : Tmp} {ty : TypeId} (h : fn.results = #[.cell p ty]) (tmps : Array Value) (w : World) (g : Nat) (t : TypeId) (cs : Array Value) (fr : Nat × Nat) (d : TypeDesc)
    (hp : tmps.getD p undef = .pointer (some ⟨g, 0, none⟩)) (hg : w.heap[g]? = some (.cells cs t fr))
    (hu : P.underlying ty = some d) (hd : (match d with | .struct _ | .array _ _ => true | _ => false) = true) (hi : (P.info? ty).map (·.size) = some cs.size) :
    (results fn tmps).run P w = .ok (.agg cs) w := by
  have hp' : tmps[p]?.getD undef = .pointer (some ⟨g, 0, none⟩) := by simpa using hp
  simp [results, h, hp', asAddr, run_loadVar_row w g t ty cs fr d hg hu hd hi]
theorem below2 {W : World} (o o2 : Obj) : Below W.heap.size W ((W.alloc o).alloc o2) := ((Below.refl _ _).alloc (Nat.le_refl _) _).alloc (by simp) _
theorem below3 {W : World} (o o2 o3 : Obj) : Below W.heap.size W (((W.alloc o).alloc o2).alloc o3) := (below2 o o2).alloc (by have := (below2 (W := W) o o2).size; exact this) _
theorem u64_i64 {x : Int} (h1 : 9223372036854775807 < x) (h2 : x ≤ 18446744073709551615) : IntKind.i64.wrap x = x - 18446744073709551616 := by
  have h := IntWalk.i64_in (x - 18446744073709551616) (by omega)
  rw [← h]
  simp [IntKind.wrap, IntKind.signed, IntKind.bits]
theorem i64_u64 {x : Int} (h1 : 9223372036854775807 < x) (h2 : x ≤ 18446744073709551615) : IntKind.u64.wrap (x - 18446744073709551616) = x := by
  have h := IntWalk.u64_in x (by omega)
  rw [← h]
  simp [IntKind.wrap, IntKind.signed, IntKind.bits]
set_option maxRecDepth 100000 in
set_option maxHeartbeats 4000000 in
theorem ofD (x : Int) (W : World) (h1 : 0 ≤ x) (h2 : x ≤ 9223372036854775807) : Calls Try.prog 99 #[.int .i64 x] W fun e W' => e = .returned (.agg #[.int .i64 0, .int .u64 x]) ∧ Below W.heap.size W W' := by
  have u1 : IntKind.u64.wrap x = x := IntWalk.u64_in _ (by omega)
  have p1 : ¬ x < 0 := by omega
  clear h1 h2
  go_enter Try.func99, Try.ntmps99
  go_wp2
  have RR := (Blk.new W 173 #[.int .i64 0, .int .u64 x]).alloc (.cells #[.int .i64 0, .int .u64 x] 173)
  try rw [World.size_alloc] at RR
  try rw [World.size_alloc] at RR
  refine bodyPost_ret (results_c rfl _ _ W.heap.size 173 #[.int .i64 0, .int .u64 x] (0, 0) _ rfl RR Try.underlying173 rfl (by kernel_rfl)) rfl ?_
  exact ⟨rfl, below2 _ _⟩
set_option maxRecDepth 100000 in
set_option maxHeartbeats 4000000 in
theorem ofD2 (z : Int) (W : World) (h1 : 9223372036854775807 < z) (h2 : z ≤ 18446744073709551615) : Calls Try.prog 99 #[.int .i64 (z - 18446744073709551616)] W fun e W' => e = .returned (.agg #[.int .i64 (-1), .int .u64 z]) ∧ Below W.heap.size W W' := by
  have u1 : IntKind.u64.wrap (z - 18446744073709551616) = z := i64_u64 h1 h2
  have p1 : z - 18446744073709551616 < 0 := by omega
  obtain ⟨x, hx⟩ : ∃ x, z - 18446744073709551616 = x := ⟨_, rfl⟩
  rw [hx] at u1 p1 ⊢
  clear h1 h2 hx
  go_enter Try.func99, Try.ntmps99
  go_wp2
  have RR := (Blk.new W 173 #[.int .i64 (-1), .int .u64 z]).alloc (.cells #[.int .i64 (-1), .int .u64 z] 173)
  try rw [World.size_alloc] at RR
  try rw [World.size_alloc] at RR
  refine bodyPost_ret (results_c rfl _ _ W.heap.size 173 #[.int .i64 (-1), .int .u64 z] (0, 0) _ rfl RR Try.underlying173 rfl (by kernel_rfl)) rfl ?_
  exact ⟨rfl, below2 _ _⟩
set_option maxRecDepth 100000 in
set_option maxHeartbeats 4000000 in
theorem plusD (x y : Int) (W : World) (h1 : 0 ≤ x) (h2 : x ≤ 9223372036854775807) (h3 : 0 ≤ y) (h4 : y ≤ 9223372036854775807) : Calls Try.prog 98 #[.agg #[.int .i64 0, .int .u64 x], .agg #[.int .i64 0, .int .u64 y]] W fun e W' => e = .returned (.agg #[.int .i64 0, .int .u64 (x + y)]) ∧ Below W.heap.size W W' := by
  have u3 : IntKind.u64.wrap (x + y) = x + y := IntWalk.u64_in _ (by omega)
  have p3 : ¬ x + y < x := by omega
  clear h1 h2 h3 h4
  go_enter Try.func98, Try.ntmps98
  go_wp2
  have RR := (Blk.new ((W.alloc (.cells #[.int .i64 0, .int .u64 x] 173)).alloc (.cells #[.int .i64 0, .int .u64 y] 173)) 173 #[.int .i64 0, .int .u64 (x + y)])
  try rw [World.size_alloc] at RR
  try rw [World.size_alloc] at RR
  refine bodyPost_ret (results_c rfl _ _ (W.heap.size + 1 + 1) 173 #[.int .i64 0, .int .u64 (x + y)] (0, 0) _ rfl RR Try.underlying173 rfl (by kernel_rfl)) rfl ?_
  exact ⟨rfl, below3 _ _ _⟩
set_option maxRecDepth 100000 in
theorem eqWide (d : Nat) (w : World) (x0 y0 x1 y1 : Int) :
    (Op.equalIn (d + 2) 173 (.agg #[.int .i64 x0, .int .u64 x1]) (.agg #[.int .i64 y0, .int .u64 y1])).run Try.prog w = .ok (x0 == y0 && (x1 == y1)) w := by
  refine eqA_of Try.underlying173 (by kernel_rfl) ?_
  refine eqf_cons (by rfl) (by go_simp; rfl) (by go_simp; rfl) (by go_simp) ?_
  exact eqf_last (by rfl) (by go_simp; rfl) (by go_simp; rfl) (by go_simp)
set_option maxRecDepth 100000 in
set_option maxHeartbeats 4000000 in
theorem narrowD (z : Int) (W : World) (h1 : 0 ≤ z) (h2 : z ≤ 18446744073709551615) : Calls Try.prog 97 #[.agg #[.int .i64 0, .int .u64 z]] W fun e W' => e = .returned (.tuple #[.int .i64 (if 9223372036854775807 < z then 0 else z), .int .i64 (if 9223372036854775807 < z then 2 else 0)]) ∧ Below W.heap.size W W' := by
  have bX := Blk.new W 173 #[.int .i64 0, .int .u64 z]
  have d0 := bX.cell 0
  have d1 := bX.cell 1
  simp only [List.getElem?_toArray, List.getElem?_cons_zero, List.getElem?_cons_succ] at d0 d1
  have bX' := Lib.hid bX
  have b0' := Lib.hid ((Below.refl W.heap.size W).alloc (Nat.le_refl _) (.cells #[.int .i64 0, .int .u64 z] 173))
  clear bX
  by_cases hb : 9223372036854775807 < z
  · rw [if_pos hb, if_pos hb]
    have u1 := u64_i64 hb h2
    have hb' := Lib.hid hb
    have h2' := Lib.hid h2
    have heq : ∀ w, (Op.equalIn 10000 173 (.agg #[.int .i64 (-1), .int .u64 z]) (.agg #[.int .i64 0, .int .u64 z])).run Try.prog w = .ok false w := fun w => by simpa using eqWide 9998 w (-1) 0 z z
    clear hb h1 h2
    go_enter Try.func97, Try.ntmps97
    go_wp2
    go_region_held3 (fun w' => w'.cell? ⟨W.heap.size, 0, none⟩ = some (.int .i64 0) ∧ w'.cell? ⟨W.heap.size, 1, none⟩ = some (.int .u64 z)) (first | go_keep | exact ⟨e0, e1⟩) (first | (go_at_call 99; refine (ofD2 z _ hb'.out h2'.out).mono ?_; rintro e w5 ⟨rfl, b5⟩; have bX5 := bX'.out.below (Str.below_drew b5) bX'.out.lt; have e0 := bX5.cell 0; have e1 := bX5.cell 1; simp only [List.getElem?_toArray, List.getElem?_cons_zero, List.getElem?_cons_succ] at e0 e1; have b5' := Lib.hid b5; clear b5 bX5))
    go_wp2
    go_ret2
    exact ⟨rfl, by first | exact b0'.out.trans ((Str.below_drew b5'.out).mono b0'.out.size) | exact (b0'.out.trans ((Str.below_drew b5'.out).mono b0'.out.size)).drew | exact pw_below_drewN (b0'.out.trans ((Str.below_drew b5'.out).mono b0'.out.size)) _⟩
  · rw [if_neg hb, if_neg hb]
    have h2' : z ≤ 9223372036854775807 := by omega
    have u1 : IntKind.i64.wrap z = z := IntWalk.i64_in _ (by omega)
    have heq : ∀ w, (Op.equalIn 10000 173 (.agg #[.int .i64 0, .int .u64 z]) (.agg #[.int .i64 0, .int .u64 z])).run Try.prog w = .ok true w := fun w => by simpa using eqWide 9998 w 0 0 z z
    have h1' := Lib.hid h1
    have h2'' := Lib.hid h2'
    clear hb h1 h2 h2'
    go_enter Try.func97, Try.ntmps97
    go_wp2
    go_region_held3 (fun w' => w'.cell? ⟨W.heap.size, 0, none⟩ = some (.int .i64 0) ∧ w'.cell? ⟨W.heap.size, 1, none⟩ = some (.int .u64 z)) (first | go_keep | exact ⟨e0, e1⟩) (first | (go_at_call 99; refine (ofD z _ h1'.out h2''.out).mono ?_; rintro e w5 ⟨rfl, b5⟩; have bX5 := bX'.out.below (Str.below_drew b5) bX'.out.lt; have e0 := bX5.cell 0; have e1 := bX5.cell 1; simp only [List.getElem?_toArray, List.getElem?_cons_zero, List.getElem?_cons_succ] at e0 e1; have b5' := Lib.hid b5; clear b5 bX5))
    go_wp2
    go_ret2
    exact ⟨rfl, by first | exact b0'.out.trans ((Str.below_drew b5'.out).mono b0'.out.size) | exact (b0'.out.trans ((Str.below_drew b5'.out).mono b0'.out.size)).drew | exact pw_below_drewN (b0'.out.trans ((Str.below_drew b5'.out).mono b0'.out.size)) _⟩
set_option maxRecDepth 100000 in
set_option maxHeartbeats 4000000 in
theorem newD (nid nco nme nin nbe short : Int) (W : World) :
    Calls Try.prog 40 #[.agg #[.int .i64 nid, .int .i64 nco, .int .i64 nme, .int .i64 nin, .int .i64 nbe], .int .i64 short] W fun e W' =>
      (okNew nid nco nme short → e = .returned (.tuple #[.agg (agCells (newG nid nco nme nin nbe short) (.slice none 0 0) (.slice none 0 0)), .int .i64 0])) ∧ (¬ okNew nid nco nme short → ∃ z, e = .returned (.tuple #[.agg z, .int .i64 1])) ∧ Below W.heap.size W W' := by
  have bX := Blk.new W 53 #[.int .i64 nid, .int .i64 nco, .int .i64 nme, .int .i64 nin, .int .i64 nbe]
  have d0 := bX.cell 0
  have d1 := bX.cell 1
  have d2 := bX.cell 2
  have d3 := bX.cell 3
  have d4 := bX.cell 4
  simp only [List.getElem?_toArray, List.getElem?_cons_zero, List.getElem?_cons_succ] at d0 d1 d2 d3 d4
  have hb0 := Lib.hid ((Below.refl W.heap.size W).alloc (Nat.le_refl _) (.cells #[.int .i64 nid, .int .i64 nco, .int .i64 nme, .int .i64 nin, .int .i64 nbe] 53))
  clear bX
  by_cases c1 : nid < 0
  · go_enter Try.func40, Try.ntmps40
    go_wp2
    have RR := Blk.new (W.alloc (.cells #[.int .i64 nid, .int .i64 nco, .int .i64 nme, .int .i64 nin, .int .i64 nbe] 53)) tDA #[.int .i64 0, .int .i64 0, .int .i64 0, .int .i64 0, .int .i64 0, .int .i64 0, .int .i64 0, .bool false, .int .i64 0, .slice none 0 0, .int .i64 0, .slice none 0 0]
    rw [World.size_alloc] at RR
    refine bodyPost_ret (results_ct rfl _ _ _ tDA #[.int .i64 0, .int .i64 0, .int .i64 0, .int .i64 0, .int .i64 0, .int .i64 0, .int .i64 0, .bool false, .int .i64 0, .slice none 0 0, .int .i64 0, .slice none 0 0] (0, 0) _ rfl RR Try.underlying91 rfl (by kernel_rfl)) rfl ?_
    exact ⟨fun h => absurd h (by unfold okNew; omega), fun _ => ⟨_, rfl⟩, (hb0.out.alloc (by simp) _)⟩
  by_cases c2 : nco < 1
  · go_enter Try.func40, Try.ntmps40
    go_wp2
    have RR := Blk.new (W.alloc (.cells #[.int .i64 nid, .int .i64 nco, .int .i64 nme, .int .i64 nin, .int .i64 nbe] 53)) tDA #[.int .i64 0, .int .i64 0, .int .i64 0, .int .i64 0, .int .i64 0, .int .i64 0, .int .i64 0, .bool false, .int .i64 0, .slice none 0 0, .int .i64 0, .slice none 0 0]
    rw [World.size_alloc] at RR
    refine bodyPost_ret (results_ct rfl _ _ _ tDA #[.int .i64 0, .int .i64 0, .int .i64 0, .int .i64 0, .int .i64 0, .int .i64 0, .int .i64 0, .bool false, .int .i64 0, .slice none 0 0, .int .i64 0, .slice none 0 0] (0, 0) _ rfl RR Try.underlying91 rfl (by kernel_rfl)) rfl ?_
    exact ⟨fun h => absurd h (by unfold okNew; omega), fun _ => ⟨_, rfl⟩, (hb0.out.alloc (by simp) _)⟩
  by_cases c3 : 64 < nco
  · go_enter Try.func40, Try.ntmps40
    go_wp2
    have RR := Blk.new (W.alloc (.cells #[.int .i64 nid, .int .i64 nco, .int .i64 nme, .int .i64 nin, .int .i64 nbe] 53)) tDA #[.int .i64 0, .int .i64 0, .int .i64 0, .int .i64 0, .int .i64 0, .int .i64 0, .int .i64 0, .bool false, .int .i64 0, .slice none 0 0, .int .i64 0, .slice none 0 0]
    rw [World.size_alloc] at RR
    refine bodyPost_ret (results_ct rfl _ _ _ tDA #[.int .i64 0, .int .i64 0, .int .i64 0, .int .i64 0, .int .i64 0, .int .i64 0, .int .i64 0, .bool false, .int .i64 0, .slice none 0 0, .int .i64 0, .slice none 0 0] (0, 0) _ rfl RR Try.underlying91 rfl (by kernel_rfl)) rfl ?_
    exact ⟨fun h => absurd h (by unfold okNew; omega), fun _ => ⟨_, rfl⟩, (hb0.out.alloc (by simp) _)⟩
  by_cases c4 : nme < 0
  · go_enter Try.func40, Try.ntmps40
    go_wp2
    have RR := Blk.new (W.alloc (.cells #[.int .i64 nid, .int .i64 nco, .int .i64 nme, .int .i64 nin, .int .i64 nbe] 53)) tDA #[.int .i64 0, .int .i64 0, .int .i64 0, .int .i64 0, .int .i64 0, .int .i64 0, .int .i64 0, .bool false, .int .i64 0, .slice none 0 0, .int .i64 0, .slice none 0 0]
    rw [World.size_alloc] at RR
    refine bodyPost_ret (results_ct rfl _ _ _ tDA #[.int .i64 0, .int .i64 0, .int .i64 0, .int .i64 0, .int .i64 0, .int .i64 0, .int .i64 0, .bool false, .int .i64 0, .slice none 0 0, .int .i64 0, .slice none 0 0] (0, 0) _ rfl RR Try.underlying91 rfl (by kernel_rfl)) rfl ?_
    exact ⟨fun h => absurd h (by unfold okNew; omega), fun _ => ⟨_, rfl⟩, (hb0.out.alloc (by simp) _)⟩
  by_cases c5 : 1099511627776 < nme
  · go_enter Try.func40, Try.ntmps40
    go_wp2
    have RR := Blk.new (W.alloc (.cells #[.int .i64 nid, .int .i64 nco, .int .i64 nme, .int .i64 nin, .int .i64 nbe] 53)) tDA #[.int .i64 0, .int .i64 0, .int .i64 0, .int .i64 0, .int .i64 0, .int .i64 0, .int .i64 0, .bool false, .int .i64 0, .slice none 0 0, .int .i64 0, .slice none 0 0]
    rw [World.size_alloc] at RR
    refine bodyPost_ret (results_ct rfl _ _ _ tDA #[.int .i64 0, .int .i64 0, .int .i64 0, .int .i64 0, .int .i64 0, .int .i64 0, .int .i64 0, .bool false, .int .i64 0, .slice none 0 0, .int .i64 0, .slice none 0 0] (0, 0) _ rfl RR Try.underlying91 rfl (by kernel_rfl)) rfl ?_
    exact ⟨fun h => absurd h (by unfold okNew; omega), fun _ => ⟨_, rfl⟩, (hb0.out.alloc (by simp) _)⟩
  by_cases c6 : short < 0
  · go_enter Try.func40, Try.ntmps40
    go_wp2
    have RR := Blk.new (W.alloc (.cells #[.int .i64 nid, .int .i64 nco, .int .i64 nme, .int .i64 nin, .int .i64 nbe] 53)) tDA #[.int .i64 0, .int .i64 0, .int .i64 0, .int .i64 0, .int .i64 0, .int .i64 0, .int .i64 0, .bool false, .int .i64 0, .slice none 0 0, .int .i64 0, .slice none 0 0]
    rw [World.size_alloc] at RR
    refine bodyPost_ret (results_ct rfl _ _ _ tDA #[.int .i64 0, .int .i64 0, .int .i64 0, .int .i64 0, .int .i64 0, .int .i64 0, .int .i64 0, .bool false, .int .i64 0, .slice none 0 0, .int .i64 0, .slice none 0 0] (0, 0) _ rfl RR Try.underlying91 rfl (by kernel_rfl)) rfl ?_
    exact ⟨fun h => absurd h (by unfold okNew; omega), fun _ => ⟨_, rfl⟩, (hb0.out.alloc (by simp) _)⟩
  by_cases c7 : 1099511627776 < short
  · go_enter Try.func40, Try.ntmps40
    go_wp2
    have RR := Blk.new (W.alloc (.cells #[.int .i64 nid, .int .i64 nco, .int .i64 nme, .int .i64 nin, .int .i64 nbe] 53)) tDA #[.int .i64 0, .int .i64 0, .int .i64 0, .int .i64 0, .int .i64 0, .int .i64 0, .int .i64 0, .bool false, .int .i64 0, .slice none 0 0, .int .i64 0, .slice none 0 0]
    rw [World.size_alloc] at RR
    refine bodyPost_ret (results_ct rfl _ _ _ tDA #[.int .i64 0, .int .i64 0, .int .i64 0, .int .i64 0, .int .i64 0, .int .i64 0, .int .i64 0, .bool false, .int .i64 0, .slice none 0 0, .int .i64 0, .slice none 0 0] (0, 0) _ rfl RR Try.underlying91 rfl (by kernel_rfl)) rfl ?_
    exact ⟨fun h => absurd h (by unfold okNew; omega), fun _ => ⟨_, rfl⟩, (hb0.out.alloc (by simp) _)⟩
  have hok := Lib.hid (show okNew nid nco nme short by unfold okNew; omega)
  go_enter Try.func40, Try.ntmps40
  go_wp2
  have RR := Blk.new (W.alloc (.cells #[.int .i64 nid, .int .i64 nco, .int .i64 nme, .int .i64 nin, .int .i64 nbe] 53)) tDA #[.int .i64 nid, .int .i64 nco, .int .i64 nme, .int .i64 nin, .int .i64 nbe, .int .i64 short, .int .i64 0, .bool false, .int .i64 0, .slice none 0 0, .int .i64 0, .slice none 0 0]
  rw [World.size_alloc] at RR
  refine bodyPost_ret (results_ct rfl _ _ _ tDA #[.int .i64 nid, .int .i64 nco, .int .i64 nme, .int .i64 nin, .int .i64 nbe, .int .i64 short, .int .i64 0, .bool false, .int .i64 0, .slice none 0 0, .int .i64 0, .slice none 0 0] (0, 0) _ rfl RR Try.underlying91 rfl (by kernel_rfl)) rfl ?_
  exact ⟨fun _ => rfl, fun h => absurd hok.out h, (hb0.out.alloc (by simp) _)⟩
theorem narrowDL (z : Int) (W : World) (h1 : 0 ≤ z) (h2 : z ≤ 18446744073709551615) (hb : ¬ 9223372036854775807 < z) : Calls Try.prog 97 #[.agg #[.int .i64 0, .int .u64 z]] W fun e W' => e = .returned (.tuple #[.int .i64 z, .int .i64 0]) ∧ Below W.heap.size W W' := by
  have := narrowD z W h1 h2
  rwa [if_neg hb, if_neg hb] at this
set_option maxRecDepth 100000 in
set_option maxHeartbeats 4000000 in
theorem addDL (x y : Int) (W : World) (h1 : 0 ≤ x) (h2 : x ≤ 9223372036854775807) (h3 : 0 ≤ y) (h4 : y ≤ 9223372036854775807) (hb : ¬ 9223372036854775807 < x + y) : Calls Try.prog 88 #[.int .i64 x, .int .i64 y] W fun e W' => e = .returned (.tuple #[.int .i64 (x + y), .int .i64 0]) ∧ Below W.heap.size W W' := by
  go_enter Try.func88, Try.ntmps88
  go_wp2_with (first
    | ((with_reducible refine gate_callee (f := 99) rfl ?_); refine goesL_ (some 7) rfl rfl Try.func99 (by kernel_rfl) rfl #[.int .i64 x] rfl (by (try simp only [List.map_toArray, List.map_cons, List.map_nil]); first | done | rfl) ?_; (with_reducible refine (ofD x _ h1 h2).mono ?_); rintro e w1 ⟨rfl, b1⟩; refine ⟨_, rfl, ?_⟩; have b1' := Lib.hid b1; clear b1)
    | ((with_reducible refine gate_callee (f := 99) rfl ?_); refine goesL_ (some 9) rfl rfl Try.func99 (by kernel_rfl) rfl #[.int .i64 y] rfl (by (try simp only [List.map_toArray, List.map_cons, List.map_nil]); first | done | rfl) ?_; (with_reducible refine (ofD y _ h3 h4).mono ?_); rintro e w2 ⟨rfl, b2⟩; refine ⟨_, rfl, ?_⟩; have b2 := b1'.out.trans (below_le b2 b1'.out.size); have b2' := Lib.hid b2; clear b2)
    | ((with_reducible refine gate_callee (f := 98) rfl ?_); refine goesL_ (some 10) rfl rfl Try.func98 (by kernel_rfl) rfl #[.agg #[.int .i64 0, .int .u64 x], .agg #[.int .i64 0, .int .u64 y]] rfl (by (try simp only [List.map_toArray, List.map_cons, List.map_nil]); first | done | rfl) ?_; (with_reducible refine (plusD x y _ h1 h2 h3 h4).mono ?_); rintro e w3 ⟨rfl, b3⟩; refine ⟨_, rfl, ?_⟩; have b3 := b2'.out.trans (below_le b3 b2'.out.size); have b3' := Lib.hid b3; clear b3)
    | ((with_reducible refine gate_callee (f := 97) rfl ?_); refine goesL_ (some 11) rfl rfl Try.func97 (by kernel_rfl) rfl #[.agg #[.int .i64 0, .int .u64 (x + y)]] rfl (by (try simp only [List.map_toArray, List.map_cons, List.map_nil]); first | done | rfl) ?_; (with_reducible refine (narrowDL (x + y) _ (by omega) (by omega) hb).mono ?_); rintro e w4 ⟨rfl, b4⟩; refine ⟨_, rfl, ?_⟩; have b4 := b3'.out.trans (below_le b4 b3'.out.size); have b4' := Lib.hid b4; clear b4))
  go_ret2
  exact ⟨rfl, b4'.out⟩
theorem narrowDH (z : Int) (W : World) (h1 : 0 ≤ z) (h2 : z ≤ 18446744073709551615) (hb : 9223372036854775807 < z) : Calls Try.prog 97 #[.agg #[.int .i64 0, .int .u64 z]] W fun e W' => e = .returned (.tuple #[.int .i64 0, .int .i64 2]) ∧ Below W.heap.size W W' := by
  have := narrowD z W h1 h2
  rwa [if_pos hb, if_pos hb] at this
set_option maxRecDepth 100000 in
set_option maxHeartbeats 4000000 in
theorem addDH (x y : Int) (W : World) (h1 : 0 ≤ x) (h2 : x ≤ 9223372036854775807) (h3 : 0 ≤ y) (h4 : y ≤ 9223372036854775807) (hb : 9223372036854775807 < x + y) : Calls Try.prog 88 #[.int .i64 x, .int .i64 y] W fun e W' => e = .returned (.tuple #[.int .i64 0, .int .i64 2]) ∧ Below W.heap.size W W' := by
  go_enter Try.func88, Try.ntmps88
  go_wp2_with (first
    | ((with_reducible refine gate_callee (f := 99) rfl ?_); refine goesL_ (some 7) rfl rfl Try.func99 (by kernel_rfl) rfl #[.int .i64 x] rfl (by (try simp only [List.map_toArray, List.map_cons, List.map_nil]); first | done | rfl) ?_; (with_reducible refine (ofD x _ h1 h2).mono ?_); rintro e w1 ⟨rfl, b1⟩; refine ⟨_, rfl, ?_⟩; have b1' := Lib.hid b1; clear b1)
    | ((with_reducible refine gate_callee (f := 99) rfl ?_); refine goesL_ (some 9) rfl rfl Try.func99 (by kernel_rfl) rfl #[.int .i64 y] rfl (by (try simp only [List.map_toArray, List.map_cons, List.map_nil]); first | done | rfl) ?_; (with_reducible refine (ofD y _ h3 h4).mono ?_); rintro e w2 ⟨rfl, b2⟩; refine ⟨_, rfl, ?_⟩; have b2 := b1'.out.trans (below_le b2 b1'.out.size); have b2' := Lib.hid b2; clear b2)
    | ((with_reducible refine gate_callee (f := 98) rfl ?_); refine goesL_ (some 10) rfl rfl Try.func98 (by kernel_rfl) rfl #[.agg #[.int .i64 0, .int .u64 x], .agg #[.int .i64 0, .int .u64 y]] rfl (by (try simp only [List.map_toArray, List.map_cons, List.map_nil]); first | done | rfl) ?_; (with_reducible refine (plusD x y _ h1 h2 h3 h4).mono ?_); rintro e w3 ⟨rfl, b3⟩; refine ⟨_, rfl, ?_⟩; have b3 := b2'.out.trans (below_le b3 b2'.out.size); have b3' := Lib.hid b3; clear b3)
    | ((with_reducible refine gate_callee (f := 97) rfl ?_); refine goesL_ (some 11) rfl rfl Try.func97 (by kernel_rfl) rfl #[.agg #[.int .i64 0, .int .u64 (x + y)]] rfl (by (try simp only [List.map_toArray, List.map_cons, List.map_nil]); first | done | rfl) ?_; (with_reducible refine (narrowDH (x + y) _ (by omega) (by omega) hb).mono ?_); rintro e w4 ⟨rfl, b4⟩; refine ⟨_, rfl, ?_⟩; have b4 := b3'.out.trans (below_le b4 b3'.out.size); have b4' := Lib.hid b4; clear b4))
  go_ret2
  exact ⟨rfl, b4'.out⟩
set_option maxRecDepth 100000 in
set_option maxHeartbeats 4000000 in
theorem bootD {Q : Nat → Prop} {vs vj : Value} {l : List (Jb × DJ)} {S : Ag} (n : Int) (W : World) (h : DocM Q vs vj l S W) (hoff : S.runs = false → S.sent = [] ∧ S.replied = 0 ∧ S.jobs = []) :
    Calls Try.prog 63 #[.agg (agCells S vs vj), .int .i64 n] W fun e W' => ∃ x', e = .returned (.tuple #[x', .int .i64 (bootG S n).2]) ∧ DocR (fun k => Q k ∨ W.heap.size ≤ k) W' x' (bootG S n).1 ∧ Below W.heap.size W W' := by
  obtain ⟨nid, nco, nme, nin, nbe, short, clock, runs, inc, sent, replied, jobs⟩ := S
  obtain ⟨A, c, rfl⟩ := own_slice h.sent
  obtain ⟨A2, c2, rfl⟩ := own_slice h.jrow
  dsimp only [agCells]
  have h' := Lib.hid h
  clear h
  have hoff' := Lib.hid hoff
  clear hoff
  cases runs with
  | true =>
    have bX := Blk.new W tDA #[.int .i64 nid, .int .i64 nco, .int .i64 nme, .int .i64 nin, .int .i64 nbe, .int .i64 short, .int .i64 clock, .bool true, .int .i64 inc, .slice A sent.length c, .int .i64 replied, .slice A2 l.length c2]
    have d0 := bX.cell 0
    have d1 := bX.cell 1
    have d2 := bX.cell 2
    have d3 := bX.cell 3
    have d4 := bX.cell 4
    have d5 := bX.cell 5
    have d6 := bX.cell 6
    have d7 := bX.cell 7
    have d8 := bX.cell 8
    have d9 := bX.cell 9
    have d10 := bX.cell 10
    have d11 := bX.cell 11
    simp only [List.getElem?_toArray, List.getElem?_cons_zero, List.getElem?_cons_succ] at d0 d1 d2 d3 d4 d5 d6 d7 d8 d9 d10 d11
    have b0' := Lib.hid ((Below.refl W.heap.size W).alloc (Nat.le_refl _) (.cells #[.int .i64 nid, .int .i64 nco, .int .i64 nme, .int .i64 nin, .int .i64 nbe, .int .i64 short, .int .i64 clock, .bool true, .int .i64 inc, .slice A sent.length c, .int .i64 replied, .slice A2 l.length c2] tDA))
    have bX' := Lib.hid bX
    clear bX
    have hj := Lib.hid (show bootG ⟨nid, nco, nme, nin, nbe, short, clock, true, inc, sent, replied, jobs⟩ n = (⟨nid, nco, nme, nin, nbe, short, clock, true, inc, sent, replied, jobs⟩, 13) from if_pos rfl)
    simp only [hj.out]
    go_enter Try.func63, Try.ntmps63
    go_wp2
    have RR := Blk.new (W.alloc (.cells #[.int .i64 nid, .int .i64 nco, .int .i64 nme, .int .i64 nin, .int .i64 nbe, .int .i64 short, .int .i64 clock, .bool true, .int .i64 inc, .slice A sent.length c, .int .i64 replied, .slice A2 l.length c2] tDA)) tDA #[.int .i64 nid, .int .i64 nco, .int .i64 nme, .int .i64 nin, .int .i64 nbe, .int .i64 short, .int .i64 clock, .bool true, .int .i64 inc, .slice A sent.length c, .int .i64 replied, .slice A2 l.length c2]
    rw [World.size_alloc] at RR
    refine bodyPost_ret (results_ct rfl _ _ _ tDA #[.int .i64 nid, .int .i64 nco, .int .i64 nme, .int .i64 nin, .int .i64 nbe, .int .i64 short, .int .i64 clock, .bool true, .int .i64 inc, .slice A sent.length c, .int .i64 replied, .slice A2 l.length c2] (0, 0) _ rfl RR Try.underlying91 rfl (by kernel_rfl)) rfl ?_
    exact ⟨_, rfl, ⟨_, _, l, rfl, (h'.out.mono fun k _ hk => .inl hk).below (below2 _ _)⟩, below2 _ _⟩
  | false =>
    have bX := Blk.new W tDA #[.int .i64 nid, .int .i64 nco, .int .i64 nme, .int .i64 nin, .int .i64 nbe, .int .i64 short, .int .i64 clock, .bool false, .int .i64 inc, .slice A sent.length c, .int .i64 replied, .slice A2 l.length c2]
    have d0 := bX.cell 0
    have d1 := bX.cell 1
    have d2 := bX.cell 2
    have d3 := bX.cell 3
    have d4 := bX.cell 4
    have d5 := bX.cell 5
    have d6 := bX.cell 6
    have d7 := bX.cell 7
    have d8 := bX.cell 8
    have d9 := bX.cell 9
    have d10 := bX.cell 10
    have d11 := bX.cell 11
    simp only [List.getElem?_toArray, List.getElem?_cons_zero, List.getElem?_cons_succ] at d0 d1 d2 d3 d4 d5 d6 d7 d8 d9 d10 d11
    have b0' := Lib.hid ((Below.refl W.heap.size W).alloc (Nat.le_refl _) (.cells #[.int .i64 nid, .int .i64 nco, .int .i64 nme, .int .i64 nin, .int .i64 nbe, .int .i64 short, .int .i64 clock, .bool false, .int .i64 inc, .slice A sent.length c, .int .i64 replied, .slice A2 l.length c2] tDA))
    have bX' := Lib.hid bX
    clear bX
    by_cases hn : n ≤ inc
    · have hj := Lib.hid (show bootG ⟨nid, nco, nme, nin, nbe, short, clock, false, inc, sent, replied, jobs⟩ n = (⟨nid, nco, nme, nin, nbe, short, clock, false, inc, sent, replied, jobs⟩, 15) by unfold bootG; rw [if_neg (by simp), if_pos hn])
      simp only [hj.out]
      go_enter Try.func63, Try.ntmps63
      go_wp2
      have RR := Blk.new (W.alloc (.cells #[.int .i64 nid, .int .i64 nco, .int .i64 nme, .int .i64 nin, .int .i64 nbe, .int .i64 short, .int .i64 clock, .bool false, .int .i64 inc, .slice A sent.length c, .int .i64 replied, .slice A2 l.length c2] tDA)) tDA #[.int .i64 nid, .int .i64 nco, .int .i64 nme, .int .i64 nin, .int .i64 nbe, .int .i64 short, .int .i64 clock, .bool false, .int .i64 inc, .slice A sent.length c, .int .i64 replied, .slice A2 l.length c2]
      rw [World.size_alloc] at RR
      refine bodyPost_ret (results_ct rfl _ _ _ tDA #[.int .i64 nid, .int .i64 nco, .int .i64 nme, .int .i64 nin, .int .i64 nbe, .int .i64 short, .int .i64 clock, .bool false, .int .i64 inc, .slice A sent.length c, .int .i64 replied, .slice A2 l.length c2] (0, 0) _ rfl RR Try.underlying91 rfl (by kernel_rfl)) rfl ?_
      exact ⟨_, rfl, ⟨_, _, l, rfl, (h'.out.mono fun k _ hk => .inl hk).below (below2 _ _)⟩, below2 _ _⟩
    · obtain ⟨e1, e2, e3⟩ := hoff'.out rfl
      dsimp only at e1 e2 e3
      subst e2
      have hj := Lib.hid (show bootG ⟨nid, nco, nme, nin, nbe, short, clock, false, inc, sent, 0, jobs⟩ n = (⟨nid, nco, nme, nin, nbe, short, clock, true, n, [], 0, []⟩, 0) by unfold bootG; rw [if_neg (by simp), if_neg hn]; simp only [e1, e3])
      clear e1 e3
      simp only [hj.out]
      go_enter Try.func63, Try.ntmps63
      go_wp2
      have RR := Blk.new (W.alloc (.cells #[.int .i64 nid, .int .i64 nco, .int .i64 nme, .int .i64 nin, .int .i64 nbe, .int .i64 short, .int .i64 clock, .bool false, .int .i64 inc, .slice A sent.length c, .int .i64 0, .slice A2 l.length c2] tDA)) tDA #[.int .i64 nid, .int .i64 nco, .int .i64 nme, .int .i64 nin, .int .i64 nbe, .int .i64 short, .int .i64 clock, .bool true, .int .i64 n, .slice none 0 0, .int .i64 0, .slice none 0 0]
      rw [World.size_alloc] at RR
      refine bodyPost_ret (results_ct rfl _ _ _ tDA #[.int .i64 nid, .int .i64 nco, .int .i64 nme, .int .i64 nin, .int .i64 nbe, .int .i64 short, .int .i64 clock, .bool true, .int .i64 n, .slice none 0 0, .int .i64 0, .slice none 0 0] (0, 0) _ rfl RR Try.underlying91 rfl (by kernel_rfl)) rfl ?_
      exact ⟨_, rfl, ⟨_, _, [], rfl, DocM.none rfl rfl⟩, below2 _ _⟩
set_option maxRecDepth 100000 in
set_option maxHeartbeats 4000000 in
theorem haltD {Q : Nat → Prop} {vs vj : Value} {l : List (Jb × DJ)} {S : Ag} (W : World) (h : DocM Q vs vj l S W) :
    Calls Try.prog 64 #[.agg (agCells S vs vj)] W fun e W' => ∃ x', e = .returned (.tuple #[x', .int .i64 (haltG S).2]) ∧ DocR (fun k => Q k ∨ W.heap.size ≤ k) W' x' (haltG S).1 ∧ Below W.heap.size W W' := by
  obtain ⟨nid, nco, nme, nin, nbe, short, clock, runs, inc, sent, replied, jobs⟩ := S
  obtain ⟨A, c, rfl⟩ := own_slice h.sent
  obtain ⟨A2, c2, rfl⟩ := own_slice h.jrow
  dsimp only [agCells]
  have h' := Lib.hid h
  clear h
  cases runs with
  | false =>
    have bX := Blk.new W tDA #[.int .i64 nid, .int .i64 nco, .int .i64 nme, .int .i64 nin, .int .i64 nbe, .int .i64 short, .int .i64 clock, .bool false, .int .i64 inc, .slice A sent.length c, .int .i64 replied, .slice A2 l.length c2]
    have d0 := bX.cell 0
    have d1 := bX.cell 1
    have d2 := bX.cell 2
    have d3 := bX.cell 3
    have d4 := bX.cell 4
    have d5 := bX.cell 5
    have d6 := bX.cell 6
    have d7 := bX.cell 7
    have d8 := bX.cell 8
    have d9 := bX.cell 9
    have d10 := bX.cell 10
    have d11 := bX.cell 11
    simp only [List.getElem?_toArray, List.getElem?_cons_zero, List.getElem?_cons_succ] at d0 d1 d2 d3 d4 d5 d6 d7 d8 d9 d10 d11
    have b0' := Lib.hid ((Below.refl W.heap.size W).alloc (Nat.le_refl _) (.cells #[.int .i64 nid, .int .i64 nco, .int .i64 nme, .int .i64 nin, .int .i64 nbe, .int .i64 short, .int .i64 clock, .bool false, .int .i64 inc, .slice A sent.length c, .int .i64 replied, .slice A2 l.length c2] tDA))
    have bX' := Lib.hid bX
    clear bX
    have hj := Lib.hid (show haltG ⟨nid, nco, nme, nin, nbe, short, clock, false, inc, sent, replied, jobs⟩ = (⟨nid, nco, nme, nin, nbe, short, clock, false, inc, sent, replied, jobs⟩, 13) from if_neg (by simp))
    simp only [hj.out]
    go_enter Try.func64, Try.ntmps64
    go_wp2
    have RR := Blk.new (W.alloc (.cells #[.int .i64 nid, .int .i64 nco, .int .i64 nme, .int .i64 nin, .int .i64 nbe, .int .i64 short, .int .i64 clock, .bool false, .int .i64 inc, .slice A sent.length c, .int .i64 replied, .slice A2 l.length c2] tDA)) tDA #[.int .i64 nid, .int .i64 nco, .int .i64 nme, .int .i64 nin, .int .i64 nbe, .int .i64 short, .int .i64 clock, .bool false, .int .i64 inc, .slice A sent.length c, .int .i64 replied, .slice A2 l.length c2]
    rw [World.size_alloc] at RR
    refine bodyPost_ret (results_ct rfl _ _ _ tDA #[.int .i64 nid, .int .i64 nco, .int .i64 nme, .int .i64 nin, .int .i64 nbe, .int .i64 short, .int .i64 clock, .bool false, .int .i64 inc, .slice A sent.length c, .int .i64 replied, .slice A2 l.length c2] (0, 0) _ rfl RR Try.underlying91 rfl (by kernel_rfl)) rfl ?_
    exact ⟨_, rfl, ⟨_, _, l, rfl, (h'.out.mono fun k _ hk => .inl hk).below (below2 _ _)⟩, below2 _ _⟩
  | true =>
    have bX := Blk.new W tDA #[.int .i64 nid, .int .i64 nco, .int .i64 nme, .int .i64 nin, .int .i64 nbe, .int .i64 short, .int .i64 clock, .bool true, .int .i64 inc, .slice A sent.length c, .int .i64 replied, .slice A2 l.length c2]
    have d0 := bX.cell 0
    have d1 := bX.cell 1
    have d2 := bX.cell 2
    have d3 := bX.cell 3
    have d4 := bX.cell 4
    have d5 := bX.cell 5
    have d6 := bX.cell 6
    have d7 := bX.cell 7
    have d8 := bX.cell 8
    have d9 := bX.cell 9
    have d10 := bX.cell 10
    have d11 := bX.cell 11
    simp only [List.getElem?_toArray, List.getElem?_cons_zero, List.getElem?_cons_succ] at d0 d1 d2 d3 d4 d5 d6 d7 d8 d9 d10 d11
    have b0' := Lib.hid ((Below.refl W.heap.size W).alloc (Nat.le_refl _) (.cells #[.int .i64 nid, .int .i64 nco, .int .i64 nme, .int .i64 nin, .int .i64 nbe, .int .i64 short, .int .i64 clock, .bool true, .int .i64 inc, .slice A sent.length c, .int .i64 replied, .slice A2 l.length c2] tDA))
    have bX' := Lib.hid bX
    clear bX
    have hj := Lib.hid (show haltG ⟨nid, nco, nme, nin, nbe, short, clock, true, inc, sent, replied, jobs⟩ = (⟨nid, nco, nme, nin, nbe, short, clock, false, inc, [], 0, []⟩, 0) from if_pos rfl)
    simp only [hj.out]
    go_enter Try.func64, Try.ntmps64
    go_wp2
    have RR := Blk.new (W.alloc (.cells #[.int .i64 nid, .int .i64 nco, .int .i64 nme, .int .i64 nin, .int .i64 nbe, .int .i64 short, .int .i64 clock, .bool true, .int .i64 inc, .slice A sent.length c, .int .i64 replied, .slice A2 l.length c2] tDA)) tDA #[.int .i64 nid, .int .i64 nco, .int .i64 nme, .int .i64 nin, .int .i64 nbe, .int .i64 short, .int .i64 clock, .bool false, .int .i64 inc, .slice none 0 0, .int .i64 0, .slice none 0 0]
    rw [World.size_alloc] at RR
    refine bodyPost_ret (results_ct rfl _ _ _ tDA #[.int .i64 nid, .int .i64 nco, .int .i64 nme, .int .i64 nin, .int .i64 nbe, .int .i64 short, .int .i64 clock, .bool false, .int .i64 inc, .slice none 0 0, .int .i64 0, .slice none 0 0] (0, 0) _ rfl RR Try.underlying91 rfl (by kernel_rfl)) rfl ?_
    exact ⟨_, rfl, ⟨_, _, [], rfl, DocM.none rfl rfl⟩, below2 _ _⟩
end Go.Proofs.Ytkcmmghhghgdpaa.Agt
end
section
namespace Go.Proofs.Ytkcmmghhghgdpaa.Agt
open Go.RowKit Go.Shelf Go.Maps Go.Proofs.Ytkcmmghhghgdpaa.Iter Go.Proofs.Ytkcmmghhghgdpaa.Str Go.Proofs.YtkcmmghhghgdpaaW.PrintWords Go.Proofs.YtkcmmghhghgdpaaW.PrintLast
set_option linter.unusedVariables false
set_option linter.unusedSimpArgs false
set_option maxRecDepth 100000 in
set_option maxHeartbeats 4000000 in
theorem passD {Q : Nat → Prop} {vs vj : Value} {l : List (Jb × DJ)} {S : Ag} (dt : Int) (W : World) (h : DocM Q vs vj l S W) (hc0 : 0 ≤ S.clock) (hc1 : S.clock ≤ 9223372036854775807) :
    Calls Try.prog 65 #[.agg (agCells S vs vj), .int .i64 dt] W fun e W' => ∃ x', e = .returned (.tuple #[x', .int .i64 (passG S dt).2]) ∧ DocR (fun k => Q k ∨ W.heap.size ≤ k) W' x' (passG S dt).1 ∧ Below W.heap.size W W' := by
  obtain ⟨nid, nco, nme, nin, nbe, short, clock, runs, inc, sent, replied, jobs⟩ := S
  obtain ⟨A, c, rfl⟩ := own_slice h.sent
  obtain ⟨A2, c2, rfl⟩ := own_slice h.jrow
  dsimp only [agCells]
  have h' := Lib.hid h
  clear h
  dsimp only at hc0 hc1
  have bX := Blk.new W tDA #[.int .i64 nid, .int .i64 nco, .int .i64 nme, .int .i64 nin, .int .i64 nbe, .int .i64 short, .int .i64 clock, .bool runs, .int .i64 inc, .slice A sent.length c, .int .i64 replied, .slice A2 l.length c2]
  have d0 := bX.cell 0
  have d1 := bX.cell 1
  have d2 := bX.cell 2
  have d3 := bX.cell 3
  have d4 := bX.cell 4
  have d5 := bX.cell 5
  have d6 := bX.cell 6
  have d7 := bX.cell 7
  have d8 := bX.cell 8
  have d9 := bX.cell 9
  have d10 := bX.cell 10
  have d11 := bX.cell 11
  simp only [List.getElem?_toArray, List.getElem?_cons_zero, List.getElem?_cons_succ] at d0 d1 d2 d3 d4 d5 d6 d7 d8 d9 d10 d11
  have b0' := Lib.hid ((Below.refl W.heap.size W).alloc (Nat.le_refl _) (.cells #[.int .i64 nid, .int .i64 nco, .int .i64 nme, .int .i64 nin, .int .i64 nbe, .int .i64 short, .int .i64 clock, .bool runs, .int .i64 inc, .slice A sent.length c, .int .i64 replied, .slice A2 l.length c2] tDA))
  have bX' := Lib.hid bX
  clear bX
  by_cases k1 : dt < 0
  · have hj := Lib.hid (show passG ⟨nid, nco, nme, nin, nbe, short, clock, runs, inc, sent, replied, jobs⟩ dt = (⟨nid, nco, nme, nin, nbe, short, clock, runs, inc, sent, replied, jobs⟩, 1) from if_pos (.inl k1))
    simp only [hj.out]
    go_enter Try.func65, Try.ntmps65
    go_wp2
    have RR := Blk.new (W.alloc (.cells #[.int .i64 nid, .int .i64 nco, .int .i64 nme, .int .i64 nin, .int .i64 nbe, .int .i64 short, .int .i64 clock, .bool runs, .int .i64 inc, .slice A sent.length c, .int .i64 replied, .slice A2 l.length c2] tDA)) tDA #[.int .i64 nid, .int .i64 nco, .int .i64 nme, .int .i64 nin, .int .i64 nbe, .int .i64 short, .int .i64 clock, .bool runs, .int .i64 inc, .slice A sent.length c, .int .i64 replied, .slice A2 l.length c2]
    rw [World.size_alloc] at RR
    refine bodyPost_ret (results_ct rfl _ _ _ tDA #[.int .i64 nid, .int .i64 nco, .int .i64 nme, .int .i64 nin, .int .i64 nbe, .int .i64 short, .int .i64 clock, .bool runs, .int .i64 inc, .slice A sent.length c, .int .i64 replied, .slice A2 l.length c2] (0, 0) _ rfl RR Try.underlying91 rfl (by kernel_rfl)) rfl ?_
    exact ⟨_, rfl, ⟨_, _, l, rfl, (h'.out.mono fun k _ hk => .inl hk).below (below2 _ _)⟩, below2 _ _⟩
  by_cases k2 : 1099511627776 < dt
  · have hj := Lib.hid (show passG ⟨nid, nco, nme, nin, nbe, short, clock, runs, inc, sent, replied, jobs⟩ dt = (⟨nid, nco, nme, nin, nbe, short, clock, runs, inc, sent, replied, jobs⟩, 1) from if_pos (.inr k2))
    simp only [hj.out]
    go_enter Try.func65, Try.ntmps65
    go_wp2
    have RR := Blk.new (W.alloc (.cells #[.int .i64 nid, .int .i64 nco, .int .i64 nme, .int .i64 nin, .int .i64 nbe, .int .i64 short, .int .i64 clock, .bool runs, .int .i64 inc, .slice A sent.length c, .int .i64 replied, .slice A2 l.length c2] tDA)) tDA #[.int .i64 nid, .int .i64 nco, .int .i64 nme, .int .i64 nin, .int .i64 nbe, .int .i64 short, .int .i64 clock, .bool runs, .int .i64 inc, .slice A sent.length c, .int .i64 replied, .slice A2 l.length c2]
    rw [World.size_alloc] at RR
    refine bodyPost_ret (results_ct rfl _ _ _ tDA #[.int .i64 nid, .int .i64 nco, .int .i64 nme, .int .i64 nin, .int .i64 nbe, .int .i64 short, .int .i64 clock, .bool runs, .int .i64 inc, .slice A sent.length c, .int .i64 replied, .slice A2 l.length c2] (0, 0) _ rfl RR Try.underlying91 rfl (by kernel_rfl)) rfl ?_
    exact ⟨_, rfl, ⟨_, _, l, rfl, (h'.out.mono fun k _ hk => .inl hk).below (below2 _ _)⟩, below2 _ _⟩
  by_cases k3 : 9223372036854775807 < clock + dt
  · have hj := Lib.hid (show passG ⟨nid, nco, nme, nin, nbe, short, clock, runs, inc, sent, replied, jobs⟩ dt = (⟨nid, nco, nme, nin, nbe, short, clock, runs, inc, sent, replied, jobs⟩, 2) by unfold passG; rw [if_neg (by omega), if_pos k3])
    simp only [hj.out]
    go_enter Try.func65, Try.ntmps65
    go_wp2_with (((with_reducible refine gate_callee (f := 88) rfl ?_); refine goesL_ (some 19) rfl rfl Try.func88 (by kernel_rfl) rfl #[.int .i64 clock, .int .i64 dt] rfl (by (try simp only [List.map_toArray, List.map_cons, List.map_nil]); first | done | rfl) ?_; (with_reducible refine (addDH clock dt _ hc0 hc1 (by omega) (by omega) k3).mono ?_); rintro e w5 ⟨rfl, b5⟩; refine ⟨_, rfl, ?_⟩; have zX := (Blk.new (W.alloc (.cells #[.int .i64 nid, .int .i64 nco, .int .i64 nme, .int .i64 nin, .int .i64 nbe, .int .i64 short, .int .i64 clock, .bool runs, .int .i64 inc, .slice A sent.length c, .int .i64 replied, .slice A2 l.length c2] tDA)) tDA zD).below b5 (by first | (simp; done) | (simp; omega)); have oX := (bX'.out.alloc (.cells zD tDA)).below b5 (by first | (simp; done) | (simp; omega)); clear d0 d1 d2 d3 d4 d5 d6 d7 d8 d9 d10 d11; have d0 := oX.cell 0; have d1 := oX.cell 1; have d2 := oX.cell 2; have d3 := oX.cell 3; have d4 := oX.cell 4; have d5 := oX.cell 5; have d6 := oX.cell 6; have d7 := oX.cell 7; have d8 := oX.cell 8; have d9 := oX.cell 9; have d10 := oX.cell 10; have d11 := oX.cell 11; have d6f := oX.frozen 6; have x0 := zX.cell 0; have x1 := zX.cell 1; have x2 := zX.cell 2; have x3 := zX.cell 3; have x4 := zX.cell 4; have x5 := zX.cell 5; have x6 := zX.cell 6; have x7 := zX.cell 7; have x8 := zX.cell 8; have x9 := zX.cell 9; have x10 := zX.cell 10; have x11 := zX.cell 11; have y0 := zX.frozen 0; have y1 := zX.frozen 1; have y2 := zX.frozen 2; have y3 := zX.frozen 3; have y4 := zX.frozen 4; have y5 := zX.frozen 5; have y6 := zX.frozen 6; have y7 := zX.frozen 7; have y8 := zX.frozen 8; have y9 := zX.frozen 9; have y10 := zX.frozen 10; have y11 := zX.frozen 11; simp only [List.getElem?_toArray, List.getElem?_cons_zero, List.getElem?_cons_succ, World.size_alloc] at d0 d1 d2 d3 d4 d5 d6 d7 d8 d9 d10 d11 x0 x1 x2 x3 x4 x5 x6 x7 x8 x9 x10 x11 y0 y1 y2 y3 y4 y5 y6 y7 y8 y9 y10 y11; have oX' := Lib.hid oX; have zX' := Lib.hid zX; have b5' := Lib.hid ((below2 _ _).trans (below_le b5 (by first | (simp; done) | (simp; omega)))); clear oX zX b5))
    have RR := blk12 zX'.out (by rfl) (.int .i64 nid) (.int .i64 nco) (.int .i64 nme) (.int .i64 nin) (.int .i64 nbe) (.int .i64 short) (.int .i64 clock) (.bool runs) (.int .i64 inc) (.slice A sent.length c) (.int .i64 replied) (.slice A2 l.length c2)
    rw [World.size_alloc] at RR
    refine bodyPost_ret (results_ct rfl _ _ _ tDA #[.int .i64 nid, .int .i64 nco, .int .i64 nme, .int .i64 nin, .int .i64 nbe, .int .i64 short, .int .i64 clock, .bool runs, .int .i64 inc, .slice A sent.length c, .int .i64 replied, .slice A2 l.length c2] (0, 0) _ rfl RR Try.underlying91 rfl (by kernel_rfl)) rfl ?_
    exact ⟨_, rfl, ⟨_, _, l, rfl, (h'.out.mono fun k _ hk => .inl hk).below (below12 b5'.out (by simp) _ _ _ _ _ _ _ _ _ _ _ _)⟩, below12 b5'.out (by simp) _ _ _ _ _ _ _ _ _ _ _ _⟩
  · have hj := Lib.hid (show passG ⟨nid, nco, nme, nin, nbe, short, clock, runs, inc, sent, replied, jobs⟩ dt = (⟨nid, nco, nme, nin, nbe, short, clock + dt, runs, inc, sent, replied, jobs⟩, 0) by unfold passG; rw [if_neg (by omega), if_neg k3])
    simp only [hj.out]
    go_enter Try.func65, Try.ntmps65
    go_wp2_with (((with_reducible refine gate_callee (f := 88) rfl ?_); refine goesL_ (some 19) rfl rfl Try.func88 (by kernel_rfl) rfl #[.int .i64 clock, .int .i64 dt] rfl (by (try simp only [List.map_toArray, List.map_cons, List.map_nil]); first | done | rfl) ?_; (with_reducible refine (addDL clock dt _ hc0 hc1 (by omega) (by omega) k3).mono ?_); rintro e w5 ⟨rfl, b5⟩; refine ⟨_, rfl, ?_⟩; have zX := (Blk.new (W.alloc (.cells #[.int .i64 nid, .int .i64 nco, .int .i64 nme, .int .i64 nin, .int .i64 nbe, .int .i64 short, .int .i64 clock, .bool runs, .int .i64 inc, .slice A sent.length c, .int .i64 replied, .slice A2 l.length c2] tDA)) tDA zD).below b5 (by first | (simp; done) | (simp; omega)); have oX := (bX'.out.alloc (.cells zD tDA)).below b5 (by first | (simp; done) | (simp; omega)); clear d0 d1 d2 d3 d4 d5 d6 d7 d8 d9 d10 d11; have d0 := oX.cell 0; have d1 := oX.cell 1; have d2 := oX.cell 2; have d3 := oX.cell 3; have d4 := oX.cell 4; have d5 := oX.cell 5; have d6 := oX.cell 6; have d7 := oX.cell 7; have d8 := oX.cell 8; have d9 := oX.cell 9; have d10 := oX.cell 10; have d11 := oX.cell 11; have d6f := oX.frozen 6; have x0 := zX.cell 0; have x1 := zX.cell 1; have x2 := zX.cell 2; have x3 := zX.cell 3; have x4 := zX.cell 4; have x5 := zX.cell 5; have x6 := zX.cell 6; have x7 := zX.cell 7; have x8 := zX.cell 8; have x9 := zX.cell 9; have x10 := zX.cell 10; have x11 := zX.cell 11; have y0 := zX.frozen 0; have y1 := zX.frozen 1; have y2 := zX.frozen 2; have y3 := zX.frozen 3; have y4 := zX.frozen 4; have y5 := zX.frozen 5; have y6 := zX.frozen 6; have y7 := zX.frozen 7; have y8 := zX.frozen 8; have y9 := zX.frozen 9; have y10 := zX.frozen 10; have y11 := zX.frozen 11; simp only [List.getElem?_toArray, List.getElem?_cons_zero, List.getElem?_cons_succ, World.size_alloc] at d0 d1 d2 d3 d4 d5 d6 d7 d8 d9 d10 d11 x0 x1 x2 x3 x4 x5 x6 x7 x8 x9 x10 x11 y0 y1 y2 y3 y4 y5 y6 y7 y8 y9 y10 y11; have oX' := Lib.hid oX; have zX' := Lib.hid zX; have b5' := Lib.hid ((below2 _ _).trans (below_le b5 (by first | (simp; done) | (simp; omega)))); clear oX zX b5))
    have zY : Blk (w5.setCell ⟨W.heap.size, 6, none⟩ (.int .i64 (clock + dt))) _ tDA zD := (Below.heap_setCell _ _ _ _ (by rw [World.size_alloc]; exact Nat.succ_ne_self _)).trans zX'.out
    have bY := b5'.out.setCell (p := ⟨W.heap.size, 6, none⟩) (Nat.le_refl _) (.int .i64 (clock + dt))
    have RR := blk12 zY (by rfl) (.int .i64 nid) (.int .i64 nco) (.int .i64 nme) (.int .i64 nin) (.int .i64 nbe) (.int .i64 short) (.int .i64 (clock + dt)) (.bool runs) (.int .i64 inc) (.slice A sent.length c) (.int .i64 replied) (.slice A2 l.length c2)
    rw [World.size_alloc] at RR
    refine bodyPost_ret (results_ct rfl _ _ _ tDA #[.int .i64 nid, .int .i64 nco, .int .i64 nme, .int .i64 nin, .int .i64 nbe, .int .i64 short, .int .i64 (clock + dt), .bool runs, .int .i64 inc, .slice A sent.length c, .int .i64 replied, .slice A2 l.length c2] (0, 0) _ rfl RR Try.underlying91 rfl (by kernel_rfl)) rfl ?_
    exact ⟨_, rfl, ⟨_, _, l, rfl, ((h'.out.of (S' := ⟨nid, nco, nme, nin, nbe, short, clock + dt, runs, inc, sent, replied, jobs⟩) rfl rfl).mono (Q' := fun k => Q k ∨ W.heap.size ≤ k) fun k _ hk => .inl hk).below (below12 bY (Nat.le_succ _) _ _ _ _ _ _ _ _ _ _ _ _)⟩, below12 bY (Nat.le_succ _) _ _ _ _ _ _ _ _ _ _ _ _⟩
set_option maxRecDepth 100000 in
set_option maxHeartbeats 4000000 in
theorem beatD {Q : Nat → Prop} {vs vj : Value} {l : List (Jb × DJ)} {S : Ag} (W : World) (h : DocM Q vs vj l S W) (hsl : S.sent.length ≤ 100000) :
    Calls Try.prog 66 #[.agg (agCells S vs vj)] W fun e W' => ∃ x', e = .returned (.tuple #[x', .int .i64 (beatG S).2.1, .int .i64 (beatG S).2.2]) ∧ DocR (fun k => Q k ∨ W.heap.size ≤ k) W' x' (beatG S).1 ∧ Below W.heap.size W W' := by
  obtain ⟨nid, nco, nme, nin, nbe, short, clock, runs, inc, sent, replied, jobs⟩ := S
  obtain ⟨A, c, rfl⟩ := own_slice h.sent
  obtain ⟨A2, c2, rfl⟩ := own_slice h.jrow
  dsimp only [agCells]
  have h' := Lib.hid h
  clear h
  have hsl0 := hsl
  cases runs with
  | false =>
    have bX := Blk.new W tDA #[.int .i64 nid, .int .i64 nco, .int .i64 nme, .int .i64 nin, .int .i64 nbe, .int .i64 short, .int .i64 clock, .bool false, .int .i64 inc, .slice A sent.length c, .int .i64 replied, .slice A2 l.length c2]
    have d0 := bX.cell 0
    have d1 := bX.cell 1
    have d2 := bX.cell 2
    have d3 := bX.cell 3
    have d4 := bX.cell 4
    have d5 := bX.cell 5
    have d6 := bX.cell 6
    have d7 := bX.cell 7
    have d8 := bX.cell 8
    have d9 := bX.cell 9
    have d10 := bX.cell 10
    have d11 := bX.cell 11
    simp only [List.getElem?_toArray, List.getElem?_cons_zero, List.getElem?_cons_succ] at d0 d1 d2 d3 d4 d5 d6 d7 d8 d9 d10 d11
    have b0' := Lib.hid ((Below.refl W.heap.size W).alloc (Nat.le_refl _) (.cells #[.int .i64 nid, .int .i64 nco, .int .i64 nme, .int .i64 nin, .int .i64 nbe, .int .i64 short, .int .i64 clock, .bool false, .int .i64 inc, .slice A sent.length c, .int .i64 replied, .slice A2 l.length c2] tDA))
    have bX' := Lib.hid bX
    clear bX
    have hj := Lib.hid (show beatG ⟨nid, nco, nme, nin, nbe, short, clock, false, inc, sent, replied, jobs⟩ = (⟨nid, nco, nme, nin, nbe, short, clock, false, inc, sent, replied, jobs⟩, 0, 13) from if_neg (by simp))
    simp only [hj.out]
    go_enter Try.func66, Try.ntmps66
    go_wp2
    have RR := Blk.new (W.alloc (.cells #[.int .i64 nid, .int .i64 nco, .int .i64 nme, .int .i64 nin, .int .i64 nbe, .int .i64 short, .int .i64 clock, .bool false, .int .i64 inc, .slice A sent.length c, .int .i64 replied, .slice A2 l.length c2] tDA)) tDA #[.int .i64 nid, .int .i64 nco, .int .i64 nme, .int .i64 nin, .int .i64 nbe, .int .i64 short, .int .i64 clock, .bool false, .int .i64 inc, .slice A sent.length c, .int .i64 replied, .slice A2 l.length c2]
    rw [World.size_alloc] at RR
    refine bodyPost_ret (results_ctt rfl _ _ _ tDA #[.int .i64 nid, .int .i64 nco, .int .i64 nme, .int .i64 nin, .int .i64 nbe, .int .i64 short, .int .i64 clock, .bool false, .int .i64 inc, .slice A sent.length c, .int .i64 replied, .slice A2 l.length c2] (0, 0) _ rfl RR Try.underlying91 rfl (by kernel_rfl)) rfl ?_
    exact ⟨_, rfl, ⟨_, _, l, rfl, (h'.out.mono fun k _ hk => .inl hk).below (below2 _ _)⟩, below2 _ _⟩
  | true =>
    have bX := Blk.new W tDA #[.int .i64 nid, .int .i64 nco, .int .i64 nme, .int .i64 nin, .int .i64 nbe, .int .i64 short, .int .i64 clock, .bool true, .int .i64 inc, .slice A sent.length c, .int .i64 replied, .slice A2 l.length c2]
    have d0 := bX.cell 0
    have d1 := bX.cell 1
    have d2 := bX.cell 2
    have d3 := bX.cell 3
    have d4 := bX.cell 4
    have d5 := bX.cell 5
    have d6 := bX.cell 6
    have d7 := bX.cell 7
    have d8 := bX.cell 8
    have d9 := bX.cell 9
    have d10 := bX.cell 10
    have d11 := bX.cell 11
    simp only [List.getElem?_toArray, List.getElem?_cons_zero, List.getElem?_cons_succ] at d0 d1 d2 d3 d4 d5 d6 d7 d8 d9 d10 d11
    have b0' := Lib.hid ((Below.refl W.heap.size W).alloc (Nat.le_refl _) (.cells #[.int .i64 nid, .int .i64 nco, .int .i64 nme, .int .i64 nin, .int .i64 nbe, .int .i64 short, .int .i64 clock, .bool true, .int .i64 inc, .slice A sent.length c, .int .i64 replied, .slice A2 l.length c2] tDA))
    have bX' := Lib.hid bX
    clear bX
    have hj := Lib.hid (show beatG ⟨nid, nco, nme, nin, nbe, short, clock, true, inc, sent, replied, jobs⟩ = (⟨nid, nco, nme, nin, nbe, short, clock, true, inc, sent ++ [clock], replied, jobs⟩, (sent.length : Int) + 1, 0) from if_pos rfl)
    simp only [hj.out]
    dsimp only at hsl
    have hB2 := below2 (W := W) (.cells #[.int .i64 nid, .int .i64 nco, .int .i64 nme, .int .i64 nin, .int .i64 nbe, .int .i64 short, .int .i64 clock, .bool true, .int .i64 inc, .slice A sent.length c, .int .i64 replied, .slice A2 l.length c2] tDA) (.cells zD tDA)
    have hB2' := Lib.hid hB2
    obtain ⟨v3, w3, hrun, hown3, hb3⟩ := copy_run (P := Try.prog) (t := 72) Try.underlying72 infoQ rfl (by decide) (by decide) (h'.out.below hB2).sent (ints_one _) (by dsimp only; omega)
    dsimp only at hrun hown3
    simp only [World.size_alloc] at hrun hown3
    obtain ⟨A3, c3, rfl⟩ := own_slice hown3
    have hown3' := Lib.hid hown3
    have hb3' := Lib.hid (hB2.trans (below_le hb3 hB2.size))
    have oX := (bX'.out.alloc (.cells zD tDA)).below hb3 (by first | (simp; done) | (simp; omega))
    have zX := (Blk.new (W.alloc (.cells #[.int .i64 nid, .int .i64 nco, .int .i64 nme, .int .i64 nin, .int .i64 nbe, .int .i64 short, .int .i64 clock, .bool true, .int .i64 inc, .slice A sent.length c, .int .i64 replied, .slice A2 l.length c2] tDA)) tDA zD).below hb3 (by first | (simp; done) | (simp; omega))
    rw [World.size_alloc] at zX
    have hsz3 : W.heap.size + 1 + 1 ≤ w3.heap.size := by have := hb3.size; simp at this; omega
    clear d0 d1 d2 d3 d4 d5 d6 d7 d8 d9 d10 d11
    have d0 := oX.cell 0
    have d1 := oX.cell 1
    have d2 := oX.cell 2
    have d3 := oX.cell 3
    have d4 := oX.cell 4
    have d5 := oX.cell 5
    have d6 := oX.cell 6
    have d7 := oX.cell 7
    have d8 := oX.cell 8
    have d9 := oX.cell 9
    have d10 := oX.cell 10
    have d11 := oX.cell 11
    have q9f := oX.frozen 9
    simp only [List.getElem?_toArray, List.getElem?_cons_zero, List.getElem?_cons_succ] at d0 d1 d2 d3 d4 d5 d6 d7 d8 d9 d10 d11
    have oX' := Lib.hid oX
    have zX' := Lib.hid zX
    obtain ⟨i0, hif, hz0, hz1, hz2⟩ := info_parts infoQ
    clear oX zX hown3 hb3 hB2
    go_enter Try.func66, Try.ntmps66
    go_wp2_with (first | (at_builtin; refine wpList_append_run _ rfl _ _ _ _ rfl _ _ rfl rfl hrun ?_) | (at_builtin; refine wpList_append_lies _ rfl _ _ 72 rfl (W.heap.size + 1 + 1) tQ i0 _ 1 8 Try.underlying72 hif hz0 hz1 hz2 rfl (by decide) _ _ _ rfl (hown3'.out.alloc _) ⟨w3.heap.size, 0, none⟩ 1 1 [.int .i64 clock] rfl rfl (World.news_of_block (cs := #[.int .i64 clock]) (t := tQ) (fr := (0, 0)) (heap_alloc_new _ _)) (by simp [Value.oneCell']) (by omega) (by unfold maxLen; omega) (by omega) (by simp; omega) _ rfl ?_))
    intro gg cap w9 hrow9 hgr9 hat9 hlt9
    have hA3 : ∀ k, (Value.slice A3 sent.length c3).ownBlock = some k → W.heap.size + 1 + 1 ≤ k := fun k hk => (own_block hown3'.out hk).1
    have hgg : W.heap.size + 1 + 1 ≤ gg := hat9.elim (fun h => hA3 _ h) (fun h => by omega)
    have oX9 := ((oX'.out.alloc (.cells #[.int .i64 clock] tQ)).kept hgr9 (fun e => by have := hA3 _ e.symm; omega))
    have zX9 := ((zX'.out.alloc (.cells #[.int .i64 clock] tQ)).kept hgr9 (fun e => by have := hA3 _ e.symm; omega))
    have q9 := oX9.frozen 9
    have oY := oX9.set 9 (.slice (some ⟨gg, 0, none⟩) (sent.length + 1) cap) (by simp)
    have zY : Blk (w9.setCell ⟨W.heap.size, 9, none⟩ (.slice (some ⟨gg, 0, none⟩) (sent.length + 1) cap)) (W.heap.size + 1) tDA zD := (Below.heap_setCell _ _ _ _ (Nat.succ_ne_self _)).trans zX9
    simp only [List.setIfInBounds_toArray, List.set_cons_succ, List.set_cons_zero] at oY
    clear d0 d1 d2 d3 d4 d5 d6 d7 d8 d9 d10 d11
    have d0 := oY.cell 0
    have d1 := oY.cell 1
    have d2 := oY.cell 2
    have d3 := oY.cell 3
    have d4 := oY.cell 4
    have d5 := oY.cell 5
    have d6 := oY.cell 6
    have d7 := oY.cell 7
    have d8 := oY.cell 8
    have d9 := oY.cell 9
    have d10 := oY.cell 10
    have d11 := oY.cell 11
    have y0 := zY.cell 0
    have z0 := zY.frozen 0
    have y1 := zY.cell 1
    have z1 := zY.frozen 1
    have y2 := zY.cell 2
    have z2 := zY.frozen 2
    have y3 := zY.cell 3
    have z3 := zY.frozen 3
    have y4 := zY.cell 4
    have z4 := zY.frozen 4
    have y5 := zY.cell 5
    have z5 := zY.frozen 5
    have y6 := zY.cell 6
    have z6 := zY.frozen 6
    have y7 := zY.cell 7
    have z7 := zY.frozen 7
    have y8 := zY.cell 8
    have z8 := zY.frozen 8
    have y9 := zY.cell 9
    have z9 := zY.frozen 9
    have y10 := zY.cell 10
    have z10 := zY.frozen 10
    have y11 := zY.cell 11
    have z11 := zY.frozen 11
    have c9 := oX9.cell 9
    simp only [List.getElem?_toArray, List.getElem?_cons_zero, List.getElem?_cons_succ] at c9 d0 y0 d1 y1 d2 y2 d3 y3 d4 y4 d5 y5 d6 y6 d7 y7 d8 y8 d9 y9 d10 y10 d11 y11
    have zY' := Lib.hid zY
    have hb9' := Lib.hid (below_grown (hb3'.out.alloc hb3'.out.size (.cells #[.int .i64 clock] tQ)) hgr9 (Nat.le_refl _) (fun k hk => by have := hA3 k hk; omega))
    have hrow9' := Lib.hid hrow9
    have oX9' := Lib.hid oX9
    clear oY zY oX9 zX9 hrow9 hgr9 hat9
    go_wp2
    go_region
    go_wp2
    have RR := blk12 zY'.out (by rfl) (.int .i64 nid) (.int .i64 nco) (.int .i64 nme) (.int .i64 nin) (.int .i64 nbe) (.int .i64 short) (.int .i64 clock) (.bool true) (.int .i64 inc) (.slice (some ⟨gg, 0, none⟩) (sent.length + 1) cap) (.int .i64 replied) (.slice A2 l.length c2)
    refine bodyPost_ret (results_ctt rfl _ _ _ tDA #[.int .i64 nid, .int .i64 nco, .int .i64 nme, .int .i64 nin, .int .i64 nbe, .int .i64 short, .int .i64 clock, .bool true, .int .i64 inc, .slice (some ⟨gg, 0, none⟩) (sent.length + 1) cap, .int .i64 replied, .slice A2 l.length c2] (0, 0) _ rfl (blk_drew RR) Try.underlying91 rfl (by kernel_rfl)) rfl ?_
    have bF := below12 (hb9'.out.setCell (p := ⟨W.heap.size, 9, none⟩) (Nat.le_refl _) (.slice (some ⟨gg, 0, none⟩) (sent.length + 1) cap)) (Nat.le_succ W.heap.size) (.int .i64 nid) (.int .i64 nco) (.int .i64 nme) (.int .i64 nin) (.int .i64 nbe) (.int .i64 short) (.int .i64 clock) (.bool true) (.int .i64 inc) (.slice (some ⟨gg, 0, none⟩) (sent.length + 1) cap) (.int .i64 replied) (.slice A2 l.length c2)
    have bG := bF.drew
    have hD := h'.out.below bG
    have hH : ∀ k, W.heap.size + 1 + 1 ≤ k → (World.drew (set12 (w9.setCell ⟨W.heap.size, 9, none⟩ (.slice (some ⟨gg, 0, none⟩) (sent.length + 1) cap)) (W.heap.size + 1) (.int .i64 nid) (.int .i64 nco) (.int .i64 nme) (.int .i64 nin) (.int .i64 nbe) (.int .i64 short) (.int .i64 clock) (.bool true) (.int .i64 inc) (.slice (some ⟨gg, 0, none⟩) (sent.length + 1) cap) (.int .i64 replied) (.slice A2 l.length c2))).heap[k]? = w9.heap[k]? := fun k hk => by
      rw [drew_heap, set12_heap _ _ _ _ _ _ _ _ _ _ _ _ _ _ (by omega)]
      exact Below.heap_setCell _ _ _ _ (by show k ≠ W.heap.size; omega)
    generalize World.drew _ = wF at *
    refine ⟨_, rfl, ⟨_, _, l, rfl, hD.fst, ?_, ?_, hD.jrow, fun k hk => .inl (hD.jrowQ k hk), fun p hp => (hD.job p hp).mono fun k _ hk => .inl hk⟩, bG⟩
    · refine Str.own_move (w := w9) ?_ fun k hk => ?_
      · have := own_lower' hrow9'.out (Nat.zero_le _)
        simpa using this
      · have e : gg = k := by simpa [Value.ownBlock] using hk
        exact hH k (by omega)
    · intro k hk
      have e : gg = k := by simpa [Value.ownBlock] using hk
      exact .inr (by omega)
end Go.Proofs.Ytkcmmghhghgdpaa.Agt
end
section
namespace Go.Proofs.Ytkcmmghhghgdpaa.Agt
open Go.RowKit Go.Shelf Go.Maps Go.Proofs.Ytkcmmghhghgdpaa.Iter Go.Proofs.Ytkcmmghhghgdpaa.Str Go.Proofs.YtkcmmghhghgdpaaW.PrintWords Go.Proofs.YtkcmmghhghgdpaaW.PrintLast
set_option linter.unusedVariables false
set_option linter.unusedSimpArgs false
/-- Numbers that rise. -/
def RisI (l : List Int) : Prop := ∀ (i : Nat) (x y : Int), l[i]? = some x → l[i + 1]? = some y → x < y
theorem RisI.take {l : List Int} {i : Nat} {y : Int} (h : RisI (l.take i)) (hy : l[i]? = some y) (hp : ∀ x, 0 < i → l[i - 1]? = some x → x < y) : RisI (l.take (i + 1)) := fun j a b ha hb => by
  rw [List.getElem?_take] at ha hb
  split at hb
  · rename_i hj
    rw [if_pos (by omega)] at ha
    by_cases e : j + 1 = i
    · subst e
      rw [hy] at hb
      obtain rfl := Option.some.inj hb
      exact hp a (by omega) (by rw [Nat.add_sub_cancel]; exact ha)
    · refine h j a b ?_ ?_
      · rw [List.getElem?_take, if_pos (by omega)]
        exact ha
      · rw [List.getElem?_take, if_pos (by omega)]
        exact hb
  · cases hb
theorem RisI.nil : RisI [] := fun i x y h => by simp at h
set_option maxRecDepth 100000 in
set_option maxHeartbeats 4000000 in
theorem risesD (A : Option Addr) (c : Nat) (l : List Int) (W : World) (hr : ReadsI W A l) (hl : l.length ≤ 9223372036854775807) :
    Calls Try.prog 100 #[.slice A l.length c] W fun e W' => (∃ b, e = .returned (.bool b) ∧ (b = true ↔ RisI l)) ∧ ∃ m, W' = W.drewN m := by
  have hr' := Lib.hid hr
  clear hr
  go_enter Try.func100, Try.ntmps100
  go_wp2
  go_loopw [6] (fun iv wr => ∃ (i : Nat), iv = .int .i64 (i : Int) ∧ i ≤ l.length ∧ RisI (l.take i) ∧ ∃ m, wr = W.drewN m)
    (fun iv _ => l.length - (intOf iv).toNat)
  case atStart => exact ⟨0, rfl, Nat.zero_le _, RisI.nil, 0, rfl⟩
  case round =>
    obtain ⟨i, rfl, hi, hris, m, hwr⟩ := hrel
    have hrm' := Lib.hid (hr'.out.below (hwr ▸ pw_below_drewN (Below.refl _ _) m))
    have hwr' := Lib.hid hwr
    clear hwr
    by_cases hlt : i < l.length
    · obtain ⟨y, hy⟩ : ∃ y, l[i]? = some y := ⟨l[i], List.getElem?_eq_getElem hlt⟩
      have hris' := Lib.hid hris
      by_cases h0 : i = 0
      · have h0' := Lib.hid h0
        have hx0 : decide ((0 : Int) < (i : Int)) = false := decide_eq_false (by omega)
        have hx2 : decide (0 < i) = false := decide_eq_false (by omega)
        have hx3 : decide ((i : Int) > 0) = false := decide_eq_false (by omega)
        have hy' := Lib.hid hy
        clear hris h0 hy
        go_wp2
        go_quiet (fail)
        go_wp2
        go_roundw
        case rel => exact ⟨i + 1, by go_num, by omega, hris'.out.take hy'.out (fun x h => by have := h0'.out; omega), by rw [hwr'.out]; first | exact ⟨_, rfl⟩ | exact ⟨_, World.drewN_drewN _ _ _⟩ | (simp only [World.drewN_drewN, World.drew_drewN]; exact ⟨_, rfl⟩)⟩
        case measure => simp [intOf]; omega
      · obtain ⟨x, hx⟩ : ∃ x, l[i - 1]? = some x := ⟨_, List.getElem?_eq_getElem (by omega)⟩
        obtain ⟨ad, rfl, _, p0⟩ := hrm'.out (i - 1) x hx
        obtain ⟨ad2, hA, _, q0⟩ := hrm'.out i y hy
        obtain rfl := Option.some.inj hA
        have hx0 : (0 : Int) < (i : Int) := by omega
        have h0n : 0 < i := by omega
        have hw : IntKind.i64.wrap ((i : Int) - 1) = ((i - 1 : Nat) : Int) := by rw [show ((i - 1 : Nat) : Int) = (i : Int) - 1 by omega]; exact IntWalk.i64_in _ (by omega)
        have hx1 : ((i - 1 : Nat) : Int) < (l.length : Int) := by omega
        have hi0 := Lib.hid (show i - 1 + 1 = i by omega)
        have hx' := Lib.hid hx
        have hy' := Lib.hid hy
        clear hris hx hy h0 hA
        by_cases hle : y ≤ x
        · have x1 : decide (y ≤ x) = true := decide_eq_true hle
          go_wp2
          go_quiet (fail)
          go_wp2
          go_ret
          exact ⟨⟨_, rfl, (fun h => by cases h), fun h => absurd (h (i - 1) x y hx'.out (by rw [hi0.out]; exact hy'.out)) (by omega)⟩, by rw [hwr'.out]; first | exact ⟨_, rfl⟩ | exact ⟨_, World.drewN_drewN _ _ _⟩ | (simp only [World.drewN_drewN, World.drew_drewN]; exact ⟨_, rfl⟩)⟩
        · have x1 : decide (y ≤ x) = false := decide_eq_false hle
          go_wp2
          go_quiet (fail)
          go_wp2
          go_roundw
          case rel => exact ⟨i + 1, by go_num, by omega, hris'.out.take hy'.out (fun z _ hz => by rw [hx'.out] at hz; obtain rfl := Option.some.inj hz; omega), by rw [hwr'.out]; first | exact ⟨_, rfl⟩ | exact ⟨_, World.drewN_drewN _ _ _⟩ | (simp only [World.drewN_drewN, World.drew_drewN]; exact ⟨_, rfl⟩)⟩
          case measure => simp [intOf]; omega
    · have hi' : i = l.length := by omega
      subst hi'
      rw [List.take_length] at hris
      have hris' := Lib.hid hris
      clear hris
      go_wp2
      go_ret
      exact ⟨⟨_, rfl, fun _ => hris'.out, fun _ => rfl⟩, _, hwr'.out⟩
theorem risesYes {A : Option Addr} {c : Nat} {l : List Int} {W : World} (h : RisI l) (hr : ReadsI W A l) (hl : l.length ≤ 9223372036854775807) : Calls Try.prog 100 #[.slice A l.length c] W fun e W' => e = .returned (.bool true) ∧ ∃ m, W' = W.drewN m :=
  (risesD A c l W hr hl).mono fun e W' ⟨⟨b, h1, h2⟩, h3⟩ => ⟨by rw [h1, h2.2 h], h3⟩
theorem risesNo {A : Option Addr} {c : Nat} {l : List Int} {W : World} (h : ¬ RisI l) (hr : ReadsI W A l) (hl : l.length ≤ 9223372036854775807) : Calls Try.prog 100 #[.slice A l.length c] W fun e W' => e = .returned (.bool false) ∧ ∃ m, W' = W.drewN m :=
  (risesD A c l W hr hl).mono fun e W' ⟨⟨b, h1, h2⟩, h3⟩ => ⟨by rw [h1, Bool.eq_false_iff.2 (fun hb => h (h2.1 hb))], h3⟩
/-- Seven cells stored one behind the other. -/
abbrev set7 (w : World) (b : Nat) (v0 v1 v2 v3 v4 v5 v6 : Value) : World :=
  ((((((w.setCell ⟨b, 0, none⟩ v0).setCell ⟨b, 1, none⟩ v1).setCell ⟨b, 2, none⟩ v2).setCell ⟨b, 3, none⟩ v3).setCell ⟨b, 4, none⟩ v4).setCell ⟨b, 5, none⟩ v5).setCell ⟨b, 6, none⟩ v6
theorem blk7 {w : World} {b : Nat} {t : TypeId} {cs : Array Value} (h : Blk w b t cs) (hs : cs.size = 7) (v0 v1 v2 v3 v4 v5 v6 : Value) : Blk (set7 w b v0 v1 v2 v3 v4 v5 v6) b t #[v0, v1, v2, v3, v4, v5, v6] := by
  obtain ⟨l⟩ := cs
  match l, hs with
  | [a0, a1, a2, a3, a4, a5, a6], _ =>
    have := ((((((h.set 0 v0 (by simp)).set 1 v1 (by simp)).set 2 v2 (by simp)).set 3 v3 (by simp)).set 4 v4 (by simp)).set 5 v5 (by simp)).set 6 v6 (by simp)
    simpa using this
theorem below7 {B : Nat} {w W : World} {b : Nat} (h : Below B W w) (hb : B ≤ b) (v0 v1 v2 v3 v4 v5 v6 : Value) : Below B W (set7 w b v0 v1 v2 v3 v4 v5 v6) :=
  ((((((h.setCell (p := ⟨b, 0, none⟩) hb _).setCell (p := ⟨b, 1, none⟩) hb _).setCell (p := ⟨b, 2, none⟩) hb _).setCell (p := ⟨b, 3, none⟩) hb _).setCell (p := ⟨b, 4, none⟩) hb _).setCell (p := ⟨b, 5, none⟩) hb _).setCell (p := ⟨b, 6, none⟩) hb _
abbrev tsCells (t : Ts) (A : Option Addr) (c : Nat) : Array Value := #[.int .i64 t.id, .int .i64 t.queue, .int .i64 t.cpu, .int .i64 t.mem, .int .i64 t.work, .slice A t.tk.length c, .int .i64 t.state]
abbrev zT : Array Value := #[.int .i64 0, .int .i64 0, .int .i64 0, .int .i64 0, .int .i64 0, .slice none 0 0, .int .i64 0]
/-- Are numbers of tickets of the form? -/
def tkB (l : List Int) : Bool := l.all fun k => decide (1 ≤ k) && decide (k ≤ 16)
theorem tkB_take (l : List Int) (i : Nat) (k : Int) (h : l[i]? = some k) : tkB (l.take (i + 1)) = (tkB (l.take i) && (decide (1 ≤ k) && decide (k ≤ 16))) := by
  unfold tkB
  rw [List.take_add_one, h, List.all_append]
  simp
theorem fits_eq (t : Ts) : fitsT t = ((decide (1 ≤ (t.tk.length : Int)) && decide ((t.tk.length : Int) ≤ 16) && decide (0 ≤ t.work)) && tkB t.tk) := by
  have : (!(t.tk.any fun k => decide (k < 1) || decide (16 < k))) = tkB t.tk := by
    unfold tkB
    rw [List.not_any_eq_all_not]
    congr 1
    funext k
    by_cases h1 : k < 1 <;> by_cases h2 : 16 < k <;> simp [h1, h2] <;> omega
  unfold fitsT
  rw [this]
  cases decide (1 ≤ (t.tk.length : Int)) <;> cases decide ((t.tk.length : Int) ≤ 16) <;> cases decide (0 ≤ t.work) <;> cases tkB t.tk <;> rfl
set_option maxRecDepth 100000 in
set_option maxHeartbeats 8000000 in
theorem taskD {F : Nat → Prop} (A : Option Addr) (c0 : Nat) (ts : List Ts) (id : Int) (W : World) (hr : ReadsT F W A ts) (hl : ts.length ≤ 9223372036854775807) :
    Calls Try.prog 90 #[.slice A ts.length c0, .int .i64 id] W fun e W' => ((∃ t A' c, findT ts id = some t ∧ e = .returned (.tuple #[.agg (tsCells t A' c), .bool (fitsT t)]) ∧ ReadsF F W A' t.tk ∧ t.tk.length ≤ c ∧ t.tk.length ≤ 9223372036854775807) ∨ (findT ts id = none ∧ e = .returned (.tuple #[.agg zT, .bool false]))) ∧ Below W.heap.size W W' := by
  have hr' := Lib.hid hr
  clear hr
  have hz0 := Lib.hid (Blk.new W tT zT)
  have hb0 := Lib.hid ((Below.refl W.heap.size W).alloc (Nat.le_refl _) (.cells zT tT))
  go_enter Try.func90, Try.ntmps90
  go_wp2
  go_loopw [13] (fun iv wr => ∃ (i : Nat), iv = .int .i64 (i : Int) ∧ i ≤ ts.length ∧ (∀ t ∈ ts.take i, (t.id == id) = false) ∧ Blk wr W.heap.size tT zT ∧ Below W.heap.size W wr)
    (fun iv _ => ts.length - (intOf iv).toNat)
  case atStart => exact ⟨0, rfl, Nat.zero_le _, (fun t ht => by simp at ht), hz0.out, hb0.out⟩
  case round =>
    obtain ⟨i, rfl, hi, hno, hz, hbel⟩ := hrel
    by_cases hlt : i < ts.length
    · obtain ⟨t, ht⟩ : ∃ t, ts[i]? = some t := ⟨ts[i], List.getElem?_eq_getElem hlt⟩
      obtain ⟨ad, A', c, rfl, _, q0, q1, q2, q3, q4, q5, q6, hri, hci, hwi, hl3, _⟩ := (hr'.out.below hbel) i t ht
      have hriW := Lib.hid (show ReadsF F W A' t.tk from ⟨fun j x hx => by
        obtain ⟨ad2, A2, c2, hA, hlt2, _, _, _, _, _, p5, _, hr2, _⟩ := hr'.out i t ht
        obtain rfl := Option.some.inj hA
        have e := (keep_cell hbel p5 (by show (Addr.add _ _).block < _; rw [add_block]; exact hlt2)).symm.trans q5
        injection e with e
        injection e with e _ _
        rw [← e]
        exact hr2.1 j x hx, hri.2⟩)
      have bC := Blk.new wr tT (tsCells t A' c)
      have d0 := bC.cell 0
      have d1 := bC.cell 1
      have d2 := bC.cell 2
      have d3 := bC.cell 3
      have d4 := bC.cell 4
      have d5 := bC.cell 5
      have d6 := bC.cell 6
      simp only [List.getElem?_toArray, List.getElem?_cons_zero, List.getElem?_cons_succ] at d0 d1 d2 d3 d4 d5 d6
      have bC' := Lib.hid bC
      have hri' := Lib.hid (hri.below ((Below.refl wr.heap.size wr).alloc (Nat.le_refl _) (.cells (tsCells t A' c) tT)))
      have hb2 := Lib.hid (hbel.alloc hbel.size (.cells (tsCells t A' c) tT))
      have hz2 := Lib.hid (hz.alloc (.cells (tsCells t A' c) tT))
      have ht' := Lib.hid ht
      have hno' := Lib.hid hno
      have hwl := hbel.size
      have hzl := hz.lt
      clear hri hbel hz bC ht hno
      by_cases e : t.id = id
      · have q1 : (t.id == id) = true := beq_iff_eq.mpr e
        have q2' : (t.id != id) = false := by simp [bne, q1]
        have hf := Lib.hid (show findT ts id = some t by
          unfold findT
          rw [List.find?_eq_some_iff_getElem]
          have hil := (List.getElem?_eq_some_iff.1 ht'.out).1
          refine ⟨q1, i, hil, (List.getElem?_eq_some_iff.1 ht'.out).2, fun j hj => ?_⟩
          have := hno'.out (ts[j]) (List.mem_iff_getElem?.2 ⟨j, by rw [List.getElem?_take, if_pos hj]; exact List.getElem?_eq_getElem _⟩)
          simp [this])
        have hfit := Lib.hid (fits_eq t)
        obtain ⟨b0, hb0e⟩ : ∃ b, (decide (1 ≤ (t.tk.length : Int)) && decide ((t.tk.length : Int) ≤ 16) && decide (0 ≤ t.work)) = b := ⟨_, rfl⟩
        rw [hb0e] at hfit
        have e' := Lib.hid e
        clear e
        by_cases g1 : 1 ≤ (t.tk.length : Int)
        · by_cases g2 : (t.tk.length : Int) ≤ 16
          · by_cases g3 : 0 ≤ t.work
            · obtain rfl : b0 = true := by rw [← hb0e]; simp [g1, g2, g3]
              clear hb0e
              go_wp2
              go_loopw [8, 39] (fun bv kv wq => ∃ (k : Nat) (b : Bool), bv = .bool b ∧ kv = .int .i64 (k : Int) ∧ k ≤ t.tk.length ∧ b = (true && tkB (t.tk.take k)) ∧ Blk wq W.heap.size tT zT ∧ Blk wq wr.heap.size tT (tsCells t A' c) ∧ ReadsI wq A' t.tk ∧ Below W.heap.size W wq)
                (fun _ kv _ => t.tk.length - (intOf kv).toNat)
              case atStart => exact ⟨0, _, rfl, rfl, Nat.zero_le _, by simp [tkB], hz2.out, bC'.out, hri'.out.1, hb2.out⟩
              case round =>
                obtain ⟨k, b, rfl, rfl, hk, hbe, hz3, hc3, hrk, hbel⟩ := hrel
                by_cases hlk : k < t.tk.length
                · obtain ⟨x, hx⟩ : ∃ x, t.tk[k]? = some x := ⟨t.tk[k], List.getElem?_eq_getElem hlk⟩
                  obtain ⟨ad3, rfl, _, p0⟩ := hrk k x hx
                  have hst := Lib.hid (tkB_take t.tk k x hx)
                  have hbe' := Lib.hid hbe
                  have hz3' := Lib.hid hz3
                  have hc3' := Lib.hid hc3
                  have hrk' := Lib.hid hrk
                  have hbel' := Lib.hid hbel
                  clear hbe hz3 hc3 hrk hbel hx
                  cases b with
                  | false =>
                    go_wp2
                    go_roundw
                    case rel => exact ⟨k + 1, _, rfl, by go_num, by omega, by rw [hst.out, ← Bool.and_assoc, ← hbe'.out]; rfl, hz3'.out, hc3'.out, hrk'.out, hbel'.out⟩
                    case measure => simp [intOf]; omega
                  | true =>
                    by_cases x1 : 1 ≤ x
                    · by_cases x2 : x ≤ 16
                      · go_wp2
                        go_roundw
                        case rel => exact ⟨k + 1, _, rfl, by go_num, by omega, by rw [hst.out, ← Bool.and_assoc, ← hbe'.out]; simp [x1, x2], hz3'.out, hc3'.out, hrk'.out, hbel'.out⟩
                        case measure => simp [intOf]; omega
                      · go_wp2
                        go_roundw
                        case rel => exact ⟨k + 1, _, rfl, by go_num, by omega, by rw [hst.out, ← Bool.and_assoc, ← hbe'.out]; simp [x2], hz3'.out, hc3'.out, hrk'.out, hbel'.out⟩
                        case measure => simp [intOf]; omega
                    · go_wp2
                      go_roundw
                      case rel => exact ⟨k + 1, _, rfl, by go_num, by omega, by rw [hst.out, ← Bool.and_assoc, ← hbe'.out]; simp [x1], hz3'.out, hc3'.out, hrk'.out, hbel'.out⟩
                      case measure => simp [intOf]; omega
                · have hk' : k = t.tk.length := by omega
                  subst hk'
                  rw [List.take_length, ← hfit.out] at hbe
                  have hbe' := Lib.hid hbe
                  have y0 := hz3.cell 0
                  have y1 := hz3.cell 1
                  have y2 := hz3.cell 2
                  have y3 := hz3.cell 3
                  have y4 := hz3.cell 4
                  have y5 := hz3.cell 5
                  have y6 := hz3.cell 6
                  have z0 := hz3.frozen 0
                  have z1 := hz3.frozen 1
                  have z2 := hz3.frozen 2
                  have z3 := hz3.frozen 3
                  have z4 := hz3.frozen 4
                  have z5 := hz3.frozen 5
                  have z6 := hz3.frozen 6
                  have v0 := hc3.cell 0
                  have v1 := hc3.cell 1
                  have v2 := hc3.cell 2
                  have v3 := hc3.cell 3
                  have v4 := hc3.cell 4
                  have v5 := hc3.cell 5
                  have v6 := hc3.cell 6
                  simp only [List.getElem?_toArray, List.getElem?_cons_zero, List.getElem?_cons_succ] at y0 y1 y2 y3 y4 y5 y6 v0 v1 v2 v3 v4 v5 v6
                  have hz3' := Lib.hid hz3
                  have hbel' := Lib.hid hbel
                  clear hbe hz3 hc3 hrk hbel
                  go_wp2
                  have RR := blk7 hz3'.out (by rfl) (.int .i64 t.id) (.int .i64 t.queue) (.int .i64 t.cpu) (.int .i64 t.mem) (.int .i64 t.work) (.slice A' t.tk.length c) (.int .i64 t.state)
                  refine bodyPost_ret (results_ct rfl _ _ _ tT #[.int .i64 t.id, .int .i64 t.queue, .int .i64 t.cpu, .int .i64 t.mem, .int .i64 t.work, .slice A' t.tk.length c, .int .i64 t.state] (0, 0) _ rfl RR Try.underlying85 rfl (by kernel_rfl)) rfl ?_
                  exact ⟨.inl ⟨t, A', c, hf.out, by rw [← hbe'.out]; rfl, hriW.out, hci, hl3⟩, below7 hbel'.out (Nat.le_refl _) _ _ _ _ _ _ _⟩
            · obtain rfl : b0 = false := by rw [← hb0e]; simp [g3]
              clear hb0e
              go_wp2
              go_loopw [8, 39] (fun bv kv wq => ∃ (k : Nat) (b : Bool), bv = .bool b ∧ kv = .int .i64 (k : Int) ∧ k ≤ t.tk.length ∧ b = (false && tkB (t.tk.take k)) ∧ Blk wq W.heap.size tT zT ∧ Blk wq wr.heap.size tT (tsCells t A' c) ∧ ReadsI wq A' t.tk ∧ Below W.heap.size W wq)
                (fun _ kv _ => t.tk.length - (intOf kv).toNat)
              case atStart => exact ⟨0, _, rfl, rfl, Nat.zero_le _, by simp [tkB], hz2.out, bC'.out, hri'.out.1, hb2.out⟩
              case round =>
                obtain ⟨k, b, rfl, rfl, hk, hbe, hz3, hc3, hrk, hbel⟩ := hrel
                by_cases hlk : k < t.tk.length
                · obtain ⟨x, hx⟩ : ∃ x, t.tk[k]? = some x := ⟨t.tk[k], List.getElem?_eq_getElem hlk⟩
                  obtain ⟨ad3, rfl, _, p0⟩ := hrk k x hx
                  have hst := Lib.hid (tkB_take t.tk k x hx)
                  have hbe' := Lib.hid hbe
                  have hz3' := Lib.hid hz3
                  have hc3' := Lib.hid hc3
                  have hrk' := Lib.hid hrk
                  have hbel' := Lib.hid hbel
                  clear hbe hz3 hc3 hrk hbel hx
                  cases b with
                  | false =>
                    go_wp2
                    go_roundw
                    case rel => exact ⟨k + 1, _, rfl, by go_num, by omega, by rw [hst.out, ← Bool.and_assoc, ← hbe'.out]; rfl, hz3'.out, hc3'.out, hrk'.out, hbel'.out⟩
                    case measure => simp [intOf]; omega
                  | true =>
                    by_cases x1 : 1 ≤ x
                    · by_cases x2 : x ≤ 16
                      · go_wp2
                        go_roundw
                        case rel => exact ⟨k + 1, _, rfl, by go_num, by omega, by rw [hst.out, ← Bool.and_assoc, ← hbe'.out]; simp [x1, x2], hz3'.out, hc3'.out, hrk'.out, hbel'.out⟩
                        case measure => simp [intOf]; omega
                      · go_wp2
                        go_roundw
                        case rel => exact ⟨k + 1, _, rfl, by go_num, by omega, by rw [hst.out, ← Bool.and_assoc, ← hbe'.out]; simp [x2], hz3'.out, hc3'.out, hrk'.out, hbel'.out⟩
                        case measure => simp [intOf]; omega
                    · go_wp2
                      go_roundw
                      case rel => exact ⟨k + 1, _, rfl, by go_num, by omega, by rw [hst.out, ← Bool.and_assoc, ← hbe'.out]; simp [x1], hz3'.out, hc3'.out, hrk'.out, hbel'.out⟩
                      case measure => simp [intOf]; omega
                · have hk' : k = t.tk.length := by omega
                  subst hk'
                  rw [List.take_length, ← hfit.out] at hbe
                  have hbe' := Lib.hid hbe
                  have y0 := hz3.cell 0
                  have y1 := hz3.cell 1
                  have y2 := hz3.cell 2
                  have y3 := hz3.cell 3
                  have y4 := hz3.cell 4
                  have y5 := hz3.cell 5
                  have y6 := hz3.cell 6
                  have z0 := hz3.frozen 0
                  have z1 := hz3.frozen 1
                  have z2 := hz3.frozen 2
                  have z3 := hz3.frozen 3
                  have z4 := hz3.frozen 4
                  have z5 := hz3.frozen 5
                  have z6 := hz3.frozen 6
                  have v0 := hc3.cell 0
                  have v1 := hc3.cell 1
                  have v2 := hc3.cell 2
                  have v3 := hc3.cell 3
                  have v4 := hc3.cell 4
                  have v5 := hc3.cell 5
                  have v6 := hc3.cell 6
                  simp only [List.getElem?_toArray, List.getElem?_cons_zero, List.getElem?_cons_succ] at y0 y1 y2 y3 y4 y5 y6 v0 v1 v2 v3 v4 v5 v6
                  have hz3' := Lib.hid hz3
                  have hbel' := Lib.hid hbel
                  clear hbe hz3 hc3 hrk hbel
                  go_wp2
                  have RR := blk7 hz3'.out (by rfl) (.int .i64 t.id) (.int .i64 t.queue) (.int .i64 t.cpu) (.int .i64 t.mem) (.int .i64 t.work) (.slice A' t.tk.length c) (.int .i64 t.state)
                  refine bodyPost_ret (results_ct rfl _ _ _ tT #[.int .i64 t.id, .int .i64 t.queue, .int .i64 t.cpu, .int .i64 t.mem, .int .i64 t.work, .slice A' t.tk.length c, .int .i64 t.state] (0, 0) _ rfl RR Try.underlying85 rfl (by kernel_rfl)) rfl ?_
                  exact ⟨.inl ⟨t, A', c, hf.out, by rw [← hbe'.out]; rfl, hriW.out, hci, hl3⟩, below7 hbel'.out (Nat.le_refl _) _ _ _ _ _ _ _⟩
          · obtain rfl : b0 = false := by rw [← hb0e]; simp [g2]
            clear hb0e
            go_wp2
            go_loopw [8, 39] (fun bv kv wq => ∃ (k : Nat) (b : Bool), bv = .bool b ∧ kv = .int .i64 (k : Int) ∧ k ≤ t.tk.length ∧ b = (false && tkB (t.tk.take k)) ∧ Blk wq W.heap.size tT zT ∧ Blk wq wr.heap.size tT (tsCells t A' c) ∧ ReadsI wq A' t.tk ∧ Below W.heap.size W wq)
              (fun _ kv _ => t.tk.length - (intOf kv).toNat)
            case atStart => exact ⟨0, _, rfl, rfl, Nat.zero_le _, by simp [tkB], hz2.out, bC'.out, hri'.out.1, hb2.out⟩
            case round =>
              obtain ⟨k, b, rfl, rfl, hk, hbe, hz3, hc3, hrk, hbel⟩ := hrel
              by_cases hlk : k < t.tk.length
              · obtain ⟨x, hx⟩ : ∃ x, t.tk[k]? = some x := ⟨t.tk[k], List.getElem?_eq_getElem hlk⟩
                obtain ⟨ad3, rfl, _, p0⟩ := hrk k x hx
                have hst := Lib.hid (tkB_take t.tk k x hx)
                have hbe' := Lib.hid hbe
                have hz3' := Lib.hid hz3
                have hc3' := Lib.hid hc3
                have hrk' := Lib.hid hrk
                have hbel' := Lib.hid hbel
                clear hbe hz3 hc3 hrk hbel hx
                cases b with
                | false =>
                  go_wp2
                  go_roundw
                  case rel => exact ⟨k + 1, _, rfl, by go_num, by omega, by rw [hst.out, ← Bool.and_assoc, ← hbe'.out]; rfl, hz3'.out, hc3'.out, hrk'.out, hbel'.out⟩
                  case measure => simp [intOf]; omega
                | true =>
                  by_cases x1 : 1 ≤ x
                  · by_cases x2 : x ≤ 16
                    · go_wp2
                      go_roundw
                      case rel => exact ⟨k + 1, _, rfl, by go_num, by omega, by rw [hst.out, ← Bool.and_assoc, ← hbe'.out]; simp [x1, x2], hz3'.out, hc3'.out, hrk'.out, hbel'.out⟩
                      case measure => simp [intOf]; omega
                    · go_wp2
                      go_roundw
                      case rel => exact ⟨k + 1, _, rfl, by go_num, by omega, by rw [hst.out, ← Bool.and_assoc, ← hbe'.out]; simp [x2], hz3'.out, hc3'.out, hrk'.out, hbel'.out⟩
                      case measure => simp [intOf]; omega
                  · go_wp2
                    go_roundw
                    case rel => exact ⟨k + 1, _, rfl, by go_num, by omega, by rw [hst.out, ← Bool.and_assoc, ← hbe'.out]; simp [x1], hz3'.out, hc3'.out, hrk'.out, hbel'.out⟩
                    case measure => simp [intOf]; omega
              · have hk' : k = t.tk.length := by omega
                subst hk'
                rw [List.take_length, ← hfit.out] at hbe
                have hbe' := Lib.hid hbe
                have y0 := hz3.cell 0
                have y1 := hz3.cell 1
                have y2 := hz3.cell 2
                have y3 := hz3.cell 3
                have y4 := hz3.cell 4
                have y5 := hz3.cell 5
                have y6 := hz3.cell 6
                have z0 := hz3.frozen 0
                have z1 := hz3.frozen 1
                have z2 := hz3.frozen 2
                have z3 := hz3.frozen 3
                have z4 := hz3.frozen 4
                have z5 := hz3.frozen 5
                have z6 := hz3.frozen 6
                have v0 := hc3.cell 0
                have v1 := hc3.cell 1
                have v2 := hc3.cell 2
                have v3 := hc3.cell 3
                have v4 := hc3.cell 4
                have v5 := hc3.cell 5
                have v6 := hc3.cell 6
                simp only [List.getElem?_toArray, List.getElem?_cons_zero, List.getElem?_cons_succ] at y0 y1 y2 y3 y4 y5 y6 v0 v1 v2 v3 v4 v5 v6
                have hz3' := Lib.hid hz3
                have hbel' := Lib.hid hbel
                clear hbe hz3 hc3 hrk hbel
                go_wp2
                have RR := blk7 hz3'.out (by rfl) (.int .i64 t.id) (.int .i64 t.queue) (.int .i64 t.cpu) (.int .i64 t.mem) (.int .i64 t.work) (.slice A' t.tk.length c) (.int .i64 t.state)
                refine bodyPost_ret (results_ct rfl _ _ _ tT #[.int .i64 t.id, .int .i64 t.queue, .int .i64 t.cpu, .int .i64 t.mem, .int .i64 t.work, .slice A' t.tk.length c, .int .i64 t.state] (0, 0) _ rfl RR Try.underlying85 rfl (by kernel_rfl)) rfl ?_
                exact ⟨.inl ⟨t, A', c, hf.out, by rw [← hbe'.out]; rfl, hriW.out, hci, hl3⟩, below7 hbel'.out (Nat.le_refl _) _ _ _ _ _ _ _⟩
        · obtain rfl : b0 = false := by rw [← hb0e]; simp [g1]
          clear hb0e
          go_wp2
          go_loopw [8, 39] (fun bv kv wq => ∃ (k : Nat) (b : Bool), bv = .bool b ∧ kv = .int .i64 (k : Int) ∧ k ≤ t.tk.length ∧ b = (false && tkB (t.tk.take k)) ∧ Blk wq W.heap.size tT zT ∧ Blk wq wr.heap.size tT (tsCells t A' c) ∧ ReadsI wq A' t.tk ∧ Below W.heap.size W wq)
            (fun _ kv _ => t.tk.length - (intOf kv).toNat)
          case atStart => exact ⟨0, _, rfl, rfl, Nat.zero_le _, by simp [tkB], hz2.out, bC'.out, hri'.out.1, hb2.out⟩
          case round =>
            obtain ⟨k, b, rfl, rfl, hk, hbe, hz3, hc3, hrk, hbel⟩ := hrel
            by_cases hlk : k < t.tk.length
            · obtain ⟨x, hx⟩ : ∃ x, t.tk[k]? = some x := ⟨t.tk[k], List.getElem?_eq_getElem hlk⟩
              obtain ⟨ad3, rfl, _, p0⟩ := hrk k x hx
              have hst := Lib.hid (tkB_take t.tk k x hx)
              have hbe' := Lib.hid hbe
              have hz3' := Lib.hid hz3
              have hc3' := Lib.hid hc3
              have hrk' := Lib.hid hrk
              have hbel' := Lib.hid hbel
              clear hbe hz3 hc3 hrk hbel hx
              cases b with
              | false =>
                go_wp2
                go_roundw
                case rel => exact ⟨k + 1, _, rfl, by go_num, by omega, by rw [hst.out, ← Bool.and_assoc, ← hbe'.out]; rfl, hz3'.out, hc3'.out, hrk'.out, hbel'.out⟩
                case measure => simp [intOf]; omega
              | true =>
                by_cases x1 : 1 ≤ x
                · by_cases x2 : x ≤ 16
                  · go_wp2
                    go_roundw
                    case rel => exact ⟨k + 1, _, rfl, by go_num, by omega, by rw [hst.out, ← Bool.and_assoc, ← hbe'.out]; simp [x1, x2], hz3'.out, hc3'.out, hrk'.out, hbel'.out⟩
                    case measure => simp [intOf]; omega
                  · go_wp2
                    go_roundw
                    case rel => exact ⟨k + 1, _, rfl, by go_num, by omega, by rw [hst.out, ← Bool.and_assoc, ← hbe'.out]; simp [x2], hz3'.out, hc3'.out, hrk'.out, hbel'.out⟩
                    case measure => simp [intOf]; omega
                · go_wp2
                  go_roundw
                  case rel => exact ⟨k + 1, _, rfl, by go_num, by omega, by rw [hst.out, ← Bool.and_assoc, ← hbe'.out]; simp [x1], hz3'.out, hc3'.out, hrk'.out, hbel'.out⟩
                  case measure => simp [intOf]; omega
            · have hk' : k = t.tk.length := by omega
              subst hk'
              rw [List.take_length, ← hfit.out] at hbe
              have hbe' := Lib.hid hbe
              have y0 := hz3.cell 0
              have y1 := hz3.cell 1
              have y2 := hz3.cell 2
              have y3 := hz3.cell 3
              have y4 := hz3.cell 4
              have y5 := hz3.cell 5
              have y6 := hz3.cell 6
              have z0 := hz3.frozen 0
              have z1 := hz3.frozen 1
              have z2 := hz3.frozen 2
              have z3 := hz3.frozen 3
              have z4 := hz3.frozen 4
              have z5 := hz3.frozen 5
              have z6 := hz3.frozen 6
              have v0 := hc3.cell 0
              have v1 := hc3.cell 1
              have v2 := hc3.cell 2
              have v3 := hc3.cell 3
              have v4 := hc3.cell 4
              have v5 := hc3.cell 5
              have v6 := hc3.cell 6
              simp only [List.getElem?_toArray, List.getElem?_cons_zero, List.getElem?_cons_succ] at y0 y1 y2 y3 y4 y5 y6 v0 v1 v2 v3 v4 v5 v6
              have hz3' := Lib.hid hz3
              have hbel' := Lib.hid hbel
              clear hbe hz3 hc3 hrk hbel
              go_wp2
              have RR := blk7 hz3'.out (by rfl) (.int .i64 t.id) (.int .i64 t.queue) (.int .i64 t.cpu) (.int .i64 t.mem) (.int .i64 t.work) (.slice A' t.tk.length c) (.int .i64 t.state)
              refine bodyPost_ret (results_ct rfl _ _ _ tT #[.int .i64 t.id, .int .i64 t.queue, .int .i64 t.cpu, .int .i64 t.mem, .int .i64 t.work, .slice A' t.tk.length c, .int .i64 t.state] (0, 0) _ rfl RR Try.underlying85 rfl (by kernel_rfl)) rfl ?_
              exact ⟨.inl ⟨t, A', c, hf.out, by rw [← hbe'.out]; rfl, hriW.out, hci, hl3⟩, below7 hbel'.out (Nat.le_refl _) _ _ _ _ _ _ _⟩
      · have q1 : (t.id == id) = false := beq_eq_false_iff_ne.mpr e
        have q2' : (t.id != id) = true := by simp [bne, q1]
        have q1' := Lib.hid q1
        clear e
        go_wp2
        go_roundw
        case rel => exact ⟨i + 1, by go_num, by omega, fun x hx => by
          rw [List.take_add_one, ht'.out] at hx
          rcases List.mem_append.1 hx with hx | hx
          · exact hno'.out x hx
          · obtain rfl := List.mem_singleton.1 hx
            exact q1'.out, hz2.out, hb2.out⟩
        case measure => simp [intOf]; omega
    · have hi' : i = ts.length := by omega
      subst hi'
      rw [List.take_length] at hno
      have hnone := Lib.hid (show findT ts id = none from List.find?_eq_none.2 fun t ht => by rw [hno t ht]; simp)
      have hz2 := Lib.hid hz
      have hbel' := Lib.hid hbel
      have y0 := hz.cell 0
      have y1 := hz.cell 1
      have y2 := hz.cell 2
      have y3 := hz.cell 3
      have y4 := hz.cell 4
      have y5 := hz.cell 5
      have y6 := hz.cell 6
      have z0 := hz.frozen 0
      have z1 := hz.frozen 1
      have z2 := hz.frozen 2
      have z3 := hz.frozen 3
      have z4 := hz.frozen 4
      have z5 := hz.frozen 5
      have z6 := hz.frozen 6
      simp only [List.getElem?_toArray, List.getElem?_cons_zero, List.getElem?_cons_succ] at y0 y1 y2 y3 y4 y5 y6
      clear hno hz hbel
      go_wp2
      have RR := blk7 hz2.out (by rfl) (.int .i64 0) (.int .i64 0) (.int .i64 0) (.int .i64 0) (.int .i64 0) (.slice none 0 0) (.int .i64 0)
      refine bodyPost_ret (results_ct rfl _ _ _ tT #[.int .i64 0, .int .i64 0, .int .i64 0, .int .i64 0, .int .i64 0, .slice none 0 0, .int .i64 0] (0, 0) _ rfl RR Try.underlying85 rfl (by kernel_rfl)) rfl ?_
      exact ⟨.inr ⟨hnone.out, rfl⟩, below7 hbel'.out (Nat.le_refl _) _ _ _ _ _ _ _⟩
end Go.Proofs.Ytkcmmghhghgdpaa.Agt
end
section
namespace Go.Proofs.Ytkcmmghhghgdpaa.Agt
open Go.RowKit Go.Shelf Go.Maps Go.Proofs.Ytkcmmghhghgdpaa.Iter Go.Proofs.Ytkcmmghhghgdpaa.Str Go.Proofs.YtkcmmghhghgdpaaW.PrintWords Go.Proofs.YtkcmmghhghgdpaaW.PrintLast
set_option linter.unusedVariables false
set_option linter.unusedSimpArgs false
section
variable {n : Int} {tk cs : List Int}
theorem coresF_next {k : Nat} {l c : Int} {t' : List Int} (h : coresF n tk (cs.take k) = some (l, t')) (hc : cs[k]? = some c) : coresF n tk (cs.take (k + 1)) = if c ≤ l ∨ n ≤ c ∨ c ∈ t' then none else some (c, c :: t') := by
  rw [coresF_take n tk cs k c hc, h]
  rfl
theorem coresF_main : ∀ (k : Nat), k ≤ cs.length → ∀ l t', coresF n tk (cs.take k) = some (l, t') → -1 ≤ l ∧ (k = 0 → l = -1) ∧ (0 < k → cs[k - 1]? = some l) ∧ (∀ c ∈ cs.take k, c ≤ l) ∧ (∀ c, c ∈ t' ↔ c ∈ tk ∨ c ∈ cs.take k) ∧ RisI (cs.take k) ∧ ∀ c ∈ cs.take k, 0 ≤ c ∧ c < n ∧ c ∉ tk
  | 0, _, l, t', h => by
    injection h with h
    injection h with h1 h2
    subst h1
    subst h2
    exact ⟨Int.le_refl _, fun _ => rfl, fun h => by omega, (fun c hc => by simp at hc), (fun c => by simp), RisI.nil, fun c hc => by simp at hc⟩
  | k + 1, hk, l, t', h => by
    obtain ⟨c, hc⟩ : ∃ c, cs[k]? = some c := ⟨cs[k], List.getElem?_eq_getElem (by omega)⟩
    cases hp : coresF n tk (cs.take k) with
    | none =>
      rw [coresF_take n tk cs k c hc, hp] at h
      cases h
    | some q =>
      obtain ⟨l0, t0⟩ := q
      obtain ⟨a1, a2, a3, a4, a5, a6, a7⟩ := coresF_main k (by omega) l0 t0 hp
      rw [coresF_next hp hc] at h
      split at h
      · cases h
      · rename_i hn
        injection h with h
        injection h with h1 h2
        subst h1
        subst h2
        have htk : cs.take (k + 1) = cs.take k ++ [c] := by rw [List.take_add_one, hc]; rfl
        refine ⟨by omega, fun h => by omega, fun _ => by rw [Nat.add_sub_cancel]; exact hc, fun d hd => ?_, fun d => ?_, a6.take hc (fun x h0 hx => ?_), fun d hd => ?_⟩
        · rw [htk] at hd
          rcases List.mem_append.1 hd with hd | hd
          · have := a4 d hd
            omega
          · obtain rfl := List.mem_singleton.1 hd
            exact Int.le_refl _
        · rw [htk, List.mem_cons, a5, List.mem_append, List.mem_singleton]
          constructor
          · rintro (h | h | h)
            · exact .inr (.inr h)
            · exact .inl h
            · exact .inr (.inl h)
          · rintro (h | h | h)
            · exact .inr (.inl h)
            · exact .inr (.inr h)
            · exact .inl h
        · have := a3 h0
          rw [hx] at this
          obtain rfl := Option.some.inj this
          omega
        · rw [htk] at hd
          rcases List.mem_append.1 hd with hd | hd
          · exact a7 d hd
          · obtain rfl := List.mem_singleton.1 hd
            refine ⟨?_, by omega, fun h => hn (.inr (.inr ((a5 d).2 (.inl h))))⟩
            omega
theorem coresF_ok (h1 : RisI cs) (h2 : ∀ c ∈ cs, 0 ≤ c ∧ c < n ∧ c ∉ tk) : ∀ (k : Nat), k ≤ cs.length → ∃ l t', coresF n tk (cs.take k) = some (l, t')
  | 0, _ => ⟨_, _, rfl⟩
  | k + 1, hk => by
    obtain ⟨c, hc⟩ : ∃ c, cs[k]? = some c := ⟨cs[k], List.getElem?_eq_getElem (by omega)⟩
    obtain ⟨l, t', h⟩ := coresF_ok h1 h2 k (by omega)
    obtain ⟨a1, a2, a3, a4, a5, a6, a7⟩ := coresF_main k (by omega) l t' h
    obtain ⟨b1, b2, b3⟩ := h2 c (List.mem_of_getElem? hc)
    have hl : l < c := by
      by_cases h0 : k = 0
      · have := a2 h0
        omega
      · have := a3 (by omega)
        exact h1 (k - 1) l c this (by rw [show k - 1 + 1 = k by omega]; exact hc)
    refine ⟨c, c :: t', ?_⟩
    rw [coresF_next h hc, if_neg]
    rintro (h | h | h)
    · omega
    · omega
    · rcases (a5 c).1 h with h | h
      · exact b3 h
      · have := a4 c h
        omega
theorem coresF_all (h1 : RisI cs) (h2 : ∀ c ∈ cs, 0 ≤ c ∧ c < n ∧ c ∉ tk) : ∃ l t', coresF n tk cs = some (l, t') ∧ ∀ c, c ∈ t' ↔ c ∈ tk ∨ c ∈ cs := by
  obtain ⟨l, t', h⟩ := coresF_ok h1 h2 cs.length (Nat.le_refl _)
  have := (coresF_main cs.length (Nat.le_refl _) l t' h).2.2.2.2.1
  rw [List.take_length] at h this
  exact ⟨l, t', h, this⟩
theorem coresF_not (h : ¬ (RisI cs ∧ ∀ c ∈ cs, 0 ≤ c ∧ c < n ∧ c ∉ tk)) : coresF n tk cs = none := by
  cases hc : coresF n tk cs with
  | none => rfl
  | some q =>
    obtain ⟨l, t'⟩ := q
    have := coresF_main (cs := cs) cs.length (Nat.le_refl _) l t' (by rw [List.take_length]; exact hc)
    rw [List.take_length] at this
    exact absurd ⟨this.2.2.2.2.2.1, this.2.2.2.2.2.2⟩ h
end
end Go.Proofs.Ytkcmmghhghgdpaa.Agt
end
section
namespace Go.Proofs.Ytkcmmghhghgdpaa.Agt
open Go.RowKit Go.Shelf Go.Maps Go.Proofs.Ytkcmmghhghgdpaa.Iter Go.Proofs.Ytkcmmghhghgdpaa.Str Go.Proofs.YtkcmmghhghgdpaaW.PrintWords Go.Proofs.YtkcmmghhghgdpaaW.PrintLast
set_option linter.unusedVariables false
set_option linter.unusedSimpArgs false
theorem risI_ge {cs : List Int} (h : RisI cs) (h2 : ∀ c ∈ cs, 0 ≤ c) : ∀ (k : Nat) (c : Int), cs[k]? = some c → (k : Int) ≤ c
  | 0, c, hc => h2 c (List.mem_of_getElem? hc)
  | k + 1, c, hc => by
    have hk := (List.getElem?_eq_some_iff.1 hc).1
    obtain ⟨d, hd⟩ : ∃ d, cs[k]? = some d := ⟨_, List.getElem?_eq_getElem (by omega)⟩
    have := risI_ge h h2 k d hd
    have := h k d c hd hc
    omega
theorem risI_len {cs : List Int} {n : Int} (h : RisI cs) (h2 : ∀ c ∈ cs, 0 ≤ c ∧ c < n) (hn : n ≤ 64) : cs.length ≤ 64 := by
  apply Classical.byContradiction
  intro hc
  obtain ⟨d, hd⟩ : ∃ d, cs[64]? = some d := ⟨_, List.getElem?_eq_getElem (by omega)⟩
  have := risI_ge h (fun c hc => (h2 c hc).1) 64 d hd
  have := (h2 d (List.mem_of_getElem? hd)).2
  omega
theorem taskSome {F : Nat → Prop} {A : Option Addr} {c0 : Nat} {ts : List Ts} {id : Int} {W : World} {t : Ts} {b : Bool} (hf : findT ts id = some t) (hb : fitsT t = b) (hr : ReadsT F W A ts) (hl : ts.length ≤ 9223372036854775807) :
    Calls Try.prog 90 #[.slice A ts.length c0, .int .i64 id] W fun e W' => ∃ A' c, e = .returned (.tuple #[.agg (tsCells t A' c), .bool b]) ∧ ReadsF F W A' t.tk ∧ t.tk.length ≤ c ∧ t.tk.length ≤ 9223372036854775807 ∧ Below W.heap.size W W' :=
  (taskD A c0 ts id W hr hl).mono fun e W' ⟨h, hw⟩ => by
    rcases h with ⟨t2, A', c, h1, h2, h3, h4, h5⟩ | ⟨h1, _⟩
    · rw [hf] at h1
      obtain rfl := Option.some.inj h1
      subst hb
      exact ⟨A', c, h2, h3, h4, h5, hw⟩
    · rw [hf] at h1
      cases h1
theorem taskNone {F : Nat → Prop} {A : Option Addr} {c0 : Nat} {ts : List Ts} {id : Int} {W : World} (hf : findT ts id = none) (hr : ReadsT F W A ts) (hl : ts.length ≤ 9223372036854775807) :
    Calls Try.prog 90 #[.slice A ts.length c0, .int .i64 id] W fun e W' => e = .returned (.tuple #[.agg zT, .bool false]) ∧ Below W.heap.size W W' :=
  (taskD A c0 ts id W hr hl).mono fun e W' ⟨h, hw⟩ => by
    rcases h with ⟨t2, A', c, h1, _⟩ | ⟨_, h2⟩
    · rw [hf] at h1
      cases h1
    · exact ⟨h2, hw⟩
set_option maxRecDepth 100000 in
set_option maxHeartbeats 16000000 in
theorem formD {F : Nat → Prop} (nid nco nme nin nbe : Int) (A : Option Addr) (c0 : Nat) (xs : List Ls) (A2 : Option Addr) (c2 : Nat) (ts : List Ts) (W : World) (hL : ReadsL F W A xs) (hT : ReadsT F W A2 ts) (hxl : xs.length ≤ 9223372036854775807) (htl : ts.length ≤ 9223372036854775807) (hn : nco ≤ 64) :
    Calls Try.prog 89 #[.agg #[.int .i64 nid, .int .i64 nco, .int .i64 nme, .int .i64 nin, .int .i64 nbe], .slice A xs.length c0, .slice A2 ts.length c2] W fun e W' => e = .returned (.bool (risesT ts && (formF nid nco ts xs).isSome)) ∧ Below W.heap.size W W' := by
  have hL' := Lib.hid hL
  have hT' := Lib.hid hT
  clear hL hT
  obtain ⟨i0, hif, hz0, hz1, hz2⟩ := info_parts infoInt
  have hn0 := Lib.hid (Blk.new W 53 #[.int .i64 nid, .int .i64 nco, .int .i64 nme, .int .i64 nin, .int .i64 nbe])
  have hb0 := Lib.hid ((Below.refl W.heap.size W).alloc (Nat.le_refl _) (.cells #[.int .i64 nid, .int .i64 nco, .int .i64 nme, .int .i64 nin, .int .i64 nbe] 53))
  go_enter Try.func89, Try.ntmps89
  go_wp2
  go_loopw [18] (fun iv wr => ∃ (i : Nat), iv = .int .i64 (i : Int) ∧ i ≤ ts.length ∧ (ts.take i).Pairwise (fun x y => x.id < y.id) ∧ Blk wr W.heap.size 53 #[.int .i64 nid, .int .i64 nco, .int .i64 nme, .int .i64 nin, .int .i64 nbe] ∧ Below W.heap.size W wr)
    (fun iv _ => ts.length - (intOf iv).toNat)
  case atStart => exact ⟨0, rfl, Nat.zero_le _, List.Pairwise.nil, hn0.out, hb0.out⟩
  case round =>
    obtain ⟨i, rfl, hi, hp, hnb, hbel⟩ := hrel
    by_cases hlt : i < ts.length
    · obtain ⟨t, ht⟩ : ∃ t, ts[i]? = some t := ⟨ts[i], List.getElem?_eq_getElem hlt⟩
      obtain ⟨ad, A', c, rfl, _, q0, q1, q2, q3, q4, q5, q6, _, _, _, _⟩ := (hT'.out.below hbel) i t ht
      have bC := Blk.new wr tT (tsCells t A' c)
      have d0 := bC.cell 0
      have d1 := bC.cell 1
      have d2 := bC.cell 2
      have d3 := bC.cell 3
      have d4 := bC.cell 4
      have d5 := bC.cell 5
      have d6 := bC.cell 6
      simp only [List.getElem?_toArray, List.getElem?_cons_zero, List.getElem?_cons_succ] at d0 d1 d2 d3 d4 d5 d6
      have hb2 := Lib.hid (hbel.alloc hbel.size (.cells (tsCells t A' c) tT))
      have hnb2 := Lib.hid (hnb.alloc (.cells (tsCells t A' c) tT))
      have ht' := Lib.hid ht
      by_cases h0 : 0 < i
      · obtain ⟨u, hu⟩ : ∃ u, ts[i - 1]? = some u := ⟨ts[i - 1], List.getElem?_eq_getElem (by omega)⟩
        obtain ⟨ad2, A3, c3, hA2, _, p0, _⟩ := (hT'.out.below hb2.out) (i - 1) u hu
        injection hA2 with hA2
        subst hA2
        have hx0 : (0 : Int) < (i : Int) := by omega
        have hw : IntKind.i64.wrap ((i : Int) - 1) = ((i - 1 : Nat) : Int) := by rw [show ((i - 1 : Nat) : Int) = (i : Int) - 1 by omega]; exact IntWalk.i64_in _ (by omega)
        have hx1 : ((i - 1 : Nat) : Int) < (ts.length : Int) := by omega
        by_cases hle : t.id ≤ u.id
        · have hno := Lib.hid (rises_not ht hu h0 hle)
          have x1 : decide (t.id ≤ u.id) = true := decide_eq_true hle
          clear hp hbel hnb ht hu bC hle
          go_wp2
          go_quiet (fail)
          go_wp2
          go_ret
          exact ⟨by rw [hno.out]; rfl, by first | exact hb2.out | exact hb2.out.drew | exact pw_below_drewN hb2.out _⟩
        · have hall := Lib.hid (rises_snoc hp hu h0 (by omega : u.id < t.id))
          have x1 : decide (t.id ≤ u.id) = false := decide_eq_false hle
          have hp' := Lib.hid hp
          clear hp hbel hnb ht hu bC hle
          go_wp2
          go_quiet (fail)
          go_wp2
          go_roundw
          case rel => exact ⟨i + 1, by go_num, by omega, take_pair ht'.out hp'.out hall.out, by exact hnb2.out, by first | exact hb2.out | exact hb2.out.drew | exact pw_below_drewN hb2.out _⟩
          case measure => simp [intOf]; omega
      · have hall := Lib.hid (show ∀ x ∈ ts.take i, x.id < t.id from fun x hx => by rw [show i = 0 by omega] at hx; simp at hx)
        have hx0 : decide ((0 : Int) < (i : Int)) = false := decide_eq_false (by omega)
        have hx2 : decide (0 < i) = false := decide_eq_false h0
        have hx3 : decide ((i : Int) > 0) = false := decide_eq_false (by omega)
        have hp' := Lib.hid hp
        clear hp hbel hnb ht bC
        go_wp2
        go_quiet (fail)
        go_wp2
        go_roundw
        case rel => exact ⟨i + 1, by go_num, by omega, take_pair ht'.out hp'.out hall.out, by exact hnb2.out, by first | exact hb2.out | exact hb2.out.drew | exact pw_below_drewN hb2.out _⟩
        case measure => simp [intOf]; omega
    · have hi' : i = ts.length := by omega
      subst hi'
      rw [List.take_of_length_le (Nat.le_refl _)] at hp
      have hri := Lib.hid ((rises_iff ts).2 hp)
      have hnb2 := Lib.hid hnb
      have hb2 := Lib.hid hbel
      have hsz := hbel.size
      clear hp hnb hbel
      go_wp2
      go_loopw [9, 39] (fun tv iv wr => ∃ (i : Nat) (prev : Option Int) (tk T : List Int) (A9 : Option Addr) (c9 : Nat), tv = .slice A9 T.length c9 ∧ iv = .int .i64 (i : Int) ∧ i ≤ xs.length ∧ formF nid nco ts (xs.take i) = some (prev, tk) ∧ (∀ c, c ∈ tk ↔ c ∈ T) ∧ T.length ≤ 64 * i ∧ wr.ownsRow W.heap.size tI 1 (.slice A9 T.length c9) T.length (T.map (Value.int .i64)) ∧ Blk wr W.heap.size 53 #[.int .i64 nid, .int .i64 nco, .int .i64 nme, .int .i64 nin, .int .i64 nbe] ∧ Below W.heap.size W wr)
        (fun _ iv _ => xs.length - (intOf iv).toNat)
      case atStart => exact ⟨0, none, [], [], none, 0, rfl, rfl, Nat.zero_le _, rfl, fun c => Iff.rfl, Nat.zero_le _, World.ownsRow_nil _ _ _ _, hnb2.out, hb2.out⟩
      case round =>
        obtain ⟨i, prev, tk, T, A9, c9, rfl, rfl, hi, hst, hmem, hTl, hrow, hnb, hbel⟩ := hrel
        have hbd := form_bounds (show (formF nid nco ts (xs.take i)).isSome = true by rw [hst]; rfl) hn
        have hi64 : i ≤ 64 := by have := hbd.1; rw [List.length_take] at this; omega
        by_cases hlt : i < xs.length
        · obtain ⟨x, hx⟩ : ∃ x, xs[i]? = some x := ⟨xs[i], List.getElem?_eq_getElem hlt⟩
          obtain ⟨ad, A', c, rfl, _, q0, q1, q2, q3, q4, q5, q6, q7, hri, hci, _, hcl, _⟩ := (hL'.out.below hbel) i x hx
          have bL := Blk.new wr tL #[.int .i64 x.task, .int .i64 x.queue, .int .i64 x.node, .slice A' x.cores.length c, .int .i64 x.mem, .int .i64 x.since, .int .i64 x.til, .bool x.stop]
          have l0 := bL.cell 0
          have l2 := bL.cell 2
          have l3 := bL.cell 3
          have hna := hnb.alloc (.cells #[.int .i64 x.task, .int .i64 x.queue, .int .i64 x.node, .slice A' x.cores.length c, .int .i64 x.mem, .int .i64 x.since, .int .i64 x.til, .bool x.stop] tL)
          have a0 := hna.cell 0
          have a1 := hna.cell 1
          simp only [List.getElem?_toArray, List.getElem?_cons_zero, List.getElem?_cons_succ] at l0 l2 l3 a0 a1
          have hb2 := Lib.hid (hbel.alloc hbel.size (.cells #[.int .i64 x.task, .int .i64 x.queue, .int .i64 x.node, .slice A' x.cores.length c, .int .i64 x.mem, .int .i64 x.since, .int .i64 x.til, .bool x.stop] tL))
          have hWr' := Lib.hid (show W.heap.size < wr.heap.size from hnb.lt)
          have hn2 := Lib.hid hna
          have hl2 := Lib.hid bL
          have hr2 := Lib.hid (hrow.alloc (.cells #[.int .i64 x.task, .int .i64 x.queue, .int .i64 x.node, .slice A' x.cores.length c, .int .i64 x.mem, .int .i64 x.since, .int .i64 x.til, .bool x.stop] tL))
          have hri2 := Lib.hid (hri.below ((Below.refl wr.heap.size wr).alloc (Nat.le_refl _) (.cells #[.int .i64 x.task, .int .i64 x.queue, .int .i64 x.node, .slice A' x.cores.length c, .int .i64 x.mem, .int .i64 x.since, .int .i64 x.til, .bool x.stop] tL)))
          have hx' := Lib.hid hx
          have hmem' := Lib.hid hmem
          have hno := Lib.hid (fun (h : lstep nid nco ts (some (prev, tk)) x = none) => (show (risesT ts && (formF nid nco ts xs).isSome) = false by rw [formF_no hx hst h]; simp))
          have hyes := Lib.hid (fun (q : Option (Option Int × List Int)) (h : lstep nid nco ts (some (prev, tk)) x = q) => (show formF nid nco ts (xs.take (i + 1)) = q by rw [formF_take nid nco ts xs i x hx, hst]; exact h))
          have hdqY := Lib.hid (fun (h : RisI x.cores) n => Calls.quiet_of (risesYes (c := c) (W := (wr.alloc (.cells #[.int .i64 x.task, .int .i64 x.queue, .int .i64 x.node, .slice A' x.cores.length c, .int .i64 x.mem, .int .i64 x.since, .int .i64 x.til, .bool x.stop] tL)).drewN n) h (hri2.out.1) hcl))
          have hdqN := Lib.hid (fun (h : ¬ RisI x.cores) n => Calls.quiet_of (risesNo (c := c) (W := (wr.alloc (.cells #[.int .i64 x.task, .int .i64 x.queue, .int .i64 x.node, .slice A' x.cores.length c, .int .i64 x.mem, .int .i64 x.since, .int .i64 x.til, .bool x.stop] tL)).drewN n) h (hri2.out.1) hcl))
          by_cases h0 : 0 < i
          · obtain ⟨u, hu⟩ : ∃ u, xs[i - 1]? = some u := ⟨xs[i - 1], List.getElem?_eq_getElem (by omega)⟩
            obtain ⟨ad2, A3, c3, hA2, _, p0, _⟩ := (hL'.out.below hb2.out) (i - 1) u hu
            injection hA2 with hA2
            subst hA2
            have hprev := formF_prev hst h0 hu
            have hx0 : (0 : Int) < (i : Int) := by omega
            have hw : IntKind.i64.wrap ((i : Int) - 1) = ((i - 1 : Nat) : Int) := by rw [show ((i - 1 : Nat) : Int) = (i : Int) - 1 by omega]; exact IntWalk.i64_in _ (by omega)
            have hx1 : ((i - 1 : Nat) : Int) < (xs.length : Int) := by omega
            by_cases hle : x.task ≤ u.task
            · have hres := Lib.hid (hno.out (lstep_none1 (.inl ⟨_, hprev, hle⟩)))
              have x1 : decide (x.task ≤ u.task) = true := decide_eq_true hle
              clear hst hbel hx hrow hnb hna hri hu hle hprev bL hbd hmem
              go_wp2
              go_quiet (fail)
              go_wp2
              go_ret
              exact ⟨by rw [hres.out]; rfl, by first | exact hb2.out | exact hb2.out.drew | exact pw_below_drewN hb2.out _⟩
            · have hnp := Lib.hid (show ¬ ∃ p, prev = some p ∧ x.task ≤ p from by rintro ⟨p, e, h⟩; rw [hprev] at e; injection e with e; omega)
              have x1 : decide (x.task ≤ u.task) = false := decide_eq_false hle
              clear hst hbel hx hrow hnb hna hri hu hle hprev bL hbd hmem
              by_cases hnd : x.node = nid
              · have e2 : (x.node == nid) = true := beq_iff_eq.mpr hnd
                have e2n : (x.node != nid) = false := by simp [hnd]
                by_cases hcr : x.cores = []
                · have e3 : ((x.cores.length : Int) == 0) = true := by rw [hcr]; rfl
                  have hres := Lib.hid (hno.out (lstep_none1 (.inr (.inr hcr))))
                  clear hcr hnd
                  go_wp2
                  go_quiet (fail)
                  go_wp2
                  go_ret
                  exact ⟨by rw [hres.out]; rfl, by first | exact hb2.out | exact hb2.out.drew | exact pw_below_drewN hb2.out _⟩
                · have hpos : 0 < x.cores.length := by cases h : x.cores with | nil => exact absurd h hcr | cons => simp
                  have e3 : ((x.cores.length : Int) == 0) = false := beq_eq_false_iff_ne.mpr (by omega)
                  have hgo := Lib.hid (show ¬ ((∃ p, prev = some p ∧ x.task ≤ p) ∨ x.node ≠ nid ∨ x.cores = []) from by rintro (h | h | h); exact hnp.out h; exact h hnd; exact hcr h)
                  clear hcr hnd
                  have hbad' := Lib.hid (fun (h : ¬ (RisI x.cores ∧ ∀ c ∈ x.cores, 0 ≤ c ∧ c < nco ∧ c ∉ tk)) => hno.out (lstep_none4 (coresF_not h)))
                  by_cases hrs : RisI x.cores
                  · have hdq := Lib.hid (hdqY.out hrs)
                    have hrs' := Lib.hid hrs
                    clear hrs
                    go_wp2
                    go_quiet (first | exact hdq.out _ | (go_at_call 100; exact hdq.out _))
                    obtain ⟨H, hH⟩ : ∃ H, wr.heap.size = H := ⟨_, rfl⟩
                    have hHW := Lib.hid (show W.heap.size < H by have := hn2.out.lt; have := hb2.out.size; rw [World.size_alloc] at this; have := hWr'.out; omega)
                    rw [hH] at hl2 ⊢
                    go_upto_region 14 with (fail)
                    go_loopw [79] (fun kv wq => ∃ (k : Nat), kv = .int .i64 (k : Int) ∧ k ≤ x.cores.length ∧ (∀ c ∈ x.cores.take k, 0 ≤ c ∧ c < nco ∧ c ∉ T) ∧ wq.ownsRow W.heap.size tI 1 (.slice A9 T.length c9) T.length (T.map (Value.int .i64)) ∧ Blk wq W.heap.size 53 #[.int .i64 nid, .int .i64 nco, .int .i64 nme, .int .i64 nin, .int .i64 nbe] ∧ Blk wq H tL #[.int .i64 x.task, .int .i64 x.queue, .int .i64 x.node, .slice A' x.cores.length c, .int .i64 x.mem, .int .i64 x.since, .int .i64 x.til, .bool x.stop] ∧ ReadsI wq A' x.cores ∧ Below W.heap.size W wq)
                      (fun kv _ => x.cores.length - (intOf kv).toNat)
                    case atStart => exact ⟨0, rfl, Nat.zero_le _, (fun c hc => by simp at hc), by exact hr2.out, by exact hn2.out, by exact hl2.out, by exact hri2.out.1, by first | exact hb2.out | exact hb2.out.drew | exact pw_below_drewN hb2.out _⟩
                    case round =>
                      clear l0 l2 l3 a0 a1
                      obtain ⟨k, rfl, hk, hall, hrow3, hn3, hl3, hrk, hbel⟩ := hrel
                      have a1 := hn3.cell 1
                      have l0 := hl3.cell 0
                      have l3 := hl3.cell 3
                      simp only [List.getElem?_toArray, List.getElem?_cons_zero, List.getElem?_cons_succ] at a1 l0 l3
                      have hall' := Lib.hid hall
                      have hrow3' := Lib.hid hrow3
                      have hn3' := Lib.hid hn3
                      have hl3' := Lib.hid hl3
                      have hrk' := Lib.hid hrk
                      have hbel' := Lib.hid hbel
                      by_cases hlk : k < x.cores.length
                      · obtain ⟨co, hco⟩ : ∃ co, x.cores[k]? = some co := ⟨x.cores[k], List.getElem?_eq_getElem hlk⟩
                        obtain ⟨ad3, rfl, _, p3⟩ := hrk k co hco
                        have hrT := Lib.hid (reads_row hrow3).1
                        have hco' := Lib.hid hco
                        have hbadc := Lib.hid (fun (h : ¬ (0 ≤ co ∧ co < nco ∧ co ∉ T)) => hbad'.out (fun h2 => h (by have := h2.2 co (List.mem_of_getElem? hco); exact ⟨this.1, this.2.1, fun hm => this.2.2 ((hmem'.out co).2 hm)⟩)))
                        clear hall hrow3 hn3 hl3 hrk hbel hco
                        by_cases c1 : co < 0
                        · have hres := Lib.hid (hbadc.out (fun h => by omega))
                          go_wp2
                          go_ret
                          exact ⟨by rw [hres.out]; rfl, hbel'.out⟩
                        · by_cases c2' : nco ≤ co
                          · have hres := Lib.hid (hbadc.out (fun h => by omega))
                            go_wp2
                            go_ret
                            exact ⟨by rw [hres.out]; rfl, hbel'.out⟩
                          · by_cases c3' : co ∈ T
                            · have hres := Lib.hid (hbadc.out (fun h => h.2.2 c3'))
                              have hd : decide (co ∈ T) = true := decide_eq_true c3'
                              clear c3'
                              go_wp2_with (go_at_call 62; refine (has_calls A9 c9 T co _ hrT.out (by omega)).mono ?_; rintro e w3 ⟨rfl, rfl⟩; simp only [hd])
                              go_ret
                              exact ⟨by rw [hres.out]; rfl, hbel'.out⟩
                            · have hd : decide (co ∈ T) = false := decide_eq_false c3'
                              have c3n := Lib.hid c3'
                              clear c3'
                              go_wp2_with (go_at_call 62; refine (has_calls A9 c9 T co _ hrT.out (by omega)).mono ?_; rintro e w3 ⟨rfl, rfl⟩; simp only [hd])
                              go_roundw
                              case rel => exact ⟨k + 1, by go_num, by omega, fun d hd => by
                                rw [List.take_add_one, hco'.out] at hd
                                rcases List.mem_append.1 hd with hd | hd
                                · exact hall'.out d hd
                                · obtain rfl := List.mem_singleton.1 hd
                                  exact ⟨by omega, by omega, c3n.out⟩, hrow3'.out, hn3'.out, hl3'.out, hrk'.out, hbel'.out⟩
                              case measure => simp [intOf]; omega
                      · have hk' : k = x.cores.length := by omega
                        subst hk'
                        rw [List.take_length] at hall
                        obtain ⟨co, hco⟩ : ∃ co, x.cores[0]? = some co := ⟨_, List.getElem?_eq_getElem hpos⟩
                        obtain ⟨ad3, rfl, _, _⟩ := hrk 0 co hco
                        have hlen := risI_len hrs'.out (fun c hc => ⟨(hall c hc).1, (hall c hc).2.1⟩) hn
                        have hcF := Lib.hid (coresF_all (n := nco) (tk := tk) hrs'.out (fun c hc => ⟨(hall c hc).1, (hall c hc).2.1, fun h => (hall c hc).2.2 ((hmem'.out c).1 h)⟩))
                        have hnews := Lib.hid (show ∀ (j : Nat) u, (x.cores.map (Value.int .i64))[j]? = some u → wr.cell? (ad3.add j) = some u from fun j u hu => by
                          rw [List.getElem?_map] at hu
                          cases hj : x.cores[j]? with
                          | none => simp [hj] at hu
                          | some y =>
                            rw [hj] at hu
                            obtain rfl := Option.some.inj hu
                            obtain ⟨ad4, hA4, _, h4⟩ := hrk j y hj
                            obtain rfl := Option.some.inj hA4
                            exact h4)
                        have hszq := hbel.size
                        have hkeepN := Lib.hid (fun (w' : World) (hg : World.grownBy _ w' (Value.slice A9 T.length c9).ownBlock) => show Blk w' W.heap.size 53 _ from hn3.kept hg (fun e => by obtain ⟨_, _, cur, hc⟩ := own_block hrow3 e.symm; exact two_types hc hn3 (by decide) rfl))
                        have hkeepL := Lib.hid (fun (w' : World) (hg : World.grownBy _ w' (Value.slice A9 T.length c9).ownBlock) => show Blk w' H tL _ from hl3.kept hg (fun e => by obtain ⟨_, _, cur, hc⟩ := own_block hrow3 e.symm; exact two_types hc hl3 (by decide) rfl))
                        have hT4 := Lib.hid (fun (w' : World) (hb : Below W.heap.size W w') => hT'.out.below hb)
                        clear hall hrow3 hn3 hl3 hrk hbel hco
                        cases hf : findT ts x.task with
                        | none =>
                          have hres := Lib.hid (hno.out (lstep_none2 hf))
                          have hf' := Lib.hid hf
                          clear hf
                          go_upto_region 20 with (at_builtin; go_loud (refine wpList_append_own _ rfl _ _ 22 rfl W.heap.size tI i0 _ 1 8 Try.underlying22 hif hz0 hz1 hz2 rfl (by decide) _ _ _ rfl hrow3'.out ad3 x.cores.length c (x.cores.map (Value.int .i64)) rfl (by simp) hnews.out (ints_one _) (by unfold maxLen; omega) (by omega) hszq ?_))
                          intro v8 w8 hown8 hgr8 _
                          have hn8' := Lib.hid (hkeepN.out w8 hgr8)
                          have hl8 := hkeepL.out w8 hgr8
                          have l0' := hl8.cell 0
                          simp only [List.getElem?_toArray, List.getElem?_cons_zero, List.getElem?_cons_succ] at l0'
                          obtain ⟨A8, c8, rfl⟩ := own_slice hown8
                          have hb8' := Lib.hid (below_grown hbel'.out hgr8 (Nat.le_refl _) (fun k hk => (own_block hrow3'.out hk).1))
                          have hown8' := Lib.hid hown8
                          clear hown8 hgr8 hl8
                          go_wp2_with (((with_reducible refine gate_callee (f := 90) rfl ?_); refine goesL_ (some 105) rfl rfl Try.func90 (by kernel_rfl) rfl #[.slice A2 ts.length c2, .int .i64 x.task] rfl (by (try simp only [List.map_toArray, List.map_cons, List.map_nil]); first | done | rfl) ?_; (with_reducible refine (taskNone hf'.out (hT4.out _ hb8'.out) htl).mono ?_); rintro e w9 ⟨rfl, b9⟩; refine ⟨_, rfl, ?_⟩; have b9k' := Lib.hid b9; have b9' := Lib.hid ((hb8'.out.trans (below_le b9 hb8'.out.size)).alloc (by have := (hb8'.out.trans (below_le b9 hb8'.out.size)).size; exact this) (.cells zT tT)); clear b9))
                          go_ret
                          exact ⟨by rw [hres.out]; rfl, b9'.out⟩
                        | some t =>
                          cases hfb : fitsT t with
                          | false =>
                            have hres := Lib.hid (hno.out (lstep_none3 hf hfb))
                            have hf' := Lib.hid hf
                            have hfb' := Lib.hid hfb
                            clear hf hfb
                            go_upto_region 20 with (at_builtin; go_loud (refine wpList_append_own _ rfl _ _ 22 rfl W.heap.size tI i0 _ 1 8 Try.underlying22 hif hz0 hz1 hz2 rfl (by decide) _ _ _ rfl hrow3'.out ad3 x.cores.length c (x.cores.map (Value.int .i64)) rfl (by simp) hnews.out (ints_one _) (by unfold maxLen; omega) (by omega) hszq ?_))
                            intro v8 w8 hown8 hgr8 _
                            have hn8' := Lib.hid (hkeepN.out w8 hgr8)
                            have hl8 := hkeepL.out w8 hgr8
                            have l0' := hl8.cell 0
                            simp only [List.getElem?_toArray, List.getElem?_cons_zero, List.getElem?_cons_succ] at l0'
                            obtain ⟨A8, c8, rfl⟩ := own_slice hown8
                            have hb8' := Lib.hid (below_grown hbel'.out hgr8 (Nat.le_refl _) (fun k hk => (own_block hrow3'.out hk).1))
                            have hown8' := Lib.hid hown8
                            clear hown8 hgr8 hl8
                            go_wp2_with (((with_reducible refine gate_callee (f := 90) rfl ?_); refine goesL_ (some 105) rfl rfl Try.func90 (by kernel_rfl) rfl #[.slice A2 ts.length c2, .int .i64 x.task] rfl (by (try simp only [List.map_toArray, List.map_cons, List.map_nil]); first | done | rfl) ?_; (with_reducible refine (taskSome hf'.out hfb'.out (hT4.out _ hb8'.out) htl).mono ?_); rintro e w9 ⟨A10, c10, rfl, _, _, _, b9⟩; refine ⟨_, rfl, ?_⟩; have b9k' := Lib.hid b9; have b9' := Lib.hid ((hb8'.out.trans (below_le b9 hb8'.out.size)).alloc (by have := (hb8'.out.trans (below_le b9 hb8'.out.size)).size; exact this) (.cells (tsCells t A10 c10) tT)); clear b9))
                            go_ret
                            exact ⟨by rw [hres.out]; rfl, b9'.out⟩
                          | true =>
                            obtain ⟨lst, tk', hc1, hc2⟩ := hcF.out
                            have hst2 := Lib.hid (hyes.out _ (lstep_some hgo.out hf hfb hc1))
                            have hc2' := Lib.hid hc2
                            have hf' := Lib.hid hf
                            have hfb' := Lib.hid hfb
                            clear hf hfb hc1 hc2
                            go_upto_region 20 with (at_builtin; go_loud (refine wpList_append_own _ rfl _ _ 22 rfl W.heap.size tI i0 _ 1 8 Try.underlying22 hif hz0 hz1 hz2 rfl (by decide) _ _ _ rfl hrow3'.out ad3 x.cores.length c (x.cores.map (Value.int .i64)) rfl (by simp) hnews.out (ints_one _) (by unfold maxLen; omega) (by omega) hszq ?_))
                            intro v8 w8 hown8 hgr8 _
                            have hn8' := Lib.hid (hkeepN.out w8 hgr8)
                            have hl8 := hkeepL.out w8 hgr8
                            have l0' := hl8.cell 0
                            simp only [List.getElem?_toArray, List.getElem?_cons_zero, List.getElem?_cons_succ] at l0'
                            obtain ⟨A8, c8, rfl⟩ := own_slice hown8
                            have hb8' := Lib.hid (below_grown hbel'.out hgr8 (Nat.le_refl _) (fun k hk => (own_block hrow3'.out hk).1))
                            have hown8' := Lib.hid hown8
                            clear hown8 hgr8 hl8
                            go_wp2_with (((with_reducible refine gate_callee (f := 90) rfl ?_); refine goesL_ (some 105) rfl rfl Try.func90 (by kernel_rfl) rfl #[.slice A2 ts.length c2, .int .i64 x.task] rfl (by (try simp only [List.map_toArray, List.map_cons, List.map_nil]); first | done | rfl) ?_; (with_reducible refine (taskSome hf'.out hfb'.out (hT4.out _ hb8'.out) htl).mono ?_); rintro e w9 ⟨A10, c10, rfl, _, _, _, b9⟩; refine ⟨_, rfl, ?_⟩; have b9k' := Lib.hid b9; have b9' := Lib.hid ((hb8'.out.trans (below_le b9 hb8'.out.size)).alloc (by have := (hb8'.out.trans (below_le b9 hb8'.out.size)).size; exact this) (.cells (tsCells t A10 c10) tT)); clear b9))
                            go_roundw
                            case rel => exact ⟨i + 1, _, tk', T ++ x.cores, _, _, by rw [List.length_append], by go_num, by omega, hst2.out, fun d => by rw [hc2'.out, List.mem_append, hmem'.out], by rw [List.length_append]; omega, by rw [List.length_append, List.map_append]; exact (own_below hown8'.out b9k'.out).alloc _, (hn8'.out.below b9k'.out hn8'.out.lt).alloc _, b9'.out⟩
                            case measure => simp [intOf]; omega
                  · have hdq := Lib.hid (hdqN.out hrs)
                    have hres := Lib.hid (hbad'.out (fun h => hrs h.1))
                    clear hrs
                    go_wp2
                    go_quiet (first | exact hdq.out _ | (go_at_call 100; exact hdq.out _))
                    go_wp2
                    go_ret
                    exact ⟨by rw [hres.out]; rfl, by first | exact hb2.out | exact hb2.out.drew | exact pw_below_drewN hb2.out _⟩
              · have e2 : (x.node == nid) = false := beq_eq_false_iff_ne.mpr hnd
                have e2n : (x.node != nid) = true := by simp [hnd]
                have hres := Lib.hid (hno.out (lstep_none1 (.inr (.inl hnd))))
                clear hnd
                go_wp2
                go_quiet (fail)
                go_wp2
                go_ret
                exact ⟨by rw [hres.out]; rfl, by first | exact hb2.out | exact hb2.out.drew | exact pw_below_drewN hb2.out _⟩
          · have hnp := Lib.hid (show ¬ ∃ p, prev = some p ∧ x.task ≤ p from by rintro ⟨p, e, h⟩; rw [formF_zero hst (by omega)] at e; cases e)
            have hx0 : decide ((0 : Int) < (i : Int)) = false := decide_eq_false (by omega)
            have hx2 : decide (0 < i) = false := decide_eq_false h0
            have hx3 : decide ((i : Int) > 0) = false := decide_eq_false (by omega)
            clear hst hbel hx hrow hnb hna hri bL hbd hmem
            by_cases hnd : x.node = nid
            · have e2 : (x.node == nid) = true := beq_iff_eq.mpr hnd
              have e2n : (x.node != nid) = false := by simp [hnd]
              by_cases hcr : x.cores = []
              · have e3 : ((x.cores.length : Int) == 0) = true := by rw [hcr]; rfl
                have hres := Lib.hid (hno.out (lstep_none1 (.inr (.inr hcr))))
                clear hcr hnd
                go_wp2
                go_quiet (fail)
                go_wp2
                go_ret
                exact ⟨by rw [hres.out]; rfl, by first | exact hb2.out | exact hb2.out.drew | exact pw_below_drewN hb2.out _⟩
              · have hpos : 0 < x.cores.length := by cases h : x.cores with | nil => exact absurd h hcr | cons => simp
                have e3 : ((x.cores.length : Int) == 0) = false := beq_eq_false_iff_ne.mpr (by omega)
                have hgo := Lib.hid (show ¬ ((∃ p, prev = some p ∧ x.task ≤ p) ∨ x.node ≠ nid ∨ x.cores = []) from by rintro (h | h | h); exact hnp.out h; exact h hnd; exact hcr h)
                clear hcr hnd
                have hbad' := Lib.hid (fun (h : ¬ (RisI x.cores ∧ ∀ c ∈ x.cores, 0 ≤ c ∧ c < nco ∧ c ∉ tk)) => hno.out (lstep_none4 (coresF_not h)))
                by_cases hrs : RisI x.cores
                · have hdq := Lib.hid (hdqY.out hrs)
                  have hrs' := Lib.hid hrs
                  clear hrs
                  go_wp2
                  go_quiet (first | exact hdq.out _ | (go_at_call 100; exact hdq.out _))
                  obtain ⟨H, hH⟩ : ∃ H, wr.heap.size = H := ⟨_, rfl⟩
                  have hHW := Lib.hid (show W.heap.size < H by have := hn2.out.lt; have := hb2.out.size; rw [World.size_alloc] at this; have := hWr'.out; omega)
                  rw [hH] at hl2 ⊢
                  go_upto_region 14 with (fail)
                  go_loopw [79] (fun kv wq => ∃ (k : Nat), kv = .int .i64 (k : Int) ∧ k ≤ x.cores.length ∧ (∀ c ∈ x.cores.take k, 0 ≤ c ∧ c < nco ∧ c ∉ T) ∧ wq.ownsRow W.heap.size tI 1 (.slice A9 T.length c9) T.length (T.map (Value.int .i64)) ∧ Blk wq W.heap.size 53 #[.int .i64 nid, .int .i64 nco, .int .i64 nme, .int .i64 nin, .int .i64 nbe] ∧ Blk wq H tL #[.int .i64 x.task, .int .i64 x.queue, .int .i64 x.node, .slice A' x.cores.length c, .int .i64 x.mem, .int .i64 x.since, .int .i64 x.til, .bool x.stop] ∧ ReadsI wq A' x.cores ∧ Below W.heap.size W wq)
                    (fun kv _ => x.cores.length - (intOf kv).toNat)
                  case atStart => exact ⟨0, rfl, Nat.zero_le _, (fun c hc => by simp at hc), by exact hr2.out, by exact hn2.out, by exact hl2.out, by exact hri2.out.1, by first | exact hb2.out | exact hb2.out.drew | exact pw_below_drewN hb2.out _⟩
                  case round =>
                    clear l0 l2 l3 a0 a1
                    obtain ⟨k, rfl, hk, hall, hrow3, hn3, hl3, hrk, hbel⟩ := hrel
                    have a1 := hn3.cell 1
                    have l0 := hl3.cell 0
                    have l3 := hl3.cell 3
                    simp only [List.getElem?_toArray, List.getElem?_cons_zero, List.getElem?_cons_succ] at a1 l0 l3
                    have hall' := Lib.hid hall
                    have hrow3' := Lib.hid hrow3
                    have hn3' := Lib.hid hn3
                    have hl3' := Lib.hid hl3
                    have hrk' := Lib.hid hrk
                    have hbel' := Lib.hid hbel
                    by_cases hlk : k < x.cores.length
                    · obtain ⟨co, hco⟩ : ∃ co, x.cores[k]? = some co := ⟨x.cores[k], List.getElem?_eq_getElem hlk⟩
                      obtain ⟨ad3, rfl, _, p3⟩ := hrk k co hco
                      have hrT := Lib.hid (reads_row hrow3).1
                      have hco' := Lib.hid hco
                      have hbadc := Lib.hid (fun (h : ¬ (0 ≤ co ∧ co < nco ∧ co ∉ T)) => hbad'.out (fun h2 => h (by have := h2.2 co (List.mem_of_getElem? hco); exact ⟨this.1, this.2.1, fun hm => this.2.2 ((hmem'.out co).2 hm)⟩)))
                      clear hall hrow3 hn3 hl3 hrk hbel hco
                      by_cases c1 : co < 0
                      · have hres := Lib.hid (hbadc.out (fun h => by omega))
                        go_wp2
                        go_ret
                        exact ⟨by rw [hres.out]; rfl, hbel'.out⟩
                      · by_cases c2' : nco ≤ co
                        · have hres := Lib.hid (hbadc.out (fun h => by omega))
                          go_wp2
                          go_ret
                          exact ⟨by rw [hres.out]; rfl, hbel'.out⟩
                        · by_cases c3' : co ∈ T
                          · have hres := Lib.hid (hbadc.out (fun h => h.2.2 c3'))
                            have hd : decide (co ∈ T) = true := decide_eq_true c3'
                            clear c3'
                            go_wp2_with (go_at_call 62; refine (has_calls A9 c9 T co _ hrT.out (by omega)).mono ?_; rintro e w3 ⟨rfl, rfl⟩; simp only [hd])
                            go_ret
                            exact ⟨by rw [hres.out]; rfl, hbel'.out⟩
                          · have hd : decide (co ∈ T) = false := decide_eq_false c3'
                            have c3n := Lib.hid c3'
                            clear c3'
                            go_wp2_with (go_at_call 62; refine (has_calls A9 c9 T co _ hrT.out (by omega)).mono ?_; rintro e w3 ⟨rfl, rfl⟩; simp only [hd])
                            go_roundw
                            case rel => exact ⟨k + 1, by go_num, by omega, fun d hd => by
                              rw [List.take_add_one, hco'.out] at hd
                              rcases List.mem_append.1 hd with hd | hd
                              · exact hall'.out d hd
                              · obtain rfl := List.mem_singleton.1 hd
                                exact ⟨by omega, by omega, c3n.out⟩, hrow3'.out, hn3'.out, hl3'.out, hrk'.out, hbel'.out⟩
                            case measure => simp [intOf]; omega
                    · have hk' : k = x.cores.length := by omega
                      subst hk'
                      rw [List.take_length] at hall
                      obtain ⟨co, hco⟩ : ∃ co, x.cores[0]? = some co := ⟨_, List.getElem?_eq_getElem hpos⟩
                      obtain ⟨ad3, rfl, _, _⟩ := hrk 0 co hco
                      have hlen := risI_len hrs'.out (fun c hc => ⟨(hall c hc).1, (hall c hc).2.1⟩) hn
                      have hcF := Lib.hid (coresF_all (n := nco) (tk := tk) hrs'.out (fun c hc => ⟨(hall c hc).1, (hall c hc).2.1, fun h => (hall c hc).2.2 ((hmem'.out c).1 h)⟩))
                      have hnews := Lib.hid (show ∀ (j : Nat) u, (x.cores.map (Value.int .i64))[j]? = some u → wr.cell? (ad3.add j) = some u from fun j u hu => by
                        rw [List.getElem?_map] at hu
                        cases hj : x.cores[j]? with
                        | none => simp [hj] at hu
                        | some y =>
                          rw [hj] at hu
                          obtain rfl := Option.some.inj hu
                          obtain ⟨ad4, hA4, _, h4⟩ := hrk j y hj
                          obtain rfl := Option.some.inj hA4
                          exact h4)
                      have hszq := hbel.size
                      have hkeepN := Lib.hid (fun (w' : World) (hg : World.grownBy _ w' (Value.slice A9 T.length c9).ownBlock) => show Blk w' W.heap.size 53 _ from hn3.kept hg (fun e => by obtain ⟨_, _, cur, hc⟩ := own_block hrow3 e.symm; exact two_types hc hn3 (by decide) rfl))
                      have hkeepL := Lib.hid (fun (w' : World) (hg : World.grownBy _ w' (Value.slice A9 T.length c9).ownBlock) => show Blk w' H tL _ from hl3.kept hg (fun e => by obtain ⟨_, _, cur, hc⟩ := own_block hrow3 e.symm; exact two_types hc hl3 (by decide) rfl))
                      have hT4 := Lib.hid (fun (w' : World) (hb : Below W.heap.size W w') => hT'.out.below hb)
                      clear hall hrow3 hn3 hl3 hrk hbel hco
                      cases hf : findT ts x.task with
                      | none =>
                        have hres := Lib.hid (hno.out (lstep_none2 hf))
                        have hf' := Lib.hid hf
                        clear hf
                        go_upto_region 20 with (at_builtin; go_loud (refine wpList_append_own _ rfl _ _ 22 rfl W.heap.size tI i0 _ 1 8 Try.underlying22 hif hz0 hz1 hz2 rfl (by decide) _ _ _ rfl hrow3'.out ad3 x.cores.length c (x.cores.map (Value.int .i64)) rfl (by simp) hnews.out (ints_one _) (by unfold maxLen; omega) (by omega) hszq ?_))
                        intro v8 w8 hown8 hgr8 _
                        have hn8' := Lib.hid (hkeepN.out w8 hgr8)
                        have hl8 := hkeepL.out w8 hgr8
                        have l0' := hl8.cell 0
                        simp only [List.getElem?_toArray, List.getElem?_cons_zero, List.getElem?_cons_succ] at l0'
                        obtain ⟨A8, c8, rfl⟩ := own_slice hown8
                        have hb8' := Lib.hid (below_grown hbel'.out hgr8 (Nat.le_refl _) (fun k hk => (own_block hrow3'.out hk).1))
                        have hown8' := Lib.hid hown8
                        clear hown8 hgr8 hl8
                        go_wp2_with (((with_reducible refine gate_callee (f := 90) rfl ?_); refine goesL_ (some 105) rfl rfl Try.func90 (by kernel_rfl) rfl #[.slice A2 ts.length c2, .int .i64 x.task] rfl (by (try simp only [List.map_toArray, List.map_cons, List.map_nil]); first | done | rfl) ?_; (with_reducible refine (taskNone hf'.out (hT4.out _ hb8'.out) htl).mono ?_); rintro e w9 ⟨rfl, b9⟩; refine ⟨_, rfl, ?_⟩; have b9k' := Lib.hid b9; have b9' := Lib.hid ((hb8'.out.trans (below_le b9 hb8'.out.size)).alloc (by have := (hb8'.out.trans (below_le b9 hb8'.out.size)).size; exact this) (.cells zT tT)); clear b9))
                        go_ret
                        exact ⟨by rw [hres.out]; rfl, b9'.out⟩
                      | some t =>
                        cases hfb : fitsT t with
                        | false =>
                          have hres := Lib.hid (hno.out (lstep_none3 hf hfb))
                          have hf' := Lib.hid hf
                          have hfb' := Lib.hid hfb
                          clear hf hfb
                          go_upto_region 20 with (at_builtin; go_loud (refine wpList_append_own _ rfl _ _ 22 rfl W.heap.size tI i0 _ 1 8 Try.underlying22 hif hz0 hz1 hz2 rfl (by decide) _ _ _ rfl hrow3'.out ad3 x.cores.length c (x.cores.map (Value.int .i64)) rfl (by simp) hnews.out (ints_one _) (by unfold maxLen; omega) (by omega) hszq ?_))
                          intro v8 w8 hown8 hgr8 _
                          have hn8' := Lib.hid (hkeepN.out w8 hgr8)
                          have hl8 := hkeepL.out w8 hgr8
                          have l0' := hl8.cell 0
                          simp only [List.getElem?_toArray, List.getElem?_cons_zero, List.getElem?_cons_succ] at l0'
                          obtain ⟨A8, c8, rfl⟩ := own_slice hown8
                          have hb8' := Lib.hid (below_grown hbel'.out hgr8 (Nat.le_refl _) (fun k hk => (own_block hrow3'.out hk).1))
                          have hown8' := Lib.hid hown8
                          clear hown8 hgr8 hl8
                          go_wp2_with (((with_reducible refine gate_callee (f := 90) rfl ?_); refine goesL_ (some 105) rfl rfl Try.func90 (by kernel_rfl) rfl #[.slice A2 ts.length c2, .int .i64 x.task] rfl (by (try simp only [List.map_toArray, List.map_cons, List.map_nil]); first | done | rfl) ?_; (with_reducible refine (taskSome hf'.out hfb'.out (hT4.out _ hb8'.out) htl).mono ?_); rintro e w9 ⟨A10, c10, rfl, _, _, _, b9⟩; refine ⟨_, rfl, ?_⟩; have b9k' := Lib.hid b9; have b9' := Lib.hid ((hb8'.out.trans (below_le b9 hb8'.out.size)).alloc (by have := (hb8'.out.trans (below_le b9 hb8'.out.size)).size; exact this) (.cells (tsCells t A10 c10) tT)); clear b9))
                          go_ret
                          exact ⟨by rw [hres.out]; rfl, b9'.out⟩
                        | true =>
                          obtain ⟨lst, tk', hc1, hc2⟩ := hcF.out
                          have hst2 := Lib.hid (hyes.out _ (lstep_some hgo.out hf hfb hc1))
                          have hc2' := Lib.hid hc2
                          have hf' := Lib.hid hf
                          have hfb' := Lib.hid hfb
                          clear hf hfb hc1 hc2
                          go_upto_region 20 with (at_builtin; go_loud (refine wpList_append_own _ rfl _ _ 22 rfl W.heap.size tI i0 _ 1 8 Try.underlying22 hif hz0 hz1 hz2 rfl (by decide) _ _ _ rfl hrow3'.out ad3 x.cores.length c (x.cores.map (Value.int .i64)) rfl (by simp) hnews.out (ints_one _) (by unfold maxLen; omega) (by omega) hszq ?_))
                          intro v8 w8 hown8 hgr8 _
                          have hn8' := Lib.hid (hkeepN.out w8 hgr8)
                          have hl8 := hkeepL.out w8 hgr8
                          have l0' := hl8.cell 0
                          simp only [List.getElem?_toArray, List.getElem?_cons_zero, List.getElem?_cons_succ] at l0'
                          obtain ⟨A8, c8, rfl⟩ := own_slice hown8
                          have hb8' := Lib.hid (below_grown hbel'.out hgr8 (Nat.le_refl _) (fun k hk => (own_block hrow3'.out hk).1))
                          have hown8' := Lib.hid hown8
                          clear hown8 hgr8 hl8
                          go_wp2_with (((with_reducible refine gate_callee (f := 90) rfl ?_); refine goesL_ (some 105) rfl rfl Try.func90 (by kernel_rfl) rfl #[.slice A2 ts.length c2, .int .i64 x.task] rfl (by (try simp only [List.map_toArray, List.map_cons, List.map_nil]); first | done | rfl) ?_; (with_reducible refine (taskSome hf'.out hfb'.out (hT4.out _ hb8'.out) htl).mono ?_); rintro e w9 ⟨A10, c10, rfl, _, _, _, b9⟩; refine ⟨_, rfl, ?_⟩; have b9k' := Lib.hid b9; have b9' := Lib.hid ((hb8'.out.trans (below_le b9 hb8'.out.size)).alloc (by have := (hb8'.out.trans (below_le b9 hb8'.out.size)).size; exact this) (.cells (tsCells t A10 c10) tT)); clear b9))
                          go_roundw
                          case rel => exact ⟨i + 1, _, tk', T ++ x.cores, _, _, by rw [List.length_append], by go_num, by omega, hst2.out, fun d => by rw [hc2'.out, List.mem_append, hmem'.out], by rw [List.length_append]; omega, by rw [List.length_append, List.map_append]; exact (own_below hown8'.out b9k'.out).alloc _, (hn8'.out.below b9k'.out hn8'.out.lt).alloc _, b9'.out⟩
                          case measure => simp [intOf]; omega
                · have hdq := Lib.hid (hdqN.out hrs)
                  have hres := Lib.hid (hbad'.out (fun h => hrs h.1))
                  clear hrs
                  go_wp2
                  go_quiet (first | exact hdq.out _ | (go_at_call 100; exact hdq.out _))
                  go_wp2
                  go_ret
                  exact ⟨by rw [hres.out]; rfl, by first | exact hb2.out | exact hb2.out.drew | exact pw_below_drewN hb2.out _⟩
            · have e2 : (x.node == nid) = false := beq_eq_false_iff_ne.mpr hnd
              have e2n : (x.node != nid) = true := by simp [hnd]
              have hres := Lib.hid (hno.out (lstep_none1 (.inr (.inl hnd))))
              clear hnd
              go_wp2
              go_quiet (fail)
              go_wp2
              go_ret
              exact ⟨by rw [hres.out]; rfl, by first | exact hb2.out | exact hb2.out.drew | exact pw_below_drewN hb2.out _⟩
        · have hi' : i = xs.length := by omega
          subst hi'
          rw [List.take_of_length_le (Nat.le_refl _)] at hst
          have hv := Lib.hid (show (formF nid nco ts xs).isSome = true by rw [hst]; rfl)
          have hbel' := Lib.hid hbel
          clear hst hbel hrow hnb hbd hmem
          go_wp2
          go_ret
          exact ⟨by rw [hv.out, hri.out]; rfl, hbel'.out⟩
end Go.Proofs.Ytkcmmghhghgdpaa.Agt
end
section
namespace Go.Proofs.Ytkcmmghhghgdpaa.Agt
open Go.RowKit Go.Shelf Go.Maps Go.Proofs.Ytkcmmghhghgdpaa.Iter Go.Proofs.Ytkcmmghhghgdpaa.Str Go.Proofs.YtkcmmghhghgdpaaW.PrintWords Go.Proofs.YtkcmmghhghgdpaaW.PrintLast
set_option linter.unusedVariables false
set_option linter.unusedSimpArgs false
set_option maxRecDepth 100000 in
set_option maxHeartbeats 4000000 in
theorem finishedD (tsk que nd mem since til work had frm : Int) (stop : Bool) (A Au : Option Addr) (cl c ul cu : Nat) (W : World) : Calls Try.prog 93 #[.agg #[.int .i64 tsk, .int .i64 que, .int .i64 nd, .slice A cl c, .int .i64 mem, .int .i64 since, .int .i64 til, .bool stop, .int .i64 work, .int .i64 had, .int .i64 frm, .slice Au ul cu]] W fun e W' => e = .returned (.bool (decide (0 < work) && decide (work ≤ had))) ∧ Below W.heap.size W W' := by
  have bX := Blk.new W tDJ #[.int .i64 tsk, .int .i64 que, .int .i64 nd, .slice A cl c, .int .i64 mem, .int .i64 since, .int .i64 til, .bool stop, .int .i64 work, .int .i64 had, .int .i64 frm, .slice Au ul cu]
  have d0 := bX.cell 0
  have d1 := bX.cell 1
  have d2 := bX.cell 2
  have d3 := bX.cell 3
  have d4 := bX.cell 4
  have d5 := bX.cell 5
  have d6 := bX.cell 6
  have d7 := bX.cell 7
  have d8 := bX.cell 8
  have d9 := bX.cell 9
  have d10 := bX.cell 10
  have d11 := bX.cell 11
  simp only [List.getElem?_toArray, List.getElem?_cons_zero, List.getElem?_cons_succ] at d0 d1 d2 d3 d4 d5 d6 d7 d8 d9 d10 d11
  clear bX
  by_cases c1 : 0 < work
  · by_cases c2 : work ≤ had
    · rw [show (decide (0 < work) && decide (work ≤ had)) = true by simp [c1, c2]]
      go_enter Try.func93, Try.ntmps93
      go_wp2
      go_ret
      exact ⟨rfl, (Below.refl _ _).alloc (Nat.le_refl _) _⟩
    · rw [show (decide (0 < work) && decide (work ≤ had)) = false by simp [c2]]
      go_enter Try.func93, Try.ntmps93
      go_wp2
      go_ret
      exact ⟨rfl, (Below.refl _ _).alloc (Nat.le_refl _) _⟩
  · rw [show (decide (0 < work) && decide (work ≤ had)) = false by simp [c1]]
    go_enter Try.func93, Try.ntmps93
    go_wp2
    go_ret
    exact ⟨rfl, (Below.refl _ _).alloc (Nat.le_refl _) _⟩
set_option maxRecDepth 100000 in
set_option maxHeartbeats 4000000 in
theorem liveD (nid nco nme nin nbe short clock inc replied : Int) (runs : Bool) (As Aj : Option Addr) (sl cs jl cj : Nat) (tsk que nd mem since til work had frm : Int) (stop : Bool) (A Au : Option Addr) (cl c ul cu : Nat) (W : World) (h1 : 0 ≤ frm) (h2 : frm ≤ clock) (h3 : clock ≤ 9223372036854775807) : Calls Try.prog 92 #[.agg #[.int .i64 nid, .int .i64 nco, .int .i64 nme, .int .i64 nin, .int .i64 nbe, .int .i64 short, .int .i64 clock, .bool runs, .int .i64 inc, .slice As sl cs, .int .i64 replied, .slice Aj jl cj], .agg #[.int .i64 tsk, .int .i64 que, .int .i64 nd, .slice A cl c, .int .i64 mem, .int .i64 since, .int .i64 til, .bool stop, .int .i64 work, .int .i64 had, .int .i64 frm, .slice Au ul cu]] W fun e W' => e = .returned (.bool (decide (clock - frm < short) && !(decide (0 < work) && decide (work ≤ had)))) ∧ Below W.heap.size W W' := by
  have bX := (Blk.new W tDA #[.int .i64 nid, .int .i64 nco, .int .i64 nme, .int .i64 nin, .int .i64 nbe, .int .i64 short, .int .i64 clock, .bool runs, .int .i64 inc, .slice As sl cs, .int .i64 replied, .slice Aj jl cj]).alloc (.cells #[.int .i64 tsk, .int .i64 que, .int .i64 nd, .slice A cl c, .int .i64 mem, .int .i64 since, .int .i64 til, .bool stop, .int .i64 work, .int .i64 had, .int .i64 frm, .slice Au ul cu] tDJ)
  have bY := Blk.new (W.alloc (.cells #[.int .i64 nid, .int .i64 nco, .int .i64 nme, .int .i64 nin, .int .i64 nbe, .int .i64 short, .int .i64 clock, .bool runs, .int .i64 inc, .slice As sl cs, .int .i64 replied, .slice Aj jl cj] tDA)) tDJ #[.int .i64 tsk, .int .i64 que, .int .i64 nd, .slice A cl c, .int .i64 mem, .int .i64 since, .int .i64 til, .bool stop, .int .i64 work, .int .i64 had, .int .i64 frm, .slice Au ul cu]
  rw [World.size_alloc] at bY
  have d0 := bX.cell 0
  have d1 := bX.cell 1
  have d2 := bX.cell 2
  have d3 := bX.cell 3
  have d4 := bX.cell 4
  have d5 := bX.cell 5
  have d6 := bX.cell 6
  have d7 := bX.cell 7
  have d8 := bX.cell 8
  have d9 := bX.cell 9
  have d10 := bX.cell 10
  have d11 := bX.cell 11
  simp only [List.getElem?_toArray, List.getElem?_cons_zero, List.getElem?_cons_succ] at d0 d1 d2 d3 d4 d5 d6 d7 d8 d9 d10 d11
  have q0 := bY.cell 0
  have q1 := bY.cell 1
  have q2 := bY.cell 2
  have q3 := bY.cell 3
  have q4 := bY.cell 4
  have q5 := bY.cell 5
  have q6 := bY.cell 6
  have q7 := bY.cell 7
  have q8 := bY.cell 8
  have q9 := bY.cell 9
  have q10 := bY.cell 10
  have q11 := bY.cell 11
  simp only [List.getElem?_toArray, List.getElem?_cons_zero, List.getElem?_cons_succ] at q0 q1 q2 q3 q4 q5 q6 q7 q8 q9 q10 q11
  clear bX bY
  have hw : IntKind.i64.wrap (clock - frm) = clock - frm := IntWalk.i64_in _ (by omega)
  obtain ⟨b, hb⟩ : ∃ b, (decide (0 < work) && decide (work ≤ had)) = b := ⟨_, rfl⟩
  have hF := Lib.hid (fun w => show Calls Try.prog 93 #[.agg #[.int .i64 tsk, .int .i64 que, .int .i64 nd, .slice A cl c, .int .i64 mem, .int .i64 since, .int .i64 til, .bool stop, .int .i64 work, .int .i64 had, .int .i64 frm, .slice Au ul cu]] w fun e W' => e = .returned (.bool b) ∧ Below w.heap.size w W' from hb ▸ finishedD tsk que nd mem since til work had frm stop A Au cl c ul cu w)
  rw [hb]
  clear hb h1 h2 h3
  by_cases c1 : clock - frm < short
  · cases b with
    | true =>
      rw [show (decide (clock - frm < short) && !true) = false by simp]
      go_enter Try.func92, Try.ntmps92
      go_wp2_with ((go_at_call 93; go_loud (refine (hF.out _).mono ?_; rintro e w2 ⟨rfl, b2⟩; have b2' := Lib.hid ((below2 _ _).trans (below_le b2 (below2 _ _).size)); clear b2)))
      go_ret
      exact ⟨rfl, b2'.out⟩
    | false =>
      rw [show (decide (clock - frm < short) && !false) = true by simp [c1]]
      go_enter Try.func92, Try.ntmps92
      go_wp2_with ((go_at_call 93; go_loud (refine (hF.out _).mono ?_; rintro e w2 ⟨rfl, b2⟩; have b2' := Lib.hid ((below2 _ _).trans (below_le b2 (below2 _ _).size)); clear b2)))
      go_ret
      exact ⟨rfl, b2'.out⟩
  · rw [show (decide (clock - frm < short) && !b) = false by simp [c1]]
    go_enter Try.func92, Try.ntmps92
    go_wp2
    go_ret
    exact ⟨rfl, below2 _ _⟩
end Go.Proofs.Ytkcmmghhghgdpaa.Agt
end
section
namespace Go.Proofs.Ytkcmmghhghgdpaa.Agt
open Go.RowKit Go.Shelf Go.Maps Go.Proofs.Ytkcmmghhghgdpaa.Iter Go.Proofs.Ytkcmmghhghgdpaa.Str Go.Proofs.YtkcmmghhghgdpaaW.PrintWords Go.Proofs.YtkcmmghhghgdpaaW.PrintLast
set_option linter.unusedVariables false
set_option linter.unusedSimpArgs false
/-- A job of the document, as it is read. -/
theorem docM_at {Q : Nat → Prop} {vs : Value} {Aj : Option Addr} {cj : Nat} {l : List (Jb × DJ)} {S : Ag} {W : World} (h : DocM Q vs (.slice Aj l.length cj) l S W) {i : Nat} (hi : i < l.length) :
    ∃ g j A c Au cu, Aj = some ⟨g, 0, none⟩ ∧ g < W.heap.size ∧ l[i]? = some (j, ⟨A, c, .slice Au j.th.length cu⟩) ∧ S.jobs[i]? = some j ∧ DocJ Q W (j, ⟨A, c, .slice Au j.th.length cu⟩) ∧ ∀ (m : Nat) v, m < 12 → (#[.int .i64 j.le.task, .int .i64 j.le.queue, .int .i64 j.le.node, .slice A j.le.cores.length c, .int .i64 j.le.mem, .int .i64 j.le.since, .int .i64 j.le.til, .bool j.le.stop, .int .i64 j.work, .int .i64 j.had, .int .i64 j.frm, .slice Au j.th.length cu])[m]? = some v → W.cell? ⟨g, i * 12 + m, none⟩ = some v := by
  obtain ⟨p, hp⟩ : ∃ p, l[i]? = some p := ⟨l[i], List.getElem?_eq_getElem hi⟩
  obtain ⟨j, A, c, u⟩ := p
  have hj := h.job _ (List.mem_of_getElem? hp)
  obtain ⟨Au, cu, hu⟩ := own_slice hj.grp
  dsimp only at hu
  subst hu
  obtain ⟨g, c2, hv⟩ := own_someL h.jrow (by omega)
  injection hv with e1 _ _
  subst e1
  refine ⟨g, j, A, c, Au, cu, rfl, (own_block h.jrow (k := g) rfl).2.1, hp, ?_, hj, fun m v hm hv => ?_⟩
  · have := congrArg (fun q => q[i]?) h.fst
    simp only [List.getElem?_map, hp, Option.map_some] at this
    exact this.symm
  · rw [h.jrow.cellAt (i * 12 + m) (by omega), flatD_get l i m _ hm hp, ← List.getElem?_toArray]
    exact hv
/-- The jobs that are finished, where their leases lie. -/
def doneD (l : List (Jb × DJ)) : List LeM := (l.filter fun p => doneJ p.1).map fun p => (p.1.le, p.2.A, p.2.c)
theorem doneD_take (l : List (Jb × DJ)) (i : Nat) (p : Jb × DJ) (h : l[i]? = some p) : doneD (l.take (i + 1)) = doneD (l.take i) ++ (if doneJ p.1 = true then [(p.1.le, p.2.A, p.2.c)] else []) := by
  unfold doneD
  rw [List.take_add_one, h, List.filter_append, List.map_append]
  congr 1
  show ((List.filter (fun p => doneJ p.1) [p]).map fun p => (p.1.le, p.2.A, p.2.c)) = _
  rw [List.filter_cons]
  split <;> rfl
theorem doneD_len (l : List (Jb × DJ)) : (doneD l).length ≤ l.length := by
  unfold doneD
  rw [List.length_map]
  exact List.length_filter_le _ _
theorem doneD_fst (l : List (Jb × DJ)) : (doneD l).map (·.1) = ((l.map (·.1)).filter doneJ).map (·.le) := by
  unfold doneD
  rw [List.map_map, List.filter_map, List.map_map]
  rfl
set_option maxRecDepth 100000 in
set_option maxHeartbeats 8000000 in
theorem FinD {Q : Nat → Prop} {vs vj : Value} {l : List (Jb × DJ)} {S : Ag} (W : World) (h : DocM Q vs vj l S W) (hl : S.jobs.length ≤ 64) :
    Calls Try.prog 72 #[.agg (agCells S vs vj)] W fun e W' => ∃ A c, ∃ zs : List LeM, e = .returned (.slice A zs.length c) ∧ zs.map (·.1) = finG S ∧ W'.ownsRow W.heap.size tL 8 (.slice A zs.length c) zs.length (flatL zs) ∧ (∀ z ∈ zs, OwnC 0 W' z) ∧ Below W.heap.size W W' := by
  have hll : l.length ≤ 64 := by have := h.len; omega
  clear hl
  obtain ⟨As, cs, rfl⟩ := own_slice h.sent
  obtain ⟨Aj, cj, rfl⟩ := own_slice h.jrow
  dsimp only [agCells]
  have h' := Lib.hid h
  have bX := Blk.new W tDA #[.int .i64 S.nid, .int .i64 S.nco, .int .i64 S.nme, .int .i64 S.nin, .int .i64 S.nbe, .int .i64 S.short, .int .i64 S.clock, .bool S.runs, .int .i64 S.inc, .slice As S.sent.length cs, .int .i64 S.replied, .slice Aj l.length cj]
  have d0 := bX.cell 0
  have d1 := bX.cell 1
  have d2 := bX.cell 2
  have d3 := bX.cell 3
  have d4 := bX.cell 4
  have d5 := bX.cell 5
  have d6 := bX.cell 6
  have d7 := bX.cell 7
  have d8 := bX.cell 8
  have d9 := bX.cell 9
  have d10 := bX.cell 10
  have d11 := bX.cell 11
  simp only [List.getElem?_toArray, List.getElem?_cons_zero, List.getElem?_cons_succ] at d0 d1 d2 d3 d4 d5 d6 d7 d8 d9 d10 d11
  have b0' := Lib.hid ((Below.refl W.heap.size W).alloc (Nat.le_refl _) (.cells #[.int .i64 S.nid, .int .i64 S.nco, .int .i64 S.nme, .int .i64 S.nin, .int .i64 S.nbe, .int .i64 S.short, .int .i64 S.clock, .bool S.runs, .int .i64 S.inc, .slice As S.sent.length cs, .int .i64 S.replied, .slice Aj l.length cj] tDA))
  obtain ⟨i0, hif, hz0, hz1, hz2⟩ := info_parts infoL
  clear h bX
  go_enter Try.func72, Try.ntmps72
  go_wp2
  go_loopw [3, 9] (fun zv iv wr => ∃ (i : Nat) (A3 : Option Addr) (c3 : Nat), zv = .slice A3 (doneD (l.take i)).length c3 ∧ iv = .int .i64 (i : Int) ∧ i ≤ l.length ∧ wr.ownsRow W.heap.size tL 8 (.slice A3 (doneD (l.take i)).length c3) (doneD (l.take i)).length (flatL (doneD (l.take i))) ∧ Below W.heap.size W wr)
    (fun _ iv _ => l.length - (intOf iv).toNat)
  case atStart => exact ⟨0, none, 0, rfl, rfl, Nat.zero_le _, World.ownsRow_nil _ _ _ _, b0'.out⟩
  case round =>
    obtain ⟨i, A3, c3, rfl, rfl, hi, hown, hbel⟩ := hrel
    have hzl := doneD_len (l.take i)
    rw [List.length_take] at hzl
    by_cases hlt : i < l.length
    · obtain ⟨g, j, A, c, Au, cu, rfl, hgl, hp, hj, hdj, hcell⟩ := docM_at (h'.out.below hbel) hlt
      have hst := Lib.hid (doneD_take l i _ hp)
      have q0 := hcell 0 _ (by omega) rfl
      rw [Nat.add_zero] at q0
      have q1 := hcell 1 _ (by omega) rfl
      have q2 := hcell 2 _ (by omega) rfl
      have q3 := hcell 3 _ (by omega) rfl
      have q4 := hcell 4 _ (by omega) rfl
      have q5 := hcell 5 _ (by omega) rfl
      have q6 := hcell 6 _ (by omega) rfl
      have q7 := hcell 7 _ (by omega) rfl
      have q8 := hcell 8 _ (by omega) rfl
      have q9 := hcell 9 _ (by omega) rfl
      have q10 := hcell 10 _ (by omega) rfl
      have q11 := hcell 11 _ (by omega) rfl
      have bC := Blk.new wr tDJ #[.int .i64 j.le.task, .int .i64 j.le.queue, .int .i64 j.le.node, .slice A j.le.cores.length c, .int .i64 j.le.mem, .int .i64 j.le.since, .int .i64 j.le.til, .bool j.le.stop, .int .i64 j.work, .int .i64 j.had, .int .i64 j.frm, .slice Au j.th.length cu]
      have x0 := bC.cell 0
      have x1 := bC.cell 1
      have x2 := bC.cell 2
      have x3 := bC.cell 3
      have x4 := bC.cell 4
      have x5 := bC.cell 5
      have x6 := bC.cell 6
      have x7 := bC.cell 7
      have x8 := bC.cell 8
      have x9 := bC.cell 9
      have x10 := bC.cell 10
      have x11 := bC.cell 11
      simp only [List.getElem?_toArray, List.getElem?_cons_zero, List.getElem?_cons_succ] at x0 x1 x2 x3 x4 x5 x6 x7 x8 x9 x10 x11
      have hb2 := Lib.hid (hbel.alloc hbel.size (.cells #[.int .i64 j.le.task, .int .i64 j.le.queue, .int .i64 j.le.node, .slice A j.le.cores.length c, .int .i64 j.le.mem, .int .i64 j.le.since, .int .i64 j.le.til, .bool j.le.stop, .int .i64 j.work, .int .i64 j.had, .int .i64 j.frm, .slice Au j.th.length cu] tDJ))
      have ho2 := Lib.hid (hown.alloc (.cells #[.int .i64 j.le.task, .int .i64 j.le.queue, .int .i64 j.le.node, .slice A j.le.cores.length c, .int .i64 j.le.mem, .int .i64 j.le.since, .int .i64 j.le.til, .bool j.le.stop, .int .i64 j.work, .int .i64 j.had, .int .i64 j.frm, .slice Au j.th.length cu] tDJ))
      have hc2 := Lib.hid bC
      obtain ⟨zs, hzs⟩ : ∃ zs, doneD (l.take i) = zs := ⟨_, rfl⟩
      rw [hzs] at ho2 hst hzl ⊢
      obtain ⟨b, hb⟩ : ∃ b, doneJ j = b := ⟨_, rfl⟩
      have hF := Lib.hid (fun w => show Calls Try.prog 93 #[.agg #[.int .i64 j.le.task, .int .i64 j.le.queue, .int .i64 j.le.node, .slice A j.le.cores.length c, .int .i64 j.le.mem, .int .i64 j.le.since, .int .i64 j.le.til, .bool j.le.stop, .int .i64 j.work, .int .i64 j.had, .int .i64 j.frm, .slice Au j.th.length cu]] w fun e W' => e = .returned (.bool b) ∧ Below w.heap.size w W' from hb ▸ finishedD j.le.task j.le.queue j.le.node j.le.mem j.le.since j.le.til j.work j.had j.frm j.le.stop A Au j.le.cores.length c j.th.length cu w)
      rw [show doneJ (j, (⟨A, c, .slice Au j.th.length cu⟩ : DJ)).1 = b from hb] at hst
      clear hown hbel hp hj hdj hcell bC hzs hb
      cases b with
      | true =>
        rw [if_pos rfl] at hst
        go_wp2_with (first | (((with_reducible refine gate_callee (f := 93) rfl ?_); refine goesL_ (some 14) rfl rfl Try.func93 (by kernel_rfl) rfl #[.agg #[.int .i64 j.le.task, .int .i64 j.le.queue, .int .i64 j.le.node, .slice A j.le.cores.length c, .int .i64 j.le.mem, .int .i64 j.le.since, .int .i64 j.le.til, .bool j.le.stop, .int .i64 j.work, .int .i64 j.had, .int .i64 j.frm, .slice Au j.th.length cu]] rfl (by (try simp only [List.map_toArray, List.map_cons, List.map_nil]); first | done | rfl) ?_; (with_reducible refine (hF.out _).mono ?_); rintro e w4 ⟨rfl, b4⟩; refine ⟨_, rfl, ?_⟩; have ho4' := Lib.hid (own_below ho2.out b4); have hc4 := hc2.out.below b4 hc2.out.lt; have e0 := hc4.cell 0; have e1 := hc4.cell 1; have e2 := hc4.cell 2; have e3 := hc4.cell 3; have e4 := hc4.cell 4; have e5 := hc4.cell 5; have e6 := hc4.cell 6; have e7 := hc4.cell 7; have e8 := hc4.cell 8; have e9 := hc4.cell 9; have e10 := hc4.cell 10; have e11 := hc4.cell 11; simp only [List.getElem?_toArray, List.getElem?_cons_zero, List.getElem?_cons_succ] at e0 e1 e2 e3 e4 e5 e6 e7 e8 e9 e10 e11; have b4' := Lib.hid (hb2.out.trans (below_le b4 hb2.out.size)); clear b4 hc4)) | (at_builtin; go_loud (refine wpList_append_own _ rfl _ _ 55 rfl W.heap.size tL i0 _ 8 80 Try.underlying55 hif hz0 hz1 hz2 rfl (by decide) _ _ _ rfl (ho4'.out.alloc _) ⟨w4.heap.size, 0, none⟩ 1 1 (leCs (j.le, A, c)) rfl rfl (cells_newL _ _ _) (flatL_one' _) (by first | omega | (unfold maxLen; omega)) (by omega) (by have := b4'.out.size; simp; omega) ?_)))
        intro v8 w8 hown8 hgr8 _
        obtain ⟨A8, c8, rfl⟩ := own_slice hown8
        have hb8' := Lib.hid (below_grown (b4'.out.alloc b4'.out.size _) hgr8 (Nat.le_refl _) (fun k hk => (own_block ho4'.out hk).1))
        have hown8' := Lib.hid hown8
        clear hown8 hgr8
        go_wp2
        go_roundw
        case rel => exact ⟨i + 1, A8, c8, by rw [hst.out, List.length_append]; rfl, by go_num, by omega, by rw [hst.out, List.length_append, flatL_app]; exact hown8'.out, hb8'.out⟩
        case measure => simp [intOf]; omega
      | false =>
        rw [if_neg (by simp), List.append_nil] at hst
        go_wp2_with (((with_reducible refine gate_callee (f := 93) rfl ?_); refine goesL_ (some 14) rfl rfl Try.func93 (by kernel_rfl) rfl #[.agg #[.int .i64 j.le.task, .int .i64 j.le.queue, .int .i64 j.le.node, .slice A j.le.cores.length c, .int .i64 j.le.mem, .int .i64 j.le.since, .int .i64 j.le.til, .bool j.le.stop, .int .i64 j.work, .int .i64 j.had, .int .i64 j.frm, .slice Au j.th.length cu]] rfl (by (try simp only [List.map_toArray, List.map_cons, List.map_nil]); first | done | rfl) ?_; (with_reducible refine (hF.out _).mono ?_); rintro e w4 ⟨rfl, b4⟩; refine ⟨_, rfl, ?_⟩; have ho4' := Lib.hid (own_below ho2.out b4); have hc4 := hc2.out.below b4 hc2.out.lt; have e0 := hc4.cell 0; have e1 := hc4.cell 1; have e2 := hc4.cell 2; have e3 := hc4.cell 3; have e4 := hc4.cell 4; have e5 := hc4.cell 5; have e6 := hc4.cell 6; have e7 := hc4.cell 7; have e8 := hc4.cell 8; have e9 := hc4.cell 9; have e10 := hc4.cell 10; have e11 := hc4.cell 11; simp only [List.getElem?_toArray, List.getElem?_cons_zero, List.getElem?_cons_succ] at e0 e1 e2 e3 e4 e5 e6 e7 e8 e9 e10 e11; have b4' := Lib.hid (hb2.out.trans (below_le b4 hb2.out.size)); clear b4 hc4))
        go_roundw
        case rel => exact ⟨i + 1, A3, c3, by rw [hst.out], by go_num, by omega, by rw [hst.out]; exact ho4'.out, b4'.out⟩
        case measure => simp [intOf]; omega
    · have hi' : i = l.length := by omega
      subst hi'
      rw [List.take_length] at hown ⊢
      have hcs := Lib.hid (show ∀ z ∈ doneD l, OwnC 0 wr z from fun z hz => by
        obtain ⟨p, hp, rfl⟩ := List.mem_map.1 hz
        exact ((h'.out.below hbel).job p (List.mem_filter.1 hp).1).cores)
      have hfst := Lib.hid (show (doneD l).map (·.1) = finG S by rw [doneD_fst, h'.out.fst]; rfl)
      have hown' := Lib.hid hown
      have hbel' := Lib.hid hbel
      obtain ⟨zs, hzs⟩ : ∃ zs, doneD l = zs := ⟨_, rfl⟩
      rw [hzs] at hcs hfst hown' ⊢
      clear hown hbel hzs
      go_wp2
      go_ret
      exact ⟨A3, c3, zs, rfl, hfst.out, hown'.out, hcs.out, hbel'.out⟩
end Go.Proofs.Ytkcmmghhghgdpaa.Agt
end
section
namespace Go.Proofs.Ytkcmmghhghgdpaa.Agt
open Go.RowKit Go.Shelf Go.Maps Go.Proofs.Ytkcmmghhghgdpaa.Iter Go.Proofs.Ytkcmmghhghgdpaa.Str Go.Proofs.YtkcmmghhghgdpaaW.PrintWords Go.Proofs.YtkcmmghhghgdpaaW.PrintLast
set_option linter.unusedVariables false
set_option linter.unusedSimpArgs false
/-- The runs of the first jobs. -/
def rD (S : Ag) (i : Nat) : List (Int × Int) := ((S.jobs.take i).filter (liveJ S)).flatMap runsJ
theorem rD_next (S : Ag) (i : Nat) (j : Jb) (h : S.jobs[i]? = some j) : rD S (i + 1) = rD S i ++ (if liveJ S j = true then runsJ j else []) := by
  unfold rD
  rw [List.take_add_one, h, List.filter_append, List.flatMap_append]
  congr 1
  show (List.filter (liveJ S) [j]).flatMap runsJ = _
  rw [List.filter_cons]
  split
  · simp
  · rfl
theorem rD_all (S : Ag) (n : Nat) (h : n = S.jobs.length) : rD S n = liveG S := by
  subst h
  unfold rD liveG
  rw [List.take_length]
theorem rD_len (S : Ag) (hok : AgOk S) (i : Nat) : (rD S i).length ≤ 64 * i := by
  have h1 := runs_len ((S.jobs.take i).filter (liveJ S)) fun j hj => (hok.job j (List.mem_of_mem_take (List.mem_filter.1 hj).1)).1
  have h2 := List.length_filter_le (liveJ S) (S.jobs.take i)
  rw [List.length_take] at h2
  unfold rD
  omega
set_option maxRecDepth 100000 in
set_option maxHeartbeats 8000000 in
theorem LiveD {Q : Nat → Prop} {vs vj : Value} {l : List (Jb × DJ)} {S : Ag} (W : World) (h : DocM Q vs vj l S W) (hok : AgOk S) :
    Calls Try.prog 71 #[.agg (agCells S vs vj)] W fun e W' => ∃ A c, e = .returned (.slice A (liveG S).length c) ∧ W'.ownsRow W.heap.size tRun 2 (.slice A (liveG S).length c) (liveG S).length (flatR (liveG S)) ∧ Below W.heap.size W W' := by
  have hll : l.length ≤ 64 := by have := h.len; have := hok.jobs; omega
  have hlj := Lib.hid h.len
  obtain ⟨As, cs, rfl⟩ := own_slice h.sent
  obtain ⟨Aj, cj, rfl⟩ := own_slice h.jrow
  dsimp only [agCells]
  have h' := Lib.hid h
  have hok' := Lib.hid hok
  have bX := Blk.new W tDA #[.int .i64 S.nid, .int .i64 S.nco, .int .i64 S.nme, .int .i64 S.nin, .int .i64 S.nbe, .int .i64 S.short, .int .i64 S.clock, .bool S.runs, .int .i64 S.inc, .slice As S.sent.length cs, .int .i64 S.replied, .slice Aj l.length cj]
  have d0 := bX.cell 0
  have d1 := bX.cell 1
  have d2 := bX.cell 2
  have d3 := bX.cell 3
  have d4 := bX.cell 4
  have d5 := bX.cell 5
  have d6 := bX.cell 6
  have d7 := bX.cell 7
  have d8 := bX.cell 8
  have d9 := bX.cell 9
  have d10 := bX.cell 10
  have d11 := bX.cell 11
  simp only [List.getElem?_toArray, List.getElem?_cons_zero, List.getElem?_cons_succ] at d0 d1 d2 d3 d4 d5 d6 d7 d8 d9 d10 d11
  have bX' := Lib.hid bX
  have b0' := Lib.hid ((Below.refl W.heap.size W).alloc (Nat.le_refl _) (.cells #[.int .i64 S.nid, .int .i64 S.nco, .int .i64 S.nme, .int .i64 S.nin, .int .i64 S.nbe, .int .i64 S.short, .int .i64 S.clock, .bool S.runs, .int .i64 S.inc, .slice As S.sent.length cs, .int .i64 S.replied, .slice Aj l.length cj] tDA))
  obtain ⟨i0, hif, hz0, hz1, hz2⟩ := info_parts infoRun
  clear h bX hok
  go_enter Try.func71, Try.ntmps71
  go_wp2
  clear d0 d1 d2 d3 d4 d5 d6 d7 d8 d9 d10 d11
  go_loopw [3, 11] (fun zv iv wr => ∃ (i : Nat) (A3 : Option Addr) (c3 : Nat), zv = .slice A3 (rD S i).length c3 ∧ iv = .int .i64 (i : Int) ∧ i ≤ l.length ∧ wr.ownsRow W.heap.size tRun 2 (.slice A3 (rD S i).length c3) (rD S i).length (flatR (rD S i)) ∧ Blk wr W.heap.size tDA #[.int .i64 S.nid, .int .i64 S.nco, .int .i64 S.nme, .int .i64 S.nin, .int .i64 S.nbe, .int .i64 S.short, .int .i64 S.clock, .bool S.runs, .int .i64 S.inc, .slice As S.sent.length cs, .int .i64 S.replied, .slice Aj l.length cj] ∧ Below W.heap.size W wr)
    (fun _ iv _ => l.length - (intOf iv).toNat)
  case atStart => exact ⟨0, none, 0, rfl, rfl, Nat.zero_le _, World.ownsRow_nil _ _ _ _, bX'.out, b0'.out⟩
  case round =>
    obtain ⟨i, A3, c3, rfl, rfl, hi, hown, hab, hbel⟩ := hrel
    have hzl := rD_len S hok'.out i
    by_cases hlt : i < l.length
    · obtain ⟨g, j, A, c, Au, cu, rfl, hgl, hp, hj, hdj, hcell⟩ := docM_at (h'.out.below hbel) hlt
      have hst := Lib.hid (rD_next S i j hj)
      obtain ⟨jk1, jk2, jk3, jk4, jk5⟩ := hok'.out.job j (List.mem_of_getElem? hj)
      have hcl := hok'.out.clock
      have q0 := hcell 0 _ (by omega) rfl
      rw [Nat.add_zero] at q0
      have q1 := hcell 1 _ (by omega) rfl
      have q2 := hcell 2 _ (by omega) rfl
      have q3 := hcell 3 _ (by omega) rfl
      have q4 := hcell 4 _ (by omega) rfl
      have q5 := hcell 5 _ (by omega) rfl
      have q6 := hcell 6 _ (by omega) rfl
      have q7 := hcell 7 _ (by omega) rfl
      have q8 := hcell 8 _ (by omega) rfl
      have q9 := hcell 9 _ (by omega) rfl
      have q10 := hcell 10 _ (by omega) rfl
      have q11 := hcell 11 _ (by omega) rfl
      have bC := Blk.new wr tDJ #[.int .i64 j.le.task, .int .i64 j.le.queue, .int .i64 j.le.node, .slice A j.le.cores.length c, .int .i64 j.le.mem, .int .i64 j.le.since, .int .i64 j.le.til, .bool j.le.stop, .int .i64 j.work, .int .i64 j.had, .int .i64 j.frm, .slice Au j.th.length cu]
      have hab2 := hab.alloc (.cells #[.int .i64 j.le.task, .int .i64 j.le.queue, .int .i64 j.le.node, .slice A j.le.cores.length c, .int .i64 j.le.mem, .int .i64 j.le.since, .int .i64 j.le.til, .bool j.le.stop, .int .i64 j.work, .int .i64 j.had, .int .i64 j.frm, .slice Au j.th.length cu] tDJ)
      have x0 := bC.cell 0
      have x1 := bC.cell 1
      have x2 := bC.cell 2
      have x3 := bC.cell 3
      have x4 := bC.cell 4
      have x5 := bC.cell 5
      have x6 := bC.cell 6
      have x7 := bC.cell 7
      have x8 := bC.cell 8
      have x9 := bC.cell 9
      have x10 := bC.cell 10
      have x11 := bC.cell 11
      simp only [List.getElem?_toArray, List.getElem?_cons_zero, List.getElem?_cons_succ] at x0 x1 x2 x3 x4 x5 x6 x7 x8 x9 x10 x11
      have y0 := hab2.cell 0
      have y1 := hab2.cell 1
      have y2 := hab2.cell 2
      have y3 := hab2.cell 3
      have y4 := hab2.cell 4
      have y5 := hab2.cell 5
      have y6 := hab2.cell 6
      have y7 := hab2.cell 7
      have y8 := hab2.cell 8
      have y9 := hab2.cell 9
      have y10 := hab2.cell 10
      have y11 := hab2.cell 11
      simp only [List.getElem?_toArray, List.getElem?_cons_zero, List.getElem?_cons_succ] at y0 y1 y2 y3 y4 y5 y6 y7 y8 y9 y10 y11
      have hb2 := Lib.hid (hbel.alloc hbel.size (.cells #[.int .i64 j.le.task, .int .i64 j.le.queue, .int .i64 j.le.node, .slice A j.le.cores.length c, .int .i64 j.le.mem, .int .i64 j.le.since, .int .i64 j.le.til, .bool j.le.stop, .int .i64 j.work, .int .i64 j.had, .int .i64 j.frm, .slice Au j.th.length cu] tDJ))
      have ho2 := Lib.hid (hown.alloc (.cells #[.int .i64 j.le.task, .int .i64 j.le.queue, .int .i64 j.le.node, .slice A j.le.cores.length c, .int .i64 j.le.mem, .int .i64 j.le.since, .int .i64 j.le.til, .bool j.le.stop, .int .i64 j.work, .int .i64 j.had, .int .i64 j.frm, .slice Au j.th.length cu] tDJ))
      have hc2 := Lib.hid bC
      have ha2 := Lib.hid hab2
      have hrW := Lib.hid ((reads_row (h'.out.job _ (List.mem_of_getElem? hp)).cores).1)
      obtain ⟨R, hR⟩ : ∃ R, rD S i = R := ⟨_, rfl⟩
      rw [hR] at ho2 hst hzl ⊢
      obtain ⟨b, hb⟩ : ∃ b, liveJ S j = b := ⟨_, rfl⟩
      have hF := Lib.hid (fun w => show Calls Try.prog 92 #[.agg #[.int .i64 S.nid, .int .i64 S.nco, .int .i64 S.nme, .int .i64 S.nin, .int .i64 S.nbe, .int .i64 S.short, .int .i64 S.clock, .bool S.runs, .int .i64 S.inc, .slice As S.sent.length cs, .int .i64 S.replied, .slice (some ⟨g, 0, none⟩) l.length cj], .agg #[.int .i64 j.le.task, .int .i64 j.le.queue, .int .i64 j.le.node, .slice A j.le.cores.length c, .int .i64 j.le.mem, .int .i64 j.le.since, .int .i64 j.le.til, .bool j.le.stop, .int .i64 j.work, .int .i64 j.had, .int .i64 j.frm, .slice Au j.th.length cu]] w fun e W' => e = .returned (.bool b) ∧ Below w.heap.size w W' from hb ▸ liveD S.nid S.nco S.nme S.nin S.nbe S.short S.clock S.inc S.replied S.runs As (some ⟨g, 0, none⟩) S.sent.length cs l.length cj j.le.task j.le.queue j.le.node j.le.mem j.le.since j.le.til j.work j.had j.frm j.le.stop A Au j.le.cores.length c j.th.length cu w jk3 jk4 hcl.2)
      rw [hb] at hst
      clear hown hab hab2 hbel hp hj hdj hcell bC hR hb jk2 jk3 jk4 jk5 hcl
      cases b with
      | true =>
        rw [if_pos rfl] at hst
        go_upto_region 6 with (((with_reducible refine gate_callee (f := 92) rfl ?_); refine goesL_ (some 17) rfl rfl Try.func92 (by kernel_rfl) rfl #[.agg #[.int .i64 S.nid, .int .i64 S.nco, .int .i64 S.nme, .int .i64 S.nin, .int .i64 S.nbe, .int .i64 S.short, .int .i64 S.clock, .bool S.runs, .int .i64 S.inc, .slice As S.sent.length cs, .int .i64 S.replied, .slice (some ⟨g, 0, none⟩) l.length cj], .agg #[.int .i64 j.le.task, .int .i64 j.le.queue, .int .i64 j.le.node, .slice A j.le.cores.length c, .int .i64 j.le.mem, .int .i64 j.le.since, .int .i64 j.le.til, .bool j.le.stop, .int .i64 j.work, .int .i64 j.had, .int .i64 j.frm, .slice Au j.th.length cu]] rfl (by (try simp only [List.map_toArray, List.map_cons, List.map_nil]); first | done | rfl) ?_; (with_reducible refine (hF.out _).mono ?_); rintro e w4 ⟨rfl, b4⟩; refine ⟨_, rfl, ?_⟩; have ho4' := Lib.hid (own_below ho2.out b4); have hc4 := hc2.out.below b4 hc2.out.lt; have ha4' := Lib.hid (ha2.out.below b4 ha2.out.lt); have e0 := hc4.cell 0; have e1 := hc4.cell 1; have e2 := hc4.cell 2; have e3 := hc4.cell 3; have e4 := hc4.cell 4; have e5 := hc4.cell 5; have e6 := hc4.cell 6; have e7 := hc4.cell 7; have e8 := hc4.cell 8; have e9 := hc4.cell 9; have e10 := hc4.cell 10; have e11 := hc4.cell 11; simp only [List.getElem?_toArray, List.getElem?_cons_zero, List.getElem?_cons_succ] at e0 e1 e2 e3 e4 e5 e6 e7 e8 e9 e10 e11; have hc4' := Lib.hid hc4; have b4' := Lib.hid (hb2.out.trans (below_le b4 hb2.out.size)); clear b4 hc4))
        obtain ⟨H, hH⟩ : ∃ H, wr.heap.size = H := ⟨_, rfl⟩
        rw [hH] at hc4' e0 e3 ⊢
        go_wp2
        clear x0 x1 x2 x3 x4 x5 x6 x7 x8 x9 x10 x11 y0 y1 y2 y3 y4 y5 y6 y7 y8 y9 y10 y11 e0 e1 e2 e3 e4 e5 e6 e7 e8 e9 e10 e11 q0 q1 q2 q3 q4 q5 q6 q7 q8 q9 q10 q11
        go_loopw [3, 22] (fun zv kv wq => ∃ (k : Nat) (A5 : Option Addr) (c5 : Nat), zv = .slice A5 (R ++ (runsJ j).take k).length c5 ∧ kv = .int .i64 (k : Int) ∧ k ≤ j.le.cores.length ∧ wq.ownsRow W.heap.size tRun 2 (.slice A5 (R ++ (runsJ j).take k).length c5) (R ++ (runsJ j).take k).length (flatR (R ++ (runsJ j).take k)) ∧ Blk wq H tDJ #[.int .i64 j.le.task, .int .i64 j.le.queue, .int .i64 j.le.node, .slice A j.le.cores.length c, .int .i64 j.le.mem, .int .i64 j.le.since, .int .i64 j.le.til, .bool j.le.stop, .int .i64 j.work, .int .i64 j.had, .int .i64 j.frm, .slice Au j.th.length cu] ∧ Blk wq W.heap.size tDA #[.int .i64 S.nid, .int .i64 S.nco, .int .i64 S.nme, .int .i64 S.nin, .int .i64 S.nbe, .int .i64 S.short, .int .i64 S.clock, .bool S.runs, .int .i64 S.inc, .slice As S.sent.length cs, .int .i64 S.replied, .slice (some ⟨g, 0, none⟩) l.length cj] ∧ Below W.heap.size W wq)
          (fun _ kv _ => j.le.cores.length - (intOf kv).toNat)
        case atStart => exact ⟨0, A3, c3, by simp, rfl, Nat.zero_le _, by simpa using ho4'.out, hc4'.out, ha4'.out, b4'.out⟩
        case round =>
          obtain ⟨k, A5, c5, rfl, rfl, hk, hown5, hcq, haq, hbq⟩ := hrel
          have hlenk : ((runsJ j).take k).length = k := by rw [List.length_take]; unfold runsJ; rw [List.length_map]; omega
          have hXl : (R ++ (runsJ j).take k).length ≤ 10000 := by rw [List.length_append]; omega
          by_cases hlk : k < j.le.cores.length
          · obtain ⟨co, hco⟩ : ∃ co, j.le.cores[k]? = some co := ⟨j.le.cores[k], List.getElem?_eq_getElem hlk⟩
            obtain ⟨ad, rfl, _, p0⟩ := (hrW.out.below hbq) k co hco
            have e0 := hcq.cell 0
            have hcq' := Lib.hid hcq
            have haq' := Lib.hid haq
            simp only [List.getElem?_toArray, List.getElem?_cons_zero, List.getElem?_cons_succ] at e0
            have hstk := Lib.hid (show R ++ (runsJ j).take (k + 1) = (R ++ (runsJ j).take k) ++ [(j.le.task, co)] by rw [List.take_add_one, show (runsJ j)[k]? = some (j.le.task, co) by unfold runsJ; rw [List.getElem?_map, hco]; rfl, List.append_assoc]; rfl)
            obtain ⟨X, hX⟩ : ∃ X, R ++ (runsJ j).take k = X := ⟨_, rfl⟩
            rw [hX] at hown5 hstk hXl ⊢
            have hown5' := Lib.hid hown5
            have hbq' := Lib.hid hbq
            have hszq := hbq.size
            clear hown5 hbq hco hX hlenk hcq haq
            go_wp2_with (at_builtin; go_loud (refine wpList_append_own _ rfl _ _ 66 rfl W.heap.size tRun i0 _ 2 16 Try.underlying66 hif hz0 hz1 hz2 rfl (by decide) _ _ _ rfl (hown5'.out.alloc _) ⟨wr.heap.size, 0, none⟩ 1 1 [.int .i64 j.le.task, .int .i64 co] rfl rfl (World.news_of_block (cs := #[.int .i64 j.le.task, .int .i64 co]) (t := tRun) (fr := (0, 0)) (heap_alloc_new _ _)) (by simp [Value.oneCell']) (by unfold maxLen; omega) (by omega) (by simp; omega) ?_))
            intro v8 w8 hown8 hgr8 _
            obtain ⟨A8, c8, rfl⟩ := own_slice hown8
            have hb8' := Lib.hid (below_grown (hbq'.out.alloc hbq'.out.size _) hgr8 (Nat.le_refl _) (fun k hk => (own_block hown5'.out hk).1))
            have hc8' := Lib.hid ((hcq'.out.alloc (.cells #[.int .i64 j.le.task, .int .i64 co] tRun)).kept hgr8 (fun e => by obtain ⟨_, _, cur, hc⟩ := own_block hown5'.out e.symm; exact two_types hc hcq'.out (by decide) rfl))
            have ha8' := Lib.hid ((haq'.out.alloc (.cells #[.int .i64 j.le.task, .int .i64 co] tRun)).kept hgr8 (fun e => by obtain ⟨_, _, cur, hc⟩ := own_block hown5'.out e.symm; exact two_types hc haq'.out (by decide) rfl))
            have hown8' := Lib.hid hown8
            clear hown8 hgr8
            go_wp2
            go_roundw
            case rel => exact ⟨k + 1, A8, c8, by rw [hstk.out, List.length_append]; rfl, by go_num, by omega, by rw [hstk.out, List.length_append, flatR_app]; exact hown8'.out, hc8'.out, ha8'.out, hb8'.out⟩
            case measure => simp [intOf]; omega
          · have hk' : k = j.le.cores.length := by omega
            subst hk'
            rw [show (runsJ j).take j.le.cores.length = runsJ j by rw [List.take_of_length_le (by unfold runsJ; rw [List.length_map]; exact Nat.le_refl _)], ← hst.out] at hown5 ⊢
            have hown5' := Lib.hid hown5
            have hbq' := Lib.hid hbq
            have haq' := Lib.hid haq
            clear hown5 hbq hXl hlenk hcq haq
            go_wp2
            go_roundw
            case rel => exact ⟨i + 1, A5, c5, rfl, by go_num, by omega, hown5'.out, haq'.out, hbq'.out⟩
            case measure => simp [intOf]; omega
      | false =>
        rw [if_neg (by simp), List.append_nil] at hst
        go_wp2_with (((with_reducible refine gate_callee (f := 92) rfl ?_); refine goesL_ (some 17) rfl rfl Try.func92 (by kernel_rfl) rfl #[.agg #[.int .i64 S.nid, .int .i64 S.nco, .int .i64 S.nme, .int .i64 S.nin, .int .i64 S.nbe, .int .i64 S.short, .int .i64 S.clock, .bool S.runs, .int .i64 S.inc, .slice As S.sent.length cs, .int .i64 S.replied, .slice (some ⟨g, 0, none⟩) l.length cj], .agg #[.int .i64 j.le.task, .int .i64 j.le.queue, .int .i64 j.le.node, .slice A j.le.cores.length c, .int .i64 j.le.mem, .int .i64 j.le.since, .int .i64 j.le.til, .bool j.le.stop, .int .i64 j.work, .int .i64 j.had, .int .i64 j.frm, .slice Au j.th.length cu]] rfl (by (try simp only [List.map_toArray, List.map_cons, List.map_nil]); first | done | rfl) ?_; (with_reducible refine (hF.out _).mono ?_); rintro e w4 ⟨rfl, b4⟩; refine ⟨_, rfl, ?_⟩; have ho4' := Lib.hid (own_below ho2.out b4); have hc4 := hc2.out.below b4 hc2.out.lt; have ha4' := Lib.hid (ha2.out.below b4 ha2.out.lt); have e0 := hc4.cell 0; have e1 := hc4.cell 1; have e2 := hc4.cell 2; have e3 := hc4.cell 3; have e4 := hc4.cell 4; have e5 := hc4.cell 5; have e6 := hc4.cell 6; have e7 := hc4.cell 7; have e8 := hc4.cell 8; have e9 := hc4.cell 9; have e10 := hc4.cell 10; have e11 := hc4.cell 11; simp only [List.getElem?_toArray, List.getElem?_cons_zero, List.getElem?_cons_succ] at e0 e1 e2 e3 e4 e5 e6 e7 e8 e9 e10 e11; have hc4' := Lib.hid hc4; have b4' := Lib.hid (hb2.out.trans (below_le b4 hb2.out.size)); clear b4 hc4))
        go_roundw
        case rel => exact ⟨i + 1, A3, c3, by rw [hst.out], by go_num, by omega, by rw [hst.out]; exact ho4'.out, ha4'.out, b4'.out⟩
        case measure => simp [intOf]; omega
    · have hi' : i = l.length := by omega
      subst hi'
      have hall := rD_all S l.length hlj.out
      rw [hall] at hown ⊢
      have hown' := Lib.hid hown
      have hbel' := Lib.hid hbel
      clear hown hbel hab hall
      go_wp2
      go_ret
      exact ⟨A3, c3, rfl, hown'.out, hbel'.out⟩
end Go.Proofs.Ytkcmmghhghgdpaa.Agt
end
