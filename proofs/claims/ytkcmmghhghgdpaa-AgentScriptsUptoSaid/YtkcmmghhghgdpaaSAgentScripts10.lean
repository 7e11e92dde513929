/- What the law AgentScripts needs of the seat's contracts and plain laws, several texts one behind the other; no conditions. -/
import Derived.Test.YtkcmmghhghgdpaaSAgentScripts9
import Derived.Maps.Own
import Derived.WalkSpells
import Derived.Lib.QuietBelow
import Derived.BigQuiet
import Derived.Lib.SliceRun
import Derived.RangeFuncFrom
import Derived.RangeFuncLeaves
import Derived.WalkMore
import Derived.RangeFuncBox
import Derived.RangeFuncWrites
import Derived.Maps.AppendAt
import Derived.LoopIn
import Derived.Deep.AppendLies
section
namespace Go.Proofs.Ytkcmmghhghgdpaa.Agt
open Go.RowKit Go.Shelf Go.Maps Go.Proofs.Ytkcmmghhghgdpaa.Iter Go.Proofs.Ytkcmmghhghgdpaa.SeqM Go.Proofs.Ytkcmmghhghgdpaa.Str Go.Proofs.YtkcmmghhghgdpaaW.PrintWords Go.Proofs.YtkcmmghhghgdpaaW.PrintLast
set_option linter.unusedVariables false
set_option linter.unusedSimpArgs false
abbrev tM : Nat := 122
def wfI (z : Int) : Prop := (Lit.int .i64 z).wf = true
/-- Numbers that are read, outside of what a call may change. -/
def ReadsF (F : Nat → Prop) (W : World) (A : Option Addr) (xs : List Int) : Prop := ReadsI W A xs ∧ ∀ ad, A = some ad → 0 < xs.length → ¬ F ad.block
theorem ReadsF.below {F : Nat → Prop} {W W' : World} {A : Option Addr} {xs : List Int} (h : ReadsF F W A xs) (hb : Below W.heap.size W W') : ReadsF F W' A xs := ⟨h.1.below hb, h.2⟩
theorem ReadsF.frF {F : Nat → Prop} {W W' : World} {A : Option Addr} {xs : List Int} (h : ReadsF F W A xs) (hf : FrF F W W') : ReadsF F W' A xs := ⟨fun j x hx => by
  obtain ⟨ad, hA, h1, h2⟩ := h.1 j x hx
  have hn := h.2 ad hA (by have := (List.getElem?_eq_some_iff.1 hx).1; omega)
  exact ⟨ad, hA, Nat.lt_of_lt_of_le h1 hf.size, (World.cell?_of_block (by rw [add_block]; exact hf.block _ h1 hn)).trans h2⟩, h.2⟩
theorem ReadsF.mono {F F' : Nat → Prop} {W : World} {A : Option Addr} {xs : List Int} (h : ReadsF F W A xs) (hF : ∀ k, F' k → F k) : ReadsF F' W A xs := ⟨h.1, fun ad hA hl hf => h.2 ad hA hl (hF _ hf)⟩
/-- A map that holds tasks. -/
def MapL (F : Nat → Prop) (W : World) : List MapEntry → List Ts → Prop
  | [], [] => True
  | e :: es, t :: ts => (e.key = .int .i64 t.id ∧ wfI t.id ∧ ∃ A c, e.val = taskV t A c ∧ ReadsF F W A t.tk ∧ t.tk.length ≤ c) ∧ MapL F W es ts
  | _, _ => False
def MapM (F : Nat → Prop) (W : World) (b : Nat) (ts : List Ts) : Prop := ∃ es clock, W.heap[b]? = some (.map es clock) ∧ MapL F W es.toList ts
theorem MapL.below {F : Nat → Prop} {W W' : World} (hb : Below W.heap.size W W') : ∀ {es : List MapEntry} {ts : List Ts}, MapL F W es ts → MapL F W' es ts
  | [], [], _ => trivial
  | e :: es, t :: ts, ⟨⟨h1, hw, A, c, h2, h3, h4⟩, h5⟩ => ⟨⟨h1, hw, A, c, h2, h3.below hb, h4⟩, MapL.below hb h5⟩
theorem readsI_obj {W W' : World} {b : Nat} {o : Obj} {A : Option Addr} {xs : List Int} (h : ReadsI W A xs) (hg : W.grownBy W' (some b)) (ho : W.heap[b]? = some o) (hc : o.isCells = false) : ReadsI W' A xs := fun j x hx => by
  obtain ⟨ad, rfl, h1, h2⟩ := h j x hx
  have hne : ad.block ≠ b := fun e => by
    unfold World.cell? at h2
    rw [show (ad.add j).block = b by rw [add_block]; exact e, ho] at h2
    cases o <;> simp [Obj.isCells] at hc h2
  exact ⟨ad, rfl, Nat.lt_of_lt_of_le h1 hg.size, (World.cell?_of_block (by rw [add_block]; exact hg.block _ h1 (fun e => hne (Option.some.inj e)))).trans h2⟩
theorem MapL.grown {F : Nat → Prop} {W W' : World} {b : Nat} {o : Obj} (hg : W.grownBy W' (some b)) (ho : W.heap[b]? = some o) (hc : o.isCells = false) : ∀ {es : List MapEntry} {ts : List Ts}, MapL F W es ts → MapL F W' es ts
  | [], [], _ => trivial
  | e :: es, t :: ts, ⟨⟨h1, hw, A, c, h2, h3, h4⟩, h5⟩ => ⟨⟨h1, hw, A, c, h2, ⟨readsI_obj h3.1 hg ho hc, h3.2⟩, h4⟩, MapL.grown hg ho hc h5⟩
theorem MapL.push {F : Nat → Prop} {W : World} {e : MapEntry} {t : Ts} (he : e.key = .int .i64 t.id ∧ wfI t.id ∧ ∃ A c, e.val = taskV t A c ∧ ReadsF F W A t.tk ∧ t.tk.length ≤ c) : ∀ {es : List MapEntry} {ts : List Ts}, MapL F W es ts → MapL F W (es ++ [e]) (ts ++ [t])
  | [], [], _ => ⟨he, trivial⟩
  | _ :: es, _ :: ts, ⟨h, h5⟩ => ⟨h, MapL.push he h5⟩
theorem MapL.keys {F : Nat → Prop} {W : World} : ∀ {es : List MapEntry} {ts : List Ts}, MapL F W es ts → ∀ e ∈ es, ∃ t ∈ ts, e.key = .int .i64 t.id ∧ wfI t.id
  | [], [], _, e, he => by cases he
  | x :: es, t :: ts, ⟨⟨h1, hw, _⟩, h5⟩, e, he => by
    rcases List.mem_cons.1 he with rfl | he
    · exact ⟨t, List.mem_cons_self, h1, hw⟩
    · obtain ⟨u, hu, h⟩ := MapL.keys h5 e he
      exact ⟨u, List.mem_cons_of_mem _ hu, h⟩
/-- Where a key stands. -/
theorem MapL.get {F : Nat → Prop} {W : World} : ∀ {es : List MapEntry} {ts : List Ts}, MapL F W es ts → ∀ (j : Nat) (e : MapEntry), es[j]? = some e → ∃ t, ts[j]? = some t ∧ e.key = .int .i64 t.id ∧ ∃ A c, e.val = taskV t A c ∧ ReadsF F W A t.tk ∧ t.tk.length ≤ c
  | [], [], _, j, e, h => by simp at h
  | x :: es, t :: ts, ⟨⟨h1, hw, h2⟩, h5⟩, 0, e, h => by
    simp at h
    subst h
    exact ⟨t, rfl, h1, h2⟩
  | x :: es, t :: ts, ⟨_, h5⟩, j + 1, e, h => by
    obtain ⟨u, hu, h⟩ := MapL.get h5 j e (by simpa using h)
    exact ⟨u, by simpa using hu, h⟩
theorem MapM.below {F : Nat → Prop} {W W' : World} {b : Nat} {ts : List Ts} (h : MapM F W b ts) (hb : Below W.heap.size W W') : MapM F W' b ts := by
  obtain ⟨es, clock, h1, h2⟩ := h
  exact ⟨es, clock, (hb.block b (Array.getElem?_eq_some_iff.1 h1).1).trans h1, h2.below hb⟩
theorem MapM.lt {F : Nat → Prop} {W : World} {b : Nat} {ts : List Ts} (h : MapM F W b ts) : b < W.heap.size := by
  obtain ⟨es, clock, h1, _⟩ := h
  exact (Array.getElem?_eq_some_iff.1 h1).1
theorem key_of {z : Int} (h : wfI z) : keyOf Try.prog 3 (.int .i64 z) = some (.int .i64 z) := keyOf_int_mk Try.underlying3 h
theorem map_put {F : Nat → Prop} {W : World} {b : Nat} {ts : List Ts} {t : Ts} {A : Option Addr} {c : Nat} (h : MapM F W b ts) (hw : wfI t.id) (hnew : ∀ u ∈ ts, u.id ≠ t.id) (hr : ReadsF F W A t.tk) (hc : t.tk.length ≤ c) :
    ∃ w', (Instr.mapUpdate tM (.map (some b)) (.int .i64 t.id) (taskV t A c)).run Try.prog W = .ok () w' ∧ MapM F w' b (ts ++ [t]) ∧ W.grownBy w' (some b) := by
  obtain ⟨es, clock, h1, h2⟩ := h
  have K : Keyed Try.prog 3 := int_keyed Try.underlying3
  have hkey := key_of hw
  have hks : ∀ e ∈ es.toList, ∃ l, keyOf Try.prog 3 e.key = some l := fun e he => by
    obtain ⟨u, _, hk, hu⟩ := h2.keys e he
    exact ⟨_, by rw [hk]; exact key_of hu⟩
  have hg : W.grownBy { W with heap := W.heap.setIfInBounds b (.map (es.push ⟨.int .i64 t.id, taskV t A c, clock⟩) (clock + 1)) } (some b) := ⟨rfl, rfl, rfl, by simp, fun k hk hne => by
    show (W.heap.setIfInBounds b _)[k]? = _
    rw [Array.getElem?_setIfInBounds, if_neg (fun e => hne (by rw [e]))]⟩
  rcases K.find W hkey es.toList hks with ⟨f1, f2⟩ | ⟨j, e, _, f2, f3⟩
  · refine ⟨_, by simp [Instr.mapUpdate, run_underlying Try.underlying122, MapKept.run_getObj_map h1, K.check W false hkey, f1, MapKept.run_setObj_map _ h1, Result.andThen], ?_, hg⟩
    refine ⟨_, _, by simp [(Array.getElem?_eq_some_iff.1 h1).1]; exact ⟨rfl, rfl⟩, ?_⟩
    rw [Array.toList_push]
    exact MapL.push ⟨rfl, hw, A, c, rfl, ⟨readsI_obj hr.1 hg h1 rfl, hr.2⟩, hc⟩ (h2.grown hg h1 rfl)
  · obtain ⟨u, hu, hk, _⟩ := h2.get j e f2
    rw [f3] at hk
    injection hk with _ hk
    exact absurd hk.symm (hnew u (List.mem_of_getElem? hu))
theorem MapL.mem {F : Nat → Prop} {W : World} : ∀ {es : List MapEntry} {ts : List Ts}, MapL F W es ts → ∀ t ∈ ts, ∃ e ∈ es, e.key = .int .i64 t.id
  | [], [], _, t, ht => by cases ht
  | x :: es, u :: ts, ⟨⟨h1, _⟩, h5⟩, t, ht => by
    rcases List.mem_cons.1 ht with rfl | ht
    · exact ⟨x, List.mem_cons_self, h1⟩
    · obtain ⟨e, he, h⟩ := MapL.mem h5 t ht
      exact ⟨e, List.mem_cons_of_mem _ he, h⟩
theorem findT_at : ∀ {ts : List Ts} {k : Int} {j : Nat} {t : Ts}, (ts.Pairwise fun x y => x.id < y.id) → ts[j]? = some t → t.id = k → findT ts k = some t
  | x :: ts, k, 0, t, _, h, hk => by
    simp at h
    subst h
    unfold findT
    rw [List.find?_cons, show (x.id == k) = true from beq_iff_eq.mpr hk]
  | x :: ts, k, j + 1, t, hd, h, hk => by
    have h' : ts[j]? = some t := by simpa using h
    have hlt := (List.pairwise_cons.1 hd).1 t (List.mem_of_getElem? h')
    unfold findT
    rw [List.find?_cons, show (x.id == k) = false from beq_eq_false_iff_ne.mpr (by omega)]
    exact findT_at (List.pairwise_cons.1 hd).2 h' hk
theorem findT_none {ts : List Ts} {k : Int} (h : ∀ t ∈ ts, t.id ≠ k) : findT ts k = none := by
  unfold findT
  rw [List.find?_eq_none]
  intro t ht
  simpa using h t ht
/-- A task that is there, and one that is none. -/
theorem map_look {F : Nat → Prop} {W : World} {b : Nat} {ts : List Ts} {k : Int} (h : MapM F W b ts) (hw : wfI k) (hd : ts.Pairwise fun x y => x.id < y.id) :
    (∃ t A c, findT ts k = some t ∧ (Instr.lookup tM (.map (some b)) (.int .i64 k) true).run Try.prog W = .ok (.tuple #[taskV t A c, .bool true]) W ∧ (Instr.lookup tM (.map (some b)) (.int .i64 k) false).run Try.prog W = .ok (taskV t A c) W ∧ ReadsF F W A t.tk ∧ t.tk.length ≤ c) ∨
    (findT ts k = none ∧ (Instr.lookup tM (.map (some b)) (.int .i64 k) true).run Try.prog W = .ok (.tuple #[taskV noTask none 0, .bool false]) W) := by
  obtain ⟨es, clock, h1, h2⟩ := h
  have K : Keyed Try.prog 3 := int_keyed Try.underlying3
  have hkey := key_of hw
  have hks : ∀ e ∈ es.toList, ∃ l, keyOf Try.prog 3 e.key = some l := fun e he => by
    obtain ⟨u, _, hk, hu⟩ := h2.keys e he
    exact ⟨_, by rw [hk]; exact key_of hu⟩
  rcases K.find W hkey es.toList hks with ⟨f1, f2⟩ | ⟨j, e, f1, f2, f3⟩
  · right
    refine ⟨findT_none fun t ht hk => ?_, ?_⟩
    · obtain ⟨e, he, hek⟩ := h2.mem t ht
      exact f2 e he (by rw [hek, hk])
    · simp [Instr.lookup, run_underlying Try.underlying122, MapKept.run_getObj_map h1, K.check W _ hkey, f1, Try.zeroValue85, Result.andThen]
      exact ⟨rfl, rfl, rfl, rfl, rfl, rfl, rfl⟩
  · left
    obtain ⟨t, ht, hk, A, c, hv, hr, hc⟩ := h2.get j e f2
    rw [f3] at hk
    injection hk with _ hk
    refine ⟨t, A, c, ?_, ?_, ?_, hr, hc⟩
    · exact findT_at hd ht hk.symm
    · simp [Instr.lookup, run_underlying Try.underlying122, MapKept.run_getObj_map h1, K.check W _ hkey, f1, hv, Result.andThen]
    · simp [Instr.lookup, run_underlying Try.underlying122, MapKept.run_getObj_map h1, K.check W _ hkey, f1, hv, Result.andThen]
/-- Tasks, and leases, that are read. -/
def ReadsT (F : Nat → Prop) (W : World) (A : Option Addr) (ts : List Ts) : Prop := ∀ j t, ts[j]? = some t → ∃ ad A' c, A = some ad ∧ ad.block < W.heap.size ∧ W.cell? (ad.add (j * 7)) = some (.int .i64 t.id) ∧
  W.cell? ⟨(ad.add (j * 7)).block, (ad.add (j * 7)).off + 1, none⟩ = some (.int .i64 t.queue) ∧ W.cell? ⟨(ad.add (j * 7)).block, (ad.add (j * 7)).off + 2, none⟩ = some (.int .i64 t.cpu) ∧
  W.cell? ⟨(ad.add (j * 7)).block, (ad.add (j * 7)).off + 3, none⟩ = some (.int .i64 t.mem) ∧ W.cell? ⟨(ad.add (j * 7)).block, (ad.add (j * 7)).off + 4, none⟩ = some (.int .i64 t.work) ∧
  W.cell? ⟨(ad.add (j * 7)).block, (ad.add (j * 7)).off + 5, none⟩ = some (.slice A' t.tk.length c) ∧ W.cell? ⟨(ad.add (j * 7)).block, (ad.add (j * 7)).off + 6, none⟩ = some (.int .i64 t.state) ∧
  ReadsF F W A' t.tk ∧ t.tk.length ≤ c ∧ wfI t.id ∧ t.tk.length ≤ 9223372036854775807 ∧ ¬ F ad.block
theorem ReadsT.below {F : Nat → Prop} {W W' : World} {A : Option Addr} {ts : List Ts} (h : ReadsT F W A ts) (hb : Below W.heap.size W W') : ReadsT F W' A ts := fun j t ht => by
  obtain ⟨ad, A', c, rfl, h1, c0, c1, c2, c3, c4, c5, c6, hr, hc, hw, hl⟩ := h j t ht
  have hl1 : (ad.add (j * 7)).block < W.heap.size := by rw [add_block]; exact h1
  have k : ∀ i v, W.cell? ⟨(ad.add (j * 7)).block, (ad.add (j * 7)).off + i, none⟩ = some v → W'.cell? ⟨(ad.add (j * 7)).block, (ad.add (j * 7)).off + i, none⟩ = some v := fun i v e => (hb.cell (p := ⟨(ad.add (j * 7)).block, _, none⟩) hl1).trans e
  exact ⟨ad, A', c, rfl, Nat.lt_of_lt_of_le h1 hb.size, (hb.cell (p := ad.add (j * 7)) hl1).trans c0, k 1 _ c1, k 2 _ c2, k 3 _ c3, k 4 _ c4, k 5 _ c5, k 6 _ c6, hr.below hb, hc, hw, hl⟩
def ReadsL (F : Nat → Prop) (W : World) (A : Option Addr) (xs : List Ls) : Prop := ∀ j x, xs[j]? = some x → ∃ ad A' c, A = some ad ∧ ad.block < W.heap.size ∧ W.cell? (ad.add (j * 8)) = some (.int .i64 x.task) ∧
  W.cell? ⟨(ad.add (j * 8)).block, (ad.add (j * 8)).off + 1, none⟩ = some (.int .i64 x.queue) ∧ W.cell? ⟨(ad.add (j * 8)).block, (ad.add (j * 8)).off + 2, none⟩ = some (.int .i64 x.node) ∧
  W.cell? ⟨(ad.add (j * 8)).block, (ad.add (j * 8)).off + 3, none⟩ = some (.slice A' x.cores.length c) ∧ W.cell? ⟨(ad.add (j * 8)).block, (ad.add (j * 8)).off + 4, none⟩ = some (.int .i64 x.mem) ∧
  W.cell? ⟨(ad.add (j * 8)).block, (ad.add (j * 8)).off + 5, none⟩ = some (.int .i64 x.since) ∧ W.cell? ⟨(ad.add (j * 8)).block, (ad.add (j * 8)).off + 6, none⟩ = some (.int .i64 x.til) ∧
  W.cell? ⟨(ad.add (j * 8)).block, (ad.add (j * 8)).off + 7, none⟩ = some (.bool x.stop) ∧ ReadsF F W A' x.cores ∧ x.cores.length ≤ c ∧ wfI x.task ∧ x.cores.length ≤ 9223372036854775807 ∧ ¬ F ad.block
theorem ReadsL.below {F : Nat → Prop} {W W' : World} {A : Option Addr} {xs : List Ls} (h : ReadsL F W A xs) (hb : Below W.heap.size W W') : ReadsL F W' A xs := fun j t ht => by
  obtain ⟨ad, A', c, rfl, h1, c0, c1, c2, c3, c4, c5, c6, c7, hr, hc, hw, hl⟩ := h j t ht
  have hl1 : (ad.add (j * 8)).block < W.heap.size := by rw [add_block]; exact h1
  have k : ∀ i v, W.cell? ⟨(ad.add (j * 8)).block, (ad.add (j * 8)).off + i, none⟩ = some v → W'.cell? ⟨(ad.add (j * 8)).block, (ad.add (j * 8)).off + i, none⟩ = some v := fun i v e => (hb.cell (p := ⟨(ad.add (j * 8)).block, _, none⟩) hl1).trans e
  exact ⟨ad, A', c, rfl, Nat.lt_of_lt_of_le h1 hb.size, (hb.cell (p := ad.add (j * 8)) hl1).trans c0, k 1 _ c1, k 2 _ c2, k 3 _ c3, k 4 _ c4, k 5 _ c5, k 6 _ c6, k 7 _ c7, hr.below hb, hc, hw, hl⟩
theorem ReadsT.frF {F : Nat → Prop} {W W' : World} {A : Option Addr} {ts : List Ts} (h : ReadsT F W A ts) (hf : FrF F W W') : ReadsT F W' A ts := fun j t ht => by
  obtain ⟨ad, A', c, rfl, h1, c0, c1, c2, c3, c4, c5, c6, hr, hc, hw, hl, hn⟩ := h j t ht
  have e : W'.heap[(ad.add (j * 7)).block]? = W.heap[(ad.add (j * 7)).block]? := by rw [add_block]; exact hf.block _ h1 hn
  have k : ∀ i v, W.cell? ⟨(ad.add (j * 7)).block, (ad.add (j * 7)).off + i, none⟩ = some v → W'.cell? ⟨(ad.add (j * 7)).block, (ad.add (j * 7)).off + i, none⟩ = some v := fun i v e2 => (World.cell?_of_block (a := ⟨(ad.add (j * 7)).block, _, none⟩) e).trans e2
  exact ⟨ad, A', c, rfl, Nat.lt_of_lt_of_le h1 hf.size, (World.cell?_of_block e).trans c0, k 1 _ c1, k 2 _ c2, k 3 _ c3, k 4 _ c4, k 5 _ c5, k 6 _ c6, hr.frF hf, hc, hw, hl, hn⟩
theorem ReadsL.frF {F : Nat → Prop} {W W' : World} {A : Option Addr} {xs : List Ls} (h : ReadsL F W A xs) (hf : FrF F W W') : ReadsL F W' A xs := fun j t ht => by
  obtain ⟨ad, A', c, rfl, h1, c0, c1, c2, c3, c4, c5, c6, c7, hr, hc, hw, hl, hn⟩ := h j t ht
  have e : W'.heap[(ad.add (j * 8)).block]? = W.heap[(ad.add (j * 8)).block]? := by rw [add_block]; exact hf.block _ h1 hn
  have k : ∀ i v, W.cell? ⟨(ad.add (j * 8)).block, (ad.add (j * 8)).off + i, none⟩ = some v → W'.cell? ⟨(ad.add (j * 8)).block, (ad.add (j * 8)).off + i, none⟩ = some v := fun i v e2 => (World.cell?_of_block (a := ⟨(ad.add (j * 8)).block, _, none⟩) e).trans e2
  exact ⟨ad, A', c, rfl, Nat.lt_of_lt_of_le h1 hf.size, (World.cell?_of_block e).trans c0, k 1 _ c1, k 2 _ c2, k 3 _ c3, k 4 _ c4, k 5 _ c5, k 6 _ c6, k 7 _ c7, hr.frF hf, hc, hw, hl, hn⟩
theorem MapL.frF {F : Nat → Prop} {W W' : World} (hf : FrF F W W') : ∀ {es : List MapEntry} {ts : List Ts}, MapL F W es ts → MapL F W' es ts
  | [], [], _ => trivial
  | e :: es, t :: ts, ⟨⟨h1, hw, A, c, h2, h3, h4⟩, h5⟩ => ⟨⟨h1, hw, A, c, h2, h3.frF hf, h4⟩, MapL.frF hf h5⟩
theorem MapM.frF {F : Nat → Prop} {W W' : World} {b : Nat} {ts : List Ts} (h : MapM F W b ts) (hf : FrF F W W') (hb : ¬ F b) : MapM F W' b ts := by
  obtain ⟨es, clock, h1, h2⟩ := h
  exact ⟨es, clock, (hf.block b (Array.getElem?_eq_some_iff.1 h1).1 hb).trans h1, h2.frF hf⟩
end Go.Proofs.Ytkcmmghhghgdpaa.Agt
end
section
namespace Go.Proofs.Ytkcmmghhghgdpaa.Agt
open Go.RowKit Go.Shelf Go.Maps Go.Proofs.Ytkcmmghhghgdpaa.Iter Go.Proofs.Ytkcmmghhghgdpaa.SeqM Go.Proofs.Ytkcmmghhghgdpaa.Str Go.Proofs.YtkcmmghhghgdpaaW.PrintWords Go.Proofs.YtkcmmghhghgdpaaW.PrintLast
set_option linter.unusedVariables false
set_option linter.unusedSimpArgs false
set_option maxRecDepth 100000 in
set_option maxHeartbeats 8000000 in
theorem known_calls {F : Nat → Prop} (A : Option Addr) (c0 : Nat) (ts : List Ts) (W : World) (hlen : ts.length ≤ 9223372036854775807) (hr : ReadsT F W A ts) :
    Calls Try.prog 55 #[.slice A ts.length c0] W fun e W' => ((risesT ts = true ∧ ∃ b, e = .returned (.map (some b)) ∧ MapM F W' b ts ∧ W.heap.size ≤ b) ∨ (risesT ts = false ∧ e = .returned (.map none))) ∧ Below W.heap.size W W' := by
  have hr' := Lib.hid hr
  clear hr
  have hmk : (Instr.makeMap 122 none).run Try.prog W = .ok (.map (some W.heap.size)) (W.alloc (.map #[] 0)) := rfl
  go_enter Try.func55, Try.ntmps55
  go_wp2
  go_loopw [9] (fun iv wr => ∃ (i : Nat), iv = .int .i64 (i : Int) ∧ i ≤ ts.length ∧ MapM F wr W.heap.size (ts.take i) ∧ (ts.take i).Pairwise (fun x y => x.id < y.id) ∧ Below W.heap.size W wr)
    (fun iv _ => ts.length - (intOf iv).toNat)
  case atStart => exact ⟨0, rfl, Nat.zero_le _, ⟨#[], 0, World.alloc_heap_new W _, trivial⟩, List.Pairwise.nil, (Below.refl _ _).alloc (Nat.le_refl _) _⟩
  case round =>
    obtain ⟨i, rfl, hi, hm, hp, hbel⟩ := hrel
    have hm' := Lib.hid hm
    have hp' := Lib.hid hp
    have hbel' := Lib.hid hbel
    by_cases hlt : i < ts.length
    · obtain ⟨t, ht⟩ : ∃ t, ts[i]? = some t := ⟨ts[i], List.getElem?_eq_getElem hlt⟩
      have hr3 := hr'.out.below (hbel.alloc hbel.size (.cells (taskC t none 0) tT))
      obtain ⟨ad, A', c, rfl, _, q0, q1, q2, q3, q4, q5, q6, hri, hci, hwi, _⟩ := (hr'.out.below hbel) i t ht
      have bC := Blk.new wr tT (taskC t A' c)
      have d0 := bC.cell 0
      have d1 := bC.cell 1
      have d2 := bC.cell 2
      have d3 := bC.cell 3
      have d4 := bC.cell 4
      have d5 := bC.cell 5
      have d6 := bC.cell 6
      simp only [List.getElem?_toArray, List.getElem?_cons_zero, List.getElem?_cons_succ] at d0 d1 d2 d3 d4 d5 d6
      have hbA := Lib.hid ((Below.refl wr.heap.size wr).alloc (Nat.le_refl _) (.cells (taskC t A' c) tT))
      have hb2 := Lib.hid (hbel.alloc hbel.size (.cells (taskC t A' c) tT))
      have ht' := Lib.hid ht
      clear hr3
      by_cases h0 : 0 < i
      · obtain ⟨u, hu⟩ : ∃ u, ts[i - 1]? = some u := ⟨ts[i - 1], List.getElem?_eq_getElem (by omega)⟩
        obtain ⟨ad2, A2, c2, hA2, _, p0, p1, p2, p3, p4, p5, p6, _⟩ := (hr'.out.below hb2.out) (i - 1) u hu
        injection hA2 with hA2
        subst hA2
        have hx0 : (0 : Int) < (i : Int) := by omega
        have hw : IntKind.i64.wrap ((i : Int) - 1) = ((i - 1 : Nat) : Int) := by rw [show ((i - 1 : Nat) : Int) = (i : Int) - 1 by omega]; exact IntWalk.i64_in _ (by omega)
        have hx1 : ((i - 1 : Nat) : Int) < (ts.length : Int) := by omega
        by_cases hle : t.id ≤ u.id
        · have hno := Lib.hid (rises_not ht hu h0 hle)
          have x1 : decide (t.id ≤ u.id) = true := decide_eq_true hle
          clear hm hp hbel ht hu bC hle
          go_wp2
          go_quiet (fail)
          go_wp2
          go_ret
          exact ⟨.inr ⟨hno.out, rfl⟩, by first | exact hb2.out | exact hb2.out.drew | exact pw_below_drewN hb2.out _⟩
        · have hall := Lib.hid (rises_snoc hp hu h0 (by omega : u.id < t.id))
          have x1 : decide (t.id ≤ u.id) = false := decide_eq_false hle
          clear hm hp hbel ht hu bC hle
          go_wp2
          go_quiet (fail)
          obtain ⟨w1, hw1⟩ : ∃ w1, (wr.alloc (.cells (taskC t A' c) tT)).drewN nq = w1 := ⟨_, rfl⟩
          have hb3 := pw_below_drewN hb2.out nq
          have hd3 := pw_below_drewN hbA.out nq
          have e0 : w1.cell? ⟨wr.heap.size, 0, none⟩ = some (.int .i64 t.id) := by rw [← hw1]; exact d0
          have e1 : w1.cell? ⟨wr.heap.size, 1, none⟩ = some (.int .i64 t.queue) := by rw [← hw1]; exact d1
          have e2 : w1.cell? ⟨wr.heap.size, 2, none⟩ = some (.int .i64 t.cpu) := by rw [← hw1]; exact d2
          have e3 : w1.cell? ⟨wr.heap.size, 3, none⟩ = some (.int .i64 t.mem) := by rw [← hw1]; exact d3
          have e4 : w1.cell? ⟨wr.heap.size, 4, none⟩ = some (.int .i64 t.work) := by rw [← hw1]; exact d4
          have e5 : w1.cell? ⟨wr.heap.size, 5, none⟩ = some (.slice A' t.tk.length c) := by rw [← hw1]; exact d5
          have e6 : w1.cell? ⟨wr.heap.size, 6, none⟩ = some (.int .i64 t.state) := by rw [← hw1]; exact d6
          rw [hw1] at hb3 hd3 ⊢
          obtain ⟨w2, hput, hm2, hg2⟩ := map_put (hm'.out.below hd3) hwi (fun x hx e => by have := hall.out x hx; omega) (hri.below hd3) hci
          have hb4 := Lib.hid (below_grown hb3 hg2 (Nat.le_refl _) (fun k hk => by injection hk with hk; omega))
          have hm4 := Lib.hid hm2
          have hp4 := Lib.hid (take_pair ht'.out hp'.out hall.out)
          have htk := Lib.hid (show ts.take (i + 1) = ts.take i ++ [t] by rw [List.take_add_one, ht'.out]; rfl)
          clear hw1 hb3 hd3 hm2 hg2 d0 d1 d2 d3 d4 d5 d6
          go_wp2
          go_roundw
          case rel => exact ⟨i + 1, by go_num, by omega, by rw [htk.out]; exact hm4.out, hp4.out, hb4.out⟩
          case measure => simp [intOf]; omega
      · have hall := Lib.hid (show ∀ x ∈ ts.take i, x.id < t.id from fun x hx => by rw [show i = 0 by omega] at hx; simp at hx)
        have hx0 : decide ((0 : Int) < (i : Int)) = false := decide_eq_false (by omega)
        have hx2 : decide (0 < i) = false := decide_eq_false h0
        have hx3 : decide ((i : Int) > 0) = false := decide_eq_false (by omega)
        clear hm hp hbel ht bC
        go_wp2
        go_quiet (fail)
        obtain ⟨w1, hw1⟩ : ∃ w1, (wr.alloc (.cells (taskC t A' c) tT)).drewN nq = w1 := ⟨_, rfl⟩
        have hb3 := pw_below_drewN hb2.out nq
        have hd3 := pw_below_drewN hbA.out nq
        have e0 : w1.cell? ⟨wr.heap.size, 0, none⟩ = some (.int .i64 t.id) := by rw [← hw1]; exact d0
        have e1 : w1.cell? ⟨wr.heap.size, 1, none⟩ = some (.int .i64 t.queue) := by rw [← hw1]; exact d1
        have e2 : w1.cell? ⟨wr.heap.size, 2, none⟩ = some (.int .i64 t.cpu) := by rw [← hw1]; exact d2
        have e3 : w1.cell? ⟨wr.heap.size, 3, none⟩ = some (.int .i64 t.mem) := by rw [← hw1]; exact d3
        have e4 : w1.cell? ⟨wr.heap.size, 4, none⟩ = some (.int .i64 t.work) := by rw [← hw1]; exact d4
        have e5 : w1.cell? ⟨wr.heap.size, 5, none⟩ = some (.slice A' t.tk.length c) := by rw [← hw1]; exact d5
        have e6 : w1.cell? ⟨wr.heap.size, 6, none⟩ = some (.int .i64 t.state) := by rw [← hw1]; exact d6
        rw [hw1] at hb3 hd3 ⊢
        obtain ⟨w2, hput, hm2, hg2⟩ := map_put (hm'.out.below hd3) hwi (fun x hx e => by have := hall.out x hx; omega) (hri.below hd3) hci
        have hb4 := Lib.hid (below_grown hb3 hg2 (Nat.le_refl _) (fun k hk => by injection hk with hk; omega))
        have hm4 := Lib.hid hm2
        have hp4 := Lib.hid (take_pair ht'.out hp'.out hall.out)
        have htk := Lib.hid (show ts.take (i + 1) = ts.take i ++ [t] by rw [List.take_add_one, ht'.out]; rfl)
        clear hw1 hb3 hd3 hm2 hg2 d0 d1 d2 d3 d4 d5 d6
        go_wp2
        go_roundw
        case rel => exact ⟨i + 1, by go_num, by omega, by rw [htk.out]; exact hm4.out, hp4.out, hb4.out⟩
        case measure => simp [intOf]; omega
    · have hi' : i = ts.length := by omega
      subst hi'
      rw [List.take_of_length_le (Nat.le_refl _)] at hm hp
      have hm2 := Lib.hid hm
      have hri := Lib.hid ((rises_iff ts).2 hp)
      clear hm hp hbel
      go_wp2
      go_ret
      exact ⟨.inl ⟨hri.out, _, rfl, hm2.out, Nat.le_refl _⟩, hbel'.out⟩
end Go.Proofs.Ytkcmmghhghgdpaa.Agt
end
section
namespace Go.Proofs.Ytkcmmghhghgdpaa.Agt
open Go.RowKit Go.Shelf Go.Maps Go.Proofs.Ytkcmmghhghgdpaa.Iter Go.Proofs.Ytkcmmghhghgdpaa.SeqM Go.Proofs.Ytkcmmghhghgdpaa.Str Go.Proofs.YtkcmmghhghgdpaaW.PrintWords Go.Proofs.YtkcmmghhghgdpaaW.PrintLast
set_option linter.unusedVariables false
set_option linter.unusedSimpArgs false
abbrev tB : Nat := 155
abbrev leC (x : Ls) (A : Option Addr) (c : Nat) : Array Value := #[.int .i64 x.task, .int .i64 x.queue, .int .i64 x.node, .slice A x.cores.length c, .int .i64 x.mem, .int .i64 x.since, .int .i64 x.til, .bool x.stop]
def boolsOf (tk : List Int) : Array Value := ((List.range 64).map fun (m : Nat) => Value.bool (decide ((m : Int) ∈ tk))).toArray
theorem bools_get (tk : List Int) (m : Nat) (h : m < 64) : (boolsOf tk)[m]? = some (.bool (decide ((m : Int) ∈ tk))) := by simp [boolsOf, h]
theorem bools_set (tk : List Int) (m : Nat) (h : m < 64) : (boolsOf tk).setIfInBounds m (.bool true) = boolsOf ((m : Int) :: tk) := by
  apply Array.ext_getElem?
  intro j
  rw [Array.getElem?_setIfInBounds]
  by_cases hj : j < 64
  · by_cases he : m = j
    · subst he
      rw [if_pos rfl, if_pos (by simp [boolsOf, h]), bools_get _ _ h]
      simp
    · rw [if_neg he, bools_get _ _ hj, bools_get _ _ hj]
      have : ¬ (j : Int) = (m : Int) := by omega
      simp [this]
  · rw [Array.getElem?_eq_none (by simp [boolsOf]; omega), Array.getElem?_eq_none (by simp [boolsOf]; omega), if_neg (by omega)]
theorem below_drew' {B : Nat} {w w' : World} (h : Below B w.drew w') : Below B w w' := ⟨h.os, h.tape, h.output, h.size, h.block⟩
theorem fits_calls2 (t : Ts) (A : Option Addr) (c : Nat) (W : World) (fb : Bool) (hlen : t.tk.length ≤ 9223372036854775807) (hr : ReadsI W A t.tk) (hf : fitsT t = fb) :
    Calls Try.prog 84 #[taskV t A c] W fun e W' => e = .returned (.bool fb) ∧ Below W.heap.size W W' := by
  rw [← hf]
  exact fits_calls t A c W hlen hr
/-- A lease among those that are read. -/
theorem ReadsL.at {F : Nat → Prop} {W : World} {A : Option Addr} {xs : List Ls} {j : Nat} {x : Ls} (h : ReadsL F W A xs) (hx : xs[j]? = some x) : ∃ ad A' c, A = some ad ∧ ReadsI W A' x.cores ∧ x.cores.length ≤ c ∧ wfI x.task ∧ x.cores.length ≤ 9223372036854775807 ∧
    ∀ W', Below W.heap.size W W' → ad.block < W'.heap.size ∧ W'.cell? (ad.add (j * 8)) = some (.int .i64 x.task) ∧
      W'.cell? ⟨(ad.add (j * 8)).block, (ad.add (j * 8)).off + 1, none⟩ = some (.int .i64 x.queue) ∧ W'.cell? ⟨(ad.add (j * 8)).block, (ad.add (j * 8)).off + 2, none⟩ = some (.int .i64 x.node) ∧
      W'.cell? ⟨(ad.add (j * 8)).block, (ad.add (j * 8)).off + 3, none⟩ = some (.slice A' x.cores.length c) ∧ W'.cell? ⟨(ad.add (j * 8)).block, (ad.add (j * 8)).off + 4, none⟩ = some (.int .i64 x.mem) ∧
      W'.cell? ⟨(ad.add (j * 8)).block, (ad.add (j * 8)).off + 5, none⟩ = some (.int .i64 x.since) ∧ W'.cell? ⟨(ad.add (j * 8)).block, (ad.add (j * 8)).off + 6, none⟩ = some (.int .i64 x.til) ∧
      W'.cell? ⟨(ad.add (j * 8)).block, (ad.add (j * 8)).off + 7, none⟩ = some (.bool x.stop) := by
  obtain ⟨ad, A', c, rfl, h1, c0, c1, c2, c3, c4, c5, c6, c7, hr, hc, hw, hl⟩ := h j x hx
  have hl1 : (ad.add (j * 8)).block < W.heap.size := by rw [add_block]; exact h1
  exact ⟨ad, A', c, rfl, hr.1, hc, hw, hl.1, fun W' hb => by
    have k : ∀ i v, W.cell? ⟨(ad.add (j * 8)).block, (ad.add (j * 8)).off + i, none⟩ = some v → W'.cell? ⟨(ad.add (j * 8)).block, (ad.add (j * 8)).off + i, none⟩ = some v := fun i v e => (hb.cell (p := ⟨(ad.add (j * 8)).block, _, none⟩) hl1).trans e
    exact ⟨Nat.lt_of_lt_of_le h1 hb.size, (hb.cell (p := ad.add (j * 8)) hl1).trans c0, k 1 _ c1, k 2 _ c2, k 3 _ c3, k 4 _ c4, k 5 _ c5, k 6 _ c6, k 7 _ c7⟩⟩
set_option maxRecDepth 100000 in
set_option maxHeartbeats 2000000 in
theorem form_nil (a : Nat) (A : Option Addr) (n c0 : Nat) (W : World) : Calls Try.prog 56 #[ptr a, .slice A n c0, .map none] W fun e W' => e = .returned (.bool false) ∧ Below W.heap.size W W' := by
  have qm : ∀ w, (binOp .eql 122 (.map none) (.map none)).run Try.prog w = .ok (.bool true) w := fun w => run_eql_map_nil w _ _ _ none Try.underlying122
  go_enter Try.func56, Try.ntmps56
  go_wp2
  go_ret
  exact ⟨rfl, Below.refl _ _⟩
set_option maxRecDepth 100000 in
set_option maxHeartbeats 16000000 in
theorem form_calls {F : Nat → Prop} (B a : Nat) (vs vj : Value) (js : List Jm) (S : Ag) (A : Option Addr) (c0 : Nat) (xs : List Ls) (b : Nat) (ts : List Ts) (W : World) (hlen : xs.length ≤ 9223372036854775807) (hag : AgM B a vs vj js S W) (hr : ReadsL F W A xs) (hm : MapM F W b ts)
    (hp : ts.Pairwise fun x y => x.id < y.id) (hn : S.nco ≤ 64) (htl : ∀ t ∈ ts, t.tk.length ≤ 9223372036854775807) :
    Calls Try.prog 56 #[ptr a, .slice A xs.length c0, .map (some b)] W fun e W' => e = .returned (.bool (formF S.nid S.nco ts xs).isSome) ∧ Below W.heap.size W W' := by
  have hag' := Lib.hid hag
  have hr' := Lib.hid hr
  have hm' := Lib.hid hm
  have hp' := Lib.hid hp
  have htl' := Lib.hid htl
  clear hag hr hm hp htl
  have qm : ∀ w, (binOp .eql 122 (.map (some b)) (.map none)).run Try.prog w = .ok (.bool false) w := fun w => run_eql_map_nil w _ _ _ (some b) Try.underlying122
  go_enter Try.func56, Try.ntmps56
  go_wp2
  go_loopw [19] (fun iv wr => ∃ (i : Nat) (prev : Option Int) (tk : List Int), iv = .int .i64 (i : Int) ∧ i ≤ xs.length ∧ formF S.nid S.nco ts (xs.take i) = some (prev, tk) ∧ Blk wr W.heap.size tB (boolsOf tk) ∧ Below W.heap.size W wr)
    (fun iv _ => xs.length - (intOf iv).toNat)
  case atStart => exact ⟨0, none, [], rfl, Nat.zero_le _, rfl, Blk.new W tB (boolsOf []), (Below.refl _ _).alloc (Nat.le_refl _) _⟩
  case round =>
    obtain ⟨i, prev, tk, rfl, hi, hst, hbt, hbel⟩ := hrel
    have hst' := Lib.hid hst
    have hbt' := Lib.hid hbt
    have hbel' := Lib.hid hbel
    by_cases hlt : i < xs.length
    · obtain ⟨x, hx⟩ : ∃ x, xs[i]? = some x := ⟨xs[i], List.getElem?_eq_getElem hlt⟩
      obtain ⟨ad, A', c, rfl, hri, hci, hwi, hcl, hat⟩ := hr'.out.at hx
      obtain ⟨hadl, q0, q1, q2, q3, q4, q5, q6, q7⟩ := hat wr hbel
      have hat' := Lib.hid hat
      have b1 := hbel.alloc hbel.size (.cells (leC x A' c) tL)
      have hlook := map_look (hm'.out.below b1) hwi hp'.out
      obtain ⟨t, At, ct, okb, hl1, hok1, hok2⟩ : ∃ t At ct okb, (Instr.lookup 122 (.map (some b)) (.int .i64 x.task) true).run Try.prog (wr.alloc (.cells (leC x A' c) tL)) = .ok (.tuple #[taskV t At ct, .bool okb]) (wr.alloc (.cells (leC x A' c) tL)) ∧
          (okb = true → findT ts x.task = some t ∧ ReadsI (wr.alloc (.cells (leC x A' c) tL)) At t.tk ∧ t.tk.length ≤ 9223372036854775807) ∧ (okb = false → findT ts x.task = none) := by
        rcases hlook with ⟨t, At, ct, h1, h2, _, h4, _⟩ | ⟨h1, h2⟩
        · exact ⟨t, At, ct, true, h2, fun _ => ⟨h1, h4.1, htl'.out t (List.mem_of_find?_eq_some h1)⟩, fun h => by cases h⟩
        · exact ⟨noTask, none, 0, false, h2, (fun h => by cases h), fun _ => h1⟩
      have b2 := b1.alloc b1.size (.cells (taskC t At ct) tT)
      have bL := (Blk.new wr tL (leC x A' c)).alloc (.cells (taskC t At ct) tT)
      have bT := Blk.new (wr.alloc (.cells (leC x A' c) tL)) tT (taskC t At ct)
      simp only [World.size_alloc] at bT
      have hok1' := Lib.hid (fun h => by
        obtain ⟨x1, x2, x3⟩ := hok1 h
        exact And.intro x1 (And.intro (x2.below ((Below.refl _ _).alloc (Nat.le_refl _) (.cells (taskC t At ct) tT))) x3))
      have hok2' := Lib.hid hok2
      have bA := (hag'.out.below b2).blk
      have a0 := bA.cell 0
      have l0 := bL.cell 0
      have l2 := bL.cell 2
      have l3 := bL.cell 3
      have z0 := bT.cell 0
      have z1 := bT.cell 1
      have z2 := bT.cell 2
      have z3 := bT.cell 3
      have z4 := bT.cell 4
      have z5 := bT.cell 5
      have z6 := bT.cell 6
      simp only [List.getElem?_toArray, List.getElem?_cons_zero, List.getElem?_cons_succ] at a0 l0 l2 l3 z0 z1 z2 z3 z4 z5 z6
      have bL' := Lib.hid bL
      have hbt2 := Lib.hid ((hbt.alloc (.cells (leC x A' c) tL)).alloc (.cells (taskC t At ct) tT))
      have b2' := Lib.hid b2
      have hx' := Lib.hid hx
      have hri' := Lib.hid hri
      have hno := Lib.hid (fun (h : lstep S.nid S.nco ts (some (prev, tk)) x = none) => (show (formF S.nid S.nco ts xs).isSome = false by rw [formF_no hx hst h]; rfl))
      have hyes := Lib.hid (fun (q : Option (Option Int × List Int)) (h : lstep S.nid S.nco ts (some (prev, tk)) x = q) => (show formF S.nid S.nco ts (xs.take (i + 1)) = q by rw [formF_take S.nid S.nco ts xs i x hx, hst]; exact h))
      by_cases h0 : 0 < i
      · obtain ⟨u, hu⟩ : ∃ u, xs[i - 1]? = some u := ⟨xs[i - 1], List.getElem?_eq_getElem (by omega)⟩
        obtain ⟨ad2, A2, c2, hA2, _, _, _, _, hat2⟩ := hr'.out.at hu
        injection hA2 with hA2
        subst hA2
        obtain ⟨_, p0, _⟩ := hat2 _ b2
        have hprev := formF_prev hst h0 hu
        have hx0 : (0 : Int) < (i : Int) := by omega
        have hw : IntKind.i64.wrap ((i : Int) - 1) = ((i - 1 : Nat) : Int) := by rw [show ((i - 1 : Nat) : Int) = (i : Int) - 1 by omega]; exact IntWalk.i64_in _ (by omega)
        have hx1 : ((i - 1 : Nat) : Int) < (xs.length : Int) := by omega
        by_cases hle : x.task ≤ u.task
        · have hres := Lib.hid (hno.out (lstep_none1 (.inl ⟨_, hprev, hle⟩)))
          have x1 : decide (x.task ≤ u.task) = true := decide_eq_true hle
          clear hst hbt hbel hx hlook bL bT b1 b2 bA hok1 hok2 hri hle hu hat2 hat
          go_wp2
          go_quiet (fail)
          go_wp2
          go_ret
          exact ⟨by rw [hres.out]; rfl, by first | exact b2'.out | exact b2'.out.drew | exact pw_below_drewN b2'.out _⟩
        · have hnp := Lib.hid (show ¬ ∃ p, prev = some p ∧ x.task ≤ p from by rintro ⟨p, e, h⟩; rw [hprev] at e; injection e with e; omega)
          have x1 : decide (x.task ≤ u.task) = false := decide_eq_false hle
          clear hst hbt hbel hx hlook bL bT b1 b2 bA hok1 hok2 hri hle hu hat2 hat hprev
          by_cases hnd : x.node = S.nid
          · have e2 : (x.node == S.nid) = true := beq_iff_eq.mpr hnd
            have e2n : (x.node != S.nid) = false := by simp [hnd]
            by_cases hcr : x.cores = []
            · have e3 : ((x.cores.length : Int) == 0) = true := by rw [hcr]; rfl
              have hres := Lib.hid (hno.out (lstep_none1 (.inr (.inr hcr))))
              clear hcr hnd
              go_wp2
              go_quiet (fail)
              go_wp2
              go_ret
              exact ⟨by rw [hres.out]; rfl, by first | exact b2'.out | exact b2'.out.drew | exact pw_below_drewN b2'.out _⟩
            · have hpos : 0 < x.cores.length := by cases h : x.cores with | nil => exact absurd h hcr | cons => simp
              have e3 : ((x.cores.length : Int) == 0) = false := beq_eq_false_iff_ne.mpr (by omega)
              have hgo := Lib.hid (show ¬ ((∃ p, prev = some p ∧ x.task ≤ p) ∨ x.node ≠ S.nid ∨ x.cores = []) from by rintro (h | h | h); exact hnp.out h; exact h hnd; exact hcr h)
              clear hcr hnd
              cases okb with
              | false =>
                have hres := Lib.hid (hno.out (lstep_none2 (hok2'.out rfl)))
                go_wp2
                go_quiet (fail)
                go_wp2
                go_ret
                exact ⟨by rw [hres.out]; rfl, by first | exact b2'.out | exact b2'.out.drew | exact pw_below_drewN b2'.out _⟩
              | true =>
                obtain ⟨hf, hrt, htll⟩ := hok1'.out rfl
                have hf' := Lib.hid hf
                have hrt' := Lib.hid hrt
                clear hf hrt
                cases hfb : fitsT t with
                | false =>
                  have hres := Lib.hid (hno.out (lstep_none3 hf'.out hfb))
                  have hfb' := Lib.hid hfb
                  clear hfb
                  go_wp2
                  have gl0 := cell_regrown l0
                  have gl2 := cell_regrown l2
                  have gl3 := cell_regrown l3
                  have ga0 := cell_regrown a0
                  have gz0 := cell_regrown z0
                  have gz1 := cell_regrown z1
                  have gz2 := cell_regrown z2
                  have gz3 := cell_regrown z3
                  have gz4 := cell_regrown z4
                  have gz5 := cell_regrown z5
                  have gz6 := cell_regrown z6
                  have gp0 := cell_regrown p0
                  refine wp_region_quiet_below (by kernel_rfl) (by kernel_rfl) ?_
                  repeat (go_big_quiet_step (exact Calls.regrown_of (fits_calls2 t At ct _ false htll (hrt'.out.below (below_regrown _ _ _)) hfb'.out)))
                  refine wpQuiet_nil ?_
                  rintro w5 ⟨p5, hw5⟩
                  have b5 := below_regrown ((wr.alloc (.cells (leC x A' c) tL)).alloc (.cells (taskC t At ct) tT)) p5.d p5.os
                  rw [← hw5] at b5
                  clear hw5 gl0 gl2 gl3 ga0 gz0 gz1 gz2 gz3 gz4 gz5 gz6 z0 z1 z2 z3 z4 z5 z6 l0 l2 l3 a0 p5
                  go_wp2
                  go_ret
                  exact ⟨by rw [hres.out]; rfl, b2'.out.trans (b5.mono b2'.out.size)⟩
                | true =>
                  have hfb' := Lib.hid hfb
                  clear hfb
                  go_wp2
                  have gl0 := cell_regrown l0
                  have gl2 := cell_regrown l2
                  have gl3 := cell_regrown l3
                  have ga0 := cell_regrown a0
                  have gz0 := cell_regrown z0
                  have gz1 := cell_regrown z1
                  have gz2 := cell_regrown z2
                  have gz3 := cell_regrown z3
                  have gz4 := cell_regrown z4
                  have gz5 := cell_regrown z5
                  have gz6 := cell_regrown z6
                  have gp0 := cell_regrown p0
                  refine wp_region_quiet_below (by kernel_rfl) (by kernel_rfl) ?_
                  repeat (go_big_quiet_step (exact Calls.regrown_of (fits_calls2 t At ct _ true htll (hrt'.out.below (below_regrown _ _ _)) hfb'.out)))
                  refine wpQuiet_nil ?_
                  rintro w5 ⟨p5, hw5⟩
                  have b5 := below_regrown ((wr.alloc (.cells (leC x A' c) tL)).alloc (.cells (taskC t At ct) tT)) p5.d p5.os
                  rw [← hw5] at b5
                  clear hw5 gl0 gl2 gl3 ga0 gz0 gz1 gz2 gz3 gz4 gz5 gz6 z0 z1 z2 z3 z4 z5 z6 l0 l2 l3 a0 p5
                  have bL5 := bL'.out.below b5 bL'.out.lt
                  have l3 := bL5.cell 3
                  simp only [List.getElem?_toArray, List.getElem?_cons_zero, List.getElem?_cons_succ] at l3
                  have bt5 := Lib.hid (hbt2.out.below b5 hbt2.out.lt)
                  have b5' := Lib.hid (b2'.out.trans (b5.mono b2'.out.size))
                  clear bL5 b5
                  go_wp2
                  go_loopw [12, 72] (fun lv kv wq => ∃ (k : Nat) (last : Int) (tk2 : List Int), lv = .int .i64 last ∧ kv = .int .i64 (k : Int) ∧ k ≤ x.cores.length ∧ coresF S.nco tk (x.cores.take k) = some (last, tk2) ∧ Blk wq W.heap.size tB (boolsOf tk2) ∧ Below W.heap.size W wq)
                    (fun _ kv _ => x.cores.length - (intOf kv).toNat)
                  case atStart => exact ⟨0, -1, tk, rfl, rfl, Nat.zero_le _, rfl, bt5.out, b5'.out⟩
                  case round =>
                    clear l3
                    obtain ⟨k, last, tk2, rfl, rfl, hk, hcs, hbq, hbelq⟩ := hrel
                    by_cases hltk : k < x.cores.length
                    · obtain ⟨co, hco⟩ : ∃ co, x.cores[k]? = some co := ⟨x.cores[k], List.getElem?_eq_getElem hltk⟩
                      obtain ⟨ac, hac, _, p0⟩ := (hri'.out.below hbelq) k co hco
                      have hstep := coresF_take S.nco tk x.cores k co hco
                      rw [hcs] at hstep
                      have hlast := coresF_last x.cores k hk last tk2 hcs
                      have bA := (hag'.out.below hbelq).blk
                      have a1 := bA.cell 1
                      simp only [List.getElem?_toArray, List.getElem?_cons_zero, List.getElem?_cons_succ] at a1
                      have hdead := Lib.hid (fun (h : cstep S.nco (some (last, tk2)) co = none) => hno.out (lstep_none4 (coresF_dead (i := k + 1) (hstep.trans h))))
                      have hstep' := Lib.hid hstep
                      have hbq' := Lib.hid hbq
                      have hbelq' := Lib.hid hbelq
                      subst hac
                      by_cases c1 : co ≤ last
                      · have hres := Lib.hid (hdead.out (if_pos (.inl c1)))
                        have x1 : decide (co ≤ last) = true := decide_eq_true c1
                        clear hstep hbq hbelq hco hcs bA c1
                        go_wp2
                        go_ret
                        exact ⟨by rw [hres.out]; rfl, hbelq'.out⟩
                      · have x1 : decide (co ≤ last) = false := decide_eq_false c1
                        by_cases c2 : S.nco ≤ co
                        · have hres := Lib.hid (hdead.out (if_pos (.inr (.inl c2))))
                          have x2 : decide (S.nco ≤ co) = true := decide_eq_true c2
                          clear hstep hbq hbelq hco hcs bA c2 c1
                          go_wp2
                          go_ret
                          exact ⟨by rw [hres.out]; rfl, hbelq'.out⟩
                        · have x2 : decide (S.nco ≤ co) = false := decide_eq_false c2
                          obtain ⟨m, rfl⟩ : ∃ m : Nat, co = (m : Int) := ⟨co.toNat, by omega⟩
                          have hm64 : m < 64 := by omega
                          have hm64' : (m : Int) < 64 := by omega
                          have t1 := hbq.cell m
                          rw [bools_get _ _ hm64] at t1
                          have tf := hbq.frozen m
                          by_cases c3 : (m : Int) ∈ tk2
                          · have hres := Lib.hid (hdead.out (if_pos (.inr (.inr c3))))
                            rw [decide_eq_true c3] at t1
                            clear hstep hbq hbelq hco hcs bA c2 c1 c3
                            go_wp2
                            go_ret
                            exact ⟨by rw [hres.out]; rfl, hbelq'.out⟩
                          · have hnx := Lib.hid (show coresF S.nco tk (x.cores.take (k + 1)) = some ((m : Int), (m : Int) :: tk2) from hstep.trans (if_neg (by rintro (h | h | h); exact c1 h; exact c2 h; exact c3 h)))
                            rw [decide_eq_false c3] at t1
                            have hbs := hbq.set m (.bool true) (by simp [boolsOf]; exact hm64)
                            rw [bools_set _ _ hm64] at hbs
                            have hbs' := Lib.hid hbs
                            have hbls := Lib.hid (hbelq.setCell (p := ⟨W.heap.size, m, none⟩) (Nat.le_refl _) (.bool true))
                            clear hstep hbq hbelq hco hcs bA c2 c1 c3 hbs
                            go_wp2
                            go_roundw
                            case rel => exact ⟨k + 1, _, _, rfl, by go_num, by omega, hnx.out, hbs'.out, hbls.out⟩
                            case measure => simp [intOf]; omega
                    · have hk' : k = x.cores.length := by omega
                      subst hk'
                      rw [List.take_of_length_le (Nat.le_refl _)] at hcs
                      have hnx := Lib.hid (hyes.out _ (lstep_some hgo.out hf'.out hfb'.out hcs))
                      have hbq' := Lib.hid hbq
                      have hbelq' := Lib.hid hbelq
                      clear hcs hbq hbelq
                      go_wp2
                      go_roundw
                      case rel => exact ⟨i + 1, _, _, by go_num, by omega, hnx.out, hbq'.out, hbelq'.out⟩
                      case measure => simp [intOf]; omega
          · have e2 : (x.node == S.nid) = false := beq_eq_false_iff_ne.mpr hnd
            have e2n : (x.node != S.nid) = true := by simp [hnd]
            have hres := Lib.hid (hno.out (lstep_none1 (.inr (.inl hnd))))
            clear hnd
            go_wp2
            go_quiet (fail)
            go_wp2
            go_ret
            exact ⟨by rw [hres.out]; rfl, by first | exact b2'.out | exact b2'.out.drew | exact pw_below_drewN b2'.out _⟩
      · have hnp := Lib.hid (show ¬ ∃ p, prev = some p ∧ x.task ≤ p from by rintro ⟨p, e, h⟩; rw [formF_zero hst (by omega)] at e; cases e)
        have hx0 : decide ((0 : Int) < (i : Int)) = false := decide_eq_false (by omega)
        have hx2 : decide (0 < i) = false := decide_eq_false h0
        clear hst hbt hbel hx hlook bL bT b1 b2 bA hok1 hok2 hri hat
        by_cases hnd : x.node = S.nid
        · have e2 : (x.node == S.nid) = true := beq_iff_eq.mpr hnd
          have e2n : (x.node != S.nid) = false := by simp [hnd]
          by_cases hcr : x.cores = []
          · have e3 : ((x.cores.length : Int) == 0) = true := by rw [hcr]; rfl
            have hres := Lib.hid (hno.out (lstep_none1 (.inr (.inr hcr))))
            clear hcr hnd
            go_wp2
            go_quiet (fail)
            go_wp2
            go_ret
            exact ⟨by rw [hres.out]; rfl, by first | exact b2'.out | exact b2'.out.drew | exact pw_below_drewN b2'.out _⟩
          · have hpos : 0 < x.cores.length := by cases h : x.cores with | nil => exact absurd h hcr | cons => simp
            have e3 : ((x.cores.length : Int) == 0) = false := beq_eq_false_iff_ne.mpr (by omega)
            have hgo := Lib.hid (show ¬ ((∃ p, prev = some p ∧ x.task ≤ p) ∨ x.node ≠ S.nid ∨ x.cores = []) from by rintro (h | h | h); exact hnp.out h; exact h hnd; exact hcr h)
            clear hcr hnd
            cases okb with
            | false =>
              have hres := Lib.hid (hno.out (lstep_none2 (hok2'.out rfl)))
              go_wp2
              go_quiet (fail)
              go_wp2
              go_ret
              exact ⟨by rw [hres.out]; rfl, by first | exact b2'.out | exact b2'.out.drew | exact pw_below_drewN b2'.out _⟩
            | true =>
              obtain ⟨hf, hrt, htll⟩ := hok1'.out rfl
              have hf' := Lib.hid hf
              have hrt' := Lib.hid hrt
              clear hf hrt
              cases hfb : fitsT t with
              | false =>
                have hres := Lib.hid (hno.out (lstep_none3 hf'.out hfb))
                have hfb' := Lib.hid hfb
                clear hfb
                go_wp2
                have gl0 := cell_regrown l0
                have gl2 := cell_regrown l2
                have gl3 := cell_regrown l3
                have ga0 := cell_regrown a0
                have gz0 := cell_regrown z0
                have gz1 := cell_regrown z1
                have gz2 := cell_regrown z2
                have gz3 := cell_regrown z3
                have gz4 := cell_regrown z4
                have gz5 := cell_regrown z5
                have gz6 := cell_regrown z6
                refine wp_region_quiet_below (by kernel_rfl) (by kernel_rfl) ?_
                repeat (go_big_quiet_step (exact Calls.regrown_of (fits_calls2 t At ct _ false htll (hrt'.out.below (below_regrown _ _ _)) hfb'.out)))
                refine wpQuiet_nil ?_
                rintro w5 ⟨p5, hw5⟩
                have b5 := below_regrown ((wr.alloc (.cells (leC x A' c) tL)).alloc (.cells (taskC t At ct) tT)) p5.d p5.os
                rw [← hw5] at b5
                clear hw5 gl0 gl2 gl3 ga0 gz0 gz1 gz2 gz3 gz4 gz5 gz6 z0 z1 z2 z3 z4 z5 z6 l0 l2 l3 a0 p5
                go_wp2
                go_ret
                exact ⟨by rw [hres.out]; rfl, b2'.out.trans (b5.mono b2'.out.size)⟩
              | true =>
                have hfb' := Lib.hid hfb
                clear hfb
                go_wp2
                have gl0 := cell_regrown l0
                have gl2 := cell_regrown l2
                have gl3 := cell_regrown l3
                have ga0 := cell_regrown a0
                have gz0 := cell_regrown z0
                have gz1 := cell_regrown z1
                have gz2 := cell_regrown z2
                have gz3 := cell_regrown z3
                have gz4 := cell_regrown z4
                have gz5 := cell_regrown z5
                have gz6 := cell_regrown z6
                refine wp_region_quiet_below (by kernel_rfl) (by kernel_rfl) ?_
                repeat (go_big_quiet_step (exact Calls.regrown_of (fits_calls2 t At ct _ true htll (hrt'.out.below (below_regrown _ _ _)) hfb'.out)))
                refine wpQuiet_nil ?_
                rintro w5 ⟨p5, hw5⟩
                have b5 := below_regrown ((wr.alloc (.cells (leC x A' c) tL)).alloc (.cells (taskC t At ct) tT)) p5.d p5.os
                rw [← hw5] at b5
                clear hw5 gl0 gl2 gl3 ga0 gz0 gz1 gz2 gz3 gz4 gz5 gz6 z0 z1 z2 z3 z4 z5 z6 l0 l2 l3 a0 p5
                have bL5 := bL'.out.below b5 bL'.out.lt
                have l3 := bL5.cell 3
                simp only [List.getElem?_toArray, List.getElem?_cons_zero, List.getElem?_cons_succ] at l3
                have bt5 := Lib.hid (hbt2.out.below b5 hbt2.out.lt)
                have b5' := Lib.hid (b2'.out.trans (b5.mono b2'.out.size))
                clear bL5 b5
                go_wp2
                go_loopw [12, 72] (fun lv kv wq => ∃ (k : Nat) (last : Int) (tk2 : List Int), lv = .int .i64 last ∧ kv = .int .i64 (k : Int) ∧ k ≤ x.cores.length ∧ coresF S.nco tk (x.cores.take k) = some (last, tk2) ∧ Blk wq W.heap.size tB (boolsOf tk2) ∧ Below W.heap.size W wq)
                  (fun _ kv _ => x.cores.length - (intOf kv).toNat)
                case atStart => exact ⟨0, -1, tk, rfl, rfl, Nat.zero_le _, rfl, bt5.out, b5'.out⟩
                case round =>
                  clear l3
                  obtain ⟨k, last, tk2, rfl, rfl, hk, hcs, hbq, hbelq⟩ := hrel
                  by_cases hltk : k < x.cores.length
                  · obtain ⟨co, hco⟩ : ∃ co, x.cores[k]? = some co := ⟨x.cores[k], List.getElem?_eq_getElem hltk⟩
                    obtain ⟨ac, hac, _, p0⟩ := (hri'.out.below hbelq) k co hco
                    have hstep := coresF_take S.nco tk x.cores k co hco
                    rw [hcs] at hstep
                    have hlast := coresF_last x.cores k hk last tk2 hcs
                    have bA := (hag'.out.below hbelq).blk
                    have a1 := bA.cell 1
                    simp only [List.getElem?_toArray, List.getElem?_cons_zero, List.getElem?_cons_succ] at a1
                    have hdead := Lib.hid (fun (h : cstep S.nco (some (last, tk2)) co = none) => hno.out (lstep_none4 (coresF_dead (i := k + 1) (hstep.trans h))))
                    have hstep' := Lib.hid hstep
                    have hbq' := Lib.hid hbq
                    have hbelq' := Lib.hid hbelq
                    subst hac
                    by_cases c1 : co ≤ last
                    · have hres := Lib.hid (hdead.out (if_pos (.inl c1)))
                      have x1 : decide (co ≤ last) = true := decide_eq_true c1
                      clear hstep hbq hbelq hco hcs bA c1
                      go_wp2
                      go_ret
                      exact ⟨by rw [hres.out]; rfl, hbelq'.out⟩
                    · have x1 : decide (co ≤ last) = false := decide_eq_false c1
                      by_cases c2 : S.nco ≤ co
                      · have hres := Lib.hid (hdead.out (if_pos (.inr (.inl c2))))
                        have x2 : decide (S.nco ≤ co) = true := decide_eq_true c2
                        clear hstep hbq hbelq hco hcs bA c2 c1
                        go_wp2
                        go_ret
                        exact ⟨by rw [hres.out]; rfl, hbelq'.out⟩
                      · have x2 : decide (S.nco ≤ co) = false := decide_eq_false c2
                        obtain ⟨m, rfl⟩ : ∃ m : Nat, co = (m : Int) := ⟨co.toNat, by omega⟩
                        have hm64 : m < 64 := by omega
                        have hm64' : (m : Int) < 64 := by omega
                        have t1 := hbq.cell m
                        rw [bools_get _ _ hm64] at t1
                        have tf := hbq.frozen m
                        by_cases c3 : (m : Int) ∈ tk2
                        · have hres := Lib.hid (hdead.out (if_pos (.inr (.inr c3))))
                          rw [decide_eq_true c3] at t1
                          clear hstep hbq hbelq hco hcs bA c2 c1 c3
                          go_wp2
                          go_ret
                          exact ⟨by rw [hres.out]; rfl, hbelq'.out⟩
                        · have hnx := Lib.hid (show coresF S.nco tk (x.cores.take (k + 1)) = some ((m : Int), (m : Int) :: tk2) from hstep.trans (if_neg (by rintro (h | h | h); exact c1 h; exact c2 h; exact c3 h)))
                          rw [decide_eq_false c3] at t1
                          have hbs := hbq.set m (.bool true) (by simp [boolsOf]; exact hm64)
                          rw [bools_set _ _ hm64] at hbs
                          have hbs' := Lib.hid hbs
                          have hbls := Lib.hid (hbelq.setCell (p := ⟨W.heap.size, m, none⟩) (Nat.le_refl _) (.bool true))
                          clear hstep hbq hbelq hco hcs bA c2 c1 c3 hbs
                          go_wp2
                          go_roundw
                          case rel => exact ⟨k + 1, _, _, rfl, by go_num, by omega, hnx.out, hbs'.out, hbls.out⟩
                          case measure => simp [intOf]; omega
                  · have hk' : k = x.cores.length := by omega
                    subst hk'
                    rw [List.take_of_length_le (Nat.le_refl _)] at hcs
                    have hnx := Lib.hid (hyes.out _ (lstep_some hgo.out hf'.out hfb'.out hcs))
                    have hbq' := Lib.hid hbq
                    have hbelq' := Lib.hid hbelq
                    clear hcs hbq hbelq
                    go_wp2
                    go_roundw
                    case rel => exact ⟨i + 1, _, _, by go_num, by omega, hnx.out, hbq'.out, hbelq'.out⟩
                    case measure => simp [intOf]; omega
        · have e2 : (x.node == S.nid) = false := beq_eq_false_iff_ne.mpr hnd
          have e2n : (x.node != S.nid) = true := by simp [hnd]
          have hres := Lib.hid (hno.out (lstep_none1 (.inr (.inl hnd))))
          clear hnd
          go_wp2
          go_quiet (fail)
          go_wp2
          go_ret
          exact ⟨by rw [hres.out]; rfl, by first | exact b2'.out | exact b2'.out.drew | exact pw_below_drewN b2'.out _⟩
    · have hi' : i = xs.length := by omega
      subst hi'
      rw [List.take_of_length_le (Nat.le_refl _)] at hst
      have hv := Lib.hid (show (formF S.nid S.nco ts xs).isSome = true by rw [hst]; rfl)
      clear hst hbt hbel
      go_wp2
      go_ret
      exact ⟨by rw [hv.out]; rfl, hbel'.out⟩
end Go.Proofs.Ytkcmmghhghgdpaa.Agt
end
section
namespace Go.Proofs.Ytkcmmghhghgdpaa.Agt
open Go.Proofs.Ytkcmmghhghgdpaa.Str
set_option linter.unusedVariables false
set_option linter.unusedSimpArgs false
theorem nodup_bound : ∀ (n : Nat) (l : List Int), l.Nodup → (∀ c ∈ l, 0 ≤ c ∧ c < (n : Int)) → l.length ≤ n
  | 0, l, _, h => by
    cases l with
    | nil => simp
    | cons a l => have := h a List.mem_cons_self; omega
  | n + 1, l, hd, h => by
    by_cases hm : (n : Int) ∈ l
    · have h1 := nodup_bound n (l.erase (n : Int)) (hd.erase _) (fun c hc => by
        have h2 := (List.Nodup.mem_erase_iff hd).1 hc
        have h3 := h c h2.2
        have h4 := h2.1
        omega)
      rw [List.length_erase_of_mem hm] at h1
      omega
    · have h1 := nodup_bound n l hd (fun c hc => by
        have h3 := h c hc
        have : c ≠ (n : Int) := fun e => hm (e ▸ hc)
        omega)
      omega
/-- Cores that were taken: no two alike, each one of the node's. -/
def Took (n : Int) (tk : List Int) : Prop := tk.Nodup ∧ ∀ c ∈ tk, 0 ≤ c ∧ c < n
theorem coresF_took {n : Int} : ∀ (cs : List Int) (s : Option (Int × List Int)) (last : Int) (tk : List Int), (∀ l k, s = some (l, k) → -1 ≤ l ∧ Took n k) → cs.foldl (cstep n) s = some (last, tk) →
    Took n tk ∧ ∃ l k, s = some (l, k) ∧ tk.length = k.length + cs.length
  | [], s, last, tk, h, e => by
    have e' : s = some (last, tk) := e
    exact ⟨(h last tk e').2, last, tk, e', by simp⟩
  | c :: cs, s, last, tk, h, e => by
    have e' : cs.foldl (cstep n) (cstep n s c) = some (last, tk) := e
    cases hs : s with
    | none => rw [hs] at e'; rw [show cstep n none c = none from rfl, cstep_none] at e'; cases e'
    | some p =>
      obtain ⟨l, k⟩ := p
      obtain ⟨h1, h2, h3⟩ := h l k hs
      rw [hs] at e'
      by_cases hb : c ≤ l ∨ n ≤ c ∨ c ∈ k
      · rw [show cstep n (some (l, k)) c = none from if_pos hb, cstep_none] at e'; cases e'
      · have hc : cstep n (some (l, k)) c = some (c, c :: k) := if_neg hb
        rw [hc] at e'
        have hb1 : ¬ c ≤ l := fun h => hb (.inl h)
        have hb2 : ¬ n ≤ c := fun h => hb (.inr (.inl h))
        have hb3 : c ∉ k := fun h => hb (.inr (.inr h))
        obtain ⟨r1, l', k', r2, r3⟩ := coresF_took cs (some (c, c :: k)) last tk (fun l' k' e2 => by
          injection e2 with e2
          injection e2 with e3 e4
          subst e3
          subst e4
          refine ⟨by omega, List.nodup_cons.2 ⟨hb3, h2⟩, fun d hd => ?_⟩
          rcases List.mem_cons.1 hd with rfl | hd
          · omega
          · exact h3 d hd) e'
        injection r2 with r2
        injection r2 with _ r4
        subst r4
        exact ⟨r1, l, k, rfl, by rw [r3, List.length_cons, List.length_cons]; omega⟩
theorem formF_took {nid n : Int} {ts : List Ts} : ∀ (xs : List Ls) (p0 : Option Int) (k0 : List Int) (prev : Option Int) (tk : List Int), Took n k0 → xs.foldl (lstep nid n ts) (some (p0, k0)) = some (prev, tk) →
    Took n tk ∧ k0.length + xs.length ≤ tk.length ∧ (∀ x ∈ xs, x.cores.length ≤ tk.length ∧ ∃ t, findT ts x.task = some t ∧ fitsT t = true) ∧ (xs.Pairwise fun x y => x.task < y.task) ∧ ∀ x ∈ xs, ∀ p, p0 = some p → p < x.task
  | [], p0, k0, prev, tk, h, e => by
    have e' : (some (p0, k0) : Option (Option Int × List Int)) = some (prev, tk) := e
    injection e' with e'
    injection e' with e1 e2
    subst e2
    exact ⟨h, by simp, (fun x hx => by cases hx), List.Pairwise.nil, (fun x hx => by cases hx)⟩
  | x :: xs, p0, k0, prev, tk, h, e => by
    have e' : xs.foldl (lstep nid n ts) (lstep nid n ts (some (p0, k0)) x) = some (prev, tk) := e
    cases hs : lstep nid n ts (some (p0, k0)) x with
    | none => rw [hs, lstep_none] at e'; cases e'
    | some q =>
      obtain ⟨p1, k1⟩ := q
      have hp1 := lstep_prev hs
      unfold lstep at hs
      simp only at hs
      split at hs
      · cases hs
      · rename_i hno
        split at hs
        · cases hs
        · rename_i t hf
          split at hs
          · rename_i hfit
            cases hc : coresF n k0 x.cores with
            | none => rw [hc] at hs; cases hs
            | some r =>
              obtain ⟨l, k2⟩ := r
              rw [hc] at hs
              injection hs with hs
              injection hs with hs1 hs2
              subst hs2
              obtain ⟨t1, l', k', t2, t3⟩ := coresF_took x.cores (some (-1, k0)) l k2 (fun l' k' e2 => by
                injection e2 with e2
                injection e2 with e3 e4
                subst e3
                subst e4
                exact ⟨by omega, h⟩) hc
              injection t2 with t2
              injection t2 with _ t4
              subst t4
              subst hp1
              rw [show lstep nid n ts (some (p0, k0)) x = some (some x.task, k2) from by
                unfold lstep
                simp only
                rw [if_neg hno, hf]
                simp only
                rw [if_pos hfit, hc]] at e'
              obtain ⟨u1, u2, u3, u4, u5⟩ := formF_took xs (some x.task) k2 prev tk t1 e'
              have hcn : 0 < x.cores.length := by
                cases hcc : x.cores with
                | nil => exact absurd (.inr (.inr hcc)) hno
                | cons => simp
              refine ⟨u1, by rw [List.length_cons]; omega, fun y hy => ?_, List.pairwise_cons.2 ⟨fun y hy => u5 y hy _ rfl, u4⟩, fun y hy p hp => ?_⟩
              · rcases List.mem_cons.1 hy with rfl | hy
                · exact ⟨by omega, t, hf, hfit⟩
                · exact u3 y hy
              · have hx : p < x.task := by
                  have : ¬ x.task ≤ p := fun h => hno (.inl ⟨p, hp, h⟩)
                  omega
                rcases List.mem_cons.1 hy with rfl | hy
                · exact hx
                · have := u5 y hy _ rfl
                  omega
          · cases hs
theorem form_bounds {nid n : Int} {ts : List Ts} {xs : List Ls} (h : (formF nid n ts xs).isSome = true) (hn : n ≤ 64) :
    xs.length ≤ 64 ∧ (∀ x ∈ xs, x.cores.length ≤ 64 ∧ ∃ t, findT ts x.task = some t ∧ fitsT t = true) ∧ xs.Pairwise fun x y => x.task < y.task := by
  cases hs : formF nid n ts xs with
  | none => rw [hs] at h; cases h
  | some q =>
    obtain ⟨p, tk⟩ := q
    obtain ⟨u1, u2, u3, u4, _⟩ := formF_took xs none [] p tk ⟨List.nodup_nil, fun c hc => by cases hc⟩ hs
    have hb := nodup_bound 64 tk u1.1 (fun c hc => by have := u1.2 c hc; omega)
    simp only [List.length_nil, Nat.zero_add] at u2
    exact ⟨by omega, fun x hx => ⟨by have := (u3 x hx).1; omega, (u3 x hx).2⟩, u4⟩
/-- The first of several that begin a list. -/
theorem jobF_found {jobs : List Jb} {x : Ls} {t : Ts} {frm : Int} {p : Nat} {j : Jb} (hno : ∀ (m : Nat) (k : Jb), m < p → jobs[m]? = some k → k.le.task ≠ x.task) (hj : jobs[p]? = some j) (he : j.le.task = x.task) : jobF jobs x t frm = { j with le := x, frm := frm } := by
  have : jobs.find? (fun j => j.le.task == x.task) = some j := by
    rw [List.find?_eq_some_iff_getElem]
    obtain ⟨hl, e⟩ := List.getElem?_eq_some_iff.1 hj
    refine ⟨by simp [he], p, hl, e, fun m hm => ?_⟩
    have := hno m (jobs[m]'(by omega)) hm (List.getElem?_eq_getElem _)
    simpa using this
  unfold jobF
  rw [this]
theorem jobF_new {jobs : List Jb} {x : Ls} {t : Ts} {frm : Int} (hno : ∀ j ∈ jobs, j.le.task ≠ x.task) : jobF jobs x t frm = ⟨x, frm, t.work, 0, joinsF 0 [] t.tk⟩ := by
  have : jobs.find? (fun j => j.le.task == x.task) = none := by
    rw [List.find?_eq_none]
    intro j hj
    simpa using hno j hj
  unfold jobF
  rw [this]
end Go.Proofs.Ytkcmmghhghgdpaa.Agt
end
section
namespace Go.Proofs.Ytkcmmghhghgdpaa.Agt
open Go.RowKit Go.Shelf Go.Maps Go.Proofs.Ytkcmmghhghgdpaa.Iter Go.Proofs.Ytkcmmghhghgdpaa.SeqM Go.Proofs.Ytkcmmghhghgdpaa.Str Go.Proofs.YtkcmmghhghgdpaaW.PrintWords Go.Proofs.YtkcmmghhghgdpaaW.PrintLast
set_option linter.unusedVariables false
set_option linter.unusedSimpArgs false
/-- A lease with the place of its cores. -/
abbrev LeM : Type := Ls × Option Addr × Nat
def leCs (y : LeM) : List Value := [.int .i64 y.1.task, .int .i64 y.1.queue, .int .i64 y.1.node, .slice y.2.1 y.1.cores.length y.2.2, .int .i64 y.1.mem, .int .i64 y.1.since, .int .i64 y.1.til, .bool y.1.stop]
def flatL (ys : List LeM) : List Value := ys.flatMap leCs
theorem flatL_cons (y : LeM) (ys : List LeM) : flatL (y :: ys) = leCs y ++ flatL ys := rfl
theorem flatL_app (ys zs : List LeM) : flatL (ys ++ zs) = flatL ys ++ flatL zs := by simp [flatL]
theorem flatL_len : ∀ (ys : List LeM), (flatL ys).length = ys.length * 8
  | [] => rfl
  | y :: ys => by rw [flatL_cons, List.length_append, flatL_len ys, List.length_cons]; simp [leCs]; omega
theorem flatL_get : ∀ (ys : List LeM) (i j : Nat) (y : LeM), j < 8 → ys[i]? = some y → (flatL ys)[i * 8 + j]? = (leCs y)[j]?
  | [], i, j, y, _, h => by simp at h
  | d :: ys, 0, j, y, hj, h => by
    simp at h
    subst h
    rw [flatL_cons, Nat.zero_mul, Nat.zero_add, List.getElem?_append_left (by simpa [leCs] using hj)]
  | d :: ys, i + 1, j, y, hj, h => by
    rw [flatL_cons, List.getElem?_append_right (by simp [leCs]; omega), show (i + 1) * 8 + j - (leCs d).length = i * 8 + j by simp [leCs]; omega]
    exact flatL_get ys i j y hj (by simpa using h)
theorem flatL_one (ys : List LeM) : ∀ u ∈ flatL ys, u.oneCell' = true := by
  intro u hu
  unfold flatL at hu
  rw [List.mem_flatMap] at hu
  obtain ⟨c, _, hc⟩ := hu
  simp [leCs] at hc
  rcases hc with rfl | rfl | rfl | rfl | rfl | rfl | rfl | rfl <;> rfl
theorem set_eight (a b c d e f g h x : Value) (l : List Value) (j : Nat) : (a :: b :: c :: d :: e :: f :: g :: h :: l).set (j + 8) x = a :: b :: c :: d :: e :: f :: g :: h :: l.set j x := rfl
/-- The cores of a lease turned to another place. -/
theorem flatL_set : ∀ (ys : List LeM) (i : Nat) (y : LeM) (A : Option Addr) (c : Nat), ys[i]? = some y → (flatL ys).set (i * 8 + 3) (.slice A y.1.cores.length c) = flatL (ys.set i (y.1, A, c))
  | [], i, y, A, c, h => by simp at h
  | d :: ys, 0, y, A, c, h => by
    simp at h
    subst h
    simp [flatL, leCs]
  | d :: ys, i + 1, y, A, c, h => by
    rw [List.set_cons_succ, flatL_cons, flatL_cons, ← flatL_set ys i y A c (by simpa using h), show (i + 1) * 8 + 3 = (i * 8 + 3) + 8 by omega]
    exact set_eight _ _ _ _ _ _ _ _ _ _ _
/-- Cells that a slice reads. -/
def RawR (W : World) (A : Option Addr) (cs : List Value) : Prop := ∀ k u, cs[k]? = some u → ∃ ad, A = some ad ∧ ad.block < W.heap.size ∧ W.cell? (ad.add k) = some u
theorem RawR.below {W W' : World} {A : Option Addr} {cs : List Value} (h : RawR W A cs) (hb : Below W.heap.size W W') : RawR W' A cs := fun k u hu => by
  obtain ⟨ad, rfl, h1, h2⟩ := h k u hu
  exact ⟨ad, rfl, Nat.lt_of_lt_of_le h1 hb.size, (hb.cell (p := ad.add k) (by rw [add_block]; exact h1)).trans h2⟩
/-- Leases that are read: with the places of their cores. -/
theorem ReadsL.raw {F : Nat → Prop} {W : World} {A : Option Addr} {xs : List Ls} (h : ReadsL F W A xs) : ∃ ys : List LeM, ys.map (·.1) = xs ∧ RawR W A (flatL ys) ∧ ∀ y ∈ ys, ReadsI W y.2.1 y.1.cores ∧ y.1.cores.length ≤ y.2.2 := by
  obtain ⟨ys, hl, hy⟩ := Open.list_of xs.length (fun i (y : LeM) => xs[i]? = some y.1 ∧ (∃ ad, A = some ad ∧ ad.block < W.heap.size ∧ ∀ j u, (leCs y)[j]? = some u → W.cell? (ad.add (i * 8 + j)) = some u) ∧ ReadsI W y.2.1 y.1.cores ∧ y.1.cores.length ≤ y.2.2) (fun i hi => by
    obtain ⟨ad, A', c, hA, h1, c0, c1, c2, c3, c4, c5, c6, c7, hr, hc, _, _, _⟩ := h i xs[i] (List.getElem?_eq_getElem hi)
    refine ⟨(xs[i], A', c), List.getElem?_eq_getElem hi, ⟨ad, hA, h1, fun j u hu => ?_⟩, hr.1, hc⟩
    match j, hu with
    | 0, hu => simp [leCs] at hu; subst hu; exact c0
    | 1, hu => simp [leCs] at hu; subst hu; rw [add_field _ _ 1 (by omega)]; exact c1
    | 2, hu => simp [leCs] at hu; subst hu; rw [add_field _ _ 2 (by omega)]; exact c2
    | 3, hu => simp [leCs] at hu; subst hu; rw [add_field _ _ 3 (by omega)]; exact c3
    | 4, hu => simp [leCs] at hu; subst hu; rw [add_field _ _ 4 (by omega)]; exact c4
    | 5, hu => simp [leCs] at hu; subst hu; rw [add_field _ _ 5 (by omega)]; exact c5
    | 6, hu => simp [leCs] at hu; subst hu; rw [add_field _ _ 6 (by omega)]; exact c6
    | 7, hu => simp [leCs] at hu; subst hu; rw [add_field _ _ 7 (by omega)]; exact c7
    | j + 8, hu => simp [leCs] at hu)
  refine ⟨ys, ?_, ?_, fun y hm => ?_⟩
  · apply List.ext_getElem?
    intro i
    rw [List.getElem?_map]
    cases hyi : ys[i]? with
    | none =>
      have := List.getElem?_eq_none_iff.1 hyi
      rw [List.getElem?_eq_none (by omega)]
      rfl
    | some y => rw [(hy i y hyi).1]; rfl
  · intro k u hu
    have hk := (List.getElem?_eq_some_iff.1 hu).1
    rw [flatL_len] at hk
    obtain ⟨y, hyi⟩ : ∃ y, ys[k / 8]? = some y := ⟨ys[k / 8]'(by omega), List.getElem?_eq_getElem _⟩
    have hg := flatL_get ys (k / 8) (k % 8) y (Nat.mod_lt _ (by omega)) hyi
    rw [show k / 8 * 8 + k % 8 = k by omega, hu] at hg
    obtain ⟨_, ⟨ad, hA, h1, hc⟩, _⟩ := hy _ y hyi
    have := hc _ u hg.symm
    rw [show k / 8 * 8 + k % 8 = k by omega] at this
    exact ⟨ad, hA, h1, this⟩
  · obtain ⟨i, hi⟩ := List.mem_iff_getElem?.1 hm
    exact (hy i y hi).2.2
theorem infoL : (Try.prog.info? 81).map (fun i => (i.zero, i.size, i.bytes)) = some (some (.agg #[.int .i64 0, .int .i64 0, .int .i64 0, .slice none 0 0, .int .i64 0, .int .i64 0, .int .i64 0, .bool false]), 8, 80) := by kernel_rfl

set_option maxRecDepth 100000 in
set_option maxHeartbeats 4000000 in
theorem cloneI_calls (A : Option Addr) (c0 : Nat) (ks : List Int) (W : World) (hlen : ks.length ≤ 100000) (hr : ReadsI W A ks) :
    Calls Try.prog 86 #[.slice A ks.length c0] W fun e W' => ∃ u, e = .returned u ∧ W'.ownsRow W.heap.size tI 1 u ks.length (ks.map (Value.int .i64)) ∧ Below W.heap.size W W' := by
  obtain ⟨i0, hi, hz0, hz1, hz2⟩ := info_parts infoInt
  have q41 : ∀ (w : World) (a : Option Addr) (n c n' c' : Nat), (binOp .eql 22 (.slice a n c) (.slice none n' c')).run Try.prog w = .ok (.bool a.isNone) w := fun w a n c n' c' => Lib.run_eql_slice_nil w _ _ a n c n' c' Try.underlying22
  cases A with
  | none =>
    have hx : ks = [] := by
      cases h : ks with
      | nil => rfl
      | cons y ys => obtain ⟨ad, hA, _⟩ := hr 0 _ (by rw [h]; rfl); cases hA
    subst hx
    clear hr
    go_enter Try.func86, Try.ntmps86
    go_wp2
    go_ret
    exact ⟨_, rfl, World.ownsRow_nil _ _ _ _, Below.refl _ _⟩
  | some ad =>
    have hr' := Lib.hid hr
    clear hr
    go_enter Try.func86, Try.ntmps86
    go_wp2_with (at_builtin; refine wpList_append_own _ rfl _ _ 22 rfl W.heap.size tI i0 _ 1 8 Try.underlying22 hi hz0 hz1 hz2 rfl (by decide) _ _ _ rfl (World.ownsRow_made W #[] 0 (Nat.le_refl _) (Nat.zero_le _) (by simp)) ad ks.length c0 (ks.map (Value.int .i64)) rfl (by simp) ?qc2 (by intro z hz; obtain ⟨y, _, rfl⟩ := List.mem_map.1 hz; rfl) (by first | omega | (unfold maxLen; omega)) (by omega) (by simp) ?_)
    case qc2 =>
      intro j u hj
      obtain ⟨ad', hA, _, hc⟩ := (show ∃ ad', some ad = some ad' ∧ ad'.block < W.heap.size ∧ W.cell? (ad'.add j) = some u from by rw [List.getElem?_map] at hj; obtain ⟨x, hx, rfl⟩ := Option.map_eq_some_iff.1 hj; exact hr'.out j x hx)
      injection hA with hA
      subst hA
      exact Lib.cell?_alloc_some _ hc
    intro v' w1 hown hgrow hnil
    go_wp2
    go_ret
    refine ⟨v', rfl, by simpa using hown, ?_⟩
    exact ((Below.refl _ W).alloc (Nat.le_refl _) _).grown hgrow (by simp) (by intro k hk; simp [Value.ownBlock] at hk; omega)
set_option maxRecDepth 100000 in
set_option maxHeartbeats 4000000 in
theorem cloneL_calls (A : Option Addr) (c0 : Nat) (ys : List LeM) (W : World) (hlen : ys.length ≤ 100000) (hr : RawR W A (flatL ys)) :
    Calls Try.prog 85 #[.slice A ys.length c0] W fun e W' => ∃ u, e = .returned u ∧ W'.ownsRow W.heap.size tL 8 u ys.length (flatL ys) ∧ Below W.heap.size W W' := by
  obtain ⟨i0, hi, hz0, hz1, hz2⟩ := info_parts infoL
  have q41 : ∀ (w : World) (a : Option Addr) (n c n' c' : Nat), (binOp .eql 55 (.slice a n c) (.slice none n' c')).run Try.prog w = .ok (.bool a.isNone) w := fun w a n c n' c' => Lib.run_eql_slice_nil w _ _ a n c n' c' Try.underlying55
  cases A with
  | none =>
    have hx : ys = [] := by
      cases h : ys with
      | nil => rfl
      | cons y ys => obtain ⟨ad, hA, _⟩ := hr 0 _ (by rw [h]; rfl); cases hA
    subst hx
    clear hr
    go_enter Try.func85, Try.ntmps85
    go_wp2
    go_ret
    exact ⟨_, rfl, World.ownsRow_nil _ _ _ _, Below.refl _ _⟩
  | some ad =>
    have hr' := Lib.hid hr
    clear hr
    go_enter Try.func85, Try.ntmps85
    go_wp2_with (at_builtin; refine wpList_append_own _ rfl _ _ 55 rfl W.heap.size tL i0 _ 8 80 Try.underlying55 hi hz0 hz1 hz2 rfl (by decide) _ _ _ rfl (World.ownsRow_made W #[] 0 (Nat.le_refl _) (Nat.zero_le _) (by simp)) ad ys.length c0 (flatL ys) rfl (flatL_len ys) ?qc2 (flatL_one ys) (by first | omega | (unfold maxLen; omega)) (by omega) (by simp) ?_)
    case qc2 =>
      intro j u hj
      obtain ⟨ad', hA, _, hc⟩ := hr'.out j u hj
      injection hA with hA
      subst hA
      exact Lib.cell?_alloc_some _ hc
    intro v' w1 hown hgrow hnil
    go_wp2
    go_ret
    refine ⟨v', rfl, by simpa using hown, ?_⟩
    exact ((Below.refl _ W).alloc (Nat.le_refl _) _).grown hgrow (by simp) (by intro k hk; simp [Value.ownBlock] at hk; omega)
end Go.Proofs.Ytkcmmghhghgdpaa.Agt
end
section
namespace Go.Proofs.Ytkcmmghhghgdpaa.Agt
open Go.RowKit Go.Shelf Go.Maps Go.Proofs.Ytkcmmghhghgdpaa.Iter Go.Proofs.Ytkcmmghhghgdpaa.SeqM Go.Proofs.Ytkcmmghhghgdpaa.Str Go.Proofs.YtkcmmghhghgdpaaW.PrintWords Go.Proofs.YtkcmmghhghgdpaaW.PrintLast
set_option linter.unusedVariables false
set_option linter.unusedSimpArgs false
/-- The cores of a lease lie in memory of their own. -/
def OwnC (B : Nat) (W : World) (y : LeM) : Prop := W.ownsRow B tI 1 (.slice y.2.1 y.1.cores.length y.2.2) y.1.cores.length (y.1.cores.map (Value.int .i64))
theorem own_lower' {W : World} {B B' e size n : Nat} {v : Value} {xs : List Value} (h : W.ownsRow B e size v n xs) (hb : B' ≤ B) : W.ownsRow B' e size v n xs := by
  refine ⟨h.1, ?_⟩
  rcases h.2 with hn | ⟨g, cap, cur, e, hg, rest⟩
  · exact .inl hn
  · exact .inr ⟨g, cap, cur, e, Nat.le_trans hb hg, rest⟩
theorem own_someL {W : World} {base e size n : Nat} {v : Value} {xs : List Value} (h : W.ownsRow base e size v n xs) (hn : 0 < n) : ∃ g c, v = .slice (some ⟨g, 0, none⟩) n c := by
  rcases h.2 with ⟨_, h0⟩ | ⟨g, cap, cur, rfl, _⟩
  · omega
  · exact ⟨g, cap, rfl⟩
theorem OwnC.lower {B B' : Nat} {W : World} {y : LeM} (h : OwnC B W y) (hb : B' ≤ B) : OwnC B' W y := own_lower' h hb
theorem OwnC.below {B : Nat} {W W' : World} {y : LeM} (h : OwnC B W y) (hb : Below W.heap.size W W') : OwnC B W' y := own_below h hb
theorem OwnC.set {B : Nat} {W : World} {y : LeM} {g k : Nat} {u : Value} {cs : Array Value} {t : TypeId} (h : OwnC B W y) (hg : W.heap[g]? = some (.cells cs t (0, 0))) (ht : tI ≠ t) : OwnC B (W.setCell ⟨g, k, none⟩ u) y :=
  Str.own_move h fun m hm => by
    obtain ⟨_, _, cur, hc⟩ := own_block h hm
    exact Below.heap_setCell W ⟨g, k, none⟩ u m (two_types hc hg ht)
theorem OwnC.reads {B : Nat} {W : World} {y : LeM} (h : OwnC B W y) : ReadsI W y.2.1 y.1.cores := (reads_row h).1
set_option maxRecDepth 100000 in
set_option maxHeartbeats 8000000 in
theorem leases_calls (A : Option Addr) (c0 : Nat) (ys : List LeM) (W : World) (hlen : ys.length ≤ 100000) (hr : RawR W A (flatL ys)) (hc : ∀ y ∈ ys, ReadsI W y.2.1 y.1.cores ∧ y.1.cores.length ≤ 100000) :
    Calls Try.prog 57 #[.slice A ys.length c0] W fun e W' => ∃ u, e = .returned u ∧ (∃ zs : List LeM, zs.map (·.1) = ys.map (·.1) ∧ W'.ownsRow W.heap.size tL 8 u ys.length (flatL zs) ∧ ∀ z ∈ zs, OwnC W.heap.size W' z) ∧ Below W.heap.size W W' := by
  have hr' := Lib.hid hr
  have hc' := Lib.hid hc
  clear hr hc
  go_enter Try.func57, Try.ntmps57
  go_wp2_with ((with_reducible refine gate_callee (f := 85) rfl ?_); refine goesL_ (some 6) rfl rfl Try.func85 (by kernel_rfl) rfl #[.slice A ys.length c0] rfl (by (try simp only [List.map_toArray, List.map_cons, List.map_nil]); first | done | rfl) ?_; (with_reducible refine (cloneL_calls A c0 ys _ hlen hr'.out).mono ?_); rintro e w1 ⟨u, rfl, u1, b1⟩; obtain ⟨A2, c2, rfl⟩ := slice_of_own u1; refine ⟨_, rfl, ?_⟩; have u1' := Lib.hid u1; have b1' := Lib.hid b1; clear u1 b1)
  go_loopw [9] (fun iv wr => ∃ (i : Nat) (zs : List LeM), iv = .int .i64 (i : Int) ∧ i ≤ ys.length ∧ zs.map (·.1) = ys.map (·.1) ∧ wr.ownsRow W.heap.size tL 8 (.slice A2 ys.length c2) ys.length (flatL zs) ∧
      (∀ j z, j < i → zs[j]? = some z → OwnC W.heap.size wr z) ∧ (∀ j, i ≤ j → zs[j]? = ys[j]?) ∧ Below W.heap.size W wr)
    (fun iv _ => ys.length - (intOf iv).toNat)
  case atStart => exact ⟨0, ys, rfl, Nat.zero_le _, rfl, u1'.out, (fun j z h => by omega), (fun j _ => rfl), b1'.out⟩
  case round =>
    obtain ⟨i, zs, rfl, hi, hmap, hown, hdone, hrest, hbel⟩ := hrel
    have hmap' := Lib.hid hmap
    have hown' := Lib.hid hown
    have hdone' := Lib.hid hdone
    have hrest' := Lib.hid hrest
    have hbel' := Lib.hid hbel
    have hzl : zs.length = ys.length := by have := congrArg List.length hmap; simpa using this
    by_cases hlt : i < ys.length
    · obtain ⟨y, hy⟩ : ∃ y, ys[i]? = some y := ⟨ys[i], List.getElem?_eq_getElem hlt⟩
      have hz : zs[i]? = some y := by rw [hrest i (Nat.le_refl _)]; exact hy
      obtain ⟨g, cc, hsl⟩ := own_someL hown (by omega)
      injection hsl with hA2 _ hcc
      subst hA2
      subst hcc
      have q3 := hown.cellAt (i * 8 + 3) (by omega)
      rw [flatL_get zs i 3 y (by omega) hz] at q3
      simp only [leCs, List.getElem?_cons_zero, List.getElem?_cons_succ] at q3
      obtain ⟨hri, hcl⟩ := hc'.out y (List.mem_of_getElem? hy)
      have hri' := Lib.hid (hri.below hbel)
      have hz' := Lib.hid hz
      have hy' := Lib.hid hy
      clear hmap hown hdone hrest hbel hri hz hy
      go_wp2_with ((with_reducible refine gate_callee (f := 86) rfl ?_); refine goesL_ (some 19) rfl rfl Try.func86 (by kernel_rfl) rfl #[.slice y.2.1 y.1.cores.length y.2.2] rfl (by (try simp only [List.map_toArray, List.map_cons, List.map_nil]); first | done | rfl) ?_; (with_reducible refine (cloneI_calls y.2.1 y.2.2 y.1.cores _ hcl hri'.out).mono ?_); rintro e w2 ⟨u, rfl, u2, b2⟩; obtain ⟨A3, c3, rfl⟩ := slice_of_own u2; refine ⟨_, rfl, ?_⟩; have hown2 := own_below hown'.out b2; obtain ⟨cur3, hg3⟩ := (own_block hown2 (k := g) rfl).2.2; have b2' := Lib.hid b2; have f3 := hown2.frozenAt (i * 8 + 3); have q3 := hown2.cellAt (i * 8 + 3) (by omega); rw [flatL_get zs i 3 y (by omega) hz'.out] at q3; simp only [leCs, List.getElem?_cons_zero, List.getElem?_cons_succ] at q3; have hst3 := (hown2.stored (i * 8 + 3) (.slice A3 y.1.cores.length c3)).1; rw [flatL_set zs i y A3 c3 hz'.out] at hst3; have hs3 := Lib.hid hst3; have ho3 := Lib.hid ((show OwnC wr.heap.size w2 (y.1, A3, c3) from u2).lower hbel'.out.size |>.set (k := i * 8 + 3) (u := .slice A3 y.1.cores.length c3) hg3 (by decide)); have hbs := Lib.hid ((hbel'.out.trans (b2.mono hbel'.out.size)).setCell (p := ⟨g, i * 8 + 3, none⟩) ((own_block hown2 (k := g) rfl).1) (.slice A3 y.1.cores.length c3)); have hg3 := Lib.hid hg3; clear hown2 u2 b2 hst3)
      go_roundw
      case rel =>
        refine ⟨i + 1, zs.set i (y.1, A3, c3), by go_num, by omega, ?_, hs3.out, ?_, ?_, hbs.out⟩
        · apply List.ext_getElem?
          intro j
          rw [List.getElem?_map, List.getElem?_set]
          by_cases hj : i = j
          · subst hj
            rw [if_pos rfl, if_pos (by omega), ← hmap'.out, List.getElem?_map, hz'.out]
            rfl
          · rw [if_neg hj, ← List.getElem?_map, hmap'.out]
        · intro j z hj hz2
          rw [List.getElem?_set] at hz2
          by_cases hj2 : i = j
          · subst hj2
            rw [if_pos rfl, if_pos (by omega)] at hz2
            obtain rfl := Option.some.inj hz2
            exact ho3.out
          · rw [if_neg hj2] at hz2
            exact (((hdone'.out j z (by omega) hz2).below b2'.out).set hg3.out (by decide))
        · intro j hj
          rw [List.getElem?_set, if_neg (by omega)]
          exact hrest'.out j (by omega)
      case measure => simp [intOf]; omega
    · have hi' : i = ys.length := by omega
      subst hi'
      have hall := Lib.hid (show ∀ z ∈ zs, OwnC W.heap.size wr z from fun z hz => by
        obtain ⟨j, hj⟩ := List.mem_iff_getElem?.1 hz
        exact hdone j z (by have := (List.getElem?_eq_some_iff.1 hj).1; omega) hj)
      clear hmap hown hdone hrest hbel
      go_wp2
      go_ret
      exact ⟨_, rfl, ⟨zs, hmap'.out, hown'.out, by intros; apply hall.out; assumption⟩, hbel'.out⟩
end Go.Proofs.Ytkcmmghhghgdpaa.Agt
end
section
namespace Go.Proofs.Ytkcmmghhghgdpaa.Agt
open Go.RowKit Go.Shelf Go.Maps Go.Proofs.Ytkcmmghhghgdpaa.Iter Go.Proofs.Ytkcmmghhghgdpaa.SeqM Go.Proofs.Ytkcmmghhghgdpaa.Str Go.Proofs.YtkcmmghhghgdpaaW.PrintWords Go.Proofs.YtkcmmghhghgdpaaW.PrintLast
set_option linter.unusedVariables false
set_option linter.unusedSimpArgs false
/-- What an agent always is. -/
structure AgOk (S : Ag) : Prop where
  clock : 0 ≤ S.clock ∧ S.clock ≤ 9223372036854775807
  nco : S.nco ≤ 64
  short : 0 ≤ S.short
  jobs : S.jobs.length ≤ 64
  job : ∀ j ∈ S.jobs, j.le.cores.length ≤ 64 ∧ GoodG j.th ∧ 0 ≤ j.frm ∧ j.frm ≤ S.clock ∧ 0 ≤ j.had
  tasks : S.jobs.Pairwise fun x y => x.le.task < y.le.task
set_option maxRecDepth 100000 in
set_option maxHeartbeats 4000000 in
theorem done_calls (B : Nat) (t : Jm) (j : Jb) (W : World) (h : JobM B t j W) : Calls Try.prog 60 #[ptr t.J] W fun e W' => e = .returned (.bool (doneJ j)) ∧ ∃ m, W' = W.drewN m := by
  have d9 := h.blk.cell 9
  have d10 := h.blk.cell 10
  simp only [List.getElem?_toArray, List.getElem?_cons_zero, List.getElem?_cons_succ] at d9 d10
  clear h
  by_cases h1 : 0 < j.work
  · have x1 : decide (0 < j.work) = true := decide_eq_true h1
    by_cases h2 : j.work ≤ j.had
    · have x2 : decide (j.work ≤ j.had) = true := decide_eq_true h2
      have hv := Lib.hid (show doneJ j = true by unfold doneJ; rw [x1, x2]; rfl)
      clear h1 h2
      go_enter Try.func60, Try.ntmps60
      go_wp2
      go_quiet (fail)
      go_wp2
      go_ret
      exact ⟨by rw [hv.out]; rfl, _, rfl⟩
    · have x2 : decide (j.work ≤ j.had) = false := decide_eq_false h2
      have hv := Lib.hid (show doneJ j = false by unfold doneJ; rw [x1, x2]; rfl)
      clear h1 h2
      go_enter Try.func60, Try.ntmps60
      go_wp2
      go_quiet (fail)
      go_wp2
      go_ret
      exact ⟨by rw [hv.out]; rfl, _, rfl⟩
  · have x1 : decide (0 < j.work) = false := decide_eq_false h1
    have hv := Lib.hid (show doneJ j = false by unfold doneJ; rw [x1]; rfl)
    clear h1
    go_enter Try.func60, Try.ntmps60
    go_wp2
    go_quiet (fail)
    go_wp2
    go_ret
    exact ⟨by rw [hv.out]; rfl, _, rfl⟩
/-- The leases of those that are done, with the places of their cores. -/
def doneM (l : List (Jb × Jm)) : List LeM := (l.filter fun p => doneJ p.1).map fun p => (p.1.le, p.2.A, p.2.c)
theorem doneM_take (l : List (Jb × Jm)) (i : Nat) (p : Jb × Jm) (h : l[i]? = some p) : doneM (l.take (i + 1)) = if doneJ p.1 = true then doneM (l.take i) ++ [(p.1.le, p.2.A, p.2.c)] else doneM (l.take i) := by
  unfold doneM
  rw [List.take_add_one, h]
  show ((l.take i ++ [p]).filter _).map _ = _
  rw [List.filter_append]
  cases hd : doneJ p.1 with
  | true => simp [hd]
  | false => simp [hd]
theorem doneM_len (l : List (Jb × Jm)) : (doneM l).length ≤ l.length := by unfold doneM; rw [List.length_map]; exact List.length_filter_le _ _
theorem doneM_fst : ∀ (jobs : List Jb) (js : List Jm), js.length = jobs.length → (doneM (jobs.zip js)).map (·.1) = (jobs.filter doneJ).map (·.le)
  | [], _, _ => rfl
  | j :: jobs, [], h => by simp at h
  | j :: jobs, t :: js, h => by
    have ih := doneM_fst jobs js (by simpa using h)
    unfold doneM at ih ⊢
    rw [List.zip_cons_cons, List.filter_cons, List.filter_cons]
    cases hd : doneJ j with
    | true => simp only [if_true, List.map_cons]; rw [ih]
    | false => simp only [if_neg (by simp : ¬ (false = true))]; exact ih
theorem zip_get {jobs : List Jb} {js : List Jm} {i : Nat} {j : Jb} {t : Jm} (h1 : jobs[i]? = some j) (h2 : js[i]? = some t) : (jobs.zip js)[i]? = some (j, t) := by
  rw [List.getElem?_zip_eq_some]
  exact ⟨h1, h2⟩
theorem flatL_one' (y : LeM) : ∀ u ∈ leCs y, u.oneCell' = true := fun u hu => flatL_one [y] u (by simpa [flatL] using hu)
theorem cells_newL (w : World) (cs : List Value) (t : TypeId) : ∀ j u, cs[j]? = some u → (w.alloc (.cells cs.toArray t)).cell? (Addr.add ⟨w.heap.size, 0, none⟩ j) = some u := fun j u h => by
  rw [Addr.add_lit, Nat.zero_add, (Blk.new w t cs.toArray).cell j]
  simpa using h
/-- A job among those of an agent. -/
theorem AgM.at {B a : Nat} {vs vj : Value} {js : List Jm} {S : Ag} {W : World} (h : AgM B a vs vj js S W) {i : Nat} (hi : i < S.jobs.length) : ∃ j t, S.jobs[i]? = some j ∧ js[i]? = some t ∧ JobM B t j W := by
  have hl : i < js.length := by rw [h.len]; exact hi
  exact ⟨S.jobs[i], js[i], List.getElem?_eq_getElem hi, List.getElem?_eq_getElem hl, h.job i _ _ (List.getElem?_eq_getElem hl) (List.getElem?_eq_getElem hi)⟩
/-- A job's pointer in the agent's row. -/
theorem AgM.ptrAt {B a : Nat} {vs vj : Value} {js : List Jm} {S : Ag} {W : World} (h : AgM B a vs vj js S W) {i : Nat} {t : Jm} (ht : js[i]? = some t) : ∃ g c, vj = .slice (some ⟨g, 0, none⟩) S.jobs.length c ∧ W.cell? ⟨g, i, none⟩ = some (ptr t.J) := by
  have hl := (List.getElem?_eq_some_iff.1 ht).1
  obtain ⟨g, c, hv⟩ := own_someL h.jrow (by omega)
  have hrow := h.jrow
  rw [hv] at hrow
  refine ⟨g, c, by rw [hv, h.len], ?_⟩
  have := hrow.cellAt i (by omega)
  rw [this, List.getElem?_map, ht]
  rfl
theorem raw_own {W : World} {B e size : Nat} {A : Option Addr} {n c : Nat} {cs : List Value} (h : W.ownsRow B e size (.slice A n c) n cs) : RawR W A cs := fun k u hu => by
  rcases h.2 with ⟨h1, h0⟩ | ⟨g, cap, cur, hv, hb, hg, _⟩
  · have h2 := h.1
    have := (List.getElem?_eq_some_iff.1 hu).1
    rw [h0] at h2
    omega
  · injection hv with e1 _ _
    subst e1
    exact ⟨_, rfl, (Array.getElem?_eq_some_iff.1 hg).1, h.cells (g := g) rfl k u hu⟩
set_option maxRecDepth 100000 in
set_option maxHeartbeats 8000000 in
theorem fin_calls (B a : Nat) (vs vj : Value) (js : List Jm) (S : Ag) (W : World) (h : AgM B a vs vj js S W) (hok : AgOk S) :
    Calls Try.prog 34 #[ptr a] W fun e W' => ∃ u, e = .returned u ∧ (∃ zs : List LeM, zs.map (·.1) = finG S ∧ W'.ownsRow W.heap.size tL 8 u zs.length (flatL zs) ∧ ∀ z ∈ zs, OwnC W.heap.size W' z) ∧ Below W.heap.size W W' := by
  obtain ⟨i0, hif, hz0, hz1, hz2⟩ := info_parts infoL
  have h' := Lib.hid h
  have hjl := hok.jobs
  have hok' := Lib.hid hok
  have d11 := h.blk.cell 11
  simp only [List.getElem?_toArray, List.getElem?_cons_zero, List.getElem?_cons_succ] at d11
  obtain ⟨AJ, cj, hvj⟩ := slice_of_own h.jrow
  rw [h.len] at hvj
  subst hvj
  have hzl : (S.jobs.zip js).length = S.jobs.length := by rw [List.length_zip, h.len]; simp
  clear h hok
  go_enter Try.func34, Try.ntmps34
  go_wp2
  go_loopw [3, 13] (fun mv iv wr => ∃ (i : Nat) (m : Value), m = mv ∧ iv = .int .i64 (i : Int) ∧ i ≤ S.jobs.length ∧ wr.ownsRow W.heap.size tL 8 m (doneM ((S.jobs.zip js).take i)).length (flatL (doneM ((S.jobs.zip js).take i))) ∧ Below W.heap.size W wr)
    (fun _ iv _ => S.jobs.length - (intOf iv).toNat)
  case atStart => exact ⟨0, _, rfl, rfl, Nat.zero_le _, World.ownsRow_nil _ _ _ _, Below.refl _ _⟩
  case round =>
    obtain ⟨i, m, rfl, rfl, hi, hown, hbel⟩ := hrel
    have hml := doneM_len ((S.jobs.zip js).take i)
    rw [List.length_take] at hml
    by_cases hlt : i < S.jobs.length
    · have hm2 := h'.out.below hbel
      obtain ⟨j, t, hj, ht, hjm⟩ := hm2.at hlt
      obtain ⟨g, c2, hvj, p0⟩ := hm2.ptrAt ht
      injection hvj with hA _ hc2
      subst hA
      subst hc2
      have hst := doneM_take (S.jobs.zip js) i (j, t) (zip_get hj ht)
      obtain ⟨ml, hmle⟩ : ∃ ml, doneM ((S.jobs.zip js).take i) = ml := ⟨_, rfl⟩
      rw [hmle] at hst hown hml
      have hown' := Lib.hid hown
      have hbel' := Lib.hid hbel
      have hjm' := Lib.hid hjm
      cases hd : doneJ j with
      | true =>
        rw [show doneJ (j, t).1 = true from hd, if_pos rfl] at hst
        have hst' := Lib.hid hst
        have hd' := Lib.hid hd
        clear hm2 hj ht hjm hst hmle hown hbel hd
        go_wp2_with (first | ((with_reducible refine gate_callee (f := 60) rfl ?_); refine goesL_ (some 18) rfl rfl Try.func60 (by kernel_rfl) rfl #[ptr t.J] rfl (by (try simp only [List.map_toArray, List.map_cons, List.map_nil]); first | done | rfl) ?_; (with_reducible refine (done_calls B t j _ hjm'.out).mono ?_); rintro e w2 ⟨rfl, md, hw2⟩; refine ⟨_, rfl, ?_⟩; have hb2 := Lib.hid (show Below W.heap.size W w2 by rw [hw2]; exact pw_below_drewN hbel'.out md); have ho2 := Lib.hid (show w2.ownsRow W.heap.size tL 8 m ml.length (flatL ml) by rw [hw2]; exact hown'.out); have bJ := (show Blk w2 t.J tJ (jbCells j t) by rw [hw2]; exact hjm'.out.blk); clear hw2; have e0 := bJ.cell 0; have e1 := bJ.cell 1; have e2 := bJ.cell 2; have e3 := bJ.cell 3; have e4 := bJ.cell 4; have e5 := bJ.cell 5; have e6 := bJ.cell 6; have e7 := bJ.cell 7; simp only [List.getElem?_toArray, List.getElem?_cons_zero, List.getElem?_cons_succ] at e0 e1 e2 e3 e4 e5 e6 e7; have hb3 := Lib.hid (hb2.out.alloc hb2.out.size (.cells (leCs (j.le, t.A, t.c)).toArray tL)); have ho3 := Lib.hid (ho2.out.alloc (.cells (leCs (j.le, t.A, t.c)).toArray tL)); have hsz2 := hb2.out.size; simp only [hd'.out]) | ((at_builtin; refine wpList_append_own _ rfl _ _ 55 rfl W.heap.size tL i0 _ 8 80 Try.underlying55 hif hz0 hz1 hz2 rfl (by decide) _ _ _ rfl ho3.out ⟨w2.heap.size, 0, none⟩ 1 1 (leCs (j.le, t.A, t.c)) rfl rfl (cells_newL _ _ _) (flatL_one' _) (by first | omega | (unfold maxLen; omega)) (by omega) (by simp; omega) ?_)))
        intro v8 w8 hown8 hgr8 _
        have ho8 := Lib.hid hown8
        have hb8 := Lib.hid (below_grown hb3.out hgr8 (Nat.le_refl _) (fun k hk => (own_block ho3.out hk).1))
        clear hown8 hgr8
        go_wp2
        go_roundw
        case rel => exact ⟨i + 1, _, rfl, by go_num, by omega, by rw [hst'.out]; simp only [flatL_app, List.length_append]; exact ho8.out, hb8.out⟩
        case measure => simp [intOf]; omega
      | false =>
        rw [show doneJ (j, t).1 = false from hd, if_neg (by simp)] at hst
        have hst' := Lib.hid hst
        have hd' := Lib.hid hd
        clear hm2 hj ht hjm hst hmle hown hbel hd
        go_wp2_with ((with_reducible refine gate_callee (f := 60) rfl ?_); refine goesL_ (some 18) rfl rfl Try.func60 (by kernel_rfl) rfl #[ptr t.J] rfl (by (try simp only [List.map_toArray, List.map_cons, List.map_nil]); first | done | rfl) ?_; (with_reducible refine (done_calls B t j _ hjm'.out).mono ?_); rintro e w2 ⟨rfl, md, hw2⟩; refine ⟨_, rfl, ?_⟩; have hb2 := Lib.hid (show Below W.heap.size W w2 by rw [hw2]; exact pw_below_drewN hbel'.out md); have ho2 := Lib.hid (show w2.ownsRow W.heap.size tL 8 m ml.length (flatL ml) by rw [hw2]; exact hown'.out); have bJ := (show Blk w2 t.J tJ (jbCells j t) by rw [hw2]; exact hjm'.out.blk); clear hw2; have e0 := bJ.cell 0; have e1 := bJ.cell 1; have e2 := bJ.cell 2; have e3 := bJ.cell 3; have e4 := bJ.cell 4; have e5 := bJ.cell 5; have e6 := bJ.cell 6; have e7 := bJ.cell 7; simp only [List.getElem?_toArray, List.getElem?_cons_zero, List.getElem?_cons_succ] at e0 e1 e2 e3 e4 e5 e6 e7; have hb3 := Lib.hid (hb2.out.alloc hb2.out.size (.cells (leCs (j.le, t.A, t.c)).toArray tL)); have ho3 := Lib.hid (ho2.out.alloc (.cells (leCs (j.le, t.A, t.c)).toArray tL)); have hsz2 := hb2.out.size; simp only [hd'.out])
        go_roundw
        case rel => exact ⟨i + 1, _, rfl, by go_num, by omega, by rw [hst'.out]; exact ho2.out, hb2.out⟩
        case measure => simp [intOf]; omega
    · have hi' : i = S.jobs.length := by omega
      subst hi'
      rw [List.take_of_length_le (by omega)] at hown hml
      have hfst := Lib.hid (doneM_fst S.jobs js h'.out.len)
      have hbel' := Lib.hid hbel
      have hcs := Lib.hid (show ∀ y ∈ doneM (S.jobs.zip js), ReadsI wr y.2.1 y.1.cores ∧ y.1.cores.length ≤ 100000 from fun y hy => by
        unfold doneM at hy
        obtain ⟨⟨j, t⟩, hp, rfl⟩ := List.mem_map.1 hy
        obtain ⟨k, hk⟩ := List.mem_iff_getElem?.1 (List.mem_filter.1 hp).1
        rw [List.getElem?_zip_eq_some] at hk
        have hjm := (h'.out.below hbel).job k t j hk.2 hk.1
        exact ⟨(reads_row hjm.cores).1, by have := (hok'.out.job j (List.mem_of_getElem? hk.1)).1; show j.le.cores.length ≤ 100000; omega⟩)
      obtain ⟨ml, hmle⟩ : ∃ ml, doneM (S.jobs.zip js) = ml := ⟨_, rfl⟩
      rw [hmle] at hown hml hfst hcs
      obtain ⟨Am, cm, rfl⟩ := slice_of_own hown
      have hraw := Lib.hid (raw_own hown)
      have hl5 : ml.length ≤ 100000 := by omega
      clear hown hbel hmle
      go_wp2_with ((with_reducible refine gate_callee (f := 57) rfl ?_); refine goesL_ (some 28) rfl rfl Try.func57 (by kernel_rfl) rfl #[.slice Am ml.length cm] rfl (by (try simp only [List.map_toArray, List.map_cons, List.map_nil]); first | done | rfl) ?_; (with_reducible refine (leases_calls Am cm ml _ hl5 hraw.out hcs.out).mono ?_); go_loud (rintro e w9 ⟨u, rfl, ⟨zs, hz1, hz2, hz3⟩, b9⟩; refine ⟨_, rfl, ?_⟩; have hzl2 : zs.length = ml.length := (by have h9 := congrArg List.length hz1; simpa using h9); rw [← hzl2] at hz2; rw [hfst.out] at hz1; have hz1 := Lib.hid hz1; have hz2 := Lib.hid (own_lower' hz2 hbel'.out.size); have hz3 := Lib.hid (fun z hz => (hz3 z hz).lower hbel'.out.size)))
      go_ret
      exact ⟨_, rfl, ⟨zs, hz1.out, hz2.out, by intros; apply hz3.out; assumption⟩, hbel'.out.trans (b9.mono hbel'.out.size)⟩
end Go.Proofs.Ytkcmmghhghgdpaa.Agt
end
section
namespace Go.Proofs.Ytkcmmghhghgdpaa.Agt
open Go.RowKit Go.Shelf Go.Maps Go.Proofs.Ytkcmmghhghgdpaa.Iter Go.Proofs.Ytkcmmghhghgdpaa.SeqM Go.Proofs.Ytkcmmghhghgdpaa.Str Go.Proofs.YtkcmmghhghgdpaaW.PrintWords Go.Proofs.YtkcmmghhghgdpaaW.PrintLast
set_option linter.unusedVariables false
set_option linter.unusedSimpArgs false
abbrev leV (x : Ls) (A : Option Addr) (c : Nat) : Value := .agg #[.int .i64 x.task, .int .i64 x.queue, .int .i64 x.node, .slice A x.cores.length c, .int .i64 x.mem, .int .i64 x.since, .int .i64 x.til, .bool x.stop]
/-- A new job's cells, before its lease is told. -/
abbrev newC (work : Int) (G : Nat) : Array Value := #[.int .i64 0, .int .i64 0, .int .i64 0, .slice none 0 0, .int .i64 0, .int .i64 0, .int .i64 0, .bool false, .int .i64 0, .int .i64 work, .int .i64 0, ptr G]
def FoundJ (jobs : List Jb) (js : List Jm) (x : Ls) (e : Ending) : Prop := ∃ (p : Nat) (j : Jb) (u : Jm), (∀ (m : Nat) (k : Jb), m < p → jobs[m]? = some k → k.le.task ≠ x.task) ∧ jobs[p]? = some j ∧ j.le.task = x.task ∧ js[p]? = some u ∧ e = .returned (ptr u.J)
def NewJ (jobs : List Jb) (x : Ls) (t : Ts) (W W' : World) (e : Ending) : Prop := (∀ j ∈ jobs, j.le.task ≠ x.task) ∧ ∃ (J G : Nat) (v : Value), e = .returned (ptr J) ∧ W.heap.size ≤ J ∧ Blk W' J tJ (newC t.work G) ∧ Grp tG tC W.heap.size G v (joinsF 0 [] t.tk) W'
theorem mt_blk {G R : Nat} {r : Option Nat} {t : TypeId} {cs : Array Value} {X Y : World} (h : Blk X R t cs) (hm : Mt G r X Y) (h1 : R ≠ G) (h2 : r ≠ some R) : Blk Y R t cs := (hm.block R h.lt h1 (fun e => h2 e.symm)).trans h
theorem below_drewN' {B n : Nat} {w w' : World} (h : Below B w w') : Below B w (w'.drewN n) := ⟨h.os, h.tape, h.output, h.size, h.block⟩
theorem fits_tk {t : Ts} (h : fitsT t = true) : t.tk.length ≤ 16 ∧ ∀ k ∈ t.tk, 1 ≤ k ∧ k ≤ 16 := by
  unfold fitsT at h
  simp only [Bool.and_eq_true, decide_eq_true_eq, Bool.not_eq_true', List.any_eq_false, Bool.or_eq_true, not_or] at h
  obtain ⟨h1, h2, h3, h4⟩ := h
  exact ⟨by omega, fun k hk => by have := h3 k hk; omega⟩
set_option maxRecDepth 100000 in
set_option maxHeartbeats 8000000 in
theorem job_calls (B a : Nat) (vs vj : Value) (js : List Jm) (S : Ag) (x : Ls) (A : Option Addr) (c : Nat) (t : Ts) (At : Option Addr) (ct : Nat) (W : World) (h : AgM B a vs vj js S W) (hjl : S.jobs.length ≤ 1000) (hfit : fitsT t = true) (hr : ReadsI W At t.tk) :
    Calls Try.prog 58 #[ptr a, leV x A c, taskV t At ct] W fun e W' =>
      (FoundJ S.jobs js x e ∨ NewJ S.jobs x t W W' e) ∧ Below W.heap.size W W' := by
  obtain ⟨htl, htk⟩ := fits_tk hfit
  have htk' := Lib.hid htk
  have b0 := ((Below.refl W.heap.size W).alloc (Nat.le_refl _) (.cells (leC x A c) tL)).alloc (by simp) (.cells (taskC t At ct) tT)
  have hag := Lib.hid (h.below b0)
  have hr' := Lib.hid (hr.below b0)
  have bX := (Blk.new W tL (leC x A c)).alloc (.cells (taskC t At ct) tT)
  have bT := Blk.new (W.alloc (.cells (leC x A c) tL)) tT (taskC t At ct)
  simp only [World.size_alloc] at bT
  have e0 := bX.cell 0
  have z4 := bT.cell 4
  have z5 := bT.cell 5
  have d11 := ((h.blk.alloc (.cells (leC x A c) tL)).alloc (.cells (taskC t At ct) tT)).cell 11
  simp only [List.getElem?_toArray, List.getElem?_cons_zero, List.getElem?_cons_succ] at e0 z4 z5 d11
  have bX' := Lib.hid bX
  have bT' := Lib.hid bT
  have hb0 := Lib.hid b0
  obtain ⟨AJ, cj, hvj⟩ := slice_of_own h.jrow
  rw [h.len] at hvj
  subst hvj
  obtain ⟨W0, hW0⟩ : ∃ W0, (W.alloc (.cells (leC x A c) tL)).alloc (.cells (taskC t At ct) tT) = W0 := ⟨_, rfl⟩
  have hs0 : W0.heap.size = W.heap.size + 2 := by rw [← hW0]; simp
  clear h hr htk bX bT b0
  rw [hW0] at hag hr' bX' bT' hb0 e0 z4 z5 d11
  go_enter Try.func58, Try.ntmps58
  go_wp2
  clear e0 z4 z5 d11
  go_loopw [17] (fun iv wr => ∃ (i : Nat), iv = .int .i64 (i : Int) ∧ i ≤ S.jobs.length ∧ (∀ (m : Nat) (k : Jb), m < i → S.jobs[m]? = some k → k.le.task ≠ x.task) ∧ Below W0.heap.size W0 wr)
    (fun iv _ => S.jobs.length - (intOf iv).toNat)
  case atStart => exact ⟨0, rfl, Nat.zero_le _, (fun m k hm => by omega), Below.refl _ _⟩
  case round =>
    obtain ⟨i, rfl, hi, hno, hbel⟩ := hrel
    have hbel' := Lib.hid hbel
    have bX2 := bX'.out.below hbel bX'.out.lt
    have e0 := bX2.cell 0
    simp only [List.getElem?_toArray, List.getElem?_cons_zero, List.getElem?_cons_succ] at e0
    by_cases hlt : i < S.jobs.length
    · have hm2 := hag.out.below hbel
      obtain ⟨j, u, hj, hu, hjm⟩ := hm2.at hlt
      obtain ⟨g, c2, hvj, p0⟩ := hm2.ptrAt hu
      injection hvj with hA _ hc2
      subst hA
      subst hc2
      have q0 := hjm.blk.cell 0
      simp only [List.getElem?_toArray, List.getElem?_cons_zero, List.getElem?_cons_succ] at q0
      have hj' := Lib.hid hj
      have hu' := Lib.hid hu
      by_cases he : j.le.task = x.task
      · have x1 : (j.le.task == x.task) = true := beq_iff_eq.mpr he
        have he' := Lib.hid he
        have hno' := Lib.hid hno
        clear hm2 hj hu hjm hbel he hno bX2
        go_wp2
        go_quiet (fail)
        go_wp2
        go_ret
        exact ⟨.inl ⟨i, j, u, hno'.out, hj'.out, he'.out, hu'.out, rfl⟩, hb0.out.trans ((below_drewN' (hbel'.out)).mono hb0.out.size)⟩
      · have x1 : (j.le.task == x.task) = false := beq_eq_false_iff_ne.mpr he
        have hno' := Lib.hid (show ∀ (m : Nat) (k : Jb), m < i + 1 → S.jobs[m]? = some k → k.le.task ≠ x.task from fun m k hm hk => by
          by_cases hmi : m = i
          · subst hmi
            rw [hj] at hk
            obtain rfl := Option.some.inj hk
            exact he
          · exact hno m k (by omega) hk)
        clear hm2 hj hu hjm hbel he hno bX2
        go_wp2
        go_quiet (fail)
        go_wp2
        go_roundw
        case rel => exact ⟨i + 1, by go_num, by omega, hno'.out, by first | exact hbel'.out | exact hbel'.out.drew | exact pw_below_drewN hbel'.out _⟩
        case measure => simp [intOf]; omega
    · have hi' : i = S.jobs.length := by omega
      subst hi'
      have hnone := Lib.hid (show ∀ j ∈ S.jobs, j.le.task ≠ x.task from fun j hj => by
        obtain ⟨m, hm⟩ := List.mem_iff_getElem?.1 hj
        exact hno m j (List.getElem?_eq_some_iff.1 hm).1 hm)
      have bT2 := bT'.out.below hbel bT'.out.lt
      have z4 := bT2.cell 4
      have z5 := bT2.cell 5
      simp only [List.getElem?_toArray, List.getElem?_cons_zero, List.getElem?_cons_succ] at z4 z5
      have bT2' := Lib.hid bT2
      have hzl := World.block_lt_of_cell? wr _ z4
      clear hno hbel bX2 e0 bT2
      go_wp2
      go_region_held3 (fun w' => w'.cell? ⟨W.heap.size + 1, 4, none⟩ = some (.int .i64 t.work)) (first | go_keep | exact (b3.cell (p := ⟨W.heap.size + 1, 4, none⟩) (by simpa using hzl)).trans (by assumption) | exact Lib.cell?_alloc_some _ (by assumption))
        (first | (go_at_call 15; refine (new_calls _).mono ?_; rintro e w3 ⟨rfl, g3, b3⟩))
      have hsw : W0.heap.size ≤ wr.heap.size := hbel'.out.size
      have hsw3 : wr.heap.size ≤ w3.heap.size := (below_drew' b3).size
      have g4 := Lib.hid (((show Grp tG tC wr.heap.size wr.heap.size (.slice none 0 0) [] w3 from g3).lower hsw).alloc (.cells (newC t.work wr.heap.size) tJ))
      have bJ4 := Lib.hid (Blk.new w3 tJ (newC t.work wr.heap.size))
      have b4 := Lib.hid ((hbel'.out.trans ((below_drew' b3).mono hbel'.out.size)).alloc (by omega) (.cells (newC t.work wr.heap.size) tJ))
      have bT4 := (bT2'.out.below (below_drew' b3) bT2'.out.lt).alloc (.cells (newC t.work wr.heap.size) tJ)
      have z5 := bT4.cell 5
      simp only [List.getElem?_toArray, List.getElem?_cons_zero, List.getElem?_cons_succ] at z5
      obtain ⟨GG, hGG⟩ : ∃ GG, wr.heap.size = GG := ⟨_, rfl⟩
      obtain ⟨JJ, hJJ⟩ : ∃ JJ, w3.heap.size = JJ := ⟨_, rfl⟩
      rw [hGG] at g4 bJ4 b4 z5 hsw hsw3
      rw [hJJ] at bJ4 hsw3
      rw [hGG, hJJ]
      clear g3 b3 bT4 hGG hJJ z4
      go_wp2
      go_loopw [39] (fun iv wq => ∃ (i : Nat) (v : Value), iv = .int .i64 (i : Int) ∧ i ≤ t.tk.length ∧ Grp tG tC W0.heap.size GG v (joinsF 0 [] (t.tk.take i)) wq ∧ Blk wq JJ tJ (newC t.work GG) ∧ Below W0.heap.size W0 wq)
        (fun iv _ => t.tk.length - (intOf iv).toNat)
      case atStart => exact ⟨0, _, rfl, Nat.zero_le _, g4.out, bJ4.out, b4.out⟩
      case round =>
        clear z5
        obtain ⟨i, v, rfl, hi2, hgr, hbj, hbel⟩ := hrel
        by_cases hlt2 : i < t.tk.length
        · obtain ⟨k, hk⟩ : ∃ k, t.tk[i]? = some k := ⟨t.tk[i], List.getElem?_eq_getElem hlt2⟩
          obtain ⟨at', rfl, _, p0⟩ := (hr'.out.below hbel) i k hk
          obtain ⟨k1, k2⟩ := htk'.out k (List.mem_of_getElem? hk)
          have hq : Int.tdiv 720720 k = sd k := by unfold sd; exact Int.tdiv_eq_ediv_of_nonneg (by omega)
          have hne : (k == 0) = false := beq_eq_false_iff_ne.mpr (by omega)
          have h0 : ¬ k = 0 := by omega
          have hw : IntKind.i64.wrap (sd k) = sd k := IntWalk.i64_in _ (by have := sd_nonneg k1 k2; omega)
          have hst := Lib.hid (joinsF_take t.tk i k hk)
          have hgood := Lib.hid (joinsF_good (t.tk.take i) 0 [] good_nil)
          have j11 := hbj.cell 11
          simp only [List.getElem?_toArray, List.getElem?_cons_zero, List.getElem?_cons_succ] at j11
          have hnG : JJ ≠ GG := two_types hbj hgr.blk (by decide)
          have hnv : v.ownBlock ≠ some JJ := fun e => by
            obtain ⟨_, _, cur, hc⟩ := own_block hgr.row e
            exact two_types hbj hc (by decide) rfl
          have hkJ := Lib.hid (fun (w5 : World) (m : Mt GG v.ownBlock wr.drew w5) => mt_blk hbj.drew m hnG hnv)
          have hgr' := Lib.hid hgr.drew
          have hbel' := Lib.hid hbel.drew
          clear hgr hbj hbel hk
          go_wp2
          go_region_held3 (fun w' => w'.cell? ⟨JJ, 11, none⟩ = some (ptr GG)) (first | go_keep | exact hc5)
            (first | (go_at_call 16; refine (join_calls W0.heap.size GG v (joinsF 0 [] (t.tk.take i)) (i : Int) k (sd k) _ hgood.out hgr'.out hbel'.out.size).mono ?_; rintro e w5 ⟨rfl, v5, g5, m5, _⟩; have hb5 := Lib.hid (hkJ.out w5 m5); have hc5 := hb5.out.cell 11; simp only [List.getElem?_toArray, List.getElem?_cons_zero, List.getElem?_cons_succ] at hc5; have g5' := Lib.hid g5; have b5' := Lib.hid (step_grp hbel'.out (Nat.le_refl _) hgr'.out m5); clear g5 m5))
          go_wp2
          go_roundw
          case rel => exact ⟨i + 1, v5, by go_num, by omega, by rw [hst.out]; exact g5'.out, hb5.out, b5'.out⟩
          case measure => simp [intOf]; omega
        · have hi3 : i = t.tk.length := by omega
          subst hi3
          rw [List.take_of_length_le (Nat.le_refl _)] at hgr
          have hgr' := Lib.hid hgr
          have hbj' := Lib.hid hbj
          have hbel' := Lib.hid hbel
          clear hgr hbj hbel
          go_wp2
          go_ret
          exact ⟨.inr ⟨hnone.out, JJ, GG, v, rfl, by omega, hbj'.out, hgr'.out.lower (by omega)⟩, hb0.out.trans (hbel'.out.mono hb0.out.size)⟩
end Go.Proofs.Ytkcmmghhghgdpaa.Agt
end
section
namespace Go.Proofs.Ytkcmmghhghgdpaa.Agt
open Go.RowKit Go.Shelf Go.Maps Go.Proofs.Ytkcmmghhghgdpaa.Iter Go.Proofs.Ytkcmmghhghgdpaa.SeqM Go.Proofs.Ytkcmmghhghgdpaa.Str Go.Proofs.YtkcmmghhghgdpaaW.PrintWords Go.Proofs.YtkcmmghhghgdpaaW.PrintLast
set_option linter.unusedVariables false
set_option linter.unusedSimpArgs false
def Apart (t u : Jm) : Prop := t.J ≠ u.J ∧ t.G ≠ u.G ∧ ∀ r, t.v.ownBlock = some r → u.v.ownBlock ≠ some r
theorem Apart.symm {t u : Jm} (h : Apart t u) : Apart u t := ⟨fun e => h.1 e.symm, fun e => h.2.1 e.symm, fun r h1 h2 => h.2.2 r h2 h1⟩
structure Pool (B : Nat) (P : List (Jm × Jb)) (W : World) : Prop where
  job : ∀ (i : Nat) (p : Jm × Jb), P[i]? = some p → JobM B p.1 p.2 W
  dist : ∀ (i k : Nat) (p q : Jm × Jb), P[i]? = some p → P[k]? = some q → i ≠ k → Apart p.1 q.1
section
variable {B a : Nat} {vs vj : Value} {js : List Jm} {S : Ag} {W W' : World} {P : List (Jm × Jb)} {F : Nat → Prop}
theorem JobM.below {t : Jm} {j : Jb} (h : JobM B t j W) (hb : Below W.heap.size W W') : JobM B t j W' :=
  h.frame (hb.block _ h.ltJ) (hb.block _ h.grp.lt) (fun k hk => hb.block k (own_block h.grp.row hk).2.1) (fun ad e => hb.block _ (h.coreA e).2.1)
theorem Pool.below (h : Pool B P W) (hb : Below W.heap.size W W') : Pool B P W' := ⟨fun i p hp => (h.job i p hp).below hb, h.dist⟩
theorem Pool.ofAg (h : AgM B a vs vj js S W) : Pool B (js.zip S.jobs) W :=
  ⟨fun i p hp => by
    rw [List.getElem?_zip_eq_some] at hp
    exact h.job i p.1 p.2 hp.1 hp.2, fun i k p q hp hq hne => by
    rw [List.getElem?_zip_eq_some] at hp hq
    exact h.dist i k p.1 q.1 hp.1 hq.1 hne⟩
/-- One job's block changed. -/
theorem Pool.set (h : Pool B P W) {i : Nat} {p : Jm × Jb} (hp : P[i]? = some p) {t : Jm} {j : Jb} (hJ : t.J = p.1.J) (hG : t.G = p.1.G) (hv : t.v = p.1.v) (hj : JobM B t j W') (hk : ∀ k, k ≠ p.1.J → k < W.heap.size → W'.heap[k]? = W.heap[k]?) : Pool B (P.set i (t, j)) W' := by
  have hpj := h.job i p hp
  have hi := (List.getElem?_eq_some_iff.1 hp).1
  refine ⟨fun k q hq => ?_, fun k m q r hq hr hne => ?_⟩
  · rw [List.getElem?_set] at hq
    by_cases e : i = k
    · subst e
      rw [if_pos rfl, if_pos hi] at hq
      obtain rfl := Option.some.inj hq
      exact hj
    · rw [if_neg e] at hq
      have hqj := h.job k q hq
      have hd := h.dist k i q p hq hp (fun e2 => e e2.symm)
      refine hqj.frame (hk _ hd.1 hqj.ltJ) (hk _ (two_types hqj.grp.blk hpj.blk (by decide)) hqj.grp.lt) (fun m hm => ?_) (fun ad hA => ?_)
      · obtain ⟨_, y, cur, hc⟩ := own_block hqj.grp.row hm
        exact hk m (two_types hc hpj.blk (by decide)) y
      · obtain ⟨_, y, cur, hc⟩ := hqj.coreA hA
        exact hk _ (two_types hc hpj.blk (by decide)) y
  · rw [List.getElem?_set] at hq hr
    have ht : ∀ {u : Jm}, Apart p.1 u → Apart t u := fun h1 => ⟨by rw [hJ]; exact h1.1, by rw [hG]; exact h1.2.1, by rw [hv]; exact h1.2.2⟩
    by_cases e : i = k
    · subst e
      rw [if_pos rfl, if_pos hi] at hq
      obtain rfl := Option.some.inj hq
      rw [if_neg hne] at hr
      exact ht (h.dist i m p r hp hr hne)
    · rw [if_neg e] at hq
      by_cases e2 : i = m
      · subst e2
        rw [if_pos rfl, if_pos hi] at hr
        obtain rfl := Option.some.inj hr
        exact (ht (h.dist i k p q hp hq (fun e3 => e e3))).symm
      · rw [if_neg e2] at hr
        exact h.dist k m q r hq hr hne
/-- One more job, of new memory. -/
theorem Pool.push (h : Pool B P W) {t : Jm} {j : Jb} (hb : Below W.heap.size W W') (hj : JobM B t j W') (h1 : W.heap.size ≤ t.J) (h2 : W.heap.size ≤ t.G) (h3 : ∀ r, t.v.ownBlock = some r → W.heap.size ≤ r) : Pool B (P ++ [(t, j)]) W' := by
  have hap : ∀ (k : Nat) (q : Jm × Jb), P[k]? = some q → Apart q.1 t := fun k q hq => by
    have hqj := h.job k q hq
    exact ⟨by have := hqj.ltJ; omega, by have := hqj.grp.lt; omega, fun r e1 e2 => by have := (own_block hqj.grp.row e1).2.1; have := h3 r e2; omega⟩
  refine ⟨fun k q hq => ?_, fun k m q r hq hr hne => ?_⟩
  · rw [List.getElem?_append] at hq
    split at hq
    · exact (h.job k q hq).below hb
    · have : k - P.length = 0 := by have := (List.getElem?_eq_some_iff.1 hq).1; simp at this; omega
      rw [this] at hq
      simp at hq
      subst hq
      exact hj
  · rw [List.getElem?_append] at hq hr
    split at hq
    · split at hr
      · exact h.dist k m q r hq hr hne
      · have : m - P.length = 0 := by have := (List.getElem?_eq_some_iff.1 hr).1; simp at this; omega
        rw [this] at hr
        simp at hr
        subst hr
        exact hap k q hq
    · have hk0 : k - P.length = 0 := by have := (List.getElem?_eq_some_iff.1 hq).1; simp at this; omega
      rw [hk0] at hq
      simp at hq
      subst hq
      split at hr
      · exact (hap m r hr).symm
      · have : m - P.length = 0 := by have := (List.getElem?_eq_some_iff.1 hr).1; simp at this; omega
        omega
/-- An agent of some of the pool's jobs. -/
theorem AgM.ofPool {S' : Ag} {vj' : Value} {js' : List Jm} (hP : Pool B P W) (idx : List Nat) (hd : idx.Nodup) (hb : Blk W a tA (agCells S' vs vj')) (hB : B ≤ a) (hs : W.ownsRow B tQ 1 vs S'.sent.length (S'.sent.map (Value.int .i64)))
    (hr : W.ownsRow B tPJ 1 vj' js'.length (js'.map fun t => ptr t.J)) (h1 : js'.length = idx.length) (h2 : S'.jobs.length = idx.length) (hx : ∀ (q k : Nat), idx[q]? = some k → ∃ p, P[k]? = some p ∧ js'[q]? = some p.1 ∧ S'.jobs[q]? = some p.2) : AgM B a vs vj' js' S' W := by
  refine ⟨hb, hB, hs, hr, by rw [h1, h2], fun i t j ht hj => ?_, fun i k t u ht hu hne => ?_⟩
  · have hl := (List.getElem?_eq_some_iff.1 ht).1
    obtain ⟨p, hp, e1, e2⟩ := hx i idx[i] (List.getElem?_eq_getElem (by omega))
    rw [ht] at e1
    rw [hj] at e2
    obtain rfl := Option.some.inj e1
    obtain rfl := Option.some.inj e2
    exact hP.job _ p hp
  · have hl := (List.getElem?_eq_some_iff.1 ht).1
    have hl2 := (List.getElem?_eq_some_iff.1 hu).1
    obtain ⟨p, hp, e1, _⟩ := hx i idx[i] (List.getElem?_eq_getElem (by omega))
    obtain ⟨q, hq, e3, _⟩ := hx k idx[k] (List.getElem?_eq_getElem (by omega))
    rw [ht] at e1
    rw [hu] at e3
    obtain rfl := Option.some.inj e1
    obtain rfl := Option.some.inj e3
    exact hP.dist _ _ p q hp hq (fun e => hne ((List.getElem_inj hd).1 e))
end
end Go.Proofs.Ytkcmmghhghgdpaa.Agt
end
section
namespace Go.Proofs.Ytkcmmghhghgdpaa.Agt
open Go.RowKit Go.Shelf Go.Maps Go.Proofs.Ytkcmmghhghgdpaa.Iter Go.Proofs.Ytkcmmghhghgdpaa.SeqM Go.Proofs.Ytkcmmghhghgdpaa.Str Go.Proofs.YtkcmmghhghgdpaaW.PrintWords Go.Proofs.YtkcmmghhghgdpaaW.PrintLast
set_option linter.unusedVariables false
set_option linter.unusedSimpArgs false
theorem jobF_le (jobs : List Jb) (x : Ls) (t : Ts) (frm : Int) : (jobF jobs x t frm).le = x := by
  unfold jobF
  split <;> rfl
def JFoot (t : Jm) (k : Nat) : Prop := k = t.J ∨ k = t.G ∨ t.v.ownBlock = some k ∨ ∃ ad, t.A = some ad ∧ ad.block = k
abbrev taskOf (ts : List Ts) (x : Ls) : Ts := (findT ts x.task).getD noTask
structure RepI (F : Nat → Prop) (N B a : Nat) (vs vj : Value) (js : List Jm) (S : Ag) (xs : List Ls) (ts : List Ts) (frm : Int) (i r : Nat) (m : Value) (P : List (Jm × Jb)) (idx Jl : List Nat) (W : World) : Prop where
  pool : Pool B P W
  len : S.jobs.length ≤ P.length
  il : idx.length = i
  nd : idx.Nodup
  blk : Blk W a tA (agCells S vs vj)
  base : B ≤ a
  sent : W.ownsRow B tQ 1 vs S.sent.length (S.sent.map (Value.int .i64))
  jrow : W.ownsRow B tPJ 1 vj js.length (js.map fun t => ptr t.J)
  jl : js.length = S.jobs.length
  old : ∀ (p : Nat) (t : Jm) (j : Jb), js[p]? = some t → S.jobs[p]? = some j → ∃ e, P[p]? = some e ∧ e.1.J = t.J ∧ e.2.le.task = j.le.task ∧ ((∀ (q : Nat) (x : Ls), q < i → xs[q]? = some x → x.task ≠ j.le.task) → e.2 = j)
  new : ∀ (q : Nat) (x : Ls), q < i → xs[q]? = some x → ∃ k e, idx[q]? = some k ∧ P[k]? = some e ∧ e.2 = jobF S.jobs x (taskOf ts x) frm ∧ Jl[q]? = some e.1.J
  foot : ∀ (k : Nat) (e : Jm × Jb), P[k]? = some e → ∀ b, JFoot e.1 b → F b ∨ N ≤ b
  jll : Jl.length = i
  row : W.ownsRow N tPJ 1 m r ((Jl.take r).map fun J => ptr J)
  rowN : ∀ b, m.ownBlock = some b → N ≤ b
  vjN : ∀ b, vj.ownBlock = some b → b < N
section
variable {F : Nat → Prop} {N B a : Nat} {vs vj : Value} {js : List Jm} {S : Ag} {xs : List Ls} {ts : List Ts} {frm : Int} {i r : Nat} {m : Value} {P : List (Jm × Jb)} {idx Jl : List Nat} {W W' : World}
theorem RepI.below (h : RepI F N B a vs vj js S xs ts frm i r m P idx Jl W) (hb : Below W.heap.size W W') : RepI F N B a vs vj js S xs ts frm i r m P idx Jl W' :=
  ⟨h.pool.below hb, h.len, h.il, h.nd, h.blk.below hb h.blk.lt, h.base, own_below h.sent hb, own_below h.jrow hb, h.jl, h.old, h.new, h.foot, h.jll, own_below h.row hb, h.rowN, h.vjN⟩
theorem RepI.start (h : AgM B a vs vj js S W) (hF : ∀ k, Foot a vs vj js k → F k) (hvN : ∀ b, vj.ownBlock = some b → b < N) : RepI F N B a vs vj js S xs ts frm 0 0 (.slice none 0 0) (js.zip S.jobs) [] [] W :=
  ⟨Pool.ofAg h, by rw [List.length_zip, h.len]; simp, rfl, List.nodup_nil, h.blk, h.base, h.sent, h.jrow, h.len,
    fun p t j ht hj => ⟨(t, j), by rw [List.getElem?_zip_eq_some]; exact ⟨ht, hj⟩, rfl, rfl, fun _ => rfl⟩, fun q x hq => by omega,
    fun k e he b hb => by
      rw [List.getElem?_zip_eq_some] at he
      exact .inl (hF b (.inr (.inr (.inr ⟨e.1, List.mem_of_getElem? he.1, hb⟩)))),
    rfl, World.ownsRow_nil _ _ _ _, (fun b hb => by cases hb), hvN⟩
/-- The agent as a.job sees it. -/
theorem RepI.ag (h : RepI F N B a vs vj js S xs ts frm i r m P idx Jl W) : AgM B a vs vj ((P.take S.jobs.length).map (·.1)) { S with jobs := (P.take S.jobs.length).map (·.2) } W := by
  have hl : (P.take S.jobs.length).length = S.jobs.length := by rw [List.length_take]; have := h.len; omega
  have hJ : ((P.take S.jobs.length).map (·.1)).map (fun t => ptr t.J) = js.map fun t => ptr t.J := by
    apply List.ext_getElem?
    intro p
    rw [List.getElem?_map, List.getElem?_map, List.getElem?_map]
    by_cases hp : p < S.jobs.length
    · have ht : js[p]? = some (js[p]'(by rw [h.jl]; exact hp)) := List.getElem?_eq_getElem _
      obtain ⟨e, he, e1, _⟩ := h.old p _ _ ht (List.getElem?_eq_getElem hp)
      rw [List.getElem?_take, if_pos hp, he, ht]
      simp [e1]
    · rw [List.getElem?_take, if_neg hp, List.getElem?_eq_none (by have := h.jl; omega)]
      rfl
  refine ⟨h.blk, h.base, h.sent, ?_, by rw [List.length_map]; show _ = ((P.take S.jobs.length).map (·.2)).length; rw [List.length_map], fun k t j ht hj => ?_, fun k q t u ht hu hne => ?_⟩
  · rw [hJ, List.length_map, hl, ← h.jl]
    exact h.jrow
  · have hj' : ((P.take S.jobs.length).map (·.2))[k]? = some j := hj
    rw [List.getElem?_map] at ht hj'
    obtain ⟨e, he, rfl⟩ := Option.map_eq_some_iff.1 ht
    rw [he] at hj'
    obtain rfl := Option.some.inj hj'
    rw [List.getElem?_take] at he
    split at he
    · exact h.pool.job k e he
    · cases he
  · rw [List.getElem?_map] at ht hu
    obtain ⟨e, he, rfl⟩ := Option.map_eq_some_iff.1 ht
    obtain ⟨f, hf, rfl⟩ := Option.map_eq_some_iff.1 hu
    rw [List.getElem?_take] at he hf
    split at he
    · split at hf
      · exact h.pool.dist k q e f he hf hne
      · cases hf
    · cases he
theorem RepI.idxlt (h : RepI F N B a vs vj js S xs ts frm i r m P idx Jl W) (hi : i ≤ xs.length) : ∀ k ∈ idx, k < P.length ∧ ∃ q x e, q < i ∧ xs[q]? = some x ∧ P[k]? = some e ∧ e.2.le.task = x.task := fun k hk => by
  obtain ⟨q, hq⟩ := List.mem_iff_getElem?.1 hk
  have hql := (List.getElem?_eq_some_iff.1 hq).1
  have hqi : q < i := by rw [← h.il]; exact hql
  have hx : xs[q]? = some (xs[q]'(by omega)) := List.getElem?_eq_getElem _
  obtain ⟨k', e, h1, h2, h3, _⟩ := h.new q _ hqi hx
  rw [hq] at h1
  obtain rfl := Option.some.inj h1
  exact ⟨(List.getElem?_eq_some_iff.1 h2).1, q, _, e, hqi, hx, h2, by rw [h3, jobF_le]⟩
/-- One lease more, of a job that is known. -/
theorem RepI.found (h : RepI F N B a vs vj js S xs ts frm i r m P idx Jl W) {x : Ls} (hx : xs[i]? = some x) (hp : xs.Pairwise fun x y => x.task < y.task) {p : Nat} {j : Jb} {u : Jm}
    (hno : ∀ (m : Nat) (k : Jb), m < p → ((P.take S.jobs.length).map (·.2))[m]? = some k → k.le.task ≠ x.task) (hj : ((P.take S.jobs.length).map (·.2))[p]? = some j) (he : j.le.task = x.task) (hu : ((P.take S.jobs.length).map (·.1))[p]? = some u)
    {A : Option Addr} {c : Nat} (hblk : Blk W' u.J tJ (jbCells { j with le := x, frm := frm } { u with A := A, c := c })) (hC : OwnC B W' (x, A, c)) (hCN : ∀ ad, A = some ad → N ≤ ad.block)
    (hk : ∀ k, k ≠ u.J → k < W.heap.size → W'.heap[k]? = W.heap[k]?) (hr : r ≤ i) :
    ∃ P' idx' Jl', RepI F N B a vs vj js S xs ts frm (i + 1) r m P' idx' (Jl ++ [Jl']) W' ∧ Jl' = u.J := by
  have hi : i ≤ xs.length := by have := (List.getElem?_eq_some_iff.1 hx).1; omega
  rw [List.getElem?_map] at hj hu
  obtain ⟨e, he1, rfl⟩ := Option.map_eq_some_iff.1 hj
  rw [he1] at hu
  obtain rfl := Option.some.inj hu
  rw [List.getElem?_take] at he1
  split at he1
  case isFalse => cases he1
  rename_i hpn
  have hpl := (List.getElem?_eq_some_iff.1 he1).1
  have hj0 : S.jobs[p]? = some S.jobs[p] := List.getElem?_eq_getElem hpn
  have ht0 : js[p]? = some (js[p]'(by rw [h.jl]; exact hpn)) := List.getElem?_eq_getElem _
  obtain ⟨e', he2, e3, e4, e5⟩ := h.old p _ _ ht0 hj0
  rw [he1] at he2
  obtain rfl := Option.some.inj he2
  have hlt : ∀ q y, q < i → xs[q]? = some y → y.task < x.task := fun q y hq hy => by
    obtain ⟨k1, f1⟩ := List.getElem?_eq_some_iff.1 hy
    obtain ⟨k2, f2⟩ := List.getElem?_eq_some_iff.1 hx
    have := (List.pairwise_iff_getElem.1 hp) q i k1 k2 hq
    rw [f1, f2] at this
    exact this
  have he5 : e.2 = S.jobs[p] := e5 (fun q y hq hy => by have := hlt q y hq hy; omega)
  have hnoS : ∀ (m : Nat) (k : Jb), m < p → S.jobs[m]? = some k → k.le.task ≠ x.task := fun m k hm hk => by
    have ht : js[m]? = some (js[m]'(by rw [h.jl]; omega)) := List.getElem?_eq_getElem _
    obtain ⟨f, hf, _, f2, _⟩ := h.old m _ k ht hk
    have := hno m f.2 hm (by rw [List.getElem?_map, List.getElem?_take, if_pos (by omega), hf]; rfl)
    omega
  have hjf : ({ e.2 with le := x, frm := frm } : Jb) = jobF S.jobs x (taskOf ts x) frm := by
    rw [jobF_found hnoS hj0 (by rw [← he5]; exact he), he5]
  have hpJ := h.pool.job p e he1
  have hni : p ∉ idx := fun hm => by
    obtain ⟨_, q, y, f, hq, hy, hf, h2⟩ := h.idxlt hi p hm
    rw [he1] at hf
    obtain rfl := Option.some.inj hf
    have := hlt q y hq hy
    omega
  have mv : ∀ {b0 e size n : Nat} {v : Value} {ys : List Value}, W.ownsRow b0 e size v n ys → e ≠ tJ → W'.ownsRow b0 e size v n ys := fun hrow ht => Str.own_move hrow fun k hk2 => by
    obtain ⟨_, y, cur, hc⟩ := own_block hrow hk2
    exact hk k (two_types hc hpJ.blk ht) y
  have hjm : JobM B { e.1 with A := A, c := c } { e.2 with le := x, frm := frm } W' := ⟨hblk, hpJ.base, hC, hpJ.grp.move (hk _ (two_types hpJ.grp.blk hpJ.blk (by decide)) hpJ.grp.lt) (fun k hk2 => by
    obtain ⟨_, y, cur, hc⟩ := own_block hpJ.grp.row hk2
    exact hk k (two_types hc hpJ.blk (by decide)) y)⟩
  refine ⟨P.set p ({ e.1 with A := A, c := c }, { e.2 with le := x, frm := frm }), idx ++ [p], e.1.J, ⟨h.pool.set he1 rfl rfl rfl hjm hk, by rw [List.length_set]; exact h.len, by rw [List.length_append, h.il]; rfl, ?_,
    (hk a (two_types h.blk hpJ.blk (by decide)) h.blk.lt).trans h.blk, h.base, mv h.sent (by decide), mv h.jrow (by decide), h.jl, ?_, ?_, ?_, by rw [List.length_append, h.jll]; rfl, ?_, h.rowN, h.vjN⟩, rfl⟩
  · rw [List.nodup_append]
    exact ⟨h.nd, by simp, fun k hk1 q hq => by simp at hq; subst hq; exact fun e2 => hni (e2 ▸ hk1)⟩
  · intro p2 t2 j2 ht2 hj2
    obtain ⟨f, hf, f1, f2, f3⟩ := h.old p2 t2 j2 ht2 hj2
    by_cases hpp : p = p2
    · subst hpp
      rw [he1] at hf
      obtain rfl := Option.some.inj hf
      refine ⟨({ e.1 with A := A, c := c }, { e.2 with le := x, frm := frm }), by rw [List.getElem?_set, if_pos rfl, if_pos hpl], f1, by show x.task = _; omega, fun hq => absurd (show x.task = j2.le.task by omega) (hq i x (by omega) hx)⟩
    · exact ⟨f, by rw [List.getElem?_set, if_neg hpp]; exact hf, f1, f2, fun hq => f3 (fun q y hq1 hy => hq q y (by omega) hy)⟩
  · intro q y hq hy
    by_cases hqi : q = i
    · subst hqi
      rw [hx] at hy
      obtain rfl := Option.some.inj hy
      refine ⟨p, _, ?_, by rw [List.getElem?_set, if_pos rfl, if_pos hpl], hjf, ?_⟩
      · rw [List.getElem?_append_right (by rw [h.il]; exact Nat.le_refl _), h.il]; simp
      · rw [List.getElem?_append_right (by rw [h.jll]; exact Nat.le_refl _), h.jll]; simp
    · obtain ⟨k, f, f1, f2, f3, f4⟩ := h.new q y (by omega) hy
      refine ⟨k, f, ?_, ?_, f3, ?_⟩
      · rw [List.getElem?_append_left (by rw [h.il]; omega)]; exact f1
      · rw [List.getElem?_set, if_neg (fun e2 => hni (by rw [e2]; exact List.mem_of_getElem? f1))]; exact f2
      · rw [List.getElem?_append_left (by rw [h.jll]; omega)]; exact f4
  · intro k f hf b hb
    rw [List.getElem?_set] at hf
    by_cases hpk : p = k
    · subst hpk
      rw [if_pos rfl, if_pos hpl] at hf
      obtain rfl := Option.some.inj hf
      rcases hb with hb | hb | hb | ⟨ad, hA, hb⟩
      · exact h.foot p e he1 b (.inl hb)
      · exact h.foot p e he1 b (.inr (.inl hb))
      · exact h.foot p e he1 b (.inr (.inr (.inl hb)))
      · exact .inr (by rw [← hb]; exact hCN ad hA)
    · rw [if_neg hpk] at hf
      exact h.foot k f hf b hb
  · rw [List.take_append_of_le_length (by rw [h.jll]; exact hr)]
    exact mv h.row (by decide)
/-- One lease more, of a new job. -/
theorem RepI.fresh (h : RepI F N B a vs vj js S xs ts frm i r m P idx Jl W) {x : Ls} (hx : xs[i]? = some x) {t0 : Ts} (ht0 : findT ts x.task = some t0)
    (hno : ∀ j ∈ ((P.take S.jobs.length).map (·.2)), j.le.task ≠ x.task) {J G : Nat} {v : Value} (hJ : W.heap.size ≤ J) (hN : N ≤ W.heap.size) (hB : B ≤ W.heap.size)
    {A : Option Addr} {c : Nat} (hblk : Blk W' J tJ (jbCells ⟨x, frm, t0.work, 0, joinsF 0 [] t0.tk⟩ ⟨J, G, v, A, c⟩)) (hG : Grp tG tC W.heap.size G v (joinsF 0 [] t0.tk) W') (hC : OwnC B W' (x, A, c)) (hCN : ∀ ad, A = some ad → N ≤ ad.block)
    (hb : Below W.heap.size W W') (hr : r ≤ i) :
    ∃ P' idx', RepI F N B a vs vj js S xs ts frm (i + 1) r m P' idx' (Jl ++ [J]) W' := by
  have hi : i ≤ xs.length := by have := (List.getElem?_eq_some_iff.1 hx).1; omega
  have hl := h.len
  have hnoS : ∀ j ∈ S.jobs, j.le.task ≠ x.task := fun j hj => by
    obtain ⟨k, hk⟩ := List.mem_iff_getElem?.1 hj
    have hkl := (List.getElem?_eq_some_iff.1 hk).1
    have ht : js[k]? = some (js[k]'(by rw [h.jl]; omega)) := List.getElem?_eq_getElem _
    obtain ⟨f, hf, _, f2, _⟩ := h.old k _ j ht hk
    have := hno f.2 (List.mem_map.2 ⟨f, List.mem_of_getElem? (i := k) (by rw [List.getElem?_take, if_pos hkl]; exact hf), rfl⟩)
    omega
  have hjf : (⟨x, frm, t0.work, 0, joinsF 0 [] t0.tk⟩ : Jb) = jobF S.jobs x (taskOf ts x) frm := by
    rw [jobF_new hnoS]
    unfold taskOf
    rw [ht0]
    rfl
  have hni : P.length ∉ idx := fun hm => by have := (h.idxlt hi _ hm).1; omega
  have hjm : JobM B ⟨J, G, v, A, c⟩ ⟨x, frm, t0.work, 0, joinsF 0 [] t0.tk⟩ W' := ⟨hblk, by show B ≤ J; omega, hC, hG.lower hB⟩
  have hget : ∀ k f, P[k]? = some f → (P ++ [((⟨J, G, v, A, c⟩ : Jm), (⟨x, frm, t0.work, 0, joinsF 0 [] t0.tk⟩ : Jb))])[k]? = some f := fun k f hf => by
    rw [List.getElem?_append_left (List.getElem?_eq_some_iff.1 hf).1]
    exact hf
  have h' := h.below hb
  refine ⟨P ++ [(⟨J, G, v, A, c⟩, ⟨x, frm, t0.work, 0, joinsF 0 [] t0.tk⟩)], idx ++ [P.length], h.pool.push hb hjm hJ hG.base (fun b hb2 => (own_block hG.row hb2).1), by rw [List.length_append]; omega, by rw [List.length_append, h.il]; rfl, ?_,
    h'.blk, h.base, h'.sent, h'.jrow, h.jl, ?_, ?_, ?_, by rw [List.length_append, h.jll]; rfl, ?_, h.rowN, h.vjN⟩
  · rw [List.nodup_append]
    exact ⟨h.nd, by simp, fun k hk1 q hq => by simp at hq; subst hq; exact fun e2 => hni (e2 ▸ hk1)⟩
  · intro p2 t2 j2 ht2 hj2
    obtain ⟨f, hf, f1, f2, f3⟩ := h.old p2 t2 j2 ht2 hj2
    exact ⟨f, hget _ _ hf, f1, f2, fun hq => f3 (fun q y hq1 hy => hq q y (by omega) hy)⟩
  · intro q y hq hy
    by_cases hqi : q = i
    · subst hqi
      rw [hx] at hy
      obtain rfl := Option.some.inj hy
      refine ⟨P.length, _, ?_, List.getElem?_concat_length, hjf, ?_⟩
      · rw [List.getElem?_append_right (by rw [h.il]; exact Nat.le_refl _), h.il]; simp
      · rw [List.getElem?_append_right (by rw [h.jll]; exact Nat.le_refl _), h.jll]; simp
    · obtain ⟨k, f, f1, f2, f3, f4⟩ := h.new q y (by omega) hy
      refine ⟨k, f, ?_, hget _ _ f2, f3, ?_⟩
      · rw [List.getElem?_append_left (by rw [h.il]; omega)]; exact f1
      · rw [List.getElem?_append_left (by rw [h.jll]; omega)]; exact f4
  · intro k f hf b hb2
    rw [List.getElem?_append] at hf
    split at hf
    · exact h.foot k f hf b hb2
    · have hk0 : k - P.length = 0 := by have := (List.getElem?_eq_some_iff.1 hf).1; simp at this; omega
      rw [hk0] at hf
      simp at hf
      subst hf
      refine .inr ?_
      rcases hb2 with hb2 | hb2 | hb2 | ⟨ad, hA, hb2⟩
      · have : b = J := hb2; omega
      · have : b = G := hb2; have := hG.base; omega
      · have := (own_block hG.row hb2).1; omega
      · have := hCN ad hA; omega
  · rw [List.take_append_of_le_length (by rw [h.jll]; exact hr)]
    exact h'.row
/-- The list of jobs grown by the last one. -/
theorem RepI.rowAdd (h : RepI F N B a vs vj js S xs ts frm (i + 1) i m P idx Jl W) {m' : Value} (hg : W.grownBy W' m.ownBlock) (hrow : W'.ownsRow N tPJ 1 m' (i + 1) (Jl.map fun J => ptr J)) :
    RepI F N B a vs vj js S xs ts frm (i + 1) (i + 1) m' P idx Jl W' := by
  have hk : ∀ {k : Nat} {cs : Array Value} {t : TypeId}, W.heap[k]? = some (.cells cs t (0, 0)) → t ≠ tPJ → W'.heap[k]? = W.heap[k]? := fun {k cs t} hc ht => hg.block k (Array.getElem?_eq_some_iff.1 hc).1 (fun e => by
    obtain ⟨_, _, cur, h2⟩ := own_block h.row e.symm
    exact two_types hc h2 ht rfl)
  have mv : ∀ {b0 e size n : Nat} {v : Value} {ys : List Value}, W.ownsRow b0 e size v n ys → e ≠ tPJ → W'.ownsRow b0 e size v n ys := fun hrow ht => Str.own_move hrow fun k hk2 => by
    obtain ⟨_, y, cur, hc⟩ := own_block hrow hk2
    exact hk hc ht
  refine ⟨⟨fun k e he => ?_, h.pool.dist⟩, h.len, h.il, h.nd, (hk h.blk (by decide)).trans h.blk, h.base, mv h.sent (by decide), ?_, h.jl, h.old, h.new, h.foot, h.jll, by rw [List.take_of_length_le (by rw [h.jll]; exact Nat.le_refl _)]; exact hrow, fun b hb => (own_block hrow hb).1, h.vjN⟩
  · have hj := h.pool.job k e he
    refine hj.frame (hk hj.blk (by decide)) (hk hj.grp.blk (by decide)) (fun b hb => ?_) (fun ad hA => ?_)
    · obtain ⟨_, _, cur, hc⟩ := own_block hj.grp.row hb
      exact hk hc (by decide)
    · obtain ⟨_, _, cur, hc⟩ := hj.coreA hA
      exact hk hc (by decide)
  · exact Str.own_move h.jrow fun k e => hg.block k (own_block h.jrow e).2.1 (fun e2 => by have h1 := h.vjN k e; have h2 := h.rowN k e2.symm; omega)
/-- All leases told: the agent with its new jobs. -/
theorem RepI.done (h : RepI F N B a vs vj js S xs ts frm xs.length xs.length m P idx Jl W) (n' : Int) (hBN : B ≤ N) (hFa : F a) (hFs : ∀ k, vs.ownBlock = some k → F k) :
    ∃ js', AgM B a vs m js' { S with jobs := replyJ S ts xs frm, replied := n' } ((W.setCell ⟨a, 11, none⟩ m).setCell ⟨a, 10, none⟩ (.int .i64 n')) ∧ ∀ k, Foot a vs m js' k → F k ∨ N ≤ k := by
  have hk : ∀ {k : Nat} {cs : Array Value} {t : TypeId}, W.heap[k]? = some (.cells cs t (0, 0)) → t ≠ tA → ((W.setCell ⟨a, 11, none⟩ m).setCell ⟨a, 10, none⟩ (.int .i64 n')).heap[k]? = W.heap[k]? := fun hc ht =>
    (Below.heap_setCell _ ⟨a, 10, none⟩ _ _ (two_types hc h.blk ht)).trans (Below.heap_setCell _ ⟨a, 11, none⟩ _ _ (two_types hc h.blk ht))
  have mv : ∀ {b0 e size n : Nat} {v : Value} {ys : List Value}, W.ownsRow b0 e size v n ys → e ≠ tA → ((W.setCell ⟨a, 11, none⟩ m).setCell ⟨a, 10, none⟩ (.int .i64 n')).ownsRow b0 e size v n ys := fun hrow ht => Str.own_move hrow fun k hk2 => by
    obtain ⟨_, y, cur, hc⟩ := own_block hrow hk2
    exact hk hc ht
  have hP : Pool B P ((W.setCell ⟨a, 11, none⟩ m).setCell ⟨a, 10, none⟩ (.int .i64 n')) := ⟨fun k e he => by
    have hj := h.pool.job k e he
    refine hj.frame (hk hj.blk (by decide)) (hk hj.grp.blk (by decide)) (fun b hb => ?_) (fun ad hA => ?_)
    · obtain ⟨_, _, cur, hc⟩ := own_block hj.grp.row hb
      exact hk hc (by decide)
    · obtain ⟨_, _, cur, hc⟩ := hj.coreA hA
      exact hk hc (by decide), h.pool.dist⟩
  have hnew : ∀ q, q < xs.length → ∃ k e, idx[q]? = some k ∧ P[k]? = some e ∧ (replyJ S ts xs frm)[q]? = some e.2 ∧ Jl[q]? = some e.1.J := fun q hq => by
    obtain ⟨k, e, h1, h2, h3, h4⟩ := h.new q xs[q] hq (List.getElem?_eq_getElem hq)
    refine ⟨k, e, h1, h2, ?_, h4⟩
    unfold replyJ
    rw [List.getElem?_map, List.getElem?_eq_getElem hq, h3]
    rfl
  obtain ⟨js', hjl, hjs⟩ := Open.list_of xs.length (fun q (t : Jm) => ∃ k e, idx[q]? = some k ∧ P[k]? = some e ∧ t = e.1 ∧ (replyJ S ts xs frm)[q]? = some e.2 ∧ Jl[q]? = some e.1.J) (fun q hq => by
    obtain ⟨k, e, h1, h2, h3, h4⟩ := hnew q hq
    exact ⟨e.1, k, e, h1, h2, rfl, h3, h4⟩)
  have hjsJ : js'.map (fun t => ptr t.J) = (Jl.take xs.length).map fun J => ptr J := by
    apply List.ext_getElem?
    intro q
    rw [List.getElem?_map, List.getElem?_map, List.getElem?_take]
    by_cases hq : q < xs.length
    · have ht : js'[q]? = some (js'[q]'(by omega)) := List.getElem?_eq_getElem _
      obtain ⟨k, e, _, _, h3, _, h5⟩ := hjs q _ ht
      rw [if_pos hq, h5, ht, h3]
      rfl
    · rw [if_neg hq, List.getElem?_eq_none (by omega)]
      rfl
  refine ⟨js', AgM.ofPool hP idx h.nd ?_ h.base (mv h.sent (by decide)) ?_ (by rw [hjl, h.il]) (by show (replyJ S ts xs frm).length = _; unfold replyJ; rw [List.length_map, h.il]) ?_, ?_⟩
  · have := (h.blk.set 11 m (by simp)).set 10 (.int .i64 n') (by simp)
    exact this
  · rw [hjsJ, hjl]
    exact own_lower' (mv h.row (by decide)) hBN
  · intro q k hq
    have hql := (List.getElem?_eq_some_iff.1 hq).1
    have ht : js'[q]? = some (js'[q]'(by rw [hjl, ← h.il]; exact hql)) := List.getElem?_eq_getElem _
    obtain ⟨k', e, h1, h2, h3, h4, _⟩ := hjs q _ ht
    rw [hq] at h1
    obtain rfl := Option.some.inj h1
    exact ⟨e, h2, by rw [ht, h3], h4⟩
  · rintro k (rfl | hk1 | hk1 | ⟨t, ht, hk1⟩)
    · exact .inl hFa
    · exact .inl (hFs k hk1)
    · exact .inr (h.rowN k hk1)
    · obtain ⟨q, hq⟩ := List.mem_iff_getElem?.1 ht
      obtain ⟨k', e, _, h2, h3, _⟩ := hjs q t hq
      subst h3
      exact h.foot k' e h2 k hk1
theorem ReadsF.up {N : Nat} {A : Option Addr} {ks : List Int} (h : ReadsF F W A ks) (hN : N = W.heap.size) : ReadsF (fun k => F k ∨ N ≤ k) W A ks := ⟨h.1, fun ad hA hl hf => by
  rcases hf with hf | hf
  · exact h.2 ad hA hl hf
  · obtain ⟨x, hx⟩ : ∃ x, ks[0]? = some x := ⟨ks[0], List.getElem?_eq_getElem hl⟩
    obtain ⟨ad', hA', h1, _⟩ := h.1 0 x hx
    rw [hA] at hA'
    injection hA' with hA'
    subst hA'
    omega⟩
theorem ReadsT.up {A : Option Addr} {l : List Ts} (h : ReadsT F W A l) : ReadsT (fun k => F k ∨ W.heap.size ≤ k) W A l := fun j t ht => by
  obtain ⟨ad, A', c, rfl, h1, c0, c1, c2, c3, c4, c5, c6, hr, hc, hw, hl, hn⟩ := h j t ht
  exact ⟨ad, A', c, rfl, h1, c0, c1, c2, c3, c4, c5, c6, hr.up rfl, hc, hw, hl, fun e => e.elim hn (fun e => by omega)⟩
theorem ReadsL.up {A : Option Addr} {l : List Ls} (h : ReadsL F W A l) : ReadsL (fun k => F k ∨ W.heap.size ≤ k) W A l := fun j t ht => by
  obtain ⟨ad, A', c, rfl, h1, c0, c1, c2, c3, c4, c5, c6, c7, hr, hc, hw, hl, hn⟩ := h j t ht
  exact ⟨ad, A', c, rfl, h1, c0, c1, c2, c3, c4, c5, c6, c7, hr.up rfl, hc, hw, hl, fun e => e.elim hn (fun e => by omega)⟩
theorem MapM.frF2 {b : Nat} {l : List Ts} (h : MapM F W b l) (hf : FrF F W W') (hb : W'.heap[b]? = W.heap[b]?) : MapM F W' b l := by
  obtain ⟨es, clock, h1, h2⟩ := h
  exact ⟨es, clock, hb.trans h1, h2.frF hf⟩
theorem FrF.grown {X Y : World} {r : Option Nat} (h : FrF F W X) (hg : X.grownBy Y r) (hr : ∀ k, r = some k → F k ∨ W.heap.size ≤ k) : FrF F W Y :=
  ⟨hg.os.trans h.os, hg.tape.trans h.tape, hg.output.trans h.output, Nat.le_trans h.size hg.size, fun k hk hn => (hg.block k (Nat.lt_of_lt_of_le hk h.size) (fun e => (hr k e.symm).elim hn (fun h2 => by omega))).trans (h.block k hk hn)⟩
theorem FrF.thenBelow {X Y : World} (h : FrF F W X) (hb : Below X.heap.size X Y) : FrF F W Y :=
  ⟨hb.os.trans h.os, hb.tape.trans h.tape, hb.output.trans h.output, Nat.le_trans h.size hb.size, fun k hk hn => (hb.block k (Nat.lt_of_lt_of_le hk h.size)).trans (h.block k hk hn)⟩
end
end Go.Proofs.Ytkcmmghhghgdpaa.Agt
end
section
namespace Go.Proofs.Ytkcmmghhghgdpaa.Agt
open Go.RowKit Go.Shelf Go.Maps Go.Proofs.Ytkcmmghhghgdpaa.Iter Go.Proofs.Ytkcmmghhghgdpaa.SeqM Go.Proofs.Ytkcmmghhghgdpaa.Str Go.Proofs.YtkcmmghhghgdpaaW.PrintWords Go.Proofs.YtkcmmghhghgdpaaW.PrintLast
set_option linter.unusedVariables false
set_option linter.unusedSimpArgs false
def RepPost (B a : Nat) (vs vj : Value) (js : List Jm) (S' : Ag) (W W' : World) : Prop := ∃ vj' js', AgM B a vs vj' js' S' W' ∧ FrF (Foot a vs vj js) W W' ∧ ∀ k, Foot a vs vj' js' k → Foot a vs vj js k ∨ W.heap.size ≤ k
theorem RepPost.same {B a : Nat} {vs vj : Value} {js : List Jm} {S : Ag} {W W' : World} (h : AgM B a vs vj js S W) (hb : Below W.heap.size W W') : RepPost B a vs vj js S W W' := ⟨vj, js, h.below hb, FrF.of_below hb, fun _ h => .inl h⟩
theorem tlen {F : Nat → Prop} {W : World} {A : Option Addr} {ts : List Ts} (h : ReadsT F W A ts) {t : Ts} (ht : t ∈ ts) : t.tk.length ≤ 9223372036854775807 := by
  obtain ⟨j, hj⟩ := List.mem_iff_getElem?.1 ht
  obtain ⟨_, _, _, _, _, _, _, _, _, _, _, _, _, _, _, hl, _⟩ := h j t hj
  exact hl
theorem known_yes {F : Nat → Prop} (A : Option Addr) (c0 : Nat) (ts : List Ts) (W : World) (hlen : ts.length ≤ 9223372036854775807) (hr : ReadsT F W A ts) (h : risesT ts = true) :
    Calls Try.prog 55 #[.slice A ts.length c0] W fun e W' => ∃ b, e = .returned (.map (some b)) ∧ MapM F W' b ts ∧ W.heap.size ≤ b ∧ Below W.heap.size W W' :=
  (known_calls A c0 ts W hlen hr).mono fun e W' ⟨h1, h2⟩ => by
    rcases h1 with ⟨_, b, h3, h4, h5⟩ | ⟨h3, _⟩
    · exact ⟨b, h3, h4, h5, h2⟩
    · rw [h] at h3; cases h3
theorem known_no {F : Nat → Prop} (A : Option Addr) (c0 : Nat) (ts : List Ts) (W : World) (hlen : ts.length ≤ 9223372036854775807) (hr : ReadsT F W A ts) (h : risesT ts = false) :
    Calls Try.prog 55 #[.slice A ts.length c0] W fun e W' => e = .returned (.map none) ∧ Below W.heap.size W W' :=
  (known_calls A c0 ts W hlen hr).mono fun e W' ⟨h1, h2⟩ => by
    rcases h1 with ⟨h3, _⟩ | ⟨_, h3⟩
    · rw [h] at h3; cases h3
    · exact ⟨h3, h2⟩
/-- The job that a.job answers, known or new, before its lease is told. -/
def GotJ (jobs : List Jb) (js : List Jm) (x : Ls) (t : Ts) (W W' : World) (J : Nat) : Prop :=
  (∃ (p : Nat) (j : Jb) (u : Jm), (∀ (m : Nat) (k : Jb), m < p → jobs[m]? = some k → k.le.task ≠ x.task) ∧ jobs[p]? = some j ∧ j.le.task = x.task ∧ js[p]? = some u ∧ J = u.J) ∨
  ((∀ j ∈ jobs, j.le.task ≠ x.task) ∧ ∃ (G : Nat) (v : Value), W.heap.size ≤ J ∧ Blk W' J tJ (newC t.work G) ∧ Grp tG tC W.heap.size G v (joinsF 0 [] t.tk) W')
theorem gotJ {jobs : List Jb} {js : List Jm} {x : Ls} {t : Ts} {W W' : World} {e : Ending} (h : FoundJ jobs js x e ∨ NewJ jobs x t W W' e) : ∃ J, e = .returned (ptr J) ∧ GotJ jobs js x t W W' J := by
  rcases h with ⟨p, j, u, h1, h2, h3, h4, h5⟩ | ⟨h1, J, G, v, h2, h3, h4, h5⟩
  · exact ⟨u.J, h5, .inl ⟨p, j, u, h1, h2, h3, h4, rfl⟩⟩
  · exact ⟨J, h2, .inr ⟨h1, G, v, h3, h4, h5⟩⟩
/-- A job's twelve cells, whichever they are. -/
theorem GotJ.blk {B a : Nat} {vs vj : Value} {js : List Jm} {S : Ag} {x : Ls} {t : Ts} {W W' : World} {J : Nat} (h : GotJ S.jobs js x t W W' J) (hag : AgM B a vs vj js S W') :
    ∃ (v0 v1 v2 v3 v4 v5 v6 v7 v8 : Value) (wk hd : Int) (G : Nat), Blk W' J tJ #[v0, v1, v2, v3, v4, v5, v6, v7, v8, .int .i64 wk, .int .i64 hd, ptr G] := by
  rcases h with ⟨p, j, u, _, h2, _, h4, rfl⟩ | ⟨_, G, v, _, h4, _⟩
  · exact ⟨_, _, _, _, _, _, _, _, _, _, _, _, (hag.job p u j h4 h2).blk⟩
  · exact ⟨_, _, _, _, _, _, _, _, _, _, _, _, h4⟩
theorem own_blockA {N : Nat} {W : World} {x : Ls} {A : Option Addr} {c : Nat} (h : OwnC N W (x, A, c)) {ad : Addr} (hA : A = some ad) : N ≤ ad.block := by
  rcases h.2 with ⟨e, _⟩ | ⟨g, cap, cur, e, hb, _⟩
  · simp only [hA] at e; cases e
  · simp only [hA] at e
    injection e with e _ _
    injection e with e
    subst e
    exact hb
/-- What else stands in memory in Reply's loop. -/
structure RepX (F : Nat → Prop) (W0 : World) (Al : Option Addr) (cl : Nat) (zs : List LeM) (b : Nat) (ts : List Ts) (W : World) : Prop where
  fr : FrF F W0 W
  row : W.ownsRow W0.heap.size tL 8 (.slice Al zs.length cl) zs.length (flatL zs)
  cores : ∀ z ∈ zs, OwnC W0.heap.size W z
  map : MapM (fun k => F k ∨ W0.heap.size ≤ k) W b ts
theorem RepX.below {F : Nat → Prop} {W0 W W' : World} {Al : Option Addr} {cl b : Nat} {zs : List LeM} {ts : List Ts} (h : RepX F W0 Al cl zs b ts W) (hb : Below W.heap.size W W') : RepX F W0 Al cl zs b ts W' :=
  ⟨h.fr.thenBelow hb, own_below h.row hb, fun z hz => (h.cores z hz).below hb, h.map.below hb⟩
/-- Other rows than leases, cores and maps changed. -/
theorem RepX.other {F : Nat → Prop} {W0 W W' : World} {Al : Option Addr} {cl b : Nat} {zs : List LeM} {ts : List Ts} (h : RepX F W0 Al cl zs b ts W) {r : Option Nat}
    (hr : ∀ k, r = some k → ∃ cs t, W.heap[k]? = some (.cells cs t (0, 0)) ∧ tL ≠ t ∧ tI ≠ t ∧ (F k ∨ W0.heap.size ≤ k)) (hg : W.grownBy W' r) : RepX F W0 Al cl zs b ts W' := by
  have hfr : FrF F W0 W' := h.fr.grown hg (fun k hk => by obtain ⟨_, _, _, _, _, hF⟩ := hr k hk; exact hF)
  refine ⟨hfr, Str.own_move h.row fun k hk => ?_, fun z hz => Str.own_move (h.cores z hz) fun k hk => ?_, h.map.frF2 ⟨hg.os, hg.tape, hg.output, hg.size, fun k hk hn => hg.block k hk (fun e => by obtain ⟨_, _, _, _, _, hF⟩ := hr k e.symm; exact hn hF)⟩ ?_⟩
  · obtain ⟨_, y, cur, hc⟩ := own_block h.row hk
    exact hg.block k y (fun e => by obtain ⟨cs, t, hJ, h1, _⟩ := hr k e.symm; exact two_types hc hJ h1 rfl)
  · obtain ⟨_, y, cur, hc⟩ := own_block (h.cores z hz) hk
    exact hg.block k y (fun e => by obtain ⟨cs, t, hJ, _, h2, _⟩ := hr k e.symm; exact two_types hc hJ h2 rfl)
  · obtain ⟨es, clock, hm, _⟩ := h.map
    exact hg.block b (Array.getElem?_eq_some_iff.1 hm).1 (fun e => by
      obtain ⟨cs, t, hJ, _⟩ := hr b e.symm
      rw [hJ] at hm
      cases hm)
theorem grown_put {w w' : World} {J k : Nat} (h : w.grownBy w' (some J)) (u : Value) : w.grownBy (w'.setCell ⟨J, k, none⟩ u) (some J) :=
  ⟨h.os, h.tape, h.output, by simpa using h.size, fun m hm hn => (Below.heap_setCell w' ⟨J, k, none⟩ u m (fun e => hn (by rw [e]))).trans (h.block m hm hn)⟩
theorem grown_drew {w w' : World} {r : Option Nat} (h : w.grownBy w' r) : w.grownBy w'.drew r := ⟨h.os, h.tape, h.output, h.size, h.block⟩
/-- A job's lease and time, stored. -/
theorem store9 {w : World} {J : Nat} {v0 v1 v2 v3 v4 v5 v6 v7 v8 c9 c10 c11 : Value} (u0 u1 u2 u3 u4 u5 u6 u7 u8 : Value) (h : Blk w J tJ #[v0, v1, v2, v3, v4, v5, v6, v7, v8, c9, c10, c11]) :
    Blk (((((((((w.setCell ⟨J, 0, none⟩ u0).setCell ⟨J, 1, none⟩ u1).setCell ⟨J, 2, none⟩ u2).setCell ⟨J, 3, none⟩ u3).setCell ⟨J, 4, none⟩ u4).setCell ⟨J, 5, none⟩ u5).setCell ⟨J, 6, none⟩ u6).setCell ⟨J, 7, none⟩ u7).setCell ⟨J, 8, none⟩ u8).drew J tJ #[u0, u1, u2, u3, u4, u5, u6, u7, u8, c9, c10, c11] ∧
    w.grownBy (((((((((w.setCell ⟨J, 0, none⟩ u0).setCell ⟨J, 1, none⟩ u1).setCell ⟨J, 2, none⟩ u2).setCell ⟨J, 3, none⟩ u3).setCell ⟨J, 4, none⟩ u4).setCell ⟨J, 5, none⟩ u5).setCell ⟨J, 6, none⟩ u6).setCell ⟨J, 7, none⟩ u7).setCell ⟨J, 8, none⟩ u8).drew (some J) := by
  exact ⟨Blk.drew (by
    have h0 := h.set 0 u0 (by simp)
    simp only [List.setIfInBounds_toArray, List.set_cons_zero, List.set_cons_succ] at h0
    have h1 := h0.set 1 u1 (by simp)
    simp only [List.setIfInBounds_toArray, List.set_cons_zero, List.set_cons_succ] at h1
    have h2 := h1.set 2 u2 (by simp)
    simp only [List.setIfInBounds_toArray, List.set_cons_zero, List.set_cons_succ] at h2
    have h3 := h2.set 3 u3 (by simp)
    simp only [List.setIfInBounds_toArray, List.set_cons_zero, List.set_cons_succ] at h3
    have h4 := h3.set 4 u4 (by simp)
    simp only [List.setIfInBounds_toArray, List.set_cons_zero, List.set_cons_succ] at h4
    have h5 := h4.set 5 u5 (by simp)
    simp only [List.setIfInBounds_toArray, List.set_cons_zero, List.set_cons_succ] at h5
    have h6 := h5.set 6 u6 (by simp)
    simp only [List.setIfInBounds_toArray, List.set_cons_zero, List.set_cons_succ] at h6
    have h7 := h6.set 7 u7 (by simp)
    simp only [List.setIfInBounds_toArray, List.set_cons_zero, List.set_cons_succ] at h7
    have h8 := h7.set 8 u8 (by simp)
    simp only [List.setIfInBounds_toArray, List.set_cons_zero, List.set_cons_succ] at h8
    exact h8), grown_drew (grown_put (grown_put (grown_put (grown_put (grown_put (grown_put (grown_put (grown_put (grown_put (show w.grownBy w (some J) from ⟨rfl, rfl, rfl, Nat.le_refl _, fun _ _ _ => rfl⟩) u0) u1) u2) u3) u4) u5) u6) u7) u8)⟩
theorem GotJ.foot {F : Nat → Prop} {N B a : Nat} {vs vj : Value} {js : List Jm} {S : Ag} {xs : List Ls} {ts : List Ts} {frm : Int} {i r : Nat} {m : Value} {P : List (Jm × Jb)} {idx Jl : List Nat} {W w1 w5 : World} {x : Ls} {t : Ts} {J : Nat}
    (h : RepI F N B a vs vj js S xs ts frm i r m P idx Jl W) (hG : GotJ ((P.take S.jobs.length).map (·.2)) ((P.take S.jobs.length).map (·.1)) x t w1 w5 J) (hN : N ≤ w1.heap.size) : F J ∨ N ≤ J := by
  rcases hG with ⟨p, j, u, _, _, _, hu, rfl⟩ | ⟨_, _, _, h1, _⟩
  · rw [List.getElem?_map] at hu
    obtain ⟨e, he, rfl⟩ := Option.map_eq_some_iff.1 hu
    rw [List.getElem?_take] at he
    split at he
    · exact h.foot p e he _ (.inl rfl)
    · cases he
  · exact .inr (by omega)
/-- One lease more. -/
theorem RepI.step {F : Nat → Prop} {N B a : Nat} {vs vj : Value} {js : List Jm} {S : Ag} {xs : List Ls} {ts : List Ts} {frm : Int} {i r : Nat} {m : Value} {P : List (Jm × Jb)} {idx Jl : List Nat} {w1 w5 w6 : World} {x : Ls} {t : Ts} {J : Nat}
    (h1 : RepI F N B a vs vj js S xs ts frm i r m P idx Jl w1) (hb5 : Below w1.heap.size w1 w5) (hG : GotJ ((P.take S.jobs.length).map (·.2)) ((P.take S.jobs.length).map (·.1)) x t w1 w5 J) (hx : xs[i]? = some x) (hp : xs.Pairwise fun x y => x.task < y.task) (hf : findT ts x.task = some t)
    {v0 v1 v2 v3 v4 v5 v6 v7 v8 : Value} {wk hd : Int} {GG : Nat} (hbJ : Blk w5 J tJ #[v0, v1, v2, v3, v4, v5, v6, v7, v8, .int .i64 wk, .int .i64 hd, ptr GG])
    {A : Option Addr} {c : Nat} (hb6 : Blk w6 J tJ #[.int .i64 x.task, .int .i64 x.queue, .int .i64 x.node, .slice A x.cores.length c, .int .i64 x.mem, .int .i64 x.since, .int .i64 x.til, .bool x.stop, .int .i64 frm, .int .i64 wk, .int .i64 hd, ptr GG]) (hg6 : w5.grownBy w6 (some J))
    (hC : OwnC B w6 (x, A, c)) (hCN : ∀ ad, A = some ad → N ≤ ad.block) (hN : N ≤ w1.heap.size) (hB : B ≤ w1.heap.size) (hr : r ≤ i) :
    ∃ P' idx', RepI F N B a vs vj js S xs ts frm (i + 1) r m P' idx' (Jl ++ [J]) w6 := by
  have h5 := h1.below hb5
  have hk6 : ∀ k, k ≠ J → k < w5.heap.size → w6.heap[k]? = w5.heap[k]? := fun k hk hl => hg6.block k hl (fun e => hk (Option.some.inj e))
  rcases hG with ⟨p, j, u, hno, hj, he, hu, rfl⟩ | ⟨hno, G, v, hJ, hbn, hgr⟩
  · have hbj := (h5.ag.job p u j hu hj).blk
    have heq := hbJ.symm.trans hbj
    injection heq with heq
    injection heq with heq
    simp only [Array.mk.injEq, List.cons.injEq, and_true, Value.int.injEq, true_and, Value.pointer.injEq, Option.some.injEq, Addr.mk.injEq] at heq
    obtain ⟨_, _, _, _, _, _, _, _, _, g1, g2, g3⟩ := heq
    rw [g1, g2, g3] at hb6
    obtain ⟨P', idx', Jl', hR, rfl⟩ := h5.found hx hp hno hj he hu (A := A) (c := c) hb6 hC hCN hk6 hr
    exact ⟨P', idx', hR⟩
  · have heq := hbJ.symm.trans hbn
    injection heq with heq
    injection heq with heq
    simp only [Array.mk.injEq, List.cons.injEq, and_true, Value.int.injEq, true_and, Value.pointer.injEq, Option.some.injEq, Addr.mk.injEq] at heq
    obtain ⟨_, _, _, _, _, _, _, _, _, g1, g2, g3⟩ := heq
    rw [g1, g2, g3] at hb6
    exact h1.fresh hx hf hno hJ hN hB (A := A) (c := c) (v := v) (G := G) hb6 (hgr.move (hk6 _ (two_types hgr.blk hbJ (by decide)) hgr.lt) (fun k hk2 => by
      obtain ⟨_, y, cur, hc⟩ := own_block hgr.row hk2
      exact hk6 k (two_types hc hbJ (by decide)) y)) hC hCN (below_grown hb5 hg6 (Nat.le_refl _) (fun k hk2 => by injection hk2 with hk2; omega)) hr
theorem infoPJ : (Try.prog.info? 126).map (fun i => (i.zero, i.size, i.bytes)) = some (some (.pointer none), 1, 8) := by kernel_rfl
set_option maxRecDepth 100000 in
set_option maxHeartbeats 16000000 in
theorem reply_calls (B a : Nat) (vs vj : Value) (js : List Jm) (S : Ag) (n m : Int) (A : Option Addr) (c0 : Nat) (xs : List Ls) (A2 : Option Addr) (c2 : Nat) (ts : List Ts) (W : World) (hag : AgM B a vs vj js S W) (hok : AgOk S) (hB : B ≤ W.heap.size)
    (hL : ReadsL (Foot a vs vj js) W A xs) (hT : ReadsT (Foot a vs vj js) W A2 ts) (hxl : xs.length ≤ 9223372036854775807) (htl : ts.length ≤ 9223372036854775807) (hsl : S.sent.length ≤ 100000) :
    Calls Try.prog 32 #[ptr a, .int .i64 n, .int .i64 m, .slice A xs.length c0, .slice A2 ts.length c2] W fun e W' => e = .returned (.int .i64 (replyG S n m xs ts).2) ∧ RepPost B a vs vj js (replyG S n m xs ts).1 W W' := by
  have hag' := Lib.hid hag
  have hok' := Lib.hid hok
  have hL' := Lib.hid hL
  have hT' := Lib.hid hT
  have d7 := hag.blk.cell 7
  have d8 := hag.blk.cell 8
  have d9 := hag.blk.cell 9
  have d10 := hag.blk.cell 10
  simp only [List.getElem?_toArray, List.getElem?_cons_zero, List.getElem?_cons_succ] at d7 d8 d9 d10
  obtain ⟨As, cs, hvs⟩ := slice_of_own hag.sent
  subst hvs
  clear hag hok hL hT
  by_cases hr : S.runs = true
  · have hg1 := Lib.hid (show ∀ q, (if staleG S n m then (S, 15) else if formB S ts xs = true then ({ S with jobs := replyJ S ts xs (S.sent.getD (m - 1).toNat 0), replied := m }, 0) else (S, 4)) = q → replyG S n m xs ts = q from fun q h => by unfold replyG; rw [if_pos hr]; exact h)
    by_cases e1 : n = S.inc
    · have x1 : (n == S.inc) = true := beq_iff_eq.mpr e1
      have x1n : (n != S.inc) = false := by simp [e1]
      by_cases e2 : m < 1
      · have hj := Lib.hid (hg1.out (S, 15) (if_pos (.inr (.inl e2))))
        clear e1
        go_enter Try.func32, Try.ntmps32
        go_wp2
        go_ret
        exact ⟨by rw [hj.out]; rfl, by rw [hj.out]; exact RepPost.same hag'.out (Below.refl _ _)⟩
      · by_cases e3 : (S.sent.length : Int) < m
        · have hj := Lib.hid (hg1.out (S, 15) (if_pos (.inr (.inr (.inl e3)))))
          clear e1
          go_enter Try.func32, Try.ntmps32
          go_wp2
          go_ret
          exact ⟨by rw [hj.out]; rfl, by rw [hj.out]; exact RepPost.same hag'.out (Below.refl _ _)⟩
        · by_cases e4 : m ≤ S.replied
          · have hj := Lib.hid (hg1.out (S, 15) (if_pos (.inr (.inr (.inr e4)))))
            clear e1
            go_enter Try.func32, Try.ntmps32
            go_wp2
            go_ret
            exact ⟨by rw [hj.out]; rfl, by rw [hj.out]; exact RepPost.same hag'.out (Below.refl _ _)⟩
          · have hns : ¬ staleG S n m := by unfold staleG; omega
            have hg2 := Lib.hid (show ∀ q, (if formB S ts xs = true then ({ S with jobs := replyJ S ts xs (S.sent.getD (m - 1).toNat 0), replied := m }, 0) else (S, 4)) = q → replyG S n m xs ts = q from fun q h => hg1.out q ((if_neg hns).trans h))
            clear e1 hns
            cases hri : risesT ts with
            | false =>
              have hj := Lib.hid (hg2.out (S, 4) (if_neg (by unfold formB; rw [hri]; simp)))
              have hri' := Lib.hid hri
              clear hri
              go_enter Try.func32, Try.ntmps32
              go_wp2_with (first | ((with_reducible refine gate_callee (f := 55) rfl ?_); refine goesL_ (some 53) rfl rfl Try.func55 (by kernel_rfl) rfl #[.slice A2 ts.length c2] rfl (by (try simp only [List.map_toArray, List.map_cons, List.map_nil]); first | done | rfl) ?_; (with_reducible refine (known_no A2 c2 ts _ htl hT'.out hri'.out).mono ?_); rintro e w1 ⟨rfl, b1⟩; refine ⟨_, rfl, ?_⟩; have b1' := Lib.hid b1; clear b1) | ((with_reducible refine gate_callee (f := 56) rfl ?_); refine goesL_ (some 57) rfl rfl Try.func56 (by kernel_rfl) rfl #[ptr a, .slice A xs.length c0, .map none] rfl (by (try simp only [List.map_toArray, List.map_cons, List.map_nil]); first | done | rfl) ?_; (with_reducible refine (form_nil a A xs.length c0 _).mono ?_); rintro e w2 ⟨rfl, b2⟩; refine ⟨_, rfl, ?_⟩; have b2' := Lib.hid (b1'.out.trans (b2.mono b1'.out.size)); clear b2))
              go_ret
              exact ⟨by rw [hj.out]; rfl, by rw [hj.out]; exact RepPost.same hag'.out b2'.out⟩
            | true =>
              have hri' := Lib.hid hri
              have hpw := Lib.hid ((rises_iff ts).1 hri)
              cases hfo : (formF S.nid S.nco ts xs).isSome with
              | false =>
                have hj := Lib.hid (hg2.out (S, 4) (if_neg (by unfold formB; rw [hri, hfo]; simp)))
                have hfo' := Lib.hid hfo
                clear hri hfo
                go_enter Try.func32, Try.ntmps32
                go_wp2_with (first | ((with_reducible refine gate_callee (f := 55) rfl ?_); refine goesL_ (some 53) rfl rfl Try.func55 (by kernel_rfl) rfl #[.slice A2 ts.length c2] rfl (by (try simp only [List.map_toArray, List.map_cons, List.map_nil]); first | done | rfl) ?_; (with_reducible refine (known_yes (F := (fun k => Foot a (.slice As S.sent.length cs) vj js k ∨ W.heap.size ≤ k)) A2 c2 ts _ htl hT'.out.up hri'.out).mono ?_); rintro e w1 ⟨b, rfl, hm1, hbN, b1⟩; refine ⟨_, rfl, ?_⟩; have b1' := Lib.hid b1; have hm1' := Lib.hid hm1; clear b1 hm1) | ((with_reducible refine gate_callee (f := 56) rfl ?_); refine goesL_ (some 57) rfl rfl Try.func56 (by kernel_rfl) rfl #[ptr a, .slice A xs.length c0, .map (some b)] rfl (by (try simp only [List.map_toArray, List.map_cons, List.map_nil]); first | done | rfl) ?_; (with_reducible refine (form_calls B a _ vj js S A c0 xs b ts _ hxl (hag'.out.below b1'.out) (hL'.out.up.below b1'.out) hm1'.out hpw.out hok'.out.nco (fun t ht => tlen hT'.out ht)).mono ?_); rintro e w2 ⟨rfl, b2⟩; refine ⟨_, rfl, ?_⟩; have hm2' := Lib.hid (hm1'.out.below b2); have b2' := Lib.hid (b1'.out.trans (b2.mono b1'.out.size)); clear b2; simp only [hfo'.out]))
                go_ret
                exact ⟨by rw [hj.out]; rfl, by rw [hj.out]; exact RepPost.same hag'.out b2'.out⟩
              | true =>
                obtain ⟨hx64, hx64c, hxp⟩ := form_bounds hfo hok'.out.nco
                have hj := Lib.hid (hg2.out _ (if_pos (by unfold formB; rw [hri, hfo]; rfl)))
                have hfo' := Lib.hid hfo
                have hx64c' := Lib.hid hx64c
                have hxp' := Lib.hid hxp
                obtain ⟨ys, hys, hraw, hyc⟩ := hL'.out.raw
                have hyl : ys.length = xs.length := by have := congrArg List.length hys; simpa using this
                have hLea := Lib.hid (fun (w : World) (hb : Below W.heap.size W w) => leases_calls A c0 ys w (by omega) (hraw.below hb) (fun y hy => ⟨(hyc y hy).1.below hb, by have := (hx64c y.1 (by rw [← hys]; exact List.mem_map.2 ⟨y, hy, rfl⟩)).1; omega⟩))
                rw [hyl, hys] at hLea
                clear hri hfo hx64c hxp hraw hyc hyl hys
                go_enter Try.func32, Try.ntmps32
                go_wp2_with (first | ((with_reducible refine gate_callee (f := 55) rfl ?_); refine goesL_ (some 53) rfl rfl Try.func55 (by kernel_rfl) rfl #[.slice A2 ts.length c2] rfl (by (try simp only [List.map_toArray, List.map_cons, List.map_nil]); first | done | rfl) ?_; (with_reducible refine (known_yes (F := (fun k => Foot a (.slice As S.sent.length cs) vj js k ∨ W.heap.size ≤ k)) A2 c2 ts _ htl hT'.out.up hri'.out).mono ?_); rintro e w1 ⟨b, rfl, hm1, hbN, b1⟩; refine ⟨_, rfl, ?_⟩; have b1' := Lib.hid b1; have hm1' := Lib.hid hm1; clear b1 hm1) | ((with_reducible refine gate_callee (f := 56) rfl ?_); refine goesL_ (some 57) rfl rfl Try.func56 (by kernel_rfl) rfl #[ptr a, .slice A xs.length c0, .map (some b)] rfl (by (try simp only [List.map_toArray, List.map_cons, List.map_nil]); first | done | rfl) ?_; (with_reducible refine (form_calls B a _ vj js S A c0 xs b ts _ hxl (hag'.out.below b1'.out) (hL'.out.up.below b1'.out) hm1'.out hpw.out hok'.out.nco (fun t ht => tlen hT'.out ht)).mono ?_); rintro e w2 ⟨rfl, b2⟩; refine ⟨_, rfl, ?_⟩; have hm2' := Lib.hid (hm1'.out.below b2); have b2' := Lib.hid (b1'.out.trans (b2.mono b1'.out.size)); clear b2; simp only [hfo'.out]) | ((with_reducible refine gate_callee (f := 57) rfl ?_); refine goesL_ (some 60) rfl rfl Try.func57 (by kernel_rfl) rfl #[.slice A xs.length c0] rfl (by (try simp only [List.map_toArray, List.map_cons, List.map_nil]); first | done | rfl) ?_; (with_reducible refine (hLea.out _ b2'.out).mono ?_); rintro e w3 ⟨u, rfl, ⟨zs, hz1, hz2, hz3⟩, b3⟩; obtain ⟨Al, cl, rfl⟩ := slice_of_own hz2; refine ⟨_, rfl, ?_⟩; have hz1' := Lib.hid hz1; have hz2' := Lib.hid (own_lower' hz2 b2'.out.size); have hz3' := Lib.hid (fun z hz => (hz3 z hz).lower b2'.out.size); have hm3' := Lib.hid (hm2'.out.below b3); have b3' := Lib.hid (b2'.out.trans (b3.mono b2'.out.size)); clear hz1 hz2 hz3 b3))
                obtain ⟨mq, hmq⟩ : ∃ mq : Nat, m - 1 = (mq : Int) := ⟨(m - 1).toNat, by omega⟩
                have hwm : IntKind.i64.wrap (m - 1) = (mq : Int) := by rw [← hmq]; exact IntWalk.i64_in _ (by omega)
                have hmql : mq < S.sent.length := by omega
                have hmql' : (mq : Int) < (S.sent.length : Int) := by omega
                obtain ⟨frm, hfrm⟩ : ∃ frm, S.sent.getD (m - 1).toNat 0 = frm := ⟨_, rfl⟩
                rw [hfrm] at hj
                have hsf : S.sent[mq]? = some frm := by rw [hmq, Int.toNat_natCast, List.getD_eq_getElem?_getD, List.getElem?_eq_getElem hmql] at hfrm; rw [List.getElem?_eq_getElem hmql]; simpa using hfrm
                have hzl : zs.length = xs.length := by have := congrArg List.length hz1'.out; simpa using this
                have hX0 := Lib.hid (RepX.mk (F := (Foot a (.slice As S.sent.length cs) vj js)) (W0 := W) (Al := Al) (cl := cl) (zs := zs) (b := b) (ts := ts) (FrF.of_below b3'.out) (by rw [hzl]; exact hz2'.out) hz3'.out hm3'.out)
                have hI0 := Lib.hid (RepI.start (F := (Foot a (.slice As S.sent.length cs) vj js)) (N := W.heap.size) (xs := xs) (ts := ts) (frm := frm) (hag'.out.below b3'.out) (fun k h => h) (fun q hq => (hag'.out.foot q (.inr (.inr (.inl hq)))).2))
                have hsf' := Lib.hid hsf
                clear hz2' hz3' hm3' hm2' hm1' hmq hfrm hsf
                go_loopw [12, 62] (fun mv iv wr => ∃ (i : Nat) (mm : Value) (P : List (Jm × Jb)) (idx Jl : List Nat), mm = mv ∧ iv = .int .i64 (i : Int) ∧ i ≤ xs.length ∧ RepI (Foot a (.slice As S.sent.length cs) vj js) W.heap.size B a (.slice As S.sent.length cs) vj js S xs ts frm i i mm P idx Jl wr ∧ RepX (Foot a (.slice As S.sent.length cs) vj js) W Al cl zs b ts wr)
                  (fun _ iv _ => xs.length - (intOf iv).toNat)
                case atStart => exact ⟨0, _, _, _, _, rfl, rfl, Nat.zero_le _, hI0.out, hX0.out⟩
                case round =>
                  obtain ⟨i, mm, P, idx, Jl, rfl, rfl, hi, hI, hX⟩ := hrel
                  have hI' := Lib.hid hI
                  have hX' := Lib.hid hX
                  by_cases hlt : i < xs.length
                  · obtain ⟨x, hx⟩ : ∃ x, xs[i]? = some x := ⟨xs[i], List.getElem?_eq_getElem hlt⟩
                    obtain ⟨⟨x', Az, cz⟩, hz⟩ : ∃ z, zs[i]? = some z := ⟨zs[i]'(by omega), List.getElem?_eq_getElem _⟩
                    obtain rfl : x' = x := by
                      have h9 := congrArg (fun l => l[i]?) hz1'.out
                      simp only [List.getElem?_map, hz, hx, Option.map_some] at h9
                      exact Option.some.inj h9
                    obtain ⟨gl, cc, hsl⟩ := own_someL hX.row (by omega)
                    injection hsl with hA _ hcc
                    subst hA
                    subst hcc
                    have hrow := hX.row
                    have q0 := hrow.cellAt (i * 8 + 0) (by omega)
                    have q1 := hrow.cellAt (i * 8 + 1) (by omega)
                    have q2 := hrow.cellAt (i * 8 + 2) (by omega)
                    have q3 := hrow.cellAt (i * 8 + 3) (by omega)
                    have q4 := hrow.cellAt (i * 8 + 4) (by omega)
                    have q5 := hrow.cellAt (i * 8 + 5) (by omega)
                    have q6 := hrow.cellAt (i * 8 + 6) (by omega)
                    have q7 := hrow.cellAt (i * 8 + 7) (by omega)
                    rw [flatL_get zs i 0 _ (by omega) hz] at q0
                    rw [flatL_get zs i 1 _ (by omega) hz] at q1
                    rw [flatL_get zs i 2 _ (by omega) hz] at q2
                    rw [flatL_get zs i 3 _ (by omega) hz] at q3
                    rw [flatL_get zs i 4 _ (by omega) hz] at q4
                    rw [flatL_get zs i 5 _ (by omega) hz] at q5
                    rw [flatL_get zs i 6 _ (by omega) hz] at q6
                    rw [flatL_get zs i 7 _ (by omega) hz] at q7
                    simp only [leCs, List.getElem?_cons_zero, List.getElem?_cons_succ, Nat.add_zero] at q0 q1 q2 q3 q4 q5 q6 q7
                    have bA1 := (Below.refl wr.heap.size wr).alloc (Nat.le_refl _) (.cells (leC x' Az cz) tL)
                    obtain ⟨t', hf', hfit⟩ := (hx64c'.out x' (List.mem_of_getElem? hx)).2
                    have hwx : wfI x'.task := by obtain ⟨_, _, _, _, _, _, hw, _⟩ := hL'.out.at hx; exact hw
                    obtain ⟨t, At, ct, hf, hlk, hrt⟩ : ∃ t At ct, findT ts x'.task = some t ∧ (Instr.lookup 122 (.map (some b)) (.int .i64 x'.task) false).run Try.prog (wr.alloc (.cells (leC x' Az cz) tL)) = .ok (taskV t At ct) (wr.alloc (.cells (leC x' Az cz) tL)) ∧ ReadsI (wr.alloc (.cells (leC x' Az cz) tL)) At t.tk := by
                      rcases map_look (hX.map.below bA1) hwx hpw.out with ⟨t, At, ct, h1, _, h2, h3, _⟩ | ⟨h1, _⟩
                      · exact ⟨t, At, ct, h1, h2, h3.1⟩
                      · rw [hf'] at h1; cases h1
                    rw [hf] at hf'
                    obtain rfl := Option.some.inj hf'
                    have hI1 := hI.below bA1
                    have hag1 := Lib.hid hI1.ag
                    have hjl1 : ((P.take S.jobs.length).map (·.2)).length ≤ 1000 := by rw [List.length_map, List.length_take]; have := hok'.out.jobs; omega
                    have hrt' := Lib.hid hrt
                    have hfd' := Lib.hid hf
                    have hfit' := Lib.hid hfit
                    have bL := Blk.new wr tL (leC x' Az cz)
                    have l0 := bL.cell 0
                    have l1 := bL.cell 1
                    have l2 := bL.cell 2
                    have l3 := bL.cell 3
                    have l4 := bL.cell 4
                    have l5 := bL.cell 5
                    have l6 := bL.cell 6
                    have l7 := bL.cell 7
                    simp only [List.getElem?_toArray, List.getElem?_cons_zero, List.getElem?_cons_succ] at l0 l1 l2 l3 l4 l5 l6 l7
                    have bL' := Lib.hid bL
                    have hI1' := Lib.hid hI1
                    have hX1' := Lib.hid (hX.below bA1)
                    have hx' := Lib.hid hx
                    have hz' := Lib.hid hz
                    clear hI hX hx hz hrow bA1 hrt hf hf' hI1 bL hfit hsl
                    go_wp2_with ((with_reducible refine gate_callee (f := 58) rfl ?_); refine goesL_ (some 72) rfl rfl Try.func58 (by kernel_rfl) rfl #[ptr a, leV x' Az cz, taskV t At ct] rfl (by (try simp only [List.map_toArray, List.map_cons, List.map_nil]); first | done | rfl) ?_; (with_reducible refine (job_calls B a (.slice As S.sent.length cs) vj ((P.take S.jobs.length).map (·.1)) { S with jobs := (P.take S.jobs.length).map (·.2) } x' Az cz t At ct _ hag1.out hjl1 hfit'.out hrt'.out).mono ?_); rintro e w5 ⟨hFN, b5⟩; obtain ⟨J, rfl, hG⟩ := gotJ hFN; refine ⟨_, rfl, ?_⟩; have hI5 := hI1'.out.below b5; obtain ⟨v0, v1, v2, v3, v4, v5, v6, v7, v8, wk, hd, GG, hbJ⟩ := GotJ.blk hG hI5.ag; have hG' := Lib.hid hG; have bL5 := bL'.out.below b5 bL'.out.lt; have f0 := hbJ.frozen 0; have j0 := hbJ.cell 0; have f1 := hbJ.frozen 1; have j1 := hbJ.cell 1; have f2 := hbJ.frozen 2; have j2 := hbJ.cell 2; have f3 := hbJ.frozen 3; have j3 := hbJ.cell 3; have f4 := hbJ.frozen 4; have j4 := hbJ.cell 4; have f5 := hbJ.frozen 5; have j5 := hbJ.cell 5; have f6 := hbJ.frozen 6; have j6 := hbJ.cell 6; have f7 := hbJ.frozen 7; have j7 := hbJ.cell 7; have f8 := hbJ.frozen 8; have j8 := hbJ.cell 8; clear l0 l1 l2 l3 l4 l5 l6 l7; have l0 := bL5.cell 0; have l1 := bL5.cell 1; have l2 := bL5.cell 2; have l3 := bL5.cell 3; have l4 := bL5.cell 4; have l5 := bL5.cell 5; have l6 := bL5.cell 6; have l7 := bL5.cell 7; have a9 := hI5.blk.cell 9; simp only [List.getElem?_toArray, List.getElem?_cons_zero, List.getElem?_cons_succ] at j0 j1 j2 j3 j4 j5 j6 j7 j8 l0 l1 l2 l3 l4 l5 l6 l7 a9; obtain ⟨gs, cs2, hss⟩ := own_someL hI5.sent (by omega); injection hss with hsA _ hsc; have s0 := hI5.sent; rw [hsA, hsc] at s0 a9; clear hsA hsc; have s1 := s0.cellAt mq (by omega); rw [List.getElem?_map, hsf'.out] at s1; simp only [Option.map_some] at s1; have hJL : J ≠ wr.heap.size := two_types hbJ bL5 (by decide); have hJa : J ≠ a := two_types hbJ hI5.blk (by decide); have hJs : J ≠ gs := (by obtain ⟨_, _, cur, hc⟩ := own_block s0 (k := gs) rfl; exact two_types hbJ hc (by decide)); have hI5' := Lib.hid hI5; have hX5' := Lib.hid (hX1'.out.below b5); have hbJ' := Lib.hid hbJ; have b5' := Lib.hid b5; clear hI5 hbJ bL5 s0 b5; clear hFN hG)
                    go_wp2
                    go_region
                    obtain ⟨w6, hw6⟩ : ∃ w6, (((((((((w5.setCell ⟨J, 0, none⟩ (.int .i64 x'.task)).setCell ⟨J, 1, none⟩ (.int .i64 x'.queue)).setCell ⟨J, 2, none⟩ (.int .i64 x'.node)).setCell ⟨J, 3, none⟩ (.slice Az x'.cores.length cz)).setCell ⟨J, 4, none⟩ (.int .i64 x'.mem)).setCell ⟨J, 5, none⟩ (.int .i64 x'.since)).setCell ⟨J, 6, none⟩ (.int .i64 x'.til)).setCell ⟨J, 7, none⟩ (.bool x'.stop)).setCell ⟨J, 8, none⟩ (.int .i64 frm)).drew = w6 := ⟨_, rfl⟩
                    have hst9 := store9 (.int .i64 x'.task) (.int .i64 x'.queue) (.int .i64 x'.node) (.slice Az x'.cores.length cz) (.int .i64 x'.mem) (.int .i64 x'.since) (.int .i64 x'.til) (.bool x'.stop) (.int .i64 frm) hbJ'.out
                    rw [hw6] at hst9 ⊢
                    obtain ⟨hb6, hg6⟩ := hst9
                    have hNw1 := hX1'.out.fr.size
                    have hFJ := GotJ.foot hI1'.out hG'.out hNw1
                    have hX6 := hX5'.out.other (r := some J) (fun k hk => by injection hk with hk; subst hk; exact ⟨_, _, hbJ'.out, by decide, by decide, hFJ⟩) hg6
                    have hCz := hX6.cores _ (List.mem_of_getElem? hz'.out)
                    obtain ⟨P', idx', hI6⟩ := hI1'.out.step b5'.out hG'.out hx'.out hxp'.out hfd'.out hbJ'.out hb6 hg6 (hCz.lower hB) (fun ad hA => (own_blockA hCz hA)) hNw1 (by omega) (Nat.le_refl _)
                    have hI6' := Lib.hid hI6
                    have hX6' := Lib.hid hX6
                    have hI7 := hI6.below ((Below.refl w6.heap.size w6).alloc (Nat.le_refl _) (.cells #[ptr J] tPJ))
                    have hX7' := Lib.hid (hX6.below ((Below.refl w6.heap.size w6).alloc (Nat.le_refl _) (.cells #[ptr J] tPJ)))
                    have hjll := hI7.jll
                    rw [List.length_append] at hjll
                    have hrow7 := Lib.hid (show (w6.alloc (.cells #[ptr J] tPJ)).ownsRow W.heap.size tPJ 1 mm i (Jl.map fun J => ptr J) from by have h9 := hI7.row; rw [List.take_append_of_le_length (by simp at hjll; omega), List.take_of_length_le (by simp at hjll; omega)] at h9; exact h9)
                    clear hjll
                    have hI7' := Lib.hid hI7
                    have hNw6 := hX6.fr.size
                    obtain ⟨ip, hipf, hip0, hip1, hip2⟩ := info_parts infoPJ
                    clear hw6 hb6 hg6 hX6 hI6 hI7 hCz l0 l1 l2 l3 l4 l5 l6 l7 f0 f1 f2 f3 f4 f5 f6 f7 f8 j0 j1 j2 j3 j4 j5 j6 j7 j8 a9 s1 q0 q1 q2 q3 q4 q5 q6 q7 hlk
                    go_wp2_with ((at_builtin; refine wpList_append_own _ rfl _ _ 118 rfl W.heap.size tPJ ip (.pointer none) 1 8 Try.underlying118 hipf hip0 hip1 hip2 rfl (by decide) _ _ _ rfl hrow7.out ⟨w6.heap.size, 0, none⟩ 1 1 [ptr J] rfl rfl (cells_newL _ _ _) (by simp [Value.oneCell']) (by first | omega | (unfold maxLen; omega)) (by omega) (by simp; omega) ?_))
                    intro v7 w7 hown7 hgr7 _
                    have hI8 := Lib.hid (hI7'.out.rowAdd (m' := v7) hgr7 (by
                      rw [List.map_append]
                      exact hown7))
                    have hX8 := Lib.hid (hX7'.out.other (r := mm.ownBlock) (fun k hk => by
                      obtain ⟨x1, _, cur, hc⟩ := own_block hrow7.out hk
                      exact ⟨_, _, hc, by decide, by decide, .inr x1⟩) hgr7)
                    clear hown7 hgr7
                    go_wp2
                    go_roundw
                    case rel => exact ⟨i + 1, _, _, _, _, rfl, by go_num, by omega, hI8.out, hX8.out⟩
                    case measure => simp [intOf]; omega
                  · have hi' : i = xs.length := by omega
                    subst hi'
                    obtain ⟨Am, cm, rfl⟩ := slice_of_own hI.row
                    obtain ⟨js', hA, hFt⟩ := hI.done m hB (.inl rfl) (fun k hk => .inr (.inl hk))
                    have hA' := Lib.hid hA
                    have hFt' := Lib.hid hFt
                    have hfr' := Lib.hid ((hX.fr.setCell (p := ⟨a, 11, none⟩) (.inl (.inl rfl)) (.slice Am xs.length cm)).setCell (p := ⟨a, 10, none⟩) (.inl (.inl rfl)) (.int .i64 m))
                    have a10 := hI.blk.cell 10
                    have a11 := hI.blk.cell 11
                    have f10 := hI.blk.frozen 10
                    have f11 := hI.blk.frozen 11
                    simp only [List.getElem?_toArray, List.getElem?_cons_zero, List.getElem?_cons_succ] at a10 a11
                    clear hI hX hA hFt
                    go_wp2
                    go_ret
                    exact ⟨by rw [hj.out]; rfl, by rw [hj.out]; exact ⟨_, js', hA'.out, hfr'.out, hFt'.out⟩⟩
    · have x1 : (n == S.inc) = false := beq_eq_false_iff_ne.mpr e1
      have x1n : (n != S.inc) = true := by simp [e1]
      have hj := Lib.hid (hg1.out (S, 15) (if_pos (.inl e1)))
      clear e1
      go_enter Try.func32, Try.ntmps32
      go_wp2
      go_ret
      exact ⟨by rw [hj.out]; rfl, by rw [hj.out]; exact RepPost.same hag'.out (Below.refl _ _)⟩
  · have hr' : S.runs = false := by simpa using hr
    have hj := Lib.hid (show replyG S n m xs ts = (S, 13) by unfold replyG; rw [if_neg hr])
    clear hr
    go_enter Try.func32, Try.ntmps32
    go_wp2
    go_ret
    exact ⟨by rw [hj.out]; rfl, by rw [hj.out]; exact RepPost.same hag'.out (Below.refl _ _)⟩
end Go.Proofs.Ytkcmmghhghgdpaa.Agt
end
section
namespace Go.Proofs.Ytkcmmghhghgdpaa.SeqN
open Go Go.RowKit
set_option linter.unusedVariables false
variable {F : Fence} {n : Nat} {P : Program}

/-- The iterator has a state s; a step gives x and the next state; it turns memory as Mu says; a round must keep Kp; J: what the loop knows between two rounds (Mu does not mind it), fewer than N rounds go on; Jx: where a round has said 'no more'. -/
def SeqN {α σ : Type} (F : Fence) (n : Nat) (P : Program) (g : Nat) (lb : Array Value) (enc : α → Array Value) (step : σ → Option (α × σ)) (St : σ → World → Prop) (Mu : World → World → Prop) (N : Nat) (s0 : σ) (W : World) : Prop :=
  ∀ (l : Nat) (J Jx : List α → σ → World → Prop),
    (∀ pre s A B, J pre s A → Mu A B → J pre s B) →
    (∀ pre s A, J pre s A → pre.length < N) →
    (∀ pre s x s' W1, J pre s W1 → step s = some (x, s') → St s' W1 → YieldAt F (n - 1) P l (enc x) W1 fun e W' => St s' W' ∧ ((e = .returned (.bool true) ∧ J (pre ++ [x]) s' W') ∨ (e = .returned (.bool false) ∧ Jx (pre ++ [x]) s' W'))) →
    J [] s0 W →
    CallsIn F n P g (#[.func (.yield l) #[] #[]] ++ lb) W fun e W' => (∃ v, e = .returned v) ∧ ∃ pre s, St s W' ∧ ((step s = none ∧ J pre s W') ∨ Jx pre s W')

/-- What a body's walk ends in. -/
def postN {α σ : Type} (St : σ → World → Prop) (I : List α → σ → World → Prop) (Ix : Code → List α → σ → World → Prop) (xs : List α) (s : σ) (W : World) : Exit → Act → World → Prop
  | .normal, _, W' => KeepsOthers W W' ∧ St s W' ∧ I xs s W'
  | .ret, _, W' => KeepsOthers W W' ∧ St s W' ∧ Ix .ret xs s W'
  | .exit id, _, W' => KeepsOthers W W' ∧ St s W' ∧ Ix (.exit id) xs s W'
  | .goto t, _, W' => KeepsOthers W W' ∧ St s W' ∧ Ix (.goto t) xs s W'
  | .panic _, _, _ => False
  | .outgrown, _, _ => False

theorem wpIn_rangeN {α σ : Type} {g : Operand} {ps : Array Tmp} {assign body : Code} {Q : Exit → Act → World → Prop} {a : Act} {w : World}
    (hro : F.round = none) (h1 : 1 ≤ n) {gf : Nat} {lb : Array Value} (hg : a.eval g = .func (.func gf) #[] lb) (hFg : F.fn gf) (eg : ∀ args w, (callFunc gf args).run P w = .ok (.enter gf args) w)
    {enc : α → Array Value} {step : σ → Option (α × σ)} {St : σ → World → Prop} {Mu : World → World → Prop} {N : Nat} {s0 : σ} (hseq : ∀ W, St s0 W → KeepsOthers w W → SeqN F (n - 1) P gf lb enc step St Mu N s0 W)
    (hSt : OwnFrom w.heap.size St)
    (hMu : ∀ A B, Mu A B → KeepsOthers A B) (hps : ∀ x, (enc x).size = ps.size)
    (I : List α → σ → World → Prop) (Ix : Code → List α → σ → World → Prop) (hI : ∀ s, OwnFrom w.heap.size (fun pre => I pre s)) (hIx : ∀ c s, OwnFrom w.heap.size (fun pre => Ix c pre s))
    (hImu : ∀ pre s A B, I pre s A → Mu A B → I pre s B) (hIN : ∀ pre s A, I pre s A → pre.length < N) (h0 : I [] s0 w) (hs0 : St s0 w) (a₁ : α → Act)
    (hassign : ∀ (l : Nat) (x : α) (W : World) (K : Act → World → Prop), K (a₁ x) W →
      assign.wpIn (F.inRound l) (n - 1 - 1) P (Exit.then K (fun _ _ _ => False)) { tmps := (ps.zip (enc x)).foldl (fun t (p, v) => t.setIfInBounds p v) a.tmps, defers := [] } W)
    (hbody : ∀ (l : Nat) (pre : List α) (s : σ) (x : α) (s' : σ) (W : World), I pre s W → step s = some (x, s') → St s' W → body.wpIn (F.inRound l) (n - 1 - 1) P (postN St I Ix (pre ++ [x]) s' W) (a₁ x) W)
    (hdone : ∀ (D : Nat) (pre : List α) (s : σ) (W : World), w.heap.size ≤ D → step s = none → I pre s W → St s W → W.heap[D]? = some (.deferred (some [])) → Q .normal { a with defers := { target := .collected D, args := #[] } :: a.defers } W)
    (hstop : ∀ (D : Nat) (c : Code) (pre : List α) (s : σ) (W : World), w.heap.size ≤ D → Ix c pre s W → St s W → W.heap[D]? = some (.deferred (some [])) → c.wpIn F n P Q { a with defers := { target := .collected D, args := #[] } :: a.defers } W) :
    (Code.rangeFunc g ps assign body).wpIn F n P Q a w := by
  refine wpIn_rangeFunc ?_
  intro fn hfn
  rw [hro]
  obtain ⟨rec, hrec⟩ : ∃ rec : LoopState → Option Code → Loop, rec = fun st pe => { state := st, pending := pe, fn, tmps := a.tmps, params := ps, assign, body, defers := w.heap.size } := ⟨_, rfl⟩
  obtain ⟨W1, hW1⟩ : ∃ W1, (w.alloc (.deferred (some []))).alloc (.loop (rec .ready none)) = W1 := ⟨_, rfl⟩
  have hL1 : W1.heap[w.heap.size + 1]? = some (.loop (rec .ready none)) := by
    rw [← hW1]; have := World.alloc_heap_new (w.alloc (.deferred (some []))) (.loop (rec .ready none)); rwa [World.size_alloc] at this
  have hK1 : W1.heap[w.heap.size]? = some (.deferred (some [])) := by
    rw [← hW1]; exact (Below.heap_alloc _ _ _ (by simp)).trans (World.alloc_heap_new w _)
  have hI1 : I [] s0 W1 := by rw [← hW1]; exact (hI s0).alloc _ ((hI s0).alloc _ h0)
  have hS1 : St s0 W1 := by rw [← hW1]; exact hSt.alloc _ (hSt.alloc _ hs0)
  have hO1 : KeepsOthers w W1 := by rw [← hW1]; exact (KeepsOthers.alloc w _).trans (KeepsOthers.alloc _ _)
  refine ⟨w.heap.size + 1, [{ target := .collected w.heap.size, args := #[] }], W1, { target := .fn (.func gf) lb, args := #[.func (.yield (w.heap.size + 1)) #[] #[]] }, W1, gf,
    #[.func (.yield (w.heap.size + 1)) #[] #[]] ++ lb, W1, ?_, ?_, ?_, ?_, fun _ => h1, ?_⟩
  · rw [← hW1, hrec]; exact run_enterLoop_outer _ _ _ _ _
  · simp only [resolve, hg]
    simp [go_sem]
  · intro f' hf'; simp [Target.leads] at hf'; subst hf'; exact hFg
  · simp [invoke, go_sem, eg]
  · refine (hseq W1 hS1 hO1 (w.heap.size + 1)
      (fun pre s W => I pre s W ∧ W.heap[w.heap.size + 1]? = some (.loop (rec .ready none)) ∧ W.heap[w.heap.size]? = some (.deferred (some [])))
      (fun pre s W => ∃ c, Ix c pre s W ∧ W.heap[w.heap.size + 1]? = some (.loop (rec .done (some c))) ∧ W.heap[w.heap.size]? = some (.deferred (some [])))
      (fun pre s A B hs hm => ⟨hImu pre s A B hs.1 hm, (hMu A B hm).same _ _ hs.2.1 rfl, (hMu A B hm).same _ _ hs.2.2 rfl⟩)
      (fun pre s A hs => hIN pre s A hs.1) ?_ ⟨hI1, hL1, hK1⟩).mono ?_
    · rintro pre s x s' W ⟨hi, hl, hk⟩ hstep hst
      have hlt : w.heap.size + 1 < W.heap.size := (Array.getElem?_eq_some_iff.1 hl).1
      have hy := run_yield (P := P) (args := enc x) hl (by rw [hrec]; exact hps x)
      rw [hrec] at hy
      refine ⟨fn, _, assign, body, hy, roundIn_of_wpIn hfn (hassign _ x W _ ⟨_, run_beginRound hl (by rw [hrec]), ?_⟩)⟩
      have hl2 : (W.putObj (w.heap.size + 1) (.loop { rec .ready none with state := .busy })).heap[w.heap.size + 1]? = some (.loop { rec .ready none with state := .busy }) := World.putObj_heap_same hlt
      have hk2 : (W.putObj (w.heap.size + 1) (.loop { rec .ready none with state := .busy })).heap[w.heap.size]? = some (.deferred (some [])) := (World.putObj_heap_other (by omega)).trans hk
      refine wpIn_mono (hbody _ pre s x s' _ ((hI s).putObj _ hi (by omega) hl rfl) hstep (hSt.putObj _ hst (by omega) hl rfl)) ?_
      have fin : ∀ (jump : Option Code) (W3 : World), KeepsOthers (W.putObj (w.heap.size + 1) (.loop { rec .ready none with state := .busy })) W3 → St s' W3 →
          (Instr.endRound (w.heap.size + 1) jump).run P W3 = .ok (.bool jump.isNone) (W3.putObj (w.heap.size + 1) (.loop (rec (if jump.isNone then .ready else .done) jump))) ∧
          W3.heap[w.heap.size + 1]? = some (.loop { rec .ready none with state := .busy }) ∧
          (W3.putObj (w.heap.size + 1) (.loop (rec (if jump.isNone then .ready else .done) jump))).heap[w.heap.size + 1]? = some (.loop (rec (if jump.isNone then .ready else .done) jump)) ∧
          (W3.putObj (w.heap.size + 1) (.loop (rec (if jump.isNone then .ready else .done) jump))).heap[w.heap.size]? = some (.deferred (some [])) ∧
          St s' (W3.putObj (w.heap.size + 1) (.loop (rec (if jump.isNone then .ready else .done) jump))) := fun jump W3 hk3 hp3 => by
        have hl3 := hk3.same _ _ hl2 rfl
        have := run_endRound (P := P) jump hl3
        rw [hrec] at this ⊢
        rw [hrec] at hl3
        exact ⟨this, hl3, World.putObj_heap_same (Array.getElem?_eq_some_iff.1 hl3).1, (World.putObj_heap_other (by omega)).trans (hk3.same _ _ hk2 rfl), hSt.putObj _ hp3 (by omega) hl3 rfl⟩
      rintro e a3 W3 hp
      cases e with
      | normal =>
        obtain ⟨hk3, hp3, hi3⟩ := hp
        obtain ⟨hr, hl3, hl4, hk4, hp4⟩ := fin none W3 hk3 hp3
        exact ⟨_, _, hr, hp4, .inl ⟨rfl, (hI s').putObj _ hi3 (by omega) hl3 rfl, hl4, hk4⟩⟩
      | ret =>
        obtain ⟨hk3, hp3, hi3⟩ := hp
        obtain ⟨hr, hl3, hl4, hk4, hp4⟩ := fin (some .ret) W3 hk3 hp3
        exact ⟨_, _, hr, hp4, .inr ⟨rfl, .ret, (hIx _ s').putObj _ hi3 (by omega) hl3 rfl, hl4, hk4⟩⟩
      | exit id =>
        obtain ⟨hk3, hp3, hi3⟩ := hp
        obtain ⟨hr, hl3, hl4, hk4, hp4⟩ := fin (some (.exit id)) W3 hk3 hp3
        exact ⟨_, _, hr, hp4, .inr ⟨rfl, .exit id, (hIx _ s').putObj _ hi3 (by omega) hl3 rfl, hl4, hk4⟩⟩
      | goto t =>
        obtain ⟨hk3, hp3, hi3⟩ := hp
        obtain ⟨hr, hl3, hl4, hk4, hp4⟩ := fin (some (.goto t)) W3 hk3 hp3
        exact ⟨_, _, hr, hp4, .inr ⟨rfl, .goto t, (hIx _ s').putObj _ hi3 (by omega) hl3 rfl, hl4, hk4⟩⟩
      | panic ch => exact hp.elim
      | outgrown => exact hp.elim
    · rintro e W2 ⟨⟨v, rfl⟩, pre, s, hst, (⟨hno, hi, hl, hk⟩ | ⟨c, hi, hl, hk⟩)⟩
      · exact ⟨none, _, by have := run_endLoop (P := P) hl (by rw [hrec]; simp); rw [hrec] at this; exact this, hdone _ pre s _ (Nat.le_refl _) hno ((hI s).putObj _ hi (by omega) hl rfl) (hSt.putObj _ hst (by omega) hl rfl) ((World.putObj_heap_other (by omega)).trans hk)⟩
      · exact ⟨some c, _, by have := run_endLoop (P := P) hl (by rw [hrec]; simp); rw [hrec] at this; exact this, hstop _ c pre s _ (Nat.le_refl _) ((hIx c s).putObj _ hi (by omega) hl rfl) (hSt.putObj _ hst (by omega) hl rfl) ((World.putObj_heap_other (by omega)).trans hk)⟩
end Go.Proofs.Ytkcmmghhghgdpaa.SeqN
end
section
namespace Go.Proofs.Ytkcmmghhghgdpaa.Agt
open Go.RowKit Go.Shelf Go.Maps Go.Proofs.Ytkcmmghhghgdpaa.Iter Go.Proofs.Ytkcmmghhghgdpaa.SeqN Go.Proofs.Ytkcmmghhghgdpaa.Str Go.Proofs.YtkcmmghhghgdpaaW.PrintWords Go.Proofs.YtkcmmghhghgdpaaW.PrintLast
set_option linter.unusedVariables false
set_option linter.unusedSimpArgs false
abbrev tPA : Nat := 59
def lvAt (S : Ag) (k : Nat) : Bool := match S.jobs[k]? with | some j => liveJ S j | none => false
def stepL (js : List Jm) (S : Ag) (i : Nat) : Option (Nat × Nat) := ((List.range' i (S.jobs.length - i)).find? (lvAt S)).bind fun k => (js[k]?).map fun t => (t.J, k + 1)
theorem stepL_some {js : List Jm} {S : Ag} {i k : Nat} {t : Jm} (h1 : i ≤ k) (h2 : k < S.jobs.length) (h3 : lvAt S k = true) (h4 : ∀ m, i ≤ m → m < k → lvAt S m = false) (ht : js[k]? = some t) : stepL js S i = some (t.J, k + 1) := by
  have : (List.range' i (S.jobs.length - i)).find? (lvAt S) = some k := by
    rw [List.find?_eq_some_iff_getElem]
    refine ⟨h3, k - i, by simp; omega, by simp; omega, fun m hm => ?_⟩
    have := h4 (i + m) (by omega) (by omega)
    simpa using this
  unfold stepL
  rw [this]
  simp [ht]
theorem stepL_none {js : List Jm} {S : Ag} {i : Nat} (h : ∀ k, i ≤ k → k < S.jobs.length → lvAt S k = false) : stepL js S i = none := by
  have : (List.range' i (S.jobs.length - i)).find? (lvAt S) = none := by
    rw [List.find?_eq_none]
    intro k hk
    rw [List.mem_range'_1] at hk
    simpa using h k hk.1 (by omega)
  unfold stepL
  rw [this]
  rfl
theorem stepL_inv {js : List Jm} {S : Ag} {i x s' : Nat} (hl : js.length = S.jobs.length) (h : stepL js S i = some (x, s')) : ∃ k t j, s' = k + 1 ∧ i ≤ k ∧ k < S.jobs.length ∧ js[k]? = some t ∧ S.jobs[k]? = some j ∧ liveJ S j = true ∧ (∀ m, i ≤ m → m < k → lvAt S m = false) ∧ x = t.J := by
  unfold stepL at h
  cases hf : (List.range' i (S.jobs.length - i)).find? (lvAt S) with
  | none => rw [hf] at h; cases h
  | some k =>
    rw [hf] at h
    rw [List.find?_eq_some_iff_getElem] at hf
    obtain ⟨h1, q, hq, h2, h3⟩ := hf
    simp at hq h2
    have hk : k < S.jobs.length := by omega
    have ht : js[k]? = some (js[k]'(by omega)) := List.getElem?_eq_getElem _
    have hj : S.jobs[k]? = some S.jobs[k] := List.getElem?_eq_getElem hk
    simp only [Option.bind_some, ht, Option.map_some] at h
    injection h with h
    injection h with e1 e2
    refine ⟨k, _, _, e2.symm, by omega, hk, ht, hj, ?_, fun m hm1 hm2 => ?_, e1.symm⟩
    · unfold lvAt at h1
      rw [hj] at h1
      exact h1
    · have := h3 (m - i) (by omega)
      simp at this
      rw [show i + (m - i) = m by omega] at this
      exact this
theorem stepL_end {js : List Jm} {S : Ag} {i : Nat} (hl : js.length = S.jobs.length) (h : stepL js S i = none) : ∀ k, i ≤ k → k < S.jobs.length → lvAt S k = false := fun k h1 h2 => by
  cases hk : lvAt S k with
  | false => rfl
  | true =>
    unfold stepL at h
    cases hf : (List.range' i (S.jobs.length - i)).find? (lvAt S) with
    | none =>
      rw [List.find?_eq_none] at hf
      have := hf k (by rw [List.mem_range'_1]; omega)
      rw [hk] at this
      exact absurd rfl this
    | some q =>
      rw [hf] at h
      have hq := List.mem_of_find?_eq_some hf
      rw [List.mem_range'_1] at hq
      simp [List.getElem?_eq_getElem (show q < js.length by omega)] at h
/-- What the iterator reads, from job i on. -/
structure StL (QB B a : Nat) (vs vj : Value) (js : List Jm) (S : Ag) (i : Nat) (W : World) : Prop where
  box : Blk W QB tPA #[ptr a]
  blk : Blk W a tA (agCells S vs vj)
  jrow : W.ownsRow B tPJ 1 vj js.length (js.map fun t => ptr t.J)
  job : ∀ (k : Nat) (t : Jm) (j : Jb), i ≤ k → js[k]? = some t → S.jobs[k]? = some j → JobM B t j W
theorem StL.ptrAt {QB B a s i : Nat} {vs vj : Value} {js : List Jm} {S : Ag} {W : World} {t : Jm} (h : StL QB B a vs vj js S s W) (ht : js[i]? = some t) : ∃ g c, vj = .slice (some ⟨g, 0, none⟩) js.length c ∧ W.cell? ⟨g, i, none⟩ = some (ptr t.J) := by
  have hl := (List.getElem?_eq_some_iff.1 ht).1
  obtain ⟨g, c, hv⟩ := own_someL h.jrow (by omega)
  have hrow := h.jrow
  rw [hv] at hrow
  refine ⟨g, c, hv, ?_⟩
  have := hrow.cellAt i (by omega)
  rw [this, List.getElem?_map, ht]
  rfl
def MuL (A B : World) : Prop := ∃ n, B = A.drewN n
theorem StL.mu {QB B a i : Nat} {vs vj : Value} {js : List Jm} {S : Ag} {X Y : World} (h : StL QB B a vs vj js S i X) (hm : MuL X Y) : StL QB B a vs vj js S i Y := by
  obtain ⟨n, rfl⟩ := hm
  exact ⟨h.box, h.blk, h.jrow, fun k t j h1 h2 h3 => (h.job k t j h1 h2 h3).frame rfl rfl (fun _ _ => rfl) (fun _ _ => rfl)⟩
theorem StL.mono {QB B a i i' : Nat} {vs vj : Value} {js : List Jm} {S : Ag} {X : World} (h : StL QB B a vs vj js S i X) (hi : i ≤ i') : StL QB B a vs vj js S i' X := ⟨h.box, h.blk, h.jrow, fun k t j h1 => h.job k t j (by omega)⟩
theorem ownFrom_stL {B' QB B a : Nat} {vs vj : Value} {js : List Jm} {S : Ag} : OwnFrom B' (fun (i : Nat) W => StL QB B a vs vj js S i W) := fun s X Y row hs hg hr => by
  have keep : ∀ k (o : Obj), X.heap[k]? = some o → o.isCells = true → Y.heap[k]? = X.heap[k]? := fun k o hk ho => hg.block k (Array.getElem?_eq_some_iff.1 hk).1 (fun e => by
    obtain ⟨_, o', h1, h2⟩ := hr k e.symm
    rw [hk] at h1
    obtain rfl := Option.some.inj h1
    rw [ho] at h2
    cases h2)
  have kr : ∀ {b e size n : Nat} {v : Value} {xs : List Value}, X.ownsRow b e size v n xs → Y.ownsRow b e size v n xs := fun h => Str.own_move h fun k hk => by
    obtain ⟨_, _, cur, hc⟩ := own_block h hk
    exact keep k _ hc rfl
  refine ⟨(keep _ _ hs.box rfl).trans hs.box, (keep _ _ hs.blk rfl).trans hs.blk, kr hs.jrow, fun k t j h1 h2 h3 => ?_⟩
  have hj := hs.job k t j h1 h2 h3
  refine hj.frame (keep _ _ hj.blk rfl) (keep _ _ hj.grp.blk rfl) (fun m hm => ?_) (fun ad hA => ?_)
  · obtain ⟨_, _, cur, hc⟩ := own_block hj.grp.row hm
    exact keep m _ hc rfl
  · obtain ⟨_, _, cur, hc⟩ := hj.coreA hA
    exact keep _ _ hc rfl
set_option maxRecDepth 100000 in
set_option maxHeartbeats 8000000 in
theorem live_seq (m QB B a : Nat) (vs vj : Value) (js : List Jm) (S : Ag) (N : Nat) (W : World) (hok : AgOk S) (hl : js.length = S.jobs.length) (hst : StL QB B a vs vj js S 0 W) :
    SeqN Fence.wide m Try.prog 87 #[.pointer (some ⟨QB, 0, none⟩)] (fun J : Nat => #[ptr J]) (stepL js S) (StL QB B a vs vj js S) MuL N 0 W := by
  intro ll J Jx hJ hJN hY h0
  refine callsIn_wide.2 ?_
  have hok' := Lib.hid hok
  have hjl := hok.jobs
  obtain ⟨AJ, cj, hvj⟩ := slice_of_own hst.jrow
  rw [hl] at hvj
  subst hvj
  have b0 := hst.box.cell 0
  have d11 := hst.blk.cell 11
  simp only [List.getElem?_toArray, List.getElem?_cons_zero, List.getElem?_cons_succ] at b0 d11
  have hst' := Lib.hid hst
  have h0' := Lib.hid h0
  have hJ' := Lib.hid hJ
  have hY' := Lib.hid hY
  clear hok hst h0 hJ hY hJN
  go_enter Try.func87, Try.ntmps87
  go_wp2
  refine wp_scope_straight ?_
  go_wp2
  go_step3
  go_wp2
  go_loopw [10] (fun iv wr => ∃ (i : Nat) (pre : List Nat) (s : Nat), iv = .int .i64 (i : Int) ∧ i ≤ S.jobs.length ∧ s ≤ i ∧ Aside0 (∀ k, s ≤ k → k < i → lvAt S k = false) ∧ Aside0 (StL QB B a vs (.slice AJ S.jobs.length cj) js S s wr) ∧ Aside0 (J pre s wr))
    (fun iv _ => S.jobs.length - (intOf iv).toNat)
  case atStart => exact ⟨0, [], 0, rfl, Nat.zero_le _, Nat.le_refl _, ⟨fun k h1 h2 => by omega⟩, ⟨hst'.out⟩, ⟨h0'.out⟩⟩
  case round =>
    clear b0 d11
    obtain ⟨i, pre, s, rfl, hi, hsi, HN, HS, HJ⟩ := hrel
    by_cases hlt : i < S.jobs.length
    · have hs := HS.out
      obtain ⟨t, ht⟩ : ∃ t, js[i]? = some t := ⟨js[i]'(by omega), List.getElem?_eq_getElem _⟩
      obtain ⟨j, hj⟩ : ∃ j, S.jobs[i]? = some j := ⟨S.jobs[i], List.getElem?_eq_getElem hlt⟩
      have hjm := hs.job i t j hsi ht hj
      obtain ⟨g, c2, hv2, p0⟩ := hs.ptrAt ht
      injection hv2 with hA hLe hc2
      clear hLe
      subst hA
      subst hc2
      have b0 := hs.box.cell 0
      have d5 := hs.blk.cell 5
      have d6 := hs.blk.cell 6
      have j8 := hjm.blk.cell 8
      simp only [List.getElem?_toArray, List.getElem?_cons_zero, List.getElem?_cons_succ] at b0 d5 d6 j8
      obtain ⟨k1, k2, k3, k4, k5⟩ := hok'.out.job j (List.mem_of_getElem? hj)
      have hcl := hok'.out.clock
      have hltI : (i : Int) < (S.jobs.length : Int) := by omega
      have xlt : decide ((i : Int) < (S.jobs.length : Int)) = true := decide_eq_true hltI
      have hw : IntKind.i64.wrap (S.clock - j.frm) = S.clock - j.frm := IntWalk.i64_in _ (by omega)
      have hdq := Lib.hid (fun n => Calls.quiet_of (done_calls B t j (wr.drewN n) (hjm.frame rfl rfl (fun _ _ => rfl) (fun _ _ => rfl))))
      have hlv : lvAt S i = liveJ S j := by unfold lvAt; rw [hj]
      have hlv' := Lib.hid hlv
      have ht' := Lib.hid ht
      clear hs hjm hj ht k1 k2 k3 k4 k5 hcl hlv
      by_cases c1 : S.short ≤ S.clock - j.frm
      · have x1 : decide (S.short ≤ S.clock - j.frm) = true := decide_eq_true c1
        have hno := Lib.hid (show lvAt S i = false by rw [hlv'.out]; unfold liveJ; rw [decide_eq_false (by omega)]; rfl)
        clear c1
        go_wp2
        go_quiet (fail)
        go_wp2
        go_roundw
        case rel => exact ⟨i + 1, pre, s, by go_num, by omega, by omega, ⟨fun k h1 h2 => by
          by_cases hk : k = i
          · subst hk
            exact hno.out
          · exact HN.out k h1 (by omega)⟩, ⟨HS.out.mu ⟨_, rfl⟩⟩, ⟨hJ'.out _ _ _ _ HJ.out ⟨_, rfl⟩⟩⟩
        case measure => simp [intOf]; omega
      · have x1 : decide (S.short ≤ S.clock - j.frm) = false := decide_eq_false c1
        have hdec : decide (S.clock - j.frm < S.short) = true := decide_eq_true (by omega)
        cases hd : doneJ j with
        | true =>
          have hno := Lib.hid (show lvAt S i = false by rw [hlv'.out]; unfold liveJ; rw [hd]; simp)
          rw [hd] at hdq
          clear c1 hd hdec
          go_wp2
          go_quiet (first | exact hdq.out _ | (go_at_call 60; exact hdq.out _))
          go_wp2
          go_roundw
          case rel => exact ⟨i + 1, pre, s, by go_num, by omega, by omega, ⟨fun k h1 h2 => by
            by_cases hk : k = i
            · subst hk
              exact hno.out
            · exact HN.out k h1 (by omega)⟩, ⟨HS.out.mu ⟨_, rfl⟩⟩, ⟨hJ'.out _ _ _ _ HJ.out ⟨_, rfl⟩⟩⟩
          case measure => simp [intOf]; omega
        | false =>
          have hyes := Lib.hid (show lvAt S i = true by rw [hlv'.out]; unfold liveJ; rw [hd, hdec]; rfl)
          rw [hd] at hdq
          clear c1 hd hdec
          go_wp2
          go_quiet (first | exact hdq.out _ | (go_at_call 60; exact hdq.out _))
          go_upto_region 4 with (fail)
          have hS2 := (HS.out.mu ⟨nq, rfl⟩ : StL QB B a vs (.slice (some ⟨g, 0, none⟩) S.jobs.length cj) js S s (wr.drewN nq)).mono (show s ≤ i + 1 by omega)
          have hJ2 := hJ'.out _ _ _ _ HJ.out ⟨nq, rfl⟩
          have hstep : stepL js S s = some (t.J, i + 1) := stepL_some hsi hlt hyes.out HN.out ht'.out
          obtain ⟨fn, tm, asg, bdy, hy, hR⟩ := hY'.out pre s t.J (i + 1) _ hJ2 hstep hS2
          clear hS2 hJ2 hstep hY'
          refine (wpIn_wide (n := m)).1 ?_
          gi_wp2
          refine ⟨fun h => absurd h (by simp [Fence.wide]), ?_⟩
          refine hR.mono ?_
          rintro e W3 ⟨hS3, (⟨rfl, hJ3⟩ | ⟨rfl, hJx3⟩)⟩
          · have hS3' := Lib.hid hS3
            have hJ3' := Lib.hid hJ3
            clear hS3 hJ3
            gi_wp2
            go_wp2
            go_roundw
            case rel => exact ⟨i + 1, pre ++ [t.J], i + 1, by go_num, by omega, by omega, ⟨fun k h1 h2 => by omega⟩, ⟨hS3'.out⟩, ⟨hJ3'.out⟩⟩
            case measure => simp [intOf]; omega
          · have hS3' := Lib.hid hS3
            have hJ3' := Lib.hid hJx3
            clear hS3 hJx3
            gi_wp2
            go_wp2
            rw [Exit.noGoto_ret]
            refine bodyPost_ret (results_none rfl _ _ _) rfl ?_
            exact ⟨⟨_, rfl⟩, pre ++ [t.J], i + 1, hS3'.out, .inr hJ3'.out⟩
    · have hi' : i = S.jobs.length := by omega
      subst hi'
      have hnone := Lib.hid (stepL_none (js := js) HN.out)
      go_wp2
      rw [Exit.noGoto_normal]
      refine bodyPost_end (results_none rfl _ _ _) rfl ?_
      exact ⟨⟨_, rfl⟩, pre, s, HS.out, .inl ⟨hnone.out, HJ.out⟩⟩
end Go.Proofs.Ytkcmmghhghgdpaa.Agt
end
section
namespace Go.Proofs.Ytkcmmghhghgdpaa.Agt
open Go.RowKit Go.Shelf Go.Maps Go.Proofs.Ytkcmmghhghgdpaa.Iter Go.Proofs.Ytkcmmghhghgdpaa.SeqN Go.Proofs.Ytkcmmghhghgdpaa.Str Go.Proofs.YtkcmmghhghgdpaaW.PrintWords Go.Proofs.YtkcmmghhghgdpaaW.PrintLast
set_option linter.unusedVariables false
set_option linter.unusedSimpArgs false
attribute [local go_sem] Oper.semAt_some
theorem live_calls (a : Nat) (W : World) : Calls Try.prog 59 #[ptr a] W fun e W' => e = .returned (.func (.func 87) #[] #[.pointer (some ⟨W.heap.size, 0, none⟩)]) ∧ W' = W.alloc (.cells #[ptr a] tPA) := by
  go_enter Try.func59, Try.ntmps59
  go_wp2
  go_ret
  exact ⟨rfl, rfl⟩
/-- An operation that makes a block. -/
theorem make_ {P : Program} {ops : Array Oper} {Q : Exit → Act → World → Prop} {oi : Oper} {N : Option Tmp} {a : Act} {w w1 : World} {v : Value} {K : Act → World → Prop} (hw : Region.wanted oi (yielded ops a.tmps) = true) (hN : oi.dst = N) (hrun : (execOp a.eval oi).run P w = .ok (.value v) w1)
    (h : K (a.put N v) w1) : if Region.wanted oi (yielded ops a.tmps) = true then Oper.wp P oi a w K Q else K (a.put N undef) w := by
  rw [if_pos hw]
  unfold Oper.wp
  rw [hrun]
  show K (a.put oi.dst v) w1
  rw [hN]
  exact h
def prCs (r : Int × Int) : List Value := [.int .i64 r.1, .int .i64 r.2]
def flatR (l : List (Int × Int)) : List Value := l.flatMap prCs
theorem flatR_app (x y : List (Int × Int)) : flatR (x ++ y) = flatR x ++ flatR y := by simp [flatR]
theorem flatR_one (r : Int × Int) : ∀ u ∈ prCs r, u.oneCell' = true := by intro u hu; simp [prCs] at hu; rcases hu with rfl | rfl <;> rfl
abbrev tRun : Nat := 77
abbrev tRuns : Nat := 66
theorem infoRun : (Try.prog.info? 77).map (fun i => (i.zero, i.size, i.bytes)) = some (some (.agg #[.int .i64 0, .int .i64 0]), 2, 16) := by kernel_rfl
/-- What is live up to job i. -/
def liveUp (S : Ag) (i : Nat) : List (Int × Int) := ((S.jobs.take i).filter (liveJ S)).flatMap runsJ
theorem filter_skip {S : Ag} {i k : Nat} (hk : k ≤ S.jobs.length) (h : ∀ m, i ≤ m → m < k → lvAt S m = false) (hi : i ≤ k) : (S.jobs.take k).filter (liveJ S) = (S.jobs.take i).filter (liveJ S) := by
  have h1 : S.jobs.take k = S.jobs.take i ++ (S.jobs.take k).drop i := by
    have := (List.take_append_drop i (S.jobs.take k)).symm
    rwa [List.take_take, Nat.min_eq_left hi] at this
  rw [h1, List.filter_append]
  have h2 : ((S.jobs.take k).drop i).filter (liveJ S) = [] := by
    rw [List.filter_eq_nil_iff]
    intro j hj
    obtain ⟨q, hq⟩ := List.mem_iff_getElem?.1 hj
    rw [List.getElem?_drop, List.getElem?_take] at hq
    split at hq
    · rename_i hlt
      have := h (i + q) (by omega) hlt
      unfold lvAt at this
      rw [hq] at this
      simpa using this
    · cases hq
  rw [h2, List.append_nil]
theorem filter_step {S : Ag} {i k : Nat} {j : Jb} (hj : S.jobs[k]? = some j) (hlv : liveJ S j = true) (h : ∀ m, i ≤ m → m < k → lvAt S m = false) (hi : i ≤ k) : (S.jobs.take (k + 1)).filter (liveJ S) = (S.jobs.take i).filter (liveJ S) ++ [j] := by
  have hk := (List.getElem?_eq_some_iff.1 hj).1
  rw [List.take_add_one, hj]
  show ((S.jobs.take k ++ [j]).filter _) = _
  rw [List.filter_append, filter_skip (by omega) h hi]
  simp [hlv]
theorem filter_end {S : Ag} {i : Nat} (hi : i ≤ S.jobs.length) (h : ∀ m, i ≤ m → m < S.jobs.length → lvAt S m = false) : S.jobs.filter (liveJ S) = (S.jobs.take i).filter (liveJ S) := by
  have := filter_skip (Nat.le_refl _) h hi
  rwa [List.take_length] at this
theorem liveUp_step {S : Ag} {i k : Nat} {j : Jb} (hj : S.jobs[k]? = some j) (hlv : liveJ S j = true) (h : ∀ m, i ≤ m → m < k → lvAt S m = false) (hi : i ≤ k) : liveUp S (k + 1) = liveUp S i ++ runsJ j := by
  unfold liveUp
  rw [filter_step hj hlv h hi]
  simp
theorem liveUp_end {S : Ag} {i : Nat} (hi : i ≤ S.jobs.length) (h : ∀ m, i ≤ m → m < S.jobs.length → lvAt S m = false) : liveG S = liveUp S i := by
  unfold liveUp liveG
  rw [filter_end hi h]
theorem flat_le {α β : Type} (f : α → List β) (n : Nat) : ∀ (l : List α), (∀ x ∈ l, (f x).length ≤ n) → (l.flatMap f).length ≤ l.length * n
  | [], _ => by simp
  | x :: l, h => by
    have h1 := flat_le f n l (fun y hy => h y (List.mem_cons_of_mem _ hy))
    have h2 := h x List.mem_cons_self
    simp only [List.flatMap_cons, List.length_append, List.length_cons, Nat.add_mul, Nat.one_mul]
    omega
theorem liveUp_len {S : Ag} (hok : AgOk S) (i : Nat) : (liveUp S i).length ≤ 4096 := by
  unfold liveUp
  have h1 := flat_le runsJ 64 ((S.jobs.take i).filter (liveJ S)) (fun j hj => by
    have := (hok.job j (List.mem_of_mem_take (List.mem_filter.1 hj).1)).1
    simpa [runsJ] using this)
  have h2 : ((S.jobs.take i).filter (liveJ S)).length ≤ S.jobs.length := Nat.le_trans (List.length_filter_le _ _) (by rw [List.length_take]; omega)
  have := hok.jobs
  omega
theorem ownFrom_below {β : Type} {B' : Nat} {W : World} (h : W.heap.size ≤ B') : OwnFrom B' (fun (_ : β) W1 => Below W.heap.size W W1) := fun s X Y row hs hg hr =>
  ⟨hg.os.trans hs.os, hg.tape.trans hs.tape, hg.output.trans hs.output, Nat.le_trans hs.size hg.size, fun k hk => (hg.block k (Nat.lt_of_lt_of_le hk hs.size) (fun e => by have := (hr k e.symm).1; omega)).trans (hs.block k hk)⟩
theorem below_put {W X : World} {D : Nat} {o : Obj} (h : Below W.heap.size W X) (hD : W.heap.size ≤ D) : Below W.heap.size W (X.putObj D o) :=
  ⟨h.os, h.tape, h.output, by rw [World.putObj_size]; exact h.size, fun k hk => (World.putObj_heap_other (by omega)).trans (h.block k hk)⟩
theorem others_drew {A B : World} (h : KeepsOthers A.drew B) : KeepsOthers A B := ⟨h.size, fun k o h1 h2 => h.same k o h1 h2⟩
set_option maxRecDepth 100000 in
set_option maxHeartbeats 8000000 in
theorem Live_calls (B a : Nat) (vs vj : Value) (js : List Jm) (S : Ag) (W : World) (h : AgM B a vs vj js S W) (hok : AgOk S) :
    Calls Try.prog 33 #[ptr a] W fun e W' => ∃ u, e = .returned u ∧ W'.ownsRow W.heap.size tRun 2 u (liveG S).length (flatR (liveG S)) ∧ Below W.heap.size W W' := by
  obtain ⟨i0, hif, hz0, hz1, hz2⟩ := info_parts infoRun
  have h' := Lib.hid h
  have hok' := Lib.hid hok
  have hal := h.blk.lt
  clear h hok
  refine (callsIn_wide (n := 6)).1 ?_
  refine callsIn_of_wp_marks Try.func33 rfl trivial ?_ rfl
  simp only [Try.ntmps33, List.size_toArray, List.length_cons, List.length_nil, Nat.reduceAdd, Nat.reduceSub, Array.replicate_succ, Array.replicate_zero, List.push_toArray, List.append_toArray, List.nil_append, List.cons_append]
  gi_wp2_with (refine ⟨trivial, ?_⟩; gi_at_call 59; refine (callsIn_wide.2 (live_calls a _)).mono ?_; rintro e w' ⟨rfl, rfl⟩)
  have bO := (Boxed.new W tRuns (.slice none 0 0)).alloc (.cells #[ptr a] tPA)
  have bQ := Blk.new (W.alloc (.cells #[.slice none 0 0] tRuns)) tPA #[ptr a]
  have hb0 : Below W.heap.size W ((W.alloc (.cells #[.slice none 0 0] tRuns)).alloc (.cells #[ptr a] tPA)) := ((Below.refl W.heap.size W).alloc (Nat.le_refl _) _).alloc (by simp) _
  have hrow0 : ((W.alloc (.cells #[.slice none 0 0] tRuns)).alloc (.cells #[ptr a] tPA)).ownsRow W.heap.size tRun 2 (.slice none 0 0) 0 [] := World.ownsRow_nil _ _ _ _
  have hsz : ((W.alloc (.cells #[.slice none 0 0] tRuns)).alloc (.cells #[ptr a] tPA)).heap.size = W.heap.size + 2 := by simp
  simp only [World.size_alloc] at bQ
  obtain ⟨W0, hW0⟩ : ∃ W0, ((W.alloc (.cells #[.slice none 0 0] tRuns)).alloc (.cells #[ptr a] tPA)) = W0 := ⟨_, rfl⟩
  rw [hW0] at bO bQ hrow0 hb0 hsz ⊢
  clear hW0
  have hst0 : StL (W.heap.size + 1) B a vs vj js S 0 W0 := ⟨bQ, ((h'.out.below hb0)).blk, ((h'.out.below hb0)).jrow, fun k t j _ => ((h'.out.below hb0)).job k t j⟩
  refine wpIn_rangeN (F := Fence.wide) rfl (by omega) (gf := 87) (lb := #[.pointer (some ⟨W.heap.size + 1, 0, none⟩)]) rfl trivial (enters_of Try.func87 (by kernel_rfl) rfl)
    (enc := fun J : Nat => #[ptr J]) (step := stepL js S) (St := StL (W.heap.size + 1) B a vs vj js S) (Mu := MuL) (N := S.jobs.length + 1) (s0 := 0)
    (fun W1 h1 _ => live_seq _ _ B a vs vj js S _ W1 hok'.out h'.out.len h1)
    ownFrom_stL
    (fun X Y hm => by obtain ⟨n, rfl⟩ := hm; exact ⟨Nat.le_refl _, fun k o h1 h2 => h1⟩) (fun _ => rfl)
    (fun pre s X => ((pre.length ≤ s ∧ s ≤ S.jobs.length) ∧ (∃ u, Boxed X W.heap.size tRuns u ∧ X.ownsRow W.heap.size tRun 2 u (liveUp S s).length (flatR (liveUp S s)) ∧ True)) ∧ Below W.heap.size W X)
    (fun c pre s X => False)
    (fun s => OwnFrom.and (OwnFrom.and (ownFrom_pure _ _) (Own.from (holdsRow_own W.heap.size W.heap.size tRuns tRun 2 (fun pre : List Nat => (liveUp S s).length) (fun pre => flatR (liveUp S s)) (fun _ _ => True)) _)) (ownFrom_below (by omega)))
    (fun c s => ownFrom_pure _ _)
    (fun pre s X Y hs hm => by
      obtain ⟨n, rfl⟩ := hm
      obtain ⟨⟨h1, u, hu, hrow, _⟩, h4⟩ := hs
      exact ⟨⟨h1, u, hu, Str.own_move hrow (fun _ _ => rfl), trivial⟩, pw_below_drewN h4 n⟩)
    (fun pre s X hs => by have := hs.1.1; omega)
    ⟨⟨⟨Nat.le_refl _, Nat.zero_le _⟩, _, bO, hrow0, trivial⟩, hb0⟩ hst0
    (fun x : Nat => { tmps := #[ptr a, undef, .slice none 0 0, .pointer (some ⟨W.heap.size, 0, none⟩), ptr x, undef, undef, ptr a, .bool false, ptr a, .func (.func 87) #[] #[.pointer (some ⟨W.heap.size + 1, 0, none⟩)], ptr x, undef, undef, undef, undef, undef, undef, undef, undef, undef, undef, undef, undef, undef, undef, undef, undef, undef, undef, undef, undef, undef, undef], defers := [] })
    ?assign ?body ?done ?stop
  case assign =>
    rintro ll x X K hK
    gi_wp2
    first | simpa using hK | (simp only [List.zip_toArray, List.zip_cons_cons, List.zip_nil_right, List.foldl_toArray, List.foldl_cons, List.foldl_nil, List.setIfInBounds_toArray, List.set_cons_succ, List.set_cons_zero]; exact hK) | (simp [Array.foldl, Array.zip] at hK ⊢; exact hK)
  case body =>
    rintro ll pre s x s' X ⟨⟨⟨hpl, hsl⟩, u, hu, hrow, _⟩, hbel⟩ hstep hst
    obtain ⟨k, t, j, rfl, hsk, hkl, htk, hjk, hlv, hno, rfl⟩ := stepL_inv h'.out.len hstep
    obtain ⟨At, hAt⟩ : ∃ At, t.A = At := ⟨_, rfl⟩
    have hup := Lib.hid (liveUp_step hjk hlv hno hsk)
    have hjm := (h'.out.below hbel).job k t j htk hjk
    have hcl := (hok'.out.job j (List.mem_of_getElem? hjk)).1
    have e3 := hjm.blk.cell 3
    simp only [List.getElem?_toArray, List.getElem?_cons_zero, List.getElem?_cons_succ] at e3
    rw [hAt] at e3
    have hAt' := Lib.hid hAt
    have htk' := Lib.hid htk
    have hjk' := Lib.hid hjk
    have hul := liveUp_len hok'.out s
    have hbQ := Lib.hid hst.box
    have hst' := Lib.hid hst
    have hu' := Lib.hid hu
    have hrow' := Lib.hid hrow
    have hbel' := Lib.hid hbel
    have hjm' := Lib.hid hjm
    have hsX : W.heap.size ≤ X.heap.size := hbel.size
    clear hstep hst hu hrow hbel hjm htk hjk hlv hno hAt
    gi_wp2
    gi_loopw [18] (fun iv wr => ∃ (i : Nat), iv = .int .i64 (i : Int) ∧ i ≤ j.le.cores.length ∧ Aside0 (∃ u, Boxed wr W.heap.size tRuns u ∧ wr.ownsRow W.heap.size tRun 2 u (liveUp S s ++ (runsJ j).take i).length (flatR (liveUp S s ++ (runsJ j).take i))) ∧ Aside0 (KeepsOthers X wr) ∧ Aside0 (Below W.heap.size W wr) ∧ Aside0 (Blk wr (W.heap.size + 1) tPA #[ptr a]))
      (fun iv _ => j.le.cores.length - (intOf iv).toNat)
    case atStart => exact ⟨0, rfl, Nat.zero_le _, ⟨u, hu'.out, by rw [List.take_zero, List.append_nil]; exact hrow'.out⟩, ⟨KeepsOthers.refl _⟩, ⟨hbel'.out⟩, ⟨hbQ.out⟩⟩
    case round =>
      clear e3
      obtain ⟨i, rfl, hi, HR, HK, HB, HQ⟩ := hrel
      by_cases hlt : i < j.le.cores.length
      · have hjm2 := (h'.out.below HB.out).job k t j htk'.out hjk'.out
        have hco := hjm2.cores
        rw [hAt'.out] at hco
        obtain ⟨g, c2, hsl2⟩ := own_someL hco (by omega)
        injection hsl2 with hA2 hLe hc2
        clear hLe
        subst hA2
        obtain ⟨core, hcore⟩ : ∃ core, j.le.cores[i]? = some core := ⟨j.le.cores[i], List.getElem?_eq_getElem hlt⟩
        have p0 := hco.cellAt i (by omega)
        rw [List.getElem?_map, hcore] at p0
        simp only [Option.map_some] at p0
        have e0 := hjm2.blk.cell 0
        simp only [List.getElem?_toArray, List.getElem?_cons_zero, List.getElem?_cons_succ] at e0
        obtain ⟨u2, hu2, hrow2⟩ := HR.out
        obtain ⟨L, hL⟩ : ∃ L, liveUp S s ++ (runsJ j).take i = L := ⟨_, rfl⟩
        have hLl : L.length ≤ 4096 + 64 := by
          rw [← hL, List.length_append, List.length_take]
          have : (runsJ j).length = j.le.cores.length := by simp [runsJ]
          omega
        have hLs := Lib.hid (show liveUp S s ++ (runsJ j).take (i + 1) = L ++ [(j.le.task, core)] by
          rw [← hL, List.append_assoc, List.take_add_one]
          congr 2
          unfold runsJ
          rw [List.getElem?_map, hcore]
          rfl)
        rw [hL] at hrow2
        have c0 := hu2.cell
        have hu2' := Lib.hid hu2
        have hrow2' := Lib.hid hrow2
        have hsW : W.heap.size ≤ wr.heap.size := HB.out.size
        have hltI : (i : Int) < (j.le.cores.length : Int) := by omega
        have xlt : decide ((i : Int) < (j.le.cores.length : Int)) = true := decide_eq_true hltI
        have hcore' := Lib.hid hcore
        clear hjm2 hco hL hu2 hrow2 hcore HR
        gi_wp2
        refine startIn_ (m := 11) (S := fun w' => w'.cell? ⟨W.heap.size, 0, none⟩ = some u2 ∧ w'.cell? ⟨t.J, 0, none⟩ = some (.int .i64 j.le.task)) (ds := [9, 10]) #[false, false, false, false, false, false, false, false, false, false, false] (by kernel_rfl) (by kernel_rfl) rfl rfl ⟨c0, e0⟩ (fun hHeld => ?_)
        refine pure_ (i := 1) (N := some 23) (v := ?_) (a' := ?_) #[false, true, false, false, false, false, false, false, false, false, false] rfl rfl (by kernel_rfl) (fun _ _ _ h => h) (Or.inl ⟨by rfl, ?_⟩) ?_ ?_
        rotate_left
        · intro w'
          go_simp
          with_reducible rfl
        rotate_left
        · simp only [Act.put, List.setIfInBounds_toArray, List.set_cons_zero, List.set_cons_succ, i64_w, i32_w]
          rfl
        refine pure_ (i := 2) (N := some 24) (v := ?_) (a' := ?_) #[false, true, true, false, false, false, false, false, false, false, false] rfl rfl (by kernel_rfl) (fun _ _ _ h => h) (Or.inl ⟨by rfl, ?_⟩) ?_ ?_
        rotate_left
        · intro w'
          go_simp
          with_reducible rfl
        rotate_left
        · simp only [Act.put, List.setIfInBounds_toArray, List.set_cons_zero, List.set_cons_succ, i64_w, i32_w]
          rfl
        refine pure_ (i := 3) (N := some 25) (v := ?_) (a' := ?_) #[false, true, true, true, false, false, false, false, false, false, false] rfl rfl (by kernel_rfl) (fun _ _ _ h => h) (Or.inl ⟨by rfl, ?_⟩) ?_ ?_
        rotate_left
        · intro w'
          go_simp
          with_reducible rfl
        rotate_left
        · simp only [Act.put, List.setIfInBounds_toArray, List.set_cons_zero, List.set_cons_succ, i64_w, i32_w]
          rfl
        refine pure_ (i := 4) (N := some 26) (v := ?_) (a' := ?_) #[false, true, true, true, true, false, false, false, false, false, false] rfl rfl (by kernel_rfl) (fun _ _ _ h => h) (Or.inl ⟨by rfl, ?_⟩) ?_ ?_
        rotate_left
        · intro w'
          go_simp
          with_reducible rfl
        rotate_left
        · simp only [Act.put, List.setIfInBounds_toArray, List.set_cons_zero, List.set_cons_succ, i64_w, i32_w]
          rfl
        refine pure_ (i := 6) (N := some 28) (v := ?_) (a' := ?_) #[false, true, true, true, true, false, true, false, false, false, false] rfl rfl (by kernel_rfl) (fun _ _ _ h => h) (Or.inl ⟨by rfl, ?_⟩) ?_ ?_
        rotate_left
        · intro w'
          go_simp
          with_reducible rfl
        rotate_left
        · simp only [Act.put, List.setIfInBounds_toArray, List.set_cons_zero, List.set_cons_succ, i64_w, i32_w]
          rfl
        refine take_ (i := 0) (N := some 22) (v := ?_) (a' := ?_) #[true, true, true, true, true, false, true, false, false, false, false] rfl rfl (by kernel_rfl) (fun _ _ _ h => h) (Or.inl ⟨by rfl, ?_⟩) hHeld ?_ ?_
        rotate_left
        · rintro w' ⟨s0, s1⟩
          go_simp
          with_reducible rfl
        rotate_left
        · simp only [Act.put, List.setIfInBounds_toArray, List.set_cons_zero, List.set_cons_succ, i64_w, i32_w]
          rfl
        refine take_ (i := 5) (N := some 27) (v := ?_) (a' := ?_) #[true, true, true, true, true, true, true, false, false, false, false] rfl rfl (by kernel_rfl) (fun _ _ _ h => h) (Or.inl ⟨by rfl, ?_⟩) hHeld ?_ ?_
        rotate_left
        · rintro w' ⟨s0, s1⟩
          go_simp
          with_reducible rfl
        rotate_left
        · simp only [Act.put, List.setIfInBounds_toArray, List.set_cons_zero, List.set_cons_succ, i64_w, i32_w]
          rfl
        refine pure_ (i := 7) (N := some 29) (v := ?_) (a' := ?_) #[true, true, true, true, true, true, true, true, false, false, false] rfl rfl (by kernel_rfl) (fun _ _ _ h => h) (Or.inl ⟨by rfl, ?_⟩) ?_ ?_
        rotate_left
        · intro w'
          go_simp
          with_reducible rfl
        rotate_left
        · simp only [Act.put, List.setIfInBounds_toArray, List.set_cons_zero, List.set_cons_succ, i64_w, i32_w]
          rfl
        refine one_ (i := 8) (N := some 30) #[true, true, true, true, true, true, true, true, true, false, false] rfl rfl (by kernel_rfl) (by decide) (fun K hK => ?_)
        refine make_ (v := .slice (some ⟨wr.heap.size, 0, none⟩) 1 1) (w1 := wr.drew.alloc (.cells (prCs (j.le.task, core)).toArray tRun)) (by rfl) rfl ?_ ?_
        · go_simp
          try rfl
        refine hK.out _ _ ⟨(World.cell?_alloc_lt _ _ _ (World.block_lt_of_cell? _ _ hHeld.1)).trans hHeld.1, (World.cell?_alloc_lt _ _ _ (World.block_lt_of_cell? _ _ hHeld.2)).trans hHeld.2⟩ (fun hHeld => ?_)
        clear hK K
        refine norm_ (a' := ?_) ?_ ?_
        rotate_left
        · show Act.put _ (some 30) _ = _
          simp only [Act.put, List.setIfInBounds_toArray, List.set_cons_zero, List.set_cons_succ]
          rfl
        refine last_ (i := 9) (N := some 31) #[true, true, true, true, true, true, true, true, true, true, false] rfl rfl (by kernel_rfl) (by decide) (fun K hK => ?_)
        refine step_append_lies _ (by rfl) _ _ 66 (by rfl) W.heap.size tRun i0 _ 2 16 Try.underlying66 hif hz0 hz1 hz2 rfl (by omega) u2 L.length (flatR L) (by rfl) (hrow2'.out.drew.alloc _) ⟨wr.heap.size, 0, none⟩ 1 1 (prCs (j.le.task, core)) (by rfl) (by rfl) (World.news_of_block (cs := (prCs (j.le.task, core)).toArray) (t := tRun) (fr := (0, 0)) (heap_alloc_new wr.drew _)) (flatR_one _) (by omega) (by unfold maxLen; omega) (by omega) (by simp; omega) (wr.heap.size + 1) (by simp) ?_
        intro gg cap w5 hown5 hgrow5 hat5 hlt5
        refine hK.out _ _ ?_
        clear hK K
        refine norm_ (a' := ?_) ?_ ?_
        rotate_left
        · show Act.put _ (some 31) _ = _
          simp only [Act.put, List.setIfInBounds_toArray, List.set_cons_zero, List.set_cons_succ]
          rfl
        refine last_ (i := 10) (N := none) #[true, true, true, true, true, true, true, true, true, true, true] rfl rfl (by kernel_rfl) (by decide) (fun K hK => ?_)
        obtain ⟨hv1, hv2, hr2, hk2, hb2⟩ := (show Boxed wr.drew W.heap.size tRuns u2 from hu2'.out).appended (by decide) hrow2'.out.drew hsW (Nat.le_refl _) hown5 hgrow5
        have hc5 := hv1.cell
        have hf5 := hv1.frozen
        refine skip_ (w1 := ?_) (by rfl) rfl ?_ ?_
        rotate_left
        · go_simp
          rfl
        refine hK.out _ _ ?_
        clear hK K
        refine done_ (by kernel_rfl) (noOut_normal ?_)
        have hb5 : Below W.heap.size wr (w5.setCell ⟨W.heap.size, 0, none⟩ (.slice (some ⟨gg, 0, none⟩) (L.length + 1) cap)) := ⟨hb2.os, hb2.tape, hb2.output, hb2.size, hb2.block⟩
        have hQ5 : Blk (w5.setCell ⟨W.heap.size, 0, none⟩ (.slice (some ⟨gg, 0, none⟩) (L.length + 1) cap)) (W.heap.size + 1) tPA #[ptr a] := by
          have hQ := HQ.out
          have hne := (show Boxed wr (W.heap.size + 1) tPA (ptr a) from hQ).not_row (by decide) hrow2'.out
          exact (Below.heap_setCell _ ⟨W.heap.size, 0, none⟩ _ (W.heap.size + 1) (by simp)).trans ((hgrow5.block (W.heap.size + 1) (by have := hQ.lt; simp; omega) hne).trans ((Below.heap_alloc _ _ _ hQ.lt).trans hQ))
        have hk5 := others_drew hk2
        have hv2' := Lib.hid hv2
        have hr2' := Lib.hid hr2
        have hb5' := Lib.hid hb5
        have hQ5' := Lib.hid hQ5
        have hk5' := Lib.hid hk5
        clear hv1 hv2 hr2 hk2 hb2 hb5 hQ5 hk5 hown5 hgrow5 hat5 hlt5 hc5 hf5
        gi_wp2
        go_roundw
        case rel => exact ⟨i + 1, by go_num, by omega, ⟨_, hv2'.out, by rw [hLs.out, flatR_app]; simpa [flatR] using hr2'.out⟩, ⟨HK.out.trans hk5'.out⟩, ⟨HB.out.trans hb5'.out⟩, ⟨hQ5'.out⟩⟩
        case measure => simp [intOf]; omega
      · have hi' : i = j.le.cores.length := by omega
        subst hi'
        gi_wp2
        have hB2 := h'.out.below HB.out
        refine ⟨HK.out, ⟨HQ.out, hB2.blk, hB2.jrow, fun q t' j' _ => hB2.job q t' j'⟩, ⟨⟨by rw [List.length_append, List.length_singleton]; omega, by omega⟩, ?_⟩, HB.out⟩
        obtain ⟨u2, h1, h2⟩ := HR.out
        rw [List.take_of_length_le (by simp [runsJ]), ← hup.out] at h2
        exact ⟨u2, h1, h2, trivial⟩
  case done =>
    rintro D pre s X hD hno ⟨⟨⟨hpl, hsl⟩, u, hu, hrow, _⟩, hbel⟩ hst hK
    have hend := liveUp_end hsl (stepL_end h'.out.len hno)
    have hc := hu.cell
    gi_wp2
    refine ⟨by simp, .inl ⟨_, _, rfl, run_takeDeferred hK, ?_⟩⟩
    refine ⟨u, ?_, u, rfl, ?_, below_put hbel (by omega)⟩
    · simp [results, Try.f33, go_sem]
    · rw [hend]
      exact ownsRow_putObj hrow (.deferred none) hK rfl
  case stop =>
    rintro D c pre s X hD hF
    exact hF.elim
end Go.Proofs.Ytkcmmghhghgdpaa.Agt
end
section
namespace Go.Proofs.Ytkcmmghhghgdpaa.Agt
open Go.RowKit Go.Shelf Go.Maps Go.Proofs.Ytkcmmghhghgdpaa.Iter Go.Proofs.Ytkcmmghhghgdpaa.SeqN Go.Proofs.Ytkcmmghhghgdpaa.Str Go.Proofs.YtkcmmghhghgdpaaW.PrintWords Go.Proofs.YtkcmmghhghgdpaaW.PrintLast
set_option linter.unusedVariables false
set_option linter.unusedSimpArgs false
attribute [local go_sem] Oper.semAt_some
abbrev tRan : Nat := 87
abbrev tRans : Nat := 74
theorem infoRan : (Try.prog.info? 87).map (fun i => (i.zero, i.size, i.bytes)) = some (some (.agg #[.int .i64 0, .int .i64 0]), 2, 16) := by kernel_rfl
theorem AgM.jobSet {B a : Nat} {vs vj : Value} {js : List Jm} {S : Ag} {W W' : World} (h : AgM B a vs vj js S W) {k : Nat} {t : Jm} {j j' : Jb} (ht : js[k]? = some t) (hj : S.jobs[k]? = some j) (hle : j'.le = j.le)
    (hsame : ∀ m, m < W.heap.size → m ≠ t.J → m ≠ t.G → t.v.ownBlock ≠ some m → W'.heap[m]? = W.heap[m]?) (hJ : Blk W' t.J tJ (jbCells j' t)) (hG : Grp tG tC B t.G t.v j'.th W') :
    AgM B a vs vj js { S with jobs := S.jobs.set k j' } W' := by
  have hjm := h.job k t j ht hj
  have hGc := hjm.grp.blk
  have keep : ∀ (m : Nat) (cs : Array Value) (ty : TypeId), W.heap[m]? = some (.cells cs ty (0, 0)) → ty ≠ tJ → ty ≠ tG → ty ≠ tC → W'.heap[m]? = W.heap[m]? := fun m cs ty hm h1 h2 h3 =>
    hsame m (Array.getElem?_eq_some_iff.1 hm).1 (two_types hm hjm.blk h1) (two_types hm hGc h2) (fun e => by
      obtain ⟨_, _, cur, hc⟩ := own_block hjm.grp.row e
      exact two_types hm hc h3 rfl)
  have keepRow : ∀ {b e size n : Nat} {v : Value} {xs : List Value}, e ≠ tJ → e ≠ tG → e ≠ tC → W.ownsRow b e size v n xs → W'.ownsRow b e size v n xs := fun h1 h2 h3 hr => Str.own_move hr fun m hm => by
    obtain ⟨_, _, cur, hc⟩ := own_block hr hm
    exact keep m _ _ hc h1 h2 h3
  refine ⟨(keep _ _ _ h.blk (by decide) (by decide) (by decide)).trans h.blk, h.base, keepRow (by decide) (by decide) (by decide) h.sent, keepRow (by decide) (by decide) (by decide) h.jrow, by rw [h.len]; simp, fun i u q hu hq => ?_, h.dist⟩
  by_cases hik : i = k
  · subst hik
    have : u = t := by rw [ht] at hu; exact (Option.some.inj hu).symm
    subst this
    have hq' : q = j' := by
      rw [List.getElem?_set] at hq
      simp only [if_true] at hq
      split at hq
      · exact (Option.some.inj hq).symm
      · cases hq
    subst hq'
    refine ⟨hJ, hjm.base, ?_, hG⟩
    rw [hle]
    exact keepRow (by decide) (by decide) (by decide) hjm.cores
  · have hq' : S.jobs[i]? = some q := by rw [List.getElem?_set_ne (by omega)] at hq; exact hq
    have hjm2 := h.job i u q hu hq'
    obtain ⟨d1, d2, d3⟩ := h.dist i k u t hu ht hik
    refine hjm2.frame (hsame _ hjm2.blk.lt d1 (two_types hjm2.blk hGc (by decide)) (fun e => ?_)) (hsame _ hjm2.grp.lt (two_types hjm2.grp.blk hjm.blk (by decide)) d2 (fun e => ?_)) (fun r hr => ?_) (fun ad hA => ?_)
    · obtain ⟨_, _, cur, hc⟩ := own_block hjm.grp.row e
      exact two_types hjm2.blk hc (by decide) rfl
    · obtain ⟨_, _, cur, hc⟩ := own_block hjm.grp.row e
      exact two_types hjm2.grp.blk hc (by decide) rfl
    · obtain ⟨_, hlt, cur, hc⟩ := own_block hjm2.grp.row hr
      exact hsame r hlt (two_types hc hjm.blk (by decide)) (two_types hc hGc (by decide)) (fun e => d3 r hr e)
    · obtain ⟨_, _, cur, hc⟩ := hjm2.coreA hA
      exact keep _ _ _ hc (by decide) (by decide) (by decide)
theorem blk_mt {B : Nat} {t : Jm} {j : Jb} {X Y : World} (h : Mt t.G t.v.ownBlock X Y) (hj : JobM B t j X) : Blk Y t.J tJ (jbCells j t) :=
  (h.block t.J hj.blk.lt (two_types hj.blk hj.grp.blk (by decide)) (fun e => by
    obtain ⟨_, _, cur, hc⟩ := own_block hj.grp.row e.symm
    exact two_types hj.blk hc (by decide) rfl)).trans hj.blk
def qJ (S : Ag) (j : Jb) : Jb := if liveJ S j = true then quantJ j else j
/-- The agent whose jobs up to i were turned. -/
def quantUp (S : Ag) (i : Nat) : Ag := { S with jobs := (S.jobs.take i).map (qJ S) ++ S.jobs.drop i }
theorem quantUp_get (S : Ag) (i m : Nat) (hi : i ≤ S.jobs.length) : (quantUp S i).jobs[m]? = if m < i then (S.jobs[m]?).map (qJ S) else S.jobs[m]? := by
  unfold quantUp
  show ((S.jobs.take i).map (qJ S) ++ S.jobs.drop i)[m]? = _
  have hl : ((S.jobs.take i).map (qJ S)).length = i := by rw [List.length_map, List.length_take]; omega
  by_cases hm : m < i
  · rw [List.getElem?_append_left (by omega), if_pos hm, List.getElem?_map, List.getElem?_take, if_pos hm]
  · rw [List.getElem?_append_right (by omega), if_neg hm, hl, List.getElem?_drop]
    congr 1
    omega
theorem quantUp_step {S : Ag} {i k : Nat} {j : Jb} (hj : S.jobs[k]? = some j) (hlv : liveJ S j = true) (h : ∀ m, i ≤ m → m < k → lvAt S m = false) (hi : i ≤ k) : quantUp S (k + 1) = { quantUp S i with jobs := (quantUp S i).jobs.set k (quantJ j) } := by
  have hk := (List.getElem?_eq_some_iff.1 hj).1
  have hl : (quantUp S i).jobs.length = S.jobs.length := by unfold quantUp; simp; omega
  have e : (quantUp S (k + 1)).jobs = (quantUp S i).jobs.set k (quantJ j) := by
    apply List.ext_getElem?
    intro m
    rw [quantUp_get S (k + 1) m (by omega), List.getElem?_set]
    by_cases hm : k = m
    · subst hm
      rw [if_pos (by omega), if_pos rfl, if_pos (by omega), hj]
      simp [qJ, hlv]
    · rw [if_neg hm, quantUp_get S i m (by omega)]
      by_cases h1 : m < i
      · rw [if_pos (by omega), if_pos h1]
      · rw [if_neg h1]
        by_cases h2 : m < k
        · rw [if_pos (by omega)]
          have := h m (by omega) h2
          unfold lvAt at this
          cases hq : S.jobs[m]? with
          | none => rfl
          | some q =>
            rw [hq] at this
            simp [qJ, show liveJ S q = false from this]
        · rw [if_neg (by omega)]
  show { quantUp S (k + 1) with jobs := (quantUp S (k + 1)).jobs } = _
  rw [e]
  rfl
theorem quantUp_zero (S : Ag) : quantUp S 0 = S := by simp [quantUp]
theorem quantUp_end {S : Ag} {i : Nat} (hi : i ≤ S.jobs.length) (h : ∀ m, i ≤ m → m < S.jobs.length → lvAt S m = false) : (quantG S).1 = quantUp S i := by
  have e : (quantG S).1.jobs = (quantUp S i).jobs := by
    apply List.ext_getElem?
    intro m
    rw [quantUp_get S i m hi]
    show (S.jobs.map (qJ S))[m]? = _
    rw [List.getElem?_map]
    by_cases h1 : m < i
    · rw [if_pos h1]
    · rw [if_neg h1]
      cases hq : S.jobs[m]? with
      | none => rfl
      | some q =>
        have := h m (by omega) (List.getElem?_eq_some_iff.1 hq).1
        unfold lvAt at this
        rw [hq] at this
        simp [qJ, show liveJ S q = false from this]
  show { (quantG S).1 with jobs := (quantG S).1.jobs } = _
  rw [e]
  rfl
def ranJ (j : Jb) : Int × Int := (j.le.task, (pickR j.th).2.1)
def ranUp (S : Ag) (i : Nat) : List (Int × Int) := ((S.jobs.take i).filter (liveJ S)).map ranJ
theorem ranUp_step {S : Ag} {i k : Nat} {j : Jb} (hj : S.jobs[k]? = some j) (hlv : liveJ S j = true) (h : ∀ m, i ≤ m → m < k → lvAt S m = false) (hi : i ≤ k) : ranUp S (k + 1) = ranUp S i ++ [ranJ j] := by
  unfold ranUp
  rw [filter_step hj hlv h hi, List.map_append]
  rfl
theorem ranUp_end {S : Ag} {i : Nat} (hi : i ≤ S.jobs.length) (h : ∀ m, i ≤ m → m < S.jobs.length → lvAt S m = false) : (quantG S).2 = ranUp S i := by
  show (S.jobs.filter (liveJ S)).map ranJ = _
  rw [filter_end hi h]
  rfl
theorem ranUp_len {S : Ag} (hok : AgOk S) (i : Nat) : (ranUp S i).length ≤ 64 := by
  unfold ranUp
  rw [List.length_map]
  have h2 : ((S.jobs.take i).filter (liveJ S)).length ≤ S.jobs.length := Nat.le_trans (List.length_filter_le _ _) (by rw [List.length_take]; omega)
  have := hok.jobs
  omega
theorem ownFrom_frF {β : Type} {B' : Nat} {F : Nat → Prop} {W : World} (h : W.heap.size ≤ B') : OwnFrom B' (fun (_ : β) W1 => FrF F W W1) := fun s X Y row hs hg hr =>
  ⟨hg.os.trans hs.os, hg.tape.trans hs.tape, hg.output.trans hs.output, Nat.le_trans hs.size hg.size, fun k hk hn => (hg.block k (Nat.lt_of_lt_of_le hk hs.size) (fun e => by have := (hr k e.symm).1; omega)).trans (hs.block k hk hn)⟩
theorem ownFrom_agM {β : Type} {B' B a : Nat} {vs vj : Value} {js : List Jm} {S : Ag} (hf : ∀ k, Foot a vs vj js k → k < B') : OwnFrom B' (fun (_ : β) W1 => AgM B a vs vj js S W1) := fun s X Y row hs hg hr =>
  hs.frame fun k hk => hg.block k (hs.foot k hk).2 (fun e => by have := (hr k e.symm).1; have := hf k hk; omega)
theorem FrF.thenB {F : Nat → Prop} {W X Y : World} (h : FrF F W X) (hb : Below W.heap.size X Y) : FrF F W Y :=
  ⟨hb.os.trans h.os, hb.tape.trans h.tape, hb.output.trans h.output, Nat.le_trans h.size hb.size, fun k hk hn => (hb.block k hk).trans (h.block k hk hn)⟩
theorem FrF.putN {F : Nat → Prop} {W X : World} {D : Nat} {o : Obj} (h : FrF F W X) (hD : W.heap.size ≤ D) : FrF F W (X.putObj D o) :=
  ⟨h.os, h.tape, h.output, by rw [World.putObj_size]; exact h.size, fun k hk hn => (World.putObj_heap_other (by omega)).trans (h.block k hk hn)⟩
set_option maxRecDepth 100000 in
set_option maxHeartbeats 8000000 in
theorem Quantum_calls (B a : Nat) (vs vj : Value) (js : List Jm) (S : Ag) (W : World) (h : AgM B a vs vj js S W) (hok : AgOk S) (hhad : ∀ j ∈ S.jobs, j.had < 9223372036854775807) :
    Calls Try.prog 38 #[ptr a] W fun e W' => ∃ u, e = .returned u ∧ W'.ownsRow W.heap.size tRan 2 u (quantG S).2.length (flatR (quantG S).2) ∧ AgM B a vs vj js (quantG S).1 W' ∧ FrF (Foot a vs vj js) W W' := by
  obtain ⟨i0, hif, hz0, hz1, hz2⟩ := info_parts infoRan
  have h' := Lib.hid h
  have hok' := Lib.hid hok
  have hhad' := Lib.hid hhad
  have hal := h.blk.lt
  clear h hok hhad
  refine (callsIn_wide (n := 6)).1 ?_
  refine callsIn_of_wp_marks Try.func38 rfl trivial ?_ rfl
  simp only [Try.ntmps38, List.size_toArray, List.length_cons, List.length_nil, Nat.reduceAdd, Nat.reduceSub, Array.replicate_succ, Array.replicate_zero, List.push_toArray, List.append_toArray, List.nil_append, List.cons_append]
  gi_wp2_with (refine ⟨trivial, ?_⟩; gi_at_call 59; refine (callsIn_wide.2 (live_calls a _)).mono ?_; rintro e w' ⟨rfl, rfl⟩)
  have bO := (Boxed.new W tRans (.slice none 0 0)).alloc (.cells #[ptr a] tPA)
  have bQ := Blk.new (W.alloc (.cells #[.slice none 0 0] tRans)) tPA #[ptr a]
  have hb0 : Below W.heap.size W ((W.alloc (.cells #[.slice none 0 0] tRans)).alloc (.cells #[ptr a] tPA)) := ((Below.refl W.heap.size W).alloc (Nat.le_refl _) _).alloc (by simp) _
  have hrow0 : ((W.alloc (.cells #[.slice none 0 0] tRans)).alloc (.cells #[ptr a] tPA)).ownsRow W.heap.size tRan 2 (.slice none 0 0) 0 [] := World.ownsRow_nil _ _ _ _
  have hsz : ((W.alloc (.cells #[.slice none 0 0] tRans)).alloc (.cells #[ptr a] tPA)).heap.size = W.heap.size + 2 := by simp
  simp only [World.size_alloc] at bQ
  obtain ⟨W0, hW0⟩ : ∃ W0, ((W.alloc (.cells #[.slice none 0 0] tRans)).alloc (.cells #[ptr a] tPA)) = W0 := ⟨_, rfl⟩
  rw [hW0] at bO bQ hrow0 hb0 hsz ⊢
  clear hW0
  have hst0 : StL (W.heap.size + 1) B a vs vj js S 0 W0 := ⟨bQ, ((h'.out.below hb0)).blk, ((h'.out.below hb0)).jrow, fun k t j _ => ((h'.out.below hb0)).job k t j⟩
  refine wpIn_rangeN (F := Fence.wide) rfl (by omega) (gf := 87) (lb := #[.pointer (some ⟨W.heap.size + 1, 0, none⟩)]) rfl trivial (enters_of Try.func87 (by kernel_rfl) rfl)
    (enc := fun J : Nat => #[ptr J]) (step := stepL js S) (St := StL (W.heap.size + 1) B a vs vj js S) (Mu := MuL) (N := S.jobs.length + 1) (s0 := 0)
    (fun W1 h1 _ => live_seq _ _ B a vs vj js S _ W1 hok'.out h'.out.len h1)
    ownFrom_stL
    (fun X Y hm => by obtain ⟨n, rfl⟩ := hm; exact ⟨Nat.le_refl _, fun k o h1 h2 => h1⟩) (fun _ => rfl)
    (fun pre s X => (((pre.length ≤ s ∧ s ≤ S.jobs.length) ∧ (∃ u, Boxed X W.heap.size tRans u ∧ X.ownsRow W.heap.size tRan 2 u (ranUp S s).length (flatR (ranUp S s)) ∧ True)) ∧ FrF (Foot a vs vj js) W X) ∧ AgM B a vs vj js (quantUp S s) X)
    (fun c pre s X => False)
    (fun s => OwnFrom.and (OwnFrom.and (OwnFrom.and (ownFrom_pure _ _) (Own.from (holdsRow_own W.heap.size W.heap.size tRans tRan 2 (fun pre : List Nat => (ranUp S s).length) (fun pre => flatR (ranUp S s)) (fun _ _ => True)) _)) (ownFrom_frF (by omega))) (ownFrom_agM (fun k hk => by have := (h'.out.foot k hk).2; omega)))
    (fun c s => ownFrom_pure _ _)
    (fun pre s X Y hs hm => by
      obtain ⟨n, rfl⟩ := hm
      obtain ⟨⟨⟨h1, u, hu, hrow, _⟩, h4⟩, h5⟩ := hs
      exact ⟨⟨⟨h1, u, hu, Str.own_move hrow (fun _ _ => rfl), trivial⟩, ⟨h4.os, h4.tape, h4.output, h4.size, h4.block⟩⟩, h5.frame fun _ _ => rfl⟩)
    (fun pre s X hs => by have := hs.1.1.1; omega)
    ⟨⟨⟨⟨Nat.le_refl _, Nat.zero_le _⟩, _, bO, hrow0, trivial⟩, FrF.of_below hb0⟩, by rw [quantUp_zero]; exact h'.out.below hb0⟩ hst0
    (fun x : Nat => { tmps := #[ptr a, undef, .slice none 0 0, .pointer (some ⟨W.heap.size, 0, none⟩), ptr x, undef, undef, ptr a, .bool false, ptr a, .func (.func 87) #[] #[.pointer (some ⟨W.heap.size + 1, 0, none⟩)], ptr x, undef, undef, undef, undef, undef, undef, undef, undef, undef, undef, undef, undef, undef, undef, undef, undef, undef, undef, undef, undef, undef, undef, undef, undef, undef, undef], defers := [] })
    ?assign ?body ?done ?stop
  case assign =>
    rintro ll x X K hK
    gi_wp2
    first | simpa using hK | (simp only [List.zip_toArray, List.zip_cons_cons, List.zip_nil_right, List.foldl_toArray, List.foldl_cons, List.foldl_nil, List.setIfInBounds_toArray, List.set_cons_succ, List.set_cons_zero]; exact hK) | (simp [Array.foldl, Array.zip] at hK ⊢; exact hK)
  case body =>
    rintro ll pre s x s' X ⟨⟨⟨⟨hpl, hsl⟩, u2, hu, hrow, _⟩, hfr⟩, hag⟩ hstep hst
    obtain ⟨k, t, j, rfl, hsk, hkl, htk, hjk, hlv, hno, rfl⟩ := stepL_inv h'.out.len hstep
    have hrs := Lib.hid (ranUp_step hjk hlv hno hsk)
    have hqs := Lib.hid (quantUp_step hjk hlv hno hsk)
    have hjk2 : (quantUp S s).jobs[k]? = some j := by rw [quantUp_get S s k hsl, if_neg (by omega)]; exact hjk
    have hjm := hag.job k t j htk hjk2
    have hgood := Lib.hid (hok'.out.job j (List.mem_of_getElem? hjk)).2.1
    have hhj := hhad'.out j (List.mem_of_getElem? hjk)
    have hh0 := (hok'.out.job j (List.mem_of_getElem? hjk)).2.2.2.2
    have hwh : IntKind.i64.wrap (j.had + 1) = j.had + 1 := IntWalk.i64_in _ (by omega)
    have e4 := hjm.blk.cell 11
    simp only [List.getElem?_toArray, List.getElem?_cons_zero, List.getElem?_cons_succ] at e4
    have hul := ranUp_len hok'.out s
    have hbQ := Lib.hid hst.box
    have hu' := Lib.hid hu
    have hrow' := Lib.hid hrow
    have hfr' := Lib.hid hfr
    have hag' := Lib.hid hag
    have hjm' := Lib.hid hjm
    have htk' := Lib.hid htk
    have hjk2' := Lib.hid hjk2
    have hsX : W.heap.size ≤ X.heap.size := hfr.size
    have htJ := (h'.out.foot t.J (.inr (.inr (.inr ⟨t, List.mem_of_getElem? htk, .inl rfl⟩)))).2
    have htG := (h'.out.foot t.G (.inr (.inr (.inr ⟨t, List.mem_of_getElem? htk, .inr (.inl rfl)⟩)))).2
    have htv : ∀ r, t.v.ownBlock = some r → r < W.heap.size := fun r hr => (h'.out.foot r (.inr (.inr (.inr ⟨t, List.mem_of_getElem? htk, .inr (.inr (.inl hr))⟩)))).2
    have htv' := Lib.hid htv
    clear hstep hst hu hrow hfr hag hjm htk hjk hjk2 hlv hno htv
    gi_wp2_with (refine ⟨trivial, ?_⟩; gi_at_call 23; refine (CallsIn.inRound _ (callsIn_wide.2 (pick_calls B t.G t.v j.th _ hgood.out hjm'.out.grp))).mono ?_; rintro e w1 ⟨rfl, hg1, hM1⟩; have hJ1 : Blk w1 t.J tJ (jbCells j t) := blk_mt hM1 hjm'.out; have j10 := hJ1.cell 10; have f10 := hJ1.frozen 10; simp only [List.getElem?_toArray, List.getElem?_cons_zero, List.getElem?_cons_succ] at j10; have hJ1' := Lib.hid hJ1; have hg1' := Lib.hid hg1; have hM1' := Lib.hid hM1; clear hJ1 hg1 hM1)
    have hE : (#[.int .i64 j.le.task, .int .i64 j.le.queue, .int .i64 j.le.node, .slice t.A j.le.cores.length t.c, .int .i64 j.le.mem, .int .i64 j.le.since, .int .i64 j.le.til, .bool j.le.stop, .int .i64 j.frm, .int .i64 j.work, .int .i64 j.had, ptr t.G] : Array Value).setIfInBounds 10 (.int .i64 (j.had + 1)) = jbCells (quantJ j) t := rfl
    have hJ2 := hJ1'.out.set 10 (.int .i64 (j.had + 1)) (by simp)
    rw [hE] at hJ2
    clear hE
    have hG2 : Grp tG tC B t.G t.v (quantJ j).th (w1.setCell ⟨t.J, 10, none⟩ (.int .i64 (j.had + 1))) := by
      refine hg1'.out.move (Below.heap_setCell _ ⟨t.J, 10, none⟩ _ _ (fun e => ?_)) (fun r hr => Below.heap_setCell _ ⟨t.J, 10, none⟩ _ _ (fun e => ?_))
      · have e' : t.G = t.J := e
        have := two_types hg1'.out.blk hJ1'.out (by decide)
        exact this e'
      · obtain ⟨_, _, cur, hc⟩ := own_block hg1'.out.row hr
        exact two_types hc hJ1'.out (by decide) e
    have hsame : ∀ m, m < X.heap.size → m ≠ t.J → m ≠ t.G → t.v.ownBlock ≠ some m → (w1.setCell ⟨t.J, 10, none⟩ (.int .i64 (j.had + 1))).heap[m]? = X.heap[m]? := fun m hm h1 h2 h3 => (Below.heap_setCell _ ⟨t.J, 10, none⟩ _ m h1).trans (hM1'.out.block m hm h2 (fun e => h3 e.symm))
    have hag2 := hag'.out.jobSet htk'.out hjk2'.out (j' := quantJ j) rfl hsame hJ2 hG2
    rw [← hqs.out] at hag2
    have hmemt := List.mem_of_getElem? htk'.out
    have hfr2 : FrF (Foot a vs vj js) W (w1.setCell ⟨t.J, 10, none⟩ (.int .i64 (j.had + 1))) := by
      refine FrF.setCell ?_ (.inl (.inr (.inr (.inr ⟨t, hmemt, .inl rfl⟩)))) _
      exact hfr'.out.trans (FrF.of_mt (F := Foot a vs vj js) hM1'.out (.inr (.inr (.inr ⟨t, hmemt, .inr (.inl rfl)⟩))) (fun r hr => .inr (.inr (.inr ⟨t, hmemt, .inr (.inr (.inl hr))⟩)))) (fun _ h => .inl h)
    have hbox : ∀ m, W.heap.size ≤ m → m < X.heap.size → (w1.setCell ⟨t.J, 10, none⟩ (.int .i64 (j.had + 1))).heap[m]? = X.heap[m]? := fun m h1 h2 => hsame m h2 (by omega) (by omega) (fun e => by have := htv'.out m e; omega)
    have hu2 : Boxed (w1.setCell ⟨t.J, 10, none⟩ (.int .i64 (j.had + 1))) W.heap.size tRans u2 := (hbox _ (Nat.le_refl _) hu'.out.lt).trans hu'.out
    have hQ2 : Blk (w1.setCell ⟨t.J, 10, none⟩ (.int .i64 (j.had + 1))) (W.heap.size + 1) tPA #[ptr a] := (hbox _ (by omega) hbQ.out.lt).trans hbQ.out
    have hrow2 : (w1.setCell ⟨t.J, 10, none⟩ (.int .i64 (j.had + 1))).ownsRow W.heap.size tRan 2 u2 (ranUp S s).length (flatR (ranUp S s)) := Str.own_move hrow'.out fun m hm => by
      obtain ⟨h1, h2, _⟩ := own_block hrow'.out hm
      exact hbox m h1 h2
    have hK2 : KeepsOthers X (w1.setCell ⟨t.J, 10, none⟩ (.int .i64 (j.had + 1))) := (hM1'.out.others hjm'.out.grp).trans (KeepsOthers.setCell _ _ _)
    have hsW : W.heap.size ≤ (w1.setCell ⟨t.J, 10, none⟩ (.int .i64 (j.had + 1))).heap.size := by have := hM1'.out.size; simp; omega
    have e0 := hJ2.cell 0
    simp only [List.getElem?_toArray, List.getElem?_cons_zero] at e0
    have e0 : (w1.setCell ⟨t.J, 10, none⟩ (.int .i64 (j.had + 1))).cell? ⟨t.J, 0, none⟩ = some (.int .i64 j.le.task) := e0
    have c0 := hu2.cell
    obtain ⟨W2, hW2⟩ : ∃ W2, w1.setCell ⟨t.J, 10, none⟩ (.int .i64 (j.had + 1)) = W2 := ⟨_, rfl⟩
    rw [hW2] at hag2 hfr2 hu2 hQ2 hrow2 hK2 hsW e0 c0 ⊢
    have hag2' := Lib.hid hag2
    have hfr2' := Lib.hid hfr2
    have hu2' := Lib.hid hu2
    have hQ2' := Lib.hid hQ2
    have hrow2' := Lib.hid hrow2
    have hK2' := Lib.hid hK2
    clear hW2 hag2 hfr2 hu2 hQ2 hrow2 hK2 hJ2 hG2 hsame hbox j10 f10 e4
    refine startIn_ (m := 11) (S := fun w' => w'.cell? ⟨W.heap.size, 0, none⟩ = some u2 ∧ w'.cell? ⟨t.J, 0, none⟩ = some (.int .i64 j.le.task)) (ds := [9, 10]) #[false, false, false, false, false, false, false, false, false, false, false] (by kernel_rfl) (by kernel_rfl) rfl rfl ⟨c0, e0⟩ (fun hHeld => ?_)
    refine pure_ (i := 1) (N := some 28) (v := ?_) (a' := ?_) #[false, true, false, false, false, false, false, false, false, false, false] rfl rfl (by kernel_rfl) (fun _ _ _ h => h) (Or.inl ⟨by rfl, ?_⟩) ?_ ?_
    rotate_left
    · intro w'
      go_simp
      with_reducible rfl
    rotate_left
    · simp only [Act.put, List.setIfInBounds_toArray, List.set_cons_zero, List.set_cons_succ, i64_w, i32_w]
      rfl
    refine pure_ (i := 2) (N := some 29) (v := ?_) (a' := ?_) #[false, true, true, false, false, false, false, false, false, false, false] rfl rfl (by kernel_rfl) (fun _ _ _ h => h) (Or.inl ⟨by rfl, ?_⟩) ?_ ?_
    rotate_left
    · intro w'
      go_simp
      with_reducible rfl
    rotate_left
    · simp only [Act.put, List.setIfInBounds_toArray, List.set_cons_zero, List.set_cons_succ, i64_w, i32_w]
      rfl
    refine pure_ (i := 3) (N := some 30) (v := ?_) (a' := ?_) #[false, true, true, true, false, false, false, false, false, false, false] rfl rfl (by kernel_rfl) (fun _ _ _ h => h) (Or.inl ⟨by rfl, ?_⟩) ?_ ?_
    rotate_left
    · intro w'
      go_simp
      with_reducible rfl
    rotate_left
    · simp only [Act.put, List.setIfInBounds_toArray, List.set_cons_zero, List.set_cons_succ, i64_w, i32_w]
      rfl
    refine pure_ (i := 4) (N := some 31) (v := ?_) (a' := ?_) #[false, true, true, true, true, false, false, false, false, false, false] rfl rfl (by kernel_rfl) (fun _ _ _ h => h) (Or.inl ⟨by rfl, ?_⟩) ?_ ?_
    rotate_left
    · intro w'
      go_simp
      with_reducible rfl
    rotate_left
    · simp only [Act.put, List.setIfInBounds_toArray, List.set_cons_zero, List.set_cons_succ, i64_w, i32_w]
      rfl
    refine pure_ (i := 6) (N := some 33) (v := ?_) (a' := ?_) #[false, true, true, true, true, false, true, false, false, false, false] rfl rfl (by kernel_rfl) (fun _ _ _ h => h) (Or.inl ⟨by rfl, ?_⟩) ?_ ?_
    rotate_left
    · intro w'
      go_simp
      with_reducible rfl
    rotate_left
    · simp only [Act.put, List.setIfInBounds_toArray, List.set_cons_zero, List.set_cons_succ, i64_w, i32_w]
      rfl
    refine take_ (i := 0) (N := some 27) (v := ?_) (a' := ?_) #[true, true, true, true, true, false, true, false, false, false, false] rfl rfl (by kernel_rfl) (fun _ _ _ h => h) (Or.inl ⟨by rfl, ?_⟩) hHeld ?_ ?_
    rotate_left
    · rintro w' ⟨s0, s1⟩
      go_simp
      with_reducible rfl
    rotate_left
    · simp only [Act.put, List.setIfInBounds_toArray, List.set_cons_zero, List.set_cons_succ, i64_w, i32_w]
      rfl
    refine take_ (i := 5) (N := some 32) (v := ?_) (a' := ?_) #[true, true, true, true, true, true, true, false, false, false, false] rfl rfl (by kernel_rfl) (fun _ _ _ h => h) (Or.inl ⟨by rfl, ?_⟩) hHeld ?_ ?_
    rotate_left
    · rintro w' ⟨s0, s1⟩
      go_simp
      with_reducible rfl
    rotate_left
    · simp only [Act.put, List.setIfInBounds_toArray, List.set_cons_zero, List.set_cons_succ, i64_w, i32_w]
      rfl
    refine pure_ (i := 7) (N := some 34) (v := ?_) (a' := ?_) #[true, true, true, true, true, true, true, true, false, false, false] rfl rfl (by kernel_rfl) (fun _ _ _ h => h) (Or.inl ⟨by rfl, ?_⟩) ?_ ?_
    rotate_left
    · intro w'
      go_simp
      with_reducible rfl
    rotate_left
    · simp only [Act.put, List.setIfInBounds_toArray, List.set_cons_zero, List.set_cons_succ, i64_w, i32_w]
      rfl
    refine one_ (i := 8) (N := some 35) #[true, true, true, true, true, true, true, true, true, false, false] rfl rfl (by kernel_rfl) (by decide) (fun K hK => ?_)
    refine make_ (v := .slice (some ⟨W2.heap.size, 0, none⟩) 1 1) (w1 := W2.drew.alloc (.cells (prCs (j.le.task, (pickR j.th).2.1)).toArray tRan)) (by rfl) rfl ?_ ?_
    · go_simp
      try rfl
    refine hK.out _ _ ⟨(World.cell?_alloc_lt _ _ _ (World.block_lt_of_cell? _ _ hHeld.1)).trans hHeld.1, (World.cell?_alloc_lt _ _ _ (World.block_lt_of_cell? _ _ hHeld.2)).trans hHeld.2⟩ (fun hHeld => ?_)
    clear hK K
    refine norm_ (a' := ?_) ?_ ?_
    rotate_left
    · show Act.put _ (some 35) _ = _
      simp only [Act.put, List.setIfInBounds_toArray, List.set_cons_zero, List.set_cons_succ]
      rfl
    refine last_ (i := 9) (N := some 36) #[true, true, true, true, true, true, true, true, true, true, false] rfl rfl (by kernel_rfl) (by decide) (fun K hK => ?_)
    refine step_append_lies _ (by rfl) _ _ 74 (by rfl) W.heap.size tRan i0 _ 2 16 Try.underlying74 hif hz0 hz1 hz2 rfl (by omega) u2 (ranUp S s).length (flatR (ranUp S s)) (by rfl) (hrow2'.out.drew.alloc _) ⟨W2.heap.size, 0, none⟩ 1 1 (prCs (j.le.task, (pickR j.th).2.1)) (by rfl) (by rfl) (World.news_of_block (cs := (prCs (j.le.task, (pickR j.th).2.1)).toArray) (t := tRan) (fr := (0, 0)) (heap_alloc_new W2.drew _)) (flatR_one _) (by omega) (by unfold maxLen; omega) (by omega) (by simp; omega) (W2.heap.size + 1) (by simp) ?_
    intro gg cap w5 hown5 hgrow5 hat5 hlt5
    refine hK.out _ _ ?_
    clear hK K
    refine norm_ (a' := ?_) ?_ ?_
    rotate_left
    · show Act.put _ (some 36) _ = _
      simp only [Act.put, List.setIfInBounds_toArray, List.set_cons_zero, List.set_cons_succ]
      rfl
    refine last_ (i := 10) (N := none) #[true, true, true, true, true, true, true, true, true, true, true] rfl rfl (by kernel_rfl) (by decide) (fun K hK => ?_)
    obtain ⟨hv1, hv2, hr2, hk2, hb2⟩ := (show Boxed W2.drew W.heap.size tRans u2 from hu2'.out).appended (by decide) hrow2'.out.drew hsW (Nat.le_refl _) hown5 hgrow5
    have hc5 := hv1.cell
    have hf5 := hv1.frozen
    refine skip_ (w1 := ?_) (by rfl) rfl ?_ ?_
    rotate_left
    · go_simp
      rfl
    refine hK.out _ _ ?_
    clear hK K
    refine done_ (by kernel_rfl) (noOut_normal ?_)
    have hb5 : Below W.heap.size W2 (w5.setCell ⟨W.heap.size, 0, none⟩ (.slice (some ⟨gg, 0, none⟩) ((ranUp S s).length + 1) cap)) := ⟨hb2.os, hb2.tape, hb2.output, hb2.size, hb2.block⟩
    have hQ5 : Blk (w5.setCell ⟨W.heap.size, 0, none⟩ (.slice (some ⟨gg, 0, none⟩) ((ranUp S s).length + 1) cap)) (W.heap.size + 1) tPA #[ptr a] := by
      have hQ := hQ2'.out
      have hne := (show Boxed W2 (W.heap.size + 1) tPA (ptr a) from hQ).not_row (by decide) hrow2'.out
      exact (Below.heap_setCell _ ⟨W.heap.size, 0, none⟩ _ (W.heap.size + 1) (by simp)).trans ((hgrow5.block (W.heap.size + 1) (by have := hQ.lt; simp; omega) hne).trans ((Below.heap_alloc _ _ _ hQ.lt).trans hQ))
    have hk5 := hK2'.out.trans (others_drew hk2)
    have hag5 : AgM B a vs vj js (quantUp S (k + 1)) (w5.setCell ⟨W.heap.size, 0, none⟩ (.slice (some ⟨gg, 0, none⟩) ((ranUp S s).length + 1) cap)) := hag2'.out.frame fun m hm => hb5.block m (h'.out.foot m hm).2
    have hfr5 := hfr2'.out.thenB hb5
    refine ⟨hk5, ⟨hQ5, hag5.blk, hag5.jrow, fun q t' j' hq h1 h2 => hag5.job q t' j' h1 (by rw [quantUp_get S (k + 1) q (by omega), if_neg (by omega)]; exact h2)⟩, ⟨⟨⟨by rw [List.length_append, List.length_singleton]; omega, by omega⟩, _, hv2, ?_, trivial⟩, hfr5⟩, hag5⟩
    rw [hrs.out, flatR_app, List.length_append]
    simpa [flatR, ranJ] using hr2
  case done =>
    rintro D pre s X hD hno ⟨⟨⟨⟨hpl, hsl⟩, u, hu, hrow, _⟩, hfr⟩, hag⟩ hst hK
    have hend := ranUp_end hsl (stepL_end h'.out.len hno)
    have hqe := quantUp_end hsl (stepL_end h'.out.len hno)
    have hc := hu.cell
    gi_wp2
    refine ⟨by simp, .inl ⟨_, _, rfl, run_takeDeferred hK, ?_⟩⟩
    refine ⟨u, ?_, u, rfl, ?_, ?_, hfr.putN (by omega)⟩
    · simp [results, Try.f38, go_sem]
    · rw [hend]
      exact ownsRow_putObj hrow (.deferred none) hK rfl
    · rw [hqe]
      exact hag.frame fun k hk => World.putObj_heap_other (by have := (h'.out.foot k hk).2; omega)
  case stop =>
    rintro D c pre s X hD hF
    exact hF.elim
end Go.Proofs.Ytkcmmghhghgdpaa.Agt
end
section
namespace Go.Proofs.Ytkcmmghhghgdpaa.Agt
open Go.RowKit Go.Shelf Go.Maps Go.Proofs.Ytkcmmghhghgdpaa.Iter Go.Proofs.Ytkcmmghhghgdpaa.Str Go.Proofs.YtkcmmghhghgdpaaW.PrintWords Go.Proofs.YtkcmmghhghgdpaaW.PrintLast
set_option linter.unusedVariables false
set_option linter.unusedSimpArgs false
/-- What stays true of an agent behind N calls. -/
structure AgW (S : Ag) (N : Nat) : Prop where
  ok : AgOk S
  sent : ∀ x ∈ S.sent, 0 ≤ x ∧ x ≤ S.clock
  len : S.sent.length ≤ N
  had : ∀ j ∈ S.jobs, j.had ≤ (N : Int)
theorem AgW.mono {S : Ag} {N M : Nat} (h : AgW S N) (hm : N ≤ M) : AgW S M := ⟨h.ok, h.sent, by have := h.len; omega, fun j hj => by have := h.had j hj; omega⟩
theorem AgW.new {nid nco nme nin nbe short : Int} (h : okNew nid nco nme short) : AgW (newG nid nco nme nin nbe short) 0 := by
  obtain ⟨h1, h2, h3, h4, h5, h6, h7⟩ := h
  exact ⟨⟨⟨Int.le_refl _, by simp [newG]⟩, h3, h6, by simp [newG], (fun j hj => by cases hj), List.Pairwise.nil⟩, (fun x hx => by cases hx), Nat.le_refl _, fun j hj => by cases hj⟩
theorem AgW.boot {S : Ag} {N : Nat} (h : AgW S N) (n : Int) : AgW (bootG S n).1 N := by
  unfold bootG
  split
  · exact h
  · split
    · exact h
    · exact ⟨⟨h.ok.clock, h.ok.nco, h.ok.short, h.ok.jobs, h.ok.job, h.ok.tasks⟩, h.sent, h.len, h.had⟩
theorem AgW.halt {S : Ag} {N : Nat} (h : AgW S N) : AgW (haltG S).1 N := by
  unfold haltG
  split
  · exact ⟨⟨h.ok.clock, h.ok.nco, h.ok.short, by simp, (fun j hj => by cases hj), List.Pairwise.nil⟩, (fun x hx => by cases hx), by simp, fun j hj => by cases hj⟩
  · exact h
theorem AgW.pass {S : Ag} {N : Nat} (h : AgW S N) (dt : Int) : AgW (passG S dt).1 N := by
  unfold passG
  split
  · exact h
  · split
    · exact h
    · rename_i h1 h2
      have hc := h.ok.clock
      exact ⟨⟨⟨by show 0 ≤ S.clock + dt; omega, by show S.clock + dt ≤ _; omega⟩, h.ok.nco, h.ok.short, h.ok.jobs, (fun j hj => by
        obtain ⟨a1, a2, a3, a4, a5⟩ := h.ok.job j hj
        exact ⟨a1, a2, a3, by show j.frm ≤ S.clock + dt; omega, a5⟩), h.ok.tasks⟩, (fun x hx => by
        have := h.sent x hx
        exact ⟨this.1, by show x ≤ S.clock + dt; omega⟩), h.len, h.had⟩
theorem AgW.beat {S : Ag} {N : Nat} (h : AgW S N) : AgW (beatG S).1 (N + 1) := by
  unfold beatG
  split
  · refine ⟨⟨h.ok.clock, h.ok.nco, h.ok.short, h.ok.jobs, h.ok.job, h.ok.tasks⟩, fun x hx => ?_, ?_, fun j hj => ?_⟩
    · rcases List.mem_append.1 hx with h1 | h1
      · exact h.sent x h1
      · obtain rfl := List.mem_singleton.1 h1
        exact ⟨h.ok.clock.1, Int.le_refl _⟩
    · have := h.len
      simp
      omega
    · have := h.had j hj
      omega
  · exact h.mono (by omega)
theorem pickR_good {l : List Cl} (h : GoodG l) : GoodG (pickR l).1 := by
  unfold pickR
  split
  · exact h
  · exact pick_good h
theorem AgW.quant {S : Ag} {N : Nat} (h : AgW S N) : AgW (quantG S).1 (N + 1) := by
  have hm : ∀ j ∈ (quantG S).1.jobs, ∃ q ∈ S.jobs, j = q ∨ j = quantJ q := fun j hj => by
    obtain ⟨q, hq, rfl⟩ := List.mem_map.1 hj
    refine ⟨q, hq, ?_⟩
    split
    · exact .inr rfl
    · exact .inl rfl
  refine ⟨⟨h.ok.clock, h.ok.nco, h.ok.short, by have := h.ok.jobs; simpa [quantG] using this, fun j hj => ?_, ?_⟩, h.sent, by have := h.len; show S.sent.length ≤ N + 1; omega, fun j hj => ?_⟩
  · obtain ⟨q, hq, rfl | rfl⟩ := hm j hj
    · exact h.ok.job _ hq
    · obtain ⟨a1, a2, a3, a4, a5⟩ := h.ok.job q hq
      exact ⟨a1, pickR_good a2, a3, a4, by show 0 ≤ q.had + 1; omega⟩
  · show (S.jobs.map _).Pairwise _
    rw [List.pairwise_map]
    refine h.ok.tasks.imp fun {x y} hxy => ?_
    have e : ∀ j : Jb, (if liveJ S j = true then quantJ j else j).le = j.le := fun j => by split <;> rfl
    rw [e, e]
    exact hxy
  · obtain ⟨q, hq, rfl | rfl⟩ := hm j hj
    · have := h.had _ hq
      omega
    · have := h.had q hq
      show q.had + 1 ≤ _
      omega
theorem sent_get {S : Ag} {m : Int} (h1 : ¬ m < 1) (h2 : ¬ (S.sent.length : Int) < m) : ∃ x ∈ S.sent, S.sent.getD (m - 1).toNat 0 = x := by
  have hl : (m - 1).toNat < S.sent.length := by omega
  exact ⟨S.sent[(m - 1).toNat], List.getElem_mem hl, by rw [List.getD_eq_getElem?_getD, List.getElem?_eq_getElem hl]; rfl⟩
theorem jobF_cases (jobs : List Jb) (x : Ls) (t : Ts) (frm : Int) : (∃ j ∈ jobs, jobF jobs x t frm = { j with le := x, frm := frm }) ∨ jobF jobs x t frm = ⟨x, frm, t.work, 0, joinsF 0 [] t.tk⟩ := by
  unfold jobF
  split
  · rename_i j hj
    exact .inl ⟨j, List.mem_of_find?_eq_some hj, rfl⟩
  · exact .inr rfl
theorem AgW.reply {S : Ag} {N : Nat} (h : AgW S N) (n m : Int) (xs : List Ls) (ts : List Ts) : AgW (replyG S n m xs ts).1 N := by
  unfold replyG
  split
  · split
    · exact h
    · split
      · rename_i h1 h2 h3
        unfold staleG at h2
        obtain ⟨f, hf, hfe⟩ := sent_get (S := S) (m := m) (by omega) (by omega)
        have hf2 := h.sent f hf
        unfold formB at h3
        rw [Bool.and_eq_true] at h3
        obtain ⟨b1, b2, b3⟩ := form_bounds h3.2 h.ok.nco
        rw [hfe]
        have hm : ∀ j ∈ replyJ S ts xs f, ∃ x ∈ xs, ∃ t, j = jobF S.jobs x t f := fun j hj => by
          obtain ⟨x, hx, rfl⟩ := List.mem_map.1 hj
          exact ⟨x, hx, _, rfl⟩
        refine ⟨⟨h.ok.clock, h.ok.nco, h.ok.short, by show (replyJ S ts xs f).length ≤ 64; unfold replyJ; rw [List.length_map]; exact b1, fun j hj => ?_, ?_⟩, h.sent, h.len, fun j hj => ?_⟩
        · obtain ⟨x, hx, t, rfl⟩ := hm j hj
          refine ⟨by rw [jobF_le]; exact (b2 x hx).1, ?_⟩
          rcases jobF_cases S.jobs x t f with ⟨q, hq, e⟩ | e
          · obtain ⟨a1, a2, a3, a4, a5⟩ := h.ok.job q hq
            rw [e]
            exact ⟨a2, hf2.1, hf2.2, a5⟩
          · rw [e]
            exact ⟨joinsF_good _ _ _ good_nil, hf2.1, hf2.2, Int.le_refl _⟩
        · show (xs.map _).Pairwise _
          rw [List.pairwise_map]
          refine b3.imp fun {x y} hxy => ?_
          rw [jobF_le, jobF_le]
          exact hxy
        · obtain ⟨x, hx, t, rfl⟩ := hm j hj
          rcases jobF_cases S.jobs x t f with ⟨q, hq, e⟩ | e
          · rw [e]
            exact h.had q hq
          · rw [e]
            exact Int.natCast_nonneg N
      · exact h
  · exact h
/-- An agent in memory, wherever its parts lie. -/
def AgE (B a : Nat) (S : Ag) (W : World) : Prop := ∃ vs vj js, AgM B a vs vj js S W
theorem AgE.below {B a : Nat} {S : Ag} {W W' : World} (h : AgE B a S W) (hb : Below W.heap.size W W') : AgE B a S W' := by
  obtain ⟨vs, vj, js, h⟩ := h
  exact ⟨vs, vj, js, h.below hb⟩
theorem AgE.lt {B a : Nat} {S : Ag} {W : World} (h : AgE B a S W) : a < W.heap.size := by
  obtain ⟨vs, vj, js, h⟩ := h
  exact h.blk.lt
theorem AgE.base {B a : Nat} {S : Ag} {W : World} (h : AgE B a S W) : B ≤ a := by
  obtain ⟨vs, vj, js, h⟩ := h
  exact h.base
theorem frF_below {B a : Nat} {vs vj : Value} {js : List Jm} {S : Ag} {W W' : World} (h : AgM B a vs vj js S W) (hb : FrF (Foot a vs vj js) W W') (hB : B ≤ W.heap.size) : Below B W W' :=
  ⟨hb.os, hb.tape, hb.output, hb.size, fun k hk => hb.block k (by omega) (fun hf => by have := (h.foot k hf).1; omega)⟩
theorem below_le {B C : Nat} {W W' : World} (h : Below C W W') (hB : B ≤ C) : Below B W W' := ⟨h.os, h.tape, h.output, h.size, fun k hk => h.block k (by omega)⟩
theorem newE (nid nco nme nin nbe short : Int) (W : World) :
    Calls Try.prog 27 #[.agg #[.int .i64 nid, .int .i64 nco, .int .i64 nme, .int .i64 nin, .int .i64 nbe], .int .i64 short] W fun e W' =>
      (okNew nid nco nme short ∧ ∃ a, e = .returned (.tuple #[ptr a, .int .i64 0]) ∧ AgE W.heap.size a (newG nid nco nme nin nbe short) W' ∧ Below W.heap.size W W') ∨
      (¬ okNew nid nco nme short ∧ e = .returned (.tuple #[.pointer none, .int .i64 1]) ∧ Below W.heap.size W W') :=
  (newG_calls nid nco nme nin nbe short W).mono fun e W' h => by
    rcases h with ⟨h1, a, h2, h3, h4⟩ | h
    · exact .inl ⟨h1, a, h2, ⟨_, _, _, h3⟩, h4⟩
    · exact .inr h
section
variable {B a : Nat} {S : Ag} {W : World}
theorem bootE (n : Int) (h : AgE B a S W) (hB : B ≤ W.heap.size) : Calls Try.prog 28 #[ptr a, .int .i64 n] W fun e W' => e = .returned (.int .i64 (bootG S n).2) ∧ AgE B a (bootG S n).1 W' ∧ Below B W W' := by
  obtain ⟨vs, vj, js, h⟩ := h
  exact (boot_calls B a vs vj js S n W h).mono fun e W' ⟨h1, h2, h3⟩ => ⟨h1, ⟨_, _, _, h2⟩, frF_below h h3 hB⟩
theorem passE (dt : Int) (h : AgE B a S W) (hB : B ≤ W.heap.size) (hok : AgOk S) : Calls Try.prog 30 #[ptr a, .int .i64 dt] W fun e W' => e = .returned (.int .i64 (passG S dt).2) ∧ AgE B a (passG S dt).1 W' ∧ Below B W W' := by
  obtain ⟨vs, vj, js, h⟩ := h
  exact (pass_calls B a vs vj js S dt W h hok.clock.1 hok.clock.2).mono fun e W' ⟨h1, h2, h3⟩ => ⟨h1, ⟨_, _, _, h2⟩, frF_below h h3 hB⟩
theorem beatE (h : AgE B a S W) (hB : B ≤ W.heap.size) (hl : S.sent.length ≤ 100000) : Calls Try.prog 31 #[ptr a] W fun e W' => e = .returned (.tuple #[.int .i64 (beatG S).2.1, .int .i64 (beatG S).2.2]) ∧ AgE B a (beatG S).1 W' ∧ Below B W W' := by
  obtain ⟨vs, vj, js, h⟩ := h
  exact (beat_calls B a vs vj js S W h hl hB).mono fun e W' ⟨h1, _, h2, h3, _⟩ => ⟨h1, ⟨_, _, _, h2⟩, frF_below h h3 hB⟩
theorem liveE (h : AgE B a S W) (hok : AgOk S) : Calls Try.prog 33 #[ptr a] W fun e W' => ∃ u, e = .returned u ∧ W'.ownsRow W.heap.size tRun 2 u (liveG S).length (flatR (liveG S)) ∧ Below W.heap.size W W' := by
  obtain ⟨vs, vj, js, h⟩ := h
  exact Live_calls B a vs vj js S W h hok
theorem finE (h : AgE B a S W) (hok : AgOk S) : Calls Try.prog 34 #[ptr a] W fun e W' => ∃ u, e = .returned u ∧ (∃ zs : List LeM, zs.map (·.1) = finG S ∧ W'.ownsRow W.heap.size tL 8 u zs.length (flatL zs) ∧ ∀ z ∈ zs, OwnC W.heap.size W' z) ∧ Below W.heap.size W W' := by
  obtain ⟨vs, vj, js, h⟩ := h
  exact fin_calls B a vs vj js S W h hok
theorem clockE (h : AgE B a S W) : Calls Try.prog 37 #[ptr a] W fun e W' => e = .returned (.int .i64 S.clock) ∧ Below W.heap.size W W' := by
  obtain ⟨vs, vj, js, h⟩ := h
  exact clock_calls B a vs vj js S W h
theorem incE (h : AgE B a S W) : Calls Try.prog 43 #[ptr a] W fun e W' => e = .returned (.int .i64 S.inc) ∧ Below W.heap.size W W' := by
  obtain ⟨vs, vj, js, h⟩ := h
  exact inc_calls B a vs vj js S W h
end
/-- What is read below B stays. -/
theorem ReadsF.keep {B : Nat} {W W' : World} {A : Option Addr} {ks : List Int} (h : ReadsF (fun k => B ≤ k) W A ks) (hb : Below B W W') : ReadsF (fun k => B ≤ k) W' A ks := h.frF (F := fun k => B ≤ k) ⟨hb.os, hb.tape, hb.output, hb.size, fun k hk hn => hb.block k (by omega)⟩
theorem ReadsL.keep {B : Nat} {W W' : World} {A : Option Addr} {xs : List Ls} (h : ReadsL (fun k => B ≤ k) W A xs) (hb : Below B W W') : ReadsL (fun k => B ≤ k) W' A xs := h.frF (F := fun k => B ≤ k) ⟨hb.os, hb.tape, hb.output, hb.size, fun k hk hn => hb.block k (by omega)⟩
theorem ReadsT.keep {B : Nat} {W W' : World} {A : Option Addr} {xs : List Ts} (h : ReadsT (fun k => B ≤ k) W A xs) (hb : Below B W W') : ReadsT (fun k => B ≤ k) W' A xs := h.frF (F := fun k => B ≤ k) ⟨hb.os, hb.tape, hb.output, hb.size, fun k hk hn => hb.block k (by omega)⟩
end Go.Proofs.Ytkcmmghhghgdpaa.Agt
end
section
namespace Go.Proofs.Ytkcmmghhghgdpaa.Agt
open Go.RowKit Go.Shelf Go.Maps Go.Proofs.Ytkcmmghhghgdpaa.Iter Go.Proofs.Ytkcmmghhghgdpaa.Str Go.Proofs.YtkcmmghhghgdpaaW.PrintWords Go.Proofs.YtkcmmghhghgdpaaW.PrintLast
set_option linter.unusedVariables false
set_option linter.unusedSimpArgs false
/-- Reply, its arguments laid behind the agent. -/
theorem replyN {B a : Nat} {S : Ag} {W0 W : World} (n m : Int) (A : Option Addr) (c0 : Nat) (xs : List Ls) (A2 : Option Addr) (c2 : Nat) (ts : List Ts) (h : AgE B a S W0) (hW : Below W0.heap.size W0 W) (hB : B ≤ W0.heap.size) (hok : AgOk S) (hsl : S.sent.length ≤ 100000)
    (hL : ReadsL (fun k => k < W0.heap.size) W A xs) (hT : ReadsT (fun k => k < W0.heap.size) W A2 ts) (hxl : xs.length ≤ 9223372036854775807) (htl : ts.length ≤ 9223372036854775807) :
    Calls Try.prog 32 #[ptr a, .int .i64 n, .int .i64 m, .slice A xs.length c0, .slice A2 ts.length c2] W fun e W' => e = .returned (.int .i64 (replyG S n m xs ts).2) ∧ AgE B a (replyG S n m xs ts).1 W' ∧ Below B W W' := by
  obtain ⟨vs, vj, js, h⟩ := h
  have h2 := h.below hW
  have hs := hW.size
  refine (reply_calls B a vs vj js S n m A c0 xs A2 c2 ts W h2 hok (by omega) (fun j x hx => ?_) (fun j x hx => ?_) hxl htl hsl).mono fun e W' ⟨h1, _, _, h2', h3, _⟩ => ⟨h1, ⟨_, _, _, h2'⟩, frF_below h2 h3 (by omega)⟩
  · obtain ⟨ad, A', c, rfl, q1, q2, q3, q4, q5, q6, q7, q8, q9, hr, q10, q11, q12, hn⟩ := hL j x hx
    exact ⟨ad, A', c, rfl, q1, q2, q3, q4, q5, q6, q7, q8, q9, hr.mono (fun k hk => (h.foot k hk).2), q10, q11, q12, fun hk => hn (h.foot _ hk).2⟩
  · obtain ⟨ad, A', c, rfl, q1, q2, q3, q4, q5, q6, q7, q8, hr, q10, q11, q12, hn⟩ := hT j x hx
    exact ⟨ad, A', c, rfl, q1, q2, q3, q4, q5, q6, q7, q8, hr.mono (fun k hk => (h.foot k hk).2), q10, q11, q12, fun hk => hn (h.foot _ hk).2⟩
theorem newYes {nid nco nme nin nbe short : Int} {W W' : World} {e : Ending} (hok : okNew nid nco nme short) (h : (okNew nid nco nme short ∧ ∃ a, e = .returned (.tuple #[ptr a, .int .i64 0]) ∧ AgE W.heap.size a (newG nid nco nme nin nbe short) W' ∧ Below W.heap.size W W') ∨
      (¬ okNew nid nco nme short ∧ e = .returned (.tuple #[.pointer none, .int .i64 1]) ∧ Below W.heap.size W W')) : ∃ a, e = .returned (.tuple #[ptr a, .int .i64 0]) ∧ AgE W.heap.size a (newG nid nco nme nin nbe short) W' ∧ Below W.heap.size W W' := by
  rcases h with ⟨_, h⟩ | ⟨h, _⟩
  · exact h
  · exact absurd hok h
/-- Leases and tasks, of one list of numbers each, laid one behind the other. -/
abbrev lit1 (w : World) (x : Ls) : World := (w.alloc (.cells (x.cores.map (Value.int .i64)).toArray tI)).alloc (.cells (leCs (x, some ⟨w.heap.size, 0, none⟩, x.cores.length)).toArray tL)
abbrev lit2 (w : World) (t : Ts) : World := (w.alloc (.cells (t.tk.map (Value.int .i64)).toArray tI)).alloc (.cells #[.int .i64 t.id, .int .i64 t.queue, .int .i64 t.cpu, .int .i64 t.mem, .int .i64 t.work, .slice (some ⟨w.heap.size, 0, none⟩) t.tk.length t.tk.length, .int .i64 t.state] tT)
theorem lit1_below (w : World) (x : Ls) : Below w.heap.size w (lit1 w x) := ((Below.refl w.heap.size w).alloc (Nat.le_refl _) _).alloc (by simp) _
theorem lit2_below (w : World) (t : Ts) : Below w.heap.size w (lit2 w t) := ((Below.refl w.heap.size w).alloc (Nat.le_refl _) _).alloc (by simp) _
theorem lit1_reads (w : World) (x : Ls) {H : Nat} (hH : H ≤ w.heap.size) (hl : x.cores.length ≤ 1000) (hw : wfI x.task) : ReadsL (fun k => k < H) (lit1 w x) (some ⟨w.heap.size + 1, 0, none⟩) [x] := fun j y hy => by
  obtain ⟨rfl, rfl⟩ : j = 0 ∧ y = x := by
    cases j with
    | zero => exact ⟨rfl, by simpa using hy.symm⟩
    | succ j => simp at hy
  have hb := Blk.new (w.alloc (.cells (y.cores.map (Value.int .i64)).toArray tI)) tL (leCs (y, some ⟨w.heap.size, 0, none⟩, y.cores.length)).toArray
  rw [World.size_alloc] at hb
  refine ⟨⟨w.heap.size + 1, 0, none⟩, some ⟨w.heap.size, 0, none⟩, y.cores.length, rfl, by simp, hb.cell 0, hb.cell 1, hb.cell 2, hb.cell 3, hb.cell 4, hb.cell 5, hb.cell 6, hb.cell 7, ⟨(reads_new w y.cores).below (by exact (Below.refl _ _).alloc (Nat.le_refl _) _), fun ad hA _ hf => ?_⟩, Nat.le_refl _, hw, by omega, ?_⟩
  · obtain rfl := Option.some.inj hA
    exact absurd hf (by show ¬ w.heap.size < H; omega)
  · show ¬ w.heap.size + 1 < H
    omega
theorem lit2_reads (w : World) (x : Ts) {H : Nat} (hH : H ≤ w.heap.size) (hl : x.tk.length ≤ 1000) (hw : wfI x.id) : ReadsT (fun k => k < H) (lit2 w x) (some ⟨w.heap.size + 1, 0, none⟩) [x] := fun j y hy => by
  obtain ⟨rfl, rfl⟩ : j = 0 ∧ y = x := by
    cases j with
    | zero => exact ⟨rfl, by simpa using hy.symm⟩
    | succ j => simp at hy
  have hb := Blk.new (w.alloc (.cells (y.tk.map (Value.int .i64)).toArray tI)) tT #[.int .i64 y.id, .int .i64 y.queue, .int .i64 y.cpu, .int .i64 y.mem, .int .i64 y.work, .slice (some ⟨w.heap.size, 0, none⟩) y.tk.length y.tk.length, .int .i64 y.state]
  rw [World.size_alloc] at hb
  refine ⟨⟨w.heap.size + 1, 0, none⟩, some ⟨w.heap.size, 0, none⟩, y.tk.length, rfl, by simp, hb.cell 0, hb.cell 1, hb.cell 2, hb.cell 3, hb.cell 4, hb.cell 5, hb.cell 6, ⟨(reads_new w y.tk).below (by exact (Below.refl _ _).alloc (Nat.le_refl _) _), fun ad hA _ hf => ?_⟩, Nat.le_refl _, hw, by omega, ?_⟩
  · obtain rfl := Option.some.inj hA
    exact absurd hf (by show ¬ w.heap.size < H; omega)
  · show ¬ w.heap.size + 1 < H
    omega
theorem lit_below (w : World) (x : Ls) (t : Ts) : Below w.heap.size w (lit2 (lit1 w x) t) := (lit1_below w x).trans (below_le (lit2_below (lit1 w x) t) (lit1_below w x).size)
theorem lit_L (w : World) (x : Ls) (t : Ts) (hl : x.cores.length ≤ 1000) (hw : wfI x.task) : ReadsL (fun k => k < w.heap.size) (lit2 (lit1 w x) t) (some ⟨w.heap.size + 1, 0, none⟩) [x] := (lit1_reads w x (Nat.le_refl _) hl hw).below (lit2_below (lit1 w x) t)
theorem lit_T (w : World) (x : Ls) (t : Ts) (hl : t.tk.length ≤ 1000) (hw : wfI t.id) : ReadsT (fun k => k < w.heap.size) (lit2 (lit1 w x) t) (some ⟨w.heap.size + 1 + 1 + 1, 0, none⟩) [t] := by
  have := lit2_reads (lit1 w x) t (H := w.heap.size) (lit1_below w x).size hl hw
  simpa using this
/-- Reply of one lease and one task that are laid just ahead. -/
theorem reply_lit {B a : Nat} {S : Ag} {w W : World} (n m : Int) (x : Ls) (t : Ts) (g : AgE B a S w) (hB : B ≤ w.heap.size) (hok : AgOk S) (hsl : S.sent.length ≤ 100000) (hl : x.cores.length ≤ 1000) (hw : wfI x.task) (hl2 : t.tk.length ≤ 1000) (hw2 : wfI t.id) (hW : W = lit2 (lit1 w x) t) :
    Calls Try.prog 32 #[ptr a, .int .i64 n, .int .i64 m, .slice (some ⟨w.heap.size + 1, 0, none⟩) 1 1, .slice (some ⟨w.heap.size + 1 + 1 + 1, 0, none⟩) 1 1] W fun e W' => e = .returned (.int .i64 (replyG S n m [x] [t]).2) ∧ AgE B a (replyG S n m [x] [t]).1 W' ∧ Below B w W' := by
  subst hW
  exact (replyN n m (some ⟨w.heap.size + 1, 0, none⟩) 1 [x] (some ⟨w.heap.size + 1 + 1 + 1, 0, none⟩) 1 [t] g (lit_below w x t) hB hok hsl (lit_L w x t hl hw) (lit_T w x t hl2 hw2) (by simp) (by simp)).mono fun e W' ⟨h1, h2, h3⟩ => ⟨h1, h2, (below_le (lit_below w x t) hB).trans h3⟩
abbrev aL : Ls := ⟨7, 0, 1, [0], 0, 0, 0, false⟩
abbrev aT : Ts := ⟨7, 0, 0, 0, 0, [1], 0⟩
abbrev aS1 : Ag := ⟨1, 2, 9, 0, 0, 36, 0, true, 1, [], 0, []⟩
abbrev aS2 : Ag := ⟨1, 2, 9, 0, 0, 36, 0, true, 1, [0], 0, []⟩
abbrev aS3 : Ag := ⟨1, 2, 9, 0, 0, 36, 10, true, 1, [0], 0, []⟩
abbrev aS4 : Ag := ⟨1, 2, 9, 0, 0, 36, 10, true, 1, [0], 1, [⟨aL, 0, 0, 0, joinsF 0 [] [1]⟩]⟩
theorem aw1 : bootG (newG 1 2 9 0 0 36) 1 = (aS1, 0) := by rfl
theorem aw2 : beatG aS1 = (aS2, 1, 0) := by rfl
theorem aw3 : passG aS2 10 = (aS3, 0) := by rfl
theorem aw4 : replyG aS3 1 1 [aL] [aT] = (aS4, 0) := by rfl
theorem aw5 : liveG aS4 = [(7, 0)] := by rfl
theorem aokW : AgW aS4 1 := by
  have h1 : AgW aS1 0 := by have := (AgW.new (nid := 1) (nco := 2) (nme := 9) (nin := 0) (nbe := 0) (short := 36) (by decide)).boot 1; rwa [aw1] at this
  have h2 : AgW aS2 1 := by have := h1.beat; rwa [aw2] at this
  have h3 : AgW aS3 1 := by have := h2.pass 10; rwa [aw3] at this
  have := h3.reply 1 1 [aL] [aT]
  rwa [aw4] at this
theorem aokW3 : AgW aS3 1 := by
  have h1 : AgW aS1 0 := by have := (AgW.new (nid := 1) (nco := 2) (nme := 9) (nin := 0) (nbe := 0) (short := 36) (by decide)).boot 1; rwa [aw1] at this
  have h2 : AgW aS2 1 := by have := h1.beat; rwa [aw2] at this
  have := h2.pass 10
  rwa [aw3] at this
theorem aokW2 : AgW aS2 1 := by
  have h1 : AgW aS1 0 := by have := (AgW.new (nid := 1) (nco := 2) (nme := 9) (nin := 0) (nbe := 0) (short := 36) (by decide)).boot 1; rwa [aw1] at this
  have := h1.beat
  rwa [aw2] at this
theorem aw_reply {B a : Nat} {w : World} (g : AgE B a aS3 w) (hB : B ≤ w.heap.size) :
    Calls Try.prog 32 #[ptr a, .int .i64 1, .int .i64 1, .slice (some ⟨w.heap.size + 1, 0, none⟩) 1 1, .slice (some ⟨w.heap.size + 1 + 1 + 1, 0, none⟩) 1 1]
      ((((w.alloc (.cells #[.int .i64 0] 3)).alloc (.cells #[.int .i64 7, .int .i64 0, .int .i64 1, .slice (some ⟨w.heap.size, 0, none⟩) 1 1, .int .i64 0, .int .i64 0, .int .i64 0, .bool false] 81)).alloc (.cells #[.int .i64 1] 3)).alloc (.cells #[.int .i64 7, .int .i64 0, .int .i64 0, .int .i64 0, .int .i64 0, .slice (some ⟨w.heap.size + 1 + 1, 0, none⟩) 1 1, .int .i64 0] 85))
      fun e W' => e = .returned (.int .i64 0) ∧ AgE B a aS4 W' ∧ Below B w W' :=
  (reply_lit 1 1 aL aT g hB aokW3.ok (by decide) (by decide) rfl (by decide) rfl (by simp [lit1, lit2, leCs])).mono fun e W' h => by rwa [aw4] at h
theorem aw_live {B a : Nat} {w : World} (g : AgE B a aS4 w) :
    Calls Try.prog 33 #[ptr a] w fun e W' => ∃ gu cu, e = .returned (.slice (some ⟨gu, 0, none⟩) 1 cu) ∧ W'.cell? ⟨gu, 0, none⟩ = some (.int .i64 7) ∧ W'.cell? ⟨gu, 1, none⟩ = some (.int .i64 0) ∧ Below w.heap.size w W' :=
  (liveE g aokW.ok).mono fun e W' ⟨u, he, hu, hb⟩ => by
    rw [aw5] at hu
    obtain ⟨gu, cu, rfl⟩ := own_someL hu (by simp)
    have p0 := hu.cellAt 0 (by simp)
    have p1 := hu.cellAt 1 (by simp)
    exact ⟨gu, cu, he, p0, p1, hb⟩
set_option maxRecDepth 100000 in
set_option maxHeartbeats 8000000 in
theorem awake_calls (W : World) : Calls Try.prog 26 #[] W fun e W' => e = .returned (.bool true) ∧ Below W.heap.size W W' := by
  go_enter Try.func26, Try.ntmps26
  go_wp2_with (first
    | ((with_reducible refine gate_callee (f := 27) rfl ?_); refine goesL_ (some 10) rfl rfl Try.func27 (by kernel_rfl) rfl #[.agg #[.int .i64 1, .int .i64 2, .int .i64 9, .int .i64 0, .int .i64 0], .int .i64 36] rfl (by (try simp only [List.map_toArray, List.map_cons, List.map_nil]); first | done | rfl) ?_; (with_reducible refine (newE 1 2 9 0 0 36 _).mono ?_); (intro e w1 hnew; obtain ⟨a, rfl, g1, b1⟩ := newYes (by decide) hnew; clear hnew); refine ⟨_, rfl, ?_⟩; have g1' := Lib.hid g1; have b1' := Lib.hid b1; clear g1 b1)
    | (go_at_call 28; refine (bootE 1 g1'.out b1'.out.size).mono ?_; rintro e w2 ⟨rfl, g2, b2⟩; rw [aw1] at g2; have b2 := b1'.out.trans b2; have g2' := Lib.hid g2; have b2' := Lib.hid b2; clear g2 b2; simp only [aw1])
    | ((with_reducible refine gate_callee (f := 31) rfl ?_); refine goesL_ (some 26) rfl rfl Try.func31 (by kernel_rfl) rfl #[ptr a] rfl (by (try simp only [List.map_toArray, List.map_cons, List.map_nil]); first | done | rfl) ?_; (with_reducible refine (beatE g2'.out b2'.out.size (by decide)).mono ?_); rintro e w3 ⟨rfl, g3, b3⟩; refine ⟨_, rfl, ?_⟩; rw [aw2] at g3; have b3 := b2'.out.trans b3; have g3' := Lib.hid g3; have b3' := Lib.hid b3; clear g3 b3; simp only [aw2])
    | ((with_reducible refine gate_callee (f := 30) rfl ?_); refine goesL_ (some 30) rfl rfl Try.func30 (by kernel_rfl) rfl #[ptr a, .int .i64 10] rfl (by (try simp only [List.map_toArray, List.map_cons, List.map_nil]); first | done | rfl) ?_; (with_reducible refine (passE 10 g3'.out b3'.out.size aokW2.ok).mono ?_); rintro e w4 ⟨rfl, g4, b4⟩; refine ⟨_, rfl, ?_⟩; rw [aw3] at g4; have b4 := b3'.out.trans b4; have g4' := Lib.hid g4; have b4' := Lib.hid b4; clear g4 b4; simp only [aw3])
    | ((with_reducible refine gate_callee (f := 32) rfl ?_); refine goesL_ (some 39) rfl rfl Try.func32 (by kernel_rfl) rfl #[ptr a, .int .i64 1, .int .i64 1, .slice (some ⟨w4.heap.size + 1, 0, none⟩) 1 1, .slice (some ⟨w4.heap.size + 1 + 1 + 1, 0, none⟩) 1 1] rfl (by (try simp only [List.map_toArray, List.map_cons, List.map_nil]); first | done | rfl) ?_; (with_reducible refine (aw_reply g4'.out b4'.out.size).mono ?_); rintro e w5 ⟨rfl, g5, b5⟩; refine ⟨_, rfl, ?_⟩; have b5 := b4'.out.trans b5; have g5' := Lib.hid g5; have b5' := Lib.hid b5; clear g5 b5)
    | ((with_reducible refine gate_callee (f := 33) rfl ?_); refine goesL_ (some 41) rfl rfl Try.func33 (by kernel_rfl) rfl #[ptr a] rfl (by (try simp only [List.map_toArray, List.map_cons, List.map_nil]); first | done | rfl) ?_; (with_reducible refine (aw_live g5'.out).mono ?_); rintro e w6 ⟨gu, cu, rfl, p0, p1, b6⟩; refine ⟨_, rfl, ?_⟩; have g6 := g5'.out.below b6; have b6 := b5'.out.trans (below_le b6 b5'.out.size); have g6' := Lib.hid g6; have b6' := Lib.hid b6; clear g6 b6)
    | (go_at_call 37; refine (clockE g6'.out).mono ?_; rintro e w7 ⟨rfl, b7⟩; have g7 := g6'.out.below b7; have b7 := b6'.out.trans (below_le b7 b6'.out.size); have g7' := Lib.hid g7; have b7' := Lib.hid b7; clear g7 b7)
    | (go_at_call 43; refine (incE g7'.out).mono ?_; rintro e w8 ⟨rfl, b8⟩; have b8 := b7'.out.trans (below_le b8 b7'.out.size); have b8' := Lib.hid b8; clear b8))

  go_ret
  exact ⟨rfl, b8'.out⟩
end Go.Proofs.Ytkcmmghhghgdpaa.Agt
end
section
namespace Go.Proofs.Ytkcmmghhghgdpaa.Agt
open Go.RowKit Go.Shelf Go.Maps Go.Proofs.Ytkcmmghhghgdpaa.Iter Go.Proofs.Ytkcmmghhghgdpaa.Str Go.Proofs.YtkcmmghhghgdpaaW.PrintWords Go.Proofs.YtkcmmghhghgdpaaW.PrintLast
set_option linter.unusedVariables false
set_option linter.unusedSimpArgs false
/-- Runs that are read. -/
def ReadsR (W : World) (A : Option Addr) (l : List (Int × Int)) : Prop := ∀ j r, l[j]? = some r → ∃ g, A = some ⟨g, 0, none⟩ ∧ g < W.heap.size ∧ W.cell? ⟨g, j * 2, none⟩ = some (.int .i64 r.1) ∧ W.cell? ⟨g, j * 2 + 1, none⟩ = some (.int .i64 r.2)
theorem ReadsR.below {W W' : World} {A : Option Addr} {l : List (Int × Int)} (h : ReadsR W A l) (hb : Below W.heap.size W W') : ReadsR W' A l := fun j r hr => by
  obtain ⟨g, rfl, h1, p, q⟩ := h j r hr
  exact ⟨g, rfl, Nat.lt_of_lt_of_le h1 hb.size, (hb.cell (p := ⟨g, _, none⟩) h1).trans p, (hb.cell (p := ⟨g, _, none⟩) h1).trans q⟩
theorem flatR_get : ∀ (l : List (Int × Int)) (j i : Nat) (r : Int × Int), i < 2 → l[j]? = some r → (flatR l)[j * 2 + i]? = (prCs r)[i]?
  | [], j, i, r, _, h => by simp at h
  | x :: l, 0, i, r, hi, h => by
    obtain rfl : x = r := by simpa using h
    show (prCs x ++ flatR l)[0 * 2 + i]? = _
    rw [Nat.zero_mul, Nat.zero_add, List.getElem?_append_left (by simp [prCs]; omega)]
  | x :: l, j + 1, i, r, hi, h => by
    show (prCs x ++ flatR l)[(j + 1) * 2 + i]? = _
    rw [List.getElem?_append_right (by simp [prCs]; omega)]
    have := flatR_get l j i r hi (by simpa using h)
    rw [← this]
    congr 1
    simp [prCs]
    omega
theorem own_readsR {W : World} {base e n : Nat} {A : Option Addr} {c : Nat} {l : List (Int × Int)} (h : W.ownsRow base e 2 (.slice A n c) l.length (flatR l)) : ReadsR W A l := fun j r hr => by
  have hj := (List.getElem?_eq_some_iff.1 hr).1
  obtain ⟨g, c2, hv⟩ := own_someL h (by omega)
  injection hv with h1 h2 h3
  subst h1
  obtain ⟨_, hg, _⟩ := own_block h (k := g) rfl
  subst h2
  subst h3
  refine ⟨g, rfl, hg, ?_, ?_⟩
  · rw [h.cellAt (j * 2) (by omega)]
    have := flatR_get l j 0 r (by omega) hr
    simpa [prCs] using this
  · rw [h.cellAt (j * 2 + 1) (by omega)]
    have := flatR_get l j 1 r (by omega) hr
    simpa [prCs] using this
set_option maxRecDepth 100000 in
theorem eqRun (d : Nat) (w : World) (x0 y0 x1 y1 : Int) :
    (Op.equalIn (d + 2) 77 (.agg #[.int .i64 x0, .int .i64 x1]) (.agg #[.int .i64 y0, .int .i64 y1])).run Try.prog w = .ok (x0 == y0 && (x1 == y1)) w := by
  refine eqA_of Try.underlying77 (by kernel_rfl) ?_
  refine eqf_cons (by rfl) (by go_simp; rfl) (by go_simp; rfl) (by go_simp) ?_
  exact eqf_last (by rfl) (by go_simp; rfl) (by go_simp; rfl) (by go_simp)
theorem eqRun_same (w : World) (r : Int × Int) : (Op.equalIn 10000 77 (.agg #[.int .i64 r.1, .int .i64 r.2]) (.agg #[.int .i64 r.1, .int .i64 r.2])).run Try.prog w = .ok true w := by
  have := eqRun 9998 w r.1 r.1 r.2 r.2
  simpa using this
set_option maxRecDepth 100000 in
set_option maxHeartbeats 8000000 in
theorem runs_same (l : List (Int × Int)) (A A2 : Option Addr) (c c2 : Nat) (W : World) (hr : ReadsR W A l) (hr2 : ReadsR W A2 l) (hl : l.length ≤ 100000) :
    Calls Try.prog 35 #[.slice A l.length c, .slice A2 l.length c2] W fun e W' => e = .returned (.bool true) ∧ Below W.heap.size W W' := by
  have hr' := Lib.hid hr
  have hr2' := Lib.hid hr2
  clear hr hr2
  go_enter Try.func35, Try.ntmps35
  go_wp2
  go_loopw [13] (fun iv wr => ∃ (i : Nat), iv = .int .i64 (i : Int) ∧ i ≤ l.length ∧ Below W.heap.size W wr)
    (fun iv _ => l.length - (intOf iv).toNat)
  case atStart => exact ⟨0, rfl, Nat.zero_le _, Below.refl _ _⟩
  case round =>
    obtain ⟨i, rfl, hi, hbel⟩ := hrel
    by_cases hlt : i < l.length
    · obtain ⟨r, hri⟩ : ∃ r, l[i]? = some r := ⟨l[i], List.getElem?_eq_getElem hlt⟩
      obtain ⟨g1, rfl, _, p0, p1⟩ := (hr'.out.below hbel) i r hri
      obtain ⟨g2, rfl, _, q0, q1⟩ := (hr2'.out.below hbel) i r hri
      have heq := fun w => eqRun_same w r
      have hbel' := Lib.hid hbel
      clear hbel hri
      go_wp2
      go_quiet (fail)
      go_wp2
      go_roundw
      case rel => exact ⟨i + 1, by go_num, by omega, by first | exact hbel'.out | exact hbel'.out.drew | exact pw_below_drewN hbel'.out _⟩
      case measure => simp [intOf]; omega
    · have hi' : i = l.length := by omega
      subst hi'
      have hbel' := Lib.hid hbel
      clear hbel
      go_wp2
      go_ret
      exact ⟨rfl, hbel'.out⟩
set_option maxRecDepth 100000 in
set_option maxHeartbeats 8000000 in
theorem has_calls (A : Option Addr) (c : Nat) (xs : List Int) (v : Int) (W : World) (hr : ReadsI W A xs) (hl : xs.length ≤ 9223372036854775807) :
    Calls Try.prog 62 #[.slice A xs.length c, .int .i64 v] W fun e W' => e = .returned (.bool (decide (v ∈ xs))) ∧ W' = W := by
  have hr' := Lib.hid hr
  clear hr
  go_enter Try.func62, Try.ntmps62
  go_wp2
  go_loopw [9] (fun iv wr => ∃ (i : Nat), iv = .int .i64 (i : Int) ∧ i ≤ xs.length ∧ v ∉ xs.take i ∧ wr = W)
    (fun iv _ => xs.length - (intOf iv).toNat)
  case atStart => exact ⟨0, rfl, Nat.zero_le _, by simp, rfl⟩
  case round =>
    obtain ⟨i, rfl, hi, hno, rfl⟩ := hrel
    by_cases hlt : i < xs.length
    · obtain ⟨x, hx⟩ : ∃ x, xs[i]? = some x := ⟨xs[i], List.getElem?_eq_getElem hlt⟩
      obtain ⟨ad, rfl, h1, p0⟩ := hr'.out i x hx
      have hx' := Lib.hid hx
      have hno' := Lib.hid hno
      have hs := Lib.hid (show xs.take (i + 1) = xs.take i ++ [x] by rw [List.take_add_one, hx]; rfl)
      clear hx hno
      by_cases e : x = v
      · have q1 : (x == v) = true := beq_iff_eq.mpr e
        have e' := Lib.hid e
        clear e
        go_wp2
        go_ret
        exact ⟨by rw [decide_eq_true (show v ∈ xs by rw [← e'.out]; exact List.mem_of_getElem? hx'.out)]; rfl, rfl⟩
      · have q1 : (x == v) = false := beq_eq_false_iff_ne.mpr e
        have e' := Lib.hid e
        clear e
        go_wp2
        go_roundw
        case rel => exact ⟨i + 1, by go_num, by omega, by
          rw [hs.out, List.mem_append, List.mem_singleton]
          rintro (h | h)
          · exact hno'.out h
          · exact e'.out h.symm, trivial⟩
        case measure => simp [intOf]; omega
    · have hi' : i = xs.length := by omega
      subst hi'
      have hno' := Lib.hid (show v ∉ xs by rw [List.take_length] at hno; exact hno)
      clear hno
      go_wp2
      go_ret
      exact ⟨by rw [decide_eq_false hno'.out]; rfl, rfl⟩
/-- A lease as a value. -/
abbrev leV2 (y : LeM) : Value := .agg #[.int .i64 y.1.task, .int .i64 y.1.queue, .int .i64 y.1.node, .slice y.2.1 y.1.cores.length y.2.2, .int .i64 y.1.mem, .int .i64 y.1.since, .int .i64 y.1.til, .bool y.1.stop]
set_option maxRecDepth 100000 in
set_option maxHeartbeats 8000000 in
theorem sameLease_calls (x y : LeM) (W : World) (he : x.1 = y.1) (hx : ReadsI W x.2.1 x.1.cores) (hy : ReadsI W y.2.1 y.1.cores) (hcx : x.1.cores.length ≤ x.2.2) (hcy : y.1.cores.length ≤ y.2.2) (hl : x.1.cores.length ≤ 100000) :
    Calls Try.prog 61 #[leV2 x, leV2 y] W fun e W' => e = .returned (.bool true) ∧ Below W.heap.size W W' := by
  obtain ⟨x, A, c⟩ := x
  obtain ⟨y, A2, c2⟩ := y
  obtain rfl : x = y := he
  dsimp only at hx hy hcx hcy hl
  have bX := (Blk.new W tL (leCs (x, A, c)).toArray).alloc (.cells (leCs (x, A2, c2)).toArray tL)
  have bY := Blk.new (W.alloc (.cells (leCs (x, A, c)).toArray tL)) tL (leCs (x, A2, c2)).toArray
  have hb : Below W.heap.size W ((W.alloc (.cells (leCs (x, A, c)).toArray tL)).alloc (.cells (leCs (x, A2, c2)).toArray tL)) := ((Below.refl W.heap.size W).alloc (Nat.le_refl _) _).alloc (by simp) _
  have hI := Lib.hid (ints_calls A A2 c c2 x.cores x.cores _ (hx.below hb) (hy.below hb) (by omega) hcx hcy)
  rw [World.size_alloc] at bY
  have x0 := bX.cell 0
  have x1 := bX.cell 1
  have x2 := bX.cell 2
  have x3 := bX.cell 3
  have x4 := bX.cell 4
  have x5 := bX.cell 5
  have x6 := bX.cell 6
  have x7 := bX.cell 7
  have y0 := bY.cell 0
  have y1 := bY.cell 1
  have y2 := bY.cell 2
  have y3 := bY.cell 3
  have y4 := bY.cell 4
  have y5 := bY.cell 5
  have y6 := bY.cell 6
  have y7 := bY.cell 7
  simp only [leCs, List.getElem?_toArray, List.getElem?_cons_zero, List.getElem?_cons_succ] at x0 x1 x2 x3 x4 x5 x6 x7 y0 y1 y2 y3 y4 y5 y6 y7
  have hb' := Lib.hid hb
  clear hb hx hy hcx hcy bX bY
  go_enter Try.func61, Try.ntmps61
  go_wp2_with (go_at_call 18; refine (hI.out).mono ?_; rintro e w3 ⟨rfl, b3⟩; have b4 := Lib.hid (hb'.out.trans (below_le b3 hb'.out.size)); clear b3; simp only [decide_true])
  go_ret
  exact ⟨rfl, b4.out⟩
end Go.Proofs.Ytkcmmghhghgdpaa.Agt
end
