/- What is read of an argument, as the print's kinds have it: of each type, out of the reading of the data (DataW.trod), a value of Lean with its cells. -/
import Derived.Test.YtkcmmghhghgdpaaWMore
import Derived.Test.YtkcmmghhghgdpaaWNEv
import Derived.Test.YtkcmmghhghgdpaaRows
import Derived.ProofKit
namespace Go.Proofs.Ytkcmmghhghgdpaa.Open
set_option linter.unusedVariables false
set_option linter.unusedSimpArgs false
open Go.RowKit Go.Proofs.YtkcmmghhghgdpaaW.PrintWords

/-- Values of type T read as what k says; good: what is known of them; bulk: no more than the data's. -/
def Opens {α : Type} (P : Program) (T : TypeId) (k : Kd α) (good : α → Prop) (bulk : α → Nat) : Prop :=
  ∀ (H : Type) (enc : TypeId × Value → H) (W : World) (fuel : Nat) (cs : List Value) (x : DataW H × List MemPlace),
    DataW.trod enc P W 0 (fun _ => true) true fuel T cs = some x → ∃ a : α, k.K W a cs ∧ good a ∧ bulk a ≤ Rows.uptoBulk x.1

theorem Opens.int {P : Program} {T : TypeId} {q : IntKind} (h : P.underlying T = some (.int q)) : Opens P T (Kd.int q) (fun n => (Lit.int q n).wf = true) (fun _ => 1) := by
  intro H enc W fuel cs x hx
  obtain ⟨n, rfl, rfl, hw⟩ := DataW.trod_int h hx
  exact ⟨n, rfl, hw, by simp [Rows.uptoBulk]⟩
theorem Opens.bool {P : Program} {T : TypeId} (h : P.underlying T = some .bool) : Opens P T Kd.bool (fun _ => True) (fun _ => 1) := by
  intro H enc W fuel cs x hx
  obtain ⟨n, rfl, rfl⟩ := DataW.trod_bool h hx
  exact ⟨n, rfl, trivial, by simp [Rows.uptoBulk]⟩

theorem list_of {α : Type} (n : Nat) : ∀ (R : Nat → α → Prop), (∀ i, i < n → ∃ a, R i a) → ∃ l : List α, l.length = n ∧ ∀ i a, l[i]? = some a → R i a := by
  induction n with
  | zero => intro R _; exact ⟨[], rfl, fun i a h => by simp at h⟩
  | succ n ih =>
    intro R h
    obtain ⟨a, ha⟩ := h 0 (by omega)
    obtain ⟨l, hl, hr⟩ := ih (fun i a => R (i + 1) a) (fun i hi => h (i + 1) (by omega))
    refine ⟨a :: l, by simp [hl], fun i b hb => ?_⟩
    cases i with
    | zero => simp at hb; subst hb; exact ha
    | succ i => exact hr i b (by simpa using hb)

theorem cells_get {w : World} {base : Nat} {a : Addr} {n : Nat} {cs : List Value} (h : w.cells? base a n = some cs) (j : Nat) (u : Value) (hu : cs[j]? = some u) : w.cell? (a.add j) = some u := by
  unfold World.cells? at h
  split at h
  · have hl := mapM_some_length h
    have hj : j < n := by
      have := (List.getElem?_eq_some_iff.1 hu).1
      simp at hl; omega
    have := mapM_some_get h j j (by simp [hj])
    rw [this, hu]
  · cases h

theorem add_add (a : Addr) (m j : Nat) : (a.add m).add j = a.add (m + j) := by
  unfold Addr.add
  by_cases h1 : m = 0 <;> by_cases h2 : j = 0 <;> simp [h1, h2, Nat.add_assoc]
theorem bulk_sum {α H : Type} (bulk : α → Nat) : ∀ (l : List α) (ds : List (DataW H)), l.length = ds.length → (∀ (i : Nat) (a : α) (d : DataW H), l[i]? = some a → ds[i]? = some d → bulk a ≤ Rows.uptoBulk d) → (l.map bulk).sum ≤ Rows.uptoBulkAll ds
  | [], [], _, _ => by simp
  | a :: l, d :: ds, hl, h => by
    have h0 := h 0 a d rfl rfl
    have h1 := bulk_sum bulk l ds (by simpa using hl) (fun i b e hb he => h (i + 1) b e (by simpa using hb) (by simpa using he))
    simp only [List.map_cons, List.sum_cons, Rows.uptoBulkAll]
    omega
  | [], _ :: _, hl, _ => by simp at hl
  | _ :: _, [], hl, _ => by simp at hl

theorem bulk_app {H : Type} (l r : List (DataW H)) : Rows.uptoBulkAll (l ++ r) = Rows.uptoBulkAll l + Rows.uptoBulkAll r := by
  induction l with
  | nil => simp [Rows.uptoBulkAll]
  | cons x l ih => simp only [List.cons_append, Rows.uptoBulkAll, ih]; omega

theorem Opens.slice {α : Type} {P : Program} {T e : TypeId} {k : Kd α} {good : α → Prop} {bulk : α → Nat} (ht : P.underlying T = some (.slice e)) (hz : P.cellsOf e = k.sz) (h : Opens P e k good bulk) :
    Opens P T (Kd.slice e k) (fun l => l.length ≤ maxLen ∧ ∀ a ∈ l, good a) (fun l => (l.map bulk).sum + 1) := by
  intro H enc W fuel cs x hx
  rcases DataW.trod_slice ht hx with ⟨rfl, rfl⟩ | ⟨a, len, cap, elems, rest, n, _, rfl, rfl, _, hl, hm, hlen, hel, _, _⟩
  · exact ⟨[], ⟨none, 0, rfl, Nat.le_refl _, Kd.C_nil k W⟩, ⟨Nat.zero_le _, fun a h => by cases h⟩, by simp [Rows.uptoBulk]⟩
  · have hone : ∀ i, i < len → ∃ v : α, ∃ c, (∃ y, elems[i]? = some y ∧ bulk v ≤ Rows.uptoBulk y.1) ∧ k.K W v c ∧ good v ∧ ∀ j u, c[j]? = some u → W.cell? (a.add (i * k.sz + j)) = some u := by
      intro i hi
      have he := hel i hi
      have hy : elems[i]? = some (elems[i]'(by omega)) := List.getElem?_eq_getElem (by omega)
      rw [hy, Option.bind_eq_some_iff] at he
      obtain ⟨c, hc, ht'⟩ := he
      obtain ⟨v, hv, hg, hb⟩ := h H enc W n c _ ht'
      refine ⟨v, c, ⟨_, hy, hb⟩, hv, hg, fun j u hu => ?_⟩
      have := cells_get hc j u hu
      rw [hz] at this
      rw [← add_add]
      exact this
    obtain ⟨l, hll, hr⟩ := list_of len _ hone
    have hmem : ∀ v ∈ l, good v := by
      intro v hv
      obtain ⟨i, hi⟩ := List.getElem?_of_mem hv
      obtain ⟨c, _, _, hg, _⟩ := hr i v hi
      exact hg
    refine ⟨l, ⟨some a, cap, by rw [hll], by omega, by omega, ?_, fun hpos => ⟨a, rfl, fun j p hp => ?_⟩⟩, ⟨by omega, hmem⟩, ?_⟩
    · unfold maxLen at hm; omega
    · obtain ⟨c, _, hk, _, hc⟩ := hr j p hp
      exact ⟨c, k.K_len hk, hk, hc⟩
    · have hs := bulk_sum (H := H) bulk l (elems.map (·.1)) (by simp [hll, hlen]) (fun i b d hb hd => by
        obtain ⟨c, ⟨y, hy, hby⟩, _⟩ := hr i b hb
        rw [List.getElem?_map, hy] at hd
        simp at hd
        subst hd
        exact hby)
      simp only [Rows.uptoBulk]
      omega

/-- Fields, one behind the other. -/
def OpensFs {α : Type} (P : Program) (ts : List TypeId) (k : Kd α) (good : α → Prop) (bulk : α → Nat) : Prop :=
  ∀ (H : Type) (enc : TypeId × Value → H) (W : World) (n : Nat) (cs : List Value) (xs : List (DataW H × List MemPlace)), cs.length = (ts.map P.cellsOf).sum → xs.length = ts.length →
    (∀ i t, ts[i]? = some t → DataW.trod enc P W 0 (fun _ => true) true n t ((cs.drop ((ts.take i).map P.cellsOf).sum).take (P.cellsOf t)) = xs[i]?) →
    ∃ a : α, k.K W a cs ∧ good a ∧ bulk a ≤ Rows.uptoBulkAll (xs.map (·.1))

theorem OpensFs.one {α : Type} {P : Program} {t : TypeId} {k : Kd α} {good : α → Prop} {bulk : α → Nat} (h : Opens P t k good bulk) : OpensFs P [t] k good bulk := by
  intro H enc W n cs xs hl hx hf
  match xs, hx with
  | [x], _ =>
    have h0 := hf 0 t rfl
    simp at h0 hl
    rw [List.take_of_length_le (by omega)] at h0
    obtain ⟨a, h1, h2, h3⟩ := h H enc W n cs x h0
    exact ⟨a, h1, h2, by simpa [Rows.uptoBulkAll] using h3⟩

theorem OpensFs.cons {α β : Type} {P : Program} {t : TypeId} {ts : List TypeId} {k : Kd α} {ks : Kd β} {g : α → Prop} {gs : β → Prop} {b : α → Nat} {bs : β → Nat} (h : Opens P t k g b) (hs : OpensFs P ts ks gs bs) :
    OpensFs P (t :: ts) (Kd.pair k ks) (fun x => g x.1 ∧ gs x.2) (fun x => b x.1 + bs x.2) := by
  intro H enc W n cs xs hl hx hf
  match xs, hx with
  | x :: xs, hx =>
    have h0 := hf 0 t rfl
    simp at h0 hl
    obtain ⟨a, h1, h2, h3⟩ := h H enc W n _ x h0
    obtain ⟨c, g1, g2, g3⟩ := hs H enc W n (cs.drop (P.cellsOf t)) xs (by rw [List.length_drop]; omega) (by simpa using hx) (fun i t' ht' => by
      have := hf (i + 1) t' (by simpa using ht')
      simp only [List.take_succ_cons, List.map_cons, List.sum_cons, List.getElem?_cons_succ] at this
      rw [List.drop_drop]
      exact this)
    exact ⟨(a, c), ⟨_, _, (List.take_append_drop (P.cellsOf t) cs).symm, h1, g1⟩, ⟨h2, g2⟩, by simp only [List.map_cons, Rows.uptoBulkAll]; omega⟩

theorem Opens.struct {α : Type} {P : Program} {T : TypeId} {fs : Array Field} {ts : List TypeId} {k : Kd α} {good : α → Prop} {bulk : α → Nat} (ht : P.underlying T = some (.struct fs))
    (hts : fs.toList.map (·.type) = ts) (hoff : fs.toList.map (·.offset) = (List.range ts.length).map fun i => ((ts.take i).map P.cellsOf).sum) (hsz : P.cellsOf T = (ts.map P.cellsOf).sum) (h : OpensFs P ts k good bulk) :
    Opens P T k good (fun a => bulk a + 1) := by
  intro H enc W fuel cs x hx
  obtain ⟨xs, n, _, rfl, hl, hlen, hf⟩ := DataW.trod_struct ht hx
  have hn : ts.length = fs.size := by rw [← hts]; simp
  obtain ⟨a, h1, h2, h3⟩ := h H enc W n cs xs (by rw [hl, hsz]) (by rw [hlen, hn]) (fun i t hi => by
    have hlt : i < fs.size := by have := (List.getElem?_eq_some_iff.1 hi).1; omega
    have hfi : fs[i]? = some fs[i] := Array.getElem?_eq_getElem hlt
    have e1 : fs[i].type = t := by
      have := congrArg (fun l => l[i]?) hts
      simp [hi, hlt] at this
      exact this
    have e2 : fs[i].offset = ((ts.take i).map P.cellsOf).sum := by
      have := congrArg (fun l => l[i]?) hoff
      simp [hlt, hn] at this
      rw [List.map_take]
      exact this
    have := hf i _ hfi
    rw [e1, e2] at this
    exact this)
  exact ⟨a, h1, h2, by simp only [Rows.uptoBulk]; omega⟩

theorem Opens.iso {α β : Type} {P : Program} {T : TypeId} {k : Kd α} {good : α → Prop} {bulk : α → Nat} (f : β → α) (g : α → β) (hfg : ∀ a, f (g a) = a) (h : Opens P T k good bulk) :
    Opens P T (Kd.iso k f) (fun b => good (f b)) (fun b => bulk (f b)) := by
  intro H enc W fuel cs x hx
  obtain ⟨a, h1, h2, h3⟩ := h H enc W fuel cs x hx
  exact ⟨g a, by show k.K W (f (g a)) cs; rw [hfg]; exact h1, by show good (f (g a)); rw [hfg]; exact h2, by show bulk (f (g a)) ≤ _; rw [hfg]; exact h3⟩
end Go.Proofs.Ytkcmmghhghgdpaa.Open
