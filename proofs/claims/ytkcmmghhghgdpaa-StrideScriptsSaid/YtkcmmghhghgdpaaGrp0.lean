/- A group of clients in memory. -/
import Derived.Test.YtkcmmghhghgdpaaStrP
import Derived.Laws.OwnMore
import Derived.Below
import Derived.RangeFuncFrom
import Derived.Deep.Draws
import Derived.Laws.AppendOwn
namespace Go.Proofs.Ytkcmmghhghgdpaa.Str
open Go Go.RowKit
set_option linter.unusedVariables false
set_option linter.unusedSimpArgs false
/-- A client's cells. -/
def cC (c : Cl) : List Value := [.int .i64 c.id, .int .i64 c.t, .int .i64 c.p]
def flat (l : List Cl) : List Value := l.flatMap cC
theorem flat_cons (c : Cl) (l : List Cl) : flat (c :: l) = cC c ++ flat l := rfl
theorem flat_app (l m : List Cl) : flat (l ++ m) = flat l ++ flat m := by simp [flat]
theorem flat_len : ∀ (l : List Cl), (flat l).length = l.length * 3
  | [] => rfl
  | c :: l => by rw [flat_cons, List.length_append, flat_len l, List.length_cons]; simp [cC]; omega
theorem flat_get : ∀ (l : List Cl) (i j : Nat) (c : Cl), j < 3 → l[i]? = some c → (flat l)[i * 3 + j]? = (cC c)[j]?
  | [], i, j, c, _, h => by simp at h
  | d :: l, 0, j, c, hj, h => by
    simp at h
    subst h
    rw [flat_cons, Nat.zero_mul, Nat.zero_add, List.getElem?_append_left (by simpa [cC] using hj)]
  | d :: l, i + 1, j, c, hj, h => by
    rw [flat_cons, List.getElem?_append_right (by simp [cC]; omega), show (i + 1) * 3 + j - (cC d).length = i * 3 + j by simp [cC]; omega]
    exact flat_get l i j c hj (by simpa using h)
theorem flat_take : ∀ (l : List Cl) (i : Nat), (flat l).take (i * 3) = flat (l.take i)
  | [], i => by simp [flat]
  | c :: l, 0 => by simp [flat]
  | c :: l, i + 1 => by
    rw [List.take_succ_cons, flat_cons, flat_cons, List.take_append, List.take_of_length_le (by simp [cC]; omega), show (i + 1) * 3 - (cC c).length = i * 3 by simp [cC]; omega, flat_take l i]
theorem flat_drop : ∀ (l : List Cl) (i : Nat), (flat l).drop (i * 3) = flat (l.drop i)
  | [], i => by simp [flat]
  | c :: l, 0 => by simp
  | c :: l, i + 1 => by
    rw [List.drop_succ_cons, flat_cons, List.drop_append, List.drop_of_length_le (by simp [cC]; omega), show (i + 1) * 3 - (cC c).length = i * 3 by simp [cC]; omega, flat_drop l i]
    rfl
theorem set_three (a b c x : Value) (l : List Value) (j : Nat) : (a :: b :: c :: l).set (j + 3) x = a :: b :: c :: l.set j x := rfl
/-- A field written. -/
theorem flat_setP : ∀ (l : List Cl) (i : Nat) (p : Int), (flat l).set (i * 3 + 2) (.int .i64 p) = flat (l.modify i fun c => { c with p := p })
  | [], i, p => by simp [flat]
  | c :: l, 0, p => by simp [flat, cC, List.modify]
  | c :: l, i + 1, p => by
    rw [List.modify_succ_cons, flat_cons, flat_cons, ← flat_setP l i p, show (i + 1) * 3 + 2 = (i * 3 + 2) + 3 by omega]
    exact set_three _ _ _ _ _ _
theorem flat_setT : ∀ (l : List Cl) (i : Nat) (t : Int), (flat l).set (i * 3 + 1) (.int .i64 t) = flat (l.modify i fun c => { c with t := t })
  | [], i, t => by simp [flat]
  | c :: l, 0, t => by simp [flat, cC, List.modify]
  | c :: l, i + 1, t => by
    rw [List.modify_succ_cons, flat_cons, flat_cons, ← flat_setT l i t, show (i + 1) * 3 + 1 = (i * 3 + 1) + 3 by omega]
    exact set_three _ _ _ _ _ _
theorem flat_one (l : List Cl) : ∀ u ∈ flat l, u.oneCell' = true := by
  intro u hu
  unfold flat at hu
  rw [List.mem_flatMap] at hu
  obtain ⟨c, _, hc⟩ := hu
  simp [cC] at hc
  rcases hc with rfl | rfl | rfl <;> rfl

/-- A group, at block G: its row v holds l; both lie from B on. -/
structure Grp (tG tC B G : Nat) (v : Value) (l : List Cl) (W : World) : Prop where
  blk : W.heap[G]? = some (.cells #[v] tG (0, 0))
  base : B ≤ G
  row : W.ownsRow B tC 3 v l.length (flat l)
/-- What a call of a group may change: its block and its row's. -/
structure Mt (G : Nat) (r : Option Nat) (W W' : World) : Prop where
  os : W'.os = W.os
  tape : W'.tape = W.tape
  output : W'.output = W.output
  size : W.heap.size ≤ W'.heap.size
  block : ∀ k, k < W.heap.size → k ≠ G → some k ≠ r → W'.heap[k]? = W.heap[k]?
section
variable {tG tC B G : Nat} {v : Value} {l : List Cl} {W W' : World} {r : Option Nat}
theorem Mt.refl (G : Nat) (r : Option Nat) (W : World) : Mt G r W W := ⟨rfl, rfl, rfl, Nat.le_refl _, fun _ _ _ _ => rfl⟩
theorem Mt.drew (h : Mt G r W W') : Mt G r W W'.drew := ⟨h.os, h.tape, h.output, h.size, h.block⟩
theorem Mt.drewN (h : Mt G r W W') (n : Nat) : Mt G r W (W'.drewN n) := ⟨h.os, h.tape, h.output, h.size, h.block⟩
theorem Mt.alloc (h : Mt G r W W') (o : Obj) : Mt G r W (W'.alloc o) := ⟨h.os, h.tape, h.output, Nat.le_trans h.size (by simp), fun k hk h1 h2 => (Below.heap_alloc W' o k (by have := h.size; omega)).trans (h.block k hk h1 h2)⟩
theorem Mt.setG (h : Mt G r W W') (o : Nat) (x : Value) : Mt G r W (W'.setCell ⟨G, o, none⟩ x) := ⟨h.os, h.tape, h.output, by simpa using h.size, fun k hk h1 h2 => (Below.heap_setCell W' ⟨G, o, none⟩ x k h1).trans (h.block k hk h1 h2)⟩
theorem Mt.setR {g : Nat} (h : Mt G (some g) W W') (o : Nat) (x : Value) : Mt G (some g) W (W'.setCell ⟨g, o, none⟩ x) := ⟨h.os, h.tape, h.output, by simpa using h.size, fun k hk h1 h2 => (Below.heap_setCell W' ⟨g, o, none⟩ x k (fun e => h2 (by rw [e]))).trans (h.block k hk h1 h2)⟩
theorem Mt.new (h : Mt G r W W') {b : Nat} (hb : W.heap.size ≤ b) (o : Nat) (x : Value) : Mt G r W (W'.setCell ⟨b, o, none⟩ x) := ⟨h.os, h.tape, h.output, by simpa using h.size, fun k hk h1 h2 => (Below.heap_setCell W' ⟨b, o, none⟩ x k (fun e => by simp at e; omega)).trans (h.block k hk h1 h2)⟩
/-- Two calls, one behind the other: the row may have turned to a new one. -/
theorem Mt.trans {W'' : World} {r' : Option Nat} (h : Mt G r W W') (h' : Mt G r' W' W'') (hr : r' = r ∨ ∀ k, r' = some k → W.heap.size ≤ k) : Mt G r W W'' :=
  ⟨h'.os.trans h.os, h'.tape.trans h.tape, h'.output.trans h.output, Nat.le_trans h.size h'.size, fun k hk h1 h2 =>
    (h'.block k (by have := h.size; omega) h1 (fun e => by
      rcases hr with rfl | hr
      · exact h2 e
      · have := hr k e.symm; omega)).trans (h.block k hk h1 h2)⟩
theorem Mt.of_below (h : Below W.heap.size W W') : Mt G r W W' := ⟨h.os, h.tape, h.output, h.size, fun k hk _ _ => h.block k hk⟩
theorem Mt.below {w : World} (h : Mt G r W W') (hb : Below B w W) (hB : B ≤ w.heap.size) (hG : B ≤ G) (hr : ∀ k, r = some k → B ≤ k) : Below B w W' :=
  ⟨h.os.trans hb.os, h.tape.trans hb.tape, h.output.trans hb.output, Nat.le_trans hb.size h.size, fun k hk =>
    (h.block k (by have := hb.size; omega) (by omega) (fun e => by have := hr k e.symm; omega)).trans (hb.block k hk)⟩
theorem own_move {w w' : World} {base e size n : Nat} {v : Value} {xs : List Value} (h : w.ownsRow base e size v n xs) (hk : ∀ k, v.ownBlock = some k → w'.heap[k]? = w.heap[k]?) : w'.ownsRow base e size v n xs := by
  refine ⟨h.1, ?_⟩
  rcases h.2 with hn | ⟨g, cap, cur, rfl, hb, hg, rest⟩
  · exact .inl hn
  · exact .inr ⟨g, cap, cur, rfl, hb, (hk g rfl).trans hg, rest⟩
theorem own_block {w : World} {base e size n : Nat} {v : Value} {xs : List Value} (h : w.ownsRow base e size v n xs) {k : Nat} (hk : v.ownBlock = some k) : base ≤ k ∧ k < w.heap.size ∧ ∃ cur, w.heap[k]? = some (.cells cur e (0, 0)) := by
  rcases h.2 with ⟨rfl, _⟩ | ⟨g, cap, cur, rfl, hb, hg, _⟩
  · cases hk
  · have : g = k := by simpa [Value.ownBlock] using hk
    subst this
    exact ⟨hb, (Array.getElem?_eq_some_iff.1 hg).1, cur, hg⟩
theorem Grp.lt (h : Grp tG tC B G v l W) : G < W.heap.size := (Array.getElem?_eq_some_iff.1 h.blk).1
theorem Grp.move (h : Grp tG tC B G v l W) (h1 : W'.heap[G]? = W.heap[G]?) (h2 : ∀ k, v.ownBlock = some k → W'.heap[k]? = W.heap[k]?) : Grp tG tC B G v l W' := ⟨h1.trans h.blk, h.base, own_move h.row h2⟩
/-- The group's block is not its row's. -/
theorem Grp.ne (h : Grp tG tC B G v l W) (ht : tG ≠ tC) : v.ownBlock ≠ some G := fun e => by
  obtain ⟨_, _, cur, hc⟩ := own_block h.row e
  rw [h.blk] at hc
  injection hc with hc
  injection hc with _ hc _
  exact ht hc
theorem Grp.alloc (h : Grp tG tC B G v l W) (o : Obj) : Grp tG tC B G v l (W.alloc o) :=
  h.move (Below.heap_alloc W o G h.lt) (fun k hk => Below.heap_alloc W o k (own_block h.row hk).2.1)
theorem Grp.drew (h : Grp tG tC B G v l W) : Grp tG tC B G v l W.drew := ⟨h.blk, h.base, h.row⟩
theorem Grp.drewN (h : Grp tG tC B G v l W) (n : Nat) : Grp tG tC B G v l (W.drewN n) := ⟨h.blk, h.base, h.row⟩
theorem Grp.cellG (h : Grp tG tC B G v l W) : W.cell? ⟨G, 0, none⟩ = some v := by simp [World.cell?, h.blk]
theorem Grp.frozenG (h : Grp tG tC B G v l W) : W.frozen? ⟨G, 0, none⟩ = false := by simp [World.frozen?, h.blk]
/-- The row of a group that is not empty. -/
theorem Grp.form (h : Grp tG tC B G v l W) (hn : l ≠ []) : ∃ g cap, v = .slice (some ⟨g, 0, none⟩) l.length cap ∧ l.length ≤ cap ∧ cap ≤ maxLen := by
  rcases h.row.2 with ⟨_, h0⟩ | ⟨g, cap, cur, rfl, _, _, hc, hm, _⟩
  · cases l with
    | nil => exact absurd rfl hn
    | cons => simp at h0
  · exact ⟨g, cap, rfl, hc, hm⟩
theorem Grp.len {g cap n : Nat} (h : Grp tG tC B G (.slice (some ⟨g, 0, none⟩) n cap) l W) : n = l.length := by
  rcases h.row.2 with ⟨h', _⟩ | ⟨_, _, _, h', _⟩
  · simp at h'
  · simp only [Value.slice.injEq] at h'
    exact h'.2.1
theorem Grp.cellR {g cap n : Nat} (h : Grp tG tC B G (.slice (some ⟨g, 0, none⟩) n cap) l W) {i : Nat} {c : Cl} (hc : l[i]? = some c) :
    W.cell? ⟨g, i * 3, none⟩ = some (.int .i64 c.id) ∧ W.cell? ⟨g, i * 3 + 1, none⟩ = some (.int .i64 c.t) ∧ W.cell? ⟨g, i * 3 + 2, none⟩ = some (.int .i64 c.p) := by
  obtain rfl := h.len
  have hi := (List.getElem?_eq_some_iff.1 hc).1
  refine ⟨?_, ?_, ?_⟩
  · rw [h.row.cellAt (i * 3) (by omega)]
    have := flat_get l i 0 c (by omega) hc
    simpa [cC] using this
  · rw [h.row.cellAt (i * 3 + 1) (by omega)]
    have := flat_get l i 1 c (by omega) hc
    simpa [cC] using this
  · rw [h.row.cellAt (i * 3 + 2) (by omega)]
    have := flat_get l i 2 c (by omega) hc
    simpa [cC] using this
theorem Grp.frozenR {g cap n : Nat} (h : Grp tG tC B G (.slice (some ⟨g, 0, none⟩) n cap) l W) (j : Nat) : W.frozen? ⟨g, j, none⟩ = false := by
  obtain rfl := h.len
  exact h.row.frozenAt j
/-- A pass written. -/
theorem Grp.setP {g cap n : Nat} (h : Grp tG tC B G (.slice (some ⟨g, 0, none⟩) n cap) l W) (ht : tG ≠ tC) (i : Nat) (p : Int) :
    Grp tG tC B G (.slice (some ⟨g, 0, none⟩) n cap) (l.modify i fun c => { c with p := p }) (W.setCell ⟨g, i * 3 + 2, none⟩ (.int .i64 p)) := by
  obtain rfl := h.len
  have hne : G ≠ g := fun e => h.ne ht (by rw [e]; rfl)
  refine ⟨(Below.heap_setCell W ⟨g, i * 3 + 2, none⟩ _ G hne).trans h.blk, h.base, ?_⟩
  have := (h.row.stored (i * 3 + 2) (.int .i64 p)).1
  rw [flat_setP] at this
  rw [List.length_modify]
  exact this
theorem Grp.setT {g cap n : Nat} (h : Grp tG tC B G (.slice (some ⟨g, 0, none⟩) n cap) l W) (ht : tG ≠ tC) (i : Nat) (t : Int) :
    Grp tG tC B G (.slice (some ⟨g, 0, none⟩) n cap) (l.modify i fun c => { c with t := t }) (W.setCell ⟨g, i * 3 + 1, none⟩ (.int .i64 t)) := by
  obtain rfl := h.len
  have hne : G ≠ g := fun e => h.ne ht (by rw [e]; rfl)
  refine ⟨(Below.heap_setCell W ⟨g, i * 3 + 1, none⟩ _ G hne).trans h.blk, h.base, ?_⟩
  have := (h.row.stored (i * 3 + 1) (.int .i64 t)).1
  rw [flat_setT] at this
  rw [List.length_modify]
  exact this
end
end Go.Proofs.Ytkcmmghhghgdpaa.Str
