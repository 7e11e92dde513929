/- (*Group).Pick: its contract. -/
import Derived.Test.YtkcmmghhghgdpaaStr4
namespace Go.Proofs.Ytkcmmghhghgdpaa.Str
open Go.RowKit Go.Shelf Go.Maps Go.Proofs.Ytkcmmghhghgdpaa.Iter Go.Proofs.Ytkcmmghhghgdpaa.SeqM Go.Proofs.YtkcmmghhghgdpaaW.PrintWords Go.Proofs.YtkcmmghhghgdpaaW.PrintLast
set_option linter.unusedVariables false
set_option linter.unusedSimpArgs false
attribute [local go_sem] Oper.semAt_some
abbrev tP : Nat := 24
theorem quanta_calls (G : Nat) (W : World) : Calls Try.prog 47 #[ptrG G] W fun e W' => e = .returned (.func (.func 78) #[] #[.pointer (some ⟨W.heap.size, 0, none⟩)]) ∧ W' = W.alloc (.cells #[ptrG G] tP) := by
  go_enter Try.func47, Try.ntmps47
  go_wp2
  go_ret
  exact ⟨rfl, rfl⟩
theorem ownFrom_mt {β : Type} {B' G : Nat} {r : Option Nat} {W : World} (h : W.heap.size ≤ B') : OwnFrom B' (fun (_ : β) W1 => Mt G r W W1) := fun s X Y row hs hg hr =>
  ⟨hg.os.trans hs.os, hg.tape.trans hs.tape, hg.output.trans hs.output, Nat.le_trans hs.size hg.size, fun k hk h1 h2 => (hg.block k (Nat.lt_of_lt_of_le hk hs.size) (fun e => by have := (hr k e.symm).1; omega)).trans (hs.block k hk h1 h2)⟩
theorem ownFrom_grp {β : Type} {B' B G : Nat} {v : Value} {f : β → List Cl} {QB : Nat} : OwnFrom B' (fun (s : List Cl) W => StQ QB B G v s W) := fun s X Y row hs hg hr => by
  have keep : ∀ k (o : Obj), X.heap[k]? = some o → o.isCells = true → Y.heap[k]? = X.heap[k]? := fun k o hk ho => hg.block k (Array.getElem?_eq_some_iff.1 hk).1 (fun e => by
    obtain ⟨_, o', h1, h2⟩ := hr k e.symm
    rw [hk] at h1
    cases h1
    rw [ho] at h2
    cases h2)
  exact ⟨hs.good, (keep _ _ hs.box rfl).trans hs.box, hs.grp.move (keep _ _ hs.grp.blk rfl) (fun k hk => by
    obtain ⟨_, _, cur, hc⟩ := own_block hs.grp.row hk
    exact keep _ _ hc rfl)⟩
theorem KpQ.t {QB G : Nat} {v : Value} {X Y Z : World} (h : KpQ QB G v X Y) (k : KpQ QB G v Y Z) : KpQ QB G v X Z := ⟨k.1.trans h.1, k.2.1.trans h.2.1, fun b hb => (k.2.2 b hb).trans (h.2.2 b hb)⟩
theorem mt_put {G : Nat} {r : Option Nat} {W X : World} {D : Nat} {o : Obj} (h : Mt G r W X) (hD : W.heap.size ≤ D) : Mt G r W (X.putObj D o) :=
  ⟨h.os, h.tape, h.output, by rw [World.putObj_size]; exact h.size, fun k hk h1 h2 => (World.putObj_heap_other (by omega)).trans (h.block k hk h1 h2)⟩
/-- What Pick answers. -/
def pickR (l : List Cl) : List Cl × Int × Int := if l = [] then (l, 0, 8) else ((pickL l).1, (pickL l).2, 0)
theorem blk_mu {G R : Nat} {v : Value} {t : TypeId} {cs : Array Value} {X Y : World} (h : Blk X R t cs) (hm : MuQ G v X Y) (h1 : R ≠ G) (h2 : v.ownBlock ≠ some R) : Blk Y R t cs := (hm.1.block R h.lt h1 (fun e => h2 e.symm)).trans h

set_option maxRecDepth 100000 in
set_option maxHeartbeats 4000000 in
theorem pick_calls (B G : Nat) (v : Value) (l : List Cl) (W : World) (hgood : GoodG l) (hg : Grp tG tC B G v l W) :
    Calls Try.prog 23 #[ptrG G] W fun e W' => e = .returned (.tuple #[.int .i64 (pickR l).2.1, .int .i64 (pickR l).2.2]) ∧ Grp tG tC B G v (pickR l).1 W' ∧ Mt G v.ownBlock W W' := by
  refine (callsIn_wide (n := 6)).1 ?_
  refine callsIn_of_wp_marks Try.func23 rfl trivial ?_ rfl
  simp only [Try.ntmps23, List.size_toArray, List.length_cons, List.length_nil, Nat.reduceAdd, Nat.reduceSub, Array.replicate_succ, Array.replicate_zero, List.push_toArray, List.append_toArray, List.nil_append, List.cons_append]
  have hGl := hg.lt
  have hvl : ∀ k, v.ownBlock = some k → k < W.heap.size := fun k hk => (own_block hg.row hk).2.1
  gi_wp2_with (refine ⟨trivial, ?_⟩; gi_at_call 47; refine (callsIn_wide.2 (quanta_calls G _)).mono ?_; rintro e w' ⟨rfl, rfl⟩)
  have b2 := ((Blk.new W 3 #[.int .i64 0]).alloc (.cells #[.int .i64 0] 26)).alloc (.cells #[ptrG G] tP)
  have b3 := (Blk.new (W.alloc (.cells #[.int .i64 0] 3)) 26 #[.int .i64 0]).alloc (.cells #[ptrG G] tP)
  have bQ := Blk.new ((W.alloc (.cells #[.int .i64 0] 3)).alloc (.cells #[.int .i64 0] 26)) tP #[ptrG G]
  simp only [World.size_alloc] at b3 bQ
  have hM0 : Mt G v.ownBlock W (((W.alloc (.cells #[.int .i64 0] 3)).alloc (.cells #[.int .i64 0] 26)).alloc (.cells #[ptrG G] tP)) := (((Mt.refl _ _ _).alloc _).alloc _).alloc _
  have hg0 : Grp tG tC B G v l (((W.alloc (.cells #[.int .i64 0] 3)).alloc (.cells #[.int .i64 0] 26)).alloc (.cells #[ptrG G] tP)) := ((hg.alloc _).alloc _).alloc _
  have hsz : (((W.alloc (.cells #[.int .i64 0] 3)).alloc (.cells #[.int .i64 0] 26)).alloc (.cells #[ptrG G] tP)).heap.size = W.heap.size + 3 := by simp
  obtain ⟨W0, hW0⟩ : ∃ W0, (((W.alloc (.cells #[.int .i64 0] 3)).alloc (.cells #[.int .i64 0] 26)).alloc (.cells #[ptrG G] tP)) = W0 := ⟨_, rfl⟩
  rw [hW0] at b2 b3 bQ hM0 hg0 hsz ⊢
  clear hW0
  have hv2 : ∀ r, W.heap.size ≤ r → v.ownBlock ≠ some r := fun r hr e => by have := hvl r e; omega
  refine wpIn_rangeM (F := Fence.wide) rfl (by omega) (gf := 78) (lb := #[.pointer (some ⟨W.heap.size + 1 + 1, 0, none⟩)]) rfl trivial (enters_of Try.func78 (by kernel_rfl) rfl)
    (enc := fun id : Int => #[.int .i64 id]) (step := stepQ) (St := StQ (W.heap.size + 1 + 1) B G v) (Mu := MuQ G v) (Kp := KpQ (W.heap.size + 1 + 1) G v) (N := 1) (s0 := l)
    (fun W1 h _ => quanta_seq _ _ B G v l 1 W1 h)
    (ownFrom_grp (f := fun s : List Cl => s)) KpQ.t
    (fun X r o o' hr hr2 ho => ⟨World.putObj_heap_other (by omega), World.putObj_heap_other (by omega), fun k hk => World.putObj_heap_other (by have := hvl k hk; omega)⟩)
    (fun X Y h => h.2) (fun _ => rfl)
    (fun pre s X => (((pre = [] ∧ s = l) ∧ Blk X W.heap.size 3 #[.int .i64 0]) ∧ Blk X (W.heap.size + 1) 26 #[.int .i64 0]) ∧ Mt G v.ownBlock W X)
    (fun c pre s X => (((c = .ret ∧ s = (pickL l).1 ∧ l ≠ []) ∧ Blk X W.heap.size 3 #[.int .i64 (pickL l).2]) ∧ Blk X (W.heap.size + 1) 26 #[.int .i64 0]) ∧ Mt G v.ownBlock W X)
    (fun s => OwnFrom.and (OwnFrom.and (OwnFrom.and (ownFrom_pure _ _) (Own.from (blk_own _ _ _) _)) (Own.from (blk_own _ _ _) _)) (ownFrom_mt (by omega)))
    (fun c s => OwnFrom.and (OwnFrom.and (OwnFrom.and (ownFrom_pure _ _) (Own.from (blk_own _ _ _) _)) (Own.from (blk_own _ _ _) _)) (ownFrom_mt (by omega)))
    (fun pre s X Y hs hm => ⟨⟨⟨hs.1.1.1, blk_mu hs.1.1.2 hm (by omega) (hv2 _ (by omega))⟩, blk_mu hs.1.2 hm (by omega) (hv2 _ (by omega))⟩, hs.2.trans hm.1 (.inl rfl)⟩)
    (fun pre s X hs => by rw [hs.1.1.1.1]; simp) ⟨⟨⟨⟨rfl, rfl⟩, b2⟩, b3⟩, hM0⟩ ⟨hgood, bQ, hg0⟩
    (fun x : Int => { tmps := #[ptrG G, undef, .pointer (some ⟨W.heap.size, 0, none⟩), .pointer (some ⟨W.heap.size + 1, 0, none⟩), .int .i64 x, ptrG G, .bool false, ptrG G, .func (.func 78) #[] #[.pointer (some ⟨W.heap.size + 1 + 1, 0, none⟩)], .int .i64 x, undef], defers := [] })
    ?assign ?body ?done ?stop
  case assign =>
    rintro ll x X K hK
    gi_wp2
    first | simpa using hK | (simp only [List.zip_toArray, List.zip_cons_cons, List.zip_nil_right, List.foldl_toArray, List.foldl_cons, List.foldl_nil, List.setIfInBounds_toArray, List.set_cons_succ, List.set_cons_zero]; exact hK) | (simp [Array.foldl, Array.zip] at hK ⊢; exact hK)
  case body =>
    rintro ll pre s x s' X ⟨⟨⟨⟨rfl, rfl⟩, c2⟩, c3⟩, hM⟩ hstep hst
    have hn : s ≠ [] := by intro e; rw [e] at hstep; cases hstep
    have hx : (pickL s).2 = x ∧ (pickL s).1 = s' := by
      unfold stepQ at hstep
      rw [if_neg hn] at hstep
      simpa using hstep
    obtain ⟨rfl, rfl⟩ := hx
    have f2 := c2.frozen 0
    have f3 := c3.frozen 0
    have q2 := c2.cell 0
    have q3 := c3.cell 0
    try simp only [List.getElem?_toArray, List.getElem?_cons_zero] at q2 q3
    generalize hpv : (pickL s).2 = pv at *
    gi_wp2
    have hb2 : ∀ (w : World) (b o : Nat) (u : Value) (k : Nat), k < W.heap.size ∨ k = W.heap.size + 1 + 1 → W.heap.size ≤ b → b < W.heap.size + 2 → (w.setCell ⟨b, o, none⟩ u).heap[k]? = w.heap[k]? := fun w b o u k hk h1 h2 => Below.heap_setCell w ⟨b, o, none⟩ u k (show k ≠ b by omega)
    refine ⟨(KeepsOthers.setCell _ _ _).trans (KeepsOthers.setCell _ _ _), ⟨?_, ?_, fun b hb => ?_⟩, ⟨⟨⟨rfl, rfl, hn⟩, ?_⟩, ?_⟩, ?_⟩
    · exact (hb2 _ _ _ _ _ (.inr rfl) (by omega) (by omega)).trans (hb2 _ _ _ _ _ (.inr rfl) (by omega) (by omega))
    · exact (hb2 _ _ _ _ _ (.inl hGl) (by omega) (by omega)).trans (hb2 _ _ _ _ _ (.inl hGl) (by omega) (by omega))
    · have := hvl b hb
      exact (hb2 _ _ _ _ _ (.inl this) (by omega) (by omega)).trans (hb2 _ _ _ _ _ (.inl this) (by omega) (by omega))
    · exact (c2.set 0 (.int .i64 pv) (by simp)).other (by simp) _
    · exact (c3.other (by simp) _).set 0 (.int .i64 0) (by simp)
    · exact (hM.new (Nat.le_refl _) _ _).new (by omega) _ _
  case done =>
    rintro D pre s X hD hno ⟨⟨⟨⟨rfl, rfl⟩, c2⟩, c3⟩, hM⟩ hst hK
    have hs0 : s = [] := by
      unfold stepQ at hno
      split at hno
      · assumption
      · cases hno
    have f2 := c2.frozen 0
    have f3 := c3.frozen 0
    have q2 := c2.cell 0
    have q3 := c3.cell 0
    try simp only [List.getElem?_toArray, List.getElem?_cons_zero] at q2 q3
    gi_wp2
    have hK' := ((KeepsOthers.setCell X ⟨W.heap.size, 0, none⟩ (.int .i64 0)).trans (KeepsOthers.setCell _ ⟨W.heap.size + 1, 0, none⟩ (.int .i64 8))).same D _ hK rfl
    refine ⟨by simp, .inl ⟨_, _, rfl, run_takeDeferred hK', ?_⟩⟩
    have d2 := (c2.set 0 (.int .i64 0) (by simp)).other (a := ⟨W.heap.size + 1, 0, none⟩) (by simp) (.int .i64 8)
    have d3 := (c3.other (a := ⟨W.heap.size, 0, none⟩) (by simp) (.int .i64 0)).set 0 (.int .i64 8) (by simp)
    have hM2 := (hM.new (b := W.heap.size) (Nat.le_refl _) 0 (.int .i64 0)).new (b := W.heap.size + 1) (by omega) 0 (.int .i64 8)
    have hg2 : Grp tG tC B G v s ((X.setCell ⟨W.heap.size, 0, none⟩ (.int .i64 0)).setCell ⟨W.heap.size + 1, 0, none⟩ (.int .i64 8)) := hst.grp.move
      ((Below.heap_setCell _ _ _ _ (by simp; omega)).trans (Below.heap_setCell _ _ _ _ (by simp; omega)))
      (fun k hk => by have := hvl k hk; exact (Below.heap_setCell _ _ _ _ (by simp; omega)).trans (Below.heap_setCell _ _ _ _ (by simp; omega)))
    generalize ((X.setCell ⟨W.heap.size, 0, none⟩ (.int .i64 0)).setCell ⟨W.heap.size + 1, 0, none⟩ (.int .i64 8)) = Y at *
    have e2 := cell_kept ((d2.cell 0).trans rfl) (grownBy_putObj' _ D (.deferred none)) (fun r e => by cases e; exact ⟨_, hK', rfl⟩)
    have e3 := cell_kept ((d3.cell 0).trans rfl) (grownBy_putObj' _ D (.deferred none)) (fun r e => by cases e; exact ⟨_, hK', rfl⟩)
    refine ⟨.tuple #[.int .i64 0, .int .i64 8], ?_, ?_, ?_, ?_⟩
    · simp [results, Try.f23, go_sem, e2, e3]
    · simp [pickR, hs0]
    · rw [show (pickR s).1 = s by simp [pickR, hs0]]
      exact hg2.move (World.putObj_heap_other (by omega)) (fun k hk => World.putObj_heap_other (by have := hvl k hk; omega))
    · exact mt_put hM2 (by omega)
  case stop =>
    rintro D c pre s X hD ⟨⟨⟨⟨rfl, rfl, hn⟩, c2⟩, c3⟩, hM⟩ hst hK
    have q2 := c2.cell 0
    have q3 := c3.cell 0
    try simp only [List.getElem?_toArray, List.getElem?_cons_zero] at q2 q3
    gi_wp2
    refine ⟨by simp, .inl ⟨_, _, rfl, run_takeDeferred hK, ?_⟩⟩
    have e2 := cell_kept q2 (grownBy_putObj' _ D (.deferred none)) (fun r e => by cases e; exact ⟨_, hK, rfl⟩)
    have e3 := cell_kept q3 (grownBy_putObj' _ D (.deferred none)) (fun r e => by cases e; exact ⟨_, hK, rfl⟩)
    have hp : pickR l = ((pickL l).1, (pickL l).2, 0) := by simp [pickR, hn]
    rw [hp]
    refine ⟨.tuple #[.int .i64 (pickL l).2, .int .i64 0], ?_, rfl, ?_, ?_⟩
    · simp [results, Try.f23, go_sem, e2, e3]
    · exact hst.grp.move (World.putObj_heap_other (by omega)) (fun k hk => World.putObj_heap_other (by have := hvl k hk; omega))
    · exact mt_put hM (by omega)
end Go.Proofs.Ytkcmmghhghgdpaa.Str
