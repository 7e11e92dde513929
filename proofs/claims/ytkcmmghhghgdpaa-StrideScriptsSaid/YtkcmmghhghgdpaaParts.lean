/- The parts of two amounts, as an iterator: its contract; and what a block of cells holds, through a loop over an iterator. -/
import Derived.RangeFuncNested
import Derived.RangeFuncBound
import Derived.RangeFuncCalls
import Derived.RangeFuncLeaves
import Derived.Shelf.Abstract
import Derived.Shelf.RegionOpen
import Derived.WalkKit
import Derived.OwnWalkIn
import Derived.TacticsInMore
import Derived.LoopNIn
import Derived.LoopIn
import Derived.Below
import Derived.Test.YtkcmmghhghgdpaaProg
namespace Go.Proofs.Ytkcmmghhghgdpaa.Iter
open Go.RowKit Go.Shelf
set_option linter.unusedVariables false
set_option linter.unusedSimpArgs false
attribute [local go_sem] Oper.semAt_some

/-- A block of cells. -/
def Blk (W : World) (B : Nat) (t : TypeId) (cs : Array Value) : Prop := W.heap[B]? = some (.cells cs t (0, 0))
section
variable {W W' : World} {B : Nat} {t : TypeId} {cs : Array Value}
theorem Blk.lt (h : Blk W B t cs) : B < W.heap.size := (Array.getElem?_eq_some_iff.1 h).1
theorem Blk.cell (h : Blk W B t cs) (i : Nat) : W.cell? ⟨B, i, none⟩ = cs[i]? := by simp [World.cell?, show W.heap[B]? = _ from h]
theorem Blk.frozen (h : Blk W B t cs) (i : Nat) : W.frozen? ⟨B, i, none⟩ = false := by simp [World.frozen?, show W.heap[B]? = _ from h]
theorem Blk.new (W : World) (t : TypeId) (cs : Array Value) : Blk (W.alloc (.cells cs t)) W.heap.size t cs := World.alloc_heap_new W _
theorem Blk.kept {row : Option Nat} (h : Blk W B t cs) (hg : W.grownBy W' row) (hne : some B ≠ row) : Blk W' B t cs := (hg.block B h.lt hne).trans h
theorem Blk.alloc (h : Blk W B t cs) (o : Obj) : Blk (W.alloc o) B t cs := h.kept (World.grownBy_alloc W o none) (by simp)
theorem Blk.drew (h : Blk W B t cs) : Blk W.drew B t cs := h
theorem Blk.below {n : Nat} (h : Blk W B t cs) (hb : Below n W W') (hlt : B < n) : Blk W' B t cs := (hb.block B hlt).trans h
theorem Blk.set (h : Blk W B t cs) (i : Nat) (v : Value) (hi : i < cs.size) : Blk (W.setCell ⟨B, i, none⟩ v) B t (cs.setIfInBounds i v) := by
  obtain ⟨hlt, hk⟩ := Array.getElem?_eq_some_iff.1 h
  show (W.heap.modify B _)[B]? = _
  rw [Array.getElem?_eq_getElem (by rw [Array.size_modify]; exact hlt), Array.getElem_modify_self, hk]
  rfl
theorem Blk.other (h : Blk W B t cs) {a : Addr} (hne : B ≠ a.block) (u : Value) : Blk (W.setCell a u) B t cs := (Below.heap_setCell W a u B hne).trans h
theorem blk_own {β : Type} (B : Nat) (t : TypeId) (f : β → Array Value) : Own (fun s W => Blk W B t (f s)) := fun s X Y row hs hg hrow =>
  hs.kept hg (fun e' => by obtain ⟨o, ho, hc⟩ := hrow B e'.symm; rw [show X.heap[B]? = _ from hs] at ho; cases ho; cases hc)
end

/-- What a round keeps: two blocks. -/
def Two (A B : Nat) (W W' : World) : Prop := W'.heap[A]? = W.heap[A]? ∧ W'.heap[B]? = W.heap[B]?
theorem Two.t {A B : Nat} {X Y Z : World} (h : Two A B X Y) (k : Two A B Y Z) : Two A B X Z := ⟨k.1.trans h.1, k.2.trans h.2⟩
theorem Two.b {A B : Nat} {w : World} (hA : A < w.heap.size) (hB : B < w.heap.size) (W : World) (l : Nat) (o o' : Obj) (hl : w.heap.size ≤ l) (h : W.heap[l]? = some o) (_ : o.isCells = false) (_ : o.isWalk = false) : Two A B W (W.putObj l o') :=
  ⟨World.putObj_heap_other (by omega), World.putObj_heap_other (by omega)⟩

theorem Two.refl (A B : Nat) (W : World) : Two A B W W := ⟨rfl, rfl⟩
theorem Two.alloc {A B : Nat} {X W : World} (h : Two A B X W) (hA : A < W.heap.size) (hB : B < W.heap.size) (o : Obj) : Two A B X (W.alloc o) := ⟨(Below.heap_alloc W _ _ hA).trans h.1, (Below.heap_alloc W _ _ hB).trans h.2⟩
theorem Two.set {A B : Nat} {X W : World} (h : Two A B X W) {a : Addr} (hA : A ≠ a.block) (hB : B ≠ a.block) (u : Value) : Two A B X (W.setCell a u) := ⟨(Below.heap_setCell W _ _ _ hA).trans h.1, (Below.heap_setCell W _ _ _ hB).trans h.2⟩
theorem Two.below {A B n : Nat} {X Y W : World} (h : Two A B X Y) (hb : Below n Y W) (hA : A < n) (hB : B < n) : Two A B X W := ⟨(hb.block A hA).trans h.1, (hb.block B hB).trans h.2⟩
theorem Two.drew {A B : Nat} {X W : World} (h : Two A B X W) : Two A B X W.drew := h

/-- What a step of ours may turn: the cells of blocks from n on alone. -/
structure Since (n : Nat) (W W' : World) : Prop where
  others : KeepsOthers W W'
  below : Below n W W'
theorem Since.refl (n : Nat) (W : World) : Since n W W := ⟨KeepsOthers.refl W, Below.refl n W⟩
theorem Since.drew {n : Nat} {X W : World} (h : Since n X W) : Since n X W.drew := ⟨h.others.trans (KeepsOthers.drew W), h.below.drew⟩
theorem Since.call {n : Nat} {X W Y : World} (h : Since n X W) (hn : n ≤ X.heap.size) (hb : Below W.heap.size W Y) : Since n X Y :=
  ⟨h.others.trans ⟨hb.size, fun k o hk _ => (hb.block k (Array.getElem?_eq_some_iff.1 hk).1).trans hk⟩, h.below.trans (hb.mono (Nat.le_trans hn h.below.size))⟩
theorem Since.set {n : Nat} {X W : World} (h : Since n X W) (a : Addr) (ha : n ≤ a.block) (u : Value) : Since n X (W.setCell a u) := ⟨h.others.trans (KeepsOthers.setCell W a u), h.below.setCell ha u⟩

end Go.Proofs.Ytkcmmghhghgdpaa.Iter
