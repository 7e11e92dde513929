/- A range over an iterator that changes memory of its own between two rounds: what iterator and loop promise each other; the statement's law. -/
import Derived.RangeFuncFrom
import Derived.RangeFuncLeaves
namespace Go.Proofs.Ytkcmmghhghgdpaa.SeqM
open Go Go.RowKit
set_option linter.unusedVariables false
variable {F : Fence} {n : Nat} {P : Program}

/-- The iterator has a state s; a step gives x and the next state; it turns memory as Mu says; a round must keep Kp; J: what the loop knows between two rounds (Mu does not mind it), fewer than N rounds go on; Jx: where a round has said 'no more'. -/
def SeqM {α σ : Type} (F : Fence) (n : Nat) (P : Program) (g : Nat) (lb : Array Value) (enc : α → Array Value) (step : σ → Option (α × σ)) (St : σ → World → Prop) (Mu Kp : World → World → Prop) (N : Nat) (s0 : σ) (W : World) : Prop :=
  ∀ (l : Nat) (J Jx : List α → σ → World → Prop),
    (∀ pre s A B, J pre s A → Mu A B → J pre s B) →
    (∀ pre s A, J pre s A → pre.length < N) →
    (∀ pre s x s' W1, J pre s W1 → step s = some (x, s') → St s' W1 → YieldAt F (n - 1) P l (enc x) W1 fun e W' => Kp W1 W' ∧ ((e = .returned (.bool true) ∧ J (pre ++ [x]) s' W') ∨ (e = .returned (.bool false) ∧ Jx (pre ++ [x]) s' W'))) →
    J [] s0 W →
    CallsIn F n P g (#[.func (.yield l) #[] #[]] ++ lb) W fun e W' => (∃ v, e = .returned v) ∧ ∃ pre s, St s W' ∧ ((step s = none ∧ J pre s W') ∨ Jx pre s W')

/-- What a body's walk ends in. -/
def postM {α σ : Type} (Kp : World → World → Prop) (I : List α → σ → World → Prop) (Ix : Code → List α → σ → World → Prop) (xs : List α) (s : σ) (W : World) : Exit → Act → World → Prop
  | .normal, _, W' => KeepsOthers W W' ∧ Kp W W' ∧ I xs s W'
  | .ret, _, W' => KeepsOthers W W' ∧ Kp W W' ∧ Ix .ret xs s W'
  | .exit id, _, W' => KeepsOthers W W' ∧ Kp W W' ∧ Ix (.exit id) xs s W'
  | .goto t, _, W' => KeepsOthers W W' ∧ Kp W W' ∧ Ix (.goto t) xs s W'
  | .panic _, _, _ => False
  | .outgrown, _, _ => False

theorem wpIn_rangeM {α σ : Type} {g : Operand} {ps : Array Tmp} {assign body : Code} {Q : Exit → Act → World → Prop} {a : Act} {w : World}
    (hro : F.round = none) (h1 : 1 ≤ n) {gf : Nat} {lb : Array Value} (hg : a.eval g = .func (.func gf) #[] lb) (hFg : F.fn gf) (eg : ∀ args w, (callFunc gf args).run P w = .ok (.enter gf args) w)
    {enc : α → Array Value} {step : σ → Option (α × σ)} {St : σ → World → Prop} {Mu Kp : World → World → Prop} {N : Nat} {s0 : σ} (hseq : ∀ W, St s0 W → KeepsOthers w W → SeqM F (n - 1) P gf lb enc step St Mu Kp N s0 W)
    (hSt : OwnFrom w.heap.size St) (hKt : ∀ {A B C : World}, Kp A B → Kp B C → Kp A C) (hKb : ∀ (W : World) (l : Nat) (o o' : Obj), w.heap.size ≤ l → W.heap[l]? = some o → o.isCells = false → Kp W (W.putObj l o'))
    (hMu : ∀ A B, Mu A B → KeepsOthers A B) (hps : ∀ x, (enc x).size = ps.size)
    (I : List α → σ → World → Prop) (Ix : Code → List α → σ → World → Prop) (hI : ∀ s, OwnFrom w.heap.size (fun pre => I pre s)) (hIx : ∀ c s, OwnFrom w.heap.size (fun pre => Ix c pre s))
    (hImu : ∀ pre s A B, I pre s A → Mu A B → I pre s B) (hIN : ∀ pre s A, I pre s A → pre.length < N) (h0 : I [] s0 w) (hs0 : St s0 w) (a₁ : α → Act)
    (hassign : ∀ (l : Nat) (x : α) (W : World) (K : Act → World → Prop), K (a₁ x) W →
      assign.wpIn (F.inRound l) (n - 1 - 1) P (Exit.then K (fun _ _ _ => False)) { tmps := (ps.zip (enc x)).foldl (fun t (p, v) => t.setIfInBounds p v) a.tmps, defers := [] } W)
    (hbody : ∀ (l : Nat) (pre : List α) (s : σ) (x : α) (s' : σ) (W : World), I pre s W → step s = some (x, s') → St s' W → body.wpIn (F.inRound l) (n - 1 - 1) P (postM Kp I Ix (pre ++ [x]) s' W) (a₁ x) W)
    (hdone : ∀ (D : Nat) (pre : List α) (s : σ) (W : World), w.heap.size ≤ D → step s = none → I pre s W → St s W → W.heap[D]? = some (.deferred (some [])) → Q .normal { a with defers := { target := .collected D, args := #[] } :: a.defers } W)
    (hstop : ∀ (D : Nat) (c : Code) (pre : List α) (s : σ) (W : World), w.heap.size ≤ D → Ix c pre s W → St s W → W.heap[D]? = some (.deferred (some [])) → c.wpIn F n P Q { a with defers := { target := .collected D, args := #[] } :: a.defers } W) :
    (Code.rangeFunc g ps assign body).wpIn F n P Q a w := by
  refine wpIn_rangeFunc ?_
  intro fn hfn
  rw [hro]
  obtain ⟨rec, hrec⟩ : ∃ rec : LoopState → Option Code → Loop, rec = fun st pe => { state := st, pending := pe, fn, tmps := a.tmps, params := ps, assign, body, defers := w.heap.size } := ⟨_, rfl⟩
  obtain ⟨W1, hW1⟩ : ∃ W1, (w.alloc (.deferred (some []))).alloc (.loop (rec .ready none)) = W1 := ⟨_, rfl⟩
  have hL1 : W1.heap[w.heap.size + 1]? = some (.loop (rec .ready none)) := by
    rw [← hW1]; have := World.alloc_heap_new (w.alloc (.deferred (some []))) (.loop (rec .ready none)); rwa [World.size_alloc] at this
  have hK1 : W1.heap[w.heap.size]? = some (.deferred (some [])) := by
    rw [← hW1]; exact (Below.heap_alloc _ _ _ (by simp)).trans (World.alloc_heap_new w _)
  have hI1 : I [] s0 W1 := by rw [← hW1]; exact (hI s0).alloc _ ((hI s0).alloc _ h0)
  have hS1 : St s0 W1 := by rw [← hW1]; exact hSt.alloc _ (hSt.alloc _ hs0)
  have hO1 : KeepsOthers w W1 := by rw [← hW1]; exact (KeepsOthers.alloc w _).trans (KeepsOthers.alloc _ _)
  refine ⟨w.heap.size + 1, [{ target := .collected w.heap.size, args := #[] }], W1, { target := .fn (.func gf) lb, args := #[.func (.yield (w.heap.size + 1)) #[] #[]] }, W1, gf,
    #[.func (.yield (w.heap.size + 1)) #[] #[]] ++ lb, W1, ?_, ?_, ?_, ?_, fun _ => h1, ?_⟩
  · rw [← hW1, hrec]; exact run_enterLoop_outer _ _ _ _ _
  · simp only [resolve, hg]
    simp [go_sem]
  · intro f' hf'; simp [Target.leads] at hf'; subst hf'; exact hFg
  · simp [invoke, go_sem, eg]
  · refine (hseq W1 hS1 hO1 (w.heap.size + 1)
      (fun pre s W => I pre s W ∧ W.heap[w.heap.size + 1]? = some (.loop (rec .ready none)) ∧ W.heap[w.heap.size]? = some (.deferred (some [])))
      (fun pre s W => ∃ c, Ix c pre s W ∧ W.heap[w.heap.size + 1]? = some (.loop (rec .done (some c))) ∧ W.heap[w.heap.size]? = some (.deferred (some [])))
      (fun pre s A B hs hm => ⟨hImu pre s A B hs.1 hm, (hMu A B hm).same _ _ hs.2.1 rfl, (hMu A B hm).same _ _ hs.2.2 rfl⟩)
      (fun pre s A hs => hIN pre s A hs.1) ?_ ⟨hI1, hL1, hK1⟩).mono ?_
    · rintro pre s x s' W ⟨hi, hl, hk⟩ hstep hst
      have hlt : w.heap.size + 1 < W.heap.size := (Array.getElem?_eq_some_iff.1 hl).1
      have hy := run_yield (P := P) (args := enc x) hl (by rw [hrec]; exact hps x)
      rw [hrec] at hy
      refine ⟨fn, _, assign, body, hy, roundIn_of_wpIn hfn (hassign _ x W _ ⟨_, run_beginRound hl (by rw [hrec]), ?_⟩)⟩
      have hl2 : (W.putObj (w.heap.size + 1) (.loop { rec .ready none with state := .busy })).heap[w.heap.size + 1]? = some (.loop { rec .ready none with state := .busy }) := World.putObj_heap_same hlt
      have hk2 : (W.putObj (w.heap.size + 1) (.loop { rec .ready none with state := .busy })).heap[w.heap.size]? = some (.deferred (some [])) := (World.putObj_heap_other (by omega)).trans hk
      have hp2 : Kp W (W.putObj (w.heap.size + 1) (.loop { rec .ready none with state := .busy })) := hKb W _ _ _ (by omega) hl rfl
      refine wpIn_mono (hbody _ pre s x s' _ ((hI s).putObj _ hi (by omega) hl rfl) hstep (hSt.putObj _ hst (by omega) hl rfl)) ?_
      have fin : ∀ (jump : Option Code) (W3 : World), KeepsOthers (W.putObj (w.heap.size + 1) (.loop { rec .ready none with state := .busy })) W3 → Kp (W.putObj (w.heap.size + 1) (.loop { rec .ready none with state := .busy })) W3 →
          (Instr.endRound (w.heap.size + 1) jump).run P W3 = .ok (.bool jump.isNone) (W3.putObj (w.heap.size + 1) (.loop (rec (if jump.isNone then .ready else .done) jump))) ∧
          W3.heap[w.heap.size + 1]? = some (.loop { rec .ready none with state := .busy }) ∧
          (W3.putObj (w.heap.size + 1) (.loop (rec (if jump.isNone then .ready else .done) jump))).heap[w.heap.size + 1]? = some (.loop (rec (if jump.isNone then .ready else .done) jump)) ∧
          (W3.putObj (w.heap.size + 1) (.loop (rec (if jump.isNone then .ready else .done) jump))).heap[w.heap.size]? = some (.deferred (some [])) ∧
          Kp W (W3.putObj (w.heap.size + 1) (.loop (rec (if jump.isNone then .ready else .done) jump))) := fun jump W3 hk3 hp3 => by
        have hl3 := hk3.same _ _ hl2 rfl
        have := run_endRound (P := P) jump hl3
        rw [hrec] at this ⊢
        rw [hrec] at hl3
        exact ⟨this, hl3, World.putObj_heap_same (Array.getElem?_eq_some_iff.1 hl3).1, (World.putObj_heap_other (by omega)).trans (hk3.same _ _ hk2 rfl), hKt (by rw [hrec] at hp2; exact hp2) (hKt (by rw [hrec] at hp3; exact hp3) (hKb W3 _ _ _ (by omega) hl3 rfl))⟩
      rintro e a3 W3 hp
      cases e with
      | normal =>
        obtain ⟨hk3, hp3, hi3⟩ := hp
        obtain ⟨hr, hl3, hl4, hk4, hp4⟩ := fin none W3 hk3 hp3
        exact ⟨_, _, hr, hp4, .inl ⟨rfl, (hI s').putObj _ hi3 (by omega) hl3 rfl, hl4, hk4⟩⟩
      | ret =>
        obtain ⟨hk3, hp3, hi3⟩ := hp
        obtain ⟨hr, hl3, hl4, hk4, hp4⟩ := fin (some .ret) W3 hk3 hp3
        exact ⟨_, _, hr, hp4, .inr ⟨rfl, .ret, (hIx _ s').putObj _ hi3 (by omega) hl3 rfl, hl4, hk4⟩⟩
      | exit id =>
        obtain ⟨hk3, hp3, hi3⟩ := hp
        obtain ⟨hr, hl3, hl4, hk4, hp4⟩ := fin (some (.exit id)) W3 hk3 hp3
        exact ⟨_, _, hr, hp4, .inr ⟨rfl, .exit id, (hIx _ s').putObj _ hi3 (by omega) hl3 rfl, hl4, hk4⟩⟩
      | goto t =>
        obtain ⟨hk3, hp3, hi3⟩ := hp
        obtain ⟨hr, hl3, hl4, hk4, hp4⟩ := fin (some (.goto t)) W3 hk3 hp3
        exact ⟨_, _, hr, hp4, .inr ⟨rfl, .goto t, (hIx _ s').putObj _ hi3 (by omega) hl3 rfl, hl4, hk4⟩⟩
      | panic ch => exact hp.elim
      | outgrown => exact hp.elim
    · rintro e W2 ⟨⟨v, rfl⟩, pre, s, hst, (⟨hno, hi, hl, hk⟩ | ⟨c, hi, hl, hk⟩)⟩
      · exact ⟨none, _, by have := run_endLoop (P := P) hl (by rw [hrec]; simp); rw [hrec] at this; exact this, hdone _ pre s _ (Nat.le_refl _) hno ((hI s).putObj _ hi (by omega) hl rfl) (hSt.putObj _ hst (by omega) hl rfl) ((World.putObj_heap_other (by omega)).trans hk)⟩
      · exact ⟨some c, _, by have := run_endLoop (P := P) hl (by rw [hrec]; simp); rw [hrec] at this; exact this, hstop _ c pre s _ (Nat.le_refl _) ((hIx c s).putObj _ hi (by omega) hl rfl) (hSt.putObj _ hst (by omega) hl rfl) ((World.putObj_heap_other (by omega)).trans hk)⟩
end Go.Proofs.Ytkcmmghhghgdpaa.SeqM
