/- A region that draws its order, in a round of a loop over an iterator, walked by the words for regions outside of rounds. -/
import Derived.RangeFuncCalls
import Derived.RangeFuncNested
import Derived.OrdersIn
import Derived.Test.YtkcmmghhghgdpaaWLast
namespace Go.Proofs.Ytkcmmghhghgdpaa.Iter
open Go.RowKit Go.Proofs.YtkcmmghhghgdpaaW.PrintLast
set_option linter.unusedVariables false

/-- Q, but for 'the memory is outgrown'. -/
def NoOut (Q : Exit → Act → World → Prop) : Exit → Act → World → Prop
  | .outgrown, _, _ => False
  | .normal, a, w => Q .normal a w
  | .ret, a, w => Q .ret a w
  | .exit id, a, w => Q (.exit id) a w
  | .goto t, a, w => Q (.goto t) a w
  | .panic c, a, w => Q (.panic c) a w
theorem noOut_normal {Q : Exit → Act → World → Prop} {a : Act} {w : World} (h : Q .normal a w) : NoOut Q .normal a w := h
theorem not_letsOut (Q : Exit → Act → World → Prop) : ¬ LetsOut (NoOut Q) := fun ⟨_, _, h⟩ => h

def noDefer (ops : Array Oper) : Bool := ops.all fun o => match o.op with
  | .defer _ => false
  | _ => true
theorem noDefer_spec {ops : Array Oper} (h : noDefer ops = true) {i : Nat} {o : Oper} (ho : ops[i]? = some o) (c : Call) : o.op ≠ .defer c := by
  intro e
  have := Array.all_eq_true_iff_forall_mem.1 h o (Array.mem_of_getElem? ho)
  simp [e] at this

section
variable {P : Program} {ops : Array Oper} {Q : Exit → Act → World → Prop} {md : Region.Mode} {l n : Nat}

theorem rows_in {row : String} {args : Array Value} {w : World} {R : Value → World → Prop} {m : Nat} (h : Rows P row args w R) : RowsIn (Fence.wide.inRound l) m P row args w R := by
  intro c cs _
  obtain ⟨v, w', r, s⟩ := h c cs
  exact ⟨v, w', r, stepsIn_wide.2 s⟩
theorem upon_in {o : Oper} {a : Act} {next : Act → World → Prop} : ∀ (r : Result Next), o.upon P a next (NoOut Q) r → o.uponIn (Fence.wide.inRound l) n P a next Q r
  | .ok (.value v) w', h => h
  | .ok .skip w', h => h
  | .ok (.defer d) w', h => h
  | .ok (.enter f args) w', h => by
    rw [Oper.uponIn_enter]
    refine ⟨fun hd => absurd hd (by simp [Fence.wide]), CallsIn.inRound l (callsIn_wide.2 (Calls.mono h (fun e w'' he => ?_)))⟩
    cases e with
    | returned v => exact he
    | panicked c => exact he
    | outgrown => exact (not_letsOut Q he).elim
  | .ok (.row row args) w', h => by
    rw [Oper.uponIn_row]
    exact ⟨fun hd => absurd hd (by simp [Fence.wide]), rows_in h⟩
  | .ok (.round _ _ _ _ _) w', h => h.elim
  | .halt x w', h => by
    cases x <;> first | exact h | exact h.elim

theorem wpOp_in {i : Nat} {K : Act → World → Prop} {a : Act} {w : World} (hd : noDefer ops = true) (h : wpOp P ops (NoOut Q) i K a w) : wpOpIn (Fence.wide.inRound l) n P ops Q i K a w := by
  unfold wpOp at h
  unfold wpOpIn
  cases ho : ops[i]? with
  | none => rw [ho] at h; exact h
  | some o =>
    simp only [ho] at h ⊢
    split
    · rename_i hw
      rw [if_pos hw] at h
      rcases h with h | ⟨_, h⟩
      · refine ⟨fun _ _ => trivial, ?_⟩
        rw [show (Fence.wide.inRound l).round = some l from rfl, Oper.semAt_eq _ _ _ (noDefer_spec hd ho)]
        exact upon_in _ h
      · exact (not_letsOut Q h).elim
    · rename_i hw
      rw [if_neg hw] at h
      exact ⟨fun _ _ => trivial, h⟩
theorem wpAny_in (hd : noDefer ops = true) : ∀ (fuel : Nat) (listed : Array Bool) (a : Act) (w : World), wpAny P md ops (NoOut Q) fuel listed a w → wpAnyIn (Fence.wide.inRound l) n P md ops Q fuel listed a w
  | 0, _, _, _, h => h
  | fuel + 1, listed, a, w, h => ⟨h.1, fun i hi => wpOpIn_mono (fun a' w' h' => wpAny_in hd fuel _ a' w' h') (wpOp_in hd (h.2 i hi))⟩
/-- A region that draws its order, in a round: by the words for regions that draw (behind it pure_, take_, one_ .. done_). -/
theorem startIn_ {S : World → Prop} {ds : List Nat} {id m : Nat} {a : Act} {w : World} (t : Array Bool) (hm : P.follows .mixedOrders = true) (hd : noDefer ops = true) (hn : ops.size = m) (hl : Array.replicate m false = t) (hS : S w.drew)
    (h : S w.drew → wpAnyLast P .any ops (NoOut Q) S ds m t a w.drew) : (Code.region id ops true).wpIn (Fence.wide.inRound l) n P Q a w := by
  subst hn
  subst hl
  exact wpIn_region_any hm (wpAny_in hd _ _ _ _ (wpAny_of_last _ _ _ _ (h hS)))
end
end Go.Proofs.Ytkcmmghhghgdpaa.Iter
