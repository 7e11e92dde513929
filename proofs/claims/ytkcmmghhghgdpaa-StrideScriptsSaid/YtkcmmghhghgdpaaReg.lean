/- A region that draws its order, shown by an invariant: each operation once, from whatever state in which what it waits for has come up. -/
import Derived.RangeFuncCalls
import Derived.RangeFuncNested
import Derived.OrdersIn
import Derived.Test.YtkcmmghhghgdpaaWLast
import Derived.Test.YtkcmmghhghgdpaaRound
import Derived.Test.YtkcmmghhghgdpaaParts
namespace Go.Proofs.Ytkcmmghhghgdpaa.Iter
open Go.RowKit Go.Proofs.YtkcmmghhghgdpaaW.PrintLast
set_option linter.unusedVariables false
set_option linter.unusedSimpArgs false
section
variable {P : Program} {ops : Array Oper} {Q : Exit → Act → World → Prop}

/-- What operation i waits for. -/
def depsL (ops : Array Oper) (i : Nat) : List Nat := match ops[i]? with
  | some o => (o.after.toList.filter (Region.binds .any)).map (·.on)
  | none => []
/-- Each binding edge goes back. -/
def backB (ops : Array Oper) : Bool := (List.range ops.size).all fun i => (depsL ops i).all fun j => decide (j < i)
def up (d : Nat → Bool) (i j : Nat) : Bool := Nat.beq j i || d j
/-- What is listed is closed. -/
def Cl (ops : Array Oper) (d : Nat → Bool) : Prop := ∀ i, i < ops.size → d i = true → ∀ j ∈ depsL ops i, d j = true
/-- ds: operations that i waits for, some through others of ds. -/
def okDs (ops : Array Oper) (i : Nat) (ds : List Nat) : Bool := ds.all fun j => decide (j < ops.size) && ((depsL ops i).contains j || ds.any fun k => (depsL ops k).contains j)
/-- One operation, from whatever state in which what it waits for has come up. -/
def StepAt (P : Program) (ops : Array Oper) (Q : Exit → Act → World → Prop) (Inv : (Nat → Bool) → Act → World → Prop) (i : Nat) : Prop :=
  ∀ o, ops[i]? = some o → ∀ d a w, Cl ops d → d i = false → (∀ j ∈ depsL ops i, d j = true) → Inv d a w →
    ∀ K : Act → World → Prop, Shut (∀ a' w', Inv (up d i) a' w' → K a' w') → if Region.wanted o (yielded ops a.tmps) = true then Oper.wp P o a w K Q else K (a.put o.dst undef) w
def Steps (P : Program) (ops : Array Oper) (Q : Exit → Act → World → Prop) (Inv : (Nat → Bool) → Act → World → Prop) (n : Nat) : Prop := ∀ i, i < n → StepAt P ops Q Inv i
theorem Steps.zero {Inv : (Nat → Bool) → Act → World → Prop} : Steps P ops Q Inv 0 := fun i h => absurd h (Nat.not_lt_zero i)
theorem Steps.succ {Inv : (Nat → Bool) → Act → World → Prop} {n : Nat} (h : Steps P ops Q Inv n) (hn : StepAt P ops Q Inv n) : Steps P ops Q Inv (n + 1) := fun i hi => by
  rcases Nat.lt_succ_iff_lt_or_eq.1 hi with h1 | rfl
  · exact h i h1
  · exact hn
theorem back_of (hb : backB ops = true) {i j : Nat} (hi : i < ops.size) (hj : j ∈ depsL ops i) : j < i := by
  have h1 := List.all_eq_true.1 (List.all_eq_true.1 hb i (List.mem_range.2 hi)) j hj
  simpa using h1
theorem okDs_spec (hb : backB ops = true) {i : Nat} {ds : List Nat} (h : okDs ops i ds = true) {d : Nat → Bool} (hc : Cl ops d) (hd : ∀ j ∈ depsL ops i, d j = true) : ∀ j ∈ ds, d j = true := by
  have key : ∀ m j, j ∈ ds → ops.size - j ≤ m → d j = true := by
    intro m
    induction m with
    | zero =>
      intro j hj hm
      have := List.all_eq_true.1 h j hj
      simp at this
      omega
    | succ m ih =>
      intro j hj hm
      have h1 := List.all_eq_true.1 h j hj
      simp only [Bool.and_eq_true, decide_eq_true_eq, Bool.or_eq_true, List.contains_iff_mem, List.any_eq_true] at h1
      rcases h1.2 with h2 | ⟨k, hk, h2⟩
      · exact hd j h2
      · have hk' := List.all_eq_true.1 h k hk
        simp only [Bool.and_eq_true, decide_eq_true_eq] at hk'
        have := back_of hb hk'.1 h2
        exact hc k hk'.1 (ih k hk (by omega)) j h2
  exact fun j hj => key _ j hj (Nat.le_refl _)
/-- es: operations that wait for i, some through others of es. -/
def okEs (ops : Array Oper) (i : Nat) (es : List Nat) : Bool := es.all fun k => decide (k < ops.size) && ((depsL ops k).contains i || es.any fun m => (depsL ops k).contains m)
theorem okEs_spec (hb : backB ops = true) {i : Nat} {es : List Nat} (h : okEs ops i es = true) {d : Nat → Bool} (hc : Cl ops d) (hd : d i = false) : ∀ j ∈ es, d j = false := by
  intro j
  induction j using Nat.strongRecOn with
  | _ j ih =>
    intro hj
    have h1 := List.all_eq_true.1 h j hj
    simp only [Bool.and_eq_true, decide_eq_true_eq, Bool.or_eq_true, List.contains_iff_mem, List.any_eq_true] at h1
    cases hdj : d j with
    | false => rfl
    | true =>
      rcases h1.2 with h2 | ⟨m, hm, h2⟩
      · have := hc j h1.1 hdj i h2
        rw [hd] at this
        cases this
      · have := hc j h1.1 hdj m h2
        rw [ih m (back_of hb h1.1 h2) hm] at this
        cases this
theorem stepAt {Inv : (Nat → Bool) → Act → World → Prop} {i : Nat} {o : Oper} {N : Option Tmp} (hb : backB ops = true) (ho : ops[i]? = some o) (hN : o.dst = N) (ds es : List Nat) (hd : (okDs ops i ds && okEs ops i es) = true)
    (h : ∀ d a w, (∀ j ∈ ds, d j = true) → (∀ j ∈ i :: es, d j = false) → Inv d a w → ∀ K : Act → World → Prop, Shut (∀ a' w', Inv (up d i) a' w' → K a' w') → if Region.wanted o (yielded ops a.tmps) = true then Oper.wp P o a w K Q else K (a.put N undef) w) : StepAt P ops Q Inv i := by
  intro o' ho' d a w hc hi hj hI K hK
  obtain rfl : o = o' := Option.some.inj (ho.symm.trans ho')
  subst hN
  rw [Bool.and_eq_true] at hd
  exact h d a w (okDs_spec hb hd.1 hc hj) (fun j h' => (List.mem_cons.1 h').elim (fun e => e ▸ hi) (fun h' => okEs_spec hb hd.2 hc hi j h')) hI K hK
theorem no_of {d : Nat → Bool} {es : List Nat} (h : ∀ j ∈ es, d j = false) {p : Prop} (k : Nat) (hk : k ∈ es) (hd : d k = true) : p := by
  rw [h k hk] at hd
  cases hd
theorem no_start {n : Nat} {d : Nat → Bool} (h : ∀ j, j < n → d j = false) {p : Prop} (k : Nat) (hk : k < n) (hd : d k = true) : p := by
  rw [h k hk] at hd
  cases hd

theorem ready_ne {listed : Array Bool} (hb : backB ops = true) (hs : listed.size = ops.size) (hr : Region.ready .any ops listed = []) : ∀ i, i < ops.size → listed.getD i true = true := by
  intro i
  induction i using Nat.strongRecOn with
  | _ i ih =>
    intro hi
    cases hl : listed.getD i true with
    | true => rfl
    | false =>
      have : i ∈ Region.ready .any ops listed := by
        refine mem_ready.2 ⟨hl, ops[i], Array.getElem?_eq_getElem hi, ?_⟩
        intro e he hbd
        have h1 := List.all_eq_true.1 hb i (List.mem_range.2 hi)
        have hlt : e.on < i := by
          have h2 := List.all_eq_true.1 h1 e.on (by
            unfold depsL
            rw [Array.getElem?_eq_getElem hi]
            exact List.mem_map.2 ⟨e, List.mem_filter.2 ⟨by simpa using he, hbd⟩, rfl⟩)
          simpa using h2
        have h3 := ih e.on hlt (by omega)
        have hsz : e.on < listed.size := by omega
        simpa [hsz] using h3
      rw [hr] at this
      cases this

theorem count_set : ∀ (l : List Bool) (i : Nat), l[i]? = some false → (l.set i true).count false + 1 = l.count false
  | [], i, h => by simp at h
  | b :: l, 0, h => by simp at h; subst h; simp
  | b :: l, i + 1, h => by
    have := count_set l i (by simpa using h)
    cases b <;> simp <;> omega

theorem wpAny_inv (Inv : (Nat → Bool) → Act → World → Prop) (hb : backB ops = true) (hst : Steps P ops Q Inv ops.size)
    (hfin : ∀ d a w, (∀ i, i < ops.size → d i = true) → Inv d a w → Q .normal a w) :
    ∀ (fuel : Nat) (listed : Array Bool) (a : Act) (w : World), listed.size = ops.size → listed.toList.count false ≤ fuel → Cl ops (fun j => listed.getD j true) → Inv (fun j => listed.getD j true) a w → wpAny P .any ops Q fuel listed a w := by
  intro fuel
  induction fuel with
  | zero =>
    intro listed a w hs hc hcl hI
    have hr : Region.ready .any ops listed = [] := by
      rw [List.eq_nil_iff_forall_not_mem]
      intro i hi
      obtain ⟨h1, o, ho, _⟩ := mem_ready.1 hi
      have hlt : i < listed.size := by rw [hs]; exact (Array.getElem?_eq_some_iff.1 ho).1
      have : false ∈ listed.toList := by
        rw [List.mem_iff_getElem]
        refine ⟨i, by simpa using hlt, ?_⟩
        simpa [hlt] using h1
      have := List.count_pos_iff.2 this
      omega
    exact ⟨hr, hfin _ a w (ready_ne hb hs hr) hI⟩
  | succ fuel ih =>
    intro listed a w hs hc hcl hI
    refine ⟨fun hr => hfin _ a w (ready_ne hb hs hr) hI, fun i hi => ?_⟩
    obtain ⟨h1, o, ho, hall⟩ := mem_ready.1 hi
    have hlt : i < ops.size := (Array.getElem?_eq_some_iff.1 ho).1
    have hlt' : i < listed.size := by omega
    refine wpOp_step ho (fun K hK => ?_)
    have hdep : ∀ j ∈ depsL ops i, listed.getD j true = true := by
      intro j hj
      unfold depsL at hj
      rw [ho] at hj
      obtain ⟨e, he, rfl⟩ := List.mem_map.1 hj
      obtain ⟨he1, he2⟩ := List.mem_filter.1 he
      have h3 := hall e (by simpa using he1) he2
      by_cases hsz : e.on < listed.size
      · simpa [hsz] using h3
      · simp [hsz]
    have hup : (fun j => (listed.setIfInBounds i true).getD j true) = up (fun j => listed.getD j true) i := by
      funext j
      by_cases hji : j = i
      · subst hji
        simp [up, hlt']
      · have : Nat.beq j i = false := by
          cases hb' : Nat.beq j i with
          | false => rfl
          | true => exact absurd (Nat.eq_of_beq_eq_true hb') hji
        rw [up, this, Bool.false_or]
        simp only [Array.getD_eq_getD_getElem?]
        rw [Array.getElem?_setIfInBounds_ne (by omega)]
    refine hst i hlt o ho (fun j => listed.getD j true) a w hcl h1 hdep hI K (fun a' w' hI' => hK a' w' (ih _ a' w' (by simpa using hs) ?_ ?_ ?_))
    · have := count_set listed.toList i (by simp [hlt'] at h1 ⊢; exact h1)
      rw [Array.toList_setIfInBounds]
      omega
    · rw [hup]
      intro k hk hdk j hj
      unfold up at hdk ⊢
      by_cases hki : k = i
      · subst hki
        show (_ || listed.getD j true) = true
        rw [hdep j hj, Bool.or_true]
      · have hn : Nat.beq k i = false := by
          cases hb' : Nat.beq k i with
          | false => rfl
          | true => exact absurd (Nat.eq_of_beq_eq_true hb') hki
        rw [hn, Bool.false_or] at hdk
        show (_ || listed.getD j true) = true
        rw [show listed.getD j true = true from hcl k hk hdk j hj, Bool.or_true]
    · rw [hup]
      exact hI'

/-- The region's law. -/
theorem regInv {id n : Nat} {a : Act} {w : World} (Inv : (Nat → Bool) → Act → World → Prop) (hm : P.follows .mixedOrders = true) (hn : ops.size = n) (hb : backB ops = true)
    (h0 : ∀ d : Nat → Bool, (∀ i, i < n → d i = false) → Inv d a w.drew) (hst : Steps P ops Q Inv n) (hfin : ∀ d a w, (∀ i, i < n → d i = true) → Inv d a w → Q .normal a w) : (Code.region id ops true).wp P Q a w := by
  subst hn
  refine wp_region_any hm (wpAny_inv Inv hb hst hfin _ _ _ _ (by simp) (by simp) (fun i hi h => by simp [hi] at h) (h0 _ (fun i hi => by simp [hi])))
/-- The same in a round. -/
theorem regInvIn {id n m l : Nat} {a : Act} {w : World} (Inv : (Nat → Bool) → Act → World → Prop) (hm : P.follows .mixedOrders = true) (hd : noDefer ops = true) (hn : ops.size = n) (hb : backB ops = true)
    (h0 : ∀ d : Nat → Bool, (∀ i, i < n → d i = false) → Inv d a w.drew) (hst : Steps P ops (NoOut Q) Inv n) (hfin : ∀ d a w, (∀ i, i < n → d i = true) → Inv d a w → Q .normal a w) : (Code.region id ops true).wpIn (Fence.wide.inRound l) m P Q a w := by
  subst hn
  exact wpIn_region_any hm (wpAny_in hd _ _ _ _ (wpAny_inv (Q := NoOut Q) Inv hb hst (fun d a w h1 h2 => noOut_normal (hfin d a w h1 h2)) _ _ _ _ (by simp) (by simp) (fun i hi h => by simp [hi] at h) (h0 _ (fun i hi => by simp [hi]))))
end
section
/-- What is put in at i. -/
def upd (z : Nat → Value) (i : Nat) (v : Value) (k : Nat) : Value := cond (Nat.beq k i) v (z k)
theorem upd_self (z : Nat → Value) (i : Nat) (v : Value) : upd z i v i = v := by
  have : Nat.beq i i = true := by simp
  simp [upd, this]
theorem upd_ne {z : Nat → Value} {i k : Nat} (h : Nat.beq k i = false) (v : Value) : upd z i v k = z k := by simp [upd, h]
theorem beq_false {k i : Nat} (h : ¬ k = i) : Nat.beq k i = false := by
  cases hb : Nat.beq k i with
  | false => rfl
  | true => exact absurd (Nat.eq_of_beq_eq_true hb) h
/-- What has come up holds what is told. -/
def Vals (vals : List (Option Value)) (d : Nat → Bool) (z : Nat → Value) : Prop := ∀ i v, vals[i]? = some (some v) → d i = true → z i = v
theorem Vals.put {vals : List (Option Value)} {d : Nat → Bool} {z : Nat → Value} {i : Nat} {v : Value} (h : Vals vals d z) (hi : ∀ u, vals[i]? = some (some u) → v = u) : Vals vals (up d i) (upd z i v) := by
  intro k u hk hd
  by_cases hki : k = i
  · subst hki
    rw [upd_self]
    exact hi u hk
  · rw [upd_ne (beq_false hki)]
    refine h k u hk ?_
    rw [up, beq_false hki, Bool.false_or] at hd
    exact hd
theorem Vals.skip {vals : List (Option Value)} {d : Nat → Bool} {z : Nat → Value} {i : Nat} (h : Vals vals d z) (hi : vals[i]? = some none) : Vals vals (up d i) z := by
  intro k u hk hd
  by_cases hki : k = i
  · subst hki
    rw [hi] at hk
    cases hk
  · refine h k u hk ?_
    rw [up, beq_false hki, Bool.false_or] at hd
    exact hd
theorem Vals.start {vals : List (Option Value)} {d : Nat → Bool} {z : Nat → Value} {n : Nat} (hl : vals.length ≤ n) (h : ∀ i, i < n → d i = false) : Vals vals d z := by
  intro k u hk hd
  have := (List.getElem?_eq_some_iff.1 hk).1
  rw [h k (by omega)] at hd
  cases hd
/-- Operation i has made a block; operation s writes it. -/
def New (d : Nat → Bool) (z : Nat → Value) (w : World) (lo i s : Nat) (v : Nat → Value) (t : TypeId) (cs : Bool → Array Value) : Prop := d i = true → ∃ g, z i = v g ∧ lo ≤ g ∧ Blk w g t (cs (d s))
variable {d : Nat → Bool} {z : Nat → Value} {w w' : World} {lo i s k : Nat} {v : Nat → Value} {t : TypeId} {cs : Bool → Array Value}
theorem New.start {n : Nat} (hi : i < n) (h : ∀ i, i < n → d i = false) : New d z w lo i s v t cs := fun hd => by
  rw [h i hi] at hd
  cases hd
theorem up_ne {d : Nat → Bool} {i k : Nat} (h : Nat.beq k i = false) : up d i k = d k := by rw [up, h, Bool.false_or]
theorem up_self {d : Nat → Bool} {i : Nat} : up d i i = true := by
  have : Nat.beq i i = true := by simp
  rw [up, this, Bool.true_or]
theorem New.put (h : New d z w lo i s v t cs) (hk : (Nat.beq i k || Nat.beq s k) = false) (hb : Below w.heap.size w w') (u : Value) : New (up d k) (upd z k u) w' lo i s v t cs := fun hd => by
  rw [Bool.or_eq_false_iff] at hk
  rw [up_ne hk.1] at hd
  obtain ⟨g, h1, h2, h3⟩ := h hd
  exact ⟨g, by rw [upd_ne hk.1]; exact h1, h2, by rw [up_ne hk.2]; exact h3.below hb h3.lt⟩
theorem New.skip (h : New d z w lo i s v t cs) (hk : (Nat.beq i k || Nat.beq s k) = false) {p : Addr} {u : Value} (hp : ∀ g, z i = v g → lo ≤ g → d i = true → g ≠ p.block) : New (up d k) z (w.setCell p u) lo i s v t cs := fun hd => by
  rw [Bool.or_eq_false_iff] at hk
  rw [up_ne hk.1] at hd
  obtain ⟨g, h1, h2, h3⟩ := h hd
  exact ⟨g, h1, h2, by rw [up_ne hk.2]; exact h3.other (hp g h1 h2 hd) u⟩
theorem New.also (h : New d z w lo i s v t cs) {p : Addr} {u : Value} (hp : ∀ g, z i = v g → lo ≤ g → d i = true → g ≠ p.block) : New d z (w.setCell p u) lo i s v t cs := fun hd => by
  obtain ⟨g, h1, h2, h3⟩ := h hd
  exact ⟨g, h1, h2, h3.other (hp g h1 h2 hd) u⟩
theorem New.mk {g : Nat} (hg : lo ≤ g) (hb : Blk w g t (cs (up d i s))) : New (up d i) (upd z i (v g)) w lo i s v t cs := fun _ => ⟨g, upd_self _ _ _, hg, hb⟩
theorem wanted_on {ops : Array Oper} {o : Oper} {tmps : Array Value} {g : Nat} {b : Bool} {t : Tmp} (hg : o.guard = some (g, b)) (ht : (ops[g]?).bind (·.dst) = some t) (hz : tmps[t]? = some (.bool b)) : Region.wanted o (yielded ops tmps) = true := by
  simp [Region.wanted, hg, yielded, ht, hz]
theorem wanted_off {ops : Array Oper} {o : Oper} {tmps : Array Value} {g : Nat} {b : Bool} {t : Tmp} (hg : o.guard = some (g, !b)) (ht : (ops[g]?).bind (·.dst) = some t) (hz : tmps[t]? = some (.bool b)) : Region.wanted o (yielded ops tmps) = false := by
  cases b <;> simp [Region.wanted, hg, yielded, ht, hz]
end
end Go.Proofs.Ytkcmmghhghgdpaa.Iter
