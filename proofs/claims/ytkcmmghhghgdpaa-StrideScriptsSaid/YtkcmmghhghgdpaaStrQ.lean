/- Plain laws: clients that all begin at nought; counts. -/
import Derived.Test.YtkcmmghhghgdpaaStrP
namespace Go.Proofs.Ytkcmmghhghgdpaa.Str
set_option linter.unusedVariables false
set_option linter.unusedSimpArgs false
/-- Clients with these tickets, all at nought. -/
def mkFrom (j : Nat) : List Int → List Cl
  | [] => []
  | t :: ts => ⟨(j : Int), t, 0⟩ :: mkFrom (j + 1) ts
theorem mk_len : ∀ (ts : List Int) (j : Nat), (mkFrom j ts).length = ts.length
  | [], _ => rfl
  | t :: ts, j => by rw [mkFrom, List.length_cons, mk_len ts, List.length_cons]
theorem mk_snoc : ∀ (ts : List Int) (j : Nat) (t : Int), mkFrom j (ts ++ [t]) = mkFrom j ts ++ [⟨((j + ts.length : Nat) : Int), t, 0⟩]
  | [], j, t => by simp [mkFrom]
  | s :: ts, j, t => by
    rw [List.cons_append, mkFrom, mkFrom, mk_snoc ts, List.cons_append, List.length_cons, show j + 1 + ts.length = j + (ts.length + 1) by omega]
theorem mk_get : ∀ (ts : List Int) (j i : Nat) (t : Int), ts[i]? = some t → (mkFrom j ts)[i]? = some ⟨((j + i : Nat) : Int), t, 0⟩
  | [], _, i, t, h => by simp at h
  | s :: ts, j, 0, t, h => by simp at h; subst h; rfl
  | s :: ts, j, i + 1, t, h => by
    rw [mkFrom, List.getElem?_cons_succ, mk_get ts (j + 1) i t (by simpa using h), show j + 1 + i = j + (i + 1) by omega]
theorem mk_mem : ∀ {ts : List Int} {j : Nat} {c : Cl}, c ∈ mkFrom j ts → c.p = 0 ∧ c.t ∈ ts ∧ (j : Int) ≤ c.id ∧ c.id < ((j + ts.length : Nat) : Int)
  | [], j, c, h => by cases h
  | t :: ts, j, c, h => by
    rcases List.mem_cons.1 h with rfl | h
    · exact ⟨rfl, List.mem_cons_self, Int.le_refl _, by rw [List.length_cons]; show (j : Int) < _; omega⟩
    · obtain ⟨h1, h2, h3, h4⟩ := mk_mem h
      exact ⟨h1, List.mem_cons_of_mem _ h2, by omega, by rw [List.length_cons]; omega⟩
theorem mk_sum : ∀ (ts : List Int) (j : Nat), sumT (mkFrom j ts) = ts.sum
  | [], _ => rfl
  | t :: ts, j => by
    have := mk_sum ts (j + 1)
    unfold sumT at this ⊢
    rw [mkFrom, List.map_cons, List.sum_cons, List.sum_cons, this]
theorem lb_all {id : Int} : ∀ {l : List Cl}, (∀ c ∈ l, c.id < id) → lb id l = l.length
  | [], _ => rfl
  | c :: l, h => by
    have := lb_all (id := id) (l := l) (fun d hd => h d (List.mem_cons_of_mem _ hd))
    unfold lb at this ⊢
    rw [List.takeWhile_cons, if_pos (by simpa using h c List.mem_cons_self), List.length_cons, this, List.length_cons]
theorem has_not {id : Int} {l : List Cl} (h : ∀ c ∈ l, c.id < id) : hasL id l = false := by
  unfold hasL
  rw [List.any_eq_false]
  intro c hc e
  have := h c hc
  rw [beq_iff_eq] at e
  omega
theorem ins_last {c : Cl} {l : List Cl} (h : ∀ d ∈ l, d.id < c.id) : insL c l = l ++ [c] := by
  rw [← ins_eq c l (has_not h), lb_all h, List.take_of_length_le (Nat.le_refl _), List.drop_of_length_le (Nat.le_refl _)]
/-- One joins. -/
theorem mk_join (ts : List Int) (t : Int) (h1 : 1 ≤ t) (h2 : t ≤ 16) (hn : ts.length ≤ 1000) : joinL (mkFrom 0 ts) (ts.length : Int) t 0 = (mkFrom 0 (ts ++ [t]), 0) := by
  have hlt : ∀ c ∈ mkFrom 0 ts, c.id < (ts.length : Int) := fun c hc => by have := (mk_mem hc).2.2.2; omega
  unfold joinL
  rw [if_neg (by rw [has_not hlt]; simp), if_neg (by have := sd_nonneg h1 h2; omega), if_neg (by rw [mk_len]; omega), ins_last hlt, mk_snoc, Nat.zero_add]
  rw [level_zero]
  refine least_zero (fun c hc => ?_) ⟨_, List.mem_append_right _ (List.mem_singleton.2 rfl), rfl⟩
  rcases List.mem_append.1 hc with h | h
  · rw [(mk_mem h).1]; exact Int.le_refl _
  · rw [List.mem_singleton.1 h]; exact Int.le_refl _
theorem mk_good (ts : List Int) (h : ∀ t ∈ ts, 1 ≤ t ∧ t ≤ 16) (hn : ts.length ≤ 100) : GoodG (mkFrom 0 ts) := by
  refine ⟨⟨fun c hc => ?_, fun hne => ?_, ?_⟩, ?_, by rw [mk_len]; omega⟩
  · obtain ⟨e1, e2, _⟩ := mk_mem hc
    have := h _ e2
    have := sd_nonneg this.1 this.2
    unfold okCl
    omega
  · obtain ⟨c, hc⟩ := List.exists_mem_of_ne_nil _ hne
    exact ⟨c, hc, (mk_mem hc).1⟩
  · intro i j c d hc hd e
    have hi : i < ts.length := by rw [← mk_len ts 0]; exact (List.getElem?_eq_some_iff.1 hc).1
    have hj : j < ts.length := by rw [← mk_len ts 0]; exact (List.getElem?_eq_some_iff.1 hd).1
    rw [mk_get ts 0 i ts[i] (List.getElem?_eq_getElem hi)] at hc
    rw [mk_get ts 0 j ts[j] (List.getElem?_eq_getElem hj)] at hd
    obtain rfl := Option.some.inj hc
    obtain rfl := Option.some.inj hd
    simp only at e
    omega
  · unfold Sorted
    rw [List.pairwise_iff_getElem]
    intro i j hi hj hij
    rw [mk_len] at hi hj
    have h1 := mk_get ts 0 i ts[i] (List.getElem?_eq_getElem hi)
    have h2 := mk_get ts 0 j ts[j] (List.getElem?_eq_getElem hj)
    rw [List.getElem?_eq_getElem (by rw [mk_len]; exact hi)] at h1
    rw [List.getElem?_eq_getElem (by rw [mk_len]; exact hj)] at h2
    rw [Option.some.inj h1, Option.some.inj h2]
    show ((0 + i : Nat) : Int) < ((0 + j : Nat) : Int)
    omega
/-- How often each of 0 to n - 1 is among x. -/
def cntUp (n : Nat) (x : List Int) : List Int := (List.range n).map fun (j : Nat) => cnt (j : Int) x
theorem cntUp_len (n : Nat) (x : List Int) : (cntUp n x).length = n := by simp [cntUp]
theorem cntUp_get (n : Nat) (x : List Int) (j : Nat) (h : j < n) : (cntUp n x)[j]? = some (cnt (j : Int) x) := by
  unfold cntUp
  rw [List.getElem?_map, List.getElem?_range h]
  rfl
theorem cntUp_nil (n : Nat) : cntUp n [] = List.replicate n 0 := by
  apply List.ext_getElem?
  intro i
  by_cases hi : i < n
  · rw [cntUp_get _ _ i hi, List.getElem?_replicate, if_pos hi]; rfl
  · rw [List.getElem?_eq_none (by rw [cntUp_len]; omega), List.getElem?_eq_none (by rw [List.length_replicate]; omega)]
theorem cnt_snoc (id z : Int) (x : List Int) : cnt id (x ++ [z]) = cnt id x + (if z = id then 1 else 0) := by
  unfold cnt
  rw [List.filter_append]
  by_cases e : z = id
  · simp [e]
  · simp [e]
theorem cntUp_snoc (n : Nat) (x : List Int) (k : Nat) (h : k < n) : cntUp n (x ++ [(k : Int)]) = (cntUp n x).set k (cnt (k : Int) x + 1) := by
  apply List.ext_getElem?
  intro i
  by_cases hi : i < n
  · rw [cntUp_get n _ i hi, cnt_snoc, List.getElem?_set]
    by_cases e : k = i
    · subst e
      simp [cntUp_len, h]
    · rw [if_neg e, cntUp_get n x i hi, if_neg (by omega), Int.add_zero]
  · rw [List.getElem?_eq_none (by rw [cntUp_len]; omega), List.getElem?_eq_none (by rw [List.length_set, cntUp_len]; omega)]
theorem cnt_nonneg (id : Int) (x : List Int) : 0 ≤ cnt id x := Int.natCast_nonneg _
theorem cnt_le (id : Int) (x : List Int) : cnt id x ≤ x.length := by unfold cnt; exact_mod_cast List.length_filter_le _ _
/-- P9.3, as the law tells it. -/
theorem mk_rounds (ts : List Int) (h : ∀ t ∈ ts, 1 ≤ t ∧ t ≤ 16) (hn : ts.length ≤ 100) (hne : ts ≠ []) {n : Nat} (hs : ts.sum = (n : Int)) :
    (runL n (mkFrom 0 ts)).1 = mkFrom 0 ts ∧ cntUp ts.length (runL n (mkFrom 0 ts)).2 = ts ∧ (∀ z ∈ (runL n (mkFrom 0 ts)).2, 0 ≤ z ∧ z < (ts.length : Int)) ∧ (runL n (mkFrom 0 ts)).2.length = n := by
  have hg := mk_good ts h hn
  have hne2 : mkFrom 0 ts ≠ [] := by intro e; have := mk_len ts 0; rw [e] at this; exact hne (List.length_eq_zero_iff.1 this.symm)
  obtain ⟨r1, r2⟩ := rounds hg.1 hne2 (fun c hc => (mk_mem hc).1) (n := n) (by rw [mk_sum]; exact hs)
  obtain ⟨_, s2, s3, _⟩ := run_spec n _ hg.1 hne2
  refine ⟨r2, ?_, fun z hz => ?_, s2⟩
  · apply List.ext_getElem?
    intro i
    by_cases hi : i < ts.length
    · rw [cntUp_get _ _ i hi, List.getElem?_eq_getElem hi]
      have hc := mk_get ts 0 i ts[i] (List.getElem?_eq_getElem hi)
      have := r1 _ (List.mem_of_getElem? hc)
      simp only [Nat.zero_add] at this
      rw [this]
    · rw [List.getElem?_eq_none (by rw [cntUp_len]; omega), List.getElem?_eq_none (by omega)]
  · obtain ⟨c, hc, rfl⟩ := s3 z hz
    have := mk_mem hc
    omega
theorem sum_take (ts : List Int) (i : Nat) (t : Int) (h : ts[i]? = some t) : (ts.take (i + 1)).sum = (ts.take i).sum + t := by
  rw [List.take_add_one, h]
  simp
theorem sum_bound : ∀ (ts : List Int), (∀ t ∈ ts, 1 ≤ t ∧ t ≤ 16) → 0 ≤ ts.sum ∧ ts.sum ≤ 16 * ts.length ∧ (ts.length : Int) ≤ ts.sum
  | [], _ => ⟨by simp, by simp, by simp⟩
  | t :: ts, h => by
    have h1 := h t List.mem_cons_self
    have h2 := sum_bound ts (fun s hs => h s (List.mem_cons_of_mem _ hs))
    rw [List.sum_cons, List.length_cons]
    omega
end Go.Proofs.Ytkcmmghhghgdpaa.Str
