/- Plain laws: the document's calls; the quanta of a run one by one. -/
import Derived.Test.YtkcmmghhghgdpaaStrR
namespace Go.Proofs.Ytkcmmghhghgdpaa.Str
set_option linter.unusedVariables false
set_option linter.unusedSimpArgs false
/-- Where the document finds a client. -/
def placeL (l : List Cl) (id : Int) : Int := if hasL id l = true then (lb id l : Int) else -1
theorem place_at {l : List Cl} {id : Int} {i : Nat} {c : Cl} (hs : Sorted l) (hc : l[i]? = some c) (he : c.id = id) : placeL l id = (i : Int) := by
  have hh : hasL id l = true := List.any_eq_true.2 ⟨c, List.mem_of_getElem? hc, by simp [he]⟩
  unfold placeL
  rw [if_pos hh]
  have h1 := lb_upper hc (show id ≤ c.id by omega)
  have h2 : ¬ lb id l < i := fun hlt => by
    obtain ⟨d, hd, hde⟩ := has_get hs hh
    obtain ⟨k1, e1⟩ := List.getElem?_eq_some_iff.1 hd
    obtain ⟨k2, e2⟩ := List.getElem?_eq_some_iff.1 hc
    have := (List.pairwise_iff_getElem.1 hs) _ _ k1 k2 hlt
    rw [e1, e2] at this
    omega
  omega
theorem place_none {l : List Cl} {id : Int} (h : ∀ (j : Nat) (c : Cl), l[j]? = some c → c.id ≠ id) : placeL l id = -1 := by
  unfold placeL
  rw [if_neg]
  intro hh
  obtain ⟨c, hc, he⟩ := List.any_eq_true.1 hh
  obtain ⟨j, hj⟩ := List.mem_iff_getElem?.1 hc
  exact h j c hj (by simpa using he)
/-- The document's least. -/
theorem minF_least {l : List Cl} {c : Cl} (hc : c ∈ l) : minF c.p l = leastP l := by
  obtain ⟨h1, h2⟩ := minF_le l c.p
  obtain ⟨d, hd, he⟩ := least_mem (show l ≠ [] by intro e; rw [e] at hc; cases hc)
  have h3 := minF_ge l c.p (leastP l) (least_le hc) (fun x hx => least_le hx)
  have h4 := h2 d hd
  omega
theorem level_take {l : List Cl} {i : Nat} {c : Cl} (hc : l[i]? = some c) : (levelL l).take (i + 1) = (levelL l).take i ++ [⟨c.id, c.t, c.p - leastP l⟩] := by
  rw [List.take_add_one]
  unfold levelL
  rw [List.getElem?_map, hc]
  rfl
/-- The document's Join, client by client. -/
def jst (n : Cl) (s : Bool × List Cl) (c : Cl) : Bool × List Cl := if s.1 = false ∧ n.id < c.id then (true, (s.2 ++ [n]) ++ [c]) else (s.1, s.2 ++ [c])
def jF (n : Cl) (l : List Cl) : Bool × List Cl := l.foldl (jst n) (false, [])
theorem jF_take (n : Cl) (l : List Cl) (i : Nat) (c : Cl) (hc : l[i]? = some c) : jF n (l.take (i + 1)) = jst n (jF n (l.take i)) c := by
  unfold jF
  rw [List.take_add_one, hc, List.foldl_append]
  rfl
def jEnd (n : Cl) (s : Bool × List Cl) : List Cl := if s.1 = true then s.2 else s.2 ++ [n]
theorem jst_true (n : Cl) : ∀ (l acc : List Cl), l.foldl (jst n) (true, acc) = (true, acc ++ l)
  | [], acc => by simp
  | c :: l, acc => by
    rw [List.foldl_cons, show jst n (true, acc) c = (true, acc ++ [c]) from if_neg (by simp), jst_true n l]
    simp
theorem jst_false (n : Cl) : ∀ (l acc : List Cl), jEnd n (l.foldl (jst n) (false, acc)) = acc ++ insL n l
  | [], acc => rfl
  | c :: l, acc => by
    rw [List.foldl_cons]
    by_cases h : n.id < c.id
    · rw [show jst n (false, acc) c = (true, (acc ++ [n]) ++ [c]) from if_pos ⟨rfl, h⟩, jst_true n l]
      unfold jEnd
      rw [if_pos rfl]
      unfold insL
      rw [if_pos h]
      simp
    · rw [show jst n (false, acc) c = (false, acc ++ [c]) from if_neg (by simp [h]), jst_false n l]
      conv => rhs; unfold insL
      rw [if_neg h]
      simp
theorem jF_end (n : Cl) (l : List Cl) : jEnd n (jF n l) = insL n l := by unfold jF; rw [jst_false]; simp
theorem jst_len (n : Cl) (s : Bool × List Cl) (c : Cl) : (jst n s c).2.length ≤ s.2.length + 2 := by
  unfold jst
  split <;> simp
theorem jF_len' (n : Cl) : ∀ (l : List Cl) (s : Bool × List Cl), (l.foldl (jst n) s).2.length ≤ s.2.length + 2 * l.length
  | [], s => by simp
  | c :: l, s => by
    rw [List.foldl_cons, List.length_cons]
    have h1 := jF_len' n l (jst n s c)
    have h2 := jst_len n s c
    omega
theorem jF_len (n : Cl) (l : List Cl) : (jF n l).2.length ≤ 2 * l.length := by
  have := jF_len' n l (false, [])
  simpa [jF] using this
/-- The document's Leave. -/
def outL (id : Int) (l : List Cl) : List Cl := l.filter fun c => !(c.id == id)
theorem out_take (id : Int) (l : List Cl) (i : Nat) (c : Cl) (hc : l[i]? = some c) : outL id (l.take (i + 1)) = if c.id = id then outL id (l.take i) else outL id (l.take i) ++ [c] := by
  unfold outL
  rw [List.take_add_one, hc, List.filter_append]
  by_cases h : c.id = id
  · rw [if_pos h]
    simp [h]
  · rw [if_neg h]
    simp [h]
theorem out_self {id : Int} : ∀ {l : List Cl}, (∀ c ∈ l, c.id ≠ id) → outL id l = l := fun {l} h => by
  unfold outL
  rw [List.filter_eq_self]
  intro c hc
  simpa using h c hc
theorem out_len (id : Int) (l : List Cl) : (outL id l).length ≤ l.length := List.length_filter_le _ _
theorem out_erase {id : Int} {l : List Cl} (hs : Sorted l) (hh : hasL id l = true) : outL id l = l.eraseIdx (lb id l) := by
  obtain ⟨c, hc, he⟩ := has_get hs hh
  obtain ⟨hlt, e⟩ := List.getElem?_eq_some_iff.1 hc
  have hno := erase_has hs hh
  have hsplit : l = l.take (lb id l) ++ c :: l.drop (lb id l + 1) := by
    conv => lhs; rw [← List.take_append_drop (lb id l) l, List.drop_eq_getElem_cons hlt, e]
  rw [List.eraseIdx_eq_take_drop_succ] at hno ⊢
  have hno' : ∀ d ∈ l.take (lb id l) ++ l.drop (lb id l + 1), d.id ≠ id := fun d hd hde => by
    have : hasL id (l.take (lb id l) ++ l.drop (lb id l + 1)) = true := List.any_eq_true.2 ⟨d, hd, by simp [hde]⟩
    rw [hno] at this
    cases this
  have h2 : outL id l = outL id (l.take (lb id l)) ++ outL id (l.drop (lb id l + 1)) := by
    conv => lhs; rw [hsplit]
    unfold outL
    rw [List.filter_append, List.filter_cons]
    simp [he]
  rw [h2, out_self (fun d hd => hno' d (List.mem_append_left _ hd)), out_self (fun d hd => hno' d (List.mem_append_right _ hd))]
/-- The document's Change. -/
theorem change_set {l : List Cl} {id t : Int} {i : Nat} {c : Cl} (hc : l[i]? = some c) (he : c.id = id) : l.modify i (changeC t) = l.set i ⟨id, t, c.p * c.t / t⟩ := by
  apply List.ext_getElem?
  intro j
  rw [List.getElem?_modify, List.getElem?_set]
  by_cases h : i = j
  · subst h
    have hlt := (List.getElem?_eq_some_iff.1 hc).1
    rw [if_pos rfl, if_pos hlt, hc]
    simp [changeC, he]
  · rw [if_neg h]
    simp only [if_neg h]
    cases l[j]? <;> rfl
theorem has_place {l : List Cl} {id : Int} : hasL id l = true ↔ 0 ≤ placeL l id := by
  unfold placeL
  by_cases h : hasL id l = true
  · rw [if_pos h]; simp [h]
  · rw [if_neg h]; simp [h]
/-- The quantum number j of a run. -/
theorem run_at (l : List Cl) (n j : Nat) (h : j < n) : (runL n l).2[j]? = some (pickL (runL j l).1).2 := by
  obtain ⟨m, rfl⟩ : ∃ m, n = j + (m + 1) := ⟨n - j - 1, by omega⟩
  have hl : ∀ (j : Nat) (l : List Cl), (runL j l).2.length = j := fun j => by
    induction j with
    | zero => intro l; rfl
    | succ k ih => intro l; show ((pickL l).2 :: (runL k (pickL l).1).2).length = _; rw [List.length_cons, ih]
  rw [run_app j (m + 1), List.getElem?_append_right (by rw [hl]; omega), hl, Nat.sub_self]
  rfl
theorem run_one (l : List Cl) (j : Nat) : (runL (j + 1) l).1 = (pickL (runL j l).1).1 := by rw [run_app j 1]; rfl
theorem run_len2 : ∀ (j : Nat) (l : List Cl), (runL j l).2.length = j
  | 0, _ => rfl
  | k + 1, l => by show ((pickL l).2 :: (runL k (pickL l).1).2).length = _; rw [List.length_cons, run_len2 k]
/-- Where a client was seen among the first i. -/
def atI (l : List Cl) (id : Int) (i : Nat) : Int := if hasL id l = true ∧ lb id l < i then (lb id l : Int) else -1
theorem atI_zero (l : List Cl) (id : Int) : atI l id 0 = -1 := if_neg (by omega)
theorem atI_yes {l : List Cl} {id : Int} {i : Nat} {c : Cl} (hs : Sorted l) (hc : l[i]? = some c) (he : c.id = id) : atI l id (i + 1) = (i : Int) := by
  have h1 := place_at hs hc he
  unfold placeL at h1
  unfold atI
  by_cases hh : hasL id l = true
  · rw [if_pos hh] at h1
    rw [if_pos ⟨hh, by omega⟩]
    exact h1
  · rw [if_neg hh] at h1
    omega
theorem atI_no {l : List Cl} {id : Int} {i : Nat} {c : Cl} (hs : Sorted l) (hc : l[i]? = some c) (he : c.id ≠ id) : atI l id (i + 1) = atI l id i := by
  unfold atI
  by_cases hh : hasL id l = true
  · obtain ⟨d, hd, hde⟩ := has_get hs hh
    have hne : lb id l ≠ i := fun e => by
      rw [e, hc] at hd
      injection hd with hd
      rw [hd] at he
      exact he hde
    by_cases h2 : lb id l < i
    · rw [if_pos ⟨hh, by omega⟩, if_pos ⟨hh, h2⟩]
    · rw [if_neg (by omega), if_neg (by omega)]
  · rw [if_neg (by simp [hh]), if_neg (by simp [hh])]
theorem atI_all {l : List Cl} {id : Int} (hs : Sorted l) : atI l id l.length = placeL l id := by
  unfold atI placeL
  by_cases hh : hasL id l = true
  · obtain ⟨d, hd, _⟩ := has_get hs hh
    have := (List.getElem?_eq_some_iff.1 hd).1
    rw [if_pos ⟨hh, this⟩, if_pos hh]
  · rw [if_neg (by simp [hh]), if_neg hh]
/-- Stands somebody else at nought? -/
def elseF (id : Int) (l : List Cl) : Bool := l.any fun c => !(c.id == id) && c.p == 0
theorem elseF_take (id : Int) (l : List Cl) (i : Nat) (c : Cl) (hc : l[i]? = some c) : elseF id (l.take (i + 1)) = (elseF id (l.take i) || (!(c.id == id) && c.p == 0)) := by
  unfold elseF
  rw [List.take_add_one, hc, List.any_append]
  simp
theorem elseF_yes {id : Int} {l : List Cl} (h : elseF id l = true) : ∃ d ∈ l, d.id ≠ id ∧ d.p = 0 := by
  obtain ⟨c, hc, he⟩ := List.any_eq_true.1 h
  exact ⟨c, hc, by simpa using he⟩
theorem leave_none {l : List Cl} {id : Int} (h : hasL id l ≠ true) : leaveL l id = (l, 0, 8) := by unfold leaveL; rw [if_neg h]
end Go.Proofs.Ytkcmmghhghgdpaa.Str
