/- Plain laws of stride: what Join, Leave, Change, Pick and Run do to a list of clients; fairness. -/
import Derived.Laws.AppendOwn
namespace Go.Proofs.Ytkcmmghhghgdpaa.Str
set_option linter.unusedVariables false
set_option linter.unusedSimpArgs false
/-- A client: Id, tickets, pass. -/
structure Cl where
  id : Int
  t : Int
  p : Int
abbrev SQ : Int := 720720
/-- How far a quantum brings. -/
def sd (t : Int) : Int := SQ / t
/-- The least pass. -/
def leastP : List Cl → Int
  | [] => 0
  | [c] => c.p
  | c :: l => min c.p (leastP l)
def levelL (l : List Cl) : List Cl := l.map fun c => { c with p := c.p - leastP l }
/-- The place of the client that is least far: the first one. -/
def firstFrom (l : List Cl) : Nat → Nat → List Cl → Nat
  | best, _, [] => best
  | best, i, c :: m => firstFrom l (if c.p < (l.getD best ⟨0, 0, 0⟩).p then i else best) (i + 1) m
def firstL (l : List Cl) : Nat := firstFrom l 0 0 l
def bump (c : Cl) : Cl := { c with p := c.p + sd c.t }
def pickL (l : List Cl) : List Cl × Int := (levelL (l.modify (firstL l) bump), (l.getD (firstL l) ⟨0, 0, 0⟩).id)
/-- n quanta. -/
def runL : Nat → List Cl → List Cl × List Int
  | 0, l => (l, [])
  | n + 1, l => ((runL n (pickL l).1).1, (pickL l).2 :: (runL n (pickL l).1).2)

def okCl (c : Cl) : Prop := 1 ≤ c.t ∧ c.t ≤ 16 ∧ 0 ≤ c.p ∧ c.p ≤ sd c.t
theorem sd_mul {t : Int} (h1 : 1 ≤ t) (h2 : t ≤ 16) : sd t * t = SQ := by
  have : t = 1 ∨ t = 2 ∨ t = 3 ∨ t = 4 ∨ t = 5 ∨ t = 6 ∨ t = 7 ∨ t = 8 ∨ t = 9 ∨ t = 10 ∨ t = 11 ∨ t = 12 ∨ t = 13 ∨ t = 14 ∨ t = 15 ∨ t = 16 := by omega
  unfold sd
  rcases this with rfl | rfl | rfl | rfl | rfl | rfl | rfl | rfl | rfl | rfl | rfl | rfl | rfl | rfl | rfl | rfl <;> decide
theorem sd_pos {t : Int} (h1 : 1 ≤ t) (h2 : t ≤ 16) : 0 < sd t ∧ sd t ≤ SQ := by
  have h := sd_mul h1 h2
  have : t = 1 ∨ t = 2 ∨ t = 3 ∨ t = 4 ∨ t = 5 ∨ t = 6 ∨ t = 7 ∨ t = 8 ∨ t = 9 ∨ t = 10 ∨ t = 11 ∨ t = 12 ∨ t = 13 ∨ t = 14 ∨ t = 15 ∨ t = 16 := by omega
  unfold sd at *
  rcases this with rfl | rfl | rfl | rfl | rfl | rfl | rfl | rfl | rfl | rfl | rfl | rfl | rfl | rfl | rfl | rfl <;> decide
theorem least_le : ∀ {l : List Cl} {c : Cl}, c ∈ l → leastP l ≤ c.p
  | [], c, h => by cases h
  | [d], c, h => by
    simp at h
    subst h
    exact Int.le_refl _
  | d :: e :: l, c, h => by
    rw [leastP]
    · rcases List.mem_cons.1 h with rfl | h
      · exact Int.min_le_left _ _
      · exact Int.le_trans (Int.min_le_right _ _) (least_le h)
    · simp
theorem least_mem : ∀ {l : List Cl}, l ≠ [] → ∃ c ∈ l, c.p = leastP l
  | [], h => absurd rfl h
  | [d], _ => ⟨d, List.mem_cons_self, rfl⟩
  | d :: e :: l, _ => by
    rw [leastP]
    · obtain ⟨c, hc, he⟩ := least_mem (l := e :: l) (by simp)
      by_cases h : d.p ≤ leastP (e :: l)
      · exact ⟨d, List.mem_cons_self, by omega⟩
      · exact ⟨c, List.mem_cons_of_mem _ hc, by omega⟩
    · simp
theorem firstFrom_spec (l : List Cl) : ∀ (m : List Cl) (best i : Nat), l.drop i = m → best < l.length → (∀ c ∈ l.take i, (l.getD best ⟨0, 0, 0⟩).p ≤ c.p) →
    firstFrom l best i m < l.length ∧ ∀ c ∈ l, (l.getD (firstFrom l best i m) ⟨0, 0, 0⟩).p ≤ c.p
  | [], best, i, hd, hb, hm => by
    refine ⟨hb, fun c hc => hm c ?_⟩
    have : l.length ≤ i := by simpa using hd
    rwa [List.take_of_length_le this]
  | c :: m, best, i, hd, hb, hm => by
    have hi : i < l.length := by
      rcases Nat.lt_or_ge i l.length with h | h
      · exact h
      · rw [List.drop_of_length_le h] at hd; cases hd
    have hc : l[i] = c := by rw [List.drop_eq_getElem_cons hi] at hd; exact (List.cons.inj hd).1
    have hd' : l.drop (i + 1) = m := by rw [List.drop_eq_getElem_cons hi] at hd; exact (List.cons.inj hd).2
    rw [firstFrom]
    refine firstFrom_spec l m _ (i + 1) hd' (by split <;> omega) (fun d hdm => ?_)
    rw [List.take_succ_eq_append_getElem hi, hc] at hdm
    rcases List.mem_append.1 hdm with h | h
    · have := hm d h
      split
      · rw [show (l.getD i ⟨0, 0, 0⟩) = c by simp [hi, hc]]; omega
      · exact this
    · simp at h
      subst h
      split
      · rw [show (l.getD i ⟨0, 0, 0⟩) = d by simp [hi, hc]]; omega
      · omega
theorem firstL_spec {l : List Cl} (h : l ≠ []) : firstL l < l.length ∧ ∀ c ∈ l, (l.getD (firstL l) ⟨0, 0, 0⟩).p ≤ c.p := by
  have : 0 < l.length := by cases l with | nil => exact absurd rfl h | cons => simp
  exact firstFrom_spec l l 0 0 rfl this (fun c h => by simp at h)
/-- How often who was picked. -/
def cnt (id : Int) (x : List Int) : Int := ((x.filter fun z => z == id).length : Int)
/-- What a client would stand at without levels. -/
def sumI (l : List Int) : Int := l.sum
theorem level_map {l : List Cl} : (levelL l).map (·.id) = l.map (·.id) ∧ (levelL l).map (·.t) = l.map (·.t) := by
  unfold levelL
  constructor <;> simp [Function.comp_def]
theorem level_len (l : List Cl) : (levelL l).length = l.length := by simp [levelL]
theorem pick_len (l : List Cl) : (pickL l).1.length = l.length := by simp [pickL, level_len]
/-- A pick: Ids and tickets stay; the passes go one stride on for the one that was picked; the least is taken off all. -/
theorem pick_get {l : List Cl} (h : l ≠ []) : ∃ (b : Nat) (M : Int), b < l.length ∧ (pickL l).2 = (l.getD b ⟨0, 0, 0⟩).id ∧ (∀ c ∈ l, (l.getD b ⟨0, 0, 0⟩).p ≤ c.p) ∧
    (∀ (i : Nat) (c : Cl), l[i]? = some c → (pickL l).1[i]? = some { c with p := (if i = b then c.p + sd c.t else c.p) - M }) ∧
    (∃ c ∈ (pickL l).1, c.p = 0) ∧ (∀ c ∈ (pickL l).1, 0 ≤ c.p) := by
  obtain ⟨h1, h2⟩ := firstL_spec h
  have hne : l.modify (firstL l) bump ≠ [] := by
    intro e
    have := congrArg List.length e
    simp at this
    exact h this
  refine ⟨firstL l, leastP (l.modify (firstL l) bump), h1, rfl, h2, fun i c hc => ?_, ?_, fun c hc => ?_⟩
  · show (levelL _)[i]? = _
    unfold levelL
    rw [List.getElem?_map, List.getElem?_modify, hc]
    by_cases e : firstL l = i
    · simp only [if_pos e, if_pos e.symm]; rfl
    · simp only [if_neg e, if_neg (fun h => e (Eq.symm h))]; rfl
  · obtain ⟨c, hc, he⟩ := least_mem hne
    exact ⟨_, List.mem_map.2 ⟨c, hc, rfl⟩, by show c.p - _ = 0; omega⟩
  · obtain ⟨d, hd, rfl⟩ := List.mem_map.1 hc
    have := least_le hd
    show 0 ≤ d.p - _
    omega
theorem run_len : ∀ (n : Nat) (l : List Cl), (runL n l).1.length = l.length
  | 0, l => rfl
  | n + 1, l => by
    show (runL n (pickL l).1).1.length = _
    rw [run_len n, pick_len]
def Lev (l : List Cl) : Prop := (∀ c ∈ l, okCl c) ∧ (l ≠ [] → ∃ c ∈ l, c.p = 0) ∧ ∀ (i j : Nat) (c d : Cl), l[i]? = some c → l[j]? = some d → c.id = d.id → i = j
theorem pick_ok {l : List Cl} (h : Lev l) : Lev (pickL l).1 := by
  by_cases hn : l = []
  · subst hn; exact h
  obtain ⟨b, M, hb, _, hmin, hget, hz, hp⟩ := pick_get hn
  obtain ⟨h1, h2, h3⟩ := h
  have back : ∀ (i : Nat) (d : Cl), (pickL l).1[i]? = some d → ∃ c, l[i]? = some c ∧ d = { c with p := (if i = b then c.p + sd c.t else c.p) - M } := fun i d hd => by
    have hi : i < l.length := by rw [← pick_len]; exact (List.getElem?_eq_some_iff.1 hd).1
    have := hget i l[i] (List.getElem?_eq_getElem hi)
    rw [hd] at this
    exact ⟨l[i], List.getElem?_eq_getElem hi, Option.some.inj this⟩
  have bz : (l.getD b ⟨0, 0, 0⟩).p = 0 := by
    obtain ⟨c, hc, hc0⟩ := h2 hn
    have := hmin c hc
    have hbm : l.getD b ⟨0, 0, 0⟩ ∈ l := by rw [List.getD_eq_getElem?_getD, List.getElem?_eq_getElem hb]; exact List.getElem_mem hb
    have := (h1 _ hbm).2.2.1
    omega
  refine ⟨fun d hd => ?_, fun _ => hz, fun i j c d hc hd e => ?_⟩
  · obtain ⟨i, hi⟩ := List.getElem?_of_mem hd
    obtain ⟨c, hc, rfl⟩ := back i d hi
    obtain ⟨k1, k2, k3, k4⟩ := h1 c (List.mem_of_getElem? hc)
    have hM : 0 ≤ M := by
      obtain ⟨z, hz1, hz2⟩ := hz
      obtain ⟨j, hj⟩ := List.getElem?_of_mem hz1
      obtain ⟨c', hc', rfl⟩ := back j z hj
      obtain ⟨m1, m2, m3, m4⟩ := h1 c' (List.mem_of_getElem? hc')
      have := (sd_pos m1 m2).1
      simp only at hz2
      split at hz2 <;> omega
    refine ⟨k1, k2, hp _ hd, ?_⟩
    show (if i = b then c.p + sd c.t else c.p) - M ≤ sd c.t
    split
    · rename_i e
      subst e
      rw [List.getD_eq_getElem?_getD, hc] at bz
      simp at bz
      omega
    · omega
  · obtain ⟨c', hc', rfl⟩ := back i c hc
    obtain ⟨d', hd', rfl⟩ := back j d hd
    exact h3 i j c' d' hc' hd' e
/-- n quanta: how far everybody has gone. -/
theorem run_spec : ∀ (n : Nat) (l : List Cl), Lev l → l ≠ [] → Lev (runL n l).1 ∧ (runL n l).2.length = n ∧ (∀ z ∈ (runL n l).2, ∃ c ∈ l, c.id = z) ∧
    ∃ M : Int, ∀ (i : Nat) (c : Cl), l[i]? = some c → (runL n l).1[i]? = some { c with p := c.p + cnt c.id (runL n l).2 * sd c.t - M }
  | 0, l, h, _ => ⟨h, rfl, (fun z hz => by cases hz), 0, fun i c hc => by simp [runL, cnt, hc]⟩
  | n + 1, l, h, hn => by
    obtain ⟨b, M, hb, hid, hmin, hget, hz, hp⟩ := pick_get hn
    have hne : (pickL l).1 ≠ [] := by
      intro e
      have := pick_len l
      rw [e] at this
      cases l with
      | nil => exact hn rfl
      | cons => simp at this
    obtain ⟨g1, g2, g3, M', g4⟩ := run_spec n (pickL l).1 (pick_ok h) hne
    refine ⟨g1, by rw [runL, List.length_cons, g2], fun z hz => ?_, M + M', fun i c hc => ?_⟩
    · rcases List.mem_cons.1 hz with rfl | hz
      · exact ⟨l.getD b ⟨0, 0, 0⟩, by rw [List.getD_eq_getElem?_getD, List.getElem?_eq_getElem hb]; exact List.getElem_mem hb, hid.symm⟩
      · obtain ⟨c, hc, he⟩ := g3 z hz
        obtain ⟨i, hi⟩ := List.getElem?_of_mem hc
        have hil : i < l.length := by rw [← pick_len]; exact (List.getElem?_eq_some_iff.1 hi).1
        have := hget i l[i] (List.getElem?_eq_getElem hil)
        rw [hi] at this
        obtain rfl := Option.some.inj this
        exact ⟨l[i], List.getElem_mem hil, he⟩
    · have := g4 i _ (hget i c hc)
      show (runL n (pickL l).1).1[i]? = _
      rw [this]
      congr 1
      simp only [Cl.mk.injEq, true_and]
      have hcnt : cnt c.id (runL (n + 1) l).2 = (if i = b then 1 else 0) + cnt c.id (runL n (pickL l).1).2 := by
        show cnt c.id ((pickL l).2 :: (runL n (pickL l).1).2) = _
        unfold cnt
        rw [List.filter_cons, hid]
        by_cases e : i = b
        · subst e
          rw [List.getD_eq_getElem?_getD, hc]
          simp
          omega
        · rw [if_neg e, if_neg]
          · simp
          · intro h'
            rw [beq_iff_eq] at h'
            have hbl := List.getElem?_eq_getElem hb
            rw [List.getD_eq_getElem?_getD, hbl] at h'
            exact e (h.2.2 i b c l[b] hc hbl h'.symm)
      rw [hcnt]
      by_cases e : i = b
      · rw [if_pos e, if_pos e, Int.add_mul]; omega
      · rw [if_neg e, if_neg e]; simp; omega
def sumT (l : List Cl) : Int := (l.map (·.t)).sum
/-- Sums over clients. -/
def sumOf (f : Cl → Int) (l : List Cl) : Int := (l.map f).sum
theorem sum_cons (f : Cl → Int) (c : Cl) (l : List Cl) : sumOf f (c :: l) = f c + sumOf f l := by simp [sumOf]
theorem sum_congr {f g : Cl → Int} : ∀ {l : List Cl}, (∀ c ∈ l, f c = g c) → sumOf f l = sumOf g l
  | [], _ => rfl
  | c :: l, h => by rw [sum_cons, sum_cons, h c List.mem_cons_self, sum_congr fun d hd => h d (List.mem_cons_of_mem _ hd)]
theorem sum_mono {f g : Cl → Int} : ∀ {l : List Cl}, (∀ c ∈ l, f c ≤ g c) → sumOf f l ≤ sumOf g l
  | [], _ => Int.le_refl _
  | c :: l, h => by
    rw [sum_cons, sum_cons]
    have := h c List.mem_cons_self
    have := sum_mono fun d hd => h d (List.mem_cons_of_mem _ hd)
    omega
theorem sum_add (f g : Cl → Int) : ∀ (l : List Cl), sumOf (fun c => f c + g c) l = sumOf f l + sumOf g l
  | [] => rfl
  | c :: l => by rw [sum_cons, sum_cons, sum_cons, sum_add f g l]; omega
theorem sum_mul (f : Cl → Int) (k : Int) : ∀ (l : List Cl), sumOf (fun c => f c * k) l = sumOf f l * k
  | [] => by simp [sumOf]
  | c :: l => by rw [sum_cons, sum_cons, sum_mul f k l, Int.add_mul]
theorem sum_const (k : Int) : ∀ (l : List Cl), sumOf (fun _ => k) l = k * l.length
  | [] => by simp [sumOf]
  | c :: l => by rw [sum_cons, sum_const k l, List.length_cons, Int.natCast_add, Int.mul_add]; simp; omega
/-- Who is picked is somebody: the counts are all. -/
theorem cnt_sum : ∀ (x : List Int) (l : List Cl), (∀ z ∈ x, ∃ c ∈ l, c.id = z) → l.Pairwise (fun c d => c.id ≠ d.id) → sumOf (fun c => cnt c.id x) l = (x.length : Int)
  | [], l, _, _ => by
    show sumOf (fun c => cnt c.id []) l = 0
    rw [show (fun c : Cl => cnt c.id []) = fun _ => 0 from rfl, sum_const]; simp
  | z :: x, l, h, hp => by
    have h1 := cnt_sum x l (fun w hw => h w (List.mem_cons_of_mem _ hw)) hp
    have e : (fun c : Cl => cnt c.id (z :: x)) = fun c => (if c.id = z then 1 else 0) + cnt c.id x := by
      funext c
      unfold cnt
      rw [List.filter_cons]
      by_cases e : c.id = z
      · subst e; simp; omega
      · rw [if_neg e, if_neg (by rw [beq_iff_eq]; exact fun h => e h.symm)]; simp
    rw [e, sum_add, h1, List.length_cons]
    have one : ∀ (l : List Cl), l.Pairwise (fun c d => c.id ≠ d.id) → (∃ c ∈ l, c.id = z) → sumOf (fun c => if c.id = z then 1 else 0) l = 1 := by
      intro l
      induction l with
      | nil => rintro _ ⟨c, hc, _⟩; cases hc
      | cons c l ih =>
        intro hp hex
        rw [List.pairwise_cons] at hp
        rw [sum_cons]
        by_cases e : c.id = z
        · have : sumOf (fun c => if c.id = z then 1 else 0) l = sumOf (fun _ => 0) l := sum_congr fun d hd => if_neg fun h => hp.1 d hd (e.trans h.symm)
          rw [this, sum_const, if_pos e]
          simp
        · obtain ⟨d, hd, hde⟩ := hex
          rcases List.mem_cons.1 hd with rfl | hd
          · exact absurd hde e
          · rw [if_neg e, ih hp.2 ⟨d, hd, hde⟩]; rfl
    rw [one l hp (h z List.mem_cons_self)]
    omega
theorem lev_pair {l : List Cl} (h : Lev l) : l.Pairwise (fun c d => c.id ≠ d.id) := by
  rw [List.pairwise_iff_getElem]
  intro i j hi hj hij e
  have := h.2.2 i j _ _ (List.getElem?_eq_getElem hi) (List.getElem?_eq_getElem hj) e
  omega
/-- Where a client stands behind n quanta. -/
def after (l : List Cl) (n : Nat) (M : Int) (c : Cl) : Int := c.p + cnt c.id (runL n l).2 * sd c.t - M
theorem run_after {l : List Cl} {n : Nat} (h : Lev l) (hn : l ≠ []) : ∃ M : Int, (∀ c ∈ l, 0 ≤ after l n M c ∧ after l n M c ≤ sd c.t) ∧ (∃ c ∈ l, after l n M c = 0) ∧ sumOf (fun c => cnt c.id (runL n l).2) l = (n : Int) := by
  obtain ⟨g1, g2, g3, M, g4⟩ := run_spec n l h hn
  refine ⟨M, fun c hc => ?_, ?_, by rw [cnt_sum _ _ g3 (lev_pair h), g2]⟩
  · obtain ⟨i, hi⟩ := List.getElem?_of_mem hc
    have := g1.1 _ (List.mem_of_getElem? (g4 i c hi))
    exact ⟨this.2.2.1, this.2.2.2⟩
  · have hne : (runL n l).1 ≠ [] := by
      cases l with
      | nil => exact absurd rfl hn
      | cons c l =>
        have := g4 0 c rfl
        intro e
        rw [e] at this
        cases this
    obtain ⟨d, hd, hz⟩ := g1.2.1 hne
    obtain ⟨i, hi⟩ := List.getElem?_of_mem hd
    have hlen : i < l.length := by
      rcases Nat.lt_or_ge i l.length with h' | h'
      · exact h'
      · exfalso
        have hl := run_len n l
        have := (List.getElem?_eq_some_iff.1 hi).1
        omega
    have h4 := g4 i l[i] (List.getElem?_eq_getElem hlen)
    rw [hi] at h4
    obtain rfl := Option.some.inj h4
    exact ⟨l[i], List.getElem_mem hlen, hz⟩
theorem mulT {l : List Cl} {n : Nat} {M : Int} {c : Cl} (ht : 1 ≤ c.t ∧ c.t ≤ 16) : cnt c.id (runL n l).2 * SQ = c.t * (M + (after l n M c - c.p)) := by
  have h := sd_mul ht.1 ht.2
  unfold after
  rw [show M + (c.p + cnt c.id (runL n l).2 * sd c.t - M - c.p) = cnt c.id (runL n l).2 * sd c.t by omega, Int.mul_left_comm, Int.mul_comm c.t, h]
/-- P9.3: over any run of quanta what each client gets differs from its share by at most as many as there are others. -/
theorem fair {l : List Cl} {n : Nat} (h : Lev l) {c : Cl} (hc : c ∈ l) :
    cnt c.id (runL n l).2 * sumT l - n * c.t ≤ sumT l * (l.length - 1) ∧ -(cnt c.id (runL n l).2 * sumT l - n * c.t) ≤ sumT l * (l.length - 1) := by
  have hn : l ≠ [] := by intro e; rw [e] at hc; cases hc
  obtain ⟨M, h1, _, h3⟩ := run_after (n := n) h hn
  have E : ∀ d ∈ l, -SQ ≤ d.t * (after l n M d - d.p) ∧ d.t * (after l n M d - d.p) ≤ SQ := by
    intro d hd
    obtain ⟨k1, k2, k3, k4⟩ := h.1 d hd
    obtain ⟨a1, a2⟩ := h1 d hd
    have hs := sd_mul k1 k2
    have u1 : d.t * (after l n M d - d.p) ≤ d.t * sd d.t := Int.mul_le_mul_of_nonneg_left (by omega) (by omega)
    have u2 : d.t * (-(sd d.t)) ≤ d.t * (after l n M d - d.p) := Int.mul_le_mul_of_nonneg_left (by omega) (by omega)
    rw [Int.mul_neg] at u2
    rw [Int.mul_comm] at hs
    omega
  have S1 : (n : Int) * SQ = sumT l * M + sumOf (fun d => d.t * (after l n M d - d.p)) l := by
    rw [← h3, ← sum_mul, sum_congr fun d hd => mulT (M := M) ⟨(h.1 d hd).1, (h.1 d hd).2.1⟩, sum_congr fun d _ => Int.mul_add d.t M _, sum_add, sum_mul (fun d => d.t) M]
    rfl
  obtain ⟨l1, l2, rfl⟩ := List.append_of_mem hc
  generalize hl : l1 ++ c :: l2 = l at *
  obtain ⟨k1, k2, _, _⟩ := h.1 c hc
  have hEc := E c hc
  have hT : sumT l = c.t + sumT (l1 ++ l2) := by rw [← hl]; simp [sumT]; omega
  have hSf : ∀ f : Cl → Int, sumOf f l = f c + sumOf f (l1 ++ l2) := by intro f; rw [← hl]; simp [sumOf]; omega
  have hS := hSf fun d => d.t * (after l n M d - d.p)
  have hL : (l.length : Int) - 1 = ((l1 ++ l2).length : Int) := by rw [← hl]; simp; omega
  have hmem : ∀ d ∈ l1 ++ l2, d ∈ l := fun d hd => by rw [← hl]; simp at hd ⊢; rcases hd with h | h <;> simp [h]
  have hO : sumOf (fun d => d.t * (after l n M d - d.p)) (l1 ++ l2) ≤ SQ * (l1 ++ l2).length := by rw [← sum_const]; exact sum_mono fun d hd => (E d (hmem d hd)).2
  have hO2 : -SQ * (l1 ++ l2).length ≤ sumOf (fun d => d.t * (after l n M d - d.p)) (l1 ++ l2) := by rw [← sum_const]; exact sum_mono fun d hd => (E d (hmem d hd)).1
  have hT2 : ((l1 ++ l2).length : Int) ≤ sumT (l1 ++ l2) := by
    have : sumOf (fun _ => 1) (l1 ++ l2) ≤ sumOf (fun d => d.t) (l1 ++ l2) := sum_mono fun d hd => (h.1 d (hmem d hd)).1
    rw [sum_const] at this
    have e : sumOf (fun d => d.t) (l1 ++ l2) = sumT (l1 ++ l2) := rfl
    omega
  have hT0 : ((l1 ++ l2).length : Int) = 0 → sumT (l1 ++ l2) = 0 := fun h => by
    have : l1 ++ l2 = [] := List.length_eq_zero_iff.1 (by omega)
    rw [this]; rfl
  have hH := mulT (l := l) (n := n) (M := M) (c := c) ⟨k1, k2⟩
  rw [hL]
  generalize sumOf (fun d => d.t * (after l n M d - d.p)) (l1 ++ l2) = O at *
  generalize sumT (l1 ++ l2) = T' at *
  generalize hk : ((l1 ++ l2).length : Int) = K at *
  generalize hEg : c.t * (after l n M c - c.p) = Ec at *
  have hH' : cnt c.id (runL n l).2 * SQ = c.t * M + Ec := by rw [hH, Int.mul_add, hEg]
  have hK : 0 ≤ K := by rw [← hk]; exact Int.natCast_nonneg _
  have key : (cnt c.id (runL n l).2 * sumT l - n * c.t) * SQ = T' * Ec - c.t * O := by
    grind
  rw [hT]
  rw [hT] at key
  generalize cnt c.id (runL n l).2 * (c.t + T') - n * c.t = D at key ⊢
  have hTp : 0 ≤ T' := by omega
  have hSQ : (0 : Int) < SQ := by decide
  have b1 : T' * Ec ≤ T' * SQ := Int.mul_le_mul_of_nonneg_left hEc.2 hTp
  have b2 : T' * (-SQ) ≤ T' * Ec := Int.mul_le_mul_of_nonneg_left hEc.1 hTp
  have b3 : c.t * O ≤ c.t * (SQ * K) := Int.mul_le_mul_of_nonneg_left hO (by omega)
  have b4 : c.t * (-SQ * K) ≤ c.t * O := Int.mul_le_mul_of_nonneg_left hO2 (by omega)
  have b5 : T' ≤ T' * K := by
    by_cases h0 : K = 0
    · rw [hT0 h0, h0]; exact Int.le_refl _
    · have : T' * 1 ≤ T' * K := Int.mul_le_mul_of_nonneg_left (by omega) hTp
      omega
  have e1 : D * SQ ≤ (T' + c.t * K) * SQ := by
    have : (T' + c.t * K) * SQ = T' * SQ + c.t * (SQ * K) := by grind
    have : c.t * (-SQ * K) = -(c.t * (SQ * K)) := by grind
    omega
  have e2 : -D * SQ ≤ (T' + c.t * K) * SQ := by
    have : (T' + c.t * K) * SQ = T' * SQ + c.t * (SQ * K) := by grind
    have : T' * (-SQ) = -(T' * SQ) := by grind
    rw [Int.neg_mul]
    omega
  have f1 := Int.le_of_mul_le_mul_right e1 hSQ
  have f2 := Int.le_of_mul_le_mul_right e2 hSQ
  rw [Int.add_mul]
  omega

theorem run_get {l : List Cl} {n : Nat} (h : Lev l) (hn : l ≠ []) : ∃ M : Int, (∀ c ∈ l, 0 ≤ after l n M c ∧ after l n M c ≤ sd c.t) ∧ (∃ c ∈ l, after l n M c = 0) ∧ sumOf (fun c => cnt c.id (runL n l).2) l = (n : Int) ∧ (runL n l).1 = l.map fun c => { c with p := after l n M c } := by
  obtain ⟨g1, g2, g3, M, g4⟩ := run_spec n l h hn
  have hmap : (runL n l).1 = l.map fun c => { c with p := after l n M c } := by
    apply List.ext_getElem?
    intro i
    rw [List.getElem?_map]
    cases hi : l[i]? with
    | none =>
      have : l.length ≤ i := List.getElem?_eq_none_iff.1 hi
      rw [List.getElem?_eq_none (by rw [run_len]; exact this)]
      rfl
    | some c => exact g4 i c hi
  refine ⟨M, fun c hc => ?_, ?_, by rw [cnt_sum _ _ g3 (lev_pair h), g2], hmap⟩
  · have : { c with p := after l n M c } ∈ (runL n l).1 := by rw [hmap]; exact List.mem_map.2 ⟨c, hc, rfl⟩
    have := g1.1 _ this
    exact ⟨this.2.2.1, this.2.2.2⟩
  · have hne : (runL n l).1 ≠ [] := by rw [hmap]; simpa using hn
    obtain ⟨d, hd, hz⟩ := g1.2.1 hne
    rw [hmap] at hd
    obtain ⟨c, hc, rfl⟩ := List.mem_map.1 hd
    exact ⟨c, hc, hz⟩
theorem sum_zero {f : Cl → Int} : ∀ {l : List Cl}, (∀ c ∈ l, 0 ≤ f c) → sumOf f l = 0 → ∀ c ∈ l, f c = 0
  | [], _, _, c, h => by cases h
  | d :: l, h, hs, c, hc => by
    rw [sum_cons] at hs
    have h0 := h d List.mem_cons_self
    have h1 : 0 ≤ sumOf f l := by
      have := sum_mono (f := fun _ => 0) (g := f) (l := l) fun x hx => h x (List.mem_cons_of_mem _ hx)
      rw [sum_const] at this
      simpa using this
    rcases List.mem_cons.1 hc with rfl | hc
    · omega
    · exact sum_zero (fun x hx => h x (List.mem_cons_of_mem _ hx)) (by omega) c hc
/-- P9.3: clients that all begin at nought: in as many quanta as they have tickets each gets as many as it has, and all stand at nought again. -/
theorem rounds {l : List Cl} (h : Lev l) (hn : l ≠ []) (hz : ∀ c ∈ l, c.p = 0) {n : Nat} (hT : sumT l = (n : Int)) :
    (∀ c ∈ l, cnt c.id (runL n l).2 = c.t) ∧ (runL n l).1 = l := by
  obtain ⟨M, h1, ⟨z, hzm, hz0⟩, h3, hmap⟩ := run_get (n := n) h hn
  have hSQ : (0 : Int) < SQ := by decide
  have T1 : ∀ c ∈ l, cnt c.id (runL n l).2 * SQ = c.t * (M + after l n M c) := fun c hc => by
    obtain ⟨k1, k2, _, _⟩ := h.1 c hc
    have := mulT (l := l) (n := n) (M := M) (c := c) ⟨k1, k2⟩
    rw [hz c hc, Int.sub_zero] at this
    exact this
  have S1 : (n : Int) * SQ = sumT l * M + sumOf (fun d => d.t * after l n M d) l := by
    rw [← h3, ← sum_mul, sum_congr T1, sum_congr fun d _ => Int.mul_add d.t M _, sum_add, sum_mul (fun d => d.t) M]
    rfl
  have hpos : ∀ c ∈ l, 0 ≤ c.t * after l n M c := fun c hc => Int.mul_nonneg (by have := (h.1 c hc).1; omega) (h1 c hc).1
  have hS0 : 0 ≤ sumOf (fun d => d.t * after l n M d) l := by
    have := sum_mono (f := fun _ => 0) (g := fun d => d.t * after l n M d) (l := l) hpos
    rw [sum_const] at this
    simpa using this
  have hTp : 1 ≤ sumT l := by
    obtain ⟨k1, _⟩ := h.1 z hzm
    have : sumOf (fun _ => 1) l ≤ sumOf (fun d => d.t) l := sum_mono fun d hd => (h.1 d hd).1
    rw [sum_const] at this
    have hl : 1 ≤ l.length := by cases l with | nil => exact absurd rfl hn | cons => simp
    have e : sumOf (fun d => d.t) l = sumT l := rfl
    omega
  have hle : ∀ c ∈ l, cnt c.id (runL n l).2 ≤ c.t := fun c hc => by
    obtain ⟨k1, k2, _, _⟩ := h.1 c hc
    have hMle : M ≤ SQ := by
      have e : sumT l * M ≤ sumT l * SQ := by rw [← hT] at S1; omega
      exact Int.le_of_mul_le_mul_left e (by omega)
    have hb := (h1 c hc).2
    have hs := sd_mul k1 k2
    have u1 : c.t * after l n M c ≤ c.t * sd c.t := Int.mul_le_mul_of_nonneg_left hb (by omega)
    rw [Int.mul_comm c.t (sd c.t), hs] at u1
    have e2 : cnt c.id (runL n l).2 * SQ ≤ (c.t + 1) * SQ := by
      rw [T1 c hc, Int.mul_add, Int.add_mul]
      have : c.t * M ≤ c.t * SQ := Int.mul_le_mul_of_nonneg_left hMle (by omega)
      omega
    have e3 := Int.le_of_mul_le_mul_right e2 hSQ
    by_cases e4 : cnt c.id (runL n l).2 = c.t + 1
    · exfalso
      -- then M = SQ and after = sd: the whole sum is too great
      have e5 : c.t * M + c.t * after l n M c = (c.t + 1) * SQ := by rw [← e4, T1 c hc, Int.mul_add]
      have e6 : c.t * M = c.t * SQ := by
        have : c.t * M ≤ c.t * SQ := Int.mul_le_mul_of_nonneg_left hMle (by omega)
        rw [Int.add_mul] at e5
        omega
      have e7 : M = SQ := Int.eq_of_mul_eq_mul_left (by omega) e6
      have S2 : sumT l * SQ = sumT l * M + sumOf (fun d => d.t * after l n M d) l := by rw [hT]; rw [hT] at S1; exact S1
      have e7' : sumT l * M = sumT l * SQ := by rw [e7]
      have e8 : sumOf (fun d => d.t * after l n M d) l = 0 := by omega
      have e9 : c.t * after l n M c = 0 := sum_zero hpos e8 c hc
      rw [Int.add_mul] at e5
      omega
    · omega
  have hall : ∀ c ∈ l, cnt c.id (runL n l).2 = c.t := by
    have hd : sumOf (fun c => c.t - cnt c.id (runL n l).2) l = 0 := by
      have : sumOf (fun c => c.t - cnt c.id (runL n l).2) l + sumOf (fun c => cnt c.id (runL n l).2) l = sumOf (fun c => c.t) l := by
        rw [← sum_add]
        exact sum_congr fun c _ => by omega
      have e : sumOf (fun c => c.t) l = sumT l := rfl
      omega
    intro c hc
    have := sum_zero (fun c hc => by have := hle c hc; omega) hd c hc
    omega
  refine ⟨hall, ?_⟩
  have hM : M = SQ := by
    obtain ⟨k1, k2, _, _⟩ := h.1 z hzm
    have := T1 z hzm
    rw [hall z hzm, hz0, Int.add_zero] at this
    exact (Int.eq_of_mul_eq_mul_left (by omega) this).symm
  rw [hmap]
  have : ∀ c ∈ l, after l n M c = c.p := fun c hc => by
    obtain ⟨k1, k2, _, _⟩ := h.1 c hc
    have e := T1 c hc
    rw [hall c hc, hM] at e
    have := Int.eq_of_mul_eq_mul_left (show c.t ≠ 0 by omega) e
    rw [hM, hz c hc]
    omega
  rw [show (l.map fun c => { c with p := after l n M c }) = l.map id from List.map_congr_left fun c hc => by rw [this c hc]; rfl, List.map_id]

def z0 : Cl := ⟨0, 0, 0⟩
def Sorted (l : List Cl) : Prop := l.Pairwise fun c d => c.id < d.id
/-- Where a client stands, or would. -/
def lb (id : Int) (l : List Cl) : Nat := (l.takeWhile fun c => decide (c.id < id)).length
def insL (c : Cl) : List Cl → List Cl
  | [] => [c]
  | d :: l => if c.id < d.id then c :: d :: l else d :: insL c l
theorem lb_le (id : Int) : ∀ (l : List Cl), lb id l ≤ l.length
  | [] => by simp [lb]
  | c :: l => by
    unfold lb
    rw [List.takeWhile_cons]
    split
    · have := lb_le id l
      unfold lb at this
      simp; omega
    · simp
theorem lb_lt (id : Int) : ∀ (l : List Cl) (i : Nat) (c : Cl), i < lb id l → l[i]? = some c → c.id < id
  | [], i, c, h, _ => by simp [lb] at h
  | d :: l, i, c, h, hc => by
    unfold lb at h
    rw [List.takeWhile_cons] at h
    split at h
    · rename_i hd
      cases i with
      | zero => simp at hc; subst hc; simpa using hd
      | succ i => exact lb_lt id l i c (by unfold lb; simpa using h) (by simpa using hc)
    · simp at h
theorem lb_ge (id : Int) : ∀ (l : List Cl), Sorted l → ∀ (i : Nat) (c : Cl), lb id l ≤ i → l[i]? = some c → id ≤ c.id
  | [], _, i, c, _, hc => by simp at hc
  | d :: l, hs, i, c, h, hc => by
    unfold Sorted at hs
    rw [List.pairwise_cons] at hs
    unfold lb at h
    rw [List.takeWhile_cons] at h
    split at h
    · cases i with
      | zero => simp at h
      | succ i => exact lb_ge id l hs.2 i c (by unfold lb; simpa using h) (by simpa using hc)
    · rename_i hd
      have hd' : id ≤ d.id := by simpa using hd
      cases i with
      | zero => simp at hc; subst hc; exact hd'
      | succ i =>
        have := hs.1 c (List.mem_of_getElem? (by simpa using hc))
        omega
theorem lb_unique {id : Int} {l : List Cl} (hs : Sorted l) {i : Nat} (hi : i ≤ l.length) (h1 : ∀ (j : Nat) (c : Cl), j < i → l[j]? = some c → c.id < id) (h2 : ∀ (j : Nat) (c : Cl), i ≤ j → l[j]? = some c → id ≤ c.id) : i = lb id l := by
  have hl := lb_le id l
  rcases Nat.lt_trichotomy i (lb id l) with h | h | h
  · have hc : l[i]? = some l[i] := List.getElem?_eq_getElem (by omega)
    have := lb_lt id l i _ h hc
    have := h2 i _ (Nat.le_refl _) hc
    omega
  · exact h
  · have hc : l[lb id l]? = some (l[lb id l]'(by omega)) := List.getElem?_eq_getElem (by omega)
    have := lb_ge id l hs _ _ (Nat.le_refl _) hc
    have := h1 _ _ h hc
    omega
/-- Is there such a client? -/
def hasL (id : Int) (l : List Cl) : Bool := l.any fun c => c.id == id
theorem has_lb {id : Int} {l : List Cl} (hs : Sorted l) : hasL id l = (match l[lb id l]? with
    | none => false
    | some c => c.id == id) := by
  rw [Bool.eq_iff_iff]
  unfold hasL
  rw [List.any_eq_true]
  constructor
  · rintro ⟨c, hc, he⟩
    rw [beq_iff_eq] at he
    obtain ⟨i, hi⟩ := List.getElem?_of_mem hc
    have h1 : ¬ i < lb id l := fun h => by have := lb_lt id l i c h hi; omega
    have hil := (List.getElem?_eq_some_iff.1 hi).1
    have hb : l[lb id l]? = some (l[lb id l]'(by omega)) := List.getElem?_eq_getElem (by omega)
    rw [hb]
    have h2 := lb_ge id l hs _ _ (Nat.le_refl _) hb
    simp only [beq_iff_eq]
    rcases Nat.lt_or_eq_of_le (Nat.not_lt.1 h1) with h3 | h3
    · have := List.pairwise_iff_getElem.1 hs (lb id l) i (by omega) hil h3
      have e : l[i] = c := by rw [List.getElem?_eq_getElem hil] at hi; exact Option.some.inj hi
      rw [e] at this
      omega
    · have e : l[lb id l]'(by omega) = c := by
        have := hi
        rw [← h3, hb] at this
        exact Option.some.inj this
      rw [e]; exact he
  · intro h
    cases hb : l[lb id l]? with
    | none => rw [hb] at h; cases h
    | some c => rw [hb] at h; exact ⟨c, List.mem_of_getElem? hb, h⟩
theorem ins_eq (c : Cl) : ∀ (l : List Cl), hasL c.id l = false → l.take (lb c.id l) ++ c :: l.drop (lb c.id l) = insL c l
  | [], _ => by simp [lb, insL]
  | d :: l, h => by
    unfold hasL at h
    rw [List.any_cons, Bool.or_eq_false_iff] at h
    have hne : d.id ≠ c.id := by simpa using h.1
    unfold lb insL
    rw [List.takeWhile_cons]
    by_cases hd : d.id < c.id
    · rw [if_pos (by simpa using hd), if_neg (by omega)]
      have := ins_eq c l h.2
      unfold lb at this
      simpa using this
    · rw [if_neg (by simpa using hd), if_pos (by omega)]
      simp
theorem ins_mem {c x : Cl} : ∀ {l : List Cl}, x ∈ insL c l ↔ x = c ∨ x ∈ l
  | [] => by simp [insL]
  | d :: l => by
    unfold insL
    split
    · simp
    · rw [List.mem_cons, ins_mem, List.mem_cons]
      constructor
      · rintro (h | h | h)
        · exact .inr (.inl h)
        · exact .inl h
        · exact .inr (.inr h)
      · rintro (h | h | h)
        · exact .inr (.inl h)
        · exact .inl h
        · exact .inr (.inr h)
theorem ins_len (c : Cl) : ∀ (l : List Cl), (insL c l).length = l.length + 1
  | [] => rfl
  | d :: l => by
    unfold insL
    split
    · simp
    · simp [ins_len c l]
theorem ins_sorted (c : Cl) : ∀ (l : List Cl), Sorted l → hasL c.id l = false → Sorted (insL c l)
  | [], _, _ => by simp [insL, Sorted]
  | d :: l, hs, h => by
    unfold hasL at h
    rw [List.any_cons, Bool.or_eq_false_iff] at h
    have hne : d.id ≠ c.id := by simpa using h.1
    have hs' := hs
    unfold Sorted at hs
    rw [List.pairwise_cons] at hs
    unfold insL
    split
    · rename_i hlt
      unfold Sorted
      rw [List.pairwise_cons]
      refine ⟨fun x hx => ?_, hs'⟩
      rcases List.mem_cons.1 hx with rfl | hx
      · exact hlt
      · have := hs.1 x hx
        omega
    · unfold Sorted
      rw [List.pairwise_cons]
      refine ⟨fun x hx => ?_, ins_sorted c l hs.2 h.2⟩
      rcases ins_mem.1 hx with rfl | hx
      · omega
      · exact hs.1 x hx
theorem level_sorted {l : List Cl} (h : Sorted l) : Sorted (levelL l) := by
  unfold Sorted levelL
  rw [List.pairwise_map]
  exact h
theorem level_lev {l : List Cl} (h1 : ∀ c ∈ l, okCl c) (hs : Sorted l) : Lev (levelL l) := by
  refine ⟨fun c hc => ?_, fun hn => ?_, fun i j c d hc hd e => ?_⟩
  · obtain ⟨d, hd, rfl⟩ := List.mem_map.1 hc
    obtain ⟨k1, k2, k3, k4⟩ := h1 d hd
    have := least_le hd
    have hne : l ≠ [] := by intro e; rw [e] at hd; cases hd
    obtain ⟨x, hx, he⟩ := least_mem hne
    have := (h1 x hx).2.2.1
    exact ⟨k1, k2, by show 0 ≤ d.p - leastP l; omega, by show d.p - leastP l ≤ sd d.t; omega⟩
  · have hne : l ≠ [] := by intro e; rw [e] at hn; exact hn rfl
    obtain ⟨x, hx, he⟩ := least_mem hne
    exact ⟨_, List.mem_map.2 ⟨x, hx, rfl⟩, by show x.p - leastP l = 0; omega⟩
  · have hs' := List.pairwise_iff_getElem.1 (level_sorted hs)
    obtain ⟨hi, rfl⟩ := List.getElem?_eq_some_iff.1 hc
    obtain ⟨hj, rfl⟩ := List.getElem?_eq_some_iff.1 hd
    rcases Nat.lt_trichotomy i j with h | h | h
    · have := hs' i j hi hj h; omega
    · exact h
    · have := hs' j i hj hi h; omega
/-- What a group is, all the time. -/
def GoodG (l : List Cl) : Prop := Lev l ∧ Sorted l ∧ l.length ≤ 1024
theorem good_nil : GoodG [] := ⟨⟨(fun c h => by cases h), (fun h => absurd rfl h), (fun i j c d hc _ _ => by simp at hc)⟩, List.Pairwise.nil, by simp⟩
def joinL (l : List Cl) (id t rem : Int) : List Cl × Int :=
  if hasL id l = true then (l, 9) else if t < 1 ∨ 16 < t ∨ rem < 0 ∨ sd t < rem then (l, 1) else if l.length = 1024 then (l, 10) else (levelL (insL ⟨id, t, rem⟩ l), 0)
def leaveL (l : List Cl) (id : Int) : List Cl × Int × Int :=
  if hasL id l = true then (levelL (l.eraseIdx (lb id l)), (l.getD (lb id l) z0).p, 0) else (l, 0, 8)
def changeC (t : Int) (c : Cl) : Cl := ⟨c.id, t, c.p * c.t / t⟩
def changeL (l : List Cl) (id t : Int) : List Cl × Int :=
  if hasL id l = true then (if t < 1 ∨ 16 < t then (l, 1) else (levelL (l.modify (lb id l) (changeC t)), 0)) else (l, 8)
theorem join_good {l : List Cl} {id t rem : Int} (h : GoodG l) : GoodG (joinL l id t rem).1 := by
  unfold joinL
  split
  · exact h
  · rename_i h1
    split
    · exact h
    · rename_i h2
      split
      · exact h
      · rename_i h3
        have hh : hasL id l = false := by simpa using h1
        have hs := ins_sorted ⟨id, t, rem⟩ l h.2.1 hh
        refine ⟨level_lev (fun c hc => ?_) hs, level_sorted hs, ?_⟩
        · rcases ins_mem.1 hc with rfl | hc
          · exact ⟨by show 1 ≤ t; omega, by show t ≤ 16; omega, by show 0 ≤ rem; omega, by show rem ≤ sd t; omega⟩
          · exact h.1.1 c hc
        · show (levelL _).length ≤ 1024
          rw [level_len, ins_len]
          have := h.2.2
          omega
theorem leave_good {l : List Cl} {id : Int} (h : GoodG l) : GoodG (leaveL l id).1 := by
  unfold leaveL
  split
  · have hs : Sorted (l.eraseIdx (lb id l)) := List.Pairwise.sublist (List.eraseIdx_sublist _ _) h.2.1
    refine ⟨level_lev (fun c hc => h.1.1 c (List.mem_of_mem_eraseIdx hc)) hs, level_sorted hs, ?_⟩
    show (levelL _).length ≤ 1024
    rw [level_len]
    have := (List.eraseIdx_sublist l (lb id l)).length_le
    have := h.2.2
    omega
  · exact h
theorem change_ok {c : Cl} {t : Int} (h : okCl c) (h1 : 1 ≤ t) (h2 : t ≤ 16) : okCl (changeC t c) := by
  obtain ⟨k1, k2, k3, k4⟩ := h
  have hs := sd_mul k1 k2
  have hb : c.p * c.t ≤ SQ := by
    have := Int.mul_le_mul_of_nonneg_right k4 (show 0 ≤ c.t by omega)
    omega
  have h0 : 0 ≤ c.p * c.t := Int.mul_nonneg k3 (by omega)
  exact ⟨h1, h2, Int.ediv_nonneg h0 (by omega), Int.ediv_le_ediv (by omega) hb⟩
theorem change_good {l : List Cl} {id t : Int} (h : GoodG l) : GoodG (changeL l id t).1 := by
  unfold changeL
  split
  · split
    · exact h
    · rename_i h2
      have hmod : ∀ c ∈ l.modify (lb id l) (changeC t), okCl c := fun c hc => by
        obtain ⟨i, hi⟩ := List.getElem?_of_mem hc
        rw [List.getElem?_modify] at hi
        obtain ⟨d, hd, rfl⟩ := Option.map_eq_some_iff.1 hi
        have hok := h.1.1 d (List.mem_of_getElem? hd)
        split
        · exact change_ok hok (by omega) (by omega)
        · exact hok
      have hs : Sorted (l.modify (lb id l) (changeC t)) := by
        unfold Sorted
        rw [List.pairwise_iff_getElem]
        intro i j hi hj hij
        rw [List.length_modify] at hi hj
        have := List.pairwise_iff_getElem.1 h.2.1 i j hi hj hij
        rw [List.getElem_modify, List.getElem_modify]
        have e : ∀ c : Cl, (changeC t c).id = c.id := fun _ => rfl
        split <;> split <;> first | exact this | (simp only [e]; exact this)
      exact ⟨level_lev hmod hs, level_sorted hs, by show (levelL _).length ≤ 1024; rw [level_len, List.length_modify]; exact h.2.2⟩
  · exact h
theorem pick_good {l : List Cl} (h : GoodG l) : GoodG (pickL l).1 := by
  refine ⟨pick_ok h.1, ?_, by rw [pick_len]; exact h.2.2⟩
  refine level_sorted ?_
  unfold Sorted
  rw [List.pairwise_iff_getElem]
  intro i j hi hj hij
  rw [List.length_modify] at hi hj
  have := List.pairwise_iff_getElem.1 h.2.1 i j hi hj hij
  rw [List.getElem_modify, List.getElem_modify]
  have e : ∀ c : Cl, (bump c).id = c.id := fun _ => rfl
  split <;> split <;> first | exact this | (simp only [e]; exact this)

theorem level_zero {l : List Cl} (h : leastP l = 0) : levelL l = l := by
  unfold levelL
  rw [h]
  conv => rhs; rw [← List.map_id l]
  exact List.map_congr_left fun c _ => by show (⟨c.id, c.t, c.p - 0⟩ : Cl) = c; rw [Int.sub_zero]
theorem least_zero {l : List Cl} (h : ∀ c ∈ l, 0 ≤ c.p) (hz : ∃ c ∈ l, c.p = 0) : leastP l = 0 := by
  obtain ⟨c, hc, h0⟩ := hz
  have h1 := least_le hc
  have hne : l ≠ [] := by intro e; rw [e] at hc; cases hc
  obtain ⟨d, hd, he⟩ := least_mem hne
  have := h d hd
  omega
theorem has_get {l : List Cl} {id : Int} (hs : Sorted l) (h : hasL id l = true) : ∃ c, l[lb id l]? = some c ∧ c.id = id := by
  rw [has_lb hs] at h
  cases hb : l[lb id l]? with
  | none => rw [hb] at h; cases h
  | some c => rw [hb] at h; exact ⟨c, rfl, by simpa using h⟩
theorem erase_has {l : List Cl} {id : Int} (hs : Sorted l) (h : hasL id l = true) : hasL id (l.eraseIdx (lb id l)) = false := by
  obtain ⟨c, hc, he⟩ := has_get hs h
  obtain ⟨hlt, hce⟩ := List.getElem?_eq_some_iff.1 hc
  unfold hasL
  rw [List.any_eq_false]
  intro d hd
  simp only [beq_iff_eq]
  obtain ⟨j, hj⟩ := List.getElem?_of_mem hd
  rw [List.getElem?_eraseIdx] at hj
  have hp := List.pairwise_iff_getElem.1 hs
  split at hj
  · rename_i hlt2
    obtain ⟨hjl, hje⟩ := List.getElem?_eq_some_iff.1 hj
    have := hp j (lb id l) hjl hlt hlt2
    rw [hje, hce] at this
    omega
  · rename_i hge
    obtain ⟨hjl, hje⟩ := List.getElem?_eq_some_iff.1 hj
    have := hp (lb id l) (j + 1) hlt hjl (by omega)
    rw [hje, hce] at this
    omega
theorem erase_mem {l : List Cl} {id : Int} (hs : Sorted l) (h : hasL id l = true) {d : Cl} : d ∈ l.eraseIdx (lb id l) ↔ d ∈ l ∧ d.id ≠ id := by
  constructor
  · intro hd
    refine ⟨List.mem_of_mem_eraseIdx hd, fun e => ?_⟩
    have := erase_has hs h
    unfold hasL at this
    rw [List.any_eq_false] at this
    exact this d hd (by simpa using e)
  · rintro ⟨hd, hne⟩
    obtain ⟨j, hj⟩ := List.getElem?_of_mem hd
    obtain ⟨c, hc, he⟩ := has_get hs h
    have hjne : j ≠ lb id l := by
      intro e
      rw [e, hc] at hj
      have := Option.some.inj hj
      rw [← this] at hne
      exact hne he
    rw [List.mem_iff_getElem?]
    rcases Nat.lt_or_ge j (lb id l) with h1 | h1
    · exact ⟨j, by rw [List.getElem?_eraseIdx, if_pos h1]; exact hj⟩
    · refine ⟨j - 1, ?_⟩
      rw [List.getElem?_eraseIdx, if_neg (by omega), show j - 1 + 1 = j by omega]
      exact hj
/-- What is put back where it was. -/
theorem ins_back : ∀ (l : List Cl) (id : Int) (c : Cl), Sorted l → l[lb id l]? = some c → c.id = id → insL c (l.eraseIdx (lb id l)) = l
  | [], id, c, _, hc, _ => by simp at hc
  | d :: l, id, c, hs, hc, he => by
    have hs' := hs
    unfold Sorted at hs
    rw [List.pairwise_cons] at hs
    by_cases hd : d.id < id
    · have e : lb id (d :: l) = lb id l + 1 := by unfold lb; rw [List.takeWhile_cons, if_pos (by simpa using hd)]; rfl
      rw [e] at hc ⊢
      rw [List.eraseIdx_cons_succ]
      unfold insL
      rw [if_neg (by omega), ins_back l id c hs.2 (by simpa using hc) he]
    · have e : lb id (d :: l) = 0 := by unfold lb; rw [List.takeWhile_cons, if_neg (by simpa using hd)]; rfl
      rw [e] at hc ⊢
      simp at hc
      subst hc
      rw [List.eraseIdx_cons_zero]
      cases l with
      | nil => rfl
      | cons x l =>
        unfold insL
        rw [if_pos (hs.1 x List.mem_cons_self)]
/-- P9.1: who leaves, and joins at once with the pass that was told. -/
theorem leave_join {l : List Cl} {id : Int} (h : GoodG l) (hh : hasL id l = true) :
    ∃ c, l[lb id l]? = some c ∧ c.id = id ∧ (leaveL l id).2 = (c.p, 0) ∧ (leaveL l id).1.length = l.length - 1 ∧ (joinL (leaveL l id).1 id c.t c.p).2 = 0 ∧ (joinL (leaveL l id).1 id c.t c.p).1.length = l.length ∧
      ((∃ d ∈ l, d.id ≠ id ∧ d.p = 0) → (joinL (leaveL l id).1 id c.t c.p).1 = l) := by
  obtain ⟨hL, hs, hlen⟩ := h
  obtain ⟨c, hc, he⟩ := has_get hs hh
  have hlt := (List.getElem?_eq_some_iff.1 hc).1
  obtain ⟨k1, k2, k3, k4⟩ := hL.1 c (List.mem_of_getElem? hc)
  have hl1 : (leaveL l id).1 = levelL (l.eraseIdx (lb id l)) := by unfold leaveL; rw [if_pos hh]
  have hl2 : (leaveL l id).2 = (c.p, 0) := by
    unfold leaveL
    rw [if_pos hh, List.getD_eq_getElem?_getD, hc]
    rfl
  have hno : hasL id (levelL (l.eraseIdx (lb id l))) = false := by
    have := erase_has hs hh
    unfold hasL at this ⊢
    unfold levelL
    rw [List.any_map]
    exact this
  have hel : (l.eraseIdx (lb id l)).length = l.length - 1 := by rw [List.length_eraseIdx, if_pos hlt]
  have hj : joinL (levelL (l.eraseIdx (lb id l))) id c.t c.p = (levelL (insL ⟨id, c.t, c.p⟩ (levelL (l.eraseIdx (lb id l)))), 0) := by
    unfold joinL
    rw [if_neg (by rw [hno]; simp), if_neg (by omega), if_neg (by rw [level_len, hel]; omega)]
  refine ⟨c, hc, he, hl2, by rw [hl1, level_len, hel], by rw [hl1, hj], by rw [hl1, hj]; show (levelL _).length = _; rw [level_len, ins_len, level_len, hel]; omega, ?_⟩
  rintro ⟨d, hd, hne, hz⟩
  have hz1 : leastP (l.eraseIdx (lb id l)) = 0 := least_zero (fun x hx => (hL.1 x (List.mem_of_mem_eraseIdx hx)).2.2.1) ⟨d, (erase_mem hs hh).2 ⟨hd, hne⟩, hz⟩
  have hb : insL ⟨id, c.t, c.p⟩ (l.eraseIdx (lb id l)) = l := by
    have e : (⟨id, c.t, c.p⟩ : Cl) = c := by rw [← he]
    rw [e]
    exact ins_back l id c hs hc he
  rw [hl1, hj, level_zero hz1, hb]
  exact level_zero (least_zero (fun x hx => (hL.1 x hx).2.2.1) ⟨d, hd, hz⟩)
/-- Two runs, one behind the other. -/
theorem run_app : ∀ (a b : Nat) (l : List Cl), runL (a + b) l = ((runL b (runL a l).1).1, (runL a l).2 ++ (runL b (runL a l).1).2)
  | 0, b, l => by rw [Nat.zero_add]; rfl
  | a + 1, b, l => by
    rw [show a + 1 + b = (a + b) + 1 by omega]
    show ((runL (a + b) (pickL l).1).1, (pickL l).2 :: (runL (a + b) (pickL l).1).2) = _
    rw [run_app a b]
    rfl

/-- The least taken off the first i. -/
def subP (m : Int) (c : Cl) : Cl := { c with p := c.p - m }
def lvl (m : Int) (i : Nat) (l : List Cl) : List Cl := (l.take i).map (subP m) ++ l.drop i
theorem lvl_zero (m : Int) (l : List Cl) : lvl m 0 l = l := by simp [lvl]
theorem lvl_len (m : Int) (i : Nat) (l : List Cl) : (lvl m i l).length = l.length := by
  unfold lvl
  rw [List.length_append, List.length_map, ← List.length_append, List.take_append_drop]
theorem lvl_all (l : List Cl) : lvl (leastP l) l.length l = levelL l := by
  unfold lvl levelL
  rw [List.take_length, List.drop_length, List.append_nil]
  rfl
theorem lvl_get {m : Int} {i : Nat} {l : List Cl} {c : Cl} (hc : l[i]? = some c) : (lvl m i l)[i]? = some c := by
  have hi := (List.getElem?_eq_some_iff.1 hc).1
  unfold lvl
  rw [List.getElem?_append_right (by simp; omega)]
  have : i - ((l.take i).map (subP m)).length = 0 := by simp; omega
  rw [this, List.getElem?_drop]
  exact hc
theorem lvl_step {m : Int} {i : Nat} {l : List Cl} {c : Cl} (hc : l[i]? = some c) : (lvl m i l).modify i (fun d => { d with p := c.p - m }) = lvl m (i + 1) l := by
  have hi := (List.getElem?_eq_some_iff.1 hc).1
  have hcl : l[i] = c := (List.getElem?_eq_some_iff.1 hc).2
  have hd : l.drop i = c :: l.drop (i + 1) := by rw [List.drop_eq_getElem_cons hi, hcl]
  have ht : l.take (i + 1) = l.take i ++ [c] := by rw [List.take_succ_eq_append_getElem hi, hcl]
  unfold lvl
  rw [hd, ht, List.map_append, List.append_assoc]
  have hl : ((l.take i).map (subP m)).length = i := by simp; omega
  rw [List.modify_eq_take_drop, List.take_left' hl, List.drop_left' hl]
  rfl
/-- The client that is least far has the least pass. -/
theorem first_least {l : List Cl} (h : l ≠ []) : ∃ c, l[firstL l]? = some c ∧ c.p = leastP l := by
  obtain ⟨h1, h2⟩ := firstL_spec h
  refine ⟨l[firstL l], List.getElem?_eq_getElem h1, ?_⟩
  obtain ⟨d, hd, he⟩ := least_mem h
  have h3 := h2 d hd
  rw [List.getD_eq_getElem?_getD, List.getElem?_eq_getElem h1] at h3
  simp only [Option.getD_some] at h3
  have h4 := least_le (List.getElem_mem h1)
  omega
/-- A step of the search for the client that is least far. -/
def fstep (l : List Cl) (best i : Nat) : Nat := if (l.getD i ⟨0, 0, 0⟩).p < (l.getD best ⟨0, 0, 0⟩).p then i else best
theorem firstFrom_drop (l : List Cl) (best i : Nat) (hi : i < l.length) : firstFrom l best i (l.drop i) = firstFrom l (fstep l best i) (i + 1) (l.drop (i + 1)) := by
  rw [List.drop_eq_getElem_cons hi, firstFrom]
  unfold fstep
  rw [show l.getD i ⟨0, 0, 0⟩ = l[i] by simp [hi]]
theorem lb_upper {id : Int} {l : List Cl} {h : Nat} {c : Cl} (hc : l[h]? = some c) (hle : id ≤ c.id) : lb id l ≤ h := by
  rcases Nat.lt_or_ge h (lb id l) with h1 | h1
  · have := lb_lt id l h c h1 hc; omega
  · exact h1
theorem lb_lower {id : Int} {l : List Cl} (hs : Sorted l) {h : Nat} {c : Cl} (hc : l[h]? = some c) (hlt : c.id < id) : h < lb id l := by
  rcases Nat.lt_or_ge h (lb id l) with h1 | h1
  · exact h1
  · have := lb_ge id l hs h c h1 hc; omega
theorem sd_nonneg {t : Int} (h1 : 1 ≤ t) (h2 : t ≤ 16) : 0 ≤ sd t ∧ sd t ≤ 720720 := by
  have := sd_pos h1 h2
  exact ⟨by omega, this.2⟩

end Go.Proofs.Ytkcmmghhghgdpaa.Str
