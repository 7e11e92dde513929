/- (*Group).find: its contract. -/
import Derived.Test.YtkcmmghhghgdpaaStr2
namespace Go.Proofs.Ytkcmmghhghgdpaa.Str
open Go.RowKit Go.Shelf Go.Maps Go.Proofs.Ytkcmmghhghgdpaa.Iter Go.Proofs.YtkcmmghhghgdpaaW.PrintWords Go.Proofs.YtkcmmghhghgdpaaW.PrintLast
set_option linter.unusedVariables false
set_option linter.unusedSimpArgs false
def cmpV (a b : Int) : Int := if a < b then -1 else if b < a then 1 else 0
set_option maxRecDepth 100000 in
set_option maxHeartbeats 4000000 in
theorem cmp_calls (c : Cl) (id : Int) (W : World) : Calls Try.prog 74 #[encC c, .int .i64 id] W fun e W' => e = .returned (.int .i64 (cmpV c.id id)) ∧ Below W.heap.size W W' := by
  have L := Lib.hid ((Below.refl W.heap.size W).alloc (Nat.le_refl _) (.cells #[.int .i64 c.id, .int .i64 c.t, .int .i64 c.p] 44))
  by_cases h1 : c.id < id
  · have x1 : decide (c.id < id) = true := decide_eq_true h1
    have hv := Lib.hid (show cmpV c.id id = -1 from by unfold cmpV; rw [if_pos h1])
    go_enter Try.func74, Try.ntmps74
    go_wp2
    go_ret
    exact ⟨by rw [hv.out]; rfl, L.out⟩
  · have x1 : decide (c.id < id) = false := decide_eq_false h1
    by_cases h2 : id < c.id
    · have x2 : decide (id < c.id) = true := decide_eq_true h2
      have hv := Lib.hid (show cmpV c.id id = 1 from by unfold cmpV; rw [if_neg h1, if_pos h2])
      clear h1
      go_enter Try.func74, Try.ntmps74
      go_wp2
      go_ret
      exact ⟨by rw [hv.out]; rfl, L.out⟩
    · have x2 : decide (id < c.id) = false := decide_eq_false h2
      have hv := Lib.hid (show cmpV c.id id = 0 from by unfold cmpV; rw [if_neg h1, if_neg h2])
      clear h1 h2
      go_enter Try.func74, Try.ntmps74
      go_wp2
      go_ret
      exact ⟨by rw [hv.out]; rfl, L.out⟩

/-- The cells of clients that a slice reads. -/
def ReadsG (W : World) (A : Option Addr) (l : List Cl) : Prop := ∀ i c, l[i]? = some c → ∃ g, A = some ⟨g, 0, none⟩ ∧ g < W.heap.size ∧ W.cell? ⟨g, i * 3, none⟩ = some (.int .i64 c.id) ∧ W.cell? ⟨g, i * 3 + 1, none⟩ = some (.int .i64 c.t) ∧ W.cell? ⟨g, i * 3 + 2, none⟩ = some (.int .i64 c.p)
theorem ReadsG.below {W W' : World} {A : Option Addr} {l : List Cl} (h : ReadsG W A l) (hb : Below W.heap.size W W') : ReadsG W' A l := fun i c hc => by
  obtain ⟨g, rfl, hg, a, b, d⟩ := h i c hc
  exact ⟨g, rfl, Nat.lt_of_lt_of_le hg hb.size, (hb.cell (p := ⟨g, _, none⟩) hg).trans a, (hb.cell (p := ⟨g, _, none⟩) hg).trans b, (hb.cell (p := ⟨g, _, none⟩) hg).trans d⟩
theorem Grp.reads {B G : Nat} {A : Option Addr} {n c : Nat} {l : List Cl} {W : World} (h : Grp tG tC B G (.slice A n c) l W) : ReadsG W A l := fun i x hx => by
  rcases h.row.2 with ⟨_, h0⟩ | ⟨g, cap, cur, hv, _, hg, _⟩
  · have := (List.getElem?_eq_some_iff.1 hx).1
    omega
  · injection hv with e1 e2 e3
    subst e1
    obtain ⟨a, b, d⟩ := h.cellR hx
    exact ⟨g, rfl, (Array.getElem?_eq_some_iff.1 hg).1, a, b, d⟩

set_option maxRecDepth 100000 in
set_option maxHeartbeats 4000000 in
theorem search_calls (A : Option Addr) (cap : Nat) (l : List Cl) (id : Int) (W : World) (hs : Sorted l) (hlen : l.length ≤ 1024) (hcap : l.length ≤ cap) (hr : ReadsG W A l) :
    Calls Try.prog 73 #[.slice A l.length cap, .int .i64 id, .func (.func 74) #[] #[]] W fun e W' => e = .returned (.tuple #[.int .i64 (lb id l : Int), .bool (hasL id l)]) ∧ Below W.heap.size W W' := by
  have hlb := lb_le id l
  have hr' := Lib.hid hr
  have hs' := Lib.hid hs
  clear hr hs
  go_enter Try.func73, Try.ntmps73
  go_wp2
  go_loopw [9, 10] (fun iv jv wr => ∃ (i j : Nat), iv = .int .i64 (i : Int) ∧ jv = .int .i64 (j : Int) ∧ i ≤ lb id l ∧ lb id l ≤ j ∧ j ≤ l.length ∧ Below W.heap.size W wr)
    (fun iv jv _ => (intOf jv).toNat - (intOf iv).toNat)
  case atStart => exact ⟨0, l.length, rfl, rfl, Nat.zero_le _, hlb, Nat.le_refl _, Below.refl _ _⟩
  case round =>
    obtain ⟨i, j, rfl, rfl, hi, hj, hjl, hbel⟩ := hrel
    have hbel' := Lib.hid hbel
    by_cases hlt : i < j
    · have hh2 : (i + j) / 2 < l.length := by omega
      obtain ⟨c, hc⟩ : ∃ c, l[(i + j) / 2]? = some c := ⟨l[(i + j) / 2], List.getElem?_eq_getElem _⟩
      obtain ⟨g, hA, hgl, q0, q1, q2⟩ := (hr'.out.below hbel) _ c hc
      subst hA
      have hc' := Lib.hid hc
      clear hbel hc
      by_cases hlt2 : c.id < id
      · have hv : cmpV c.id id = -1 := by unfold cmpV; rw [if_pos hlt2]
        have hlow := lb_lower hs'.out hc'.out hlt2
        clear hlt2
        go_wp2_with (first | (go_at_call 74; refine (cmp_calls c id _).mono ?_; rintro e w9 ⟨rfl, hb⟩; have L2 := Lib.hid (hbel'.out.trans (hb.mono hbel'.out.size)); clear hb; try simp only [hv]))
        go_roundw
        case rel => exact ⟨(i + j) / 2 + 1, j, by first | go_num | (congr 1; omega), rfl, by omega, by omega, hjl, L2.out⟩
        case measure => simp [intOf]; omega
      · have hv : (cmpV c.id id < 0) = False := by unfold cmpV; rw [if_neg hlt2]; split <;> simp
        have hv2 : decide (cmpV c.id id < 0) = false := decide_eq_false (by rw [hv]; exact not_false)
        have hup := lb_upper hc'.out (show id ≤ c.id by omega)
        clear hlt2
        go_wp2_with (first | (go_at_call 74; refine (cmp_calls c id _).mono ?_; rintro e w9 ⟨rfl, hb⟩; have L2 := Lib.hid (hbel'.out.trans (hb.mono hbel'.out.size)); clear hb; try simp only [hv, hv2]))
        go_roundw
        case rel => exact ⟨i, (i + j) / 2, rfl, by first | go_num | (congr 1; omega), hi, by omega, by omega, L2.out⟩
        case measure => simp [intOf]; omega
    · have hij : i = lb id l := by omega
      have hij2 : j = lb id l := by omega
      subst hij
      subst hij2
      by_cases hlt2 : lb id l < l.length
      · obtain ⟨c, hc⟩ : ∃ c, l[lb id l]? = some c := ⟨l[lb id l], List.getElem?_eq_getElem _⟩
        obtain ⟨g, hA, hgl, q0, q1, q2⟩ := (hr'.out.below hbel) _ c hc
        subst hA
        have hge := lb_ge id l hs'.out _ c (Nat.le_refl _) hc
        have hhas : hasL id l = (c.id == id) := by rw [has_lb hs'.out, hc]
        have hhas' := Lib.hid hhas
        clear hbel hc hhas
        by_cases he : c.id = id
        · have hv : cmpV c.id id = 0 := by unfold cmpV; rw [if_neg (by omega), if_neg (by omega)]
          have hb' := Lib.hid (show hasL id l = true by rw [hhas'.out]; simpa using he)
          clear he hge
          go_wp2_with (first | (go_at_call 74; refine (cmp_calls c id _).mono ?_; rintro e w9 ⟨rfl, hb⟩; have L2 := Lib.hid (hbel'.out.trans (hb.mono hbel'.out.size)); clear hb; try simp only [hv]))
          go_ret2
          exact ⟨by rw [hb'.out]; rfl, L2.out⟩
        · have hv : cmpV c.id id = 1 := by unfold cmpV; rw [if_neg (by omega), if_pos (by omega)]
          have hb' := Lib.hid (show hasL id l = false by rw [hhas'.out]; simpa using he)
          clear he hge
          go_wp2_with (first | (go_at_call 74; refine (cmp_calls c id _).mono ?_; rintro e w9 ⟨rfl, hb⟩; have L2 := Lib.hid (hbel'.out.trans (hb.mono hbel'.out.size)); clear hb; try simp only [hv]))
          go_ret2
          exact ⟨by rw [hb'.out]; rfl, L2.out⟩
      · have hb' := Lib.hid (show hasL id l = false by rw [has_lb hs'.out, List.getElem?_eq_none (by omega)])
        have x1 : decide ((lb id l : Int) < (l.length : Int)) = false := decide_eq_false (by omega)
        clear hbel
        go_wp2
        go_ret2
        exact ⟨by rw [hb'.out]; rfl, hbel'.out⟩
set_option maxRecDepth 100000 in
set_option maxHeartbeats 4000000 in
theorem find_calls (B G : Nat) (v : Value) (l : List Cl) (id : Int) (W : World) (hs : Sorted l) (hlen : l.length ≤ 1024) (hg : Grp tG tC B G v l W) :
    Calls Try.prog 44 #[ptrG G, .int .i64 id] W fun e W' => e = .returned (.tuple #[.int .i64 (lb id l : Int), .bool (hasL id l)]) ∧ Below W.heap.size W W' := by
  obtain ⟨A, c, rfl, hcap⟩ : ∃ A c, v = .slice A l.length c ∧ l.length ≤ c := by
    rcases hg.row.2 with ⟨rfl, h0⟩ | ⟨g, cap, cur, rfl, _, _, hc, _⟩
    · exact ⟨none, 0, by rw [h0], by omega⟩
    · exact ⟨_, cap, rfl, hc⟩
  have g0 := hg.cellG
  have hr' := Lib.hid hg.reads
  clear hg
  go_enter Try.func44, Try.ntmps44
  go_wp2_with ((with_reducible refine gate_callee (f := 73) rfl ?_); refine goesL_ (some 11) rfl rfl Try.func73 (by kernel_rfl) rfl #[.slice A l.length c, .int .i64 id, .func (.func 74) #[] #[]] rfl (by (try simp only [List.map_toArray, List.map_cons, List.map_nil]); first | done | rfl) ?_; (with_reducible refine (search_calls A c l id _ hs hlen hcap hr'.out).mono ?_); rintro e w9 ⟨rfl, hb⟩; refine ⟨_, rfl, ?_⟩; have L := Lib.hid hb; clear hb)
  go_ret2
  exact ⟨rfl, L.out⟩
end Go.Proofs.Ytkcmmghhghgdpaa.Str
