/- What the last laws of stride share: rows that are read, rows of one's own that stay, structs compared. -/
import Derived.Test.YtkcmmghhghgdpaaStr16
import Derived.Test.YtkcmmghhghgdpaaStrS
import Derived.Test.YtkcmmghhghgdpaaWEqStruct
namespace Go.Proofs.Ytkcmmghhghgdpaa.Str
open Go.RowKit Go.Shelf Go.Maps Go.Proofs.Ytkcmmghhghgdpaa.Iter Go.Proofs.Ytkcmmghhghgdpaa.SeqM Go.Proofs.YtkcmmghhghgdpaaW.PrintWords Go.Proofs.YtkcmmghhghgdpaaW.PrintLast
set_option linter.unusedVariables false
set_option linter.unusedSimpArgs false
theorem own_readsG {W : World} {base : Nat} {A : Option Addr} {n c : Nat} {l : List Cl} (h : W.ownsRow base tC 3 (.slice A n c) l.length (flat l)) : ReadsG W A l ∧ (∀ ad, A = some ad → base ≤ ad.block ∧ ad.block < W.heap.size) ∧ n = l.length ∧ n ≤ c := by
  rcases h.2 with ⟨h1, h0⟩ | ⟨g, cap, cur, hv, hb, hg, hc, _⟩
  · simp at h1
    obtain ⟨rfl, rfl, rfl⟩ := h1
    refine ⟨fun j x hx => ?_, (fun ad h => by cases h), h0.symm, Nat.le_refl _⟩
    have := (List.getElem?_eq_some_iff.1 hx).1
    omega
  · injection hv with e1 e2 e3
    subst e1
    subst e2
    have hl : g < W.heap.size := (Array.getElem?_eq_some_iff.1 hg).1
    refine ⟨fun j x hx => ?_, (fun ad h => by obtain rfl := Option.some.inj h; exact ⟨hb, hl⟩), rfl, by omega⟩
    have hj := (List.getElem?_eq_some_iff.1 hx).1
    refine ⟨g, rfl, hl, ?_, ?_, ?_⟩
    · rw [h.cellAt (j * 3) (by omega)]
      have := flat_get l j 0 x (by omega) hx
      simpa [cC] using this
    · rw [h.cellAt (j * 3 + 1) (by omega)]
      have := flat_get l j 1 x (by omega) hx
      simpa [cC] using this
    · rw [h.cellAt (j * 3 + 2) (by omega)]
      have := flat_get l j 2 x (by omega) hx
      simpa [cC] using this
theorem ReadsG.mt {W W' : World} {A : Option Addr} {l : List Cl} {G : Nat} {r : Option Nat} (h : ReadsG W A l) (hb : Mt G r W W') (hn : ∀ ad, A = some ad → ad.block ≠ G ∧ some ad.block ≠ r) : ReadsG W' A l := fun j x hx => by
  obtain ⟨g, rfl, h1, a, b, c⟩ := h j x hx
  obtain ⟨n1, n2⟩ := hn _ rfl
  have e := hb.block g h1 n1 n2
  exact ⟨g, rfl, Nat.lt_of_lt_of_le h1 hb.size, (World.cell?_of_block (a := ⟨g, _, none⟩) e).trans a, (World.cell?_of_block (a := ⟨g, _, none⟩) e).trans b, (World.cell?_of_block (a := ⟨g, _, none⟩) e).trans c⟩
theorem wpList_append_run {P : Program} (w : World) {ops : Array Oper} {rest : List Oper} {o : Oper} {a : Act} {Q : Exit → Act → World → Prop} (hw : Region.wanted o (yielded ops a.tmps) = true) (d x : Operand) (dT sT : TypeId)
    (hop : o.op = Op.call { callee := Callee.builtin Builtin.append, args := #[d, x], argTypes := #[dT, sT] }) (v u : Value) (hd : a.eval d = v) (hx : a.eval x = u) {v' : Value} {w' : World}
    (hr : (Builtin.append_ #[dT, sT] o.type #[v, u]).run P w = .ok v' w') (h : wpList P ops Q rest (a.put o.dst v') w') : wpList P ops Q (o :: rest) a w := by
  unfold wpList
  rw [if_pos hw]
  left
  unfold Oper.wp
  simp [execOp, hop, resolve, invoke, builtin, hd, hx, hr, Result.andThen]
  exact h
/-- Two rows of numbers, one behind the other. -/
theorem run_app_ints {w : World} {base base2 : Nat} {v u : Value} {xs ys : List Int} (hx : w.ownsRow base 3 1 v xs.length (xs.map (Value.int .i64))) (hy : w.ownsRow base2 3 1 u ys.length (ys.map (Value.int .i64)))
    (hl : xs.length + ys.length ≤ 1000000) (hb : base ≤ w.heap.size) :
    ∃ v' w', (Builtin.append_ #[22, 22] 22 #[v, u]).run Try.prog w = .ok v' w' ∧ w'.ownsRow base 3 1 v' (xs ++ ys).length ((xs ++ ys).map (Value.int .i64)) ∧ w.grownBy w' v.ownBlock := by
  obtain ⟨i0, hif, hz0, hz1, hz2⟩ := info_parts infoInt
  rcases hy.2 with ⟨rfl, h0⟩ | ⟨g, cap, cur, rfl, _, hg, hc, hm, _⟩
  · obtain rfl := List.length_eq_zero_iff.1 h0
    refine ⟨v, w, run_append_owned_none w base 22 22 3 i0 1 Try.underlying22 hif v xs.length _ hx, by simpa using hx, ⟨rfl, rfl, rfl, Nat.le_refl _, fun _ _ _ => rfl⟩⟩
  · obtain ⟨v', w', h1, h2, h3, _⟩ := run_append_own2 (P := Try.prog) w base 22 22 3 i0 (.int .i64 0) 1 8 Try.underlying22 hif hz0 hz1 hz2 rfl (by decide) v xs.length _ hx ⟨g, 0, none⟩ ys.length cap _ (by simp) (hy.cells (g := g) rfl) (by intro z hz; obtain ⟨y, _, rfl⟩ := List.mem_map.1 hz; rfl) (by unfold maxLen; omega) (by omega) hb
    refine ⟨v', w', h1, ?_, h3⟩
    rw [List.length_append, List.map_append]
    exact h2
theorem ReadsI.grown {W W' : World} {A : Option Addr} {xs : List Int} {r : Option Nat} (h : ReadsI W A xs) (hb : W.grownBy W' r) (hn : ∀ ad, A = some ad → some ad.block ≠ r) : ReadsI W' A xs := fun j x hx => by
  obtain ⟨ad, rfl, h1, h2⟩ := h j x hx
  exact ⟨ad, rfl, Nat.lt_of_lt_of_le h1 hb.size, (World.cell?_of_block (by rw [add_block]; exact hb.block _ h1 (hn ad rfl))).trans h2⟩
theorem own_mt {w w' : World} {base e size n G : Nat} {v : Value} {xs : List Value} {r : Option Nat} (h : w.ownsRow base e size v n xs) (hm : Mt G r w w') (h1 : G < base) (h2 : ∀ k, r = some k → k < base) : w'.ownsRow base e size v n xs :=
  own_move h fun k hk => by
    obtain ⟨a, b, _⟩ := own_block h hk
    exact hm.block k b (by omega) (fun e => by have := h2 k e.symm; omega)
theorem own_below {w w' : World} {base e size n : Nat} {v : Value} {xs : List Value} (h : w.ownsRow base e size v n xs) (hm : Below w.heap.size w w') : w'.ownsRow base e size v n xs :=
  own_move h fun k hk => hm.block k (own_block h hk).2.1
theorem below_grown {B : Nat} {W X Y : World} {r : Option Nat} (hb : Below B W X) (hg : X.grownBy Y r) (hB : B ≤ W.heap.size) (hr : ∀ k, r = some k → B ≤ k) : Below B W Y :=
  ⟨hg.os.trans hb.os, hg.tape.trans hb.tape, hg.output.trans hb.output, Nat.le_trans hb.size hg.size, fun k hk => (hg.block k (by have := hb.size; omega) (fun e => by have := hr k e.symm; omega)).trans (hb.block k hk)⟩
/-- Another group's call. -/
theorem Grp.mtOther {B G H : Nat} {v : Value} {l : List Cl} {W W' : World} {r : Option Nat} (h : Grp tG tC B G v l W) (hm : Mt H r W W') (h1 : H < B) (h2 : ∀ k, r = some k → k < B) : Grp tG tC B G v l W' :=
  h.move (hm.block G h.lt (by have := h.base; omega) (fun e => by have := h2 G e.symm; have := h.base; omega)) (fun k hk => by
    obtain ⟨a, b, _⟩ := own_block h.row hk
    exact hm.block k b (by omega) (fun e => by have := h2 k e.symm; omega))
theorem runR_good {l : List Cl} (h : GoodG l) (n : Int) : GoodG (runR l n).1 := by
  unfold runR
  split
  · exact h
  · split
    · exact h
    · split
      · exact h
      · exact run_good' h _
theorem runs_nil (a : Nat) (h : a ≤ 100000) : runR [] (a : Int) = ([], [], if (a : Int) = 0 then 0 else 8) := by
  unfold runR
  rw [if_neg (by omega)]
  by_cases h0 : (a : Int) = 0
  · rw [if_pos h0, if_pos h0]
  · rw [if_neg h0, if_pos rfl, if_neg h0]
theorem runR_eq' {l : List Cl} {n : Nat} (hn : l ≠ []) (h : n ≤ 100000) : runR l (n : Int) = ((runL n l).1, (runL n l).2, 0) := by
  unfold runR
  rw [if_neg (by omega)]
  by_cases h0 : (n : Int) = 0
  · rw [if_pos h0]
    obtain rfl : n = 0 := by omega
    rfl
  · rw [if_neg h0, if_neg hn, Int.toNat_natCast]
theorem runs_more {l : List Cl} (hg : GoodG l) (hn : l ≠ []) (a b : Nat) (ha : a ≤ 500) (hb : b ≤ 500) : ∃ L1 L2 L3 xs ys, runR l (a : Int) = (L1, xs, 0) ∧ runR L1 (b : Int) = (L2, ys, 0) ∧ runR l ((a : Int) + (b : Int)) = (L3, xs ++ ys, 0) ∧ L3.length = l.length ∧ xs.length = a ∧ ys.length = b ∧ GoodG L1 ∧ GoodG L3 ∧
    ∀ j z, (xs ++ ys)[j]? = some z → (pickL (runL j l).1).2 = z := by
  have hl1 : (runL a l).1 ≠ [] := by intro e; have := run_len a l; rw [e] at this; exact hn (List.length_eq_zero_iff.1 this.symm)
  have happ := run_app a b l
  refine ⟨_, _, _, _, _, runR_eq' hn (by omega), runR_eq' hl1 (by omega), ?_, run_len (a + b) l, run_len2 a l, run_len2 b _, run_good' hg a, run_good' hg (a + b), fun j z hz => ?_⟩
  · rw [show (a : Int) + (b : Int) = ((a + b : Nat) : Int) by omega, runR_eq' hn (by omega), happ]
  · have hj := (List.getElem?_eq_some_iff.1 hz).1
    have := run_at l (a + b) j (by rw [List.length_append, run_len2, run_len2] at hj; exact hj)
    rw [happ] at this
    have h2 := this.symm.trans hz
    exact Option.some.inj h2
set_option maxRecDepth 100000 in
theorem eqC (d : Nat) (w : World) (x0 y0 x1 y1 x2 y2 : Int) :
    (Op.equalIn (d + 2) 44 (.agg #[.int .i64 x0, .int .i64 x1, .int .i64 x2]) (.agg #[.int .i64 y0, .int .i64 y1, .int .i64 y2])).run Try.prog w = .ok (x0 == y0 && (x1 == y1 && (x2 == y2))) w := by
  refine eqA_of Try.underlying44 (by kernel_rfl) ?_
  refine eqf_cons (by rfl) (by go_simp; rfl) (by go_simp; rfl) (by go_simp) ?_
  refine eqf_cons (by rfl) (by go_simp; rfl) (by go_simp; rfl) (by go_simp) ?_
  exact eqf_last (by rfl) (by go_simp; rfl) (by go_simp; rfl) (by go_simp)
theorem eqC_same (w : World) (c : Cl) : (Op.equalIn 10000 44 (.agg #[.int .i64 c.id, .int .i64 c.t, .int .i64 c.p]) (.agg #[.int .i64 c.id, .int .i64 c.t, .int .i64 c.p])).run Try.prog w = .ok true w := by
  have := eqC 9998 w c.id c.id c.t c.t c.p c.p
  simpa using this
theorem ReadsG.other {W : World} {A : Option Addr} {l : List Cl} (h : ReadsG W A l) {a : Addr} (u : Value) (hn : ∀ ad, A = some ad → ad.block ≠ a.block) : ReadsG (W.setCell a u) A l := fun j x hx => by
  obtain ⟨g, rfl, h1, p, q, r⟩ := h j x hx
  have hb := Below.heap_setCell W a u g (hn _ rfl)
  exact ⟨g, rfl, by simpa using h1, (World.cell?_of_block (a := ⟨g, _, none⟩) hb).trans p, (World.cell?_of_block (a := ⟨g, _, none⟩) hb).trans q, (World.cell?_of_block (a := ⟨g, _, none⟩) hb).trans r⟩
end Go.Proofs.Ytkcmmghhghgdpaa.Str
