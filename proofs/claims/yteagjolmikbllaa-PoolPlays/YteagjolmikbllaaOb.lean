/-
  The pool as a state: its block, its map, its stack and its tokens; how it lives on. Conditions: none.
-/
import Derived.Test.YteagjolmikbllaaMp
import Derived.Test.YteagjolmikbllaaWMore
import Derived.Test.YteagjolmikbllaaWKept
set_option linter.unusedVariables false
set_option linter.unusedSimpArgs false
namespace Go.Proofs.Yteagjolmikbllaa.Ob
open Go.RowKit Go.Proofs.YteagjolmikbllaaW.PrintWords Go.Proofs.Yteagjolmikbllaa.Mp
abbrev kI := Kd.int .i64
abbrev intOf (v : Value) : Int := Go.RowKit.intOf v
/-- What a pool is: its size; what each connection is; those that are idle. -/
structure PS where
  size : Nat
  what : PL
  stack : List Int
/-- The blocks that belong to the pool at block g. -/
def Own (W : World) (g k : Nat) : Prop := ∃ mb v cb, W.heap[g]? = some (.cells #[.map (some mb), v, .chan (some cb)] 59 (0, 0)) ∧ (k = g ∨ k = mb ∨ k = cb ∨ v.ownBlock = some k)
def IsP (w0 W : World) (g : Nat) (s : PS) : Prop := ∃ mb v cb buf sn rc,
  W.heap[g]? = some (.cells #[.map (some mb), v, .chan (some cb)] 59 (0, 0)) ∧ w0.heap.size ≤ g ∧
  MapI W mb s.what ∧ w0.heap.size ≤ mb ∧
  kI.R 3 W w0.heap.size (fun _ => True) v s.stack ∧
  W.heap[cb]? = some (.chan s.size buf false sn rc false) ∧ w0.heap.size ≤ cb ∧ buf.size + s.what.length = s.size ∧ s.size ≤ 8
section
variable {w0 W W1 W2 : World} {g k : Nat} {s : PS}
theorem Own.lt (h : Own W g k) (hI : IsP w0 W g s) : k < W.heap.size := by
  obtain ⟨mb, v, cb, hb, hk⟩ := h
  obtain ⟨mb', v', cb', buf, sn, rc, hb', _, hM, _, hR, hc, _⟩ := hI
  rw [hb] at hb'
  injection hb' with hb'
  injection hb' with hb' _
  injection hb' with hb'
  injection hb' with e1 hb'
  injection hb' with e2 hb'
  injection hb' with e3 _
  injection e1 with e1; injection e1 with e1
  injection e3 with e3; injection e3 with e3
  subst e1; subst e2; subst e3
  rcases hk with rfl | rfl | rfl | hk
  · exact blk_lt hb
  · exact hM.lt
  · exact blk_lt hc
  · obtain ⟨cs, hcs⟩ := Kd.R_typed hR k hk
    exact blk_lt hcs
theorem IsP.self (h : IsP w0 W g s) : Own W g g := by
  obtain ⟨mb, v, cb, buf, sn, rc, hb, _⟩ := h
  exact ⟨mb, v, cb, hb, .inl rfl⟩
theorem IsP.step (h : IsP w0 W g s) (hm : ∀ k, Own W g k → W1.heap[k]? = W.heap[k]?) : IsP w0 W1 g s := by
  obtain ⟨mb, v, cb, buf, sn, rc, hb, hg, hM, hgm, hR, hc, hgc, hl, h8⟩ := h
  refine ⟨mb, v, cb, buf, sn, rc, (hm g ⟨mb, v, cb, hb, .inl rfl⟩).trans hb, hg, hM.step (hm mb ⟨mb, v, cb, hb, .inr (.inl rfl)⟩), hgm, ?_, (hm cb ⟨mb, v, cb, hb, .inr (.inr (.inl rfl))⟩).trans hc, hgc, hl, h8⟩
  refine Kd.R_mono (Kd.R_move (Kd.R_tight rfl hR) (fun k hk => ?_)) (fun _ _ => trivial)
  exact hm k ⟨mb, v, cb, hb, .inr (.inr (.inr hk.symm))⟩
/-- The same blocks are the pool's, where none of them has turned. -/
theorem own_step (h : IsP w0 W g s) (hm : ∀ k, Own W g k → W1.heap[k]? = W.heap[k]?) : Own W1 g k ↔ Own W g k := by
  have e := hm g h.self
  unfold Own
  rw [e]
theorem IsP.below (h : IsP w0 W g s) (hw : Below W.heap.size W W1) : IsP w0 W1 g s := h.step (fun k hk => hw.block k (hk.lt h))
theorem IsP.alloc (h : IsP w0 W g s) (o : Obj) : IsP w0 (W.alloc o) g s := h.below (below_alloc (Below.refl _ _) o)
theorem IsP.drew (h : IsP w0 W g s) : IsP w0 W.drew g s := h.step (fun _ _ => rfl)
theorem IsP.grown {row : Option Nat} (h : IsP w0 W g s) (hw : W.grownBy W1 row) (hne : ∀ k, Own W g k → some k ≠ row) : IsP w0 W1 g s := h.step (fun k hk => hw.block k (hk.lt h) (hne k hk))
theorem IsP.far {p : Addr} (h : IsP w0 W g s) (hne : ¬ Own W g p.block) (u : Value) : IsP w0 (W.setCell p u) g s := h.step (fun k hk => Below.heap_setCell W p u k (fun e => hne (by rw [← e]; exact hk)))
theorem IsP.lt (h : IsP w0 W g s) : g < W.heap.size := h.self.lt h
theorem IsP.ge (h : IsP w0 W g s) (hk : Own W g k) : w0.heap.size ≤ k := by
  obtain ⟨mb, v, cb, hb, hk⟩ := hk
  obtain ⟨mb', v', cb', buf, sn, rc, hb', hg, hM, hgm, hR, hc, hgc, _⟩ := h
  rw [hb] at hb'
  injection hb' with hb'
  injection hb' with hb' _
  injection hb' with hb'
  injection hb' with e1 hb'
  injection hb' with e2 hb'
  injection hb' with e3 _
  injection e1 with e1; injection e1 with e1
  injection e3 with e3; injection e3 with e3
  subst e1; subst e2; subst e3
  rcases hk with rfl | rfl | rfl | hk
  · exact hg
  · exact hgm
  · exact hgc
  · exact Kd.R_base hR k hk
/-- What a call on the pool keeps: all but what is the pool's; and what wasn't the pool's isn't behind it. -/
def KeptP (g : Nat) (W W1 : World) : Prop := W.heap.size ≤ W1.heap.size ∧ (∀ k, k < W.heap.size → ¬ Own W g k → W1.heap[k]? = W.heap[k]?) ∧ ∀ k, k < W.heap.size → Own W1 g k → Own W g k
theorem KeptP.refl (g : Nat) (W : World) : KeptP g W W := ⟨Nat.le_refl _, fun _ _ _ => rfl, fun _ _ h => h⟩
theorem KeptP.trans (h : KeptP g W W1) (k : KeptP g W1 W2) : KeptP g W W2 :=
  ⟨Nat.le_trans h.1 k.1, fun i hi hn => (k.2.1 i (Nat.lt_of_lt_of_le hi h.1) (fun hk => hn (h.2.2 i hi hk))).trans (h.2.1 i hi hn), fun i hi hk => h.2.2 i hi (k.2.2 i (Nat.lt_of_lt_of_le hi h.1) hk)⟩
theorem KeptP.of_below (hI : IsP w0 W g s) (h : Below W.heap.size W W1) : KeptP g W W1 :=
  ⟨h.size, fun i hi _ => h.block i hi, fun i _ hk => (own_step hI (fun k hk => h.block k (hk.lt hI))).1 hk⟩
/-- A step that turns just one of the pool's blocks; the pool's block is the same, or its stack lies where it lay or in a new block. -/
theorem KeptP.of_grown {b : Nat} (hI : IsP w0 W g s) (hg : W.grownBy W1 (some b)) (hb : Own W g b) (ho : ∀ k, k < W.heap.size → Own W1 g k → Own W g k) : KeptP g W W1 :=
  ⟨hg.size, fun i hi hn => hg.block i hi (fun e => hn (by injection e with e; rw [e]; exact hb)), ho⟩
variable {α : Type} {d : Kd α} {e base : Nat} {ok : Nat → Prop} {v : Value} {xs : List α}
/-- A row that is none of the pool's lives on. -/
theorem KeptP.row (hk : KeptP g W W1) (h : d.R e W base (fun k => ¬ Own W g k) v xs) : d.R e W1 base (fun k => ¬ Own W1 g k) v xs := by
  refine Kd.R_mono (Kd.R_step (Kd.R_bound h) (fun k hk2 hlt => hk.2.1 k hlt hk2.1)) (fun k hk2 ho => ?_)
  exact hk2.1 (hk.2.2 k hk2.2.2.1 ho)
theorem KeptP.blk (hk : KeptP g W W1) {b : Nat} {o : Obj} (hb : W.heap[b]? = some o) (hn : ¬ Own W g b) : W1.heap[b]? = some o ∧ ¬ Own W1 g b :=
  ⟨(hk.2.1 b (blk_lt hb) hn).trans hb, fun h => hn (hk.2.2 b (blk_lt hb) h)⟩
/-- A row that is new is none of the pool's. -/
theorem IsP.new_row (hI : IsP w0 W g s) (hb : Below W.heap.size W W1) (h : d.R e W1 W.heap.size ok v xs) : d.R e W1 W.heap.size (fun k => ¬ Own W1 g k) v xs := by
  refine Kd.R_mono (Kd.R_bound h) (fun k hk ho => ?_)
  have h1 := (own_step hI (W1 := W1) (fun k hk => hb.block k (hk.lt hI))).1 ho
  have h2 := h1.lt hI
  have h3 := hk.2.1
  omega
theorem IsP.row_below (hI : IsP w0 W g s) (hb : Below W.heap.size W W1) (h : d.R e W base (fun k => ¬ Own W g k) v xs) : d.R e W1 base (fun k => ¬ Own W1 g k) v xs :=
  (KeptP.of_below hI hb).row h
theorem IsP.far_row (hI : IsP w0 W g s) (h : d.R e W base (fun k => ¬ Own W g k) v xs) : ∀ k, Own W g k → some k ≠ v.ownBlock := fun k hk he => h.1 k he.symm hk
/-- The state, opened. -/
theorem IsP.open_ (h : IsP w0 W g s) : ∃ mb A n cb buf sn rc, W.heap[g]? = some (.cells #[.map (some mb), .slice A s.stack.length n, .chan (some cb)] 59 (0, 0)) ∧ w0.heap.size ≤ g ∧
    MapI W mb s.what ∧ w0.heap.size ≤ mb ∧ kI.R 3 W w0.heap.size (fun _ => True) (.slice A s.stack.length n) s.stack ∧
    W.heap[cb]? = some (.chan s.size buf false sn rc false) ∧ w0.heap.size ≤ cb ∧ buf.size + s.what.length = s.size ∧ s.size ≤ 8 := by
  obtain ⟨mb, v, cb, buf, sn, rc, hb, hg, hM, hgm, hR, hc, hgc, hl, h8⟩ := h
  obtain ⟨A, n, rfl⟩ := Kd.R_slice hR
  exact ⟨mb, A, n, cb, buf, sn, rc, hb, hg, hM, hgm, hR, hc, hgc, hl, h8⟩
end
end Go.Proofs.Yteagjolmikbllaa.Ob
