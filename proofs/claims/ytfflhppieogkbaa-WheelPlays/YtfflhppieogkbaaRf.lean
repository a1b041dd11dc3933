/-
  The reference beside the wheel: its rows in its block, its functions by contract. Conditions: none.
-/
import Derived.Test.YtfflhppieogkbaaRp
set_option linter.unusedVariables false
set_option linter.unusedSimpArgs false
set_option maxRecDepth 100000
namespace Go.Proofs.Ytfflhppieogkbaa.Hp
open Go Go.RowKit Go.Proofs.YtfflhppieogkbaaW.PrintWords Go.Proofs.YtfflhppieogkbaaW.PrintLast Go.Proofs.YtfflhppieogkbaaW.PrintMore Go.Proofs.Ytfflhppieogkbaa.Mp Go.Proofs.Ytfflhppieogkbaa.PA Go.Proofs.Ytfflhppieogkbaa.PC
/-- A row that is read: none of the wheel's, not the reference's block. -/
abbrev Vw (W : World) (g B : Nat) (v : Value) (xs : List Int) : Prop := Kd.V kI 3 W 0 (fun k => ¬ Own W g k ∧ k ≠ B) v xs
section
variable {w0 W W1 : World} {g B : Nat} {s : WS} {l : PL} {v v1 v2 : Value} {xs : List Int}
theorem Vw.keep (h : Vw W g B v xs) (hk : Kp g W W1) : Vw W1 g B v xs :=
  Kd.V_mono (Kd.V_step (Kd.V_bound h) (fun k ok hlt => hk.t.block k hlt ok.1.1)) (fun k ok => ⟨fun ho => ok.1.1 (hk.own k ok.2 ho), ok.1.2⟩)
theorem Vw.below (h : Vw W g B v xs) (hI : IsW w0 W g s) (hb : Below W.heap.size W W1) : Vw W1 g B v xs := h.keep (.of_below hI hb)
theorem Vw.fresh {ok : Nat → Prop} {base : Nat} (hI : IsW w0 W g s) (hb : Below W.heap.size W W1) (hB : B < W.heap.size) (h : kI.R 3 W1 W.heap.size ok v xs) : Vw W1 g B v xs :=
  Kd.V_mono (Kd.R_V (base' := 0) (Kd.R_bound h)) (fun k hk => ⟨fun ho => by
    obtain ⟨ys, hX, _⟩ := hI
    have h1 := ((own_step hX (W1 := W1) (fun k hk => hb.block k (hk.lt hX))).1 ho).lt hX
    have h2 := hk.2.1
    omega, by have := hk.2.1; omega⟩)
/-- The reference's state in its block. -/
def RefAt (w0 W : World) (g B : Nat) (l : PL) : Prop := w0.heap.size ≤ B ∧ ¬ Own W g B ∧ ∃ A1 c1 A2 c2, W.heap[B]? = some (.cells #[.slice A1 l.length c1, .slice A2 l.length c2] 46 (0, 0)) ∧ Vw W g B (.slice A1 l.length c1) (keys l) ∧ Vw W g B (.slice A2 l.length c2) (vals l)
theorem RefAt.keep (h : RefAt w0 W g B l) (hk : Kp g W W1) : RefAt w0 W1 g B l := by
  obtain ⟨h1, h2, A1, c1, A2, c2, hb, r1, r2⟩ := h
  obtain ⟨hb', h2'⟩ := hk.blk hb h2
  exact ⟨h1, h2', A1, c1, A2, c2, hb', r1.keep hk, r2.keep hk⟩
theorem RefAt.below (h : RefAt w0 W g B l) (hI : IsW w0 W g s) (hb : Below W.heap.size W W1) : RefAt w0 W1 g B l := h.keep (.of_below hI hb)
/-- The reference's block is written. -/
theorem ref_put {A1 A2 : Option Addr} {c1 c2 : Nat} (hI : IsW w0 W g s) (hB : Below w0.heap.size w0 W) (hb : w0.heap.size ≤ B) (hn : ¬ Own W g B) (hblk : W.heap[B]? = some (.cells #[v1, v2] 46 (0, 0)))
    (r1 : Vw W g B (.slice A1 l.length c1) (keys l)) (r2 : Vw W g B (.slice A2 l.length c2) (vals l)) :
    RefAt w0 ((W.setCell ⟨B, 0, none⟩ (.slice A1 l.length c1)).setCell ⟨B, 1, none⟩ (.slice A2 l.length c2)) g B l ∧ IsW w0 ((W.setCell ⟨B, 0, none⟩ (.slice A1 l.length c1)).setCell ⟨B, 1, none⟩ (.slice A2 l.length c2)) g s ∧
    Below w0.heap.size w0 ((W.setCell ⟨B, 0, none⟩ (.slice A1 l.length c1)).setCell ⟨B, 1, none⟩ (.slice A2 l.length c2)) ∧ (∀ k, k ≠ B → ((W.setCell ⟨B, 0, none⟩ (.slice A1 l.length c1)).setCell ⟨B, 1, none⟩ (.slice A2 l.length c2)).heap[k]? = W.heap[k]?) ∧
    (∀ k, Own ((W.setCell ⟨B, 0, none⟩ (.slice A1 l.length c1)).setCell ⟨B, 1, none⟩ (.slice A2 l.length c2)) g k ↔ Own W g k) := by
  obtain ⟨u1, hu1⟩ : ∃ u, Value.slice A1 l.length c1 = u := ⟨_, rfl⟩
  obtain ⟨u2, hu2⟩ : ∃ u, Value.slice A2 l.length c2 = u := ⟨_, rfl⟩
  have hoth : ∀ k, k ≠ B → ((W.setCell ⟨B, 0, none⟩ u1).setCell ⟨B, 1, none⟩ u2).heap[k]? = W.heap[k]? := fun k hk => (Below.heap_setCell _ ⟨B, 1, none⟩ _ k hk).trans (Below.heap_setCell _ ⟨B, 0, none⟩ _ k hk)
  have hst : ∀ k, Own W g k → ((W.setCell ⟨B, 0, none⟩ u1).setCell ⟨B, 1, none⟩ u2).heap[k]? = W.heap[k]? := fun k ho => hoth k (fun e => hn (by rw [← e]; exact ho))
  have hown : ∀ k, Own ((W.setCell ⟨B, 0, none⟩ u1).setCell ⟨B, 1, none⟩ u2) g k ↔ Own W g k := fun k => by
    obtain ⟨ys, hX, _⟩ := hI
    exact own_step hX hst
  have hrow : ∀ {v : Value} {xs : List Int}, Vw W g B v xs → Vw ((W.setCell ⟨B, 0, none⟩ u1).setCell ⟨B, 1, none⟩ u2) g B v xs := fun {v xs} h =>
    Kd.V_mono (Kd.V_step h (fun k ok _ => hoth k ok.2)) (fun k ok => ⟨fun ho => ok.1 ((hown k).1 ho), ok.2⟩)
  have hb2 : ((W.setCell ⟨B, 0, none⟩ u1).setCell ⟨B, 1, none⟩ u2).heap[B]? = some (.cells #[u1, u2] 46 (0, 0)) := by simpa using blk_set (blk_set hblk 0 u1) 1 u2
  have q1 := hrow r1
  have q2 := hrow r2
  subst hu1
  subst hu2
  refine ⟨⟨hb, fun ho => hn ((hown B).1 ho), A1, c1, A2, c2, hb2, q1, q2⟩, hI.step hst, below_set (below_set hB hb) hb, hoth, hown⟩
variable {A1 A2 : Option Addr} {c1 c2 : Nat}
theorem ref_set (a t : Int) (hI : IsW w0 W g s) (hB : B < W.heap.size) (hr : Rising l) (hl : l.length ≤ 900) (r1 : Vw W g B (.slice A1 l.length c1) (keys l)) (r2 : Vw W g B (.slice A2 l.length c2) (vals l)) :
    Calls Try.prog 26 #[.agg #[.slice A1 l.length c1, .slice A2 l.length c2], .int .i64 a, .int .i64 t] W fun e w' => ∃ B1 d1 B2 d2, e = .returned (.tuple #[.agg #[.slice B1 (put l a (cut t)).length d1, .slice B2 (put l a (cut t)).length d2], .bool (Mp.look l a).isSome]) ∧
      Vw w' g B (.slice B1 (put l a (cut t)).length d1) (keys (put l a (cut t))) ∧ Vw w' g B (.slice B2 (put l a (cut t)).length d2) (vals (put l a (cut t))) ∧ Below W.heap.size W w' := by
  have h1 := Kd.V_reads' r1
  have h2 := Kd.V_reads' r2
  have := hostlerref04_Set.calls (l.length + 5) A1 c1 (keys l) A2 c2 (vals l) a t _ _ _ W h1.2.2 (by rw [len_keys]; exact h1.2.1) h2.2.2 (by rw [len_vals]; exact h2.2.1) (set_is hr a t (by omega) (by omega))
  rw [len_keys, len_vals] at this
  refine this.mono ?_
  rintro e w' ⟨u1, u2, rfl, q1, q2, hb⟩
  obtain ⟨B1, d1, rfl⟩ := Kd.R_slice q1
  obtain ⟨B2, d2, rfl⟩ := Kd.R_slice q2
  rw [len_keys] at q1 ⊢
  rw [len_vals] at q2 ⊢
  exact ⟨B1, d1, B2, d2, rfl, Vw.fresh (base := 0) hI hb hB q1, Vw.fresh (base := 0) hI hb hB q2, hb⟩
theorem ref_cancel (a : Int) (hI : IsW w0 W g s) (hB : B < W.heap.size) (hr : Rising l) (hl : l.length ≤ 900) (r1 : Vw W g B (.slice A1 l.length c1) (keys l)) (r2 : Vw W g B (.slice A2 l.length c2) (vals l)) :
    Calls Try.prog 27 #[.agg #[.slice A1 l.length c1, .slice A2 l.length c2], .int .i64 a] W fun e w' => ∃ B1 d1 B2 d2, e = .returned (.tuple #[.agg #[.slice B1 (rem l a).length d1, .slice B2 (rem l a).length d2], .bool (Mp.look l a).isSome]) ∧
      Vw w' g B (.slice B1 (rem l a).length d1) (keys (rem l a)) ∧ Vw w' g B (.slice B2 (rem l a).length d2) (vals (rem l a)) ∧ Below W.heap.size W w' := by
  have := hostlerref04_Cancel.calls (l.length + 5) (fun k => ¬ Own W g k ∧ k ≠ B) A1 c1 (keys l) (fun k => ¬ Own W g k ∧ k ≠ B) A2 c2 (vals l) a _ _ _ W (by rw [len_keys]; exact r1) (by rw [len_vals]; exact r2) (cancel_is hr a (by omega) (by omega))
  rw [len_keys, len_vals] at this
  refine this.mono ?_
  rintro e w' ⟨u1, u2, rfl, q1, q2, hb⟩
  obtain ⟨B1, d1, rfl⟩ := Kd.V_slice q1
  obtain ⟨B2, d2, rfl⟩ := Kd.V_slice q2
  rw [len_keys] at q1 ⊢
  rw [len_vals] at q2 ⊢
  have hok : ∀ k, ((¬ Own W g k ∧ k ≠ B) ∨ (¬ Own W g k ∧ k ≠ B)) ∨ W.heap.size ≤ k → ¬ Own w' g k ∧ k ≠ B := fun k hk => by
    obtain ⟨ys, hX, _⟩ := hI
    have ho := own_step (k := k) hX (W1 := w') (fun k hk => hb.block k (hk.lt hX))
    rcases hk with (h | h) | h
    · exact ⟨fun h2 => h.1 (ho.1 h2), h.2⟩
    · exact ⟨fun h2 => h.1 (ho.1 h2), h.2⟩
    · exact ⟨fun h2 => by have := (ho.1 h2).lt hX; omega, by omega⟩
  exact ⟨B1, d1, B2, d2, rfl, Kd.V_mono q1 hok, Kd.V_mono q2 hok, hb⟩
theorem ref_due (now : Int) (hI : IsW w0 W g s) (hB : B < W.heap.size) (hl : l.length ≤ 900) (r1 : Vw W g B (.slice A1 l.length c1) (keys l)) (r2 : Vw W g B (.slice A2 l.length c2) (vals l)) :
    Calls Try.prog 28 #[.agg #[.slice A1 l.length c1, .slice A2 l.length c2], .int .i64 now] W fun e w' => ∃ B1 d1 B2 d2 B3 d3, e = .returned (.tuple #[.agg #[.slice B1 (rest l now).length d1, .slice B2 (rest l now).length d2], .slice B3 (due l now).length d3]) ∧
      Vw w' g B (.slice B1 (rest l now).length d1) (keys (rest l now)) ∧ Vw w' g B (.slice B2 (rest l now).length d2) (vals (rest l now)) ∧ Vw w' g B (.slice B3 (due l now).length d3) (due l now) ∧ Below W.heap.size W w' := by
  have h1 := Kd.V_reads' r1
  have h2 := Kd.V_reads' r2
  have := hostlerref04_Due.calls (l.length + 5) A1 c1 (keys l) A2 c2 (vals l) now _ _ _ W h1.2.2 (by rw [len_keys]; exact h1.2.1) h2.2.2 (by rw [len_vals]; exact h2.2.1) (due_is now (by omega) (by omega))
  rw [len_keys, len_vals] at this
  refine this.mono ?_
  rintro e w' ⟨u1, u2, u3, rfl, q1, q2, q3, hb⟩
  obtain ⟨B1, d1, rfl⟩ := Kd.R_slice q1
  obtain ⟨B2, d2, rfl⟩ := Kd.R_slice q2
  obtain ⟨B3, d3, rfl⟩ := Kd.R_slice q3
  rw [len_keys] at q1 ⊢
  rw [len_vals] at q2 ⊢
  exact ⟨B1, d1, B2, d2, B3, d3, rfl, Vw.fresh (base := 0) hI hb hB q1, Vw.fresh (base := 0) hI hb hB q2, Vw.fresh (base := 0) hI hb hB q3, hb⟩
theorem ref_at (a : Int) (hr : Rising l) (hl : l.length ≤ 900) (r1 : Vw W g B (.slice A1 l.length c1) (keys l)) (r2 : Vw W g B (.slice A2 l.length c2) (vals l)) :
    Calls Try.prog 29 #[.agg #[.slice A1 l.length c1, .slice A2 l.length c2], .int .i64 a] W fun e w' => e = .returned (.tuple #[.int .i64 (code l a), .bool (Mp.look l a).isSome]) ∧ Below W.heap.size W w' := by
  have h1 := Kd.V_reads' r1
  have h2 := Kd.V_reads' r2
  have := hostlerref04_At.calls (l.length + 5) A1 c1 (keys l) A2 c2 (vals l) a _ _ W h1.2.2 (by rw [len_keys]; exact h1.2.1) h2.2.2 (by rw [len_vals]; exact h2.2.1) (at_is hr a (by omega) (by omega))
  rwa [len_keys, len_vals] at this
theorem ref_sorted (hI : IsW w0 W g s) (hB : B < W.heap.size) (hr : Rising l) (hl : l.length ≤ 900) (r1 : Vw W g B (.slice A1 l.length c1) (keys l)) (r2 : Vw W g B (.slice A2 l.length c2) (vals l)) :
    Calls Try.prog 30 #[.agg #[.slice A1 l.length c1, .slice A2 l.length c2]] W fun e w' => ∃ B1 d1, e = .returned (.slice B1 (byTick l).length d1) ∧ Vw w' g B (.slice B1 (byTick l).length d1) (byTick l) ∧ Below W.heap.size W w' := by
  have := hostlerref04_Sorted.calls ((l.length + 3) * (l.length + 3)) (fun k => ¬ Own W g k ∧ k ≠ B) A1 c1 (keys l) (fun k => ¬ Own W g k ∧ k ≠ B) A2 c2 (vals l) _ W (by rw [len_keys]; exact r1) (by rw [len_vals]; exact r2) (sorted_is hr (by omega) (Nat.le_refl _))
  rw [len_keys, len_vals] at this
  refine this.mono ?_
  rintro e w' ⟨u1, rfl, q1, hb⟩
  obtain ⟨B1, d1, rfl⟩ := Kd.R_slice q1
  exact ⟨B1, d1, rfl, Vw.fresh (base := 0) hI hb hB q1, hb⟩
end
end Go.Proofs.Ytfflhppieogkbaa.Hp
