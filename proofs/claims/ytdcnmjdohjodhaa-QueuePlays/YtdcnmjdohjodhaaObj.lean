/-
  The queue as a state: its block, its channel and its row; how it lives on. Conditions: none.
-/
import Derived.Test.YtdcnmjdohjodhaaPFx1
import Derived.Test.YtdcnmjdohjodhaaHid
set_option linter.unusedVariables false
set_option linter.unusedSimpArgs false
namespace Go.Proofs.Ytdcnmjdohjodhaa.Man
open Go.RowKit Go.Proofs.YtdcnmjdohjodhaaW.PrintWords Go.Proofs.Ytdcnmjdohjodhaa.PA Go.Proofs.Ytdcnmjdohjodhaa.PF Go.Proofs.Ytdcnmjdohjodhaa.Hid

/-- What a queue is: its room; those that wait. -/
structure QS where
  room : Nat
  row : List S65

abbrev TQ : List Nat := [62, 65]

def IsS62 (w0 W : World) (g : Nat) (s : QS) : Prop := ∃ c v buf sn rc,
  W.heap[g]? = some (.cells #[.chan (some c), v] 62 (0, 0)) ∧ w0.heap.size ≤ g ∧
  W.heap[c]? = some (.chan s.room buf false sn rc false) ∧ w0.heap.size ≤ c ∧ buf.size + s.row.length = s.room ∧ s.room ≤ 16 ∧
  Kd.R k65 65 W w0.heap.size (fun _ => True) v s.row

section
variable {w0 W W1 : World} {g : Nat} {s : QS}
theorem IsS62.step (h : IsS62 w0 W g s) (hm : ∀ k, Hidn TQ W k → W1.heap[k]? = W.heap[k]?) : IsS62 w0 W1 g s := by
  obtain ⟨c, v, buf, sn, rc, hb, hg, hc, hgc, hl, hr, hR⟩ := h
  refine ⟨c, v, buf, sn, rc, (hm g (.cells hb (by decide))).trans hb, hg, (hm c (.chan hc)).trans hc, hgc, hl, hr, ?_⟩
  refine Kd.R_mono (Kd.R_move (Kd.R_bound hR) (fun k hk => ?_)) (fun _ _ => trivial)
  obtain ⟨_, _, _, q, hq, cells, hq2⟩ := hk
  have : q = 65 := by simpa [k65, Kd.iso, Kd.pair, Kd.int, Kd.scalar] using hq
  subst this
  exact hm k (.cells hq2 (by decide))
theorem IsS62.grown {row : Option Nat} (h : IsS62 w0 W g s) (hw : W.grownBy W1 row) (hne : ∀ k, Hidn TQ W k → some k ≠ row) : IsS62 w0 W1 g s := h.step (fun k hk => hw.block k hk.lt (hne k hk))
theorem IsS62.kept {S : Nat → Prop} (h : IsS62 w0 W g s) (hk : Kept W W1 S) (hne : ∀ k, Hidn TQ W k → ¬ S k) : IsS62 w0 W1 g s := h.step (fun k h2 => hk.2 k h2.lt (hne k h2))
theorem IsS62.below (h : IsS62 w0 W g s) (hw : Below W.heap.size W W1) : IsS62 w0 W1 g s := h.step (fun k hk => hw.block k hk.lt)
theorem IsS62.alloc (h : IsS62 w0 W g s) (o : Obj) : IsS62 w0 (W.alloc o) g s := h.below (below_alloc (Below.refl _ _) o)
theorem IsS62.drewN (h : IsS62 w0 W g s) (m : Nat) : IsS62 w0 (W.drewN m) g s := h.step (fun _ _ => rfl)
theorem IsS62.drew (h : IsS62 w0 W g s) : IsS62 w0 W.drew g s := h.step (fun _ _ => rfl)
theorem IsS62.at_ {w' : World} {m : Nat} (hq : W.drewN m = w') (h : IsS62 w0 W g s) : IsS62 w0 w' g s := by subst hq; exact h.drewN m
theorem IsS62.far {p : Addr} (h : IsS62 w0 W g s) (hne : Vis TQ W p.block) (u : Value) : IsS62 w0 (W.setCell p u) g s := h.step (fun k hk => Below.heap_setCell W p u k (fun e => hne.2 (by rw [← e]; exact hk)))
theorem IsS62.hid (h : IsS62 w0 W g s) : Hidn TQ W g := by
  obtain ⟨c, v, buf, sn, rc, hb, _⟩ := h
  exact .cells hb (by decide)
theorem IsS62.lt (h : IsS62 w0 W g s) : g < W.heap.size := h.hid.lt
theorem IsS62.ge (h : IsS62 w0 W g s) : w0.heap.size ≤ g := by
  obtain ⟨c, v, buf, sn, rc, hb, hg, _⟩ := h
  exact hg
variable {α : Type} {d : Kd α} {e : Nat} {base : Nat} {ok : Nat → Prop} {v : Value} {xs : List α}
theorem IsS62.apart (h : IsS62 w0 W g s) (ho : d.R e W base ok v xs) (ht : ∀ q, q ∈ e :: d.E → q ∉ TQ) : d.R e W base (fun k => ok k ∧ ¬ Hidn TQ W k) v xs := Ko.R_apart ho ht
theorem IsS62.own_ne (h : IsS62 w0 W g s) (ho : d.R e W base ok v xs) (ht : e ∉ TQ) : ∀ k, Hidn TQ W k → some k ≠ v.ownBlock := Ko.R_ne ho ht
theorem IsS62.ne_blk {a : Nat} {cs : Array Value} {t : TypeId} {fr : Nat × Nat} (h : IsS62 w0 W g s) (hb2 : W.heap[a]? = some (.cells cs t fr)) (ht : t ∉ TQ) : g ≠ a := by
  rintro rfl
  exact not_hidn_cells hb2 ht h.hid
end
end Go.Proofs.Ytdcnmjdohjodhaa.Man
