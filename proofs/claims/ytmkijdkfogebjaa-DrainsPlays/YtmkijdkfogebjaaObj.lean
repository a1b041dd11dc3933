/-
  The drains as a state: their block and their row; how it lives on. Conditions: none.
-/
import Derived.Test.YtmkijdkfogebjaaPAx0
import Derived.Test.YtmkijdkfogebjaaHid
set_option linter.unusedVariables false
set_option linter.unusedSimpArgs false
namespace Go.Proofs.Ytmkijdkfogebjaa.Man
open Go.RowKit Go.Proofs.YtmkijdkfogebjaaW.PrintWords Go.Proofs.Ytmkijdkfogebjaa.PA Go.Proofs.Ytmkijdkfogebjaa.Hid

/-- What the drains are: those that wait or are under way. -/
structure DS where
  row : List S69

abbrev TD : List Nat := [66, 69]

def IsS66 (w0 W : World) (g : Nat) (s : DS) : Prop := ∃ v,
  W.heap[g]? = some (.cells #[v] 66 (0, 0)) ∧ w0.heap.size ≤ g ∧ Kd.R k69 69 W w0.heap.size (fun _ => True) v s.row

section
variable {w0 W W1 : World} {g : Nat} {s : DS}
theorem IsS66.step (h : IsS66 w0 W g s) (hm : ∀ k, Hidn TD W k → W1.heap[k]? = W.heap[k]?) : IsS66 w0 W1 g s := by
  obtain ⟨v, hb, hg, hR⟩ := h
  refine ⟨v, (hm g (.cells hb (by decide))).trans hb, hg, ?_⟩
  refine Kd.R_mono (Kd.R_move (Kd.R_bound hR) (fun k hk => ?_)) (fun _ _ => trivial)
  obtain ⟨_, _, _, q, hq, cells, hq2⟩ := hk
  have : q = 69 := by simpa [k69, Kd.iso, Kd.pair, Kd.int, Kd.scalar, Kd.string, Kd.bool] using hq
  subst this
  exact hm k (.cells hq2 (by decide))
theorem IsS66.grown {row : Option Nat} (h : IsS66 w0 W g s) (hw : W.grownBy W1 row) (hne : ∀ k, Hidn TD W k → some k ≠ row) : IsS66 w0 W1 g s := h.step (fun k hk => hw.block k hk.lt (hne k hk))
theorem IsS66.kept {S : Nat → Prop} (h : IsS66 w0 W g s) (hk : Kept W W1 S) (hne : ∀ k, Hidn TD W k → ¬ S k) : IsS66 w0 W1 g s := h.step (fun k h2 => hk.2 k h2.lt (hne k h2))
theorem IsS66.below (h : IsS66 w0 W g s) (hw : Below W.heap.size W W1) : IsS66 w0 W1 g s := h.step (fun k hk => hw.block k hk.lt)
theorem IsS66.alloc (h : IsS66 w0 W g s) (o : Obj) : IsS66 w0 (W.alloc o) g s := h.below (below_alloc (Below.refl _ _) o)
theorem IsS66.drewN (h : IsS66 w0 W g s) (m : Nat) : IsS66 w0 (W.drewN m) g s := h.step (fun _ _ => rfl)
theorem IsS66.drew (h : IsS66 w0 W g s) : IsS66 w0 W.drew g s := h.step (fun _ _ => rfl)
theorem IsS66.at_ {w' : World} {m : Nat} (hq : W.drewN m = w') (h : IsS66 w0 W g s) : IsS66 w0 w' g s := by subst hq; exact h.drewN m
theorem IsS66.far {p : Addr} (h : IsS66 w0 W g s) (hne : Vis TD W p.block) (u : Value) : IsS66 w0 (W.setCell p u) g s := h.step (fun k hk => Below.heap_setCell W p u k (fun e => hne.2 (by rw [← e]; exact hk)))
theorem IsS66.hid (h : IsS66 w0 W g s) : Hidn TD W g := by
  obtain ⟨v, hb, _⟩ := h
  exact .cells hb (by decide)
theorem IsS66.lt (h : IsS66 w0 W g s) : g < W.heap.size := h.hid.lt
theorem IsS66.ge (h : IsS66 w0 W g s) : w0.heap.size ≤ g := by
  obtain ⟨v, hb, hg, _⟩ := h
  exact hg
variable {α : Type} {d : Kd α} {e : Nat} {base : Nat} {ok : Nat → Prop} {v : Value} {xs : List α}
theorem IsS66.apart (h : IsS66 w0 W g s) (ho : d.R e W base ok v xs) (ht : ∀ q, q ∈ e :: d.E → q ∉ TD) : d.R e W base (fun k => ok k ∧ ¬ Hidn TD W k) v xs := Ko.R_apart ho ht
theorem IsS66.own_ne (h : IsS66 w0 W g s) (ho : d.R e W base ok v xs) (ht : e ∉ TD) : ∀ k, Hidn TD W k → some k ≠ v.ownBlock := Ko.R_ne ho ht
theorem IsS66.ne_blk {a : Nat} {cs : Array Value} {t : TypeId} {fr : Nat × Nat} (h : IsS66 w0 W g s) (hb2 : W.heap[a]? = some (.cells cs t fr)) (ht : t ∉ TD) : g ≠ a := by
  rintro rfl
  exact not_hidn_cells hb2 ht h.hid
/-- The state, opened. -/
theorem IsS66.open_ (h : IsS66 w0 W g s) : ∃ A n, W.heap[g]? = some (.cells #[.slice A s.row.length n] 66 (0, 0)) ∧ s.row.length ≤ n ∧ Kd.C k69 W A s.row.length s.row ∧ Kd.R k69 69 W w0.heap.size (fun _ => True) (.slice A s.row.length n) s.row ∧ w0.heap.size ≤ g := by
  obtain ⟨v, hb, hg, hR⟩ := h
  obtain ⟨A, n, rfl⟩ := Kd.R_slice hR
  have h3 := Kd.R_reads' hR
  exact ⟨A, n, hb, h3.2.1, h3.2.2, hR, hg⟩
/-- What a call that only looks leaves. -/
theorem done_below (hI : IsS66 w0 W g s) (hB : Below w0.heap.size w0 W) (hb : Below W.heap.size W W1) : IsS66 w0 W1 g s ∧ Below w0.heap.size w0 W1 ∧ KeptH TD W W1 :=
  ⟨hI.below hb, below_step hB hb, KeptH.of_below hb⟩
end
end Go.Proofs.Ytmkijdkfogebjaa.Man
