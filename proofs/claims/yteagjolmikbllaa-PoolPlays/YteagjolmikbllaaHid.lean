/-
  States whose blocks are told apart by their types: which blocks of a world are hidden in objects, and how rows of other types live on. Conditions: none.
-/
import Derived.Test.YteagjolmikbllaaWMore
import Derived.Test.YteagjolmikbllaaWKept
import Derived.Conc.LoneCalls
set_option linter.unusedVariables false
set_option linter.unusedSimpArgs false
namespace Go.Proofs.Yteagjolmikbllaa.Hid
open Go.RowKit Go.Proofs.YteagjolmikbllaaW.PrintWords

/-- A block that belongs to objects: cells of a type of T, a channel, a map. -/
def Hidn (T : List Nat) (W : World) (k : Nat) : Prop := (∃ cs t fr, W.heap[k]? = some (.cells cs t fr) ∧ t ∈ T) ∨ (∃ cap buf cl s r tm, W.heap[k]? = some (.chan cap buf cl s r tm)) ∨ (∃ es ck, W.heap[k]? = some (.map es ck))

section
variable {T : List Nat} {W W1 W2 : World} {k : Nat}
theorem Hidn.lt (h : Hidn T W k) : k < W.heap.size := by
  rcases h with ⟨_, _, _, h, _⟩ | ⟨_, _, _, _, _, _, h⟩ | ⟨_, _, h⟩ <;> exact blk_lt h
theorem Hidn.cells {cs : Array Value} {t : TypeId} {fr : Nat × Nat} (h : W.heap[k]? = some (.cells cs t fr)) (ht : t ∈ T) : Hidn T W k := .inl ⟨cs, t, fr, h, ht⟩
theorem Hidn.chan {cap : Nat} {buf : Array Value} {cl : Bool} {s r : Nat} {tm : Bool} (h : W.heap[k]? = some (.chan cap buf cl s r tm)) : Hidn T W k := .inr (.inl ⟨cap, buf, cl, s, r, tm, h⟩)
theorem Hidn.map {es : Array MapEntry} {ck : Nat} (h : W.heap[k]? = some (.map es ck)) : Hidn T W k := .inr (.inr ⟨es, ck, h⟩)
theorem Hidn.of_eq (h : Hidn T W1 k) (e : W1.heap[k]? = W.heap[k]?) : Hidn T W k := by
  unfold Hidn at h ⊢
  rwa [e] at h
theorem not_hidn_cells {cs : Array Value} {t : TypeId} {fr : Nat × Nat} (h : W.heap[k]? = some (.cells cs t fr)) (ht : t ∉ T) : ¬ Hidn T W k := by
  rintro (⟨_, _, _, h', ht'⟩ | ⟨_, _, _, _, _, _, h'⟩ | ⟨_, _, h'⟩)
  · rw [h] at h'
    injection h' with h'
    injection h' with _ e
    subst e
    exact ht ht'
  · rw [h] at h'
    injection h' with h'
    cases h'
  · rw [h] at h'
    injection h' with h'
    cases h'
end

/-- A block that is there and belongs to no object. -/
def Vis (T : List Nat) (W : World) (k : Nat) : Prop := k < W.heap.size ∧ ¬ Hidn T W k
section
variable {T : List Nat} {W : World} {k : Nat}
theorem vis_cells {cs : Array Value} {t : TypeId} {fr : Nat × Nat} (h : W.heap[k]? = some (.cells cs t fr)) (ht : t ∉ T) : Vis T W k := ⟨blk_lt h, not_hidn_cells h ht⟩
theorem vis_eq {W1 : World} (h : Vis T W k) (e : W1.heap[k]? = W.heap[k]?) : Vis T W1 k := by
  refine ⟨?_, fun hk => h.2 (hk.of_eq e)⟩
  have h1 := h.1
  rw [Array.getElem?_eq_getElem h1] at e
  exact (Array.getElem?_eq_some_iff.1 e).1
theorem vis_set (h : Vis T W k) {p : Addr} {u : Value} : Vis T (W.setCell p u) k := by
  by_cases e : k = p.block
  · refine ⟨by simpa [World.setCell] using h.1, fun hk => h.2 ?_⟩
    have hs : ∀ o, (W.setCell p u).heap[k]? = some o → ∃ o', W.heap[k]? = some o' ∧ (o = match o' with | .cells c el fr => .cells (if p.spot.isSome then c else c.setIfInBounds p.off u) el fr | o => o) := by
      intro o ho
      rw [e] at ho ⊢
      simp only [World.setCell, Array.getElem?_modify] at ho
      cases h2 : W.heap[p.block]? with
      | none => simp [h2] at ho
      | some o' => exact ⟨o', rfl, by simp [h2] at ho; exact ho.symm⟩
    rcases hk with ⟨cs, t, fr, hc, ht⟩ | ⟨cap, buf, cl, s, r, tm, hc⟩ | ⟨es, ck, hc⟩
    · obtain ⟨o', h3, h4⟩ := hs _ hc
      cases o' <;> simp at h4
      obtain ⟨_, rfl, rfl⟩ := h4
      exact .cells h3 ht
    · obtain ⟨o', h3, h4⟩ := hs _ hc
      cases o' <;> simp at h4
      obtain ⟨rfl, rfl, rfl, rfl, rfl, rfl⟩ := h4
      exact .chan h3
    · obtain ⟨o', h3, h4⟩ := hs _ hc
      cases o' <;> simp at h4
      obtain ⟨rfl, rfl⟩ := h4
      exact .map h3
  · exact vis_eq h (Below.heap_setCell W p u k e)
theorem vis_alloc (h : Vis T W k) {o : Obj} : Vis T (W.alloc o) k := vis_eq h (Below.heap_alloc _ _ _ h.1)
theorem vis_drew (h : Vis T W k) : Vis T W.drew k := h
theorem vis_drewN (h : Vis T W k) {m : Nat} : Vis T (W.drewN m) k := h
end

/-- What a call on an object keeps: all but what is hidden; and what wasn't hidden is not hidden behind it. -/
def KeptH (T : List Nat) (w W : World) : Prop := Kept w W (Hidn T w) ∧ ∀ k, k < w.heap.size → Hidn T W k → Hidn T w k
section
variable {T : List Nat} {w W W1 W2 : World} {S : Nat → Prop}
theorem KeptH.refl (T : List Nat) (w : World) : KeptH T w w := ⟨Kept.refl _ _, fun _ _ h => h⟩
theorem KeptH.trans (h : KeptH T w W) (k : KeptH T W W2) : KeptH T w W2 :=
  ⟨⟨Nat.le_trans h.1.1 k.1.1, fun i hi hn => (k.1.2 i (Nat.lt_of_lt_of_le hi h.1.1) (fun hk => hn (h.2 i hi hk))).trans (h.1.2 i hi hn)⟩,
    fun i hi hk => h.2 i hi (k.2 i (Nat.lt_of_lt_of_le hi h.1.1) hk)⟩
theorem KeptH.of_below (h : Below w.heap.size w W) : KeptH T w W := ⟨Kept.of_below h _, fun k hk h2 => h2.of_eq (h.block k hk)⟩
theorem KeptH.below (h : KeptH T w W) (hb : Below W.heap.size W W2) : KeptH T w W2 := h.trans (.of_below hb)
theorem KeptH.alloc (h : KeptH T w W) (o : Obj) : KeptH T w (W.alloc o) := h.below (below_alloc (Below.refl _ _) o)
theorem KeptH.drew (h : KeptH T w W) : KeptH T w W.drew := h
theorem KeptH.drewN (h : KeptH T w W) (m : Nat) : KeptH T w (W.drewN m) := h
theorem KeptH.grown (h : KeptH T w W) {row : Option Nat} (hg : W.grownBy W2 row) (hr : ∀ k, row = some k → Hidn T W k ∨ w.heap.size ≤ k) : KeptH T w W2 := by
  refine ⟨⟨Nat.le_trans h.1.1 hg.size, fun i hi hn => ?_⟩, fun k hk h2 => ?_⟩
  · refine (hg.block i (Nat.lt_of_lt_of_le hi h.1.1) (fun e => ?_)).trans (h.1.2 i hi hn)
    rcases hr i e.symm with h3 | h3
    · exact hn (h.2 i hi h3)
    · omega
  · by_cases e : row = some k
    · rcases hr k e with h3 | h3
      · exact h.2 k hk h3
      · omega
    · exact h.2 k hk (h2.of_eq (hg.block k (Nat.lt_of_lt_of_le hk h.1.1) (fun e2 => e e2.symm)))
/-- A store into a hidden block: it stays hidden. -/
theorem KeptH.setCell (h : KeptH T w W) {p : Addr} (hp : Hidn T W p.block) (u : Value) : KeptH T w (W.setCell p u) := by
  refine h.trans ⟨⟨by simp [World.setCell], fun i _ hn => Below.heap_setCell W p u i (fun e => hn (by rw [e]; exact hp))⟩, fun i _ hk => ?_⟩
  by_cases e : i = p.block
  · rw [e]; exact hp
  · exact hk.of_eq (Below.heap_setCell W p u i e)
end

theorem setChan_other (w : World) (c c' cap : Nat) (buf : Array Value) (cl : Bool) (s r : Nat) (tm : Bool) (h : c' ≠ c) : (w.setChan c cap buf cl s r tm).heap[c']? = w.heap[c']? := by
  simp [World.setChan, Array.getElem?_setIfInBounds_ne (Ne.symm h)]
/-- A channel's block is written. -/
theorem KeptH.chan_ {T : List Nat} {w W : World} {c cap cap' : Nat} {buf buf' : Array Value} {cl cl' : Bool} {s s' r r' : Nat} {tm tm' : Bool} (h : KeptH T w W) (hc : W.heap[c]? = some (.chan cap buf cl s r tm)) : KeptH T w (W.setChan c cap' buf' cl' s' r' tm') := by
  refine h.trans ⟨⟨by simp [World.setChan], fun i _ hn => setChan_other _ _ _ _ _ _ _ _ _ (fun e => hn (by rw [e]; exact .chan hc))⟩, fun k _ hk => ?_⟩
  by_cases e : k = c
  · rw [e]; exact .chan hc
  · exact hk.of_eq (setChan_other _ _ _ _ _ _ _ _ _ e)

namespace Ko
theorem grown_trans {w w1 w2 : World} {row : Option Nat} (h : w.grownBy w1 row) (k : w1.grownBy w2 row) : w.grownBy w2 row :=
  ⟨k.os.trans h.os, k.tape.trans h.tape, k.output.trans h.output, Nat.le_trans h.size k.size, fun i hi hr => (k.block i (Nat.lt_of_lt_of_le hi h.size) hr).trans (h.block i hi hr)⟩
section
variable {α : Type} {d : Kd α} {e g : Nat} {w w1 : World} {base : Nat} {ok : Nat → Prop} {v : Value} {xs : List α} {T : List Nat} {cs : Array Value} {t : TypeId} {fr : Nat × Nat} {a : Addr} {u : Value}
/-- By types: a row is none of the hidden blocks. -/
theorem R_apart (h : d.R e w base ok v xs) (ht : ∀ q, q ∈ e :: d.E → q ∉ T) : d.R e w base (fun k => ok k ∧ ¬ Hidn T w k) v xs :=
  Kd.R_mono (Kd.R_bound h) (fun k hk => ⟨hk.1, by obtain ⟨_, _, _, q, hq, cells, hc⟩ := hk; exact not_hidn_cells hc (ht q hq)⟩)
theorem R_ne (h : d.R e w base ok v xs) (ht : e ∉ T) : ∀ k, Hidn T w k → some k ≠ v.ownBlock := fun k hk he => by
  obtain ⟨_, inner, ho, _⟩ := h
  obtain ⟨cells, hc⟩ := own_typed ho k he.symm
  exact not_hidn_cells hc ht hk
theorem R_keep (h : d.R e w base ok v xs) (hk : KeptH T w w1) (hok : ∀ k, ok k → ¬ Hidn T w k) : d.R e w1 base ok v xs := Kd.R_kept h hk.1 hok
theorem R_oldH (hu : d.R e w base (fun k => ok k ∧ ¬ Hidn T w k) v xs) (hk : KeptH T w w1) : d.R e w1 base (fun k => ok k ∧ k < w.heap.size) v xs := Kd.R_mono (R_keep (Kd.R_bound hu) hk (fun _ h => h.1.2)) (fun _ h => ⟨h.1.1, h.2.2.1⟩)
theorem S_keep (h : Kd.S d e w base ok v xs) (hk : KeptH T w w1) (hok : ∀ k, ok k → ¬ Hidn T w k) : Kd.S d e w1 base ok v xs := Kd.S_kept h hk.1 hok
theorem Q_keep (h : d.Q e w base ok v xs) (hk : KeptH T w w1) (hok : ∀ k, ok k → ¬ Hidn T w k) : d.Q e w1 base ok v xs := Kd.Q_kept h hk.1 hok
theorem blkc (hk : KeptH T w w1) (hb : w.heap[g]? = some (.cells cs t fr)) (ht : t ∉ T) : w1.heap[g]? = some (.cells cs t fr) := blk_kept hb hk.1 (not_hidn_cells hb ht)
theorem blk (hk : KeptH T w w1) {o : Obj} (hb : w.heap[g]? = some o) (hn : ¬ Hidn T w g) : w1.heap[g]? = some o := blk_kept hb hk.1 hn
theorem keep_cell (hk : KeptH T w w1) (h : w.cell? a = some u) (hn : ¬ Hidn T w a.block) : w1.cell? a = some u := cell_kept h hk.1 hn
theorem R_chan {c cap cap' : Nat} {buf buf' : Array Value} {cl cl' : Bool} {s s' r r' : Nat} {tm tm' : Bool} (h : d.R e w base ok v xs) (hc : w.heap[c]? = some (.chan cap buf cl s r tm)) : d.R e (w.setChan c cap' buf' cl' s' r' tm') base ok v xs := by
  refine Kd.R_mono (Kd.R_move (Kd.R_bound h) (fun k hk => ?_)) (fun _ hk => hk.1)
  obtain ⟨_, _, _, q, hq, cells, hq2⟩ := hk
  refine setChan_other _ _ _ _ _ _ _ _ _ ?_
  rintro rfl
  rw [hc] at hq2
  injection hq2 with hq2
  cases hq2
/-- Cells behind a row's last element, in the row's own block, are written. -/
theorem R_tail {c n o : Nat} (h : d.R e w base ok (.slice (some ⟨g, 0, none⟩) n c) xs) (vs : List Value) (ho : n * d.sz ≤ o) (hl : o + vs.length ≤ c * d.sz) :
    d.R e (w.setCells g o vs) base ok (.slice (some ⟨g, 0, none⟩) n c) xs ∧ w.grownBy (w.setCells g o vs) (some g) := by
  obtain ⟨hok, inner, hown, hr⟩ := h
  rcases hown.2 with ⟨hv, _⟩ | ⟨g', cap', cur, hv, hb, hh, hxc, hcm, hcs, htake⟩
  · cases hv
  injection hv with ha hn2 hc
  injection ha with ha
  injection ha with hg
  subst hg; subst hc; subst hn2
  obtain ⟨cur', h3, h4, h5⟩ := setCells_row vs o w cur hh (by omega)
  obtain ⟨s1, s2, s3, s4⟩ := setCells_same g vs o w
  have hfar : ∀ k', k' ≠ g → (w.setCells g o vs).heap[k']? = w.heap[k']? := fun k' hk' => setCells_far vs _ k' hk'
  refine ⟨⟨hok, inner, ⟨hown.1, .inr ⟨g, c, cur', rfl, hb, h3, hxc, hcm, by rw [h4, hcs], ?_⟩⟩, hr.imp_ (fun p q hp => d.M_move (fun k' hk' => hfar k' (fun he => hk'.2 (by rw [he]; rfl))) hp)⟩, ⟨s1, s2, s3, by rw [s4]; exact Nat.le_refl _, fun k' _ hk' => hfar k' (fun he => hk' (by rw [he]))⟩⟩
  have hcl : cur.toList.length = c * d.sz := by rw [Array.length_toList, hcs]
  rw [h5, List.append_assoc, List.take_append_of_le_length (by rw [List.length_take, hcl]; omega), List.take_take, Nat.min_eq_left ho]
  exact htake
end
end Ko
end Go.Proofs.Yteagjolmikbllaa.Hid
