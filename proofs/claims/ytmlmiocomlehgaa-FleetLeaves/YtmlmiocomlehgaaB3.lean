/-
  The fleet: contracts of its functions, proved by walking them, and plain facts, several texts in one (Fa, Fs, Fb, Fc, Fd, Fe, Ff). Conditions: none.
-/
import Derived.Test.YtmlmiocomlehgaaB2
import Derived.Test.YtmlmiocomlehgaaProg
import Derived.WalkKit
import Derived.WalkSpells
import Derived.WalkLawsBesides
import Derived.Handy
import Derived.Deep.WholeRow
import Derived.LaidEqlPtr
set_option linter.unusedVariables false
set_option linter.unusedSimpArgs false
namespace Go.Proofs.Ytmlmiocomlehgaa.Man
open Go.RowKit Go.Proofs.YtmlmiocomlehgaaW.PrintWords Go.Proofs.YtmlmiocomlehgaaW.PrintLast Go.Proofs.YtmlmiocomlehgaaW.PrintMore Go.Proofs.Ytmlmiocomlehgaa.PA Go.Proofs.Ytmlmiocomlehgaa.PF Go.Proofs.Ytmlmiocomlehgaa.Hid
/-- A pointer to a block. -/
abbrev ptr (b : Nat) : Value := .pointer (some ⟨b, 0, none⟩)
def kP : Kd Nat := Kd.scalar ptr (fun _ => rfl)
/-- A host: its name, its state, whether it leaves. -/
structure HV where
  nm : ByteArray
  st : Int
  lv : Bool
/-- A fleet. -/
structure FS where
  each : Int
  guard : Int
  hs : List HV
  ds : DS
abbrev hcell (h : HV) : Obj := .cells #[.string h.nm, .int .i64 h.st, .bool h.lv] 69 (0, 0)
abbrev TF : List Nat := [64, 69, 67, 81, 88]
/-- The fleet's types but the row of hosts. -/
abbrev TG : List Nat := [64, 69, 81, 88]
/-- The fleet at block g: its drains at gd, its row v of the hosts at ps. -/
structure IsX (w0 W : World) (g gd : Nat) (v : Value) (ps : List Nat) (s : FS) : Prop where
  blk : W.heap[g]? = some (.cells #[ptr gd, .int .i64 s.each, .int .i64 s.guard, v] 64 (0, 0))
  ge : w0.heap.size ≤ g
  dr : IsD w0 W gd s.ds
  row : kP.R 67 W w0.heap.size (fun _ => True) v ps
  nd : ps.Nodup
  len : ps.length = s.hs.length
  hb : ∀ (i p : Nat) (h : HV), ps[i]? = some p → s.hs[i]? = some h → w0.heap.size ≤ p ∧ W.heap[p]? = some (hcell h)
  names : (s.hs.map (·.nm)).Nodup
def IsF (w0 W : World) (g : Nat) (s : FS) : Prop := ∃ gd v ps, IsX w0 W g gd v ps s
/-- What a call leaves. -/
def St (w0 w w' : World) (g : Nat) (s : FS) : Prop := IsF w0 w' g s ∧ Below w0.heap.size w0 w' ∧ KeptH TF w w'
def SX (w0 w w' : World) (g gd : Nat) (v : Value) (ps : List Nat) (s : FS) : Prop := IsX w0 w' g gd v ps s ∧ Below w0.heap.size w0 w' ∧ KeptH TG w w'
section
variable {T T' : List Nat} {W W1 W2 : World} {k : Nat}
theorem Hidn.mono (hT : ∀ t, t ∈ T → t ∈ T') (h : Hidn T W k) : Hidn T' W k := by
  rcases h with ⟨cs, t, fr, h, ht⟩ | h | h
  · exact .inl ⟨cs, t, fr, h, hT t ht⟩
  · exact .inr (.inl h)
  · exact .inr (.inr h)
theorem KeptH.mono (hT : ∀ t, t ∈ T → t ∈ T') (h : KeptH T W W1) : KeptH T' W W1 := by
  refine ⟨⟨h.1.1, fun i hi hn => h.1.2 i hi (fun hk => hn (Hidn.mono hT hk))⟩, fun k hk h2 => ?_⟩
  by_cases c : Hidn T W k
  · exact Hidn.mono hT c
  · exact h2.of_eq (h.1.2 k hk c)
theorem tg_tf : ∀ t, t ∈ TG → t ∈ TF := by decide
theorem td_tg : ∀ t, t ∈ TD → t ∈ TG := by decide
theorem td_tf : ∀ t, t ∈ TD → t ∈ TF := by decide
end
section
variable {w0 w w' W W1 W2 : World} {g gd : Nat} {v : Value} {ps : List Nat} {s : FS}
theorem IsX.step (h : IsX w0 W g gd v ps s) (hm : ∀ k, Hidn TF W k → W1.heap[k]? = W.heap[k]?) : IsX w0 W1 g gd v ps s := by
  refine ⟨(hm g (.cells h.blk (by decide))).trans h.blk, h.ge, h.dr.step (fun k hk => hm k (Hidn.mono td_tf hk)), ?_, h.nd, h.len, fun i p x hp hx => ?_, h.names⟩
  · refine Kd.R_mono (Kd.R_move (Kd.R_bound h.row) (fun k hk => ?_)) (fun _ _ => trivial)
    obtain ⟨_, _, _, q, hq, cells, hq2⟩ := hk
    have : q = 67 := by simpa [kP, Kd.scalar] using hq
    subst this
    exact hm k (.cells hq2 (by decide))
  · obtain ⟨h1, h2⟩ := h.hb i p x hp hx
    exact ⟨h1, (hm p (.cells h2 (by decide))).trans h2⟩
theorem IsX.below (h : IsX w0 W g gd v ps s) (hw : Below W.heap.size W W1) : IsX w0 W1 g gd v ps s := h.step (fun k hk => hw.block k hk.lt)
theorem IsF.step (h : IsF w0 W g s) (hm : ∀ k, Hidn TF W k → W1.heap[k]? = W.heap[k]?) : IsF w0 W1 g s := by
  obtain ⟨gd, v, ps, h⟩ := h
  exact ⟨gd, v, ps, h.step hm⟩
theorem IsF.below (h : IsF w0 W g s) (hw : Below W.heap.size W W1) : IsF w0 W1 g s := h.step (fun k hk => hw.block k hk.lt)
theorem IsF.far {p : Addr} (h : IsF w0 W g s) (hne : Vis TF W p.block) (u : Value) : IsF w0 (W.setCell p u) g s := h.step (fun k hk => Below.heap_setCell W p u k (fun e => hne.2 (by rw [← e]; exact hk)))
theorem IsF.grown {row : Option Nat} (h : IsF w0 W g s) (hw : W.grownBy W1 row) (hne : ∀ k, Hidn TF W k → some k ≠ row) : IsF w0 W1 g s := h.step (fun k hk => hw.block k hk.lt (hne k hk))
theorem IsF.lt (h : IsF w0 W g s) : g < W.heap.size := by
  obtain ⟨gd, v, ps, h⟩ := h
  exact blk_lt h.blk
theorem St.of_below (h : IsF w0 w g s) (hB : Below w0.heap.size w0 w) (hb : Below w.heap.size w w') : St w0 w w' g s := ⟨h.below hb, below_step hB hb, KeptH.of_below hb⟩
theorem SX.of_below (h : IsX w0 w g gd v ps s) (hB : Below w0.heap.size w0 w) (hb : Below w.heap.size w w') : SX w0 w w' g gd v ps s := ⟨h.below hb, below_step hB hb, KeptH.of_below hb⟩
theorem SX.st (h : SX w0 w w' g gd v ps s) : St w0 w w' g s := ⟨⟨gd, v, ps, h.1⟩, h.2.1, KeptH.mono tg_tf h.2.2⟩
theorem SX.trans {gd' : Nat} {v' : Value} {ps' : List Nat} {s' : FS} (h : KeptH TG w W) (k : SX w0 W w' g gd' v' ps' s') : SX w0 w w' g gd' v' ps' s' := ⟨k.1, k.2.1, h.trans k.2.2⟩
theorem St.trans {s' : FS} (h : KeptH TF w W) (k : St w0 W w' g s') : St w0 w w' g s' := ⟨k.1, k.2.1, h.trans k.2.2⟩
theorem set_same {α : Type} {l : List α} {i : Nat} {a : α} (h : l[i]? = some a) : l.set i a = l := by
  apply List.ext_getElem?
  intro j
  by_cases e : i = j
  · subst e
    rw [List.getElem?_set_self (List.getElem?_eq_some_iff.1 h).1, h]
  · rw [List.getElem?_set_ne e]
/-- The drains have been turned. -/
theorem IsX.drains {d : DS} (h : IsX w0 w g gd v ps s) (hd : IsD w0 w' gd d) (hB : Below w0.heap.size w0 w') (hk : KeptH TD w w') : SX w0 w w' g gd v ps { s with ds := d } := by
  have hm : ∀ k, k < w.heap.size → ¬ Hidn TD w k → w'.heap[k]? = w.heap[k]? := fun k hk2 hn => hk.1.2 k hk2 hn
  have hg : ∀ {k : Nat} {cs : Array Value} {t : TypeId} {fr : Nat × Nat}, w.heap[k]? = some (.cells cs t fr) → t ∉ TD → w'.heap[k]? = some (.cells cs t fr) := fun hb ht => (hm _ (blk_lt hb) (not_hidn_cells hb ht)).trans hb
  refine ⟨⟨hg h.blk (by decide), h.ge, hd, ?_, h.nd, h.len, fun i p x hp hx => ?_, h.names⟩, hB, KeptH.mono td_tg hk⟩
  · refine Kd.R_mono (Kd.R_move (Kd.R_bound h.row) (fun k hk => ?_)) (fun _ _ => trivial)
    obtain ⟨_, _, hlt, q, hq, cells, hq2⟩ := hk
    have : q = 67 := by simpa [kP, Kd.scalar] using hq
    subst this
    exact hm k hlt (not_hidn_cells hq2 (by decide))
  · obtain ⟨h1, h2⟩ := h.hb i p x hp hx
    exact ⟨h1, hg h2 (by decide)⟩
/-- One host has been turned: a cell of its block. -/
theorem IsX.turn {i p j : Nat} {x y : HV} {u : Value} (h : IsX w0 w g gd v ps s) (hB : Below w0.heap.size w0 w) (hp : ps[i]? = some p) (hx : s.hs[i]? = some x) (hn : y.nm = x.nm)
    (hc : (w.setCell ⟨p, j, none⟩ u).heap[p]? = some (hcell y)) : SX w0 w (w.setCell ⟨p, j, none⟩ u) g gd v ps { s with hs := s.hs.set i y } := by
  obtain ⟨h1, h2⟩ := h.hb i p x hp hx
  have hfar : ∀ k, k ≠ p → (w.setCell ⟨p, j, none⟩ u).heap[k]? = w.heap[k]? := fun k hk => Below.heap_setCell w ⟨p, j, none⟩ u k hk
  have ht : ∀ {k : Nat} {cs : Array Value} {t : TypeId} {fr : Nat × Nat}, w.heap[k]? = some (.cells cs t fr) → t ≠ 69 → k ≠ p := by
    rintro k cs t fr hk ht rfl
    rw [h2] at hk
    injection hk with hk
    injection hk with _ hk
    exact ht hk.symm
  refine ⟨⟨(hfar g (ht h.blk (by decide))).trans h.blk, h.ge, ?_, ?_, h.nd, by simp [h.len], fun i' p' x' hp' hx' => ?_, ?_⟩, below_set hB h1, (KeptH.refl _ _).setCell (p := ⟨p, j, none⟩) (.cells h2 (by decide)) u⟩
  · exact h.dr.step (fun k hk => hfar k (by rintro rfl; exact not_hidn_cells h2 (by decide) hk))
  · exact Kd.R_set h.row h2 (by simp [kP, Kd.scalar]) j u
  · by_cases e : i' = i
    · subst e
      rw [hp] at hp'
      injection hp' with hp'
      subst hp'
      have hlt : i' < s.hs.length := (List.getElem?_eq_some_iff.1 hx).1
      simp only [List.getElem?_set_self hlt] at hx'
      injection hx' with hx'
      subst hx'
      exact ⟨h1, hc⟩
    · simp only [List.getElem?_set_ne (Ne.symm e)] at hx'
      obtain ⟨h3, h4⟩ := h.hb i' p' x' hp' hx'
      refine ⟨h3, (hfar p' ?_).trans h4⟩
      rintro rfl
      exact e ((List.getElem?_inj (List.getElem?_eq_some_iff.1 hp').1 h.nd).1 (hp'.trans hp.symm))
  · simp only [List.map_set, hn]
    have hlt : i < s.hs.length := (List.getElem?_eq_some_iff.1 hx).1
    have e2 : (s.hs.map (·.nm))[i]? = some x.nm := by simp [hx]
    rw [set_same e2]
    exact h.names
end
end Go.Proofs.Ytmlmiocomlehgaa.Man
namespace Go.Proofs.Ytmlmiocomlehgaa.Man
open Go.RowKit

def tabA : Array Value := #[.int .i64 1, .int .i64 (-1), .int .i64 2, .int .i64 (-1), .int .i64 (-1), .int .i64 1, .int .i64 (-1), .int .i64 (-1), .int .i64 0, .int .i64 (-1), .int .i64 (-1), .int .i64 3, .int .i64 (-1), .int .i64 0, .int .i64 1, .int .i64 (-1), .int .i64 (-1), .int .i64 0, .int .i64 (-1), .int .i64 1, .int .i64 (-1), .int .i64 (-1), .int .i64 0, .int .i64 (-1), .int .i64 (-1), .int .i64 (-1), .int .i64 (-1), .int .i64 0]
def row0 : Array Value := #[.int .i64 1, .int .i64 (-1), .int .i64 2, .int .i64 (-1), .int .i64 (-1), .int .i64 1, .int .i64 (-1)]
def row1 : Array Value := #[.int .i64 (-1), .int .i64 0, .int .i64 (-1), .int .i64 (-1), .int .i64 3, .int .i64 (-1), .int .i64 0]
def row2 : Array Value := #[.int .i64 1, .int .i64 (-1), .int .i64 (-1), .int .i64 0, .int .i64 (-1), .int .i64 1, .int .i64 (-1)]
def row3 : Array Value := #[.int .i64 (-1), .int .i64 0, .int .i64 (-1), .int .i64 (-1), .int .i64 (-1), .int .i64 (-1), .int .i64 0]
theorem sizeTab : (Try.prog.info? 103).map (·.size) = some 28 := by kernel_rfl
theorem one_all : (tabA.all fun x => x.oneCell') = true := by kernel_rfl

set_option maxHeartbeats 1000000 in
theorem table_calls (w : World) : Calls Try.prog 78 #[] w fun e w' => e = .returned (.agg tabA) ∧ ∃ bs, w' = w.alloc (.cells bs 103) := by
  go_enter Try.func78, Try.ntmps78
  go_wp2_with (refine wpList_store_row rfl 103 _ _ rfl w.heap.size tabA rfl rfl 103 _ (heap_alloc_new w _) sizeTab rfl one_all ?_; rw [World.setRow_alloc_new])
  refine bodyPost_ret (results_cell_row rfl _ _ w.heap.size 103 tabA (0, 0) _ rfl (heap_alloc_new w _) Try.underlying103 rfl sizeTab) rfl ?_
  exact ⟨rfl, _, rfl⟩

/-- Where an event leads from a state; -1: nowhere. -/
def toS (s e : Int) : Int :=
  if s = 0 then (if e = 0 then 1 else if e = 2 then 2 else if e = 5 then 1 else -1)
  else if s = 1 then (if e = 1 then 0 else if e = 4 then 3 else if e = 6 then 0 else -1)
  else if s = 2 then (if e = 0 then 1 else if e = 3 then 0 else if e = 5 then 1 else -1)
  else if s = 3 then (if e = 1 then 0 else if e = 6 then 0 else -1)
  else -1

theorem ix0 (w : World) : (Instr.index 103 (.agg tabA) (.int .i64 0)).run Try.prog w = .ok (.agg row0) w := by kernel_rfl
theorem ix1 (w : World) : (Instr.index 103 (.agg tabA) (.int .i64 1)).run Try.prog w = .ok (.agg row1) w := by kernel_rfl
theorem ix2 (w : World) : (Instr.index 103 (.agg tabA) (.int .i64 2)).run Try.prog w = .ok (.agg row2) w := by kernel_rfl
theorem ix3 (w : World) : (Instr.index 103 (.agg tabA) (.int .i64 3)).run Try.prog w = .ok (.agg row3) w := by kernel_rfl
theorem iy00 (w : World) : (Instr.index 102 (.agg row0) (.int .i64 0)).run Try.prog w = .ok (.int .i64 1) w := by kernel_rfl
theorem iy01 (w : World) : (Instr.index 102 (.agg row0) (.int .i64 1)).run Try.prog w = .ok (.int .i64 (-1)) w := by kernel_rfl
theorem iy02 (w : World) : (Instr.index 102 (.agg row0) (.int .i64 2)).run Try.prog w = .ok (.int .i64 2) w := by kernel_rfl
theorem iy03 (w : World) : (Instr.index 102 (.agg row0) (.int .i64 3)).run Try.prog w = .ok (.int .i64 (-1)) w := by kernel_rfl
theorem iy04 (w : World) : (Instr.index 102 (.agg row0) (.int .i64 4)).run Try.prog w = .ok (.int .i64 (-1)) w := by kernel_rfl
theorem iy05 (w : World) : (Instr.index 102 (.agg row0) (.int .i64 5)).run Try.prog w = .ok (.int .i64 1) w := by kernel_rfl
theorem iy06 (w : World) : (Instr.index 102 (.agg row0) (.int .i64 6)).run Try.prog w = .ok (.int .i64 (-1)) w := by kernel_rfl
theorem iy10 (w : World) : (Instr.index 102 (.agg row1) (.int .i64 0)).run Try.prog w = .ok (.int .i64 (-1)) w := by kernel_rfl
theorem iy11 (w : World) : (Instr.index 102 (.agg row1) (.int .i64 1)).run Try.prog w = .ok (.int .i64 0) w := by kernel_rfl
theorem iy12 (w : World) : (Instr.index 102 (.agg row1) (.int .i64 2)).run Try.prog w = .ok (.int .i64 (-1)) w := by kernel_rfl
theorem iy13 (w : World) : (Instr.index 102 (.agg row1) (.int .i64 3)).run Try.prog w = .ok (.int .i64 (-1)) w := by kernel_rfl
theorem iy14 (w : World) : (Instr.index 102 (.agg row1) (.int .i64 4)).run Try.prog w = .ok (.int .i64 3) w := by kernel_rfl
theorem iy15 (w : World) : (Instr.index 102 (.agg row1) (.int .i64 5)).run Try.prog w = .ok (.int .i64 (-1)) w := by kernel_rfl
theorem iy16 (w : World) : (Instr.index 102 (.agg row1) (.int .i64 6)).run Try.prog w = .ok (.int .i64 0) w := by kernel_rfl
theorem iy20 (w : World) : (Instr.index 102 (.agg row2) (.int .i64 0)).run Try.prog w = .ok (.int .i64 1) w := by kernel_rfl
theorem iy21 (w : World) : (Instr.index 102 (.agg row2) (.int .i64 1)).run Try.prog w = .ok (.int .i64 (-1)) w := by kernel_rfl
theorem iy22 (w : World) : (Instr.index 102 (.agg row2) (.int .i64 2)).run Try.prog w = .ok (.int .i64 (-1)) w := by kernel_rfl
theorem iy23 (w : World) : (Instr.index 102 (.agg row2) (.int .i64 3)).run Try.prog w = .ok (.int .i64 0) w := by kernel_rfl
theorem iy24 (w : World) : (Instr.index 102 (.agg row2) (.int .i64 4)).run Try.prog w = .ok (.int .i64 (-1)) w := by kernel_rfl
theorem iy25 (w : World) : (Instr.index 102 (.agg row2) (.int .i64 5)).run Try.prog w = .ok (.int .i64 1) w := by kernel_rfl
theorem iy26 (w : World) : (Instr.index 102 (.agg row2) (.int .i64 6)).run Try.prog w = .ok (.int .i64 (-1)) w := by kernel_rfl
theorem iy30 (w : World) : (Instr.index 102 (.agg row3) (.int .i64 0)).run Try.prog w = .ok (.int .i64 (-1)) w := by kernel_rfl
theorem iy31 (w : World) : (Instr.index 102 (.agg row3) (.int .i64 1)).run Try.prog w = .ok (.int .i64 0) w := by kernel_rfl
theorem iy32 (w : World) : (Instr.index 102 (.agg row3) (.int .i64 2)).run Try.prog w = .ok (.int .i64 (-1)) w := by kernel_rfl
theorem iy33 (w : World) : (Instr.index 102 (.agg row3) (.int .i64 3)).run Try.prog w = .ok (.int .i64 (-1)) w := by kernel_rfl
theorem iy34 (w : World) : (Instr.index 102 (.agg row3) (.int .i64 4)).run Try.prog w = .ok (.int .i64 (-1)) w := by kernel_rfl
theorem iy35 (w : World) : (Instr.index 102 (.agg row3) (.int .i64 5)).run Try.prog w = .ok (.int .i64 (-1)) w := by kernel_rfl
theorem iy36 (w : World) : (Instr.index 102 (.agg row3) (.int .i64 6)).run Try.prog w = .ok (.int .i64 0) w := by kernel_rfl
set_option maxHeartbeats 1000000 in
theorem next00 (w : World) : Calls Try.prog 57 #[.int .i64 0, .int .i64 0] w fun x w' => x = .returned (.tuple #[.int .i64 1, .bool true]) ∧ Below w.heap.size w w' := by
  have i1 := ix0
  have i2 := iy00
  go_enter Try.func57, Try.ntmps57
  go_wp2_with (go_at_call 78; refine (table_calls _).mono ?_; rintro e w' ⟨rfl, bs, rfl⟩)
  go_ret2
  exact ⟨rfl, by go_grown⟩
set_option maxHeartbeats 1000000 in
theorem next01 (w : World) : Calls Try.prog 57 #[.int .i64 0, .int .i64 1] w fun x w' => x = .returned (.tuple #[.int .i64 0, .bool false]) ∧ Below w.heap.size w w' := by
  have i1 := ix0
  have i2 := iy01
  go_enter Try.func57, Try.ntmps57
  go_wp2_with (go_at_call 78; refine (table_calls _).mono ?_; rintro e w' ⟨rfl, bs, rfl⟩)
  go_ret2
  exact ⟨rfl, by go_grown⟩
set_option maxHeartbeats 1000000 in
theorem next02 (w : World) : Calls Try.prog 57 #[.int .i64 0, .int .i64 2] w fun x w' => x = .returned (.tuple #[.int .i64 2, .bool true]) ∧ Below w.heap.size w w' := by
  have i1 := ix0
  have i2 := iy02
  go_enter Try.func57, Try.ntmps57
  go_wp2_with (go_at_call 78; refine (table_calls _).mono ?_; rintro e w' ⟨rfl, bs, rfl⟩)
  go_ret2
  exact ⟨rfl, by go_grown⟩
set_option maxHeartbeats 1000000 in
theorem next03 (w : World) : Calls Try.prog 57 #[.int .i64 0, .int .i64 3] w fun x w' => x = .returned (.tuple #[.int .i64 0, .bool false]) ∧ Below w.heap.size w w' := by
  have i1 := ix0
  have i2 := iy03
  go_enter Try.func57, Try.ntmps57
  go_wp2_with (go_at_call 78; refine (table_calls _).mono ?_; rintro e w' ⟨rfl, bs, rfl⟩)
  go_ret2
  exact ⟨rfl, by go_grown⟩
set_option maxHeartbeats 1000000 in
theorem next04 (w : World) : Calls Try.prog 57 #[.int .i64 0, .int .i64 4] w fun x w' => x = .returned (.tuple #[.int .i64 0, .bool false]) ∧ Below w.heap.size w w' := by
  have i1 := ix0
  have i2 := iy04
  go_enter Try.func57, Try.ntmps57
  go_wp2_with (go_at_call 78; refine (table_calls _).mono ?_; rintro e w' ⟨rfl, bs, rfl⟩)
  go_ret2
  exact ⟨rfl, by go_grown⟩
set_option maxHeartbeats 1000000 in
theorem next05 (w : World) : Calls Try.prog 57 #[.int .i64 0, .int .i64 5] w fun x w' => x = .returned (.tuple #[.int .i64 1, .bool true]) ∧ Below w.heap.size w w' := by
  have i1 := ix0
  have i2 := iy05
  go_enter Try.func57, Try.ntmps57
  go_wp2_with (go_at_call 78; refine (table_calls _).mono ?_; rintro e w' ⟨rfl, bs, rfl⟩)
  go_ret2
  exact ⟨rfl, by go_grown⟩
set_option maxHeartbeats 1000000 in
theorem next06 (w : World) : Calls Try.prog 57 #[.int .i64 0, .int .i64 6] w fun x w' => x = .returned (.tuple #[.int .i64 0, .bool false]) ∧ Below w.heap.size w w' := by
  have i1 := ix0
  have i2 := iy06
  go_enter Try.func57, Try.ntmps57
  go_wp2_with (go_at_call 78; refine (table_calls _).mono ?_; rintro e w' ⟨rfl, bs, rfl⟩)
  go_ret2
  exact ⟨rfl, by go_grown⟩
set_option maxHeartbeats 1000000 in
theorem next10 (w : World) : Calls Try.prog 57 #[.int .i64 1, .int .i64 0] w fun x w' => x = .returned (.tuple #[.int .i64 1, .bool false]) ∧ Below w.heap.size w w' := by
  have i1 := ix1
  have i2 := iy10
  go_enter Try.func57, Try.ntmps57
  go_wp2_with (go_at_call 78; refine (table_calls _).mono ?_; rintro e w' ⟨rfl, bs, rfl⟩)
  go_ret2
  exact ⟨rfl, by go_grown⟩
set_option maxHeartbeats 1000000 in
theorem next11 (w : World) : Calls Try.prog 57 #[.int .i64 1, .int .i64 1] w fun x w' => x = .returned (.tuple #[.int .i64 0, .bool true]) ∧ Below w.heap.size w w' := by
  have i1 := ix1
  have i2 := iy11
  go_enter Try.func57, Try.ntmps57
  go_wp2_with (go_at_call 78; refine (table_calls _).mono ?_; rintro e w' ⟨rfl, bs, rfl⟩)
  go_ret2
  exact ⟨rfl, by go_grown⟩
set_option maxHeartbeats 1000000 in
theorem next12 (w : World) : Calls Try.prog 57 #[.int .i64 1, .int .i64 2] w fun x w' => x = .returned (.tuple #[.int .i64 1, .bool false]) ∧ Below w.heap.size w w' := by
  have i1 := ix1
  have i2 := iy12
  go_enter Try.func57, Try.ntmps57
  go_wp2_with (go_at_call 78; refine (table_calls _).mono ?_; rintro e w' ⟨rfl, bs, rfl⟩)
  go_ret2
  exact ⟨rfl, by go_grown⟩
set_option maxHeartbeats 1000000 in
theorem next13 (w : World) : Calls Try.prog 57 #[.int .i64 1, .int .i64 3] w fun x w' => x = .returned (.tuple #[.int .i64 1, .bool false]) ∧ Below w.heap.size w w' := by
  have i1 := ix1
  have i2 := iy13
  go_enter Try.func57, Try.ntmps57
  go_wp2_with (go_at_call 78; refine (table_calls _).mono ?_; rintro e w' ⟨rfl, bs, rfl⟩)
  go_ret2
  exact ⟨rfl, by go_grown⟩
set_option maxHeartbeats 1000000 in
theorem next14 (w : World) : Calls Try.prog 57 #[.int .i64 1, .int .i64 4] w fun x w' => x = .returned (.tuple #[.int .i64 3, .bool true]) ∧ Below w.heap.size w w' := by
  have i1 := ix1
  have i2 := iy14
  go_enter Try.func57, Try.ntmps57
  go_wp2_with (go_at_call 78; refine (table_calls _).mono ?_; rintro e w' ⟨rfl, bs, rfl⟩)
  go_ret2
  exact ⟨rfl, by go_grown⟩
set_option maxHeartbeats 1000000 in
theorem next15 (w : World) : Calls Try.prog 57 #[.int .i64 1, .int .i64 5] w fun x w' => x = .returned (.tuple #[.int .i64 1, .bool false]) ∧ Below w.heap.size w w' := by
  have i1 := ix1
  have i2 := iy15
  go_enter Try.func57, Try.ntmps57
  go_wp2_with (go_at_call 78; refine (table_calls _).mono ?_; rintro e w' ⟨rfl, bs, rfl⟩)
  go_ret2
  exact ⟨rfl, by go_grown⟩
set_option maxHeartbeats 1000000 in
theorem next16 (w : World) : Calls Try.prog 57 #[.int .i64 1, .int .i64 6] w fun x w' => x = .returned (.tuple #[.int .i64 0, .bool true]) ∧ Below w.heap.size w w' := by
  have i1 := ix1
  have i2 := iy16
  go_enter Try.func57, Try.ntmps57
  go_wp2_with (go_at_call 78; refine (table_calls _).mono ?_; rintro e w' ⟨rfl, bs, rfl⟩)
  go_ret2
  exact ⟨rfl, by go_grown⟩
set_option maxHeartbeats 1000000 in
theorem next20 (w : World) : Calls Try.prog 57 #[.int .i64 2, .int .i64 0] w fun x w' => x = .returned (.tuple #[.int .i64 1, .bool true]) ∧ Below w.heap.size w w' := by
  have i1 := ix2
  have i2 := iy20
  go_enter Try.func57, Try.ntmps57
  go_wp2_with (go_at_call 78; refine (table_calls _).mono ?_; rintro e w' ⟨rfl, bs, rfl⟩)
  go_ret2
  exact ⟨rfl, by go_grown⟩
set_option maxHeartbeats 1000000 in
theorem next21 (w : World) : Calls Try.prog 57 #[.int .i64 2, .int .i64 1] w fun x w' => x = .returned (.tuple #[.int .i64 2, .bool false]) ∧ Below w.heap.size w w' := by
  have i1 := ix2
  have i2 := iy21
  go_enter Try.func57, Try.ntmps57
  go_wp2_with (go_at_call 78; refine (table_calls _).mono ?_; rintro e w' ⟨rfl, bs, rfl⟩)
  go_ret2
  exact ⟨rfl, by go_grown⟩
set_option maxHeartbeats 1000000 in
theorem next22 (w : World) : Calls Try.prog 57 #[.int .i64 2, .int .i64 2] w fun x w' => x = .returned (.tuple #[.int .i64 2, .bool false]) ∧ Below w.heap.size w w' := by
  have i1 := ix2
  have i2 := iy22
  go_enter Try.func57, Try.ntmps57
  go_wp2_with (go_at_call 78; refine (table_calls _).mono ?_; rintro e w' ⟨rfl, bs, rfl⟩)
  go_ret2
  exact ⟨rfl, by go_grown⟩
set_option maxHeartbeats 1000000 in
theorem next23 (w : World) : Calls Try.prog 57 #[.int .i64 2, .int .i64 3] w fun x w' => x = .returned (.tuple #[.int .i64 0, .bool true]) ∧ Below w.heap.size w w' := by
  have i1 := ix2
  have i2 := iy23
  go_enter Try.func57, Try.ntmps57
  go_wp2_with (go_at_call 78; refine (table_calls _).mono ?_; rintro e w' ⟨rfl, bs, rfl⟩)
  go_ret2
  exact ⟨rfl, by go_grown⟩
set_option maxHeartbeats 1000000 in
theorem next24 (w : World) : Calls Try.prog 57 #[.int .i64 2, .int .i64 4] w fun x w' => x = .returned (.tuple #[.int .i64 2, .bool false]) ∧ Below w.heap.size w w' := by
  have i1 := ix2
  have i2 := iy24
  go_enter Try.func57, Try.ntmps57
  go_wp2_with (go_at_call 78; refine (table_calls _).mono ?_; rintro e w' ⟨rfl, bs, rfl⟩)
  go_ret2
  exact ⟨rfl, by go_grown⟩
set_option maxHeartbeats 1000000 in
theorem next25 (w : World) : Calls Try.prog 57 #[.int .i64 2, .int .i64 5] w fun x w' => x = .returned (.tuple #[.int .i64 1, .bool true]) ∧ Below w.heap.size w w' := by
  have i1 := ix2
  have i2 := iy25
  go_enter Try.func57, Try.ntmps57
  go_wp2_with (go_at_call 78; refine (table_calls _).mono ?_; rintro e w' ⟨rfl, bs, rfl⟩)
  go_ret2
  exact ⟨rfl, by go_grown⟩
set_option maxHeartbeats 1000000 in
theorem next26 (w : World) : Calls Try.prog 57 #[.int .i64 2, .int .i64 6] w fun x w' => x = .returned (.tuple #[.int .i64 2, .bool false]) ∧ Below w.heap.size w w' := by
  have i1 := ix2
  have i2 := iy26
  go_enter Try.func57, Try.ntmps57
  go_wp2_with (go_at_call 78; refine (table_calls _).mono ?_; rintro e w' ⟨rfl, bs, rfl⟩)
  go_ret2
  exact ⟨rfl, by go_grown⟩
set_option maxHeartbeats 1000000 in
theorem next30 (w : World) : Calls Try.prog 57 #[.int .i64 3, .int .i64 0] w fun x w' => x = .returned (.tuple #[.int .i64 3, .bool false]) ∧ Below w.heap.size w w' := by
  have i1 := ix3
  have i2 := iy30
  go_enter Try.func57, Try.ntmps57
  go_wp2_with (go_at_call 78; refine (table_calls _).mono ?_; rintro e w' ⟨rfl, bs, rfl⟩)
  go_ret2
  exact ⟨rfl, by go_grown⟩
set_option maxHeartbeats 1000000 in
theorem next31 (w : World) : Calls Try.prog 57 #[.int .i64 3, .int .i64 1] w fun x w' => x = .returned (.tuple #[.int .i64 0, .bool true]) ∧ Below w.heap.size w w' := by
  have i1 := ix3
  have i2 := iy31
  go_enter Try.func57, Try.ntmps57
  go_wp2_with (go_at_call 78; refine (table_calls _).mono ?_; rintro e w' ⟨rfl, bs, rfl⟩)
  go_ret2
  exact ⟨rfl, by go_grown⟩
set_option maxHeartbeats 1000000 in
theorem next32 (w : World) : Calls Try.prog 57 #[.int .i64 3, .int .i64 2] w fun x w' => x = .returned (.tuple #[.int .i64 3, .bool false]) ∧ Below w.heap.size w w' := by
  have i1 := ix3
  have i2 := iy32
  go_enter Try.func57, Try.ntmps57
  go_wp2_with (go_at_call 78; refine (table_calls _).mono ?_; rintro e w' ⟨rfl, bs, rfl⟩)
  go_ret2
  exact ⟨rfl, by go_grown⟩
set_option maxHeartbeats 1000000 in
theorem next33 (w : World) : Calls Try.prog 57 #[.int .i64 3, .int .i64 3] w fun x w' => x = .returned (.tuple #[.int .i64 3, .bool false]) ∧ Below w.heap.size w w' := by
  have i1 := ix3
  have i2 := iy33
  go_enter Try.func57, Try.ntmps57
  go_wp2_with (go_at_call 78; refine (table_calls _).mono ?_; rintro e w' ⟨rfl, bs, rfl⟩)
  go_ret2
  exact ⟨rfl, by go_grown⟩
set_option maxHeartbeats 1000000 in
theorem next34 (w : World) : Calls Try.prog 57 #[.int .i64 3, .int .i64 4] w fun x w' => x = .returned (.tuple #[.int .i64 3, .bool false]) ∧ Below w.heap.size w w' := by
  have i1 := ix3
  have i2 := iy34
  go_enter Try.func57, Try.ntmps57
  go_wp2_with (go_at_call 78; refine (table_calls _).mono ?_; rintro e w' ⟨rfl, bs, rfl⟩)
  go_ret2
  exact ⟨rfl, by go_grown⟩
set_option maxHeartbeats 1000000 in
theorem next35 (w : World) : Calls Try.prog 57 #[.int .i64 3, .int .i64 5] w fun x w' => x = .returned (.tuple #[.int .i64 3, .bool false]) ∧ Below w.heap.size w w' := by
  have i1 := ix3
  have i2 := iy35
  go_enter Try.func57, Try.ntmps57
  go_wp2_with (go_at_call 78; refine (table_calls _).mono ?_; rintro e w' ⟨rfl, bs, rfl⟩)
  go_ret2
  exact ⟨rfl, by go_grown⟩
set_option maxHeartbeats 1000000 in
theorem next36 (w : World) : Calls Try.prog 57 #[.int .i64 3, .int .i64 6] w fun x w' => x = .returned (.tuple #[.int .i64 0, .bool true]) ∧ Below w.heap.size w w' := by
  have i1 := ix3
  have i2 := iy36
  go_enter Try.func57, Try.ntmps57
  go_wp2_with (go_at_call 78; refine (table_calls _).mono ?_; rintro e w' ⟨rfl, bs, rfl⟩)
  go_ret2
  exact ⟨rfl, by go_grown⟩
set_option maxHeartbeats 1000000 in
theorem next_s0 (s e : Int) (h : s < 0) (w : World) : Calls Try.prog 57 #[.int .i64 s, .int .i64 e] w fun x w' => x = .returned (.tuple #[.int .i64 s, .bool false]) ∧ w' = w := by
  go_enter Try.func57, Try.ntmps57
  go_wp2
  go_ret2
  exact ⟨rfl, rfl⟩
set_option maxHeartbeats 1000000 in
theorem next_s1 (s e : Int) (h0 : 0 ≤ s) (h : 4 ≤ s) (w : World) : Calls Try.prog 57 #[.int .i64 s, .int .i64 e] w fun x w' => x = .returned (.tuple #[.int .i64 s, .bool false]) ∧ w' = w := by
  go_enter Try.func57, Try.ntmps57
  go_wp2
  go_ret2
  exact ⟨rfl, rfl⟩
set_option maxHeartbeats 1000000 in
theorem next_e0 (s e : Int) (h0 : 0 ≤ s) (h : s < 4) (h1 : e < 0) (w : World) : Calls Try.prog 57 #[.int .i64 s, .int .i64 e] w fun x w' => x = .returned (.tuple #[.int .i64 s, .bool false]) ∧ w' = w := by
  go_enter Try.func57, Try.ntmps57
  go_wp2
  go_ret2
  exact ⟨rfl, rfl⟩
set_option maxHeartbeats 1000000 in
theorem next_e1 (s e : Int) (h0 : 0 ≤ s) (h : s < 4) (h1 : 0 ≤ e) (h2 : 7 ≤ e) (w : World) : Calls Try.prog 57 #[.int .i64 s, .int .i64 e] w fun x w' => x = .returned (.tuple #[.int .i64 s, .bool false]) ∧ w' = w := by
  go_enter Try.func57, Try.ntmps57
  go_wp2
  go_ret2
  exact ⟨rfl, rfl⟩
theorem range4 {s : Int} (h0 : 0 ≤ s) (h1 : s < 4) : s = 0 ∨ s = 1 ∨ s = 2 ∨ s = 3 := by omega
theorem range7 {s : Int} (h0 : 0 ≤ s) (h1 : s < 7) : s = 0 ∨ s = 1 ∨ s = 2 ∨ s = 3 ∨ s = 4 ∨ s = 5 ∨ s = 6 := by omega
/-- What state.Next answers. -/
def state_Next.f (s e : Int) : Option (Int × Bool) := some (if toS s e = -1 then (s, false) else (toS s e, true))
theorem to_out (s e : Int) (h : s < 0 ∨ 4 ≤ s ∨ e < 0 ∨ 7 ≤ e) : toS s e = -1 := by
  unfold toS
  repeat' split
  all_goals first | rfl | omega
theorem state_Next.calls (a0 a1 : Int) (r1 : Int) (r2 : Bool) (w : World) (h : state_Next.f a0 a1 = some (r1, r2)) :
    Calls Try.prog 57 #[.int .i64 a0, .int .i64 a1] w fun e w' => e = .returned (.tuple #[.int .i64 r1, .bool r2]) ∧ Below w.heap.size w w' := by
  have out : (a0 < 0 ∨ 4 ≤ a0 ∨ a1 < 0 ∨ 7 ≤ a1) → r1 = a0 ∧ r2 = false := fun ho => by
    unfold state_Next.f at h
    rw [if_pos (to_out a0 a1 ho)] at h
    injection h with h
    injection h with h1 h2
    exact ⟨h1.symm, h2.symm⟩
  by_cases c1 : a0 < 0
  · obtain ⟨rfl, rfl⟩ := out (by omega)
    exact (next_s0 _ a1 c1 w).mono fun _ _ ⟨he, hw⟩ => ⟨he, by rw [hw]; exact Below.refl _ _⟩
  by_cases c2 : 4 ≤ a0
  · obtain ⟨rfl, rfl⟩ := out (by omega)
    exact (next_s1 _ a1 (by omega) c2 w).mono fun _ _ ⟨he, hw⟩ => ⟨he, by rw [hw]; exact Below.refl _ _⟩
  by_cases c3 : a1 < 0
  · obtain ⟨rfl, rfl⟩ := out (by omega)
    exact (next_e0 _ a1 (by omega) (by omega) c3 w).mono fun _ _ ⟨he, hw⟩ => ⟨he, by rw [hw]; exact Below.refl _ _⟩
  by_cases c4 : 7 ≤ a1
  · obtain ⟨rfl, rfl⟩ := out (by omega)
    exact (next_e1 _ a1 (by omega) (by omega) (by omega) c4 w).mono fun _ _ ⟨he, hw⟩ => ⟨he, by rw [hw]; exact Below.refl _ _⟩
  clear out
  rcases range4 (s := a0) (by omega) (by omega) with rfl | rfl | rfl | rfl <;> rcases range7 (s := a1) (by omega) (by omega) with rfl | rfl | rfl | rfl | rfl | rfl | rfl
  · (obtain ⟨rfl, rfl⟩ : 1 = r1 ∧ true = r2 := by simpa [state_Next.f, toS] using h); exact next00 w
  · (obtain ⟨rfl, rfl⟩ : 0 = r1 ∧ false = r2 := by simpa [state_Next.f, toS] using h); exact next01 w
  · (obtain ⟨rfl, rfl⟩ : 2 = r1 ∧ true = r2 := by simpa [state_Next.f, toS] using h); exact next02 w
  · (obtain ⟨rfl, rfl⟩ : 0 = r1 ∧ false = r2 := by simpa [state_Next.f, toS] using h); exact next03 w
  · (obtain ⟨rfl, rfl⟩ : 0 = r1 ∧ false = r2 := by simpa [state_Next.f, toS] using h); exact next04 w
  · (obtain ⟨rfl, rfl⟩ : 1 = r1 ∧ true = r2 := by simpa [state_Next.f, toS] using h); exact next05 w
  · (obtain ⟨rfl, rfl⟩ : 0 = r1 ∧ false = r2 := by simpa [state_Next.f, toS] using h); exact next06 w
  · (obtain ⟨rfl, rfl⟩ : 1 = r1 ∧ false = r2 := by simpa [state_Next.f, toS] using h); exact next10 w
  · (obtain ⟨rfl, rfl⟩ : 0 = r1 ∧ true = r2 := by simpa [state_Next.f, toS] using h); exact next11 w
  · (obtain ⟨rfl, rfl⟩ : 1 = r1 ∧ false = r2 := by simpa [state_Next.f, toS] using h); exact next12 w
  · (obtain ⟨rfl, rfl⟩ : 1 = r1 ∧ false = r2 := by simpa [state_Next.f, toS] using h); exact next13 w
  · (obtain ⟨rfl, rfl⟩ : 3 = r1 ∧ true = r2 := by simpa [state_Next.f, toS] using h); exact next14 w
  · (obtain ⟨rfl, rfl⟩ : 1 = r1 ∧ false = r2 := by simpa [state_Next.f, toS] using h); exact next15 w
  · (obtain ⟨rfl, rfl⟩ : 0 = r1 ∧ true = r2 := by simpa [state_Next.f, toS] using h); exact next16 w
  · (obtain ⟨rfl, rfl⟩ : 1 = r1 ∧ true = r2 := by simpa [state_Next.f, toS] using h); exact next20 w
  · (obtain ⟨rfl, rfl⟩ : 2 = r1 ∧ false = r2 := by simpa [state_Next.f, toS] using h); exact next21 w
  · (obtain ⟨rfl, rfl⟩ : 2 = r1 ∧ false = r2 := by simpa [state_Next.f, toS] using h); exact next22 w
  · (obtain ⟨rfl, rfl⟩ : 0 = r1 ∧ true = r2 := by simpa [state_Next.f, toS] using h); exact next23 w
  · (obtain ⟨rfl, rfl⟩ : 2 = r1 ∧ false = r2 := by simpa [state_Next.f, toS] using h); exact next24 w
  · (obtain ⟨rfl, rfl⟩ : 1 = r1 ∧ true = r2 := by simpa [state_Next.f, toS] using h); exact next25 w
  · (obtain ⟨rfl, rfl⟩ : 2 = r1 ∧ false = r2 := by simpa [state_Next.f, toS] using h); exact next26 w
  · (obtain ⟨rfl, rfl⟩ : 3 = r1 ∧ false = r2 := by simpa [state_Next.f, toS] using h); exact next30 w
  · (obtain ⟨rfl, rfl⟩ : 0 = r1 ∧ true = r2 := by simpa [state_Next.f, toS] using h); exact next31 w
  · (obtain ⟨rfl, rfl⟩ : 3 = r1 ∧ false = r2 := by simpa [state_Next.f, toS] using h); exact next32 w
  · (obtain ⟨rfl, rfl⟩ : 3 = r1 ∧ false = r2 := by simpa [state_Next.f, toS] using h); exact next33 w
  · (obtain ⟨rfl, rfl⟩ : 3 = r1 ∧ false = r2 := by simpa [state_Next.f, toS] using h); exact next34 w
  · (obtain ⟨rfl, rfl⟩ : 3 = r1 ∧ false = r2 := by simpa [state_Next.f, toS] using h); exact next35 w
  · (obtain ⟨rfl, rfl⟩ : 0 = r1 ∧ true = r2 := by simpa [state_Next.f, toS] using h); exact next36 w
/-! hostlerref10.Next -/
end Go.Proofs.Ytmlmiocomlehgaa.Man
namespace Go.Proofs.Ytmlmiocomlehgaa.Man
open Go.RowKit Go.Proofs.YtmlmiocomlehgaaW.PrintWords Go.Proofs.YtmlmiocomlehgaaW.PrintLast Go.Proofs.YtmlmiocomlehgaaW.PrintMore Go.Proofs.Ytmlmiocomlehgaa.PA Go.Proofs.Ytmlmiocomlehgaa.PF Go.Proofs.Ytmlmiocomlehgaa.Hid
variable {w0 w : World} {g : Nat}
/-- The first place where it is so. -/
def fstP (p : Nat → Bool) : Nat → Nat → Int
  | 0, _ => -1
  | n + 1, j => if p j = true then (j : Int) else fstP p n (j + 1)
theorem rdP {W : World} {A : Option Addr} {xs : List Nat} (h : kP.C W A xs.length xs) (k : Nat) (x : Nat) (hx : xs[k]? = some x) : ∃ ad, A = some ad ∧ W.cell? (ad.add k) = some (ptr x) := by
  have hlt : k < xs.length := (List.getElem?_eq_some_iff.1 hx).1
  obtain ⟨ad, c, e, _, hK, hc0⟩ := Kd.C_get h (0 : Nat) (k : Int) (by omega) (by omega)
  refine ⟨ad, e, ?_⟩
  have h1 : c = [ptr (xs.getD (k : Int).toNat 0)] := hK
  have := hc0 0 (ptr x) (by rw [h1]; simp [List.getD, hx])
  simpa [kP, Kd.scalar] using this

set_option maxHeartbeats 2000000 in
theorem idx_at1 (p : Nat → Bool) (D : Nat) (xs : List Nat) (A : Option Addr) (n : Nat) (hC : kP.C w A xs.length xs) (hn : xs.length ≤ n)
    (HD : ∀ W, Below w.heap.size w W → ∀ k x, xs[k]? = some x → Calls Try.prog 77 #[ptr x, ptr D] W fun e w' => e = .returned (.bool (p k)) ∧ Below W.heap.size W w') :
    Calls Try.prog 76 #[.slice A xs.length n, .func (.func 77) #[] #[ptr D]] w fun e w' => e = .returned (.int .i64 (fstP p xs.length 0)) ∧ Below w.heap.size w w' := by
  have HC := Aside0.mk hC
  have HDD := Aside0.mk HD
  have hlen : xs.length ≤ 9223372036854775807 := hC.2.1
  obtain ⟨RES, hres⟩ : ∃ R, R = fstP p xs.length 0 := ⟨_, rfl⟩
  rw [← hres]
  have HRES := Aside0.mk hres.symm
  clear hC HD hres
  go_enter Try.func76, Try.ntmps76
  go_wp2
  go_loopw [8] (fun v8 wr => ∃ k : Nat, k ≤ xs.length ∧ v8 = .int .i64 k ∧ Aside0 (fstP p (xs.length - k) k = RES) ∧ Aside0 (Below w.heap.size w wr)) (fun v8 _ => xs.length - (intOf v8).toNat)
  case atStart => exact ⟨0, Nat.zero_le _, rfl, HRES, ⟨Below.refl _ _⟩⟩
  case round =>
    obtain ⟨k, hk, rfl, HF, HB⟩ := hrel
    by_cases hlt : k < xs.length
    · obtain ⟨x, hx⟩ : ∃ x, xs[k]? = some x := ⟨_, List.getElem?_eq_getElem hlt⟩
      obtain ⟨ad, rfl, hx0⟩ := rdP (Kd.C_below HC.out HB.out) k x hx
      have hF := HF.out
      rw [show xs.length - k = (xs.length - (k + 1)) + 1 by omega, fstP] at hF
      have h0k : (0 : Int) ≤ (k : Int) := by omega
      have hkl : (k : Int) < (xs.length : Int) := by omega
      have HX := Aside0.mk hx
      clear hx HF
      cases hd : p k with
      | true =>
        rw [hd, if_pos rfl] at hF
        subst hF
        go_wp2_with (go_at_call 77; refine (HDD.out _ HB.out k x HX.out).mono ?_; rintro e w2 ⟨rfl, hb2⟩; rw [hd])
        go_ret
        exact ⟨rfl, below_step HB.out hb2⟩
      | false =>
        rw [hd, if_neg (by decide)] at hF
        have HF := Aside0.mk hF
        clear hF
        go_wp2_with (go_at_call 77; refine (HDD.out _ HB.out k x HX.out).mono ?_; rintro e w2 ⟨rfl, hb2⟩; rw [hd])
        exact ⟨⟨k + 1, by omega, by rw [show ((k : Int) + 1) = ((k + 1 : Nat) : Int) by omega], HF, ⟨below_step HB.out hb2⟩⟩, by simp [intOf]; omega⟩
    · have hke : k = xs.length := by omega
      subst hke
      have hF := HF.out
      rw [Nat.sub_self] at hF
      have hF2 : -1 = RES := hF
      subst hF2
      clear hk HF hF
      go_wp2
      go_ret
      exact ⟨rfl, HB.out⟩

set_option maxHeartbeats 2000000 in
theorem idx_away1 (p : Nat → Bool) (D : Nat) (xs : List Nat) (A : Option Addr) (n : Nat) (hC : kP.C w A xs.length xs) (hn : xs.length ≤ n)
    (HD : ∀ W, Below w.heap.size w W → ∀ k x, xs[k]? = some x → Calls Try.prog 71 #[ptr x, ptr D] W fun e w' => e = .returned (.bool (p k)) ∧ Below W.heap.size W w') :
    Calls Try.prog 76 #[.slice A xs.length n, .func (.func 71) #[] #[ptr D]] w fun e w' => e = .returned (.int .i64 (fstP p xs.length 0)) ∧ Below w.heap.size w w' := by
  have HC := Aside0.mk hC
  have HDD := Aside0.mk HD
  have hlen : xs.length ≤ 9223372036854775807 := hC.2.1
  obtain ⟨RES, hres⟩ : ∃ R, R = fstP p xs.length 0 := ⟨_, rfl⟩
  rw [← hres]
  have HRES := Aside0.mk hres.symm
  clear hC HD hres
  go_enter Try.func76, Try.ntmps76
  go_wp2
  go_loopw [8] (fun v8 wr => ∃ k : Nat, k ≤ xs.length ∧ v8 = .int .i64 k ∧ Aside0 (fstP p (xs.length - k) k = RES) ∧ Aside0 (Below w.heap.size w wr)) (fun v8 _ => xs.length - (intOf v8).toNat)
  case atStart => exact ⟨0, Nat.zero_le _, rfl, HRES, ⟨Below.refl _ _⟩⟩
  case round =>
    obtain ⟨k, hk, rfl, HF, HB⟩ := hrel
    by_cases hlt : k < xs.length
    · obtain ⟨x, hx⟩ : ∃ x, xs[k]? = some x := ⟨_, List.getElem?_eq_getElem hlt⟩
      obtain ⟨ad, rfl, hx0⟩ := rdP (Kd.C_below HC.out HB.out) k x hx
      have hF := HF.out
      rw [show xs.length - k = (xs.length - (k + 1)) + 1 by omega, fstP] at hF
      have h0k : (0 : Int) ≤ (k : Int) := by omega
      have hkl : (k : Int) < (xs.length : Int) := by omega
      have HX := Aside0.mk hx
      clear hx HF
      cases hd : p k with
      | true =>
        rw [hd, if_pos rfl] at hF
        subst hF
        go_wp2_with (go_at_call 71; refine (HDD.out _ HB.out k x HX.out).mono ?_; rintro e w2 ⟨rfl, hb2⟩; rw [hd])
        go_ret
        exact ⟨rfl, below_step HB.out hb2⟩
      | false =>
        rw [hd, if_neg (by decide)] at hF
        have HF := Aside0.mk hF
        clear hF
        go_wp2_with (go_at_call 71; refine (HDD.out _ HB.out k x HX.out).mono ?_; rintro e w2 ⟨rfl, hb2⟩; rw [hd])
        exact ⟨⟨k + 1, by omega, by rw [show ((k : Int) + 1) = ((k + 1 : Nat) : Int) by omega], HF, ⟨below_step HB.out hb2⟩⟩, by simp [intOf]; omega⟩
    · have hke : k = xs.length := by omega
      subst hke
      have hF := HF.out
      rw [Nat.sub_self] at hF
      have hF2 : -1 = RES := hF
      subst hF2
      clear hk HF hF
      go_wp2
      go_ret
      exact ⟨rfl, HB.out⟩

/-- The first one that is so. -/
def fstO (dl : Nat → Bool) : List Nat → Int → Int
  | [], _ => -1
  | x :: l, j => if dl x = true then j else fstO dl l (j + 1)
theorem fstO_none (dl : Nat → Bool) : ∀ (xs : List Nat) (j : Int), 0 ≤ j → fstO dl xs j = -1 → ∀ x ∈ xs, dl x = false
  | [], _, _, _ => fun x hx => by simp at hx
  | y :: l, j, hj, h => fun x hx => by
    unfold fstO at h
    by_cases c : dl y = true
    · rw [if_pos c] at h; omega
    · rw [if_neg c] at h
      rcases List.mem_cons.1 hx with rfl | hx
      · simpa using c
      · exact fstO_none dl l (j + 1) (by omega) h x hx
theorem fstO_bd (dl : Nat → Bool) : ∀ (xs : List Nat) (j : Int), fstO dl xs j = -1 ∨ ∃ i : Nat, fstO dl xs j = j + i ∧ i < xs.length ∧ (∀ k (h : k < xs.length), k < i → dl xs[k] = false) ∧ ∀ h : i < xs.length, dl xs[i] = true
  | [], _ => .inl rfl
  | y :: l, j => by
    unfold fstO
    by_cases c : dl y = true
    · rw [if_pos c]
      exact .inr ⟨0, by simp, by simp, fun k _ h => by omega, fun _ => c⟩
    · rw [if_neg c]
      rcases fstO_bd dl l (j + 1) with h | ⟨i, h1, h2, h3, h4⟩
      · exact .inl h
      · refine .inr ⟨i + 1, by rw [h1]; omega, by simpa using h2, fun k hk hki => ?_, fun h => by simpa using h4 h2⟩
        cases k with
        | zero => simpa using c
        | succ k => simpa using h3 k (by simpa using hk) (by omega)

theorem fstO_P (dl : Nat → Bool) : ∀ (xs : List Nat) (p : Nat → Bool) (j : Nat), (∀ i x, xs[i]? = some x → p (j + i) = dl x) → fstP p xs.length j = fstO dl xs j
  | [], _, _, _ => rfl
  | x :: l, p, j, h => by
    have h0 := h 0 x rfl
    rw [Nat.add_zero] at h0
    have ih := fstO_P dl l p (j + 1) (fun i y hy => by
      have := h (i + 1) y (by simpa using hy)
      rwa [show j + 1 + i = j + (i + 1) by omega])
    rw [List.length_cons, fstP, fstO, h0, ih]
    rfl
theorem idxP_raw (dl : Nat → Bool) (D : Nat) (xs : List Nat) (A : Option Addr) (n : Nat) (hC : Kd.C kP w A xs.length xs) (hn : xs.length ≤ n)
    (HD : ∀ W, Below w.heap.size w W → ∀ x, x ∈ xs → Calls Try.prog 71 #[ptr x, ptr D] W fun e w' => e = .returned (.bool (dl x)) ∧ Below W.heap.size W w') :
    Calls Try.prog 76 #[.slice A xs.length n, .func (.func 71) #[] #[ptr D]] w fun e w' => e = .returned (.int .i64 (fstO dl xs 0)) ∧ Below w.heap.size w w' := by
  have := idx_away1 (fun k => dl (xs.getD k 0)) D xs A n hC hn (fun W hb k x hx => by
    have e : dl (xs.getD k 0) = dl x := by simp [List.getD, hx]
    show Calls Try.prog 71 #[ptr x, ptr D] W fun e w' => e = .returned (.bool (dl (xs.getD k 0))) ∧ Below W.heap.size W w'
    rw [e]
    exact HD W hb x (List.mem_of_getElem? hx))
  rwa [fstO_P dl xs _ 0 (fun i x hx => by simp [List.getD, hx])] at this

/-- Those that stay, of the first so many. -/
def keptP (dl : Nat → Bool) (xs : List Nat) : List Nat := xs.filter (fun x => !dl x)
set_option maxHeartbeats 1000000 in
theorem delP_none (dl : Nat → Bool) (D : Nat) (xs : List Nat) (A : Option Addr) (n base : Nat) (hR : Kd.R kP 67 w base (fun _ => True) (.slice A xs.length n) xs)
    (HD : ∀ W, Below w.heap.size w W → ∀ x, x ∈ xs → Calls Try.prog 71 #[ptr x, ptr D] W fun e w' => e = .returned (.bool (dl x)) ∧ Below W.heap.size W w') (h : fstO dl xs 0 = -1) :
    Calls Try.prog 70 #[.slice A xs.length n, .func (.func 71) #[] #[ptr D]] w fun e w' => e = .returned (.slice A xs.length n) ∧
      Kd.R kP 67 w' base (fun _ => True) (.slice A xs.length n) (keptP dl xs) ∧ Below w.heap.size w w' := by
  have hnC := Kd.R_reads' hR
  have HX := Aside0.mk (idxP_raw (w := w) dl D xs A n hnC.2.2 hnC.2.1 HD)
  have HR0 := Aside0.mk hR
  clear hnC hR HD
  have hall := fstO_none dl xs 0 (by omega) h
  have hk : keptP dl xs = xs := by
    unfold keptP
    rw [List.filter_eq_self]
    intro x hx
    simp [hall x hx]
  rw [hk]
  rw [h] at HX
  clear h hall hk
  go_enter Try.func70, Try.ntmps70
  go_wp2_with (go_at_call 76; refine HX.out.mono ?_; rintro e w' ⟨rfl, hb⟩)
  go_ret
  exact ⟨rfl, Kd.R_below HR0.out hb, hb⟩
set_option maxHeartbeats 4000000 in
theorem delP_raw (dl : Nat → Bool) (D : Nat) (xs : List Nat) (b n base : Nat) (hR : Kd.R kP 67 w base (fun _ => True) (.slice (some ⟨b, 0, none⟩) xs.length n) xs)
    (HD : ∀ W, w.grownBy W (some b) → ∀ x, x ∈ xs → Calls Try.prog 71 #[ptr x, ptr D] W fun e w' => e = .returned (.bool (dl x)) ∧ Below W.heap.size W w') :
    Calls Try.prog 70 #[.slice (some ⟨b, 0, none⟩) xs.length n, .func (.func 71) #[] #[ptr D]] w fun e w' => ∃ m : Nat, e = .returned (.slice (some ⟨b, 0, none⟩) m n) ∧
      Kd.R kP 67 w' base (fun _ => True) (.slice (some ⟨b, 0, none⟩) m n) (keptP dl xs) ∧ w.grownBy w' (some b) := by
  have hnC := Kd.R_reads' hR
  have hn : xs.length ≤ n := hnC.2.1
  have hlen : xs.length ≤ 9223372036854775807 := hnC.2.2.2.1
  have HX := Aside0.mk (idxP_raw (w := w) dl D xs (some ⟨b, 0, none⟩) n hnC.2.2 hn (fun W hb => HD W ⟨hb.os, hb.tape, hb.output, hb.size, fun k hk _ => hb.block k hk⟩))
  have HR0 := Aside0.mk hR
  have HDD := Aside0.mk HD
  clear hnC hR HD
  rcases fstO_bd dl xs 0 with h | ⟨i0, h1, h2, h3, h4⟩
  · have hall := fstO_none dl xs 0 (by omega) h
    have hk : keptP dl xs = xs := by
      unfold keptP
      rw [List.filter_eq_self]
      intro x hx
      simp [hall x hx]
    rw [hk]
    rw [h] at HX
    clear h hall hk
    go_enter Try.func70, Try.ntmps70
    go_wp2_with (go_at_call 76; refine HX.out.mono ?_; rintro e w' ⟨rfl, hb⟩)
    go_ret
    exact ⟨_, rfl, Kd.R_below HR0.out hb, ⟨hb.os, hb.tape, hb.output, hb.size, fun k hk _ => hb.block k hk⟩⟩
  · rw [h1] at HX
    have HPRE : Aside0 (keptP dl (xs.take (i0 + 1)) = xs.take i0) := ⟨by
      rw [List.take_succ_eq_append_getElem h2]
      unfold keptP
      rw [List.filter_append, List.filter_eq_self.2 (fun x hx => ?_)]
      · simp [h4 h2]
      · obtain ⟨k, hk, rfl⟩ := List.mem_take_iff_getElem.1 hx
        have := h3 k (by omega) (by omega)
        simp [this]⟩
    have hi0 : ((0 : Int) + (i0 : Int)) = ((i0 : Nat) : Int) := by omega
    rw [hi0] at HX
    clear h1 h3 h4 hi0
    have hne : ((i0 : Int) = -1) = False := eq_false (by omega)
    have hne2 : decide ((i0 : Int) = -1) = false := decide_eq_false (by omega)
    have hne3 : ((i0 : Int) == -1) = false := by rw [beq_eq_false_iff_ne]; omega
    go_enter Try.func70, Try.ntmps70
    go_wp2_with (go_at_call 76; refine HX.out.mono ?_; rintro e w1 ⟨rfl, hb1⟩; have HB1 := Aside0.mk hb1; clear hb1)
    have HG1 : Aside0 (w.grownBy w1 (some b)) := ⟨⟨HB1.out.os, HB1.out.tape, HB1.out.output, HB1.out.size, fun k hk _ => HB1.out.block k hk⟩⟩
    have HR1 := Aside0.mk (Kd.R_below HR0.out HB1.out)
    go_loopw [5, 6] (fun v5 v6 wr => ∃ (i k : Nat) (cur : List Nat), i < k ∧ k ≤ xs.length ∧ v5 = .int .i64 i ∧ v6 = .int .i64 k ∧ cur.length = xs.length ∧ Aside0 (cur.take i = keptP dl (xs.take k)) ∧ Aside0 (cur.drop k = xs.drop k) ∧ Aside0 (Kd.R kP 67 wr base (fun _ => True) (.slice (some ⟨b, 0, none⟩) cur.length n) cur) ∧ Aside0 (w.grownBy wr (some b))) (fun _ v6 _ => xs.length - (intOf v6).toNat)
    case atStart => exact ⟨i0, i0 + 1, xs, by omega, by omega, rfl, by simp, rfl, ⟨HPRE.out.symm⟩, ⟨rfl⟩, HR1, HG1⟩
    case round =>
      obtain ⟨i, k, cur, hik, hk, rfl, rfl, hcl, HT, HDR, HR, HG⟩ := hrel
      obtain ⟨cs9, hb9⟩ := Kd.R_typed HR.out b rfl
      by_cases hlt : k < xs.length
      · obtain ⟨hx0, hxf⟩ := Kd.R_cell (0 : Nat) HR.out (k : Int) (by omega) (by omega)
        obtain ⟨hy0, hyf⟩ := Kd.R_cell (0 : Nat) HR.out (i : Int) (by omega) (by omega)
        have hxg : rdOf (0 : Nat) cur (k : Int) = xs[k] := by
          have h5 := congrArg (fun l : List Nat => l[0]?) HDR.out
          simp only [List.getElem?_drop, Nat.add_zero] at h5
          rw [List.getElem?_eq_getElem (by omega), List.getElem?_eq_getElem hlt] at h5
          simp only [rdOf, Int.toNat_natCast, List.getD, List.getElem?_eq_getElem (show k < cur.length by omega)]
          exact Option.some.inj h5
        obtain ⟨x, hxe⟩ : ∃ x, x = xs[k] := ⟨_, rfl⟩
        have HXM : Aside0 (x ∈ xs) := ⟨by rw [hxe]; exact List.getElem_mem hlt⟩
        rw [hxg, ← hxe, Int.toNat_natCast] at hx0
        rw [Int.toNat_natCast] at hxf hy0 hyf
        have HST := Aside0.mk (Kd.R_put HR.out (i : Int) x)
        rw [Int.toNat_natCast] at HST
        have HTK : Aside0 (keptP dl (xs.take (k + 1)) = keptP dl (xs.take k) ++ (if dl x = true then [] else [x])) := ⟨by
          rw [List.take_succ_eq_append_getElem hlt, ← hxe]
          unfold keptP
          rw [List.filter_append]
          cases hd : dl x <;> simp [hd]⟩
        have HDR1 : Aside0 (cur.drop (k + 1) = xs.drop (k + 1)) := ⟨by
          have := congrArg (List.drop 1) HDR.out
          simpa [List.drop_drop, Nat.add_comm] using this⟩
        have h0k : (0 : Int) ≤ (k : Int) := by omega
        have hkl : (k : Int) < (xs.length : Int) := by omega
        have h0i : (0 : Int) ≤ (i : Int) := by omega
        have hil : (i : Int) < (xs.length : Int) := by omega
        have hbl : b < wr.heap.size := blk_lt hb9
        have HB9 := Aside0.mk hb9
        clear hxe hxg hb9 HDR
        cases hd : dl x with
        | true =>
          rw [hd, if_pos rfl, List.append_nil] at HTK
          go_wp2_with (go_at_call 71; refine (HDD.out _ HG.out x HXM.out).mono ?_; rintro e w2 ⟨rfl, hb2⟩; rw [hd])
          go_roundw
          case measure => simp [intOf]; omega
          case rel => exact ⟨i, k + 1, cur, by omega, by omega, rfl, by rw [show ((k : Int) + 1) = ((k + 1 : Nat) : Int) by omega], hcl, ⟨by rw [HTK.out]; exact HT.out⟩, HDR1, ⟨Kd.R_below HR.out hb2⟩, ⟨Ko.grown_trans HG.out ⟨hb2.os, hb2.tape, hb2.output, hb2.size, fun k hk _ => hb2.block k hk⟩⟩⟩
        | false =>
          rw [hd, if_neg (by decide)] at HTK
          go_wp2_with (go_at_call 71; refine (HDD.out _ HG.out x HXM.out).mono ?_; rintro e w2 ⟨rfl, hb2⟩; rw [hd]; have hy2 : w2.cell? ⟨b, i, none⟩ = _ := (hb2.cell (p := ⟨b, i, none⟩) hbl).trans hy0; have hyf2 : w2.frozen? ⟨b, i, none⟩ = false := (hb2.frozen (p := ⟨b, i, none⟩) hbl).trans hyf; have HB2 := Aside0.mk hb2; clear hb2)
          have hst2 := Kd.R_put (Kd.R_below HR.out HB2.out) (i : Int) x
          rw [Int.toNat_natCast] at hst2
          have hg2 : w.grownBy w2 (some b) := Ko.grown_trans HG.out ⟨HB2.out.os, HB2.out.tape, HB2.out.output, HB2.out.size, fun k hk _ => HB2.out.block k hk⟩
          go_roundw
          case measure => simp [intOf]; omega
          case rel => exact ⟨i + 1, k + 1, cur.set i x, by omega, by omega, by rw [show ((i : Int) + 1) = ((i + 1 : Nat) : Int) by omega], by rw [show ((k : Int) + 1) = ((k + 1 : Nat) : Int) by omega], by rw [List.length_set]; exact hcl, ⟨by
              rw [HTK.out, List.take_succ_eq_append_getElem (by rw [List.length_set]; omega), List.take_set_of_le (Nat.le_refl _), HT.out]
              simp⟩, ⟨by rw [List.drop_set_of_lt (by omega)]; exact HDR1.out⟩, ⟨by rw [List.length_set]; exact hst2.1⟩, ⟨Ko.grown_trans hg2 hst2.2⟩⟩
      · have hke : k = xs.length := by omega
        subst hke
        have hT := HT.out
        rw [List.take_length] at hT
        have hR2 := Kd.R_take HR.out (m := i) (by omega)
        rw [hT] at hR2
        have hblk : ∃ cs : Array Value, wr.heap[b]? = some (.cells cs 67 (0, 0)) ∧ cs.size = n := by
          obtain ⟨_, inner, hown, _⟩ := HR.out
          rcases hown.2 with ⟨hv, _⟩ | ⟨g', cap', cur', hv, hb, hh, _, hcm, hcs, htake⟩
          · cases hv
          injection hv with ha _ hc
          injection ha with ha
          injection ha with hg
          subst hg; subst hc
          exact ⟨cur', hh, by rw [hcs]; simp [kP, Kd.scalar]⟩
        obtain ⟨cs, hcs, hcsz⟩ := hblk
        have hcz : (n = i) = False := eq_false (by omega)
        have hcz2 : decide (n = i) = false := decide_eq_false (by omega)
        have h0i : (0 : Int) ≤ (i : Int) := by omega
        have hil : (i : Int) ≤ (xs.length : Int) := by omega
        have hin : i ≤ n := by omega
        have hii : i ≤ xs.length := by omega
        have hcl2 : ∀ ty, (Builtin.clear_ #[62] ty #[.slice (some ⟨b, i, none⟩) (xs.length - i) (n - i)]).run Try.prog wr = .ok (.tuple #[]) (wr.setCells b i (List.replicate (xs.length - i) (.pointer none))) := fun ty =>
          run_clear_str (P := Try.prog) wr 62 67 ty (.pointer none) rfl Try.underlying62 (fun w => by kernel_rfl) rfl b i (xs.length - i) (n - i) (fun j hj => by rw [blk_cell hcs]; simp [hcsz]; omega) (fun j hj => blk_frozen hcs _)
        have hK := Ko.R_tail hR2 (List.replicate (xs.length - i) (.pointer none)) (o := i) (by simp [kP, Kd.scalar]) (by simp [kP, Kd.scalar]; omega)
        have HK := Aside0.mk hK
        clear hK hR2 hT hcs hcsz HDR HT HR hcl hik hb9
        go_wp2
        go_ret
        exact ⟨_, rfl, HK.out.1, Ko.grown_trans HG.out HK.out.2⟩

theorem delP_any (dl : Nat → Bool) (D : Nat) (xs : List Nat) (v : Value) (base : Nat) (hR : Kd.R kP 67 w base (fun _ => True) v xs)
    (HD : ∀ W, w.grownBy W v.ownBlock → ∀ x, x ∈ xs → Calls Try.prog 71 #[ptr x, ptr D] W fun e w' => e = .returned (.bool (dl x)) ∧ Below W.heap.size W w') :
    Calls Try.prog 70 #[v, .func (.func 71) #[] #[ptr D]] w fun e w' => ∃ v' : Value, e = .returned v' ∧
      Kd.R kP 67 w' base (fun _ => True) v' (keptP dl xs) ∧ w.grownBy w' v.ownBlock := by
  rcases fstO_bd dl xs 0 with h | ⟨i, h1, h2, _⟩
  · obtain ⟨A, n, rfl⟩ := Kd.R_slice hR
    refine (delP_none dl D xs A n base hR (fun W hb => HD W ⟨hb.os, hb.tape, hb.output, hb.size, fun k hk _ => hb.block k hk⟩) h).mono ?_
    rintro e w' ⟨rfl, h1, hb⟩
    exact ⟨_, rfl, h1, ⟨hb.os, hb.tape, hb.output, hb.size, fun k hk _ => hb.block k hk⟩⟩
  · obtain ⟨b, n, rfl, _⟩ := Kd.R_form hR (by omega)
    refine (delP_raw dl D xs b n base hR (fun W hg => HD W hg)).mono ?_
    rintro e w' ⟨m, rfl, h1, hb⟩
    exact ⟨_, rfl, h1, hb⟩

end Go.Proofs.Ytmlmiocomlehgaa.Man
namespace Go.Proofs.Ytmlmiocomlehgaa.Man
open Go.RowKit Go.Proofs.YtmlmiocomlehgaaW.PrintWords Go.Proofs.YtmlmiocomlehgaaW.PrintLast Go.Proofs.YtmlmiocomlehgaaW.PrintMore Go.Proofs.Ytmlmiocomlehgaa.PA Go.Proofs.Ytmlmiocomlehgaa.PF Go.Proofs.Ytmlmiocomlehgaa.Hid
variable {w0 w : World} {g gd : Nat} {v : Value} {ps : List Nat} {s : FS}
theorem tl_inj {a b : ByteArray} : a.toList = b.toList ↔ a = b := by
  constructor
  · intro h
    rw [ByteArray.toList_eq, ByteArray.toList_eq] at h
    exact Go.WideShapes.bytes_inj h
  · rintro rfl
    rfl
theorem tl_beq (a b : ByteArray) : (a.toList == b.toList) = decide (a = b) := by
  rw [Bool.eq_iff_iff, beq_iff_eq, tl_inj]
  simp
/-- Is the host at a place of that name? -/
def isN (hs : List HV) (nm : ByteArray) (k : Nat) : Bool := match hs[k]? with | some h => decide (h.nm = nm) | none => false
def posH (hs : List HV) (nm : ByteArray) : Int := fstP (isN hs nm) hs.length 0
theorem fstP_bd (p : Nat → Bool) : ∀ (n j : Nat), (fstP p n j = -1 ∧ ∀ k, k < n → p (j + k) = false) ∨ ∃ i, i < n ∧ fstP p n j = ((j + i : Nat) : Int) ∧ p (j + i) = true
  | 0, _ => .inl ⟨rfl, fun k hk => by omega⟩
  | n + 1, j => by
    unfold fstP
    by_cases c : p j = true
    · rw [if_pos c]
      exact .inr ⟨0, by omega, by simp, c⟩
    · rw [if_neg c]
      rcases fstP_bd p n (j + 1) with ⟨h1, h2⟩ | ⟨i, h1, h2, h3⟩
      · refine .inl ⟨h1, fun k hk => ?_⟩
        cases k with
        | zero => simpa using c
        | succ k => have := h2 k (by omega); rwa [show j + 1 + k = j + (k + 1) by omega] at this
      · exact .inr ⟨i + 1, by omega, by rw [h2]; congr 1; omega, by rwa [show j + (i + 1) = j + 1 + i by omega]⟩
theorem posH_bd (hs : List HV) (nm : ByteArray) : (posH hs nm = -1 ∧ ∀ h ∈ hs, h.nm ≠ nm) ∨ ∃ (i : Nat) (x : HV), posH hs nm = (i : Int) ∧ hs[i]? = some x ∧ x.nm = nm := by
  rcases fstP_bd (isN hs nm) hs.length 0 with ⟨h1, h2⟩ | ⟨i, h1, h2, h3⟩
  · refine .inl ⟨h1, fun h hh e => ?_⟩
    obtain ⟨k, hk, rfl⟩ := List.mem_iff_getElem.1 hh
    have := h2 k hk
    rw [Nat.zero_add] at this
    unfold isN at this
    rw [List.getElem?_eq_getElem hk] at this
    simp [e] at this
  · rw [Nat.zero_add] at h2 h3
    unfold isN at h3
    cases hx : hs[i]? with
    | none => rw [hx] at h3; cases h3
    | some x => rw [hx] at h3; exact .inr ⟨i, x, h2, hx, by simpa using h3⟩
/-- With names that differ: the place of a host. -/
theorem posH_of {hs : List HV} (hn : (hs.map (·.nm)).Nodup) {i : Nat} {x : HV} (hx : hs[i]? = some x) : posH hs x.nm = (i : Int) := by
  rcases posH_bd hs x.nm with ⟨_, h⟩ | ⟨j, y, h1, h2, h3⟩
  · exact absurd rfl (h x (List.mem_of_getElem? hx))
  · have e1 : (hs.map (·.nm))[i]? = some x.nm := by simp [hx]
    have e2 : (hs.map (·.nm))[j]? = some x.nm := by simp [h2, h3]
    have : i = j := (List.getElem?_inj (List.getElem?_eq_some_iff.1 e1).1 hn).1 (e1.trans e2.symm)
    rw [h1, this]
set_option maxHeartbeats 1000000 in
theorem at1_raw {W : World} {x D : Nat} {h : HV} {nm : ByteArray} (hx : W.heap[x]? = some (hcell h)) (hD : W.heap[D]? = some (.cells #[.string nm] 9 (0, 0))) :
    Calls Try.prog 77 #[ptr x, ptr D] W fun e w' => e = .returned (.bool (decide (h.nm = nm))) ∧ Below W.heap.size W w' := by
  have h1 : W.cell? ⟨x, 0, none⟩ = some (.string h.nm) := (blk_cell hx 0).trans rfl
  have h2 : W.cell? ⟨D, 0, none⟩ = some (.string nm) := (blk_cell hD 0).trans rfl
  clear hx hD
  go_enter Try.func77, Try.ntmps77
  go_wp2
  go_region
  all_goals go_wp2
  all_goals go_ret
  all_goals exact ⟨by rw [← tl_beq]; simp, below_drew1 (Below.refl _ _)⟩
set_option maxHeartbeats 1000000 in
theorem at_raw (nm : ByteArray) (hI : IsX w0 w g gd v ps s) : Calls Try.prog 56 #[ptr g, .string nm] w fun e w' => e = .returned (.int .i64 (posH s.hs nm)) ∧ Below w.heap.size w w' := by
  obtain ⟨A, n, rfl⟩ := Kd.R_slice hI.row
  obtain ⟨_, hn, hC⟩ := Kd.R_reads' hI.row
  have h1 : w.cell? ⟨g, 3, none⟩ = some (.slice A ps.length n) := (blk_cell hI.blk 3).trans rfl
  have hgl : g < w.heap.size := blk_lt hI.blk
  have HCALL := Aside0.mk (fun (o : Obj) (ho : o = .cells #[.string nm] 9) => idx_at1 (w := w.alloc o) (isN s.hs nm) w.heap.size ps A n (Kd.C_below hC ((Below.refl _ w).alloc (Nat.le_refl _) _)) hn (fun W hb k x hx => by
    have hlt : k < s.hs.length := by rw [← hI.len]; exact (List.getElem?_eq_some_iff.1 hx).1
    obtain ⟨_, hcell_⟩ := hI.hb k x s.hs[k] hx (List.getElem?_eq_getElem hlt)
    have e : isN s.hs nm k = decide (s.hs[k].nm = nm) := by unfold isN; rw [List.getElem?_eq_getElem hlt]
    rw [e]
    have hxl := blk_lt hcell_
    refine at1_raw (h := s.hs[k]) ((hb.block x (by simp; omega)).trans ((Below.heap_alloc _ _ _ hxl).trans hcell_)) ((hb.block _ (by simp)).trans ?_)
    subst ho
    exact heap_alloc_new w _))
  rw [hI.len] at HCALL
  unfold posH
  have hlen := hI.len
  clear hI hC hn
  rw [hlen] at h1
  clear hlen
  go_enter Try.func56, Try.ntmps56
  go_wp2_with (go_at_call 76; refine (HCALL.out _ rfl).mono ?_; rintro e w' ⟨rfl, hb⟩)
  go_ret
  exact ⟨rfl, below_step ((Below.refl _ w).alloc (Nat.le_refl _) _) hb⟩
/-- The pointer that find answers. -/
def findV (ps : List Nat) (hs : List HV) (nm : ByteArray) : Value := if posH hs nm < 0 then .pointer none else ptr (ps.getD (posH hs nm).toNat 0)
set_option maxHeartbeats 1000000 in
theorem find_raw (nm : ByteArray) (hI : IsX w0 w g gd v ps s) : Calls Try.prog 38 #[ptr g, .string nm] w fun e w' => e = .returned (findV ps s.hs nm) ∧ Below w.heap.size w w' := by
  have HA := Aside0.mk (at_raw nm hI)
  rcases posH_bd s.hs nm with ⟨h, _⟩ | ⟨i, x, h, hx, _⟩
  · unfold findV
    rw [h] at HA ⊢
    clear hI h
    go_enter Try.func38, Try.ntmps38
    go_wp2_with (go_at_call 56; refine HA.out.mono ?_; rintro e w1 ⟨rfl, hb1⟩)
    go_ret
    exact ⟨rfl, hb1⟩
  · unfold findV
    rw [h] at HA ⊢
    have hlt : i < ps.length := by rw [hI.len]; exact (List.getElem?_eq_some_iff.1 hx).1
    obtain ⟨p, hp⟩ : ∃ p, ps[i]? = some p := ⟨_, List.getElem?_eq_getElem hlt⟩
    have hpd : ps.getD (i : Int).toNat 0 = p := by simp [List.getD, hp]
    rw [hpd, if_neg (by omega)]
    have HI := Aside0.mk (fun W (hb : Below w.heap.size w W) => hI.below hb)
    have HP := Aside0.mk hp
    clear hI h hp hx hpd
    have h0i : (0 : Int) ≤ (i : Int) := by omega
    have hil : (i : Int) < (ps.length : Int) := by omega
    go_enter Try.func38, Try.ntmps38
    go_wp2_with (go_at_call 56; refine HA.out.mono ?_; rintro e w1 ⟨rfl, hb1⟩; have hI1 := HI.out _ hb1; have HB1 := Aside0.mk hb1; obtain ⟨A, n, rfl⟩ := Kd.R_slice hI1.row; obtain ⟨_, hn, hC⟩ := Kd.R_reads' hI1.row; obtain ⟨ad, rfl, hcell_⟩ := rdP hC i p HP.out; have h1 : w1.cell? ⟨g, 3, none⟩ = some (.slice (some ad) ps.length n) := (blk_cell hI1.blk 3).trans rfl; have hgl : g < w1.heap.size := blk_lt hI1.blk; clear hI1 hC hb1)
    go_ret
    exact ⟨rfl, HB1.out⟩
end Go.Proofs.Ytmlmiocomlehgaa.Man
namespace Go.Proofs.Ytmlmiocomlehgaa.Man
open Go.RowKit Go.Proofs.YtmlmiocomlehgaaW.PrintWords Go.Proofs.YtmlmiocomlehgaaW.PrintLast Go.Proofs.YtmlmiocomlehgaaW.PrintMore Go.Proofs.Ytmlmiocomlehgaa.PA Go.Proofs.Ytmlmiocomlehgaa.PF Go.Proofs.Ytmlmiocomlehgaa.Hid
variable {w0 w : World} {g gd : Nat} {v : Value} {ps : List Nat} {s : FS}
theorem infoHP : (Try.prog.info? 67).map (fun i => (i.zero, i.size, i.bytes)) = some (some (.pointer none), 1, 8) := by kernel_rfl
theorem empty_rowP (w : World) : Kd.R kP 67 (w.alloc (.cells #[] 67)) w.heap.size (fun _ => True) (.slice (some ⟨w.heap.size, 0, none⟩) ([] : List Nat).length 0) [] :=
  ⟨fun _ _ => trivial, [], World.ownsRow_lit (base := w.heap.size) (e := 67) (size := 1) w #[] 0 (Nat.le_refl _) (by decide) (by simp), Reps.none _ _⟩
set_option maxHeartbeats 1000000 in
theorem cloneP_nil (w : World) : Calls Try.prog 35 #[.slice none 0 0] w fun e w' => e = .returned (.slice none 0 0) ∧ w = w' := by
  have heq := fun (w : World) (a : Option Addr) (n c n' c' : Nat) => Lib.run_eql_slice_nil (P := Try.prog) w 62 67 a n c n' c' Try.underlying62
  go_enter Try.func35, Try.ntmps35
  go_wp2
  go_ret
  exact ⟨rfl, rfl⟩
set_option maxHeartbeats 1000000 in
theorem cloneP_some (b : Nat) (n : Nat) (xs : List Nat) (w : World) (base : Nat) (hR : Kd.R kP 67 w base (fun _ => True) (.slice (some ⟨b, 0, none⟩) xs.length n) xs) (hl : xs.length ≤ 1000000000) : Calls Try.prog 35 #[.slice (some ⟨b, 0, none⟩) xs.length n] w fun e w' => ∃ v', e = .returned v' ∧ Kd.R kP 67 w' w.heap.size (fun _ => True) v' xs ∧ Below w.heap.size w w' := by
  have HC := Aside0.mk (Kd.C_below (Kd.R_reads' hR).2.2 (below_alloc (Below.refl _ w) (.cells #[] 67)))
  have HO := Aside0.mk (empty_rowP w)
  clear hR
  have heq := fun (w : World) (a : Option Addr) (n c n' c' : Nat) => Lib.run_eql_slice_nil (P := Try.prog) w 62 67 a n c n' c' Try.underlying62
  go_enter Try.func35, Try.ntmps35
  go_wp2_with (at_builtin; refine Kd.R_append_rows kP (w0 := w) w.heap.size rfl (.tmp 5) (.tmp 6) 62 67 (.pointer none) 8 rfl Try.underlying62 infoHP rfl (by decide) (by omega) _ [] xs _ _ _ (fun _ => True) (fun _ => False) rfl rfl ?aO ?aR (fun _ _ h => h) (fun _ h => h.elim) ?aF ?aB ?aS ?aL ?_; (case aO => exact HO.out); (case aR => exact HC.out); (case aF => exact fun _ _ => trivial); (case aB => exact below_alloc (Below.refl _ w) _); (case aS => simp); (case aL => simp; omega); intro v1 w1 ho hb hg hat; simp only [List.nil_append] at ho)
  go_ret
  exact ⟨_, rfl, ho, hb⟩
theorem cloneP_any (v : Value) (xs : List Nat) (w : World) (base : Nat) (hR : Kd.R kP 67 w base (fun _ => True) v xs) (hl : xs.length ≤ 1000000000) : Calls Try.prog 35 #[v] w fun e w' => ∃ v', e = .returned v' ∧ Kd.R kP 67 w' w.heap.size (fun _ => True) v' xs ∧ Below w.heap.size w w' := by
  have hR2 := hR
  obtain ⟨_, inner, hown, _⟩ := hR2
  rcases hown.2 with ⟨hv, h0⟩ | ⟨b, cap, cur, hv, _⟩
  · subst hv
    have : xs = [] := List.eq_nil_of_length_eq_zero (by simpa using h0)
    subst this
    refine (cloneP_nil w).mono ?_
    rintro e w' ⟨rfl, rfl⟩
    exact ⟨_, rfl, Kd.R_nil _ _ _ _ _, Below.refl _ _⟩
  · subst hv
    exact cloneP_some b _ xs w base hR hl
theorem infoH : ∃ j, Try.prog.info? 69 = some j ∧ j.size = 3 := by
  have h : (Try.prog.info? 69).map (·.size) = some 3 := by kernel_rfl
  cases h2 : Try.prog.info? 69 with
  | none => rw [h2] at h; cases h
  | some j => rw [h2] at h; exact ⟨j, rfl, Option.some.inj h⟩
set_option maxHeartbeats 1000000 in
theorem away1_same {W : World} {x D : Nat} (hD : W.heap[D]? = some (.cells #[ptr x] 67 (0, 0))) :
    Calls Try.prog 71 #[ptr x, ptr D] W fun e w' => e = .returned (.bool true) ∧ Below W.heap.size W w' := by
  have h2 : W.cell? ⟨D, 0, none⟩ = some (ptr x) := (blk_cell hD 0).trans rfl
  obtain ⟨j, hj, hs⟩ := infoH
  have h3 := run_eql_ptr_same (P := Try.prog) W (tp := 67) (te := 69) ⟨x, 0, none⟩ (by kernel_rfl) hj
  clear hj hs
  clear hD
  go_enter Try.func71, Try.ntmps71
  go_wp2
  go_ret
  exact ⟨rfl, Below.refl _ _⟩
set_option maxHeartbeats 1000000 in
theorem away1_other {W : World} {x y D : Nat} {hx hy : HV} (hD : W.heap[D]? = some (.cells #[ptr y] 67 (0, 0))) (hn : x ≠ y) (h4 : W.heap[x]? = some (hcell hx)) (h5 : W.heap[y]? = some (hcell hy)) :
    Calls Try.prog 71 #[ptr x, ptr D] W fun e w' => e = .returned (.bool false) ∧ Below W.heap.size W w' := by
  have h2 : W.cell? ⟨D, 0, none⟩ = some (ptr y) := (blk_cell hD 0).trans rfl
  obtain ⟨j, hj, hs⟩ := infoH
  have h3 := run_eql_ptr_other (P := Try.prog) W (tp := 67) (te := 69) (a := ⟨x, 0, none⟩) (b := ⟨y, 0, none⟩) (by kernel_rfl) hj (by omega) (by intro e; injection e with e; exact hn e) h4 h5
  clear hj hs hD h4 h5 hn
  go_enter Try.func71, Try.ntmps71
  go_wp2
  go_ret
  exact ⟨rfl, Below.refl _ _⟩
theorem away1_raw {W : World} {x y D : Nat} {hx hy : HV} (hD : W.heap[D]? = some (.cells #[ptr y] 67 (0, 0))) (h4 : W.heap[x]? = some (hcell hx)) (h5 : W.heap[y]? = some (hcell hy)) :
    Calls Try.prog 71 #[ptr x, ptr D] W fun e w' => e = .returned (.bool (decide (x = y))) ∧ Below W.heap.size W w' := by
  by_cases c : x = y
  · subst c
    rw [decide_eq_true rfl]
    exact away1_same hD
  · rw [decide_eq_false c]
    exact away1_other hD c h4 h5
/-- Without one. -/
theorem kept_erase {ps : List Nat} (hn : ps.Nodup) {i p : Nat} (hp : ps[i]? = some p) : keptP (fun x => decide (x = p)) ps = ps.eraseIdx i := by
  unfold keptP
  have hlt : i < ps.length := (List.getElem?_eq_some_iff.1 hp).1
  have he : ps[i] = p := (List.getElem?_eq_some_iff.1 hp).2
  rw [List.eraseIdx_eq_take_drop_succ]
  have hsplit : ps = ps.take i ++ p :: ps.drop (i + 1) := by
    rw [← he, ← List.drop_eq_getElem_cons hlt, List.take_append_drop]
  rw [hsplit] at hn
  obtain ⟨h1, h2, h3⟩ := List.nodup_append.1 hn
  obtain ⟨h4, h5⟩ := List.nodup_cons.1 h2
  have e1 : ∀ x ∈ ps.take i, (!decide (x = p)) = true := fun x hx => by
    have := h3 x hx p (by simp)
    simp [this]
  have e2 : ∀ x ∈ ps.drop (i + 1), (!decide (x = p)) = true := fun x hx => by
    have : x ≠ p := by rintro rfl; exact h4 hx
    simp [this]
  conv => lhs; rw [hsplit]
  rw [List.filter_append, List.filter_eq_self.2 e1, List.filter_cons, if_neg (by simp), List.filter_eq_self.2 e2]
set_option maxHeartbeats 2000000 in
theorem away_full {i p : Nat} (hl : ps.length ≤ 1000000000) (hI : IsX w0 w g gd v ps s) (hB : Below w0.heap.size w0 w) (hp : ps[i]? = some p) :
    Calls Try.prog 50 #[ptr g, ptr p] w fun e w' => e = .returned (.tuple #[]) ∧ (∃ v', SX w0 w w' g gd v' (ps.eraseIdx i) { s with hs := s.hs.eraseIdx i }) ∧ ∀ k, k < w.heap.size → k ≠ g → w'.heap[k]? = w.heap[k]? := by
  have HI := Aside0.mk hI
  have HB := Aside0.mk hB
  obtain ⟨A, n, hv⟩ := Kd.R_slice hI.row
  subst hv
  have h1 : w.cell? ⟨g, 3, none⟩ = some (.slice A ps.length n) := (blk_cell hI.blk 3).trans rfl
  have hgl : g < w.heap.size := blk_lt hI.blk
  have HCL := Aside0.mk (fun (o : Obj) => cloneP_any (.slice A ps.length n) ps (w.alloc o) w0.heap.size (Kd.R_alloc hI.row o) hl)
  have HK := Aside0.mk (kept_erase hI.nd hp)
  clear hI hB
  obtain ⟨W1, hW1⟩ : ∃ W1, W1 = w.alloc (.cells #[ptr p] 67) := ⟨_, rfl⟩
  have HB1 : Aside0 (Below w.heap.size w W1) := ⟨by rw [hW1]; exact below_alloc (Below.refl _ w) _⟩
  have HD1 : Aside0 (W1.heap[w.heap.size]? = some (.cells #[ptr p] 67 (0, 0))) := ⟨by rw [hW1]; exact heap_alloc_new w _⟩
  have HS1 : Aside0 (W1.heap.size = w.heap.size + 1) := ⟨by rw [hW1]; simp⟩
  have h11 : W1.cell? ⟨g, 3, none⟩ = some (.slice A ps.length n) := (HB1.out.cell (p := ⟨g, 3, none⟩) hgl).trans h1
  have hg1l : g < W1.heap.size := by rw [HS1.out]; omega
  go_enter Try.func50, Try.ntmps50
  go_wp2_with (first
    | (go_at_call 35; refine (HCL.out _).mono ?_; rintro e w2 ⟨v2, rfl, hR2, hb2⟩; rw [← hW1] at hR2 hb2; have HR2 := Aside0.mk hR2; have HB2 := Aside0.mk hb2; clear hR2 hb2)
    | (go_at_call 70; refine (delP_any (fun x => decide (x = p)) w.heap.size ps v2 W1.heap.size HR2.out (fun W hg x hx => by
        obtain ⟨k, hk, hkx⟩ := List.mem_iff_getElem.1 hx
        have hlt : k < s.hs.length := by rw [← HI.out.len]; exact hk
        have hlt2 : i < s.hs.length := by rw [← HI.out.len]; exact (List.getElem?_eq_some_iff.1 hp).1
        have q1 := (HI.out.hb k x s.hs[k] (by rw [← hkx]; exact List.getElem?_eq_getElem hk) (List.getElem?_eq_getElem hlt)).2
        have q2 := (HI.out.hb i p s.hs[i] hp (List.getElem?_eq_getElem hlt2)).2
        have hmv : ∀ z : Nat, z < W1.heap.size → W.heap[z]? = W1.heap[z]? := fun z hz => (hg.block z (Nat.lt_of_lt_of_le hz HB2.out.size) (fun e => by have := Kd.R_base HR2.out _ e.symm; omega)).trans (HB2.out.block z hz)
        have hmw : ∀ {z : Nat} {o : Obj}, w.heap[z]? = some o → W.heap[z]? = some o := fun hz => (hmv _ (Nat.lt_of_lt_of_le (blk_lt hz) HB1.out.size)).trans ((HB1.out.block _ (blk_lt hz)).trans hz)
        exact away1_raw ((hmv _ (by have := HS1.out; omega)).trans HD1.out) (hmw q1) (hmw q2))).mono ?_; rintro e w3 ⟨v3, rfl, hR3, hg3⟩; (
        have hb3 : Below w.heap.size w w3 := (HB1.out.trans (HB2.out.mono HB1.out.size)).grown hg3 (Nat.le_trans HB1.out.size HB2.out.size) (fun k hk => Nat.le_trans HB1.out.size (Kd.R_base HR2.out k hk));
        obtain ⟨A3, n3, rfl⟩ := Kd.R_slice hR3; have HR3 := Aside0.mk hR3; have HB3 := Aside0.mk hb3; have HG3 := Aside0.mk ((hb3.block g hgl).trans HI.out.blk); have h13 : w3.cell? ⟨g, 3, none⟩ = some (.slice A ps.length n) := (hb3.cell (p := ⟨g, 3, none⟩) hgl).trans h1; have hf3 : w3.frozen? ⟨g, 3, none⟩ = false := blk_frozen HG3.out 3; have hg3l : g < w3.heap.size := blk_lt HG3.out; clear hR3 hg3 hb3)))
  have HFIN : Aside0 (SX w0 w (w3.setCell ⟨g, 3, none⟩ (.slice A3 (keptP (fun x => decide (x = p)) ps).length n3)) g gd (.slice A3 (keptP (fun x => decide (x = p)) ps).length n3) (ps.eraseIdx i) { s with hs := s.hs.eraseIdx i }) := ⟨by
    have hI3 := HI.out.below HB3.out
    have hfar : ∀ k, k ≠ g → (w3.setCell ⟨g, 3, none⟩ (.slice A3 (keptP (fun x => decide (x = p)) ps).length n3)).heap[k]? = w3.heap[k]? := fun k hk => Below.heap_setCell w3 ⟨g, 3, none⟩ _ k hk
    have hty : ∀ {k : Nat} {cs : Array Value} {t : TypeId} {fr : Nat × Nat}, w3.heap[k]? = some (.cells cs t fr) → t ≠ 64 → k ≠ g := by
      rintro k cs t fr hk ht rfl
      rw [hI3.blk] at hk
      injection hk with hk
      injection hk with _ hk
      exact ht hk.symm
    refine ⟨⟨by simpa using blk_set hI3.blk 3 _, hI3.ge, ?_, ?_, ?_, ?_, fun i' p' x' hp' hx' => ?_, ?_⟩, below_set (below_step HB.out HB3.out) hI3.ge, (KeptH.of_below HB3.out).setCell (p := ⟨g, 3, none⟩) (.cells hI3.blk (by decide)) _⟩
    · exact hI3.dr.step (fun k hk => hfar k (by rintro rfl; exact not_hidn_cells hI3.blk (by decide) hk))
    · rw [← HK.out]
      exact Kd.R_set (Kd.R_lower HR3.out (Nat.le_trans HB.out.size HB1.out.size)) hI3.blk (by simp [kP, Kd.scalar]) 3 _
    · exact List.Nodup.eraseIdx _ hI3.nd
    · simp only [List.length_eraseIdx, hI3.len]
    · rw [List.getElem?_eraseIdx] at hp' hx'
      by_cases c : i' < i
      · rw [if_pos c] at hp' hx'
        obtain ⟨q1, q2⟩ := hI3.hb i' p' x' hp' hx'
        exact ⟨q1, (hfar p' (hty q2 (by decide))).trans q2⟩
      · rw [if_neg c] at hp' hx'
        obtain ⟨q1, q2⟩ := hI3.hb (i' + 1) p' x' hp' hx'
        exact ⟨q1, (hfar p' (hty q2 (by decide))).trans q2⟩
    · show ((s.hs.eraseIdx i).map (·.nm)).Nodup
      exact ((List.eraseIdx_sublist s.hs i).map _).nodup hI3.names⟩
  have HOTH : Aside0 (∀ k, k < w.heap.size → k ≠ g → (w3.setCell ⟨g, 3, none⟩ (.slice A3 (keptP (fun x => decide (x = p)) ps).length n3)).heap[k]? = w.heap[k]?) := ⟨fun k hk hne => (Below.heap_setCell w3 ⟨g, 3, none⟩ _ k hne).trans (HB3.out.block k hk)⟩
  clear HI HR3 HB3
  refine bodyPost_end (results_none rfl _ _ _) rfl ?_
  exact ⟨rfl, ⟨_, HFIN.out⟩, HOTH.out⟩
theorem away_raw {i p : Nat} (hl : ps.length ≤ 1000000000) (hI : IsX w0 w g gd v ps s) (hB : Below w0.heap.size w0 w) (hp : ps[i]? = some p) :
    Calls Try.prog 50 #[ptr g, ptr p] w fun e w' => e = .returned (.tuple #[]) ∧ ∃ v', SX w0 w w' g gd v' (ps.eraseIdx i) { s with hs := s.hs.eraseIdx i } := by
  refine (away_full hl hI hB hp).mono ?_
  rintro e w' ⟨rfl, h, _⟩
  exact ⟨rfl, h⟩
end Go.Proofs.Ytmlmiocomlehgaa.Man
namespace Go.Proofs.Ytmlmiocomlehgaa.Man
open Go.RowKit Go.Proofs.YtmlmiocomlehgaaW.PrintWords Go.Proofs.YtmlmiocomlehgaaW.PrintLast Go.Proofs.YtmlmiocomlehgaaW.PrintMore Go.Proofs.Ytmlmiocomlehgaa.PA Go.Proofs.Ytmlmiocomlehgaa.PF Go.Proofs.Ytmlmiocomlehgaa.Hid
variable {w0 w : World} {g gd : Nat} {v : Value} {ps : List Nat} {s : FS}
/-- The state behind an event, and whether it did anything. -/
def nextS (st ev : Int) : Int := if toS st ev = -1 then st else toS st ev
def nextB (st ev : Int) : Bool := !decide (toS st ev = -1)
theorem next_raw (st ev : Int) (w : World) : Calls Try.prog 57 #[.int .i64 st, .int .i64 ev] w fun e w' => e = .returned (.tuple #[.int .i64 (nextS st ev), .bool (nextB st ev)]) ∧ Below w.heap.size w w' := by
  refine state_Next.calls st ev _ _ w ?_
  unfold state_Next.f nextS nextB
  by_cases c : toS st ev = -1
  · simp [c]
  · simp [c]
set_option maxHeartbeats 1000000 in
theorem happens_raw {i p : Nat} {x : HV} (ev : Int) (hI : IsX w0 w g gd v ps s) (hB : Below w0.heap.size w0 w) (hp : ps[i]? = some p) (hx : s.hs[i]? = some x) (f : Value) :
    Calls Try.prog 39 #[f, ptr p, .int .i64 ev] w fun e w' => e = .returned (.bool (nextB x.st ev)) ∧ SX w0 w w' g gd v ps { s with hs := s.hs.set i ⟨x.nm, nextS x.st ev, x.lv⟩ } := by
  have hcell_ := (hI.hb i p x hp hx).2
  have h1 : w.cell? ⟨p, 1, none⟩ = some (.int .i64 x.st) := (blk_cell hcell_ 1).trans rfl
  have hN := fun w => next_raw x.st ev w
  generalize hns : nextS x.st ev = n at hN
  generalize nextB x.st ev = b at hN
  have HN := Aside0.mk hN
  have HI := Aside0.mk (fun W (hb : Below w.heap.size w W) => hI.below hb)
  have HB := Aside0.mk hB
  have HP := Aside0.mk hp
  have HX := Aside0.mk hx
  clear hN hI hB hp hx hcell_
  go_enter Try.func39, Try.ntmps39
  go_wp2_with (go_at_call 57; refine (HN.out _).mono ?_; rintro e w1 ⟨rfl, hb1⟩; (
    have hI1 := HI.out _ hb1; have HB1 := Aside0.mk hb1; have hc1 := (hI1.hb i p x HP.out HX.out).2; have h11 : w1.cell? ⟨p, 1, none⟩ = some (.int .i64 x.st) := (blk_cell hc1 1).trans rfl; have hf1 : w1.frozen? ⟨p, 1, none⟩ = false := blk_frozen hc1 1; have hl1 : p < w1.heap.size := blk_lt hc1;
    have HFIN := Aside0.mk (IsX.turn (y := ⟨x.nm, n, x.lv⟩) (j := 1) (u := .int .i64 n) hI1 (below_step HB.out hb1) HP.out HX.out rfl (by simpa using blk_set hc1 1 _)); clear hI1 hb1 hc1))
  go_ret
  exact ⟨rfl, SX.trans (KeptH.of_below HB1.out) HFIN.out⟩
end Go.Proofs.Ytmlmiocomlehgaa.Man
namespace Go.Proofs.Ytmlmiocomlehgaa.Man
open Go.RowKit Go.Proofs.YtmlmiocomlehgaaW.PrintWords Go.Proofs.YtmlmiocomlehgaaW.PrintLast Go.Proofs.YtmlmiocomlehgaaW.PrintMore Go.Proofs.Ytmlmiocomlehgaa.PA Go.Proofs.Ytmlmiocomlehgaa.PF Go.Proofs.Ytmlmiocomlehgaa.Hid Go.Proofs.Ytmlmiocomlehgaa.Na
variable {w0 w : World} {g gd : Nat} {v : Value} {ps : List Nat} {s : FS}
theorem info3 : (Try.prog.info? 3).map (fun i => (i.zero, i.size, i.bytes)) = some (some (.int .i64 0), 1, 8) := by kernel_rfl
theorem IsX.cell0 (h : IsX w0 w g gd v ps s) : w.cell? ⟨g, 0, none⟩ = some (ptr gd) := (blk_cell h.blk 0).trans rfl
theorem IsX.cell1 (h : IsX w0 w g gd v ps s) : w.cell? ⟨g, 1, none⟩ = some (.int .i64 s.each) := (blk_cell h.blk 1).trans rfl
theorem IsX.cell2 (h : IsX w0 w g gd v ps s) : w.cell? ⟨g, 2, none⟩ = some (.int .i64 s.guard) := (blk_cell h.blk 2).trans rfl
theorem IsX.cell3 (h : IsX w0 w g gd v ps s) : ∃ A n, v = .slice A ps.length n ∧ ps.length ≤ n ∧ kP.C w A ps.length ps ∧ w.cell? ⟨g, 3, none⟩ = some (.slice A ps.length n) := by
  obtain ⟨A, n, rfl⟩ := Kd.R_slice h.row
  obtain ⟨_, hn, hC⟩ := Kd.R_reads' h.row
  exact ⟨A, n, rfl, hn, hC, (blk_cell h.blk 3).trans rfl⟩
theorem IsX.hst (h : IsX w0 w g gd v ps s) {i p : Nat} {x : HV} (hp : ps[i]? = some p) (hx : s.hs[i]? = some x) : w.cell? ⟨p, 0, none⟩ = some (.string x.nm) ∧ w.cell? ⟨p, 1, none⟩ = some (.int .i64 x.st) ∧ w.cell? ⟨p, 2, none⟩ = some (.bool x.lv) := by
  have h2 := (h.hb i p x hp hx).2
  exact ⟨(blk_cell h2 0).trans rfl, (blk_cell h2 1).trans rfl, (blk_cell h2 2).trans rfl⟩
/-- What find answers: no host, or the host's pointer. -/
theorem find_at (h : IsX w0 w g gd v ps s) (nm : ByteArray) : (posH s.hs nm = -1 ∧ findV ps s.hs nm = .pointer none ∧ ∀ x ∈ s.hs, x.nm ≠ nm) ∨ ∃ (i p : Nat) (x : HV), posH s.hs nm = (i : Int) ∧ findV ps s.hs nm = ptr p ∧ ps[i]? = some p ∧ s.hs[i]? = some x ∧ x.nm = nm := by
  rcases posH_bd s.hs nm with ⟨h1, h2⟩ | ⟨i, x, h1, h2, h3⟩
  · exact .inl ⟨h1, by unfold findV; rw [h1]; rfl, h2⟩
  · have hlt : i < ps.length := by rw [h.len]; exact (List.getElem?_eq_some_iff.1 h2).1
    refine .inr ⟨i, ps[i], x, h1, ?_, List.getElem?_eq_getElem hlt, h2, h3⟩
    unfold findV
    rw [h1, if_neg (by omega)]
    simp [List.getD, hlt]
/-- A host's view by its name. -/
def lookH (hs : List HV) (nm : ByteArray) : Option HV := if posH hs nm < 0 then none else hs[(posH hs nm).toNat]?
theorem look_none {hs : List HV} {nm : ByteArray} (h : posH hs nm = -1) : lookH hs nm = none := by unfold lookH; rw [h]; rfl
theorem look_some {hs : List HV} {nm : ByteArray} {i : Nat} {x : HV} (h : posH hs nm = (i : Int)) (hx : hs[i]? = some x) : lookH hs nm = some x := by
  unfold lookH
  rw [h, if_neg (by omega)]
  simpa using hx
set_option maxHeartbeats 1000000 in
theorem row_raw (hI : IsX w0 w g gd v ps s) : Calls Try.prog 47 #[ptr g] w fun e w' => e = .returned (ptr gd) ∧ w' = w := by
  have h0 := hI.cell0
  have hgl : g < w.heap.size := blk_lt hI.blk
  clear hI
  go_enter Try.func47, Try.ntmps47
  go_wp2
  go_ret
  exact ⟨rfl, rfl⟩
set_option maxHeartbeats 1000000 in
theorem fahead_raw (nm : ByteArray) (hl : s.ds.row.length ≤ 1000000000) (hI : IsX w0 w g gd v ps s) :
    Calls Try.prog 17 #[ptr g, .string nm] w fun e w' => e = .returned (.int .i64 (idxOf (namesOf s.ds.row false) nm 0)) ∧ Below w.heap.size w w' := by
  have HR := Aside0.mk (row_raw hI)
  have HA := Aside0.mk (ahead_raw nm (by omega) hI.dr)
  clear hI
  generalize idxOf (namesOf s.ds.row false) nm 0 = r at HA
  go_enter Try.func17, Try.ntmps17
  go_wp2_with (first
    | (go_at_call 47; refine HR.out.mono ?_; rintro e w1 ⟨rfl, rfl⟩)
    | (go_at_call 48; refine HA.out.mono ?_; rintro e w2 ⟨rfl, hb2⟩))
  go_ret
  exact ⟨rfl, hb2⟩
set_option maxHeartbeats 1000000 in
theorem fdue_raw (now : Int) (hl : s.ds.row.length ≤ 1000000000) (hI : IsX w0 w g gd v ps s) :
    Calls Try.prog 22 #[ptr g, .int .i64 now] w fun e w' => ∃ v1_ : Value, e = .returned v1_ ∧ Kd.R Kd.string 9 w' w.heap.size (fun _ => True) v1_ (dueOf s.ds now) ∧ Below w.heap.size w w' := by
  have HR := Aside0.mk (row_raw hI)
  have HA := Aside0.mk (due_raw now (by omega) hI.dr)
  clear hI
  generalize dueOf s.ds now = r at HA
  go_enter Try.func22, Try.ntmps22
  go_wp2_with (first
    | (go_at_call 47; refine HR.out.mono ?_; rintro e w1 ⟨rfl, rfl⟩)
    | (go_at_call 49; refine HA.out.mono ?_; rintro e w2 ⟨v2, rfl, hR2, hb2⟩))
  go_ret
  exact ⟨_, rfl, hR2, hb2⟩
/-! #### State, Leaves, known -/
def stateV (s : FS) (nm : ByteArray) : Int × Bool := match lookH s.hs nm with | some x => (x.st, true) | none => (0, false)
def leavesV (s : FS) (nm : ByteArray) : Bool := match lookH s.hs nm with | some x => x.lv | none => false
set_option maxHeartbeats 1000000 in
theorem state_raw (nm : ByteArray) (hI : IsX w0 w g gd v ps s) : Calls Try.prog 20 #[ptr g, .string nm] w fun e w' => e = .returned (.tuple #[.int .i64 (stateV s nm).1, .bool (stateV s nm).2]) ∧ Below w.heap.size w w' := by
  have HF := Aside0.mk (find_raw nm hI)
  have HI := Aside0.mk (fun W (hb : Below w.heap.size w W) => hI.below hb)
  rcases find_at hI nm with ⟨h1, h2, _⟩ | ⟨i, p, x, h1, h2, h3, h4, _⟩
  · unfold stateV
    rw [look_none h1]
    rw [h2] at HF
    clear hI h1 h2
    go_enter Try.func20, Try.ntmps20
    go_wp2_with (go_at_call 38; refine HF.out.mono ?_; rintro e w1 ⟨rfl, hb1⟩)
    go_ret2
    exact ⟨rfl, hb1⟩
  · unfold stateV
    rw [look_some h1 h4]
    rw [h2] at HF
    have HC := Aside0.mk (fun W (hb : Below w.heap.size w W) => (HI.out W hb).hst h3 h4)
    clear hI h1 h2 h3 h4
    go_enter Try.func20, Try.ntmps20
    go_wp2_with (go_at_call 38; refine HF.out.mono ?_; rintro e w1 ⟨rfl, hb1⟩; obtain ⟨q0, q1, q2⟩ := HC.out _ hb1)
    go_ret2
    exact ⟨rfl, hb1⟩
set_option maxHeartbeats 1000000 in
theorem leaves_raw (nm : ByteArray) (hI : IsX w0 w g gd v ps s) : Calls Try.prog 21 #[ptr g, .string nm] w fun e w' => e = .returned (.bool (leavesV s nm)) ∧ Below w.heap.size w w' := by
  have HF := Aside0.mk (find_raw nm hI)
  have HI := Aside0.mk (fun W (hb : Below w.heap.size w W) => hI.below hb)
  rcases find_at hI nm with ⟨h1, h2, _⟩ | ⟨i, p, x, h1, h2, h3, h4, _⟩
  · unfold leavesV
    rw [look_none h1]
    rw [h2] at HF
    clear hI h1 h2
    go_enter Try.func21, Try.ntmps21
    go_wp2_with (go_at_call 38; refine HF.out.mono ?_; rintro e w1 ⟨rfl, hb1⟩)
    go_ret
    exact ⟨rfl, hb1⟩
  · unfold leavesV
    rw [look_some h1 h4]
    rw [h2] at HF
    have HC := Aside0.mk (fun W (hb : Below w.heap.size w W) => (HI.out W hb).hst h3 h4)
    clear hI h1 h2 h3 h4
    go_enter Try.func21, Try.ntmps21
    go_wp2_with (go_at_call 38; refine HF.out.mono ?_; rintro e w1 ⟨rfl, hb1⟩; obtain ⟨q0, q1, q2⟩ := HC.out _ hb1)
    go_ret
    exact ⟨rfl, hb1⟩
/-- Why there is no such host; 0: there is. -/
def knownE (s : FS) (nm : ByteArray) : Int := if nameB nm = true then (if posH s.hs nm < 0 then 5 else 0) else 11
def knownV (ps : List Nat) (s : FS) (nm : ByteArray) : Value := if nameB nm = true then findV ps s.hs nm else .pointer none
set_option maxHeartbeats 1000000 in
theorem known_raw (nm : ByteArray) (hI : IsX w0 w g gd v ps s) : Calls Try.prog 45 #[ptr g, .string nm] w fun e w' => e = .returned (.tuple #[knownV ps s nm, .int .i64 (knownE s nm)]) ∧ Below w.heap.size w w' := by
  have HF := Aside0.mk (find_raw nm hI)
  have HN := Aside0.mk (fun W => name_raw nm W)
  unfold knownV knownE
  rcases find_at hI nm with ⟨h1, h2, _⟩ | ⟨i, p, x, h1, h2, _⟩
  · rw [h1, h2]
    rw [h2] at HF
    clear hI h1 h2
    cases hn : nameB nm with
    | false =>
      rw [hn] at HN
      clear hn
      go_enter Try.func45, Try.ntmps45
      go_wp2_with (first
        | (go_at_call 38; refine HF.out.mono ?_; rintro e w1 ⟨rfl, hb1⟩)
        | (go_at_call 54; refine (HN.out _).mono ?_; rintro e w2 ⟨rfl, hb2⟩))
      go_ret2
      exact ⟨rfl, below_step hb1 hb2⟩
    | true =>
      rw [hn] at HN
      clear hn
      go_enter Try.func45, Try.ntmps45
      go_wp2_with (first
        | (go_at_call 38; refine HF.out.mono ?_; rintro e w1 ⟨rfl, hb1⟩)
        | (go_at_call 54; refine (HN.out _).mono ?_; rintro e w2 ⟨rfl, hb2⟩))
      go_ret2
      exact ⟨rfl, below_step hb1 hb2⟩
  · rw [h1, h2, if_neg (show ¬ (i : Int) < 0 by omega)]
    rw [h2] at HF
    clear hI h1 h2
    cases hn : nameB nm with
    | false =>
      rw [hn] at HN
      clear hn
      go_enter Try.func45, Try.ntmps45
      go_wp2_with (first
        | (go_at_call 38; refine HF.out.mono ?_; rintro e w1 ⟨rfl, hb1⟩)
        | (go_at_call 54; refine (HN.out _).mono ?_; rintro e w2 ⟨rfl, hb2⟩))
      go_ret2
      exact ⟨rfl, below_step hb1 hb2⟩
    | true =>
      rw [hn] at HN
      clear hn
      go_enter Try.func45, Try.ntmps45
      go_wp2_with (first
        | (go_at_call 38; refine HF.out.mono ?_; rintro e w1 ⟨rfl, hb1⟩)
        | (go_at_call 54; refine (HN.out _).mono ?_; rintro e w2 ⟨rfl, hb2⟩))
      go_ret2
      exact ⟨rfl, below_step hb1 hb2⟩
/-! #### States -/
set_option maxHeartbeats 4000000 in
theorem states_raw (hl : s.hs.length ≤ 1000000000) (hI : IsX w0 w g gd v ps s) :
    Calls Try.prog 30 #[ptr g] w fun e w' => ∃ v1_ : Value, e = .returned v1_ ∧ Kd.R (Kd.int .i64) 3 w' w.heap.size (fun _ => True) v1_ (s.hs.map (·.st)) ∧ Below w.heap.size w w' := by
  have HI := Aside0.mk hI
  obtain ⟨A, n, rfl, hn, hC, h3⟩ := hI.cell3
  have hgl : g < w.heap.size := blk_lt hI.blk
  have hpl := hI.len
  have hlen : ps.length ≤ 9223372036854775807 := hC.2.1
  have HC := Aside0.mk hC
  clear hI hC
  go_enter Try.func30, Try.ntmps30
  go_wp2
  go_loopw [3, 14] (fun v3 v14 wr => ∃ k : Nat, k ≤ ps.length ∧ v14 = .int .i64 k ∧ Aside0 (Kd.R (Kd.int .i64) 3 wr w.heap.size (fun _ => True) v3 ((s.hs.take k).map (·.st))) ∧ Aside0 (Below w.heap.size w wr)) (fun _ v14 _ => ps.length - (intOf v14).toNat)
  case atStart => exact ⟨0, Nat.zero_le _, rfl, ⟨Kd.R_nil _ _ _ _ _⟩, ⟨Below.refl _ _⟩⟩
  case round =>
    obtain ⟨k, hk, rfl, HO, HB⟩ := hrel
    by_cases hlt : k < ps.length
    · obtain ⟨p, hp⟩ : ∃ p, ps[k]? = some p := ⟨_, List.getElem?_eq_getElem hlt⟩
      obtain ⟨x, hx⟩ : ∃ x, s.hs[k]? = some x := ⟨_, List.getElem?_eq_getElem (by omega)⟩
      obtain ⟨ad, rfl, hx0⟩ := rdP (Kd.C_below HC.out HB.out) k p hp
      have h0k : (0 : Int) ≤ (k : Int) := by omega
      have hkl : (k : Int) < (ps.length : Int) := by omega
      obtain ⟨q0, q1, q2⟩ := (HI.out.below HB.out).hst hp hx
      have HX : Aside0 ((s.hs.take (k + 1)).map (·.st) = (s.hs.take k).map (·.st) ++ [x.st]) := ⟨by rw [List.take_add_one, hx]; simp⟩
      have HL : Aside0 (((s.hs.take k).map (·.st)).length ≤ 1000000000) := ⟨by simp; omega⟩
      generalize (s.hs.take k).map (·.st) = xs at HO HX HL
      clear hp hx
      go_wp2_with ((with_reducible refine gate_builtin (b := .append) (xs := #[.tmp 18, .tmp 23]) rfl ?_); (try (refine gate_guard (by rfl) ?_; dsimp only)); at_builtin; refine Kd.R_append (Kd.int .i64) (w0 := w) w.heap.size rfl (.tmp 18) (.tmp 23) 22 3 (.int .i64 0) 8 rfl Try.underlying22 info3 rfl (by decide) (by omega) _ xs x.st [.int .i64 x.st] (fun _ => True) (fun _ => False) rfl ?aX ?aP (fun _ h => h.elim) (fun _ _ => trivial) ?aO ?aB ?aS ?aL ?_; (case aX => (show Value.slice (some ⟨wr.heap.size, 0, none⟩) 1 1 = _; simp)); (case aP => exact rfl); (case aO => exact HO.out); (case aB => exact HB.out); (case aS => exact HB.out.size); (case aL => have := HL.out; omega); intro v1 w1 ho hb hg hat; have HO1 := Aside0.mk ho; have HB2 := Aside0.mk hb; clear ho hb hg hat)
      exact ⟨⟨k + 1, by omega, by rw [show ((k : Int) + 1) = ((k + 1 : Nat) : Int) by omega], ⟨by rw [HX.out]; exact HO1.out⟩, HB2⟩, by simp [intOf]; omega⟩
    · have hke : k = ps.length := by omega
      subst hke
      rw [hpl, List.take_length] at HO
      clear hk
      go_wp2
      go_ret
      exact ⟨_, rfl, HO.out, HB.out⟩
/-! #### Names -/
set_option maxHeartbeats 4000000 in
theorem fnames_raw (hl : s.hs.length ≤ 1000000000) (hI : IsX w0 w g gd v ps s) :
    Calls Try.prog 32 #[ptr g] w fun e w' => ∃ v1_ : Value, e = .returned v1_ ∧ Kd.R Kd.string 9 w' w.heap.size (fun _ => True) v1_ (s.hs.map (·.nm)) ∧ Below w.heap.size w w' := by
  have HI := Aside0.mk hI
  obtain ⟨A, n, rfl, hn, hC, h3⟩ := hI.cell3
  have hgl : g < w.heap.size := blk_lt hI.blk
  have hpl := hI.len
  have hlen : ps.length ≤ 9223372036854775807 := hC.2.1
  have HC := Aside0.mk hC
  clear hI hC
  go_enter Try.func32, Try.ntmps32
  go_wp2
  go_loopw [3, 14] (fun v3 v14 wr => ∃ k : Nat, k ≤ ps.length ∧ v14 = .int .i64 k ∧ Aside0 (Kd.R Kd.string 9 wr w.heap.size (fun _ => True) v3 ((s.hs.take k).map (·.nm))) ∧ Aside0 (Below w.heap.size w wr)) (fun _ v14 _ => ps.length - (intOf v14).toNat)
  case atStart => exact ⟨0, Nat.zero_le _, rfl, ⟨Kd.R_nil _ _ _ _ _⟩, ⟨Below.refl _ _⟩⟩
  case round =>
    obtain ⟨k, hk, rfl, HO, HB⟩ := hrel
    by_cases hlt : k < ps.length
    · obtain ⟨p, hp⟩ : ∃ p, ps[k]? = some p := ⟨_, List.getElem?_eq_getElem hlt⟩
      obtain ⟨x, hx⟩ : ∃ x, s.hs[k]? = some x := ⟨_, List.getElem?_eq_getElem (by omega)⟩
      obtain ⟨ad, rfl, hx0⟩ := rdP (Kd.C_below HC.out HB.out) k p hp
      have h0k : (0 : Int) ≤ (k : Int) := by omega
      have hkl : (k : Int) < (ps.length : Int) := by omega
      obtain ⟨q0, q1, q2⟩ := (HI.out.below HB.out).hst hp hx
      have HX : Aside0 ((s.hs.take (k + 1)).map (·.nm) = (s.hs.take k).map (·.nm) ++ [x.nm]) := ⟨by rw [List.take_add_one, hx]; simp⟩
      have HL : Aside0 (((s.hs.take k).map (·.nm)).length ≤ 1000000000) := ⟨by simp; omega⟩
      generalize (s.hs.take k).map (·.nm) = xs at HO HX HL
      clear hp hx
      go_wp2_with ((with_reducible refine gate_builtin (b := .append) (xs := #[.tmp 18, .tmp 23]) rfl ?_); (try (refine gate_guard (by rfl) ?_; dsimp only)); at_builtin; refine Kd.R_append Kd.string (w0 := w) w.heap.size rfl (.tmp 18) (.tmp 23) 25 9 (.string ⟨#[]⟩) 16 rfl Try.underlying25 info9 rfl (by decide) (by omega) _ xs x.nm [.string x.nm] (fun _ => True) (fun _ => False) rfl ?aX ?aP (fun _ h => h.elim) (fun _ _ => trivial) ?aO ?aB ?aS ?aL ?_; (case aX => (show Value.slice (some ⟨wr.heap.size, 0, none⟩) 1 1 = _; simp)); (case aP => exact rfl); (case aO => exact HO.out); (case aB => exact HB.out); (case aS => exact HB.out.size); (case aL => have := HL.out; omega); intro v1 w1 ho hb hg hat; have HO1 := Aside0.mk ho; have HB2 := Aside0.mk hb; clear ho hb hg hat)
      exact ⟨⟨k + 1, by omega, by rw [show ((k : Int) + 1) = ((k + 1 : Nat) : Int) by omega], ⟨by rw [HX.out]; exact HO1.out⟩, HB2⟩, by simp [intOf]; omega⟩
    · have hke : k = ps.length := by omega
      subst hke
      rw [hpl, List.take_length] at HO
      clear hk
      go_wp2
      go_ret
      exact ⟨_, rfl, HO.out, HB.out⟩
end Go.Proofs.Ytmlmiocomlehgaa.Man
