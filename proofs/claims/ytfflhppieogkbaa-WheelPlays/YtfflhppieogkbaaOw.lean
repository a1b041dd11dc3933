/-
  The wheel as a state: its block, its map, its heap; how it lives on. Conditions: none.
-/
import Derived.Test.YtfflhppieogkbaaMp
import Derived.Test.YtfflhppieogkbaaUp
import Derived.Test.YtfflhppieogkbaaWKept
set_option linter.unusedVariables false
set_option linter.unusedSimpArgs false
namespace Go.Proofs.Ytfflhppieogkbaa.Hp
open Go Go.RowKit Go.Proofs.YtfflhppieogkbaaW.PrintWords Go.Proofs.YtfflhppieogkbaaW.PrintLast Go.Proofs.YtfflhppieogkbaaW.PrintMore Go.Proofs.Ytfflhppieogkbaa.Mp
/-- All is kept but the blocks of S. -/
structure Tch (S : Nat → Prop) (W W1 : World) : Prop where
  os : W1.os = W.os
  tape : W1.tape = W.tape
  output : W1.output = W.output
  size : W.heap.size ≤ W1.heap.size
  block : ∀ k, k < W.heap.size → ¬ S k → W1.heap[k]? = W.heap[k]?
section
variable {S S' : Nat → Prop} {W W1 W2 w0 : World}
theorem Tch.refl (S : Nat → Prop) (W : World) : Tch S W W := ⟨rfl, rfl, rfl, Nat.le_refl _, fun _ _ _ => rfl⟩
theorem Tch.trans (h : Tch S W W1) (k : Tch S W1 W2) : Tch S W W2 :=
  ⟨k.os.trans h.os, k.tape.trans h.tape, k.output.trans h.output, Nat.le_trans h.size k.size, fun b hb hn => (k.block b (Nat.lt_of_lt_of_le hb h.size) hn).trans (h.block b hb hn)⟩
/-- The second may turn what is new to the first, too. -/
theorem Tch.trans' (h : Tch S W W1) (k : Tch S' W1 W2) (hs : ∀ b, b < W.heap.size → S' b → S b) : Tch S W W2 :=
  ⟨k.os.trans h.os, k.tape.trans h.tape, k.output.trans h.output, Nat.le_trans h.size k.size, fun b hb hn => (k.block b (Nat.lt_of_lt_of_le hb h.size) (fun e => hn (hs b hb e))).trans (h.block b hb hn)⟩
theorem Tch.of_grown {row : Option Nat} (h : W.grownBy W1 row) (hr : ∀ k, row = some k → S k) : Tch S W W1 :=
  ⟨h.os, h.tape, h.output, h.size, fun k hk hn => h.block k hk (fun e => hn (hr k e.symm))⟩
theorem Tch.of_below (h : Below W.heap.size W W1) : Tch S W W1 := ⟨h.os, h.tape, h.output, h.size, fun k hk _ => h.block k hk⟩
theorem Tch.mono (h : Tch S W W1) (hs : ∀ k, S k → S' k) : Tch S' W W1 := ⟨h.os, h.tape, h.output, h.size, fun k hk hn => h.block k hk (fun e => hn (hs k e))⟩
theorem Tch.set {p : Addr} (hp : S p.block) (u : Value) : Tch S W (W.setCell p u) := ⟨rfl, rfl, rfl, by simp [World.setCell], fun k _ hn => Below.heap_setCell W p u k (fun e => hn (by rw [e]; exact hp))⟩
theorem Tch.below {B : Nat} (hb : Below B w0 W) (h : Tch S W W1) (hB : B ≤ W.heap.size) (hs : ∀ k, k < W.heap.size → S k → B ≤ k) : Below B w0 W1 :=
  ⟨h.os.trans hb.os, h.tape.trans hb.tape, h.output.trans hb.output, Nat.le_trans hb.size h.size, fun k hk => (h.block k (by omega) (fun e => by have := hs k (by omega) e; omega)).trans (hb.block k hk)⟩
theorem Tch.drew (h : Tch S W W1) : Tch S W W1.drew := h.trans (Tch.of_below (below_drew1 (Below.refl _ _)))
end
/-- What a wheel is: keys and their ticks, and a bound for how many entries its heap has. -/
structure WS where
  ats : PL
  m : Nat
/-- Each deadline that holds has its entry. -/
def Covers (xs : List E66) (l : PL) : Prop := ∀ p ∈ l, (⟨p.2, p.1⟩ : E66) ∈ xs
def Good (xs : List E66) : Prop := ∀ x ∈ xs, I64 x.f0 ∧ I64 x.f1
def Own (W : World) (g k : Nat) : Prop := ∃ mb v, W.heap[g]? = some (.cells #[.map (some mb), v] 62 (0, 0)) ∧ (k = g ∨ k = mb ∨ v.ownBlock = some k)
/-- The wheel at block g, its heap's entries told. -/
def IsX (w0 W : World) (g : Nat) (l : PL) (xs : List E66) : Prop := ∃ mb v, W.heap[g]? = some (.cells #[.map (some mb), v] 62 (0, 0)) ∧ w0.heap.size ≤ g ∧ MapI W mb l ∧ w0.heap.size ≤ mb ∧
  k66.R 66 W w0.heap.size (fun _ => True) v xs ∧ Heap xs ∧ Covers xs l ∧ Good xs
def IsW (w0 W : World) (g : Nat) (s : WS) : Prop := ∃ xs, IsX w0 W g s.ats xs ∧ xs.length ≤ s.m
section
variable {w0 W W1 W2 : World} {g k : Nat} {l : PL} {xs : List E66} {s : WS}
theorem two_eq {mb mb' : Nat} {v v' : Value} {t t' : TypeId} {f f' : Nat × Nat} {o : Option Obj} (h : o = some (.cells #[.map (some mb), v] t f)) (h' : o = some (.cells #[.map (some mb'), v'] t' f')) : mb = mb' ∧ v = v' := by
  rw [h] at h'
  injection h' with h'
  injection h' with h' _ _
  injection h' with h'
  injection h' with e1 h'
  injection h' with e2 _
  injection e1 with e1
  injection e1 with e1
  exact ⟨e1, e2⟩
theorem Own.lt (h : Own W g k) (hI : IsX w0 W g l xs) : k < W.heap.size := by
  obtain ⟨mb, v, hb, hk⟩ := h
  obtain ⟨mb', v', hb', _, hM, _, hR, _⟩ := hI
  obtain ⟨rfl, rfl⟩ := two_eq hb hb'
  rcases hk with rfl | rfl | hk
  · exact blk_lt hb
  · exact hM.lt
  · obtain ⟨cs, hcs⟩ := Kd.R_typed hR k hk
    exact blk_lt hcs
theorem IsX.self (h : IsX w0 W g l xs) : Own W g g := by
  obtain ⟨mb, v, hb, _⟩ := h
  exact ⟨mb, v, hb, .inl rfl⟩
theorem IsX.step (h : IsX w0 W g l xs) (hm : ∀ k, Own W g k → W1.heap[k]? = W.heap[k]?) : IsX w0 W1 g l xs := by
  obtain ⟨mb, v, hb, hg, hM, hgm, hR, hh⟩ := h
  refine ⟨mb, v, (hm g ⟨mb, v, hb, .inl rfl⟩).trans hb, hg, hM.step (hm mb ⟨mb, v, hb, .inr (.inl rfl)⟩), hgm, ?_, hh⟩
  refine Kd.R_mono (Kd.R_move (Kd.R_tight rfl hR) (fun k hk => ?_)) (fun _ _ => trivial)
  exact hm k ⟨mb, v, hb, .inr (.inr hk.symm)⟩
theorem own_step (h : IsX w0 W g l xs) (hm : ∀ k, Own W g k → W1.heap[k]? = W.heap[k]?) : Own W1 g k ↔ Own W g k := by
  have e := hm g h.self
  unfold Own
  rw [e]
theorem IsX.below (h : IsX w0 W g l xs) (hw : Below W.heap.size W W1) : IsX w0 W1 g l xs := h.step (fun k hk => hw.block k (hk.lt h))
theorem IsX.lt (h : IsX w0 W g l xs) : g < W.heap.size := h.self.lt h
theorem IsX.ge (h : IsX w0 W g l xs) (hk : Own W g k) : w0.heap.size ≤ k := by
  obtain ⟨mb, v, hb, hk⟩ := hk
  obtain ⟨mb', v', hb', hg, hM, hgm, hR, _⟩ := h
  obtain ⟨rfl, rfl⟩ := two_eq hb hb'
  rcases hk with rfl | rfl | hk
  · exact hg
  · exact hgm
  · exact Kd.R_base hR k hk
theorem IsW.lt (h : IsW w0 W g s) : g < W.heap.size := by obtain ⟨xs, h, _⟩ := h; exact h.lt
theorem IsW.ge (h : IsW w0 W g s) (hk : Own W g k) : w0.heap.size ≤ k := by obtain ⟨xs, h, _⟩ := h; exact h.ge hk
theorem IsW.olt (h : IsW w0 W g s) (hk : Own W g k) : k < W.heap.size := by obtain ⟨xs, h, _⟩ := h; exact hk.lt h
theorem IsW.step (h : IsW w0 W g s) (hm : ∀ k, Own W g k → W1.heap[k]? = W.heap[k]?) : IsW w0 W1 g s := by obtain ⟨xs, h, hl⟩ := h; exact ⟨xs, h.step hm, hl⟩
theorem IsW.below (h : IsW w0 W g s) (hw : Below W.heap.size W W1) : IsW w0 W1 g s := by obtain ⟨xs, h, hl⟩ := h; exact ⟨xs, h.below hw, hl⟩
theorem IsW.rise (h : IsW w0 W g s) : Rising s.ats := by obtain ⟨xs, ⟨mb, v, hb, hg, hM, _⟩, hl⟩ := h; exact hM.1
theorem IsW.more (h : IsW w0 W g s) {m : Nat} (hm : s.m ≤ m) : IsW w0 W g ⟨s.ats, m⟩ := by obtain ⟨xs, h, hl⟩ := h; exact ⟨xs, h, Nat.le_trans hl hm⟩
/-- What a call on the wheel keeps: all but what is the wheel's; and what wasn't the wheel's isn't behind it. -/
structure Kp (g : Nat) (W W1 : World) : Prop where
  t : Tch (Own W g) W W1
  own : ∀ k, k < W.heap.size → Own W1 g k → Own W g k
theorem Kp.refl (g : Nat) (W : World) : Kp g W W := ⟨Tch.refl _ _, fun _ _ h => h⟩
theorem Kp.trans (h : Kp g W W1) (k : Kp g W1 W2) : Kp g W W2 := ⟨h.t.trans' k.t h.own, fun i hi hk => h.own i hi (k.own i (Nat.lt_of_lt_of_le hi h.t.size) hk)⟩
theorem Kp.of_belowX (hI : IsX w0 W g l xs) (h : Below W.heap.size W W1) : Kp g W W1 := ⟨.of_below h, fun i _ hk => (own_step hI (fun k hk => h.block k (hk.lt hI))).1 hk⟩
theorem Kp.of_below (hI : IsW w0 W g s) (h : Below W.heap.size W W1) : Kp g W W1 := by obtain ⟨xs, hI, _⟩ := hI; exact .of_belowX hI h
theorem Kp.below (h : Kp g W W1) (hb : Below w0.heap.size w0 W) (hI : IsW w0 W g s) : Below w0.heap.size w0 W1 := h.t.below hb hb.size (fun k _ hk => hI.ge hk)
theorem Kp.belowX (h : Kp g W W1) (hb : Below w0.heap.size w0 W) (hI : IsX w0 W g l xs) : Below w0.heap.size w0 W1 := h.t.below hb hb.size (fun k _ hk => hI.ge hk)
/-- The map's block and the heap's are turned; the heap lies where it lay or is new. -/
theorem Kp.of {mb : Nat} {v v' : Value} {S : Nat → Prop} (hb : W.heap[g]? = some (.cells #[.map (some mb), v] 62 (0, 0))) (hb' : W1.heap[g]? = some (.cells #[.map (some mb), v'] 62 (0, 0))) (ht : Tch S W W1) (hs : ∀ k, S k → k = g ∨ k = mb ∨ v.ownBlock = some k)
    (hv : ∀ k, v'.ownBlock = some k → v.ownBlock = some k ∨ W.heap.size ≤ k) : Kp g W W1 := by
  refine ⟨ht.mono (fun k hk => ⟨mb, v, hb, hs k hk⟩), ?_⟩
  rintro k hlt ⟨mb', v'', hb'', ho⟩
  obtain ⟨rfl, rfl⟩ := two_eq hb' hb''
  rcases ho with h | h | h
  · exact ⟨_, _, hb, .inl h⟩
  · exact ⟨_, _, hb, .inr (.inl h)⟩
  · rcases hv k h with h2 | h2
    · exact ⟨_, _, hb, .inr (.inr h2)⟩
    · omega
variable {α : Type} {d : Kd α} {e base : Nat} {ok : Nat → Prop} {v : Value} {ys : List α}
/-- A row that is none of the wheel's lives on. -/
theorem Kp.row (hk : Kp g W W1) (h : d.R e W base (fun k => ¬ Own W g k) v ys) : d.R e W1 base (fun k => ¬ Own W1 g k) v ys := by
  refine Kd.R_mono (Kd.R_step (Kd.R_bound h) (fun k hk2 hlt => hk.t.block k hlt hk2.1)) (fun k hk2 ho => ?_)
  exact hk2.1 (hk.own k hk2.2.2.1 ho)
theorem Kp.blk (hk : Kp g W W1) {b : Nat} {o : Obj} (hb : W.heap[b]? = some o) (hn : ¬ Own W g b) : W1.heap[b]? = some o ∧ ¬ Own W1 g b :=
  ⟨(hk.t.block b (blk_lt hb) hn).trans hb, fun h => hn (hk.own b (blk_lt hb) h)⟩
theorem IsW.new_row (hI : IsW w0 W g s) (hb : Below W.heap.size W W1) (h : d.R e W1 W.heap.size ok v ys) : d.R e W1 W.heap.size (fun k => ¬ Own W1 g k) v ys := by
  obtain ⟨xs, hI, _⟩ := hI
  refine Kd.R_mono (Kd.R_bound h) (fun k hk ho => ?_)
  have h1 := (own_step hI (W1 := W1) (fun k hk => hb.block k (hk.lt hI))).1 ho
  have h2 := h1.lt hI
  have h3 := hk.2.1
  omega
theorem IsW.row_below (hI : IsW w0 W g s) (hb : Below W.heap.size W W1) (h : d.R e W base (fun k => ¬ Own W g k) v ys) : d.R e W1 base (fun k => ¬ Own W1 g k) v ys :=
  (Kp.of_below hI hb).row h
theorem ne_map {b mb : Nat} {cs : Array Value} {t : TypeId} {fr : Nat × Nat} (h : W.heap[b]? = some (.cells cs t fr)) (hM : MapI W mb l) : b ≠ mb := by
  obtain ⟨es, ck, hm⟩ := hM.block
  rintro rfl
  rw [h] at hm
  injection hm with hm
  cases hm
theorem row_ne_map {mb : Nat} (hR : d.R e W base ok v ys) (hM : MapI W mb l) : some mb ≠ v.ownBlock := fun he => by
  obtain ⟨cs, hcs⟩ := Kd.R_typed hR mb he.symm
  exact ne_map hcs hM rfl
theorem row_ne_blk {b : Nat} {cs : Array Value} {t : TypeId} (hR : d.R e W base ok v ys) (h : W.heap[b]? = some (.cells cs t (0, 0))) (ht : t ≠ e) : some b ≠ v.ownBlock := fun he => by
  obtain ⟨cs', hcs⟩ := Kd.R_typed hR b he.symm
  rw [h] at hcs
  injection hcs with hcs
  injection hcs with _ h2 _
  exact ht h2
end
end Go.Proofs.Ytfflhppieogkbaa.Hp
