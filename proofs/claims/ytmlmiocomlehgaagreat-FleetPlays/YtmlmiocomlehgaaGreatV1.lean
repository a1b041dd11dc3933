/-
  Contracts of functions, proved by walking them, and plain facts, several texts in one. Conditions: none.
-/
import Derived.Below
import Derived.Deep.Draws
import Derived.Deep.AppendLies
import Derived.Maps.AppendAt
import Derived.OwnWalk
import Derived.Laws.BytesArg
import Derived.Laws.MakeOwn
import Derived.Laws.OwnMore
import Derived.Deep.OwnRows
import Derived.Tactics
import Derived.Lib.ConvBytes
import Derived.Laws.Slices
import Derived.WalkKit
import Derived.KernelRfl
import Derived.RowKit3
import Derived.Deep.LoopGhost
import Derived.Deep.QuietTactic
import Derived.BigQuiet
import Derived.WideLaws
import Derived.Deep.DeepCutAuto
import Derived.Deep.CutBlock
import Derived.Deep.RegionHeld3
import Derived.Laws.Rows
import Derived.Lib.AppendStr
import Derived.ArgAppend
import Derived.Laws.IdiomCopy
import Derived.RowKit
import Derived.OrdersHeld
import Derived.Laws.BitsLemmas
import Derived.Test.YtmlmiocomlehgaaGreatProg
import Derived.Conc.LoneCalls
import Derived.Lib.Bytealg
import Derived.Lib.OthersKept
import Derived.Lib.TrimU
import Derived.Deep.RegionLaw
import Derived.Lib.SliceRun
set_option linter.unusedVariables false
set_option linter.unusedSimpArgs false
set_option linter.unusedSectionVars false
set_option maxHeartbeats 16000000
set_option maxRecDepth 100000
abbrev tt : Bool := true
abbrev ff : Bool := false
theorem lSI {α : Type _} (l : List α) (i : Nat) (a : α) : l.toArray.setIfInBounds i a = (l.set i a).toArray := List.setIfInBounds_toArray _ _ _
theorem lS0 {α : Type _} {a b : α} {l : List α} : (a :: l).set 0 b = b :: l := List.set_cons_zero
theorem lS1 {α : Type _} {a b : α} {l : List α} {n : Nat} : (a :: l).set (n + 1) b = a :: l.set n b := List.set_cons_succ
section
namespace Go.Proofs.YtmlmiocomlehgaaGreatW.PrintWords
open Go.RowKit
section
structure Aside0 (p : Prop) : Prop where mk :: (out : p)
theorem as0 {p : Prop} (h : p) : Aside0 p := ⟨h⟩
structure Drawn0 (w w' : World) : Prop where mk :: (out : ∃ n, w' = w.drewN n)
theorem Drawn0.refl (w : World) : Drawn0 w w := ⟨⟨0, rfl⟩⟩
theorem Drawn0.step {w w' : World} (h : Drawn0 w w') (n : Nat) : Drawn0 w (w'.drewN n) := by
 obtain ⟨m, rfl⟩ := h
 exact ⟨⟨m + n, World.drewN_drewN ..⟩⟩
theorem Drawn0.below {w w' : World} (h : Drawn0 w w') : Below w.heap.size w w' := by
 obtain ⟨n, rfl⟩ := h
 induction n with
 | zero => exact Below.refl _ _
 | succ n ih => rw [← World.drew_drewN]; exact ih.drew
def rd (xs : List Int) (i : Int) : Int := xs.getD i.toNat 0
def bt (s : ByteArray) (i : Int) : Int := if h : i.toNat < s.size then ((s[i.toNat]'h).toNat : Int) else 0
theorem zw2 (s : ByteArray) (i : Int) : ∀ h : i.toNat < s.size, ((s[i.toNat]'h).toNat : Int) = bt s i := fun h => by simp [bt, h]
theorem bt_range (s : ByteArray) (i : Int) : 0 ≤ bt s i ∧ bt s i ≤ 255 := by
 unfold bt
 split
 ·rename_i h
  have := (s[i.toNat]'h).toNat_lt
  omega
 ·omega
theorem z80 {w W : World} (h : Below w.heap.size w W) (o : Obj) : Below w.heap.size w (W.alloc o) := h.alloc h.size o
theorem zj9 {B : Nat} {w W : World} (h : Below B w W) : Below B w W.drew := ⟨h.os, h.tape, h.output, h.size, h.block⟩
theorem z90 {B : Nat} {w W : World} (h : Below B w W) (n : Nat) : Below B w (W.drewN n) := ⟨h.os, h.tape, h.output, h.size, h.block⟩
theorem zv9 {B : Nat} {w w1 w2 : World} (h : Below B w w1) (hB : B ≤ w1.heap.size) (k : Below w1.heap.size w1 w2) : Below B w w2 :=
 h.trans ⟨k.os, k.tape, k.output, k.size, fun i hi => k.block i (Nat.lt_of_lt_of_le hi hB)⟩
theorem zy5 {w w1 : World} (h : Below w.heap.size w w1) {a : Addr} {v : Value} (hc : w.cell? a = some v) : w1.cell? a = some v := (h.cell (World.block_lt_of_cell? w a hc)).trans hc
theorem zp3 (g j : Nat) : (⟨g, 0, none⟩ : Addr).add j = ⟨g, j, none⟩ := by unfold Addr.add; split <;> simp_all
theorem own_nil (W : World) (base : Nat) (e : TypeId) (size : Nat) : W.ownsRow base e size (.slice none 0 0) 0 [] := ⟨by simp, .inl ⟨rfl, rfl⟩⟩
theorem zm2 {w : World} {base : Nat} {e : TypeId} {size n : Nat} {v : Value} {xs : List Value} (h : w.ownsRow base e size v n xs) (k : Nat) (hk : v.ownBlock = some k) : base ≤ k := by
 rcases h.2 with ⟨rfl, _⟩ | ⟨g, cap, cur, rfl, hb, _⟩
 ·simp [Value.ownBlock] at hk
 ·have : g = k := by simpa [Value.ownBlock] using hk
  omega
theorem own_lt {w : World} {base : Nat} {e : TypeId} {size n : Nat} {v : Value} {xs : List Value} (h : w.ownsRow base e size v n xs) (k : Nat) (hk : v.ownBlock = some k) : k < w.heap.size := by
 rcases h.2 with ⟨rfl, _⟩ | ⟨g, cap, cur, rfl, hb, hh, _⟩
 ·simp [Value.ownBlock] at hk
 ·have : g = k := by simpa [Value.ownBlock] using hk
  subst this
  exact (Array.getElem?_eq_some_iff.1 hh).1
theorem zkc {w : World} {base n : Nat} {e : TypeId} {size : Nat} {v : Value} {xs : List Value} (h : w.ownsRow base e size v n xs) : ∃ A c, v = .slice A n c := by
 rcases h.2 with ⟨rfl, rfl⟩ | ⟨g, cap, cur, rfl, _⟩
 ·exact ⟨none, 0, rfl⟩
 ·exact ⟨_, cap, rfl⟩
section
variable {P : Program} {ops : Array Oper} {rest : List Oper} {o : Oper} {a : Act} {Q : Exit → Act → World → Prop}
end
section
variable {P : Program}
end
section
variable {P : Program} {ops : Array Oper} {rest : List Oper} {o : Oper} {a : Act} {Q : Exit → Act → World → Prop}
end
def bytesOf (s : ByteArray) : List Int := s.data.toList.map fun b => (b.toNat : Int)
def LeO {α : Type} (a b : Option α) : Prop := ∀ r, a = some r → b = some r
theorem LeO.none {α : Type} (b : Option α) : LeO Option.none b := fun _ h => by cases h
theorem LeO.bind {α β : Type} {a a' : Option α} {f f' : α → Option β} (h : LeO a a') (k : ∀ x, LeO (f x) (f' x)) : LeO (a.bind f) (a'.bind f') := by
 intro r hr
 obtain ⟨x, hx, hf⟩ := Option.bind_eq_some_iff.1 hr
 exact Option.bind_eq_some_iff.2 ⟨x, h x hx, k x r hf⟩
theorem LeO.map {α β : Type} {a a' : Option α} (f : α → β) (h : LeO a a') : LeO (a.map f) (a'.map f) := by
 intro r hr
 obtain ⟨x, hx, hf⟩ := Option.map_eq_some_iff.1 hr
 exact Option.map_eq_some_iff.2 ⟨x, h x hx, hf⟩
def Reps {α : Type} (R : α → List Value → Prop) (size : Nat) (ps : List α) (cs : List Value) : Prop :=
 cs.length = ps.length * size ∧ ∀ j p, ps[j]? = some p → R p ((cs.drop (j * size)).take size)
theorem Reps.none {α : Type} (R : α → List Value → Prop) (size : Nat) : Reps R size [] [] := ⟨by simp, fun j p h => by simp at h⟩
theorem Reps.snoc {α : Type} {R : α → List Value → Prop} {size : Nat} {ps : List α} {cs c : List Value} {p : α} (h : Reps R size ps cs) (hp : R p c) (hc : c.length = size) : Reps R size (ps ++ [p]) (cs ++ c) := by
 refine ⟨by rw [List.length_append, h.1, hc, List.length_append, List.length_singleton, Nat.add_mul, Nat.one_mul], fun j q hq => ?_⟩
 rcases Nat.lt_or_ge j ps.length with hj | hj
 ·rw [List.getElem?_append_left hj] at hq
  have h1 : j * size + size ≤ cs.length := by rw [h.1, ← Nat.succ_mul]; exact Nat.mul_le_mul_right _ hj
  have h2 := h.2 j q hq
  rw [List.drop_append_of_le_length (by omega), List.take_append_of_le_length (by rw [List.length_drop]; omega)]
  exact h2
 ·have hj' : j = ps.length := by
   have := (List.getElem?_eq_some_iff.1 hq).1
   rw [List.length_append, List.length_singleton] at this
   omega
  subst hj'
  have hq' : p = q := by simpa using hq
  subst hq'
  rw [← h.1, List.drop_left, ← hc, List.take_length]
  exact hp
theorem Reps.imp_ {α : Type} {R R' : α → List Value → Prop} {size : Nat} {ps : List α} {cs : List Value} (h : Reps R size ps cs) (hR : ∀ p c, R p c → R' p c) : Reps R' size ps cs := ⟨h.1, fun j p hj => hR _ _ (h.2 j p hj)⟩
def ReadsRow {α : Type} (R : α → List Value → Prop) (size : Nat) (w : World) (A : Option Addr) (n : Nat) (ps : List α) : Prop :=
 ps.length = n ∧ n ≤ 9223372036854775807 ∧ (0 < n → ∃ ad, A = some ad ∧ ∀ j p, ps[j]? = some p → ∃ c, c.length = size ∧ R p c ∧ ∀ i u, c[i]? = some u → w.cell? (ad.add (j * size + i)) = some u)
theorem ReadsRow.get_ {α : Type} {R : α → List Value → Prop} {size : Nat} {w : World} {A : Option Addr} {n : Nat} {ps : List α} (h : ReadsRow R size w A n ps) (d : α) (i : Int) (h0 : 0 ≤ i) (h1 : i < n) :
  ∃ ad c, A = some ad ∧ c.length = size ∧ R (ps.getD i.toNat d) c ∧ ∀ j u, c[j]? = some u → w.cell? (ad.add (i.toNat * size + j)) = some u := by
 obtain ⟨ad, e, hc⟩ := h.2.2 (by omega)
 have hl : i.toNat < ps.length := by have := h.1; omega
 obtain ⟨c, hs, hr, hcell⟩ := hc i.toNat _ (List.getElem?_eq_getElem hl)
 refine ⟨ad, c, e, hs, ?_, hcell⟩
 rw [List.getD_eq_getElem?_getD, List.getElem?_eq_getElem hl]
 exact hr
theorem ReadsRow.imp_ {α : Type} {R R' : α → List Value → Prop} {size : Nat} {w w1 : World} {A : Option Addr} {n : Nat} {ps : List α} (h : ReadsRow R size w A n ps) (hb : Below w.heap.size w w1) (hR : ∀ p c, R p c → R' p c) : ReadsRow R' size w1 A n ps :=
 ⟨h.1, h.2.1, fun hn => by
  obtain ⟨ad, e, hc⟩ := h.2.2 hn
  refine ⟨ad, e, fun j p hj => ?_⟩
  obtain ⟨c, hs, hr, hcell⟩ := hc j p hj
  exact ⟨c, hs, hR _ _ hr, fun i u hu => zy5 hb (hcell i u hu)⟩⟩
theorem zw5 {α : Type} {R : α → List Value → Prop} {w : World} {base n size : Nat} {e : TypeId} {v : Value} {ps : List α} {cs : List Value} (h : w.ownsRow base e size v n cs) (hR : Reps R size ps cs) (hn : ps.length = n) :
  ∃ A c, v = .slice A n c ∧ ReadsRow R size w A n ps := by
 rcases Nat.eq_zero_or_pos n with h0 | h0
 ·rcases h.2 with ⟨rfl, rfl⟩ | ⟨g, cap, cur, rfl, _⟩
  ·exact ⟨none, 0, rfl, hn, by omega, fun hp => absurd hp (by omega)⟩
  ·exact ⟨_, cap, rfl, hn, by omega, fun hp => absurd hp (by omega)⟩
 ·obtain ⟨g, cap, rfl, _, _⟩ := h.form h0
  have hm : n ≤ 9223372036854775807 := by
   rcases h.2 with ⟨_, h1⟩ | ⟨g', cap', cur, he, _, _, h1, h2, _⟩
   ·omega
   ·simp only [maxLen] at h2
    omega
  refine ⟨_, cap, rfl, hn, hm, fun _ => ⟨_, rfl, fun j p hj => ⟨(cs.drop (j * size)).take size, ?_, hR.2 j p hj, fun i u hu => ?_⟩⟩⟩
  ·have hjl := (List.getElem?_eq_some_iff.1 hj).1
   have h1 : j * size + size ≤ cs.length := by rw [hR.1, ← Nat.succ_mul]; exact Nat.mul_le_mul_right _ hjl
   rw [List.length_take, List.length_drop]
   omega
  ·refine h.cells (g := g) rfl _ u ?_
   rw [List.getElem?_take] at hu
   split at hu
   ·rw [List.getElem?_drop] at hu
    exact hu
   ·cases hu
theorem z43 (ad : Addr) (m j : Nat) (hj : 0 < j) : ad.add (m + j) = ⟨(ad.add m).block, (ad.add m).off + j, none⟩ := by
 unfold Addr.add
 by_cases hm : m = 0
 ·subst hm
  simp [Nat.ne_of_gt hj]
 ·simp [hm, Nat.add_assoc]
section
variable {P : Program} {ops : Array Oper} {rest : List Oper} {o : Oper} {a : Act} {Q : Exit → Act → World → Prop}
theorem zg3 {w0 W : World} (base : Nat) (hgd : o.guard = none) (s x : Operand) (t e : TypeId) (z : Value) (size bytes : Nat)
  (ho : o.op = .call { callee := .builtin .append, args := #[s, x], argTypes := #[t, t] })
  (ht : P.underlying t = some (.slice e)) (hinfo : (P.info? e).map (fun i => (i.zero, i.size, i.bytes)) = some (some z, size, bytes)) (hz : z.cells.size = size) (hs0 : 0 < size) (hb0 : 0 < bytes)
  (v : Value) (n : Nat) (xs ys : List Value) (hs : a.eval s = v) (hx : a.eval x = .slice (some ⟨W.heap.size, 0, none⟩) 1 1) (hys : ys.length = size) (h1 : ∀ u ∈ ys, u.oneCell' = true)
  (HO : W.ownsRow base e size v n xs) (HB : Below base w0 W) (hbase : base ≤ W.heap.size) (hl : (n + 1) * bytes ≤ 140737488355328)
  (h : ∀ v1 w1, w1.ownsRow base e size v1 (n + 1) (xs ++ ys) → Below base w0 w1 → W.grownBy w1 v.ownBlock → (v1.ownBlock = v.ownBlock ∨ ∃ b, v1.ownBlock = some b ∧ W.heap.size ≤ b) → wpList P ops Q rest (a.put o.dst v1) w1) :
  wpList P ops Q (o :: rest) a (W.alloc (.cells ys.toArray e)) := by
 obtain ⟨i0, hi, hzz⟩ := Option.map_eq_some_iff.1 hinfo
 simp only [Prod.mk.injEq] at hzz
 obtain ⟨hz0, hz1, hz2⟩ := hzz
 have hlen : n + 1 ≤ 140737488355328 := Nat.le_trans (Nat.le_mul_of_pos_right _ hb0) hl
 refine wpList_append_own_at (W.alloc (.cells ys.toArray e)) hgd s x t ho base e i0 z size bytes ht hi hz0 hz1 hz2 hz hs0 v n xs hs (HO.alloc _) ⟨W.heap.size, 0, none⟩ 1 1 ys hx (by rw [hys]; simp)
  (by simpa using World.news_of_block (cs := ys.toArray) (t := e) (fr := (0, 0)) (heap_alloc_new W (.cells ys.toArray e))) h1 (by simp only [maxLen]; omega) hl (by simp; omega) ?_
 intro v1 w1 hown hg _ hat
 refine h v1 w1 hown ((HB.alloc hbase _).grown hg (by simp; omega) (zm2 HO)) (World.grownBy.trans (World.grownBy_alloc W _ _) hg) ?_
 rcases hat with hat | hat
 ·exact .inl hat
 ·exact .inr ⟨_, hat, by simp⟩
end
theorem own_ne {w : World} {base : Nat} {e t : TypeId} {size n g : Nat} {v : Value} {xs : List Value} {cs : Array Value} (h : w.ownsRow base e size v n xs) (hg : w.heap[g]? = some (.cells cs t (0, 0))) (hne : e ≠ t) : some g ≠ v.ownBlock := by
 rcases h.2 with ⟨rfl, _⟩ | ⟨g', cap, cur, rfl, _, hh, _⟩
 ·simp [Value.ownBlock]
 ·intro he
  have : g = g' := by simpa [Value.ownBlock] using he
  subst this
  rw [hg] at hh
  injection hh with hh
  injection hh with _ ht
  exact hne ht.symm
theorem zz0 {w : World} {g : Nat} {t : TypeId} {cs : Array Value} (h : w.heap[g]? = some (.cells cs t (0, 0))) (i : Nat) (u : Value) : (w.setCell ⟨g, i, none⟩ u).heap[g]? = some (.cells (cs.setIfInBounds i u) t (0, 0)) := by
 simp [World.setCell, Array.getElem?_modify, h]
theorem zt5 {w : World} {g : Nat} {t : TypeId} {cs : Array Value} (h : w.heap[g]? = some (.cells cs t (0, 0))) {p : Addr} (hp : g ≠ p.block) (u : Value) : (w.setCell p u).heap[g]? = some (.cells cs t (0, 0)) := (Below.heap_setCell w p u g hp).trans h
theorem z70 {w : World} {g : Nat} {o : Obj} (h : w.heap[g]? = some o) : g < w.heap.size := (Array.getElem?_eq_some_iff.1 h).1
theorem z60 {w : World} {g : Nat} {t : TypeId} {cs : Array Value} (h : w.heap[g]? = some (.cells cs t (0, 0))) (i : Nat) : w.cell? ⟨g, i, none⟩ = cs[i]? := cell_of_row w g i cs t (0, 0) h
theorem z40 {w : World} {g : Nat} {t : TypeId} {cs : Array Value} (h : w.heap[g]? = some (.cells cs t (0, 0))) (i : Nat) : w.frozen? ⟨g, i, none⟩ = false := by simp [World.frozen?, h]
theorem zk4 {w w1 : World} {g : Nat} {o : Obj} {row : Option Nat} (h : w.heap[g]? = some o) (hg : w.grownBy w1 row) (hne : some g ≠ row) : w1.heap[g]? = some o := (hg.block g (z70 h) hne).trans h
def Ev {α : Type} (g : Nat → Option α) (r : α) : Prop := ∃ K, ∀ k, K ≤ k → g k = some r
theorem Ev.now {α : Type} (r : α) : Ev (fun _ => some r) r := ⟨0, fun _ _ => rfl⟩
theorem Ev.bind {α β : Type} {g : Nat → Option α} {f : Nat → α → Option β} {a : α} {r : β} (h : Ev g a) (k : Ev (fun n => f n a) r) : Ev (fun n => (g n).bind (f n)) r := by
 obtain ⟨K, h⟩ := h
 obtain ⟨K', k⟩ := k
 refine ⟨max K K', fun n hn => ?_⟩
 have h1 := h n (by omega)
 have h2 := k n (by omega)
 simp only [h1, Option.bind_some]
 exact h2
section
variable {P : Program} {ops : Array Oper} {o : Oper} {a : Act} {Q : Exit → Act → World → Prop} {K : Act → World → Prop}
theorem z24 {w0 W : World} (base : Nat) (hw : Region.wanted o (yielded ops a.tmps) = true) (s x : Operand) (t e : TypeId) (z : Value) (size bytes : Nat)
  (ho : o.op = .call { callee := .builtin .append, args := #[s, x], argTypes := #[t, t] })
  (ht : P.underlying t = some (.slice e)) (hinfo : (P.info? e).map (fun i => (i.zero, i.size, i.bytes)) = some (some z, size, bytes)) (hz : z.cells.size = size) (hs0 : 0 < size) (hb0 : 0 < bytes)
  (v : Value) (n : Nat) (xs ys : List Value) (hs : a.eval s = v) (hx : a.eval x = .slice (some ⟨W.heap.size, 0, none⟩) 1 1) (hys : ys.length = size) (h1 : ∀ u ∈ ys, u.oneCell' = true)
  (HO : W.ownsRow base e size v n xs) (HB : Below base w0 W) (hbase : base ≤ W.heap.size) (hl : (n + 1) * bytes ≤ 140737488355328)
  (h : ∀ v1 w1, w1.ownsRow base e size v1 (n + 1) (xs ++ ys) → Below base w0 w1 → W.grownBy w1 v.ownBlock → (v1.ownBlock = v.ownBlock ∨ ∃ b, v1.ownBlock = some b ∧ W.heap.size ≤ b) → K (a.put o.dst v1) w1) :
  if Region.wanted o (yielded ops a.tmps) = true then Oper.wp P o a (W.alloc (.cells ys.toArray e)) K Q else K (a.put o.dst undef) (W.alloc (.cells ys.toArray e)) := by
 obtain ⟨i0, hi, hzz⟩ := Option.map_eq_some_iff.1 hinfo
 simp only [Prod.mk.injEq] at hzz
 obtain ⟨hz0, hz1, hz2⟩ := hzz
 have hlen : n + 1 ≤ 140737488355328 := Nat.le_trans (Nat.le_mul_of_pos_right _ hb0) hl
 rw [if_pos hw]
 obtain ⟨v1, w1, hr, hown, hg, _, hat⟩ := run_append_own_at (P := P) (W.alloc (.cells ys.toArray e)) base t o.type e i0 z size bytes ht hi hz0 hz1 hz2 hz hs0 v n xs (HO.alloc _) ⟨W.heap.size, 0, none⟩ 1 1 ys (by rw [hys]; simp)
  (by simpa using World.news_of_block (cs := ys.toArray) (t := e) (fr := (0, 0)) (heap_alloc_new W (.cells ys.toArray e))) h1 (by simp only [maxLen]; omega) hl (by simp; omega)
 unfold Oper.wp execOp
 simp only [ho, resolve, invoke, builtin, Sem.run_bind, Sem.run_pure, Result.andThen_ok, List.map_toArray, List.map_cons, List.map_nil, hs, hx, hr]
 refine h v1 w1 hown ((HB.alloc hbase _).grown hg (by simp; omega) (zm2 HO)) (World.grownBy.trans (World.grownBy_alloc W _ _) hg) ?_
 rcases hat with hat | hat
 ·exact .inl hat
 ·exact .inr ⟨_, hat, by simp⟩
end
theorem zaa {w : World} {base base' : Nat} {e : TypeId} {size n : Nat} {v : Value} {xs : List Value} (h : w.ownsRow base e size v n xs) (hb : base' ≤ base) : w.ownsRow base' e size v n xs := by
 obtain ⟨h1, h2⟩ := h
 refine ⟨h1, ?_⟩
 rcases h2 with h2 | ⟨g, cap, cur, rfl, hg, r⟩
 ·exact .inl h2
 ·exact .inr ⟨g, cap, cur, rfl, Nat.le_trans hb hg, r⟩
section
variable {α : Type} {enc : α → Value} {d : α}
def encs (enc : α → Value) (xs : List α) : List Value := xs.map enc
def rdOf (d : α) (xs : List α) (i : Int) : α := xs.getD i.toNat d
theorem zs4 (xs : List α) : (encs enc xs).length = xs.length := by simp [encs]
theorem zg8 (xs : List α) (j : Nat) (h : j < xs.length) : (encs enc xs)[j]? = some (enc (xs.getD j d)) := by
 simp [encs, List.getElem?_eq_getElem h, List.getD_eq_getElem?_getD]
def ReadsOf (enc : α → Value) (d : α) (w : World) (A : Option Addr) (n : Nat) (xs : List α) : Prop :=
 xs.length = n ∧ n ≤ 9223372036854775807 ∧ (0 < n → ∃ ad, A = some ad ∧ ∀ j, j < n → w.cell? (ad.add j) = some (enc (xs.getD j d)))
theorem ReadsOf.at_ {w : World} {A : Option Addr} {n : Nat} {xs : List α} (h : ReadsOf enc d w A n xs) (i : Int) (h0 : 0 ≤ i) (h1 : i < n) : ∃ ad, A = some ad ∧ w.cell? (ad.add i.toNat) = some (enc (rdOf d xs i)) := by
 obtain ⟨ad, e, hc⟩ := h.2.2 (by omega)
 exact ⟨ad, e, hc _ (by omega)⟩
theorem ReadsOf.take_ {w : World} {A : Option Addr} {n : Nat} {xs : List α} (h : ReadsOf enc d w A n xs) (i : Nat) (hi : i ≤ n) : ReadsOf enc d w A i (xs.take i) := by
 refine ⟨by rw [List.length_take, h.1]; omega, by have := h.2.1; omega, fun hp => ?_⟩
 obtain ⟨ad, e, hc⟩ := h.2.2 (by omega)
 refine ⟨ad, e, fun j hj => ?_⟩
 rw [hc j (by omega)]
 simp [List.getD_eq_getElem?_getD, hj]
theorem z4c {W : World} {base g n cap : Nat} {e : TypeId} {xs : List α} (h : W.ownsRow base e 1 (.slice (some ⟨g, 0, none⟩) n cap) n (encs enc xs)) (i : Int) (h0 : 0 ≤ i) (h1 : i < n) :
  W.cell? ⟨g, i.toNat, none⟩ = some (enc (rdOf d xs i)) ∧ W.frozen? ⟨g, i.toNat, none⟩ = false := by
 have hl : xs.length = n := by have := h.1; simp [encs] at this; exact this
 constructor
 ·have hc := h.cells (g := g) rfl i.toNat _ (zg8 (d := d) xs i.toNat (by omega))
  rwa [zp3] at hc
 ·rcases h.2 with ⟨h', _⟩ | ⟨g', cap', cur, h', _, hh, _⟩
  ·cases h'
  ·have : g = g' := by injection h' with h'; injection h' with h'; injection h' with h'
   subst this
   simp [World.frozen?, hh]
theorem zo6 {W : World} {base g n cap : Nat} {e : TypeId} {xs : List α} (h : W.ownsRow base e 1 (.slice (some ⟨g, 0, none⟩) n cap) n (encs enc xs)) (i : Int) (x : α) :
  (W.setCell ⟨g, i.toNat, none⟩ (enc x)).ownsRow base e 1 (.slice (some ⟨g, 0, none⟩) n cap) n (encs enc (xs.set i.toNat x)) ∧ W.grownBy (W.setCell ⟨g, i.toNat, none⟩ (enc x)) (some g) := by
 have hs := h.stored i.toNat (enc x)
 have he : (encs enc xs).set i.toNat (enc x) = encs enc (xs.set i.toNat x) := by simp [encs, List.map_set]
 rwa [he] at hs
end
section
variable {α : Type} {P : Program} {ops : Array Oper} {rest : List Oper} {o : Oper} {a : Act} {Q : Exit → Act → World → Prop}
theorem z73 {w0 W : World} (enc : α → Value) (d : α) (base : Nat) (hgd : o.guard = none) (s x : Operand) (t e : TypeId) (z : Value) (bytes : Nat)
  (ho : o.op = .call { callee := .builtin .append, args := #[s, x], argTypes := #[t, t] })
  (ht : P.underlying t = some (.slice e)) (hinfo : (P.info? e).map (fun i => (i.zero, i.size, i.bytes)) = some (some z, 1, bytes)) (hz : z.cells.size = 1) (hb0 : 0 < bytes) (h1 : ∀ x : α, (enc x).oneCell' = true)
  (v : Value) (xs ys : List α) (A : Option Addr) (m c : Nat) (hs : a.eval s = v) (hx : a.eval x = .slice A m c)
  (HO : W.ownsRow base e 1 v xs.length (encs enc xs)) (HR : ReadsOf enc d W A m ys) (HB : Below base w0 W) (hbase : base ≤ W.heap.size) (hl : (xs.length + m) * bytes ≤ 140737488355328)
  (h : ∀ v1 w1, w1.ownsRow base e 1 v1 (xs ++ ys).length (encs enc (xs ++ ys)) → Below base w0 w1 → W.grownBy w1 v.ownBlock → (v1.ownBlock = v.ownBlock ∨ ∃ b, v1.ownBlock = some b ∧ W.heap.size ≤ b) → wpList P ops Q rest (a.put o.dst v1) w1) :
  wpList P ops Q (o :: rest) a W := by
 obtain ⟨i0, hi, hzz⟩ := Option.map_eq_some_iff.1 hinfo
 simp only [Prod.mk.injEq] at hzz
 obtain ⟨hz0, hz1, hz2⟩ := hzz
 have hm : ys.length = m := HR.1
 have hlen : xs.length + m ≤ 140737488355328 := Nat.le_trans (Nat.le_mul_of_pos_right _ hb0) hl
 have hrun : ∃ v1 w1, (Builtin.append_ #[t, t] o.type #[v, .slice A m c]).run P W = .ok v1 w1 ∧ w1.ownsRow base e 1 v1 (xs ++ ys).length (encs enc (xs ++ ys)) ∧ W.grownBy w1 v.ownBlock ∧ (v1.ownBlock = v.ownBlock ∨ v1.ownBlock = some W.heap.size) := by
  rcases A with _ | ad
  ·have h0 : m = 0 := by
    rcases Nat.eq_zero_or_pos m with h0 | h0
    ·exact h0
    ·obtain ⟨ad, h, _⟩ := HR.2.2 h0
     cases h
   subst h0
   obtain rfl : ys = [] := List.eq_nil_of_length_eq_zero hm
   refine ⟨v, W, ?_, by simpa using HO, World.grownBy.refl W _, .inl rfl⟩
   rcases HO.2 with ⟨rfl, hn⟩ | ⟨g, cap, cur, rfl, _, _, hnc, _⟩
   ·simp [Builtin.append_, run_underlying ht, sizeOf, typeInfo, hi, Builtin.lenOf, Builtin.firstCells]
   ·simp [Builtin.append_, run_underlying ht, sizeOf, typeInfo, hi, Builtin.lenOf, Builtin.firstCells, hnc, storeCells]
  ·have hcells : ∀ j u, (encs enc ys)[j]? = some u → W.cell? (ad.add j) = some u := by
    intro j u hu
    have hj : j < ys.length := by
     rcases Nat.lt_or_ge j ys.length with h | h
     ·exact h
     ·simp [encs, List.getElem?_eq_none h] at hu
    obtain ⟨ad', h', hc⟩ := HR.2.2 (by omega)
    injection h' with h'
    subst h'
    rw [zg8 (d := d) ys j hj] at hu
    rw [← hu]
    exact hc j (by omega)
   obtain ⟨v1, w1, hr, h2, h3, _, h5⟩ := run_append_own_at (P := P) W base t o.type e i0 z 1 bytes ht hi hz0 hz1 hz2 hz (by omega) v xs.length (encs enc xs) HO ad m c (encs enc ys) (by simp [encs, hm]) hcells
    (by intro u hu; simp only [encs, List.mem_map] at hu; obtain ⟨q, _, rfl⟩ := hu; exact h1 q) (by simp only [maxLen]; omega) hl hbase
   exact ⟨v1, w1, hr, by simpa [encs, hm] using h2, h3, h5⟩
 obtain ⟨v1, w1, hr, hown, hg, hat⟩ := hrun
 refine wpList_plain hgd fun K hK => ?_
 unfold Oper.wp execOp
 simp only [ho, resolve, invoke, builtin, Sem.run_bind, Sem.run_pure, Result.andThen_ok, List.map_toArray, List.map_cons, List.map_nil, hs, hx, hr]
 refine hK _ _ (h v1 w1 hown (HB.grown hg hbase (zm2 HO)) hg ?_)
 rcases hat with hat | hat
 ·exact .inl hat
 ·exact .inr ⟨_, hat, Nat.le_refl _⟩
end
theorem zj0 {w : World} {g : Nat} {o : Obj} (h : w.heap[g]? = some o) (o' : Obj) : (w.alloc o').heap[g]? = some o := (Below.heap_alloc w o' g (z70 h)).trans h
theorem zr0 {w : World} {g : Nat} {o : Obj} (h : w.heap[g]? = some o) (n : Nat) : (w.drewN n).heap[g]? = some o := h
theorem z20 {w w1 : World} {g : Nat} {o : Obj} (h : w.heap[g]? = some o) (hb : Below w.heap.size w w1) : w1.heap[g]? = some o := (hb.block g (z70 h)).trans h
theorem blk_new (w : World) (o : Obj) : (w.alloc o).heap[w.heap.size]? = some o := heap_alloc_new w o
section
variable {P : Program}
theorem zn0 {fn : Func} {p u : Tmp} {ty : TypeId} (h : fn.results = #[.cell p ty, .tmp u]) (tmps : Array Value) (w : World) (g : Nat) (t : TypeId) (cs : Array Value) (fr : Nat × Nat) (d : TypeDesc)
  (hp : tmps.getD p undef = .pointer (some ⟨g, 0, none⟩)) (hg : w.heap[g]? = some (.cells cs t fr))
  (hu : P.underlying ty = some d) (hd : (match d with | .struct _ | .array _ _ => true | _ => false) = true) (hi : (P.info? ty).map (·.size) = some cs.size) :
  (results fn tmps).run P w = .ok (.tuple #[.agg cs, tmps.getD u undef]) w := by
 have hp' : tmps[p]?.getD undef = .pointer (some ⟨g, 0, none⟩) := by simpa using hp
 simp [results, h, hp', asAddr, run_loadVar_row w g t ty cs fr d hg hu hd hi]
end
theorem own_le {w : World} {base n m c size : Nat} {e : TypeId} {A : Option Addr} {xs : List Value} (h : w.ownsRow base e size (.slice A m c) n xs) : m ≤ c := by
 rcases h.2 with ⟨he, _⟩ | ⟨g, cap, cur, he, _, _, hnc, _⟩
 ·injection he with _ h2 h3
  omega
 ·injection he with _ h2 h3
  omega
def OwnRow {α : Type} (R : α → List Value → Prop) (e : TypeId) (size : Nat) (w : World) (base : Nat) (v : Value) (ps : List α) : Prop :=
 ∃ inner, w.ownsRow base e size v ps.length inner ∧ Reps R size ps inner
section
variable {α : Type} {R R' : α → List Value → Prop} {e : TypeId} {size : Nat} {w w1 : World} {base : Nat} {v : Value} {ps : List α}
theorem OwnRow.none_ (R : α → List Value → Prop) (e : TypeId) (size : Nat) (w : World) (base : Nat) : OwnRow R e size w base (.slice none 0 0) [] := ⟨[], own_nil _ _ _ _, Reps.none _ _⟩
theorem OwnRow.imp_ (h : OwnRow R e size w base v ps) (hR : ∀ p c, R p c → R' p c) : OwnRow R' e size w base v ps := by
 obtain ⟨inner, ho, hr⟩ := h
 exact ⟨inner, ho, hr.imp_ hR⟩
theorem OwnRow.reads (h : OwnRow R e size w base v ps) : ∃ A c, v = .slice A ps.length c ∧ ps.length ≤ c ∧ ReadsRow R size w A ps.length ps := by
 obtain ⟨inner, ho, hr⟩ := h
 obtain ⟨A, c, rfl, hrow⟩ := zw5 ho hr rfl
 exact ⟨A, c, rfl, own_le ho, hrow⟩
theorem OwnRow.ne_block (h : OwnRow R e size w base v ps) {g : Nat} {t : TypeId} {cells : Array Value} (hb : w.heap[g]? = some (.cells cells t (0, 0))) (ht : e ≠ t) : some g ≠ v.ownBlock := by
 obtain ⟨inner, ho, hr⟩ := h
 exact own_ne ho hb ht
end
section
variable {P : Program} {ops : Array Oper} {rest : List Oper} {o : Oper} {a : Act} {Q : Exit → Act → World → Prop} {α : Type} {R : α → List Value → Prop}
end
section
variable {P : Program} {ops : Array Oper} {o : Oper} {a : Act} {Q : Exit → Act → World → Prop} {K : Act → World → Prop} {α : Type} {R : α → List Value → Prop}
end
theorem ReadsRow.inner_ {α : Type} {R : α → List Value → Prop} {size : Nat} {w : World} {ad : Addr} {n : Nat} {ps : List α} (h : ReadsRow R size w (some ad) n ps) :
  ∃ inner, Reps R size ps inner ∧ ∀ j u, inner[j]? = some u → w.cell? (ad.add j) = some u := by
 have key : ∀ m, m ≤ ps.length → ∃ inner, Reps R size (ps.take m) inner ∧ ∀ j u, inner[j]? = some u → w.cell? (ad.add j) = some u := by
  intro m
  induction m with
  | zero => exact fun _ => ⟨[], Reps.none _ _, fun j u hu => by simp at hu⟩
  | succ m ih =>
   intro hm
   obtain ⟨inner, hr, hc⟩ := ih (by omega)
   obtain ⟨ad', he, hcell⟩ := h.2.2 (by have := h.1; omega)
   injection he with he
   subst he
   obtain ⟨c, hcl, hp, hcc⟩ := hcell m _ (List.getElem?_eq_getElem (show m < ps.length by omega))
   refine ⟨inner ++ c, ?_, fun j u hu => ?_⟩
   ·rw [List.take_succ_eq_append_getElem (show m < ps.length by omega)]
    exact hr.snoc hp hcl
   ·have hil : inner.length = m * size := by rw [hr.1, List.length_take, Nat.min_eq_left (by omega)]
    rcases Nat.lt_or_ge j inner.length with hj | hj
    ·rw [List.getElem?_append_left hj] at hu
     exact hc j u hu
    ·rw [List.getElem?_append_right hj] at hu
     have := hcc (j - inner.length) u hu
     rwa [hil, Nat.add_sub_cancel' (by omega)] at this
 obtain ⟨inner, hr, hc⟩ := key ps.length (Nat.le_refl _)
 rw [List.take_length] at hr
 exact ⟨inner, hr, hc⟩
section
variable {α : Type} {P : Program}
theorem zn3 (enc : α → Value) (d : α) (t e : TypeId) (kl : IntKind) {i : TypeInfo} (ht : P.underlying t = some (.slice e)) (hi : P.info? e = some i) (hsz : i.size = 1) (A : Option Addr) (c : Nat) (xs : List α) (j : Int) (h0 : 0 ≤ j) (hm : j ≤ xs.length) (hc : xs.length ≤ c) :
  (∀ W : World, (Instr.slice t (.slice A xs.length c) none (some (.int kl j)) none).run P W = .ok (.slice A (xs.take j.toNat).length c) W) ∧
   (∀ w : World, ReadsOf enc d w A xs.length xs → ReadsOf enc d w A (xs.take j.toNat).length (xs.take j.toNat)) ∧ (xs.take j.toNat).length ≤ c := by
 have hl : (xs.take j.toNat).length = j.toNat := by rw [List.length_take]; omega
 refine ⟨fun W => ?_, fun w h => by rw [hl]; exact h.take_ j.toNat (by omega), by rw [hl]; omega⟩
 have hel : P.elem t = e := by simp [Program.elem, ht]
 have hu : P.underlying t = some (.slice (P.elem t)) := by rw [hel]; exact ht
 have ha : (A.map fun x => x.add 0) = A := by cases A <;> simp [Addr.add]
 rw [run_slice_h W t A xs.length c hu kl j h0 (by omega), hel, hl]
 simp [sizeOf, typeInfo, hi, hsz, sliced, Result.andThen, ha]
end
section
variable {P : Program} {ops : Array Oper} {rest : List Oper} {o : Oper} {a : Act} {Q : Exit → Act → World → Prop}
end
structure Kd (α : Type) where
 sz : Nat
 E : List Nat
 K : World → α → List Value → Prop
 M : World → Nat → (Nat → Prop) → α → List Value → Prop
 K_len : ∀ {w x cs}, K w x cs → cs.length = sz
 K_one : ∀ {w x cs}, K w x cs → ∀ u ∈ cs, u.oneCell' = true
 K_below : ∀ {w w1 : World} {x cs}, Below w.heap.size w w1 → K w x cs → K w1 x cs
 K_of_M : ∀ {w base ok x cs}, M w base ok x cs → K w x cs
 M_mono : ∀ {w base ok ok' x cs}, (∀ k, ok k → ok' k) → M w base ok x cs → M w base ok' x cs
 M_bound : ∀ {w : World} {base ok x cs}, M w base ok x cs → M w base (fun k => ok k ∧ base ≤ k ∧ k < w.heap.size ∧ ∃ q, q ∈ E ∧ ∃ cells, w.heap[k]? = some (.cells cells q (0, 0))) x cs
 M_move : ∀ {w w1 : World} {base ok x cs}, (∀ k, ok k → w1.heap[k]? = w.heap[k]?) → M w base ok x cs → M w1 base ok x cs
 M_lower : ∀ {w base base' ok x cs}, base' ≤ base → M w base ok x cs → M w base' ok x cs
theorem own_move {w w1 : World} {base : Nat} {e : TypeId} {size n : Nat} {v : Value} {xs : List Value} (h : w.ownsRow base e size v n xs) (hm : ∀ k, v.ownBlock = some k → w1.heap[k]? = w.heap[k]?) : w1.ownsRow base e size v n xs := by
 obtain ⟨h1, h2⟩ := h
 refine ⟨h1, ?_⟩
 rcases h2 with h2 | ⟨g, cap, cur, rfl, hg, hh, r⟩
 ·exact .inl h2
 ·exact .inr ⟨g, cap, cur, rfl, hg, (hm g (by simp [Value.ownBlock])).trans hh, r⟩
theorem zw1 {w : World} {base : Nat} {e : TypeId} {size n : Nat} {v : Value} {xs : List Value} (h : w.ownsRow base e size v n xs) (k : Nat) (hk : v.ownBlock = some k) : ∃ cells, w.heap[k]? = some (.cells cells e (0, 0)) := by
 rcases h.2 with ⟨rfl, _⟩ | ⟨g, cap, cur, rfl, hg, hh, r⟩
 ·simp [Value.ownBlock] at hk
 ·have : g = k := by simpa [Value.ownBlock] using hk
  subst this
  exact ⟨cur, hh⟩
namespace Kd
def C {α : Type} (d : Kd α) (w : World) (A : Option Addr) (n : Nat) (xs : List α) : Prop := ReadsRow (d.K w) d.sz w A n xs
def R {α : Type} (d : Kd α) (e : Nat) (w : World) (base : Nat) (ok : Nat → Prop) (v : Value) (xs : List α) : Prop :=
 (∀ k, v.ownBlock = some k → ok k) ∧ OwnRow (d.M w base (fun k => ok k ∧ some k ≠ v.ownBlock)) e d.sz w base v xs
section
variable {α : Type} {d : Kd α} {e : Nat} {w w1 : World} {base : Nat} {ok ok' : Nat → Prop} {v : Value} {xs : List α}
theorem C_below {A : Option Addr} {n : Nat} (h : d.C w A n xs) (hb : Below w.heap.size w w1) : d.C w1 A n xs := ReadsRow.imp_ h hb (fun _ _ hp => d.K_below hb hp)
theorem R_nil (d : Kd α) (e : Nat) (w : World) (base : Nat) (ok : Nat → Prop) : d.R e w base ok (.slice none 0 0) [] := ⟨fun k hk => by simp [Value.ownBlock] at hk, OwnRow.none_ _ _ _ _ _⟩
theorem R_mono (h : d.R e w base ok v xs) (hok : ∀ k, ok k → ok' k) : d.R e w base ok' v xs := ⟨fun k hk => hok k (h.1 k hk), h.2.imp_ (fun _ _ hp => d.M_mono (fun k hk => ⟨hok k hk.1, hk.2⟩) hp)⟩
theorem R_bound (h : d.R e w base ok v xs) : d.R e w base (fun k => ok k ∧ base ≤ k ∧ k < w.heap.size ∧ ∃ q, q ∈ e :: d.E ∧ ∃ cells, w.heap[k]? = some (.cells cells q (0, 0))) v xs := by
 obtain ⟨h0, inner, ho, hr⟩ := h
 refine ⟨fun k hk => ?_, inner, ho, hr.imp_ (fun _ _ hp => d.M_mono (fun k hk => ?_) (d.M_bound hp))⟩
 ·obtain ⟨cells, hc⟩ := zw1 ho k hk
  exact ⟨h0 k hk, zm2 ho k hk, own_lt ho k hk, e, List.mem_cons_self, cells, hc⟩
 ·obtain ⟨⟨h1, h2⟩, h3, h4, q, hq, hc⟩ := hk
  exact ⟨⟨h1, h3, h4, q, List.mem_cons_of_mem _ hq, hc⟩, h2⟩
theorem R_move (h : d.R e w base ok v xs) (hm : ∀ k, ok k → w1.heap[k]? = w.heap[k]?) : d.R e w1 base ok v xs := by
 obtain ⟨h0, inner, ho, hr⟩ := h
 exact ⟨h0, inner, own_move ho (fun k hk => hm k (h0 k hk)), hr.imp_ (fun _ _ hp => d.M_move (fun k hk => hm k hk.1) hp)⟩
theorem R_lower {base' : Nat} (h : d.R e w base ok v xs) (hb : base' ≤ base) : d.R e w base' ok v xs := by
 obtain ⟨h0, inner, ho, hr⟩ := h
 exact ⟨h0, inner, zaa ho hb, hr.imp_ (fun _ _ hp => d.M_lower hb hp)⟩
theorem R_step (h : d.R e w base ok v xs) (hm : ∀ k, ok k → k < w.heap.size → w1.heap[k]? = w.heap[k]?) : d.R e w1 base ok v xs :=
 R_mono (R_move (R_bound h) (fun k hk => hm k hk.1 hk.2.2.1)) (fun _ hk => hk.1)
theorem R_below (h : d.R e w base ok v xs) (hb : Below w.heap.size w w1) : d.R e w1 base ok v xs := R_step h (fun k _ hk => hb.block k hk)
theorem R_grown (h : d.R e w base ok v xs) {row : Option Nat} (hg : w.grownBy w1 row) (hok : ∀ k, ok k → some k ≠ row) : d.R e w1 base ok v xs := R_step h (fun k ho hk => hg.block k hk (hok k ho))
theorem R_far (h : d.R e w base ok v xs) {p : Addr} (hok : ∀ k, ok k → k ≠ p.block) (u : Value) : d.R e (w.setCell p u) base ok v xs := R_step h (fun k ho _ => Below.heap_setCell w p u k (hok k ho))
theorem R_types (h : d.R e w base ok v xs) {g t : Nat} {cells : Array Value} (hb : w.heap[g]? = some (.cells cells t (0, 0))) (ht : ∀ q, q ∈ e :: d.E → q ≠ t) : d.R e w base (fun k => ok k ∧ k ≠ g) v xs :=
 R_mono (R_bound h) (fun k hk => ⟨hk.1, by
  obtain ⟨_, _, _, q, hq, cells', hc⟩ := hk
  rintro rfl
  rw [hc] at hb
  injection hb with hb
  injection hb with _ hb
  exact ht q hq hb⟩)
theorem R_set (h : d.R e w base ok v xs) {g t : Nat} {cells : Array Value} (hb : w.heap[g]? = some (.cells cells t (0, 0))) (ht : ∀ q, q ∈ e :: d.E → q ≠ t) (j : Nat) (u : Value) : d.R e (w.setCell ⟨g, j, none⟩ u) base ok v xs :=
 R_mono (R_far (p := ⟨g, j, none⟩) (R_types h hb ht) (fun _ hk => hk.2) u) (fun _ hk => hk.1)
theorem R_reads (h : d.R e w base ok v xs) : ∃ A c, v = .slice A xs.length c ∧ xs.length ≤ c ∧ d.C w A xs.length xs := by
 obtain ⟨A, c, he, hl, hr⟩ := OwnRow.reads h.2
 exact ⟨A, c, he, hl, hr.imp_ (Below.refl _ _) (fun _ _ hp => d.K_of_M hp)⟩
theorem R_slice (h : d.R e w base ok v xs) : ∃ A c, v = .slice A xs.length c := by
 obtain ⟨A, c, he, _⟩ := R_reads h
 exact ⟨A, c, he⟩
theorem R_own (h : d.R e w base ok v xs) : ∃ inner, w.ownsRow base e d.sz v xs.length inner := by
 obtain ⟨_, inner, ho, _⟩ := h
 exact ⟨inner, ho⟩
theorem R_ne (h : d.R e w base ok v xs) {g t : Nat} {cells : Array Value} (hb : w.heap[g]? = some (.cells cells t (0, 0))) (ht : e ≠ t) : some g ≠ v.ownBlock := OwnRow.ne_block h.2 hb ht
end
def scalar {α : Type} (enc : α → Value) (h1 : ∀ x, (enc x).oneCell' = true) : Kd α where
 sz := 1
 E := []
 K := fun _ x cs => cs = [enc x]
 M := fun _ _ _ x cs => cs = [enc x]
 K_len := fun h => by rw [h]; rfl
 K_one := fun h u hu => by
  rw [h] at hu
  rw [List.mem_singleton.1 hu]
  exact h1 _
 K_below := fun _ h => h
 K_of_M := fun h => h
 M_mono := fun _ h => h
 M_bound := fun h => h
 M_move := fun _ h => h
 M_lower := fun _ h => h
def int (k : IntKind) : Kd Int := scalar (Value.int k) (fun _ => rfl)
def bool : Kd Bool := scalar Value.bool (fun _ => rfl)
def string : Kd ByteArray := scalar Value.string (fun _ => rfl)
def slice {α : Type} (e : Nat) (d : Kd α) : Kd (List α) where
 sz := 1
 E := e :: d.E
 K := fun w xs cs => ∃ A c, cs = [.slice A xs.length c] ∧ xs.length ≤ c ∧ d.C w A xs.length xs
 M := fun w base ok xs cs => ∃ v, cs = [v] ∧ d.R e w base ok v xs
 K_len := by
  rintro w x cs ⟨A, c, rfl, _⟩
  rfl
 K_one := by
  rintro w x cs ⟨A, c, rfl, _⟩ u hu
  rw [List.mem_singleton.1 hu]
  rfl
 K_below := by
  rintro w w1 x cs hb ⟨A, c, rfl, hl, hr⟩
  exact ⟨A, c, rfl, hl, C_below hr hb⟩
 K_of_M := by
  rintro w base ok x cs ⟨v, rfl, h⟩
  obtain ⟨A, c, rfl, hl, hr⟩ := R_reads h
  exact ⟨A, c, rfl, hl, hr⟩
 M_mono := by
  rintro w base ok ok' x cs hok ⟨v, rfl, h⟩
  exact ⟨v, rfl, R_mono h hok⟩
 M_bound := by
  rintro w base ok x cs ⟨v, rfl, h⟩
  exact ⟨v, rfl, R_bound h⟩
 M_move := by
  rintro w w1 base ok x cs hm ⟨v, rfl, h⟩
  exact ⟨v, rfl, R_move h hm⟩
 M_lower := by
  rintro w base base' ok x cs hb ⟨v, rfl, h⟩
  exact ⟨v, rfl, R_lower h hb⟩
def pair {α β : Type} (a : Kd α) (b : Kd β) : Kd (α × β) where
 sz := a.sz + b.sz
 E := a.E ++ b.E
 K := fun w x cs => ∃ c0 c1, cs = c0 ++ c1 ∧ a.K w x.1 c0 ∧ b.K w x.2 c1
 M := fun w base ok x cs => ∃ c0 c1, cs = c0 ++ c1 ∧ a.M w base ok x.1 c0 ∧ b.M w base ok x.2 c1
 K_len := by
  rintro w x cs ⟨c0, c1, rfl, h0, h1⟩
  rw [List.length_append, a.K_len h0, b.K_len h1]
 K_one := by
  rintro w x cs ⟨c0, c1, rfl, h0, h1⟩ u hu
  rcases List.mem_append.1 hu with hu | hu
  ·exact a.K_one h0 u hu
  ·exact b.K_one h1 u hu
 K_below := by
  rintro w w1 x cs hb ⟨c0, c1, rfl, h0, h1⟩
  exact ⟨c0, c1, rfl, a.K_below hb h0, b.K_below hb h1⟩
 K_of_M := by
  rintro w base ok x cs ⟨c0, c1, rfl, h0, h1⟩
  exact ⟨c0, c1, rfl, a.K_of_M h0, b.K_of_M h1⟩
 M_mono := by
  rintro w base ok ok' x cs hok ⟨c0, c1, rfl, h0, h1⟩
  exact ⟨c0, c1, rfl, a.M_mono hok h0, b.M_mono hok h1⟩
 M_bound := by
  rintro w base ok x cs ⟨c0, c1, rfl, h0, h1⟩
  refine ⟨c0, c1, rfl, a.M_mono ?_ (a.M_bound h0), b.M_mono ?_ (b.M_bound h1)⟩
  ·rintro k ⟨h2, h3, h4, q, hq, hc⟩
   exact ⟨h2, h3, h4, q, List.mem_append_left _ hq, hc⟩
  ·rintro k ⟨h2, h3, h4, q, hq, hc⟩
   exact ⟨h2, h3, h4, q, List.mem_append_right _ hq, hc⟩
 M_move := by
  rintro w w1 base ok x cs hm ⟨c0, c1, rfl, h0, h1⟩
  exact ⟨c0, c1, rfl, a.M_move hm h0, b.M_move hm h1⟩
 M_lower := by
  rintro w base base' ok x cs hb ⟨c0, c1, rfl, h0, h1⟩
  exact ⟨c0, c1, rfl, a.M_lower hb h0, b.M_lower hb h1⟩
def iso {α β : Type} (d : Kd α) (f : β → α) : Kd β where
 sz := d.sz
 E := d.E
 K := fun w x cs => d.K w (f x) cs
 M := fun w base ok x cs => d.M w base ok (f x) cs
 K_len := d.K_len
 K_one := d.K_one
 K_below := d.K_below
 K_of_M := d.K_of_M
 M_mono := d.M_mono
 M_bound := d.M_bound
 M_move := d.M_move
 M_lower := d.M_lower
def bot {α : Type} (sz : Nat) (E : List Nat) : Kd α where
 sz := sz
 E := E
 K := fun _ _ _ => False
 M := fun _ _ _ _ _ => False
 K_len := fun h => h.elim
 K_one := fun h => h.elim
 K_below := fun _ h => h
 K_of_M := fun h => h
 M_mono := fun _ h => h
 M_bound := fun h => h
 M_move := fun _ h => h
 M_lower := fun _ h => h
def upto {α : Type} (F : Kd α → Kd α) (sz : Nat) (E : List Nat) : Nat → Kd α
 | 0 => bot sz E
 | n + 1 => F (upto F sz E n)
theorem C_get {α : Type} {d : Kd α} {w : World} {A : Option Addr} {n : Nat} {xs : List α} (h : d.C w A n xs) (z : α) (i : Int) (h0 : 0 ≤ i) (h1 : i < n) :
  ∃ ad c, A = some ad ∧ c.length = d.sz ∧ d.K w (xs.getD i.toNat z) c ∧ ∀ j u, c[j]? = some u → w.cell? (ad.add (i.toNat * d.sz + j)) = some u := ReadsRow.get_ h z i h0 h1
theorem zh5 {α : Type} {d : Kd α} {e base : Nat} {ok okp : Nat → Prop} {W w1 : World} {v v1 : Value} {xs : List α} {p : α} {inner cs : List Value} (h0 : ∀ k, v.ownBlock = some k → ok k) (hr : Reps (d.M W base (fun k => ok k ∧ some k ≠ v.ownBlock)) d.sz xs inner) (hp : d.M W base okp p cs) (hokp : ∀ k, okp k → ok k ∧ some k ≠ v.ownBlock) (hfresh : ∀ k, W.heap.size ≤ k → ok k)
  (hown : w1.ownsRow base e d.sz v1 (xs.length + 1) (inner ++ cs)) (hg : W.grownBy w1 v.ownBlock) (hat : v1.ownBlock = v.ownBlock ∨ ∃ b, v1.ownBlock = some b ∧ W.heap.size ≤ b) : d.R e w1 base ok v1 (xs ++ [p]) := by
 have hne : ∀ k, some k ≠ v.ownBlock → k < W.heap.size → some k ≠ v1.ownBlock := by
  intro k hk hlt
  rcases hat with hat | ⟨b, hb, hle⟩
  ·rw [hat]; exact hk
  ·rw [hb]
   intro he
   injection he with he
   omega
 have step : ∀ {q : α} {c : List Value} {o : Nat → Prop}, d.M W base o q c → (∀ k, o k → ok k ∧ some k ≠ v.ownBlock) → d.M w1 base (fun k => ok k ∧ some k ≠ v1.ownBlock) q c := by
  intro q c o hq ho
  have h1 := d.M_move (w1 := w1) (fun k hk => hg.block k hk.2.2.1 (ho k hk.1).2) (d.M_bound hq)
  exact d.M_mono (fun k hk => ⟨(ho k hk.1).1, hne k (ho k hk.1).2 hk.2.2.1⟩) h1
 refine ⟨fun k hk => ?_, inner ++ cs, by rw [List.length_append, List.length_singleton]; exact hown, ?_⟩
 ·rcases hat with hat | ⟨b, hb, hle⟩
  ·exact h0 k (hat ▸ hk)
  ·rw [hb] at hk
   injection hk with hk
   exact hfresh k (by omega)
 ·exact (hr.imp_ (fun _ _ hq => step hq (fun _ hk => hk))).snoc (step hp hokp) (d.K_len (d.K_of_M hp))
section
variable {P : Program} {ops : Array Oper} {rest : List Oper} {o : Oper} {a : Act} {Q : Exit → Act → World → Prop} {α : Type}
theorem R_append (d : Kd α) {w0 W : World} (base : Nat) (hgd : o.guard = none) (s x : Operand) (t e : TypeId) (z : Value) (bytes : Nat)
  (ho : o.op = .call { callee := .builtin .append, args := #[s, x], argTypes := #[t, t] })
  (ht : P.underlying t = some (.slice e)) (hinfo : (P.info? e).map (fun i => (i.zero, i.size, i.bytes)) = some (some z, d.sz, bytes)) (hz : z.cells.size = d.sz) (hs0 : 0 < d.sz) (hb0 : 0 < bytes)
  (v : Value) (xs : List α) (p : α) (cs : List Value) (ok okp : Nat → Prop) (hs : a.eval s = v) (hx : a.eval x = .slice (some ⟨W.heap.size, 0, none⟩) 1 1) (hp : d.M W base okp p cs) (hokp : ∀ k, okp k → ok k ∧ some k ≠ v.ownBlock) (hfresh : ∀ k, W.heap.size ≤ k → ok k)
  (HO : d.R e W base ok v xs) (HB : Below base w0 W) (hbase : base ≤ W.heap.size) (hl : (xs.length + 1) * bytes ≤ 140737488355328)
  (h : ∀ v1 w1, d.R e w1 base ok v1 (xs ++ [p]) → Below base w0 w1 → W.grownBy w1 v.ownBlock → (v1.ownBlock = v.ownBlock ∨ ∃ b, v1.ownBlock = some b ∧ W.heap.size ≤ b) → wpList P ops Q rest (a.put o.dst v1) w1) :
  wpList P ops Q (o :: rest) a (W.alloc (.cells cs.toArray e)) := by
 obtain ⟨h0, inner, hown, hr⟩ := HO
 refine zg3 base hgd s x t e z d.sz bytes ho ht hinfo hz hs0 hb0 v xs.length inner cs hs hx (d.K_len (d.K_of_M hp)) (d.K_one (d.K_of_M hp)) hown HB hbase hl ?_
 intro v1 w1 hown1 hb1 hg1 hat1
 exact h v1 w1 (zh5 h0 hr hp hokp hfresh hown1 hg1 hat1) hb1 hg1 hat1
end
section
variable {P : Program} {ops : Array Oper} {o : Oper} {a : Act} {Q : Exit → Act → World → Prop} {Kc : Act → World → Prop} {α : Type}
theorem R_append_step (d : Kd α) {w0 W : World} (base : Nat) (hw : Region.wanted o (yielded ops a.tmps) = true) (s x : Operand) (t e : TypeId) (z : Value) (bytes : Nat)
  (ho : o.op = .call { callee := .builtin .append, args := #[s, x], argTypes := #[t, t] })
  (ht : P.underlying t = some (.slice e)) (hinfo : (P.info? e).map (fun i => (i.zero, i.size, i.bytes)) = some (some z, d.sz, bytes)) (hz : z.cells.size = d.sz) (hs0 : 0 < d.sz) (hb0 : 0 < bytes)
  (v : Value) (xs : List α) (p : α) (cs : List Value) (ok okp : Nat → Prop) (hs : a.eval s = v) (hx : a.eval x = .slice (some ⟨W.heap.size, 0, none⟩) 1 1) (hp : d.M W base okp p cs) (hokp : ∀ k, okp k → ok k ∧ some k ≠ v.ownBlock) (hfresh : ∀ k, W.heap.size ≤ k → ok k)
  (HO : d.R e W base ok v xs) (HB : Below base w0 W) (hbase : base ≤ W.heap.size) (hl : (xs.length + 1) * bytes ≤ 140737488355328)
  (h : ∀ v1 w1, d.R e w1 base ok v1 (xs ++ [p]) → Below base w0 w1 → W.grownBy w1 v.ownBlock → (v1.ownBlock = v.ownBlock ∨ ∃ b, v1.ownBlock = some b ∧ W.heap.size ≤ b) → Kc (a.put o.dst v1) w1) :
  if Region.wanted o (yielded ops a.tmps) = true then Oper.wp P o a (W.alloc (.cells cs.toArray e)) Kc Q else Kc (a.put o.dst undef) (W.alloc (.cells cs.toArray e)) := by
 obtain ⟨h0, inner, hown, hr⟩ := HO
 refine z24 base hw s x t e z d.sz bytes ho ht hinfo hz hs0 hb0 v xs.length inner cs hs hx (d.K_len (d.K_of_M hp)) (d.K_one (d.K_of_M hp)) hown HB hbase hl ?_
 intro v1 w1 hown1 hb1 hg1 hat1
 exact h v1 w1 (zh5 h0 hr hp hokp hfresh hown1 hg1 hat1) hb1 hg1 hat1
end
theorem z08 {α : Type} {enc : α → Value} (xs : List α) : Reps (fun (x : α) (cs : List Value) => cs = [enc x]) 1 xs (encs enc xs) := by
 refine ⟨by simp [encs], fun j p hj => ?_⟩
 obtain ⟨hl, hp⟩ := List.getElem?_eq_some_iff.1 hj
 have hl' : j < (encs enc xs).length := by rw [zs4]; exact hl
 rw [Nat.mul_one, List.drop_eq_getElem_cons hl']
 simp [encs, hp]
theorem R_of_own {α : Type} {enc : α → Value} {h1 : ∀ x, (enc x).oneCell' = true} {e : Nat} {w : World} {base : Nat} {ok : Nat → Prop} {v : Value} {xs : List α} (ho : w.ownsRow base e 1 v xs.length (encs enc xs)) (hok : ∀ k, v.ownBlock = some k → ok k) : (scalar enc h1).R e w base ok v xs := ⟨hok, encs enc xs, ho, z08 xs⟩
theorem own_of_R {α : Type} {enc : α → Value} {h1 : ∀ x, (enc x).oneCell' = true} {e : Nat} {w : World} {base : Nat} {ok : Nat → Prop} {v : Value} {xs : List α} (h : (scalar enc h1).R e w base ok v xs) : w.ownsRow base e 1 v xs.length (encs enc xs) := by
 obtain ⟨_, inner, ho, hr⟩ := h
 have : inner = encs enc xs := by
  apply List.ext_getElem?
  intro j
  rcases Nat.lt_or_ge j xs.length with hj | hj
  ·have h2 := hr.2 j _ (List.getElem?_eq_getElem hj)
   have hl : j < inner.length := by have := hr.1; simp [scalar] at this; omega
   have h3 : (inner.drop (j * 1)).take 1 = [enc xs[j]] := h2
   rw [Nat.mul_one, List.drop_eq_getElem_cons hl] at h3
   have h4 : inner[j] = enc xs[j] := by
    have h5 := congrArg List.head? h3
    rw [List.take_succ_cons] at h5
    exact Option.some.inj h5
   rw [List.getElem?_eq_getElem hl, h4]
   simp [encs, List.getElem?_eq_getElem hj]
  ·have h3 : inner.length = xs.length := by have := hr.1; simp [scalar] at this; omega
   rw [List.getElem?_eq_none (by omega), List.getElem?_eq_none (by rw [zs4]; omega)]
 rw [← this]
 exact ho
theorem C_of_reads {α : Type} {enc : α → Value} {d : α} {h1 : ∀ x, (enc x).oneCell' = true} {w : World} {A : Option Addr} {n : Nat} {xs : List α} (h : ReadsOf enc d w A n xs) : (scalar enc h1).C w A n xs := by
 refine ⟨h.1, h.2.1, fun hn => ?_⟩
 obtain ⟨ad, e, hc⟩ := h.2.2 hn
 refine ⟨ad, e, fun j p hj => ⟨[enc p], rfl, rfl, fun i u hu => ?_⟩⟩
 obtain ⟨hl, hp⟩ := List.getElem?_eq_some_iff.1 hj
 have h2 := hc j (by have := h.1; omega)
 rw [List.getD_eq_getElem?_getD, hj] at h2
 cases i with
 | zero =>
  have : enc p = u := by simpa using hu
  subst this
  simpa [scalar] using h2
 | succ i => simp at hu
theorem reads_of_C {α : Type} {enc : α → Value} {d : α} {h1 : ∀ x, (enc x).oneCell' = true} {w : World} {A : Option Addr} {n : Nat} {xs : List α} (h : (scalar enc h1).C w A n xs) : ReadsOf enc d w A n xs := by
 refine ⟨h.1, h.2.1, fun hn => ?_⟩
 obtain ⟨ad, e, hc⟩ := h.2.2 hn
 refine ⟨ad, e, fun j hj => ?_⟩
 have hl : j < xs.length := by have := h.1; omega
 obtain ⟨c, _, hK, hcell⟩ := hc j _ (List.getElem?_eq_getElem hl)
 have hK' : c = [enc xs[j]] := hK
 subst hK'
 have := hcell 0 _ rfl
 simpa [scalar, List.getD_eq_getElem?_getD, List.getElem?_eq_getElem hl] using this
end Kd
namespace Kd
section
variable {α : Type} {F : Kd α → Kd α} {sz : Nat} {E : List Nat} {hs : ∀ n, (upto F sz E n).sz = sz} {hE : ∀ n q, q ∈ (upto F sz E n).E → q ∈ E}
end
end Kd
namespace Kd
theorem R_after {α : Type} {d : Kd α} {e base : Nat} {ok : Nat → Prop} {W w1 : World} {u v v1 : Value} {xs : List α} (h : d.R e W base (fun k => ok k ∧ some k ≠ v.ownBlock) u xs) (hg : W.grownBy w1 v.ownBlock) (hat : v1.ownBlock = v.ownBlock ∨ ∃ b, v1.ownBlock = some b ∧ W.heap.size ≤ b) : d.R e w1 base (fun k => ok k ∧ some k ≠ v1.ownBlock) u xs := by
 refine R_mono (R_move (R_bound h) (fun k hk => hg.block k hk.2.2.1 hk.1.2)) (fun k hk => ⟨hk.1.1, ?_⟩)
 rcases hat with hat | ⟨b, hb, hle⟩
 ·rw [hat]; exact hk.1.2
 ·rw [hb]
  intro he
  injection he with he
  have := hk.2.2.1
  omega
theorem R_apart_nil {α : Type} {d : Kd α} {e base : Nat} {ok : Nat → Prop} {w : World} {u : Value} {xs : List α} (h : d.R e w base ok u xs) : d.R e w base (fun k => ok k ∧ some k ≠ (Value.slice none 0 0).ownBlock) u xs := R_mono h (fun k hk => ⟨hk, by simp [Value.ownBlock]⟩)
end Kd
namespace Kd
section
variable {α β : Type} {d : Kd α} {d' : Kd β} {e e' : Nat} {w w1 W : World} {base b b' : Nat} {ok ok' okv oku : Nat → Prop} {v u : Value} {xs : List α} {ys : List β}
theorem R_alloc (h : d.R e w base ok v xs) (o : Obj) : d.R e (w.alloc o) base ok v xs := R_below h (z80 (Below.refl _ _) o)
theorem R_drew (h : d.R e w base ok v xs) : d.R e w.drew base ok v xs := R_below h (zj9 (Below.refl _ _))
theorem R_drewN (h : d.R e w base ok v xs) (m : Nat) : d.R e (w.drewN m) base ok v xs := R_below h (z90 (Below.refl _ _) m)
theorem R_reads' {A : Option Addr} {n c : Nat} (h : d.R e w base ok (.slice A n c) xs) : n = xs.length ∧ n ≤ c ∧ d.C w A xs.length xs := by
 obtain ⟨A', c', he, hl, hr⟩ := R_reads h
 injection he with h1 h2 h3
 subst h1
 exact ⟨h2, by omega, hr⟩
theorem R_lt (h : d.R e w base ok v xs) : ∀ k, v.ownBlock = some k → k < w.heap.size := by
 obtain ⟨inner, ho⟩ := R_own h
 exact own_lt ho
theorem R_base (h : d.R e w base ok v xs) : ∀ k, v.ownBlock = some k → base ≤ k := by
 obtain ⟨inner, ho⟩ := R_own h
 exact zm2 ho
theorem R_form (h : d.R e w base ok v xs) (hp : 0 < xs.length) : ∃ g cap, v = .slice (some ⟨g, 0, none⟩) xs.length cap ∧ base ≤ g ∧ g < w.heap.size ∧ ∃ cells, w.heap[g]? = some (.cells cells e (0, 0)) := by
 obtain ⟨inner, ho⟩ := R_own h
 obtain ⟨g, cap, he, hb, hl⟩ := ho.form hp
 obtain ⟨cells, hc⟩ := zw1 ho g (by rw [he]; simp [Value.ownBlock])
 exact ⟨g, cap, he, hb, hl, cells, hc⟩
theorem R_over (h : d.R e W b ok u xs) (hv : d'.R e' W b' ok' v ys) (ht : ∀ q, q ∈ e :: d.E → q ≠ e') (hg : W.grownBy w1 v.ownBlock) : d.R e w1 b ok u xs := by
 obtain ⟨inner, ho⟩ := R_own hv
 refine R_mono (R_move (R_bound h) (fun k hk => hg.block k hk.2.2.1 (fun he => ?_))) (fun _ hk => hk.1)
 obtain ⟨_, _, _, q, hq, cells, hc⟩ := hk
 obtain ⟨cells', hc'⟩ := zw1 ho k he.symm
 rw [hc] at hc'
 injection hc' with hc'
 injection hc' with _ hc'
 exact ht q hq hc'
end
section
variable {w W : World} {A : Option Addr} {n : Nat}
theorem at_int {k : IntKind} {xs : List Int} (h : (Kd.int k).C w A n xs) (i : Int) (h0 : 0 ≤ i) (h1 : i < n) : ∃ ad, A = some ad ∧ w.cell? (ad.add i.toNat) = some (.int k (rd xs i)) :=
 ReadsOf.at_ (reads_of_C (enc := Value.int k) (d := (0 : Int)) (h1 := fun _ => rfl) h) i h0 h1
theorem at_bool {xs : List Bool} (h : Kd.bool.C w A n xs) (i : Int) (h0 : 0 ≤ i) (h1 : i < n) : ∃ ad, A = some ad ∧ w.cell? (ad.add i.toNat) = some (.bool (rdOf false xs i)) :=
 ReadsOf.at_ (reads_of_C (enc := Value.bool) (d := false) (h1 := fun _ => rfl) h) i h0 h1
theorem at_string {xs : List ByteArray} (h : Kd.string.C w A n xs) (i : Int) (h0 : 0 ≤ i) (h1 : i < n) : ∃ ad, A = some ad ∧ w.cell? (ad.add i.toNat) = some (.string (rdOf ByteArray.empty xs i)) :=
 ReadsOf.at_ (reads_of_C (enc := Value.string) (d := ByteArray.empty) (h1 := fun _ => rfl) h) i h0 h1
variable {α : Type} {enc : α → Value} {h1 : ∀ x, (enc x).oneCell' = true} {e base g cap : Nat} {ok : Nat → Prop} {xs : List α}
theorem R_cell (d : α) (h : (scalar enc h1).R e W base ok (.slice (some ⟨g, 0, none⟩) xs.length cap) xs) (i : Int) (h0 : 0 ≤ i) (hi : i < xs.length) : W.cell? ⟨g, i.toNat, none⟩ = some (enc (rdOf d xs i)) ∧ W.frozen? ⟨g, i.toNat, none⟩ = false := z4c (own_of_R h) i h0 hi
theorem R_put (h : (scalar enc h1).R e W base ok (.slice (some ⟨g, 0, none⟩) xs.length cap) xs) (i : Int) (x : α) : (scalar enc h1).R e (W.setCell ⟨g, i.toNat, none⟩ (enc x)) base ok (.slice (some ⟨g, 0, none⟩) xs.length cap) (xs.set i.toNat x) ∧ W.grownBy (W.setCell ⟨g, i.toNat, none⟩ (enc x)) (some g) := by
 obtain ⟨ho, hg⟩ := zo6 (own_of_R h) i x
 exact ⟨R_of_own (by rw [List.length_set]; exact ho) h.1, hg⟩
end
section
variable {P : Program} {ops : Array Oper} {rest : List Oper} {o : Oper} {a : Act} {Q : Exit → Act → World → Prop}
theorem event_run {W w1 : World} {v : Value} (hgd : o.guard = none) (hrun : (execOp a.eval o).run P W = .ok (.value v) w1) (h : wpList P ops Q rest (a.put o.dst v) w1) : wpList P ops Q (o :: rest) a W := by
 refine wpList_plain hgd fun K hK => ?_
 unfold Oper.wp
 rw [hrun]
 exact hK _ _ h
variable {α : Type}
end
end Kd
theorem own_take {w : World} {base n m c size : Nat} {e : TypeId} {A : Option Addr} {xs : List Value} (h : w.ownsRow base e size (.slice A n c) n xs) (hm : m ≤ n) : w.ownsRow base e size (.slice A m c) m (xs.take (m * size)) := by
 obtain ⟨h1, h2⟩ := h
 refine ⟨by rw [List.length_take, h1]; exact Nat.min_eq_left (Nat.mul_le_mul_right _ hm), ?_⟩
 rcases h2 with ⟨he, h0⟩ | ⟨g, cap, cur, he, hb, hh, hnc, hcm, hcs, ht⟩
 ·injection he with ha _ hc
  subst ha; subst hc
  exact .inl ⟨by rw [show m = 0 by omega], by omega⟩
 ·injection he with ha _ hc
  subst ha; subst hc
  refine .inr ⟨g, c, cur, rfl, hb, hh, by omega, hcm, hcs, ?_⟩
  rw [← ht, List.take_take, Nat.min_eq_left (Nat.mul_le_mul_right _ hm)]
section
variable {P : Program}
end
def QRow (w : World) (base : Nat) (e : TypeId) (size : Nat) (v : Value) (n : Nat) (xs : List Value) : Prop :=
  xs.length = n * size ∧
  ((n = 0 ∧ ∃ A, v = .slice A 0 0 ∧ ∀ a, A = some a → base ≤ a.block ∧ ∃ cur, w.heap[a.block]? = some (.cells cur e (0, 0))) ∨
   ∃ g off cap cur, v = .slice (some ⟨g, off * size, none⟩) n cap ∧ base ≤ g ∧ w.heap[g]? = some (.cells cur e (0, 0)) ∧ n ≤ cap ∧ off + cap ≤ maxLen ∧ cur.size = (off + cap) * size ∧ (cur.toList.drop (off * size)).take (n * size) = xs)
section
variable {w w1 : World} {base n size : Nat} {e : TypeId} {v : Value} {xs : List Value}
theorem add_at (g o j : Nat) : (⟨g, o, none⟩ : Addr).add j = ⟨g, o + j, none⟩ := by unfold Addr.add; split <;> simp_all
theorem z23 {g : Nat} : ∀ (vs : List Value) (o : Nat) {w : World} (k : Nat), k ≠ g → (w.setCells g o vs).heap[k]? = w.heap[k]?
 | [], _, _, _, _ => rfl
 | v :: r, o, w, k, hk => by
  rw [World.setCells, z23 r (o + 1) k hk]
  exact Below.heap_setCell w ⟨g, o, none⟩ v k hk
theorem zn2 (g : Nat) : ∀ (vs : List Value) (o : Nat) (w : World), (w.setCells g o vs).os = w.os ∧ (w.setCells g o vs).tape = w.tape ∧ (w.setCells g o vs).output = w.output ∧ (w.setCells g o vs).heap.size = w.heap.size
 | [], _, _ => ⟨rfl, rfl, rfl, rfl⟩
 | v :: r, o, w => by
  obtain ⟨h1, h2, h3, h4⟩ := zn2 g r (o + 1) (w.setCell ⟨g, o, none⟩ v)
  rw [World.setCells]
  exact ⟨h1, h2, h3, by rw [h4]; simp [World.setCell]⟩
theorem zy2 {g : Nat} {e : TypeId} : ∀ (vs : List Value) (o : Nat) (w : World) (cur : Array Value), w.heap[g]? = some (.cells cur e (0, 0)) → o + vs.length ≤ cur.size →
  ∃ cur', (w.setCells g o vs).heap[g]? = some (.cells cur' e (0, 0)) ∧ cur'.size = cur.size ∧ cur'.toList = cur.toList.take o ++ vs ++ cur.toList.drop (o + vs.length)
 | [], o, w, cur, h, _ => ⟨cur, h, rfl, by simp⟩
 | v :: r, o, w, cur, h, hl => by
  have h2 := zz0 h o v
  simp only [List.length_cons] at hl
  obtain ⟨cur', h3, h4, h5⟩ := zy2 r (o + 1) (w.setCell ⟨g, o, none⟩ v) _ h2 (by simp; omega)
  refine ⟨cur', h3, by rw [h4]; simp, ?_⟩
  rw [h5, Array.toList_setIfInBounds]
  have ho : o < cur.toList.length := by rw [Array.length_toList]; omega
  rw [List.take_set, List.drop_set_of_lt (by omega)]
  simp only [List.length_cons]
  rw [show o + 1 + r.length = o + (r.length + 1) by omega]
  congr 1
  rw [List.take_succ_eq_append_getElem ho, List.set_append_right _ _ (by rw [List.length_take]; omega)]
  have ho' : o < cur.size := by omega
  simp [Nat.min_eq_left (Nat.le_of_lt ho')]
end
section
variable {P : Program}
end
namespace Kd
theorem zn6 {α : Type} {R : α → List Value → Prop} {size m : Nat} {ps : List α} {cs : List Value} (h : Reps R size ps cs) (hm : m ≤ ps.length) : Reps R size (ps.take m) (cs.take (m * size)) := by
 refine ⟨by rw [List.length_take, List.length_take, h.1, Nat.min_eq_left hm, Nat.min_eq_left (Nat.mul_le_mul_right _ hm)], fun j p hj => ?_⟩
 rw [List.getElem?_take] at hj
 split at hj
 ·rename_i hjm
  have := h.2 j p hj
  have hle : j * size + size ≤ m * size := by rw [← Nat.succ_mul]; exact Nat.mul_le_mul_right _ hjm
  rw [List.drop_take, List.take_take, Nat.min_eq_left (by omega)]
  exact this
 ·cases hj
theorem z9c {α : Type} {R : α → List Value → Prop} {size m : Nat} {ps : List α} {cs : List Value} (h : Reps R size ps cs) : Reps R size (ps.drop m) (cs.drop (m * size)) := by
 refine ⟨by rw [List.length_drop, List.length_drop, h.1, Nat.sub_mul], fun j p hj => ?_⟩
 rw [List.getElem?_drop] at hj
 have := h.2 (m + j) p hj
 rw [List.drop_drop, ← Nat.add_mul]
 exact this
theorem R_take {α : Type} {d : Kd α} {e m n c : Nat} {w : World} {base : Nat} {ok : Nat → Prop} {A : Option Addr} {xs : List α} (h : d.R e w base ok (.slice A n c) xs) (hm : m ≤ xs.length) : d.R e w base ok (.slice A m c) (xs.take m) := by
 obtain ⟨h0, inner, ho, hr⟩ := h
 have hn : n = xs.length := by
  obtain ⟨A', c', he⟩ := zkc ho
  injection he
 subst hn
 have hb : ∀ x y : Nat, (Value.slice A x c).ownBlock = (Value.slice A y c).ownBlock := by
  intro x y
  cases A <;> rfl
 refine ⟨fun k hk => h0 k (by rw [hb _ m]; exact hk), inner.take (m * d.sz), ?_, ?_⟩
 ·rw [List.length_take, Nat.min_eq_left hm]
  exact own_take ho hm
 ·rw [hb m xs.length]
  exact zn6 hr hm
def Q {α : Type} (d : Kd α) (e : Nat) (w : World) (base : Nat) (ok : Nat → Prop) (v : Value) (xs : List α) : Prop :=
 (∀ k, v.ownBlock = some k → ok k) ∧ ∃ inner, QRow w base e d.sz v xs.length inner ∧ Reps (d.M w base (fun k => ok k ∧ some k ≠ v.ownBlock)) d.sz xs inner
section
variable {α : Type} {d : Kd α} {e : Nat} {w w1 W : World} {base : Nat} {ok ok' : Nat → Prop} {v : Value} {xs : List α}
end
section
variable {P : Program} {ops : Array Oper} {rest : List Oper} {o : Oper} {a : Act} {Q' : Exit → Act → World → Prop} {Kc : Act → World → Prop} {α : Type}
end
end Kd
namespace Kd
section
variable {α : Type} {d : Kd α} {e e' : Nat} {w w1 W : World} {base : Nat} {ok : Nat → Prop} {u v : Value} {xs : List α}
theorem R_typed (h : d.R e w base ok v xs) : ∀ k, v.ownBlock = some k → ∃ cells, w.heap[k]? = some (.cells cells e (0, 0)) := by
 obtain ⟨inner, ho⟩ := R_own h
 exact fun k hk => zw1 ho k hk
theorem R_over' (h : d.R e W base ok u xs) (hty : ∀ k, v.ownBlock = some k → ∃ cells, W.heap[k]? = some (.cells cells e' (0, 0))) (ht : ∀ q, q ∈ e :: d.E → q ≠ e') (hg : W.grownBy w1 v.ownBlock) : d.R e w1 base ok u xs := by
 refine R_mono (R_move (R_bound h) (fun k hk => hg.block k hk.2.2.1 (fun he => ?_))) (fun _ hk => hk.1)
 obtain ⟨_, _, _, q, hq, cells, hc⟩ := hk
 obtain ⟨cells', hc'⟩ := hty k he.symm
 rw [hc] at hc'
 injection hc' with hc'
 injection hc' with _ hc'
 exact ht q hq hc'
theorem R_elder' (hu : d.R e W base ok u xs) (hbase : ∀ k, v.ownBlock = some k → W.heap.size ≤ k) (hb : Below W.heap.size W w1) : d.R e w1 base (fun k => ok k ∧ some k ≠ v.ownBlock) u xs :=
 R_mono (R_move (R_bound hu) (fun k hk => hb.block k hk.2.2.1)) (fun k hk => ⟨hk.1, fun he => by have := hbase k he.symm; have := hk.2.2.1; omega⟩)
theorem R_new' (h : d.R e w1 W.heap.size ok v xs) (hlt : ∀ k, u.ownBlock = some k → k < W.heap.size) : d.R e w1 W.heap.size (fun k => ok k ∧ some k ≠ u.ownBlock) v xs :=
 R_mono (R_bound h) (fun k hk => ⟨hk.1, fun he => by have := hlt k he.symm; have := hk.2.1; omega⟩)
end
end Kd
namespace Kd
section
variable {α : Type} {d : Kd α} {e base g n cap : Nat} {ok okp : Nat → Prop} {W : World} {xs : List α}
end
end Kd
namespace Kd
section
variable {α : Type} {F : Kd α → Kd α} {sz : Nat} {E : List Nat} {hs : ∀ n, (upto F sz E n).sz = sz} {hE : ∀ n q, q ∈ (upto F sz E n).E → q ∈ E}
end
end Kd
namespace Kd
theorem zn4 {α : Type} {R : α → List Value → Prop} {size : Nat} {ps qs : List α} {cs ds : List Value} (h : Reps R size ps cs) (h' : Reps R size qs ds) : Reps R size (ps ++ qs) (cs ++ ds) := by
 refine ⟨by rw [List.length_append, List.length_append, h.1, h'.1, Nat.add_mul], fun j p hj => ?_⟩
 rcases Nat.lt_or_ge j ps.length with hlt | hge
 ·rw [List.getElem?_append_left hlt] at hj
  have hle : j * size + size ≤ cs.length := by rw [h.1, ← Nat.succ_mul]; exact Nat.mul_le_mul_right _ hlt
  rw [List.drop_append_of_le_length (by omega), List.take_append_of_le_length (by rw [List.length_drop]; omega)]
  exact h.2 j p hj
 ·rw [List.getElem?_append_right hge] at hj
  have h2 := h'.2 (j - ps.length) p hj
  have hle : ps.length * size ≤ j * size := Nat.mul_le_mul_right _ hge
  rw [List.drop_append, List.drop_eq_nil_of_le (by rw [h.1]; exact hle), List.nil_append, h.1, ← Nat.sub_mul]
  exact h2
section
variable {P : Program} {ops : Array Oper} {rest : List Oper} {o : Oper} {a : Act} {Q : Exit → Act → World → Prop} {α : Type}
theorem R_append_rows (d : Kd α) {Rr : α → List Value → Prop} {w0 W : World} (base : Nat) (hgd : o.guard = none) (s x : Operand) (t e : TypeId) (z : Value) (bytes : Nat)
  (ho : o.op = .call { callee := .builtin .append, args := #[s, x], argTypes := #[t, t] })
  (ht : P.underlying t = some (.slice e)) (hinfo : (P.info? e).map (fun i => (i.zero, i.size, i.bytes)) = some (some z, d.sz, bytes)) (hz : z.cells.size = d.sz) (hs0 : 0 < d.sz) (hb0 : 0 < bytes)
  (v : Value) (xs ys : List α) (A : Option Addr) (m c : Nat) (ok okp : Nat → Prop) (hs : a.eval s = v) (hx : a.eval x = .slice A m c)
  (HO : d.R e W base ok v xs) (HR : ReadsRow Rr d.sz W A m ys) (hKM : ∀ x cs, Rr x cs → d.M W base okp x cs) (hokp : ∀ k, okp k → ok k ∧ some k ≠ v.ownBlock) (hfresh : ∀ k, W.heap.size ≤ k → ok k)
  (HB : Below base w0 W) (hbase : base ≤ W.heap.size) (hl : (xs.length + m) * bytes ≤ 140737488355328)
  (h : ∀ v1 w1, d.R e w1 base ok v1 (xs ++ ys) → Below base w0 w1 → W.grownBy w1 v.ownBlock → (v1.ownBlock = v.ownBlock ∨ ∃ b, v1.ownBlock = some b ∧ W.heap.size ≤ b) → wpList P ops Q rest (a.put o.dst v1) w1) :
  wpList P ops Q (o :: rest) a W := by
 obtain ⟨i0, hi, hzz⟩ := Option.map_eq_some_iff.1 hinfo
 simp only [Prod.mk.injEq] at hzz
 obtain ⟨hz0, hz1, hz2⟩ := hzz
 have hm : ys.length = m := HR.1
 have hlen : xs.length + m ≤ 140737488355328 := Nat.le_trans (Nat.le_mul_of_pos_right _ hb0) hl
 obtain ⟨hok, inner, hown, hr⟩ := HO
 have hrun : ∃ v1 w1, (Builtin.append_ #[t, t] o.type #[v, .slice A m c]).run P W = .ok v1 w1 ∧ d.R e w1 base ok v1 (xs ++ ys) ∧ W.grownBy w1 v.ownBlock ∧ (v1.ownBlock = v.ownBlock ∨ ∃ b, v1.ownBlock = some b ∧ W.heap.size ≤ b) := by
  rcases A with _ | ad
  ·have h0 : m = 0 := by
    rcases Nat.eq_zero_or_pos m with h0 | h0
    ·exact h0
    ·obtain ⟨ad, h, _⟩ := HR.2.2 h0
     cases h
   subst h0
   obtain rfl : ys = [] := List.eq_nil_of_length_eq_zero hm
   refine ⟨v, W, ?_, by rw [List.append_nil]; exact ⟨hok, inner, hown, hr⟩, World.grownBy.refl W _, .inl rfl⟩
   rcases hown.2 with ⟨rfl, hn⟩ | ⟨g, cap, cur, rfl, _, _, hnc, _⟩
   ·simp [Builtin.append_, run_underlying ht, sizeOf, typeInfo, hi, Builtin.lenOf, Builtin.firstCells]
   ·simp [Builtin.append_, run_underlying ht, sizeOf, typeInfo, hi, Builtin.lenOf, Builtin.firstCells, hnc, storeCells]
  ·obtain ⟨news, hnr, hnc⟩ := ReadsRow.inner_ HR
   have hnM : Reps (d.M W base okp) d.sz ys news := hnr.imp_ (fun p c hp => hKM p c hp)
   have hone : ∀ u ∈ news, u.oneCell' = true := by
    intro u hu
    obtain ⟨q, hq, rfl⟩ := List.mem_iff_getElem.1 hu
    have hql : q / d.sz < ys.length := by
     rw [Nat.div_lt_iff_lt_mul hs0]
     rw [← hnM.1]
     exact hq
    have hc := hnM.2 (q / d.sz) _ (List.getElem?_eq_getElem hql)
    refine d.K_one (d.K_of_M hc) _ ?_
    rw [List.mem_iff_getElem?]
    refine ⟨q % d.sz, ?_⟩
    rw [List.getElem?_take, if_pos (Nat.mod_lt _ hs0), List.getElem?_drop, Nat.mul_comm, Nat.div_add_mod, List.getElem?_eq_getElem hq]
   obtain ⟨v1, w1, hrun, h2, hg, _, hat⟩ := run_append_own_at (P := P) W base t o.type e i0 z d.sz bytes ht hi hz0 hz1 hz2 hz hs0 v xs.length inner hown ad m c news (by rw [hnM.1, hm]) hnc hone (by simp only [maxLen]; omega) hl hbase
   have hat' : v1.ownBlock = v.ownBlock ∨ ∃ b, v1.ownBlock = some b ∧ W.heap.size ≤ b := by
    rcases hat with hat | hat
    ·exact .inl hat
    ·exact .inr ⟨_, hat, Nat.le_refl _⟩
   have hne : ∀ k, some k ≠ v.ownBlock → k < W.heap.size → some k ≠ v1.ownBlock := by
    intro k hk hlt
    rcases hat' with hat | ⟨b, hb, hle⟩
    ·rw [hat]; exact hk
    ·rw [hb]
     intro he
     injection he with he
     omega
   have step : ∀ {q : α} {c : List Value} {o : Nat → Prop}, d.M W base o q c → (∀ k, o k → ok k ∧ some k ≠ v.ownBlock) → d.M w1 base (fun k => ok k ∧ some k ≠ v1.ownBlock) q c := by
    intro q c o hq ho
    have h1 := d.M_move (w1 := w1) (fun k hk => hg.block k hk.2.2.1 (ho k hk.1).2) (d.M_bound hq)
    exact d.M_mono (fun k hk => ⟨(ho k hk.1).1, hne k (ho k hk.1).2 hk.2.2.1⟩) h1
   refine ⟨v1, w1, hrun, ⟨fun k hk => ?_, inner ++ news, by rw [List.length_append, hm]; exact h2, zn4 (hr.imp_ (fun _ _ hq => step hq (fun _ hk => hk))) (hnM.imp_ (fun _ _ hq => step hq hokp))⟩, hg, hat'⟩
   rcases hat' with hat | ⟨b, hb, hle⟩
   ·exact hok k (hat ▸ hk)
   ·rw [hb] at hk
    injection hk with hk
    exact hfresh k (by omega)
 obtain ⟨v1, w1, hr1, h1, hg, hat⟩ := hrun
 refine wpList_plain hgd fun K hK => ?_
 unfold Oper.wp execOp
 simp only [ho, resolve, invoke, builtin, Sem.run_bind, Sem.run_pure, Result.andThen_ok, List.map_toArray, List.map_cons, List.map_nil, hs, hx, hr1]
 exact hK _ _ (h v1 w1 h1 (HB.grown hg hbase (zm2 hown)) hg hat)
end
end Kd
namespace Kd
section
variable {P : Program} {ops : Array Oper} {rest : List Oper} {o : Oper} {a : Act} {Q : Exit → Act → World → Prop} {α : Type}
end
end Kd
theorem add_add (a : Addr) (i j : Nat) : (a.add i).add j = a.add (i + j) := by
 unfold Addr.add
 by_cases h1 : i = 0 <;> by_cases h2 : j = 0 <;> simp [h1, h2, Nat.add_assoc]
namespace Kd
section
variable {α : Type} {k : Kd α} {w : World} {A : Option Addr} {xs : List α} {m c : Nat}
theorem C_take (h : k.C w A xs.length xs) (hm : m ≤ xs.length) : k.C w A (xs.take m).length (xs.take m) := by
 have hl : (xs.take m).length = m := by rw [List.length_take]; omega
 refine ⟨rfl, by rw [hl]; have := h.2.1; omega, fun hp => ?_⟩
 obtain ⟨ad, e, hc⟩ := h.2.2 (by omega)
 refine ⟨ad, e, fun j p hj => hc j p ?_⟩
 rw [List.getElem?_take] at hj
 split at hj
 ·exact hj
 ·cases hj
end
end Kd
section
variable {P : Program}
end
theorem zt0 {w W : World} (h : Below w.heap.size w W) : w.heap.size ≤ W.heap.size := h.size
theorem z10 {w W w2 : World} (h : Below w.heap.size w W) (k : Below W.heap.size W w2) : Below w.heap.size w w2 := zv9 h h.size k
theorem zc0 {w W : World} {g j : Nat} {v : Value} (h : Below w.heap.size w W) (hg : w.heap.size ≤ g) : Below w.heap.size w (W.setCell ⟨g, j, none⟩ v) := h.setCell hg _
theorem zz1 {w : World} {g : Nat} {t : TypeId} {cs cs' : Array Value} (h : w.heap[g]? = some (.cells cs t (0, 0))) (i : Nat) (u : Value) (e : cs.setIfInBounds i u = cs') : (w.setCell ⟨g, i, none⟩ u).heap[g]? = some (.cells cs' t (0, 0)) := e ▸ zz0 h i u
theorem z50 {base : Nat} {w W : World} (h : Below base w W) : Below base w W.drew := h.drew
namespace Kd
section
variable {α β : Type} {d : Kd α} {d' : Kd β} {e e' base base' n : Nat} {ok ok' : Nat → Prop} {w W w1 W1 : World} {v u : Value} {xs : List α} {ys : List β} {A : Option Addr} {c : Nat}
end
section
variable {α : Type} {enc : α → Value} {h1 : ∀ x, (enc x).oneCell' = true} {w W : World} {A : Option Addr} {n g : Nat} {xs : List α}
end
end Kd
namespace Kd
section
variable {α : Type} {d : Kd α} {e base g : Nat} {ok : Nat → Prop} {w w1 : World} {v : Value} {xs : List α} {o : Obj}
end
end Kd
section
variable {P : Program} {ops : Array Oper} {rest : List Oper} {o : Oper} {a : Act} {Q : Exit → Act → World → Prop}
theorem z51 {W : World} (hgd : o.guard = none) {N : Tmp} (_hd : o.dst = some N) {cs : Array Value} {t : TypeId}
  (hrun : (execOp a.eval o).run P W = .ok (.value (.pointer (some ⟨W.heap.size, 0, none⟩))) (W.alloc (.cells cs t (0, 0))))
  (h : ∀ g, g = W.heap.size → ∀ w1, w1.heap[g]? = some (.cells cs t (0, 0)) → Below W.heap.size W w1 → wpList P ops Q rest (a.put o.dst (.pointer (some ⟨g, 0, none⟩))) w1) : wpList P ops Q (o :: rest) a W :=
 Kd.event_run hgd hrun (h _ rfl _ (blk_new W _) (z80 (Below.refl _ _) _))
theorem Kd.R_append_row {α : Type} (enc : α → Value) (d : α) {h1 : ∀ x : α, (enc x).oneCell' = true} {w0 W : World} (base : Nat) (hgd : o.guard = none) (s x : Operand) (t e : TypeId) (z : Value) (bytes : Nat)
  (ho : o.op = .call { callee := .builtin .append, args := #[s, x], argTypes := #[t, t] })
  (ht : P.underlying t = some (.slice e)) (hinfo : (P.info? e).map (fun i => (i.zero, i.size, i.bytes)) = some (some z, 1, bytes)) (hz : z.cells.size = 1) (hb0 : 0 < bytes)
  (v : Value) (xs ys : List α) (A : Option Addr) (m c : Nat) (ok : Nat → Prop) (hs : a.eval s = v) (hx : a.eval x = .slice A m c) (hfresh : ∀ k, W.heap.size ≤ k → ok k)
  (HO : (Kd.scalar enc h1).R e W base ok v xs) (HR : (Kd.scalar enc h1).C W A m ys) (HB : Below base w0 W) (hbase : base ≤ W.heap.size) (hl : (xs.length + m) * bytes ≤ 140737488355328)
  (h : ∀ v1 w1, (Kd.scalar enc h1).R e w1 base ok v1 (xs ++ ys) → Below base w0 w1 → W.grownBy w1 v.ownBlock → (v1.ownBlock = v.ownBlock ∨ ∃ b, v1.ownBlock = some b ∧ W.heap.size ≤ b) → wpList P ops Q rest (a.put o.dst v1) w1) :
  wpList P ops Q (o :: rest) a W := by
 refine z73 (w0 := w0) enc d base hgd s x t e z bytes ho ht hinfo hz hb0 h1 v xs ys A m c hs hx (Kd.own_of_R HO) (Kd.reads_of_C (d := d) HR) HB hbase hl ?_
 intro v1 w1 hown hb hg hat
 refine h v1 w1 (Kd.R_of_own hown (fun k hk => ?_)) hb hg hat
 rcases hat with e1 | ⟨b, e1, hbb⟩
 ·exact HO.1 k (by rw [← e1]; exact hk)
 ·rw [e1] at hk
  injection hk with hk
  subst hk
  exact hfresh _ hbb
end
namespace Kd
section
variable {α : Type} {enc : α → Value} {h1 : ∀ x, (enc x).oneCell' = true} {e base g n cap : Nat} {ok : Nat → Prop} {W : World} {xs : List α}
end
end Kd
section
variable {P : Program} {ops : Array Oper} {rest : List Oper} {o : Oper} {a : Act} {Q : Exit → Act → World → Prop}
theorem zg7 {W w1 : World} (hgd : o.guard = none) {t : TypeId} {p : Tmp} {v : Operand} (_ho : o.op = .store t (.tmp p) v) (hN : o.dst = none)
  (hrun : (execOp a.eval o).run P W = .ok .skip w1) (h : ∀ w', w' = w1 → wpList P ops Q rest a w') : wpList P ops Q (o :: rest) a W := by
 refine wpList_plain hgd fun K hK => ?_
 unfold Oper.wp
 rw [hrun]
 show K (a.put o.dst undef) w1
 rw [hN]
 exact hK _ _ (h _ rfl)
end
namespace Kd
section
variable {α : Type} {enc : α → Value} {h1 : ∀ x, (enc x).oneCell' = true} {e base g n cap : Nat} {ok : Nat → Prop} {W : World} {xs : List α}
end
end Kd
section
variable {P : Program} {ops : Array Oper} {rest : List Oper} {o : Oper} {a : Act} {Q : Exit → Act → World → Prop} {W : World}
theorem za1 {N : Tmp} (_hN : o.dst = some N) (h : wpList P ops Q (o :: rest) a W) : wpList P ops Q (o :: rest) a W := h
end
section
variable {P : Program} {ops : Array Oper} {o : Oper} {a : Act} {Q : Exit → Act → World → Prop} {Kc : Act → World → Prop}
namespace Kd
variable {α : Type}
end Kd
end
inductive Vals (P : Program) (tmps : Array Value) (w : World) : List ResultVar → List Value → Prop where
 | nil : Vals P tmps w [] []
 | tmp {u : Tmp} {rs : List ResultVar} {vs : List Value} (h : Vals P tmps w rs vs) : Vals P tmps w (.tmp u :: rs) (tmps.getD u undef :: vs)
 | cell {p : Tmp} {ty : TypeId} {rs : List ResultVar} {vs : List Value} (g : Nat) (t : TypeId) (cs : Array Value) (fr : Nat × Nat) (d : TypeDesc)
   (hp : tmps.getD p undef = .pointer (some ⟨g, 0, none⟩)) (hg : w.heap[g]? = some (.cells cs t fr))
   (hu : P.underlying ty = some d) (hd : (match d with | .struct _ | .array _ _ => true | _ => false) = true) (hi : (P.info? ty).map (·.size) = some cs.size)
   (h : Vals P tmps w rs vs) : Vals P tmps w (.cell p ty :: rs) (.agg cs :: vs)
section
variable {P : Program} {tmps : Array Value} {w : World}
end
namespace Kd
section
variable {P : Program} {α : Type}
theorem ze6 (d : Kd α) {W : World} (base : Nat) (t ty e : TypeId) (i : TypeInfo) (ht : P.underlying t = some (.slice e)) (hi : P.info? e = some i) (hsz : i.size = d.sz)
  {g n c k : Nat} {xs : List α} {ok : Nat → Prop} (HO : d.R e W base ok (.slice (some ⟨g, 0, none⟩) n c) xs) (hk : k < n) {A : Option Addr} (hA : A = if c = k + 1 then some ⟨g, 0, none⟩ else (some (⟨g, 0, none⟩ : Addr)).map (·.add ((k + 1) * d.sz))) (c2 : Nat) :
  ∃ w1, (Builtin.append_ #[t, t] ty #[.slice (some ⟨g, 0, none⟩) k c, .slice A (n - (k + 1)) c2]).run P W = .ok (.slice (some ⟨g, 0, none⟩) (n - 1) c) w1 ∧ d.R e w1 base ok (.slice (some ⟨g, 0, none⟩) (n - 1) c) (xs.eraseIdx k) ∧ W.grownBy w1 (some g) := by
 obtain ⟨hn, hnc, _⟩ := R_reads' HO
 obtain ⟨hok, inner, hown, hr⟩ := HO
 have hin : inner.length = n * d.sz := by rw [hr.1, hn]
 rcases hown.2 with ⟨hv, _⟩ | ⟨g', cap', cur, hv, hb, hh, _, hcm, hcs, htake⟩
 ·cases hv
 injection hv with ha _ hc
 injection ha with ha
 injection ha with hg
 subst hg; subst hc
 rw [← hn] at htake
 obtain ⟨news, hnews⟩ : ∃ news, news = inner.drop ((k + 1) * d.sz) := ⟨_, rfl⟩
 have hnl : news.length = (n - (k + 1)) * d.sz := by rw [hnews, List.length_drop, hin, Nat.sub_mul]
 have hle : (k + 1) * d.sz ≤ n * d.sz := Nat.mul_le_mul_right _ hk
 have hks : (k + 1) * d.sz = k * d.sz + d.sz := Nat.succ_mul _ _
 have hnc' : n * d.sz ≤ c * d.sz := Nat.mul_le_mul_right _ hnc
 have hsub : (n - (k + 1)) * d.sz = n * d.sz - (k + 1) * d.sz := Nat.sub_mul _ _ _
 have hcur : ∀ q, q < n * d.sz → cur.toList[q]? = inner[q]? := by
  intro q hq
  rw [← htake, List.getElem?_take, if_pos hq]
 obtain ⟨a, rfl, hcell⟩ : ∃ a, A = some a ∧ ∀ j u, news[j]? = some u → W.cell? (a.add j) = some u := by
  by_cases hck : c = k + 1
  ·rw [if_pos hck] at hA
   refine ⟨_, hA, fun j u hu => ?_⟩
   have h0 : news = [] := List.eq_nil_of_length_eq_zero (by rw [hnl, show n - (k + 1) = 0 by omega, Nat.zero_mul])
   rw [h0] at hu
   simp at hu
  ·rw [if_neg hck, Option.map_some] at hA
   refine ⟨_, hA, fun j u hu => ?_⟩
   have hj : j < news.length := (List.getElem?_eq_some_iff.1 hu).1
   rw [add_add, add_at, cell_of_row W g _ cur e (0, 0) hh, ← Array.getElem?_toList]
   rw [hnews, List.getElem?_drop] at hu
   rw [← hu, Nat.zero_add]
   exact hcur _ (by omega)
 have hone : ∀ u ∈ news, u.oneCell' = true := by
  intro u hu
  have hu' : u ∈ inner := by rw [hnews] at hu; exact List.mem_of_mem_drop hu
  obtain ⟨q, hq, rfl⟩ := List.mem_iff_getElem.1 hu'
  have hs0 : 0 < d.sz := by
   rcases Nat.eq_zero_or_pos d.sz with h | h
   ·rw [h, Nat.mul_zero] at hin; omega
   ·exact h
  have hql : q / d.sz < xs.length := by
   rw [Nat.div_lt_iff_lt_mul hs0, ← hr.1]
   exact hq
  refine d.K_one (d.K_of_M (hr.2 (q / d.sz) _ (List.getElem?_eq_getElem hql))) _ ?_
  rw [List.mem_iff_getElem?]
  refine ⟨q % d.sz, ?_⟩
  rw [List.getElem?_take, if_pos (Nat.mod_lt _ hs0), List.getElem?_drop, Nat.mul_comm, Nat.div_add_mod, List.getElem?_eq_getElem hq]
 have hfit : 0 + k * d.sz + news.length ≤ cur.size := by omega
 have hrun := run_append_room_cells (P := P) (w := W) t ty e i ht hi g 0 k c a (n - (k + 1)) c2 news (by rw [hnl, hsz]) hcell hone (by omega)
  (fun j hj => by rw [hsz, cell_of_row W g _ cur e (0, 0) hh]; simp; omega) (fun j _ => z40 hh _)
 rw [hsz, show k + (n - (k + 1)) = n - 1 by omega] at hrun
 obtain ⟨cur', h3, h4, h5⟩ := zy2 news (0 + k * d.sz) W cur hh hfit
 obtain ⟨s1, s2, s3, s4⟩ := zn2 g news (0 + k * d.sz) W
 have hfar : ∀ k', k' ≠ g → (W.setCells g (0 + k * d.sz) news).heap[k']? = W.heap[k']? := fun k' hk' => z23 news _ k' hk'
 have hgo : ∀ m, some g = (Value.slice (some ⟨g, 0, none⟩) m c).ownBlock := fun m => by simp [Value.ownBlock]
 have hel : (xs.eraseIdx k).length = n - 1 := by rw [List.length_eraseIdx_of_lt (by omega), hn]
 refine ⟨_, hrun, ⟨fun k' hk' => hok k' (by rw [← hgo] at hk' ⊢; exact hk'), inner.take (k * d.sz) ++ news, ⟨?_, .inr ⟨g, c, cur', by rw [hel], hb, h3, by rw [hel]; omega, hcm, by rw [h4, hcs], ?_⟩⟩, ?_⟩, ⟨s1, s2, s3, by rw [s4]; exact Nat.le_refl _, fun k' _ hk' => hfar k' (fun he => hk' (by rw [he]))⟩⟩
 ·rw [List.length_append, List.length_take, hnl, hel]
  have : (n - 1) * d.sz = n * d.sz - d.sz := by rw [Nat.sub_mul, Nat.one_mul]
  omega
 ·rw [hel, h5, Nat.zero_add]
  have h6 : (n - 1) * d.sz = n * d.sz - d.sz := by rw [Nat.sub_mul, Nat.one_mul]
  have h7 : cur.toList.take (k * d.sz) = inner.take (k * d.sz) := by
   rw [← htake, List.take_take, Nat.min_eq_left (by omega)]
  rw [h7]
  exact List.take_left' (by rw [List.length_append, List.length_take, hnl]; omega)
 ·rw [List.eraseIdx_eq_take_drop_succ]
  have hmv : ∀ p q, d.M W base (fun k' => ok k' ∧ some k' ≠ (Value.slice (some ⟨g, 0, none⟩) n c).ownBlock) p q → d.M (W.setCells g (0 + k * d.sz) news) base (fun k' => ok k' ∧ some k' ≠ (Value.slice (some ⟨g, 0, none⟩) (n - 1) c).ownBlock) p q := fun p q hp =>
   d.M_mono (fun k' hk' => ⟨hk'.1, by rw [← hgo]; rw [← hgo] at hk'; exact hk'.2⟩) (d.M_move (fun k' hk' => hfar k' (fun he => hk'.2 (by rw [← hgo, he]))) hp)
  subst hnews
  exact zn4 ((zn6 hr (by omega)).imp_ hmv) ((z9c hr).imp_ hmv)
end
section
variable {P : Program} {ops : Array Oper} {rest : List Oper} {o : Oper} {a : Act} {Q : Exit → Act → World → Prop} {Kc : Act → World → Prop} {α : Type}
theorem R_delete_step (d : Kd α) {w0 W : World} (base : Nat) (hw : Region.wanted o (yielded ops a.tmps) = true) (s x : Operand) (t e : TypeId) (ho : o.op = .call { callee := .builtin .append, args := #[s, x], argTypes := #[t, t] })
  (ht : P.underlying t = some (.slice e)) (hinfo : (P.info? e).map (·.size) = some d.sz) {g n c k m c2 : Nat} {A : Option Addr} {xs : List α} {ok : Nat → Prop}
  (hs : a.eval s = .slice (some ⟨g, 0, none⟩) k c) (hx : a.eval x = .slice A m c2) (hA : A = if c = k + 1 then some ⟨g, 0, none⟩ else (some (⟨g, 0, none⟩ : Addr)).map (·.add ((k + 1) * d.sz))) (hm : m = n - (k + 1))
  (HO : d.R e W base ok (.slice (some ⟨g, 0, none⟩) n c) xs) (hk : k < n) (HB : Below base w0 W) (hbase : base ≤ W.heap.size)
  (h : ∀ w1, d.R e w1 base ok (.slice (some ⟨g, 0, none⟩) (n - 1) c) (xs.eraseIdx k) → Below base w0 w1 → W.grownBy w1 (some g) → Kc (a.put o.dst (.slice (some ⟨g, 0, none⟩) (n - 1) c)) w1) :
  if Region.wanted o (yielded ops a.tmps) = true then Oper.wp P o a W Kc Q else Kc (a.put o.dst undef) W := by
 obtain ⟨i0, hi, hsz⟩ := Option.map_eq_some_iff.1 hinfo
 subst hm
 obtain ⟨w1, hr, h1, h2⟩ := ze6 (P := P) d base t o.type e i0 ht hi hsz HO hk hA c2
 rw [if_pos hw]
 unfold Oper.wp execOp
 simp only [ho, resolve, invoke, builtin, Sem.run_bind, Sem.run_pure, Result.andThen_ok, List.map_toArray, List.map_cons, List.map_nil, hs, hx, hr]
 exact h w1 h1 (HB.grown h2 hbase (fun k hk => by injection hk with hk; subst hk; exact R_base HO _ (by simp [Value.ownBlock]))) h2
end
end Kd
end
end Go.Proofs.YtmlmiocomlehgaaGreatW.PrintWords
end
section
namespace Go.Proofs.YtmlmiocomlehgaaGreatW.PrintLast
section
variable {P : Program} {ops : Array Oper} {Q : Exit → Act → World → Prop} {md : Region.Mode} {S : World → Prop} {ds : List Nat}
def Region.reachB (md : Region.Mode) (ops : Array Oper) (i : Nat) : Nat → Nat → Bool
 | 0, _ => false
 | fuel + 1, d => match ops[d]? with
  | some o => o.after.any fun e => Region.binds md e && (e.on == i || Region.reachB md ops i fuel e.on)
  | none => false
def Region.closedB (md : Region.Mode) (ops : Array Oper) (listed : Array Bool) : Bool :=
 (List.range ops.size).all fun j => !listed.getD j false || match ops[j]? with
  | some o => o.after.all fun e => !Region.binds md e || listed.getD e.on false
  | none => true
def Region.lastB (md : Region.Mode) (ops : Array Oper) (listed : Array Bool) (ds : List Nat) (i : Nat) : Bool :=
 ds.all fun d => listed.getD d true || Region.reachB md ops i ops.size d
def ListedClosed (md : Region.Mode) (ops : Array Oper) (listed : Array Bool) : Prop :=
 ∀ j oj, ops[j]? = some oj → listed.getD j false = true → ∀ e ∈ oj.after, Region.binds md e = true → listed.getD e.on false = true
theorem Region.closedB_spec {listed : Array Bool} (h : Region.closedB md ops listed = true) : ListedClosed md ops listed := by
 intro j oj hj hl e he hb
 have hlt : j < ops.size := (Array.getElem?_eq_some_iff.1 hj).1
 have h1 := List.all_eq_true.1 h j (List.mem_range.2 hlt)
 simp only [hl, hj, Bool.not_true, Bool.false_or] at h1
 have h2 := Array.all_eq_true_iff_forall_mem.1 h1 e he
 simpa [hb] using h2
theorem ListedClosed.set {listed : Array Bool} {i : Nat} (h : ListedClosed md ops listed) (hi : i ∈ Region.ready md ops listed) : ListedClosed md ops (listed.setIfInBounds i true) := by
 obtain ⟨_, oi, hoi, hall⟩ := mem_ready.1 hi
 intro j oj hj hl e he hb
 by_cases hij : i = j
 ·subst hij
  have : oj = oi := Option.some.inj (hj.symm.trans hoi)
  subst this
  exact getD_set_true (hall e he hb)
 ·rw [getD_set_ne false hij] at hl
  exact getD_set_true (h j oj hj hl e he hb)
theorem Region.reach_listed {listed : Array Bool} {i : Nat} (hc : ListedClosed md ops listed) : ∀ (fuel d : Nat), Region.reachB md ops i fuel d = true → listed.getD d false = true → listed.getD i false = true
 | 0, _, h, _ => by simp [Region.reachB] at h
 | fuel + 1, d, h, hl => by
  unfold Region.reachB at h
  cases ho : ops[d]? with
  | none => rw [ho] at h; simp at h
  | some o =>
   rw [ho] at h
   obtain ⟨e, he, h1⟩ := Array.any_eq_true'.1 h
   simp only [Bool.and_eq_true, Bool.or_eq_true, beq_iff_eq] at h1
   have hle := hc d o ho hl e he h1.1
   rcases h1.2 with h2 | h2
   ·rw [← h2]; exact hle
   ·exact Region.reach_listed hc fuel e.on h2 hle
theorem Region.reach_not_ready {listed : Array Bool} {i d fuel : Nat} (hc : ListedClosed md ops listed) (hr : Region.reachB md ops i fuel d = true) (hun : listed.getD i true = false) : d ∉ Region.ready md ops listed := by
 intro hd
 obtain ⟨_, o, ho, hall⟩ := mem_ready.1 hd
 have hi : listed.getD i false = true := by
  cases fuel with
  | zero => simp [Region.reachB] at hr
  | succ n =>
   unfold Region.reachB at hr
   rw [ho] at hr
   obtain ⟨e, he, h1⟩ := Array.any_eq_true'.1 hr
   simp only [Bool.and_eq_true, Bool.or_eq_true, beq_iff_eq] at h1
   have hle := hall e he h1.1
   rcases h1.2 with h2 | h2
   ·rw [← h2]; exact hle
   ·exact Region.reach_listed hc n e.on h2 hle
 rcases Nat.lt_or_ge i listed.size with h' | h'
 ·simp [h'] at hun hi
  rw [hun] at hi
  cases hi
 ·simp [Array.getElem?_eq_none h'] at hun
def wpAnyLast (P : Program) (md : Region.Mode) (ops : Array Oper) (Q : Exit → Act → World → Prop) (S : World → Prop) (ds : List Nat) : Nat → Array Bool → Act → World → Prop
 | 0, listed, a, w => Region.ready md ops listed = [] ∧ Q .normal a w
 | fuel + 1, listed, a, w =>
  (Region.ready md ops listed = [] → Q .normal a w) ∧
  ∀ i ∈ Region.ready md ops listed, wpOp P ops Q i (fun a' w' => (i ∉ ds → S w → S w') ∧ wpAnyLast P md ops Q S ds fuel (listed.setIfInBounds i true) a' w') a w
theorem zk3 : ∀ (fuel : Nat) (listed : Array Bool) (a : Act) (w : World), wpAnyLast P md ops Q S ds fuel listed a w → wpAny P md ops Q fuel listed a w
 | 0, _, _, _, h => h
 | fuel + 1, _, _, _, h => ⟨h.1, fun i hi => wpOp_mono (fun a' w' h' => zk3 fuel _ a' w' h'.2) (h.2 i hi)⟩
theorem z05 {i : Nat} {oi : Oper} {v : Value} (hi : ops[i]? = some oi) (hsel : ∀ (j : Nat) (o : Oper) cs b, ops[j]? = some o → o.op ≠ .select cs b)
  (hQ : ∀ c a w, Q (.panic c) (a.put oi.dst v) w → Q (.panic c) a w) (n : Nat) :
  ∀ (fuel : Nat) (listed : Array Bool) (a : Act) (w : World),
   (∀ j oj, ops[j]? = some oj → j ≠ i → listed.getD j true = false → (∀ e ∈ oj.after, Region.binds md e = true → e.on ≠ i) → oi.apart ops oj = true) →
   ListedClosed md ops listed → (∀ d ∈ ds, listed.getD d true = false → Region.reachB md ops i n d = true) →
   i ∈ Region.ready md ops listed → YieldsIf P ops S oi v a → S w →
   wpAnyLast P md ops Q S ds fuel (listed.setIfInBounds i true) (a.put oi.dst v) w → wpAnyLast P md ops Q S ds (fuel + 1) listed a w := by
 intro fuel
 induction fuel with
 | zero =>
  intro listed a w _ _ _ hr hy hS H
  refine ⟨fun h => (by rw [h] at hr; cases hr), fun j hj => ?_⟩
  by_cases hji : j = i
  ·subst hji; exact hy.wpOp hi hS ⟨fun _ h => h, H⟩
  ·have := ready_mono hj hji
   rw [H.1] at this
   cases this
 | succ fuel ih =>
  intro listed a w hfree hc hd hr hy hS H
  refine ⟨fun h => (by rw [h] at hr; cases hr), fun j hj => ?_⟩
  by_cases hji : j = i
  ·subst hji; exact hy.wpOp hi hS ⟨fun _ h => h, H⟩
  ·have h1 := H.2 j (ready_mono hj hji)
   obtain ⟨hjun, oj, hoj, hall⟩ := mem_ready.1 hj
   have hiun := (mem_ready.1 hr).1
   have hnot : ∀ e ∈ oj.after, Region.binds md e = true → e.on ≠ i := fun e he hb heq => by
    have h1 := hall e he hb
    rw [heq] at h1
    rcases Nat.lt_or_ge i listed.size with h' | h'
    ·simp [h'] at hiun h1; rw [hiun] at h1; cases h1
    ·simp [Array.getElem?_eq_none h'] at h1
   have hjd : j ∉ ds := fun hm => Region.reach_not_ready hc (hd j hm hjun) hiun hj
   have h2 := wpOp_putIf hoj (hfree j oj hoj hji hjun hnot) (fun cs b => hsel i oi cs b hi) (fun cs b => hsel j oj cs b hoj) hQ hy h1
   have hfree' : ∀ k ok, ops[k]? = some ok → k ≠ i → (listed.setIfInBounds j true).getD k true = false →
     (∀ e ∈ ok.after, Region.binds md e = true → e.on ≠ i) → oi.apart ops ok = true := fun k ok hk hki hun hno => by
    refine hfree k ok hk hki ?_ hno
    by_cases hjk : j = k
    ·subst hjk; exact hjun
    ·rw [getD_set_ne true hjk] at hun; exact hun
   have hd' : ∀ d ∈ ds, (listed.setIfInBounds j true).getD d true = false → Region.reachB md ops i n d = true := fun d hm hun => by
    refine hd d hm ?_
    by_cases hjk : j = d
    ·subst hjk; exact hjun
    ·rw [getD_set_ne true hjk] at hun; exact hun
   refine wpOp_mono (fun a' w' h3 => ⟨h3.2.1, ih (listed.setIfInBounds j true) a' w' hfree' (hc.set hj) hd' (ready_mono hr (Ne.symm hji)) h3.1 (h3.2.1 hjd hS) ?_⟩) h2
   rw [Array.setIfInBounds_comm _ _ hji]
   exact h3.2.2
theorem z96 {i : Nat} {oi : Oper} {v : Value} (hi : ops[i]? = some oi) (hsel : ∀ (j : Nat) (o : Oper) cs b, ops[j]? = some o → o.op ≠ .select cs b)
  (hQ : ∀ c a w, Q (.panic c) (a.put oi.dst v) w → Q (.panic c) a w) :
  ∀ (fuel : Nat) (listed : Array Bool) (a : Act) (w : World),
   (∀ j oj, ops[j]? = some oj → j ≠ i → listed.getD j true = false → (∀ e ∈ oj.after, Region.binds md e = true → e.on ≠ i) → oi.apart ops oj = true) →
   i ∈ Region.ready md ops listed → Yields P ops oi v a →
   wpAnyLast P md ops Q S ds fuel (listed.setIfInBounds i true) (a.put oi.dst v) w → wpAnyLast P md ops Q S ds (fuel + 1) listed a w := by
 intro fuel
 induction fuel with
 | zero =>
  intro listed a w _ hr hy H
  refine ⟨fun h => (by rw [h] at hr; cases hr), fun j hj => ?_⟩
  by_cases hji : j = i
  ·subst hji; exact (hy.yieldsIf (S := fun _ => True)).wpOp hi trivial ⟨fun _ h => h, H⟩
  ·have := ready_mono hj hji
   rw [H.1] at this
   cases this
 | succ fuel ih =>
  intro listed a w hfree hr hy H
  refine ⟨fun h => (by rw [h] at hr; cases hr), fun j hj => ?_⟩
  by_cases hji : j = i
  ·subst hji; exact (hy.yieldsIf (S := fun _ => True)).wpOp hi trivial ⟨fun _ h => h, H⟩
  ·have h1 := H.2 j (ready_mono hj hji)
   obtain ⟨hjun, oj, hoj, hall⟩ := mem_ready.1 hj
   have hiun := (mem_ready.1 hr).1
   have hnot : ∀ e ∈ oj.after, Region.binds md e = true → e.on ≠ i := fun e he hb heq => by
    have h1 := hall e he hb
    rw [heq] at h1
    rcases Nat.lt_or_ge i listed.size with h' | h'
    ·simp [h'] at hiun h1; rw [hiun] at h1; cases h1
    ·simp [Array.getElem?_eq_none h'] at h1
   have h2 := wpOp_put hoj (hfree j oj hoj hji hjun hnot) (fun cs b => hsel i oi cs b hi) (fun cs b => hsel j oj cs b hoj) hQ hy h1
   have hfree' : ∀ k ok, ops[k]? = some ok → k ≠ i → (listed.setIfInBounds j true).getD k true = false →
     (∀ e ∈ ok.after, Region.binds md e = true → e.on ≠ i) → oi.apart ops ok = true := fun k ok hk hki hun hno => by
    refine hfree k ok hk hki ?_ hno
    by_cases hjk : j = k
    ·subst hjk; exact hjun
    ·rw [getD_set_ne true hjk] at hun; exact hun
   refine wpOp_mono (fun a' w' h3 => ⟨h3.2.1, ih (listed.setIfInBounds j true) a' w' hfree' (ready_mono hr (Ne.symm hji)) h3.1 ?_⟩) h2
   rw [Array.setIfInBounds_comm _ _ hji]
   exact h3.2.2
theorem z95 {i : Nat} {oi : Oper} {v : Value} {fuel : Nat} {listed : Array Bool} {a : Act} {w : World} (hi : ops[i]? = some oi)
  (hs : Region.noSelect ops = true) (hf : Region.free md ops listed i = true) (hr : (Region.ready md ops listed).contains i = true)
  (hc : Region.closedB md ops listed = true) (hl : Region.lastB md ops listed ds i = true)
  (hQ : ∀ c a w, Q (.panic c) (a.put oi.dst v) w → Q (.panic c) a w) (hy : YieldsIf P ops S oi v a) (hS : S w)
  (h : wpAnyLast P md ops Q S ds fuel (listed.setIfInBounds i true) (a.put oi.dst v) w) : wpAnyLast P md ops Q S ds (fuel + 1) listed a w :=
 z05 hi (Region.noSelect_spec hs) hQ ops.size fuel listed a w (Region.free_spec hi hf) (Region.closedB_spec hc)
  (fun d hm hun => by have := List.all_eq_true.1 hl d hm; rw [hun] at this; simpa using this) (by simpa using hr) hy hS h
theorem zn5 {rs : List Nat} {fuel : Nat} {listed : Array Bool} {a : Act} {w : World} (hr : Region.ready md ops listed = rs) (hne : rs ≠ [])
  (h : ∀ i ∈ rs, wpOp P ops Q i (fun a' w' => (i ∉ ds → S w → S w') ∧ wpAnyLast P md ops Q S ds fuel (listed.setIfInBounds i true) a' w') a w) : wpAnyLast P md ops Q S ds (fuel + 1) listed a w :=
 ⟨fun h0 => absurd (hr ▸ h0) hne, hr ▸ h⟩
theorem z75 {listed : Array Bool} {a : Act} {w : World} (hr : Region.ready md ops listed = []) (h : Q .normal a w) :
  ∀ fuel, wpAnyLast P md ops Q S ds fuel listed a w
 | 0 => ⟨hr, h⟩
 | _ + 1 => ⟨fun _ => h, by rw [hr]; simp⟩
theorem zc5 {id : Nat} {a : Act} {w : World} (hm : P.follows .mixedOrders = true)
  (h : wpAnyLast P .any ops Q S ds ops.size (Array.replicate ops.size false) a { w with drawn := w.drawn + 1 }) : (Code.region id ops true).wp P Q a w :=
 wp_region_any hm (zk3 _ _ _ _ h)
end
section
variable {P : Program} {ops : Array Oper} {Q : Exit → Act → World → Prop} {md : Region.Mode} {S : World → Prop} {ds : List Nat}
def AllReadyL (P : Program) (md : Region.Mode) (ops : Array Oper) (Q : Exit → Act → World → Prop) (S : World → Prop) (ds : List Nat) (fuel : Nat) (listed : Array Bool) (a : Act) (w : World) (rs : List Nat) : Prop :=
 ∀ i ∈ rs, wpOp P ops Q i (fun a' w' => (i ∉ ds → S w → S w') ∧ wpAnyLast P md ops Q S ds fuel (listed.setIfInBounds i true) a' w') a w
theorem AllReadyL.nil {fuel : Nat} {listed : Array Bool} {a : Act} {w : World} : AllReadyL P md ops Q S ds fuel listed a w [] := fun _ h => by cases h
theorem AllReadyL.cons {fuel : Nat} {listed : Array Bool} {a : Act} {w : World} {i : Nat} {o : Oper} {rs : List Nat} (ho : ops[i]? = some o) (hd : i ∉ ds)
  (h : ∀ K' : Act → World → Prop, Shut (∀ a w, S w → (S w → wpAnyLast P md ops Q S ds fuel (listed.setIfInBounds i true) a w) → K' a w) → if Region.wanted o (yielded ops a.tmps) = true then Oper.wp P o a w K' Q else K' (a.put o.dst undef) w)
  (hs : AllReadyL P md ops Q S ds fuel listed a w rs) : AllReadyL P md ops Q S ds fuel listed a w (i :: rs) := fun j hj => by
 rcases List.mem_cons.1 hj with rfl | hj
 ·exact wpOp_step ho (fun K' hK => h K' (fun a w hS hW => hK a w ⟨fun _ _ => hS, hW hS⟩))
 ·exact hs j hj
theorem AllReadyL.cons_last {fuel : Nat} {listed : Array Bool} {a : Act} {w : World} {i : Nat} {o : Oper} {rs : List Nat} (ho : ops[i]? = some o) (hd : i ∈ ds)
  (h : ∀ K' : Act → World → Prop, Shut (∀ a w, wpAnyLast P md ops Q S ds fuel (listed.setIfInBounds i true) a w → K' a w) → if Region.wanted o (yielded ops a.tmps) = true then Oper.wp P o a w K' Q else K' (a.put o.dst undef) w)
  (hs : AllReadyL P md ops Q S ds fuel listed a w rs) : AllReadyL P md ops Q S ds fuel listed a w (i :: rs) := fun j hj => by
 rcases List.mem_cons.1 hj with rfl | hj
 ·exact wpOp_step ho (fun K' hK => h K' (fun a w hW => hK a w ⟨fun hn => absurd hd hn, hW⟩))
 ·exact hs j hj
theorem zz2 {rs : List Nat} {fuel : Nat} {listed : Array Bool} {a : Act} {w : World} (hr : Region.ready md ops listed = rs) (hne : rs ≠ [])
  (h : AllReadyL P md ops Q S ds fuel listed a w rs) : wpAnyLast P md ops Q S ds (fuel + 1) listed a w := zn5 hr hne h
theorem zy1 {id n : Nat} {a : Act} {w : World} (l : Array Bool) (hm : P.follows .mixedOrders = true) (hn : ops.size = n) (hl : Array.replicate n false = l) (hS : S w.drew)
  (h : S w.drew → wpAnyLast P .any ops Q S ds n l a w.drew) : (Code.region id ops true).wp P Q a w := by
 subst hn
 subst hl
 exact zc5 hm (h hS)
def takeB (md : Region.Mode) (ops : Array Oper) (ds : List Nat) (l l' : Array Bool) (i : Nat) : Bool :=
 Region.noSelect ops && Region.free md ops l i && (Region.ready md ops l).contains i && Region.closedB md ops l && Region.lastB md ops l ds i && (l.setIfInBounds i true == l')
theorem take_ {i : Nat} {N : Option Tmp} {oi : Oper} {v : Value} {fuel : Nat} {l : Array Bool} {a : Act} {w : World} (l' : Array Bool) (hi : ops[i]? = some oi) (hN : oi.dst = N) (hc : takeB md ops ds l l' i = true)
  (hQ : ∀ c a w, Q (.panic c) (a.put oi.dst v) w → Q (.panic c) a w) (hy : YieldsIf P ops S oi v a) (hS : S w) {a' : Act} (ha : a.put N v = a')
  (h : wpAnyLast P md ops Q S ds fuel l' a' w) : wpAnyLast P md ops Q S ds (fuel + 1) l a w := by
 subst ha
 subst hN
 simp only [takeB, Bool.and_eq_true, beq_iff_eq] at hc
 obtain ⟨⟨⟨⟨⟨h1, h2⟩, h3⟩, h4⟩, h5⟩, h6⟩ := hc
 subst h6
 exact z95 hi h1 h2 h3 h4 h5 hQ hy hS h
def anyB (md : Region.Mode) (ops : Array Oper) (l l' : Array Bool) (i : Nat) : Bool :=
 Region.noSelect ops && Region.free md ops l i && (Region.ready md ops l).contains i && (l.setIfInBounds i true == l')
theorem zl0 {i : Nat} {N : Option Tmp} {oi : Oper} {v : Value} {fuel : Nat} {l : Array Bool} {a : Act} {w : World} (l' : Array Bool) (hi : ops[i]? = some oi) (hN : oi.dst = N) (hc : anyB md ops l l' i = true)
  (hQ : ∀ c a w, Q (.panic c) (a.put oi.dst v) w → Q (.panic c) a w) (hy : Yields P ops oi v a) {a' : Act} (ha : a.put N v = a')
  (h : wpAnyLast P md ops Q S ds fuel l' a' w) : wpAnyLast P md ops Q S ds (fuel + 1) l a w := by
 subst ha
 subst hN
 simp only [anyB, Bool.and_eq_true, beq_iff_eq] at hc
 obtain ⟨⟨⟨h1, h2⟩, h3⟩, h6⟩ := hc
 subst h6
 exact z96 hi (Region.noSelect_spec h1) hQ fuel l a w (Region.free_spec hi h2) (by simpa using h3) hy h
def readyB (md : Region.Mode) (ops : Array Oper) (l l' : Array Bool) (i : Nat) : Bool := (Region.ready md ops l == [i]) && (l.setIfInBounds i true == l')
theorem zx2 {i : Nat} {N : Option Tmp} {oi : Oper} {fuel : Nat} {l : Array Bool} {a : Act} {w : World} (l' : Array Bool) (hi : ops[i]? = some oi) (hN : oi.dst = N) (hc : readyB md ops l l' i = true) (hd : i ∉ ds)
  (h : ∀ K : Act → World → Prop, Shut (∀ a' w', S w' → (S w' → wpAnyLast P md ops Q S ds fuel l' a' w') → K a' w') → if Region.wanted oi (yielded ops a.tmps) = true then Oper.wp P oi a w K Q else K (a.put N undef) w) :
  wpAnyLast P md ops Q S ds (fuel + 1) l a w := by
 subst hN
 simp only [readyB, Bool.and_eq_true, beq_iff_eq] at hc
 obtain ⟨h1, h2⟩ := hc
 subst h2
 exact zz2 h1 (by simp) (AllReadyL.cons hi hd (fun K hK => h K hK) AllReadyL.nil)
theorem z85 {i : Nat} {N : Option Tmp} {oi : Oper} {fuel : Nat} {l : Array Bool} {a : Act} {w : World} (l' : Array Bool) (hi : ops[i]? = some oi) (hN : oi.dst = N) (hc : readyB md ops l l' i = true) (hd : i ∈ ds)
  (h : ∀ K : Act → World → Prop, Shut (∀ a' w', wpAnyLast P md ops Q S ds fuel l' a' w' → K a' w') → if Region.wanted oi (yielded ops a.tmps) = true then Oper.wp P oi a w K Q else K (a.put N undef) w) :
  wpAnyLast P md ops Q S ds (fuel + 1) l a w := by
 subst hN
 simp only [readyB, Bool.and_eq_true, beq_iff_eq] at hc
 obtain ⟨h1, h2⟩ := hc
 subst h2
 exact zz2 h1 (by simp) (AllReadyL.cons_last hi hd (fun K hK => h K hK) AllReadyL.nil)
theorem zr2 {l : Array Bool} {a : Act} {w : World} {n : Nat} (hr : (Region.ready md ops l == []) = true) (h : Q .normal a w) : wpAnyLast P md ops Q S ds n l a w := z75 (by simpa using hr) h n
def putAll : Act → List (Tmp × Value) → Act
 | a, [] => a
 | a, (n, v) :: r => putAll (a.put (some n) v) r
theorem zh1 {fuel : Nat} {l : Array Bool} {a a' : Act} {w : World} (ha : a = a') (h : wpAnyLast P md ops Q S ds fuel l a' w) : wpAnyLast P md ops Q S ds fuel l a w := by
 subst ha
 exact h
theorem call_ {oi : Oper} {N : Option Tmp} {a : Act} {w : World} {K : Act → World → Prop} (f : FuncId) (args : Array Value) (hw : Region.wanted oi (yielded ops a.tmps) = true) (hN : oi.dst = N) (hrun : (execOp a.eval oi).run P w = .ok (.enter f args) w)
  (h : Calls P f args w fun e w' => ∃ v, e = .returned v ∧ K (a.put N v) w') : if Region.wanted oi (yielded ops a.tmps) = true then Oper.wp P oi a w K Q else K (a.put N undef) w := by
 rw [if_pos hw]
 subst hN
 unfold Oper.wp
 rw [hrun, Oper.upon_enter]
 refine h.mono fun e w'' hh => ?_
 obtain ⟨v, rfl, hk⟩ := hh
 exact hk
theorem zja {f : FuncId} {fn : Func} (hf : P.funcs[f]? = some fn) (hname : (fn.name == "runtime.NumGoroutine") = false) (hb : fn.body.isSome = true) (args : Array Value) (w : World) : (callFunc f args).run P w = .ok (.enter f args) w := by
 have h1 : fn.name ≠ "runtime.NumGoroutine" := by simpa using hname
 obtain ⟨c, hc⟩ := Option.isSome_iff_exists.1 hb
 simp [callFunc, hf, h1, hc]
theorem z02 {oi : Oper} {N : Option Tmp} {a : Act} {w : World} {K : Act → World → Prop} {f : FuncId} {fn : Func} {as_ : Array Operand} {ts : Array TypeId} (hf : P.funcs[f]? = some fn) (hname : (fn.name == "runtime.NumGoroutine") = false) (hb : fn.body.isSome = true) (args : Array Value)
  (hw : Region.wanted oi (yielded ops a.tmps) = true) (hN : oi.dst = N) (hop : oi.op = .call { callee := .value (.func f), args := as_, argTypes := ts }) (hargs : as_.map a.eval = args)
  (h : Calls P f args w fun e w' => ∃ v, e = .returned v ∧ K (a.put N v) w') : if Region.wanted oi (yielded ops a.tmps) = true then Oper.wp P oi a w K Q else K (a.put N undef) w := by
 refine call_ f args hw hN ?_ h
 have he := zja hf hname hb args w
 unfold execOp
 simp [hop, resolve, Deferred.ofValue, invoke, Act.eval, hargs, he]
theorem zx1 {rest : List Oper} {oi : Oper} {a : Act} {w : World} (N : Option Tmp) (hd : oi.dst = N) (hg : oi.guard = none) {f : FuncId} {fn : Func} {as_ : Array Operand} {ts : Array TypeId} (hf : P.funcs[f]? = some fn) (hname : (fn.name == "runtime.NumGoroutine") = false) (hb : fn.body.isSome = true) (args : Array Value)
  (hop : oi.op = .call { callee := .value (.func f), args := as_, argTypes := ts }) (hargs : as_.map a.eval = args)
  (h : Calls P f args w fun e w' => ∃ v, e = .returned v ∧ wpList P ops Q rest (a.put N v) w') : wpList P ops Q (oi :: rest) a w := by
 refine wpList_plain hg fun K hK => ?_
 have he := zja hf hname hb args w
 have hrun : (execOp a.eval oi).run P w = .ok (.enter f args) w := by
  unfold execOp
  simp [hop, resolve, Deferred.ofValue, invoke, Act.eval, hargs, he]
 unfold Oper.wp
 rw [hrun, Oper.upon_enter]
 refine h.mono fun e w'' hh => ?_
 obtain ⟨v, rfl, hk⟩ := hh
 subst hd
 exact hK _ _ hk
theorem zv8 {oi : Oper} {N : Option Tmp} {a : Act} {w w1 : World} {v : Value} {K : Act → World → Prop} (hw : Region.wanted oi (yielded ops a.tmps) = true) (hN : oi.dst = N) (hrun : (execOp a.eval oi).run P w = .ok (.value v) w1)
  (h : K (a.put N v) w1) : if Region.wanted oi (yielded ops a.tmps) = true then Oper.wp P oi a w K Q else K (a.put N undef) w := by
 rw [if_pos hw]
 subst hN
 unfold Oper.wp
 rw [hrun]
 exact h
theorem ze0 (n : Int) : IntKind.i64.wrap n = Go.RowKit.wrap64 n := by unfold Go.RowKit.wrap64; exact IntKind.wrap_i64 n
theorem zd0 (n : Int) : IntKind.i32.wrap n = Go.RowKit.wrap32 n := by unfold Go.RowKit.wrap32; exact IntKind.wrap_i32 n
end
end Go.Proofs.YtmlmiocomlehgaaGreatW.PrintLast
end
section
namespace Go.Proofs.YtmlmiocomlehgaaGreatW.PrintLast
open Go.Proofs.YtmlmiocomlehgaaGreatW.PrintWords (Aside0)
section
def needsOf (md : Region.Mode) (o : Oper) : List Nat := (o.after.toList.filter (fun e => Region.binds md e)).map (fun e => e.on)
def clashOf (md : Region.Mode) (ops : Array Oper) (i : Nat) (oi : Oper) : List Nat := (List.range ops.size).filter fun j => !(j == i) && match ops[j]? with
 | some oj => !(oj.after.any (fun e => Region.binds md e && e.on == i) || oi.apart ops oj)
 | none => false
def rtab (md : Region.Mode) (ops : Array Oper) : Bool × List (List Nat × List Nat) := (Region.noSelect ops, (List.range ops.size).map fun i => match ops[i]? with
 | some o => (needsOf md o, clashOf md ops i o)
 | none => ([], []))
def readyAt (T : List (List Nat × List Nat)) (l : List Bool) (i : Nat) : Bool := !l.getD i true && match T[i]? with
 | some r => r.1.all (fun j => l.getD j false)
 | none => false
def readyT (T : List (List Nat × List Nat)) (l : List Bool) : List Nat := (List.range T.length).filter (readyAt T l)
def freeT (T : List (List Nat × List Nat)) (l : List Bool) (i : Nat) : Bool := match T[i]? with
 | some r => r.2.all (fun j => l.getD j true)
 | none => false
def closedT (T : List (List Nat × List Nat)) (l : List Bool) : Bool := (List.range T.length).all fun j => !l.getD j false || match T[j]? with
 | some r => r.1.all (fun k => l.getD k false)
 | none => true
def reachT (T : List (List Nat × List Nat)) (i : Nat) : Nat → Nat → Bool
 | 0, _ => false
 | fuel + 1, d => match T[d]? with
  | some r => r.1.any fun j => j == i || reachT T i fuel j
  | none => false
def lastT (T : List (List Nat × List Nat)) (l : List Bool) (ds : List Nat) (i : Nat) : Bool := ds.all fun d => l.getD d true || reachT T i T.length d
section
variable {md : Region.Mode} {ops : Array Oper} {T : Bool × List (List Nat × List Nat)} {l l' li lj lk : Array Bool} {ds : List Nat} {i j k : Nat}
theorem gd (l : Array Bool) (j : Nat) (b : Bool) : l.getD j b = l.toList.getD j b := by simp [Array.getD_eq_getD_getElem?, List.getD_eq_getElem?_getD]
theorem z37 (o : Oper) (p : Nat → Bool) : o.after.all (fun e => !Region.binds md e || p e.on) = (needsOf md o).all p := by
 unfold needsOf
 rw [← Array.all_toList]
 induction o.after.toList with
 | nil => rfl
 | cons e r ih =>
  rw [List.all_cons, ih, List.filter_cons]
  cases h : Region.binds md e <;> simp
theorem zlc (o : Oper) (p : Nat → Bool) : o.after.any (fun e => Region.binds md e && p e.on) = (needsOf md o).any p := by
 unfold needsOf
 rw [← Array.any_toList]
 induction o.after.toList with
 | nil => rfl
 | cons e r ih =>
  rw [List.any_cons, ih, List.filter_cons]
  cases h : Region.binds md e <;> simp
theorem zl2 : (rtab md ops).2.length = ops.size := by simp [rtab]
theorem zq3 {o : Oper} (h : ops[i]? = some o) : (rtab md ops).2[i]? = some (needsOf md o, clashOf md ops i o) := by
 have hi := (Array.getElem?_eq_some_iff.1 h).1
 unfold rtab
 rw [List.getElem?_map, List.getElem?_range hi, Option.map_some, h]
theorem zu3 (h : ops[i]? = none) : (rtab md ops).2[i]? = none := by
 have hi : ops.size ≤ i := Array.getElem?_eq_none_iff.1 h
 exact List.getElem?_eq_none (by rw [zl2]; exact hi)
theorem z79 : readyAt (rtab md ops).2 l.toList i = (!l.getD i true && ((ops[i]?).map (·.after.all fun e => !Region.binds md e || l.getD e.on false)).getD false) := by
 unfold readyAt
 rw [gd]
 cases h : ops[i]? with
 | none => rw [zu3 h]; rfl
 | some o =>
  rw [zq3 h]
  simp only [Option.map_some, Option.getD_some]
  rw [← z37]
  simp only [gd]
theorem zp5 : Region.ready md ops l = readyT (rtab md ops).2 l.toList := by
 unfold Region.ready readyT
 rw [zl2]
 refine List.filter_congr (fun i _ => ?_)
 rw [z79]
theorem z3c : Region.free md ops l i = freeT (rtab md ops).2 l.toList i := by
 unfold Region.free freeT
 cases h : ops[i]? with
 | none => rw [zu3 h]
 | some oi =>
  rw [zq3 h]
  simp only [clashOf]
  rw [List.all_filter]
  congr 1
  funext j
  rw [gd]
  cases hj : ops[j]? with
  | none => cases (j == i) <;> cases (l.toList.getD j true) <;> simp
  | some oj =>
   cases (j == i) <;> cases (l.toList.getD j true) <;> cases (oj.after.any (fun e => Region.binds md e && e.on == i) || oi.apart ops oj) <;> simp_all
theorem zhb : Region.closedB md ops l = closedT (rtab md ops).2 l.toList := by
 unfold Region.closedB closedT
 rw [zl2]
 congr 1
 funext j
 rw [gd]
 cases h : ops[j]? with
 | none => rw [zu3 h]
 | some o =>
  rw [zq3 h]
  simp only
  rw [← z37]
  simp only [gd]
theorem zk8 : ∀ (fuel d : Nat), Region.reachB md ops i fuel d = reachT (rtab md ops).2 i fuel d
 | 0, _ => rfl
 | fuel + 1, d => by
  unfold Region.reachB reachT
  cases h : ops[d]? with
  | none => rw [zu3 h]
  | some o =>
   rw [zq3 h]
   simp only
   rw [← zlc]
   congr 1
   funext e
   rw [zk8 fuel]
theorem last_eq : Region.lastB md ops l ds i = lastT (rtab md ops).2 l.toList ds i := by
 unfold Region.lastB lastT
 rw [zl2]
 congr 1
 funext d
 rw [gd, zk8]
theorem z25 (h : readyAt T.2 l.toList i = true) (hT : rtab md ops = T) : (Region.ready md ops l).contains i = true := by
 subst hT
 rw [zp5]
 unfold readyT
 rw [List.contains_iff_mem, List.mem_filter, List.mem_range]
 refine ⟨?_, h⟩
 unfold readyAt at h
 rw [Bool.and_eq_true] at h
 cases hq : (rtab md ops).2[i]? with
 | none => rw [hq] at h; simp at h
 | some r => exact (List.getElem?_eq_some_iff.1 hq).1
theorem zmb (h : (l.toList.set i true == l'.toList) = true) : (l.setIfInBounds i true == l') = true := by
 rw [beq_iff_eq] at h ⊢
 apply Array.ext'
 rw [Array.toList_setIfInBounds]
 exact h
def anyT (T : Bool × List (List Nat × List Nat)) (l l' : List Bool) (i : Nat) : Bool := T.1 && freeT T.2 l i && readyAt T.2 l i && (l.set i true == l')
theorem zh0 (hT : rtab md ops = T) (h : anyT T l.toList l'.toList i = true) : anyB md ops l l' i = true := by
 simp only [anyT, Bool.and_eq_true] at h
 obtain ⟨⟨⟨h1, h2⟩, h3⟩, h4⟩ := h
 have h5 := z25 h3 hT
 have h6 := zmb h4
 subst hT
 simp only [anyB, Bool.and_eq_true]
 exact ⟨⟨⟨h1, by rw [z3c]; exact h2⟩, h5⟩, h6⟩
def takeT (T : Bool × List (List Nat × List Nat)) (ds : List Nat) (l l' : List Bool) (i : Nat) : Bool := T.1 && freeT T.2 l i && readyAt T.2 l i && closedT T.2 l && lastT T.2 l ds i && (l.set i true == l')
theorem zp0 (hT : rtab md ops = T) (h : takeT T ds l.toList l'.toList i = true) : takeB md ops ds l l' i = true := by
 simp only [takeT, Bool.and_eq_true] at h
 obtain ⟨⟨⟨⟨⟨h1, h2⟩, h3⟩, h4⟩, h5⟩, h6⟩ := h
 have h7 := z25 h3 hT
 have h8 := zmb h6
 subst hT
 simp only [takeB, Bool.and_eq_true]
 exact ⟨⟨⟨⟨⟨h1, by rw [z3c]; exact h2⟩, h7⟩, by rw [zhb]; exact h4⟩, by rw [last_eq]; exact h5⟩, h8⟩
theorem z21 (hT : rtab md ops = T) (h : (readyT T.2 l.toList == [i] && l.toList.set i true == l'.toList) = true) : readyB md ops l l' i = true := by
 simp only [Bool.and_eq_true] at h
 obtain ⟨h1, h2⟩ := h
 subst hT
 simp only [readyB, Bool.and_eq_true]
 exact ⟨by rw [zp5]; exact h1, zmb h2⟩
theorem zg1 (hT : rtab md ops = T) (h : (readyT T.2 l.toList == []) = true) : (Region.ready md ops l == []) = true := by
 subst hT
 rw [zp5]
 exact h
theorem zc1 {P : Program} {Q : Exit → Act → World → Prop} {S : World → Prop} {n : Nat} {a : Act} {w : World} (hT : rtab md ops = T) (h : Aside0 (rtab md ops = T) → wpAnyLast P md ops Q S ds n l a w) : wpAnyLast P md ops Q S ds n l a w := h ⟨hT⟩
end
def opsIn : Code → Nat → Option (Array Oper)
 | .region id ops _, k => if id == k then some ops else none
 | .seq a b, k => match opsIn a k with
  | some o => some o
  | none => opsIn b k
 | .cond _ a b, k => match opsIn a k with
  | some o => some o
  | none => opsIn b k
 | .block _ c, k => opsIn c k
 | .loop c, k => opsIn c k
 | .scope c, k => opsIn c k
 | .rangeFunc _ _ a b, k => match opsIn a k with
  | some o => some o
  | none => opsIn b k
 | _, _ => none
def opsOf (f : Func) (k : Nat) : Array Oper := ((f.body.bind fun c => opsIn c k)).getD #[]
end
end Go.Proofs.YtmlmiocomlehgaaGreatW.PrintLast
end
section
namespace Go.Proofs.YtmlmiocomlehgaaGreatW.PrintWords
open Go.RowKit
section
namespace Kd
def tag {α : Type} (f : Nat → Nat) (d : Kd α) : Kd (α × Nat) where
 sz := d.sz
 E := d.E
 K := fun w x cs => d.K w x.1 cs
 M := fun w base ok x cs => d.M w base (fun k => ok k ∧ f k = x.2) x.1 cs
 K_len := fun h => d.K_len h
 K_one := fun h => d.K_one h
 K_below := fun hb h => d.K_below hb h
 K_of_M := fun h => d.K_of_M h
 M_mono := fun hok h => d.M_mono (fun k hk => ⟨hok k hk.1, hk.2⟩) h
 M_bound := fun h => d.M_mono (fun _ hk => ⟨⟨hk.1.1, hk.2⟩, hk.1.2⟩) (d.M_bound h)
 M_move := fun hm h => d.M_move (fun k hk => hm k hk.1) h
 M_lower := fun hb h => d.M_lower hb h
def raw (sz : Nat) : Kd (List Value) where
 sz := sz
 E := []
 K := fun _ x cs => cs = x ∧ cs.length = sz ∧ ∀ u ∈ cs, u.oneCell' = true
 M := fun _ _ _ x cs => cs = x ∧ cs.length = sz ∧ ∀ u ∈ cs, u.oneCell' = true
 K_len := fun h => h.2.1
 K_one := fun h => h.2.2
 K_below := fun _ h => h
 K_of_M := fun h => h
 M_mono := fun _ h => h
 M_bound := fun h => h
 M_move := fun _ h => h
 M_lower := fun _ h => h
def S {α : Type} (d : Kd α) (e : Nat) (w : World) (base : Nat) (ok : Nat → Prop) (v : Value) (xs : List α) : Prop := ∃ f, (tag f d).R e w base ok v xs.zipIdx
section
variable {α β : Type} {d : Kd α} {d' : Kd β} {e e' : Nat} {w w1 W : World} {base b : Nat} {ok ok' okv oku : Nat → Prop} {u v : Value} {xs : List α} {ys : List β}
theorem R_tight (hE : d.E = []) (h : d.R e w base ok v xs) : d.R e w base (fun k => some k = v.ownBlock) v xs := by
 obtain ⟨h0, inner, ho, hr⟩ := h
 refine ⟨fun k hk => hk.symm, inner, ho, hr.imp_ (fun p c hp => d.M_mono (fun k hk => ?_) (d.M_bound hp))⟩
 obtain ⟨_, _, _, q, hq, _⟩ := hk
 rw [hE] at hq
 cases hq
end
section
variable {α β : Type} {d : Kd α} {d' : Kd β} {e e' g : Nat} {w w1 W : World} {base b : Nat} {ok ok' okv oku : Nat → Prop} {u v : Value} {xs : List α} {ys : List β}
end
section
variable {P : Program} {ops : Array Oper} {rest : List Oper} {o : Oper} {a : Act} {Q : Exit → Act → World → Prop} {Kc : Act → World → Prop} {α : Type}
end
def gap {α : Type} (f : Nat → Nat) (d : Kd α) (i : Nat) (c : List Value) : Kd (α × Nat) where
 sz := d.sz
 E := d.E
 K := fun w x cs => (x.2 = i → cs = c ∧ cs.length = d.sz ∧ ∀ u ∈ cs, u.oneCell' = true) ∧ (x.2 ≠ i → d.K w x.1 cs)
 M := fun w base ok x cs => (x.2 = i → cs = c ∧ cs.length = d.sz ∧ ∀ u ∈ cs, u.oneCell' = true) ∧ (x.2 ≠ i → d.M w base (fun k => ok k ∧ f k = x.2) x.1 cs)
 K_len := fun {w x cs} h => by
  by_cases hx : x.2 = i
  ·exact (h.1 hx).2.1
  ·exact d.K_len (h.2 hx)
 K_one := fun {w x cs} h => by
  by_cases hx : x.2 = i
  ·exact (h.1 hx).2.2
  ·exact d.K_one (h.2 hx)
 K_below := fun hb h => ⟨h.1, fun hx => d.K_below hb (h.2 hx)⟩
 K_of_M := fun h => ⟨h.1, fun hx => d.K_of_M (h.2 hx)⟩
 M_mono := fun hok h => ⟨h.1, fun hx => d.M_mono (fun k hk => ⟨hok k hk.1, hk.2⟩) (h.2 hx)⟩
 M_bound := fun h => ⟨h.1, fun hx => d.M_mono (fun _ hk => ⟨⟨hk.1.1, hk.2⟩, hk.1.2⟩) (d.M_bound (h.2 hx))⟩
 M_move := fun hm h => ⟨h.1, fun hx => d.M_move (fun k hk => hm k hk.1) (h.2 hx)⟩
 M_lower := fun hb h => ⟨h.1, fun hx => d.M_lower hb (h.2 hx)⟩
def H {α : Type} (d : Kd α) (e : Nat) (w : World) (base : Nat) (ok : Nat → Prop) (v : Value) (xs : List α) (i : Int) (oki : Nat → Prop) (c : List Value) : Prop :=
 (∀ k, oki k → ok k) ∧ ∃ f, (gap f d i.toNat c).R e w base (fun k => ok k ∧ ¬ oki k) v xs.zipIdx
section
variable {α β : Type} {d : Kd α} {e e' g n cap : Nat} {w w1 W : World} {base : Nat} {ok ok' oki okp : Nat → Prop} {u v : Value} {xs : List α} {i : Int} {c : List Value}
end
section
variable {P : Program} {ops : Array Oper} {rest : List Oper} {o : Oper} {a : Act} {Q : Exit → Act → World → Prop} {α : Type}
end
end Kd
end
section
namespace Kd
structure Heap {α : Type} (d : Kd α) : Prop where
 K : ∀ {w w1 : World} {x : α} {cs : List Value}, (∀ k, k < w.heap.size → w1.heap[k]? = w.heap[k]?) → d.K w x cs → d.K w1 x cs
theorem zha {w w1 : World} (hb : ∀ k, k < w.heap.size → w1.heap[k]? = w.heap[k]?) {a : Addr} {v : Value} (h : w.cell? a = some v) : w1.cell? a = some v := by
 have := hb a.block (World.block_lt_of_cell? w a h)
 simpa [World.cell?, this] using h
theorem Heap.C {α : Type} {d : Kd α} (hd : Heap d) {w w1 : World} {A : Option Addr} {n : Nat} {xs : List α} (hb : ∀ k, k < w.heap.size → w1.heap[k]? = w.heap[k]?) (h : d.C w A n xs) : d.C w1 A n xs :=
 ⟨h.1, h.2.1, fun hn => by
  obtain ⟨ad, e, hc⟩ := h.2.2 hn
  refine ⟨ad, e, fun j p hj => ?_⟩
  obtain ⟨c, hs, hr, hcell⟩ := hc j p hj
  exact ⟨c, hs, hd.K hb hr, fun i u hu => zha hb (hcell i u hu)⟩⟩
section
variable {α : Type} {d : Kd α} {e base g n c : Nat} {ok : Nat → Prop} {w w0 W : World} {A : Option Addr} {xs : List α}
end
end Kd
end
section
def Kept (w W : World) (S : Nat → Prop) : Prop := w.heap.size ≤ W.heap.size ∧ ∀ i, i < w.heap.size → ¬ S i → W.heap[i]? = w.heap[i]?
section
variable {w W W2 : World} {S S2 S' : Nat → Prop}
theorem Kept.refl (w : World) (S : Nat → Prop) : Kept w w S := ⟨Nat.le_refl _, fun _ _ _ => rfl⟩
theorem Kept.of_below (h : Below w.heap.size w W) (S : Nat → Prop) : Kept w W S := ⟨h.size, fun i hi _ => h.block i hi⟩
theorem blk_kept {g : Nat} {o : Obj} (hb : W.heap[g]? = some o) (hk : Kept W W2 S) (hne : ¬ S g) : W2.heap[g]? = some o := (hk.2 g (z70 hb) hne).trans hb
end
namespace Kd
section
variable {α : Type} {d : Kd α} {e base n c : Nat} {ok oki S S2 : Nat → Prop} {w w0 W W1 W2 : World} {v : Value} {A : Option Addr} {xs : List α} {i : Int} {cs : List Value}
theorem R_kept (h : d.R e W base ok v xs) (hk : Kept W W2 S) (hne : ∀ k, ok k → ¬ S k) : d.R e W2 base ok v xs := R_step h (fun k ho hlt => hk.2 k hlt (hne k ho))
end
end Kd
end
section
def Foot (P : World → Prop) (W : World) (ok : Nat → Prop) : Prop := ∀ W' : World, (∀ k, ok k → k < W.heap.size → W'.heap[k]? = W.heap[k]?) → P W'
namespace Foot
variable {P Q : World → Prop} {W W1 : World} {ok ok' : Nat → Prop}
theorem now (h : Foot P W ok) : P W := h W (fun _ _ _ => rfl)
end Foot
namespace Kd
def F {α : Type} (d : Kd α) (W : World) (ok : Nat → Prop) (A : Option Addr) (n : Nat) (xs : List α) : Prop := Foot (fun W => d.C W A n xs) W ok
def FK {α : Type} (d : Kd α) (W : World) (ok : Nat → Prop) (x : α) (c : List Value) : Prop := Foot (fun W => d.K W x c) W ok
section
variable {α β : Type} {d : Kd α} {e base n n' cc g N : Nat} {ok ok' okp S : Nat → Prop} {w w0 w1 W W1 : World} {A A' : Option Addr} {u v v1 : Value} {xs : List α} {xs' : List β} {d' : Kd β} {x : α} {c : List Value}
end
end Kd
end
section
namespace Kd
section
variable {α : Type} {d : Kd α} {e base n cc g : Nat} {ok ok' okp S : Nat → Prop} {w w1 W W1 : World} {A : Option Addr} {u v v1 : Value} {xs : List α} {x : α} {c : List Value}
def N {α : Type} (d : Kd α) (e : Nat) (w : World) (base : Nat) (ok : Nat → Prop) (v : Value) (xs : List α) : Prop :=
 (∀ k, v.ownBlock = some k → ok k) ∧ ∃ rows : List (List Value), rows.length = xs.length ∧ (raw d.sz).R e w base (fun k => some k = v.ownBlock) v rows ∧ ∀ (j : Nat) (x : α) (c : List Value), xs[j]? = some x → rows[j]? = some c → FK d w (fun k => ok k ∧ some k ≠ v.ownBlock) x c
end
end Kd
end
section
section
variable {P : Program} {ops : Array Oper} {rest : List Oper} {o : Oper} {a : Act} {Q : Exit → Act → World → Prop} {W : World}
theorem z41 (hw : Region.wanted o (yielded ops a.tmps) = true) (h : wpList P ops Q ({ o with guard := none } :: rest) a W) : wpList P ops Q (o :: rest) a W := by
 have h1 : Region.wanted { o with guard := none } (yielded ops a.tmps) = true := rfl
 unfold wpList at h ⊢
 rw [if_pos h1] at h
 rw [if_pos hw]
 exact h
end
end
end Go.Proofs.YtmlmiocomlehgaaGreatW.PrintWords
end
section
namespace Go.Proofs.YtmlmiocomlehgaaGreatW.PrintMore
open Go.RowKit Go.Proofs.YtmlmiocomlehgaaGreatW.PrintWords
namespace Kd
open Go.Proofs.YtmlmiocomlehgaaGreatW.PrintWords.Kd
end Kd
namespace Kd
open Go.Proofs.YtmlmiocomlehgaaGreatW.PrintWords.Kd
section
variable {α : Type} {d : Kd α} {e base g N : Nat} {ok : Nat → Prop} {W w1 : World} {u v : Value} {xs : List α}
end
end Kd
theorem zt1 (k k' : IntKind) (x y : Int) : Builtin.max2 (.int k x) (.int k' y) = pure (.int k (if x < y then y else x)) := by simp only [Builtin.max2, gt_iff_lt]
theorem zv1 (k k' : IntKind) (x y : Int) : Builtin.min2 (.int k x) (.int k' y) = pure (.int k (if y < x then y else x)) := by simp only [Builtin.min2]
theorem zd2 (ats : Array TypeId) (ty : TypeId) (a b : Value) : Builtin.max_ ats ty #[a, b] = (Builtin.max2 a b >>= fun s => pure s) := by simp only [Builtin.max_, List.foldlM_cons, List.foldlM_nil]
theorem zb2 (ats : Array TypeId) (ty : TypeId) (a b : Value) : Builtin.min_ ats ty #[a, b] = (Builtin.min2 a b >>= fun s => pure s) := by simp only [Builtin.min_, List.foldlM_cons, List.foldlM_nil]
theorem zn1 (ats : Array TypeId) (ty : TypeId) (a b c : Value) : Builtin.max_ ats ty #[a, b, c] = (Builtin.max2 a b >>= fun s => Builtin.max2 s c >>= fun s => pure s) := by simp only [Builtin.max_, List.foldlM_cons, List.foldlM_nil]
theorem zl1 (ats : Array TypeId) (ty : TypeId) (a b c : Value) : Builtin.min_ ats ty #[a, b, c] = (Builtin.min2 a b >>= fun s => Builtin.min2 s c >>= fun s => pure s) := by simp only [Builtin.min_, List.foldlM_cons, List.foldlM_nil]
theorem z32 (ats : Array TypeId) (ty : TypeId) (a b c d : Value) : Builtin.max_ ats ty #[a, b, c, d] = (Builtin.max2 a b >>= fun s => Builtin.max2 s c >>= fun s => Builtin.max2 s d >>= fun s => pure s) := by simp only [Builtin.max_, List.foldlM_cons, List.foldlM_nil]
theorem z52 (ats : Array TypeId) (ty : TypeId) (a b c d : Value) : Builtin.min_ ats ty #[a, b, c, d] = (Builtin.min2 a b >>= fun s => Builtin.min2 s c >>= fun s => Builtin.min2 s d >>= fun s => pure s) := by simp only [Builtin.min_, List.foldlM_cons, List.foldlM_nil]
end Go.Proofs.YtmlmiocomlehgaaGreatW.PrintMore
namespace Go.Proofs.YtmlmiocomlehgaaGreatW.PrintWords
open Go.RowKit
section
variable {P : Program} {ops : Array Oper} {rest : List Oper} {o : Oper} {a : Act} {Q : Exit → Act → World → Prop} {W : World}
theorem zy0 {f : FuncId} {as_ : Array Operand} {ts : Array TypeId} (_ho : o.op = .call { callee := .value (.func f), args := as_, argTypes := ts }) (h : wpList P ops Q (o :: rest) a W) : wpList P ops Q (o :: rest) a W := h
theorem zm0 {b : Builtin} {xs : Array Operand} {ts : Array TypeId} (_ho : o.op = .call { callee := .builtin b, args := xs, argTypes := ts }) (h : wpList P ops Q (o :: rest) a W) : wpList P ops Q (o :: rest) a W := h
end
theorem zj1 {P : Program} {f : FuncId} {args args' : Array Value} {w : World} {Q : Ending → World → Prop} (h : args = args') (hc : Calls P f args' w Q) : Calls P f args w Q := h ▸ hc
def mx (a b : Int) : Int := if a < b then b else a
def mn (a b : Int) : Int := if b < a then b else a
namespace Kd
section
variable {α : Type} {d : Kd α} {e base : Nat} {ok : Nat → Prop} {W w1 : World} {v : Value} {xs : List α}
theorem R_grown2 (h : d.R e W base ok v xs) (hE : d.E = []) {row : Option Nat} (hg : W.grownBy w1 row) (hne : ∀ k, row = some k → some k ≠ v.ownBlock) : d.R e w1 base ok v xs :=
 R_mono (R_grown (R_tight hE h) hg (fun k hk e_ => hne k e_.symm hk)) (fun k hk => h.1 k hk.symm)
end
section
variable {α : Type} {d : Kd α} {e base g n cap : Nat} {ok oki okp : Nat → Prop} {W : World} {xs : List α} {i : Int} {c : List Value}
end
section
variable {α : Type} {d : Kd α} {e base b b' g N : Nat} {ok ok1 : Nat → Prop} {W W2 w1 : World} {u v : Value} {xs ys : List α} {S : Nat → Prop}
end
end Kd
end Go.Proofs.YtmlmiocomlehgaaGreatW.PrintWords
namespace Go.Proofs.YtmlmiocomlehgaaGreatW.PrintWords
open Go.RowKit
namespace Kd
def V {α : Type} (d : Kd α) (_e : Nat) (W : World) (_base : Nat) (ok : Nat → Prop) (v : Value) (xs : List α) : Prop := ∃ A c, v = .slice A xs.length c ∧ xs.length ≤ c ∧ F d W ok A xs.length xs
section
variable {α β : Type} {d : Kd α} {e base base' n m c g N' lo hi : Nat} {ok ok' S : Nat → Prop} {w W w1 : World} {A : Option Addr} {ad : Addr} {u v v1 : Value} {xs : List α}
end
end Kd
end Go.Proofs.YtmlmiocomlehgaaGreatW.PrintWords
end
section
namespace Go.Proofs.YtmlmiocomlehgaaGreat.PA
open Go.RowKit Go.Proofs.YtmlmiocomlehgaaGreatW.PrintWords Go.Proofs.YtmlmiocomlehgaaGreatW.PrintLast Go.Proofs.YtmlmiocomlehgaaGreatW.PrintMore
section
attribute [local go_sem] zt1 zv1 zd2 zb2 zn1 zl1 z32 z52   -- for this text's walks alone
theorem z53 : (Tryz.prog.info? 9).map (fun i => (i.zero, i.size, i.bytes)) = some (some (.string ⟨#[]⟩), 1, 16) := by kernel_rfl
theorem info36 : (Tryz.prog.info? 36).map (fun i => (i.zero, i.size, i.bytes)) = some (some (.agg #[(.int .i64 0), (.int .i64 0), (.string ⟨#[]⟩), (.slice none 0 0)]), 4, 56) := by kernel_rfl
structure S36 where
 f0 : Int
 f1 : Int
 f2 : ByteArray
 f3 : (List ByteArray)
def z36 : S36 := ⟨(0 : Int), (0 : Int), (⟨#[]⟩ : ByteArray), ([] : List ByteArray)⟩
def k36 : Kd S36 := Kd.iso (Kd.pair (Kd.int .i64) (Kd.pair (Kd.int .i64) (Kd.pair Kd.string (Kd.slice 9 Kd.string)))) (fun x : S36 => (x.f0, x.f1, x.f2, x.f3))
theorem k36_open {w : World} {x : S36} {cs : List Value} (h : k36.K w x cs) : ∃ A3 c3, cs = [.int .i64 x.f0, .int .i64 x.f1, .string x.f2, .slice A3 x.f3.length c3] ∧ x.f3.length ≤ c3 ∧ Kd.string.C w A3 x.f3.length x.f3 := by
 obtain ⟨_, _, rfl, rfl, ⟨_, _, rfl, rfl, ⟨_, _, rfl, rfl, ⟨A3, c3, rfl, l3, g3⟩⟩⟩⟩ := h
 exact ⟨A3, c3, rfl, l3, g3⟩
def rd_T36 (xs : List S36) (i : Int) : S36 := xs.getD i.toNat z36
end
section
attribute [local go_sem] zt1 zv1 zd2 zb2 zn1 zl1 z32 z52   -- for this text's walks alone
def hostlerref01_Same.l0 : Nat → List Int → List Int → Int → Option (Bool)
 | 0, _, _, _ => none
 | k + 1, x0, x1, x5 => if x5 < (x0.length : Int) then (if 0 ≤ x5 then (if x5 < (x1.length : Int) then (if (rd x0 x5) = (rd x1 x5) then (hostlerref01_Same.l0 k x0 x1 (wrap64 (x5 + 1))) else (some false)) else (none)) else (none)) else (some true)
def hostlerref01_Same.f (k : Nat) (l0 : List Int) (l1 : List Int) : Option (Bool) := if (l0.length : Int) = (l1.length : Int) then (hostlerref01_Same.l0 k l0 l1 0) else (some false)
theorem hostlerref01_Same.calls (k : Nat) (A0 : Option Addr) (c0 : Nat) (l0 : List Int) (A1 : Option Addr) (c1 : Nat) (l1 : List Int) (r : Bool) (w : World) (hr0 : Kd.C (Kd.int .i64) w A0 l0.length l0) (hc0 : l0.length ≤ c0) (hr1 : Kd.C (Kd.int .i64) w A1 l1.length l1) (hc1 : l1.length ≤ c1) (h : hostlerref01_Same.f k l0 l1 = some r) :
  Calls Tryz.prog 33 #[.slice A0 l0.length c0, .slice A1 l1.length c1] w fun e w' => e = .returned (.bool r) ∧ Drawn0 w w' := by
 have HR0 := as0 hr0
 have HC0 := as0 hc0
 clear hr0 hc0
 have HR1 := as0 hr1
 have HC1 := as0 hc1
 clear hr1 hc1
 have H : (if (l0.length : Int) = (l1.length : Int) then (hostlerref01_Same.l0 k l0 l1 0) else (some false)) = some r := h
 clear h
 by_cases c3 : (l0.length : Int) = (l1.length : Int)
 ·rw [if_pos c3] at H
  have c3b0 : ((l0.length : Int) == (l1.length : Int)) = true := beq_iff_eq.mpr c3
  have c3b1 : ((l0.length : Int) != (l1.length : Int)) = false := bne_eq_false_iff_eq.mpr c3
  have c3b2 : (l0.length == l1.length) = true := by first | simpa using c3 | (simp at c3 ⊢; omega)
  clear c3
  have H' := as0 H
  clear H
  go_enter Tryz.func33, Tryz.ntmps33
  go_wp2
  repeat (go_quiet (fail); try go_wp2)
  go_loopg [5] k (fun kq v5 w' => ∃ (x5_1 : Int), v5 = .int .i64 x5_1 ∧ Aside0 (hostlerref01_Same.l0 kq l0 l1 x5_1 = some r) ∧ Aside0 (kq ≤ k) ∧ Drawn0 w w')
  case atStart => exact ⟨(0), (by first | rfl | (simp; done) | (simp [*]; done)), H', ⟨Nat.le_refl _⟩, by repeat (first | exact Drawn0.refl _ | apply Drawn0.step)⟩
  case round =>
   clear H'
   try clear c1
   try clear p2
   try clear c3
   try clear c3b0
   try clear c3b1
   try clear c3b2
   obtain ⟨x5_1, rfl, HA, HK1, ⟨m1, rfl⟩⟩ := hrel
   cases gk with
   | zero => exact absurd HA.out (by simp [hostlerref01_Same.l0])
   | succ k1 =>
    have H := HA.out
    clear HA
    simp only [hostlerref01_Same.l0] at H
    by_cases c4 : x5_1 < (l0.length : Int)
    ·rw [if_pos c4] at H
     have c4b0 : decide (x5_1 < (l0.length : Int)) = true := decide_eq_true c4
     clear c4
     by_cases c5 : 0 ≤ x5_1
     ·rw [if_pos c5] at H
      have c5b0 : decide (0 ≤ x5_1) = true := decide_eq_true c5
      clear c5
      by_cases c6 : x5_1 < (l1.length : Int)
      ·rw [if_pos c6] at H
       have c6b0 : decide (x5_1 < (l1.length : Int)) = true := decide_eq_true c6
       clear c6
       by_cases c7 : (rd l0 x5_1) = (rd l1 x5_1)
       ·rw [if_pos c7] at H
        have c7b0 : ((rd l0 x5_1) == (rd l1 x5_1)) = true := beq_iff_eq.mpr c7
        have c7b1 : ((rd l0 x5_1) != (rd l1 x5_1)) = false := bne_eq_false_iff_eq.mpr c7
        clear c7
        have H' := as0 H
        clear H
        have p117 : 0 ≤ (x5_1 : Int) := of_decide_eq_true (by first | (with_reducible assumption) | assumption)
        have q117 : x5_1 < (l0.length : Int) := of_decide_eq_true (by first | (with_reducible assumption) | assumption)
        obtain ⟨ad117, e117, hx117_0⟩ := Kd.at_int HR0.out x5_1 p117 q117
        cases e117
        replace p117 := eq_true p117
        replace q117 := eq_true q117
        have p118 : 0 ≤ (x5_1 : Int) := of_decide_eq_true (by first | (with_reducible assumption) | assumption)
        have q118 : x5_1 < (l1.length : Int) := of_decide_eq_true (by first | (with_reducible assumption) | assumption)
        obtain ⟨ad118, e118, hx118_0⟩ := Kd.at_int HR1.out x5_1 p118 q118
        cases e118
        replace p118 := eq_true p118
        replace q118 := eq_true q118
        go_wp2
        repeat (go_quiet (fail); try go_wp2)
        go_roundg k1
        case measure => have := HK1.out; omega
        case rel => exact ⟨(wrap64 (x5_1 + 1)), (by first | rfl | (simp; done) | (simp [*]; done)), H', ⟨by have := HK1.out; omega⟩, by repeat (first | exact Drawn0.refl _ | apply Drawn0.step)⟩
       ·rw [if_neg c7] at H
        have c7b0 : ((rd l0 x5_1) == (rd l1 x5_1)) = false := beq_eq_false_iff_ne.mpr c7
        have c7b1 : ((rd l0 x5_1) != (rd l1 x5_1)) = true := bne_iff_ne.mpr c7
        obtain rfl := Option.some.inj H
        have p117 : 0 ≤ (x5_1 : Int) := of_decide_eq_true (by first | (with_reducible assumption) | assumption)
        have q117 : x5_1 < (l0.length : Int) := of_decide_eq_true (by first | (with_reducible assumption) | assumption)
        obtain ⟨ad117, e117, hx117_0⟩ := Kd.at_int HR0.out x5_1 p117 q117
        cases e117
        replace p117 := eq_true p117
        replace q117 := eq_true q117
        have p118 : 0 ≤ (x5_1 : Int) := of_decide_eq_true (by first | (with_reducible assumption) | assumption)
        have q118 : x5_1 < (l1.length : Int) := of_decide_eq_true (by first | (with_reducible assumption) | assumption)
        obtain ⟨ad118, e118, hx118_0⟩ := Kd.at_int HR1.out x5_1 p118 q118
        cases e118
        replace p118 := eq_true p118
        replace q118 := eq_true q118
        go_wp2
        repeat (go_quiet (fail); try go_wp2)
        go_ret
        exact ⟨by first | rfl | (simp; done) | (simp [*]; done), by repeat (first | exact Drawn0.refl _ | apply Drawn0.step)⟩
      ·rw [if_neg c6] at H
       exact absurd H (by simp)
     ·rw [if_neg c5] at H
      exact absurd H (by simp)
    ·rw [if_neg c4] at H
     have c4b0 : decide (x5_1 < (l0.length : Int)) = false := decide_eq_false c4
     clear c4
     obtain rfl := Option.some.inj H
     go_wp2
     repeat (go_quiet (fail); try go_wp2)
     go_ret
     exact ⟨by first | rfl | (simp; done) | (simp [*]; done), by repeat (first | exact Drawn0.refl _ | apply Drawn0.step)⟩
 ·rw [if_neg c3] at H
  have c3b0 : ((l0.length : Int) == (l1.length : Int)) = false := beq_eq_false_iff_ne.mpr c3
  have c3b1 : ((l0.length : Int) != (l1.length : Int)) = true := bne_iff_ne.mpr c3
  have c3b2 : (l0.length == l1.length) = false := by first | simpa using c3 | (simp at c3 ⊢; omega)
  obtain rfl := Option.some.inj H
  go_enter Tryz.func33, Tryz.ntmps33
  go_wp2
  repeat (go_quiet (fail); try go_wp2)
  go_ret
  exact ⟨by first | rfl | (simp; done) | (simp [*]; done), by repeat (first | exact Drawn0.refl _ | apply Drawn0.step)⟩
def hostlerlaw18_Step_kind.f (a0_0 : Int) (a0_1 : Int) (a0_2 : ByteArray) (l0_3 : List ByteArray) : Option (Int) := some (wrap64 (Int.tmod (IntKind.u64.wrap (a0_0)) 8))
def hostlerlaw18_early.l0 : Nat → List (S36) → List (S36) → Int → Option ((List (S36)))
 | 0, _, _, _ => none
 | k + 1, x0, x3, x4 => if x4 < (x0.length : Int) then (if x4 < 80 then (if 0 ≤ x4 then (if 0 ≤ (mn (((rd_T36 x0 x4).f2).size : Int) 20) then (if (mn (((rd_T36 x0 x4).f2).size : Int) 20) ≤ (((rd_T36 x0 x4).f2).size : Int) then (if 0 ≤ (mn (((rd_T36 x0 x4).f3).length : Int) 20) then (if (mn (((rd_T36 x0 x4).f3).length : Int) 20) ≤ (((rd_T36 x0 x4).f3).length : Int) then (if x3.length < 2513169434916 then (hostlerlaw18_early.l0 k x0 (x3 ++ [(⟨(rd_T36 x0 x4).f0, (rd_T36 x0 x4).f1, ((rd_T36 x0 x4).f2).extract 0 ((mn (((rd_T36 x0 x4).f2).size : Int) 20) : Int).toNat, (((rd_T36 x0 x4).f3).take ((mn (((rd_T36 x0 x4).f3).length : Int) 20) : Int).toNat)⟩ : S36)]) (wrap64 (x4 + 1))) else (none)) else (none)) else (none)) else (none)) else (none)) else (none)) else (some x3)) else (some x3)
def hostlerlaw18_early.f (k : Nat) (l0 : List (S36)) : Option ((List (S36))) := hostlerlaw18_early.l0 k l0 ([] : List (S36)) 0
end
section
attribute [local go_sem] zt1 zv1 zd2 zb2 zn1 zl1 z32 z52   -- for this text's walks alone
def drains_Drains_place_1.f (a0_0 : ByteArray) (a0_1 : Int) (a0_2 : Bool) (l1 : List ByteArray) : Option (Bool) := if 0 < (l1.length : Int) then (some (a0_0.toList == (rdOf ByteArray.empty l1 0).toList)) else (none)
theorem drains_Drains_place_1.calls (a0_0 : ByteArray) (a0_1 : Int) (a0_2 : Bool) (A1 : Option Addr) (c1 : Nat) (l1 : List ByteArray) (r : Bool) (w : World) (hr1 : Kd.C Kd.string w A1 l1.length l1) (hc1 : l1.length ≤ c1) (h : drains_Drains_place_1.f a0_0 a0_1 a0_2 l1 = some r) :
  Calls Tryz.prog 106 #[.agg #[.string a0_0, .int .i64 a0_1, .bool a0_2], .pointer A1] w fun e w' => e = .returned (.bool r) ∧ Below w.heap.size w w' := by
 have hu110 := Tryz.underlying110
 have HR1 := as0 hr1
 have HC1 := as0 hc1
 clear hr1 hc1
 have HB := as0 (Below.refl w.heap.size w)
 have H : (if 0 < (l1.length : Int) then (some (a0_0.toList == (rdOf ByteArray.empty l1 0).toList)) else (none)) = some r := h
 clear h
 by_cases c3 : 0 < (l1.length : Int)
 ·rw [if_pos c3] at H
  have c3b0 : decide (0 < (l1.length : Int)) = true := decide_eq_true c3
  have c3b1 : decide (0 < l1.length) = true := decide_eq_true (by omega)
  clear c3
  obtain rfl := Option.some.inj H
  go_enter Tryz.func106, Tryz.ntmps106
  go_wp2_with (first | ((with_reducible refine za1 (N := 2) rfl ?_); refine z51 ?hg (N := 2) ?hd (cs := #[.string a0_0, .int .i64 a0_1, .bool a0_2]) (t := 110) ?hr ?_; (case hd => rfl); (case hg => rfl); (case hr => first | (go_simp; done) | (go_simp; rfl)); intro gb101 hg w4 hbox hb; have n0_ := as0 (z10 (by repeat (first | (with_reducible first | exact HB.out | apply z80 | apply z90 | apply z50) | exact HB.out)) hb); have n1_ := as0 (hbox); have n2_ := as0 ((by rw [hg]; exact (zt0 (by repeat (first | (with_reducible first | exact HB.out | apply z80 | apply z90 | apply z50) | exact HB.out))) : w.heap.size ≤ gb101)); have n3_ := as0 ((by rw [hg]; exact (zt0 (by repeat (first | (with_reducible first | exact HB.out | apply z80 | apply z90 | apply z50) | exact HB.out))) : w.heap.size ≤ gb101)); clear HB; have HB := n0_; have BK101 := n1_; have GW101 := n2_; have GE101 := n3_; clear n0_ n1_ n2_ n3_; clear hb hbox hg; have hcz5_0 : w4.cell? ⟨gb101, 0, none⟩ = some (.string a0_0) := (z60 BK101.out 0).trans rfl; have hcz5_1 : w4.cell? ⟨gb101, 1, none⟩ = some (.int .i64 a0_1) := (z60 BK101.out 1).trans rfl; have hcz5_2 : w4.cell? ⟨gb101, 2, none⟩ = some (.bool a0_2) := (z60 BK101.out 2).trans rfl; have hfz5_0 := z40 BK101.out 0; have hfz5_1 := z40 BK101.out 1; have hfz5_2 := z40 BK101.out 2; have p102 : 0 ≤ (0 : Int) := (by omega); have q102 : 0 < (l1.length : Int) := of_decide_eq_true (by first | (with_reducible assumption) | assumption); obtain ⟨ad102, e102, hx102_0⟩ := Kd.at_string HR1.out 0 p102 q102; cases e102; have qi102 : (0 < l1.length) = True := eq_true (by omega); (try rw [show ((0 : Int)).toNat = 0 from rfl] at hx102_0); (try rw [Addr.add_zero'] at hx102_0); replace hx102_0 := (HB.out.cell (World.block_lt_of_cell? w _ hx102_0)).trans hx102_0; replace p102 := eq_true p102; replace q102 := eq_true q102))
  go_ret
  exact ⟨by first | rfl | (simp only [Int.ofNat_lt]; rfl) | (simp [errW_none, errW_some] <;> rfl) | (simp [*, errW_none, errW_some] <;> rfl), by repeat (first | (with_reducible first | exact HB.out | apply z80 | apply z90 | apply z50 | refine zc0 ?_ GE101.out) | exact HB.out)⟩
 ·rw [if_neg c3] at H
  exact absurd H (by simp)
def sat_Cut.f (a0 : Int) : Option (Int) := some (mn (mx a0 0) 1099511627776)
theorem sat_Cut.calls (a0 : Int) (r : Int) (w : World) (h : sat_Cut.f a0 = some r) :
  Calls Tryz.prog 83 #[.int .i64 a0] w fun e w' => e = .returned (.int .i64 r) ∧ Below w.heap.size w w' := by
 have HB := as0 (Below.refl w.heap.size w)
 have H : (some (mn (mx a0 0) 1099511627776)) = some r := h
 clear h
 obtain ⟨ji2, hji2⟩ : ∃ j_ : Int, (mx a0 0) = j_ := ⟨_, rfl⟩
 replace H : (some (mn (ji2) 1099511627776)) = some r := by first | (rw [hji2] at H; exact H) | (simp only [hji2] at H ⊢; exact H)
 (try (have hji2l : 0 ≤ ji2 := by (rw [← hji2]; unfold mx; (repeat' split) <;> omega)))
 (try (have hji2m : 0 ≤ ji2 := by omega))
 have hji2_ : (if a0 < 0 then 0 else a0) = ji2 := hji2
 obtain ⟨ji3, hji3⟩ : ∃ j_ : Int, (mn (ji2) 1099511627776) = j_ := ⟨_, rfl⟩
 replace H : (some ji3) = some r := by first | (rw [hji3] at H; exact H) | (simp only [hji3] at H ⊢; exact H)
 have hji3_ : (if 1099511627776 < (ji2) then 1099511627776 else (ji2)) = ji3 := hji3
 obtain rfl := Option.some.inj H
 go_enter Tryz.func83, Tryz.ntmps83
 go_wp2
 go_ret
 exact ⟨by first | rfl | (simp only [Int.ofNat_lt]; rfl) | (simp [errW_none, errW_some] <;> rfl) | (simp only [← hji2, ← hji3]; first | rfl | (simp [errW_none, errW_some] <;> rfl)) | (simp [*, errW_none, errW_some] <;> rfl), by repeat (first | (with_reducible first | exact HB.out | apply z80 | apply z90 | apply z50) | exact HB.out)⟩
def sat_Sub.f (a0 : Int) (a1 : Int) : Option (Int) := (sat_Cut.f a0).bind fun t103 => ((sat_Cut.f a1).bind fun t104 => (some (mx (wrap64 (t103 - t104)) 0)))
theorem sat_Sub.calls (a0 : Int) (a1 : Int) (r : Int) (w : World) (h : sat_Sub.f a0 a1 = some r) :
  Calls Tryz.prog 111 #[.int .i64 a0, .int .i64 a1] w fun e w' => e = .returned (.int .i64 r) ∧ Below w.heap.size w w' := by
 have HB := as0 (Below.refl w.heap.size w)
 have H : ((sat_Cut.f a0).bind fun t103 => ((sat_Cut.f a1).bind fun t104 => (some (mx (wrap64 (t103 - t104)) 0)))) = some r := h
 clear h
 replace H := Option.bind_eq_some_iff.mp H
 obtain ⟨t103, A30, H⟩ := H
 replace H : ((sat_Cut.f a1).bind fun t104 => (some (mx (wrap64 (t103 - t104)) 0))) = some r := H
 have A3 := as0 A30
 clear A30
 replace H := Option.bind_eq_some_iff.mp H
 obtain ⟨t104, A40, H⟩ := H
 replace H : (some (mx (wrap64 (t103 - t104)) 0)) = some r := H
 have A4 := as0 A40
 clear A40
 obtain ⟨ji5, hji5⟩ : ∃ j_ : Int, (mx (wrap64 (t103 - t104)) 0) = j_ := ⟨_, rfl⟩
 replace H : (some ji5) = some r := by first | (rw [hji5] at H; exact H) | (simp only [hji5] at H ⊢; exact H)
 (try rw [hji5] at A3)
 (try rw [hji5] at A4)
 (try (have hji5l : 0 ≤ ji5 := by (rw [← hji5]; unfold mx; (repeat' split) <;> omega)))
 (try (have hji5m : 0 ≤ ji5 := by omega))
 have hji5_ : (if (wrap64 (t103 - t104)) < 0 then 0 else (wrap64 (t103 - t104))) = ji5 := hji5
 obtain rfl := Option.some.inj H
 go_enter Tryz.func111, Tryz.ntmps111
 go_wp2_with (first | ((with_reducible refine zy0 (f := 83) rfl ?_); refine zx1 (some 6) rfl rfl Tryz.func83 (by kernel_rfl) rfl #[.int .i64 a0] rfl (by (try simp only [List.map_toArray, List.map_cons, List.map_nil]); first | done | rfl | (simp only [List.length_drop, List.length_take]; rfl)) ?_; (with_reducible refine (sat_Cut.calls a0 t103 _ A3.out).mono ?_); rintro e w6 ⟨rfl, hb⟩; refine ⟨_, rfl, ?_⟩; have n0_ := as0 (z10 (by repeat (first | (with_reducible first | exact HB.out | apply z80 | apply z90 | apply z50) | exact HB.out)) hb); clear HB; have HB := n0_; clear n0_; (try clear hb); (try clear hb2); (try clear hk); (try clear hi)) | ((with_reducible refine zy0 (f := 83) rfl ?_); refine zx1 (some 8) rfl rfl Tryz.func83 (by kernel_rfl) rfl #[.int .i64 a1] rfl (by (try simp only [List.map_toArray, List.map_cons, List.map_nil]); first | done | rfl | (simp only [List.length_drop, List.length_take]; rfl)) ?_; (with_reducible refine (sat_Cut.calls a1 t104 _ A4.out).mono ?_); rintro e w7 ⟨rfl, hb⟩; refine ⟨_, rfl, ?_⟩; have n0_ := as0 (z10 (by repeat (first | (with_reducible first | exact HB.out | apply z80 | apply z90 | apply z50) | exact HB.out)) hb); clear HB; have HB := n0_; clear n0_; (try clear hb); (try clear hb2); (try clear hk); (try clear hi)))
 go_ret
 exact ⟨by first | rfl | (simp only [Int.ofNat_lt]; rfl) | (simp [errW_none, errW_some] <;> rfl) | (simp only [← hji5]; first | rfl | (simp [errW_none, errW_some] <;> rfl)) | (simp [*, errW_none, errW_some] <;> rfl), by repeat (first | (with_reducible first | exact HB.out | apply z80 | apply z90 | apply z50) | exact HB.out)⟩
def sat_Past.f (a0 : Int) (a1 : Int) : Option (Bool) := (sat_Sub.f a1 a0).bind fun t105 => (some (t105 == 0))
theorem sat_Past.calls (a0 : Int) (a1 : Int) (r : Bool) (w : World) (h : sat_Past.f a0 a1 = some r) :
  Calls Tryz.prog 96 #[.int .i64 a0, .int .i64 a1] w fun e w' => e = .returned (.bool r) ∧ Below w.heap.size w w' := by
 have HB := as0 (Below.refl w.heap.size w)
 have H : ((sat_Sub.f a1 a0).bind fun t105 => (some (t105 == 0))) = some r := h
 clear h
 replace H := Option.bind_eq_some_iff.mp H
 obtain ⟨t105, A30, H⟩ := H
 replace H : (some (t105 == 0)) = some r := H
 have A3 := as0 A30
 clear A30
 obtain rfl := Option.some.inj H
 go_enter Tryz.func96, Tryz.ntmps96
 go_wp2_with (first | ((with_reducible refine zy0 (f := 111) rfl ?_); refine zx1 (some 7) rfl rfl Tryz.func111 (by kernel_rfl) rfl #[.int .i64 a1, .int .i64 a0] rfl (by (try simp only [List.map_toArray, List.map_cons, List.map_nil]); first | done | rfl | (simp only [List.length_drop, List.length_take]; rfl)) ?_; (with_reducible refine (sat_Sub.calls a1 a0 t105 _ A3.out).mono ?_); rintro e w4 ⟨rfl, hb⟩; refine ⟨_, rfl, ?_⟩; have n0_ := as0 (z10 (by repeat (first | (with_reducible first | exact HB.out | apply z80 | apply z90 | apply z50) | exact HB.out)) hb); clear HB; have HB := n0_; clear n0_; (try clear hb); (try clear hb2); (try clear hk); (try clear hi)))
 go_ret
 exact ⟨by first | rfl | (simp only [Int.ofNat_lt]; rfl) | (simp [errW_none, errW_some] <;> rfl) | (simp [*, errW_none, errW_some] <;> rfl), by repeat (first | (with_reducible first | exact HB.out | apply z80 | apply z90 | apply z50) | exact HB.out)⟩
def slices_Index_string_string.l0 : Nat → List ByteArray → ByteArray → Int → Int → Option (Int)
 | 0, _, _, _, _ => none
 | k + 1, x0, x1, x7, x8 => if x8 < x7 then (if 0 ≤ x8 then (if x8 < (x0.length : Int) then (if x1.toList = (rdOf ByteArray.empty x0 x8).toList then (some x8) else (slices_Index_string_string.l0 k x0 x1 x7 (wrap64 (x8 + 1)))) else (none)) else (none)) else (some (-1))
def slices_Index_string_string.f (k : Nat) (l0 : List ByteArray) (a1 : ByteArray) : Option (Int) := slices_Index_string_string.l0 k l0 a1 (l0.length : Int) 0
theorem slices_Index_string_string.calls (k : Nat) (A0 : Option Addr) (c0 : Nat) (l0 : List ByteArray) (a1 : ByteArray) (r : Int) (w : World) (hr0 : Kd.C Kd.string w A0 l0.length l0) (hc0 : l0.length ≤ c0) (h : slices_Index_string_string.f k l0 a1 = some r) :
  Calls Tryz.prog 75 #[.slice A0 l0.length c0, .string a1] w fun e w' => e = .returned (.int .i64 r) ∧ Drawn0 w w' := by
 have HR0 := as0 hr0
 have HC0 := as0 hc0
 clear hr0 hc0
 have H : (slices_Index_string_string.l0 k l0 a1 (l0.length : Int) 0) = some r := h
 clear h
 have H' := as0 H
 clear H
 go_enter Tryz.func75, Tryz.ntmps75
 go_wp2
 go_loopg [8] k (fun kq v8 w' => ∃ (x8_1 : Int), v8 = .int .i64 x8_1 ∧ Aside0 (slices_Index_string_string.l0 kq l0 a1 (l0.length : Int) x8_1 = some r) ∧ Aside0 (kq ≤ k) ∧ Drawn0 w w')
 case atStart => exact ⟨(0), (by first | rfl | (simp; done) | (simp [*]; done)), H', ⟨Nat.le_refl _⟩, by repeat (first | exact Drawn0.refl _ | apply Drawn0.step)⟩
 case round =>
  clear H'
  try clear p2
  obtain ⟨x8_1, rfl, HA, HK1, ⟨m1, rfl⟩⟩ := hrel
  cases gk with
  | zero => exact absurd HA.out (by simp [slices_Index_string_string.l0])
  | succ k1 =>
   have H := HA.out
   clear HA
   simp only [slices_Index_string_string.l0] at H
   by_cases c3 : x8_1 < (l0.length : Int)
   ·rw [if_pos c3] at H
    have c3b0 : decide (x8_1 < (l0.length : Int)) = true := decide_eq_true c3
    clear c3
    by_cases c4 : 0 ≤ x8_1
    ·rw [if_pos c4] at H
     have c4b0 : decide (0 ≤ x8_1) = true := decide_eq_true c4
     clear c4
     by_cases c5 : x8_1 < (l0.length : Int)
     ·rw [if_pos c5] at H
      have c5b0 : decide (x8_1 < (l0.length : Int)) = true := decide_eq_true c5
      clear c5
      by_cases c6 : a1.toList = (rdOf ByteArray.empty l0 x8_1).toList
      ·rw [if_pos c6] at H
       have c6b0 : (a1.toList == (rdOf ByteArray.empty l0 x8_1).toList) = true := beq_iff_eq.mpr c6
       have c6b1 : (a1.toList != (rdOf ByteArray.empty l0 x8_1).toList) = false := bne_eq_false_iff_eq.mpr c6
       clear c6
       obtain rfl := Option.some.inj H
       have p106 : 0 ≤ (x8_1 : Int) := of_decide_eq_true (by first | (with_reducible assumption) | assumption)
       have q106 : x8_1 < (l0.length : Int) := of_decide_eq_true (by first | (with_reducible assumption) | assumption)
       obtain ⟨ad106, e106, hx106_0⟩ := Kd.at_string HR0.out x8_1 p106 q106
       cases e106
       replace p106 := eq_true p106
       replace q106 := eq_true q106
       go_wp2
       go_ret
       exact ⟨by first | rfl | (simp; done) | (simp [*]; done), by repeat (first | exact Drawn0.refl _ | apply Drawn0.step)⟩
      ·rw [if_neg c6] at H
       have c6b0 : (a1.toList == (rdOf ByteArray.empty l0 x8_1).toList) = false := beq_eq_false_iff_ne.mpr c6
       have c6b1 : (a1.toList != (rdOf ByteArray.empty l0 x8_1).toList) = true := bne_iff_ne.mpr c6
       have H' := as0 H
       clear H
       have p106 : 0 ≤ (x8_1 : Int) := of_decide_eq_true (by first | (with_reducible assumption) | assumption)
       have q106 : x8_1 < (l0.length : Int) := of_decide_eq_true (by first | (with_reducible assumption) | assumption)
       obtain ⟨ad106, e106, hx106_0⟩ := Kd.at_string HR0.out x8_1 p106 q106
       cases e106
       replace p106 := eq_true p106
       replace q106 := eq_true q106
       go_wp2
       go_roundg k1
       case measure => have := HK1.out; omega
       case rel => exact ⟨(wrap64 (x8_1 + 1)), (by first | rfl | (simp; done) | (simp [*]; done)), H', ⟨by have := HK1.out; omega⟩, by repeat (first | exact Drawn0.refl _ | apply Drawn0.step)⟩
     ·rw [if_neg c5] at H
      exact absurd H (by simp)
    ·rw [if_neg c4] at H
     exact absurd H (by simp)
   ·rw [if_neg c3] at H
    have c3b0 : decide (x8_1 < (l0.length : Int)) = false := decide_eq_false c3
    clear c3
    obtain rfl := Option.some.inj H
    go_wp2
    go_ret
    exact ⟨by first | rfl | (simp; done) | (simp [*]; done), by repeat (first | exact Drawn0.refl _ | apply Drawn0.step)⟩
def slices_Contains_string_string.f (k : Nat) (l0 : List ByteArray) (a1 : ByteArray) : Option (Bool) := (slices_Index_string_string.f k l0 a1).bind fun t107 => (some (decide (t107 ≥ 0)))
theorem slices_Contains_string_string.calls (k : Nat) (A0 : Option Addr) (c0 : Nat) (l0 : List ByteArray) (a1 : ByteArray) (r : Bool) (w : World) (hr0 : Kd.C Kd.string w A0 l0.length l0) (hc0 : l0.length ≤ c0) (h : slices_Contains_string_string.f k l0 a1 = some r) :
  Calls Tryz.prog 44 #[.slice A0 l0.length c0, .string a1] w fun e w' => e = .returned (.bool r) ∧ Drawn0 w w' := by
 have HR0 := as0 hr0
 have HC0 := as0 hc0
 clear hr0 hc0
 have H : ((slices_Index_string_string.f k l0 a1).bind fun t107 => (some (decide (t107 ≥ 0)))) = some r := h
 clear h
 replace H := Option.bind_eq_some_iff.mp H
 obtain ⟨t107, A30, H⟩ := H
 replace H : (some (decide (t107 ≥ 0))) = some r := H
 have A3 := as0 A30
 clear A30
 obtain rfl := Option.some.inj H
 go_enter Tryz.func44, Tryz.ntmps44
 go_wp2_with (first | ((with_reducible refine zy0 (f := 75) rfl ?_); refine zx1 (some 7) rfl rfl Tryz.func75 (by kernel_rfl) rfl #[.slice A0 l0.length c0, .string a1] rfl (by (try simp only [List.map_toArray, List.map_cons, List.map_nil]); first | done | rfl | (simp only [List.length_drop, List.length_take]; rfl)) ?_; (with_reducible refine (slices_Index_string_string.calls k _ _ l0 a1 t107 _ ?side1 ?side2 A3.out).mono ?_); (case side1 => repeat (first | exact HR0.out | (with_reducible refine Kd.C_alloc ?_ _) | (with_reducible refine Kd.C_drewN ?_ _) | (with_reducible refine Kd.C_drew ?_))); (case side2 => exact HC0.out); rintro e w' ⟨rfl, ⟨nd, rfl⟩⟩; refine ⟨_, rfl, ?_⟩))
 go_ret
 exact ⟨by first | rfl | (simp; done) | (simp [*]; done), by repeat (first | exact Drawn0.refl _ | apply Drawn0.step)⟩
def guard_active.l0 : Nat → Int → List Int → Int → Int → Option (Int)
 | 0, _, _, _, _ => none
 | k + 1, x3, x6, x7, x8 => if x8 < x7 then (if 0 ≤ x8 then (if x8 < (x6.length : Int) then (if (rd x6 x8) = 0 then (guard_active.l0 k (wrap64 (x3 + 1)) x6 x7 (wrap64 (x8 + 1))) else (guard_active.l0 k x3 x6 x7 (wrap64 (x8 + 1)))) else (none)) else (none)) else (some x3)
def guard_active.f (k : Nat) (l0 : List Int) : Option (Int) := guard_active.l0 k 0 l0 (l0.length : Int) 0
theorem guard_active.calls (k : Nat) (A0 : Option Addr) (c0 : Nat) (l0 : List Int) (r : Int) (w : World) (hr0 : Kd.C (Kd.int .i64) w A0 l0.length l0) (hc0 : l0.length ≤ c0) (h : guard_active.f k l0 = some r) :
  Calls Tryz.prog 84 #[.slice A0 l0.length c0] w fun e w' => e = .returned (.int .i64 r) ∧ Drawn0 w w' := by
 have HR0 := as0 hr0
 have HC0 := as0 hc0
 clear hr0 hc0
 have H : (guard_active.l0 k 0 l0 (l0.length : Int) 0) = some r := h
 clear h
 have H' := as0 H
 clear H
 go_enter Tryz.func84, Tryz.ntmps84
 go_wp2
 go_loopg [3, 8] k (fun kq v3 v8 w' => ∃ (x3_1 : Int) (x8_1 : Int), v3 = .int .i64 x3_1 ∧ v8 = .int .i64 x8_1 ∧ Aside0 (guard_active.l0 kq x3_1 l0 (l0.length : Int) x8_1 = some r) ∧ Aside0 (kq ≤ k) ∧ Drawn0 w w')
 case atStart => exact ⟨(0), (0), (by first | rfl | (simp; done) | (simp [*]; done)), (by first | rfl | (simp; done) | (simp [*]; done)), H', ⟨Nat.le_refl _⟩, by repeat (first | exact Drawn0.refl _ | apply Drawn0.step)⟩
 case round =>
  clear H'
  obtain ⟨x3_1, x8_1, rfl, rfl, HA, HK1, ⟨m1, rfl⟩⟩ := hrel
  cases gk with
  | zero => exact absurd HA.out (by simp [guard_active.l0])
  | succ k1 =>
   have H := HA.out
   clear HA
   simp only [guard_active.l0] at H
   by_cases c2 : x8_1 < (l0.length : Int)
   ·rw [if_pos c2] at H
    have c2b0 : decide (x8_1 < (l0.length : Int)) = true := decide_eq_true c2
    clear c2
    by_cases c3 : 0 ≤ x8_1
    ·rw [if_pos c3] at H
     have c3b0 : decide (0 ≤ x8_1) = true := decide_eq_true c3
     clear c3
     by_cases c4 : x8_1 < (l0.length : Int)
     ·rw [if_pos c4] at H
      have c4b0 : decide (x8_1 < (l0.length : Int)) = true := decide_eq_true c4
      clear c4
      by_cases c5 : (rd l0 x8_1) = 0
      ·rw [if_pos c5] at H
       have c5b0 : ((rd l0 x8_1) == 0) = true := beq_iff_eq.mpr c5
       have c5b1 : ((rd l0 x8_1) != 0) = false := bne_eq_false_iff_eq.mpr c5
       clear c5
       have H' := as0 H
       clear H
       have p108 : 0 ≤ (x8_1 : Int) := of_decide_eq_true (by first | (with_reducible assumption) | assumption)
       have q108 : x8_1 < (l0.length : Int) := of_decide_eq_true (by first | (with_reducible assumption) | assumption)
       obtain ⟨ad108, e108, hx108_0⟩ := Kd.at_int HR0.out x8_1 p108 q108
       cases e108
       replace p108 := eq_true p108
       replace q108 := eq_true q108
       go_wp2
       go_roundg k1
       case measure => have := HK1.out; omega
       case rel => exact ⟨(wrap64 (x3_1 + 1)), (wrap64 (x8_1 + 1)), (by first | rfl | (simp; done) | (simp [*]; done)), (by first | rfl | (simp; done) | (simp [*]; done)), H', ⟨by have := HK1.out; omega⟩, by repeat (first | exact Drawn0.refl _ | apply Drawn0.step)⟩
      ·rw [if_neg c5] at H
       have c5b0 : ((rd l0 x8_1) == 0) = false := beq_eq_false_iff_ne.mpr c5
       have c5b1 : ((rd l0 x8_1) != 0) = true := bne_iff_ne.mpr c5
       have H' := as0 H
       clear H
       have p108 : 0 ≤ (x8_1 : Int) := of_decide_eq_true (by first | (with_reducible assumption) | assumption)
       have q108 : x8_1 < (l0.length : Int) := of_decide_eq_true (by first | (with_reducible assumption) | assumption)
       obtain ⟨ad108, e108, hx108_0⟩ := Kd.at_int HR0.out x8_1 p108 q108
       cases e108
       replace p108 := eq_true p108
       replace q108 := eq_true q108
       go_wp2
       go_roundg k1
       case measure => have := HK1.out; omega
       case rel => exact ⟨(x3_1), (wrap64 (x8_1 + 1)), (by first | rfl | (simp; done) | (simp [*]; done)), (by first | rfl | (simp; done) | (simp [*]; done)), H', ⟨by have := HK1.out; omega⟩, by repeat (first | exact Drawn0.refl _ | apply Drawn0.step)⟩
     ·rw [if_neg c4] at H
      exact absurd H (by simp)
    ·rw [if_neg c3] at H
     exact absurd H (by simp)
   ·rw [if_neg c2] at H
    have c2b0 : decide (x8_1 < (l0.length : Int)) = false := decide_eq_false c2
    clear c2
    obtain rfl := Option.some.inj H
    go_wp2
    go_ret
    exact ⟨by first | rfl | (simp; done) | (simp [*]; done), by repeat (first | exact Drawn0.refl _ | apply Drawn0.step)⟩
def guard_Capacity.f (k : Nat) (l0 : List Int) (a1 : Int) : Option (Int) := (guard_active.f k l0).bind fun t109 => (some (wrap64 (t109 * (mx a1 0))))
theorem guard_Capacity.calls (k : Nat) (A0 : Option Addr) (c0 : Nat) (l0 : List Int) (a1 : Int) (r : Int) (w : World) (hr0 : Kd.C (Kd.int .i64) w A0 l0.length l0) (hc0 : l0.length ≤ c0) (h : guard_Capacity.f k l0 a1 = some r) :
  Calls Tryz.prog 56 #[.slice A0 l0.length c0, .int .i64 a1] w fun e w' => e = .returned (.int .i64 r) ∧ Below w.heap.size w w' := by
 have HR0 := as0 hr0
 have HC0 := as0 hc0
 clear hr0 hc0
 have HB := as0 (Below.refl w.heap.size w)
 have H : ((guard_active.f k l0).bind fun t109 => (some (wrap64 (t109 * (mx a1 0))))) = some r := h
 clear h
 replace H := Option.bind_eq_some_iff.mp H
 obtain ⟨t109, A30, H⟩ := H
 replace H : (some (wrap64 (t109 * (mx a1 0)))) = some r := H
 have A3 := as0 A30
 clear A30
 obtain ⟨ji4, hji4⟩ : ∃ j_ : Int, (mx a1 0) = j_ := ⟨_, rfl⟩
 replace H : (some (wrap64 (t109 * (ji4)))) = some r := by first | (rw [hji4] at H; exact H) | (simp only [hji4] at H ⊢; exact H)
 (try rw [hji4] at A3)
 (try (have hji4l : 0 ≤ ji4 := by (rw [← hji4]; unfold mx; (repeat' split) <;> omega)))
 (try (have hji4m : 0 ≤ ji4 := by omega))
 have hji4_ : (if a1 < 0 then 0 else a1) = ji4 := hji4
 obtain rfl := Option.some.inj H
 go_enter Tryz.func56, Tryz.ntmps56
 go_wp2_with (first | ((with_reducible refine zy0 (f := 84) rfl ?_); refine zx1 (some 6) rfl rfl Tryz.func84 (by kernel_rfl) rfl #[.slice A0 l0.length c0] rfl (by (try simp only [List.map_toArray, List.map_cons, List.map_nil]); first | done | rfl | (simp only [List.length_drop, List.length_take]; rfl)) ?_; (with_reducible refine (guard_active.calls k _ _ l0 t109 _ ?side1 ?side2 A3.out).mono ?_); (case side1 => repeat (first | exact HR0.out | (with_reducible refine Kd.C_alloc ?_ _) | (with_reducible refine Kd.C_drewN ?_ _) | (with_reducible refine Kd.C_drew ?_))); (case side2 => exact HC0.out); rintro e w' ⟨rfl, ⟨nd, rfl⟩⟩; refine ⟨_, rfl, ?_⟩))
 go_ret
 exact ⟨by first | rfl | (simp only [Int.ofNat_lt]; rfl) | (simp [errW_none, errW_some] <;> rfl) | (simp only [← hji4]; first | rfl | (simp [errW_none, errW_some] <;> rfl)) | (simp [*, errW_none, errW_some] <;> rfl), by repeat (first | (with_reducible first | exact HB.out | apply z80 | apply z90 | apply z50) | exact HB.out)⟩
def guard_Without.f (k : Nat) (l0 : List Int) (a1 : Int) (a2 : Int) : Option (Int) := (guard_Capacity.f k l0 a2).bind fun t110 => (if a1 ≥ 0 then (if a1 < (l0.length : Int) then (if 0 ≤ a1 then (if (rd l0 a1) = 0 then (some (wrap64 (t110 - (mx a2 0)))) else (some t110)) else (none)) else (some t110)) else (some t110))
theorem guard_Without.calls (k : Nat) (A0 : Option Addr) (c0 : Nat) (l0 : List Int) (a1 : Int) (a2 : Int) (r : Int) (w : World) (hr0 : Kd.C (Kd.int .i64) w A0 l0.length l0) (hc0 : l0.length ≤ c0) (h : guard_Without.f k l0 a1 a2 = some r) :
  Calls Tryz.prog 108 #[.slice A0 l0.length c0, .int .i64 a1, .int .i64 a2] w fun e w' => e = .returned (.int .i64 r) ∧ Below w.heap.size w w' := by
 have HR0 := as0 hr0
 have HC0 := as0 hc0
 clear hr0 hc0
 have HB := as0 (Below.refl w.heap.size w)
 have H : ((guard_Capacity.f k l0 a2).bind fun t110 => (if a1 ≥ 0 then (if a1 < (l0.length : Int) then (if 0 ≤ a1 then (if (rd l0 a1) = 0 then (some (wrap64 (t110 - (mx a2 0)))) else (some t110)) else (none)) else (some t110)) else (some t110))) = some r := h
 clear h
 replace H := Option.bind_eq_some_iff.mp H
 obtain ⟨t110, A40, H⟩ := H
 replace H : (if a1 ≥ 0 then (if a1 < (l0.length : Int) then (if 0 ≤ a1 then (if (rd l0 a1) = 0 then (some (wrap64 (t110 - (mx a2 0)))) else (some t110)) else (none)) else (some t110)) else (some t110)) = some r := H
 have A4 := as0 A40
 clear A40
 by_cases c5 : a1 ≥ 0
 ·rw [if_pos c5] at H
  have c5b0 : decide (0 ≤ a1) = true := decide_eq_true c5
  clear c5
  by_cases c6 : a1 < (l0.length : Int)
  ·rw [if_pos c6] at H
   have c6b0 : decide (a1 < (l0.length : Int)) = true := decide_eq_true c6
   clear c6
   by_cases c7 : 0 ≤ a1
   ·rw [if_pos c7] at H
    have c7b0 : decide (0 ≤ a1) = true := decide_eq_true c7
    clear c7
    by_cases c8 : (rd l0 a1) = 0
    ·rw [if_pos c8] at H
     have c8b0 : ((rd l0 a1) == 0) = true := beq_iff_eq.mpr c8
     have c8b1 : ((rd l0 a1) != 0) = false := bne_eq_false_iff_eq.mpr c8
     clear c8
     obtain ⟨ji9, hji9⟩ : ∃ j_ : Int, (mx a2 0) = j_ := ⟨_, rfl⟩
     replace H : (some (wrap64 (t110 - (ji9)))) = some r := by first | (rw [hji9] at H; exact H) | (simp only [hji9] at H ⊢; exact H)
     (try rw [hji9] at A4)
     (try (have hji9l : 0 ≤ ji9 := by (rw [← hji9]; unfold mx; (repeat' split) <;> omega)))
     (try (have hji9m : 0 ≤ ji9 := by omega))
     have hji9_ : (if a2 < 0 then 0 else a2) = ji9 := hji9
     obtain rfl := Option.some.inj H
     go_enter Tryz.func108, Tryz.ntmps108
     go_wp2_with (first | ((with_reducible refine zy0 (f := 56) rfl ?_); refine zx1 (some 10) rfl rfl Tryz.func56 (by kernel_rfl) rfl #[.slice A0 l0.length c0, .int .i64 a2] rfl (by (try simp only [List.map_toArray, List.map_cons, List.map_nil]); first | done | rfl | (simp only [List.length_drop, List.length_take]; rfl)) ?_; (with_reducible refine (guard_Capacity.calls k _ _ l0 a2 t110 _ ?side1 ?side2 A4.out).mono ?_); (case side1 => repeat (first | exact HR0.out | (with_reducible refine Kd.C_alloc ?_ _) | (with_reducible refine Kd.C_drewN ?_ _) | (with_reducible refine Kd.C_drew ?_))); (case side2 => exact HC0.out); rintro e w10 ⟨rfl, hb⟩; refine ⟨_, rfl, ?_⟩; have n0_ := as0 (z10 (by repeat (first | (with_reducible first | exact HB.out | apply z80 | apply z90 | apply z50) | exact HB.out)) hb); clear HB; have HB := n0_; clear n0_; (try clear hb); (try clear hb2); (try clear hk); (try clear hi); have p111 : 0 ≤ (a1 : Int) := of_decide_eq_true (by first | (with_reducible assumption) | assumption); have q111 : a1 < (l0.length : Int) := of_decide_eq_true (by first | (with_reducible assumption) | assumption); obtain ⟨ad111, e111, hx111_0⟩ := Kd.at_int HR0.out a1 p111 q111; cases e111; replace hx111_0 := (HB.out.cell (World.block_lt_of_cell? w _ hx111_0)).trans hx111_0; replace p111 := eq_true p111; replace q111 := eq_true q111))
     go_ret
     exact ⟨by first | rfl | (simp only [Int.ofNat_lt]; rfl) | (simp [errW_none, errW_some] <;> rfl) | (simp only [← hji9]; first | rfl | (simp [errW_none, errW_some] <;> rfl)) | (simp [*, errW_none, errW_some] <;> rfl), by repeat (first | (with_reducible first | exact HB.out | apply z80 | apply z90 | apply z50) | exact HB.out)⟩
    ·rw [if_neg c8] at H
     have c8b0 : ((rd l0 a1) == 0) = false := beq_eq_false_iff_ne.mpr c8
     have c8b1 : ((rd l0 a1) != 0) = true := bne_iff_ne.mpr c8
     obtain rfl := Option.some.inj H
     go_enter Tryz.func108, Tryz.ntmps108
     go_wp2_with (first | ((with_reducible refine zy0 (f := 56) rfl ?_); refine zx1 (some 10) rfl rfl Tryz.func56 (by kernel_rfl) rfl #[.slice A0 l0.length c0, .int .i64 a2] rfl (by (try simp only [List.map_toArray, List.map_cons, List.map_nil]); first | done | rfl | (simp only [List.length_drop, List.length_take]; rfl)) ?_; (with_reducible refine (guard_Capacity.calls k _ _ l0 a2 t110 _ ?side1 ?side2 A4.out).mono ?_); (case side1 => repeat (first | exact HR0.out | (with_reducible refine Kd.C_alloc ?_ _) | (with_reducible refine Kd.C_drewN ?_ _) | (with_reducible refine Kd.C_drew ?_))); (case side2 => exact HC0.out); rintro e w11 ⟨rfl, hb⟩; refine ⟨_, rfl, ?_⟩; have n0_ := as0 (z10 (by repeat (first | (with_reducible first | exact HB.out | apply z80 | apply z90 | apply z50) | exact HB.out)) hb); clear HB; have HB := n0_; clear n0_; (try clear hb); (try clear hb2); (try clear hk); (try clear hi); have p111 : 0 ≤ (a1 : Int) := of_decide_eq_true (by first | (with_reducible assumption) | assumption); have q111 : a1 < (l0.length : Int) := of_decide_eq_true (by first | (with_reducible assumption) | assumption); obtain ⟨ad111, e111, hx111_0⟩ := Kd.at_int HR0.out a1 p111 q111; cases e111; replace hx111_0 := (HB.out.cell (World.block_lt_of_cell? w _ hx111_0)).trans hx111_0; replace p111 := eq_true p111; replace q111 := eq_true q111))
     go_ret
     exact ⟨by first | rfl | (simp only [Int.ofNat_lt]; rfl) | (simp [errW_none, errW_some] <;> rfl) | (simp [*, errW_none, errW_some] <;> rfl), by repeat (first | (with_reducible first | exact HB.out | apply z80 | apply z90 | apply z50) | exact HB.out)⟩
   ·rw [if_neg c7] at H
    exact absurd H (by simp)
  ·rw [if_neg c6] at H
   have c6b0 : decide (a1 < (l0.length : Int)) = false := decide_eq_false c6
   clear c6
   obtain rfl := Option.some.inj H
   go_enter Tryz.func108, Tryz.ntmps108
   go_wp2_with (first | ((with_reducible refine zy0 (f := 56) rfl ?_); refine zx1 (some 10) rfl rfl Tryz.func56 (by kernel_rfl) rfl #[.slice A0 l0.length c0, .int .i64 a2] rfl (by (try simp only [List.map_toArray, List.map_cons, List.map_nil]); first | done | rfl | (simp only [List.length_drop, List.length_take]; rfl)) ?_; (with_reducible refine (guard_Capacity.calls k _ _ l0 a2 t110 _ ?side1 ?side2 A4.out).mono ?_); (case side1 => repeat (first | exact HR0.out | (with_reducible refine Kd.C_alloc ?_ _) | (with_reducible refine Kd.C_drewN ?_ _) | (with_reducible refine Kd.C_drew ?_))); (case side2 => exact HC0.out); rintro e w12 ⟨rfl, hb⟩; refine ⟨_, rfl, ?_⟩; have n0_ := as0 (z10 (by repeat (first | (with_reducible first | exact HB.out | apply z80 | apply z90 | apply z50) | exact HB.out)) hb); clear HB; have HB := n0_; clear n0_; (try clear hb); (try clear hb2); (try clear hk); (try clear hi)))
   go_ret
   exact ⟨by first | rfl | (simp only [Int.ofNat_lt]; rfl) | (simp [errW_none, errW_some] <;> rfl) | (simp [*, errW_none, errW_some] <;> rfl), by repeat (first | (with_reducible first | exact HB.out | apply z80 | apply z90 | apply z50) | exact HB.out)⟩
 ·rw [if_neg c5] at H
  have c5b0 : decide (0 ≤ a1) = false := decide_eq_false c5
  clear c5
  obtain rfl := Option.some.inj H
  go_enter Tryz.func108, Tryz.ntmps108
  go_wp2_with (first | ((with_reducible refine zy0 (f := 56) rfl ?_); refine zx1 (some 10) rfl rfl Tryz.func56 (by kernel_rfl) rfl #[.slice A0 l0.length c0, .int .i64 a2] rfl (by (try simp only [List.map_toArray, List.map_cons, List.map_nil]); first | done | rfl | (simp only [List.length_drop, List.length_take]; rfl)) ?_; (with_reducible refine (guard_Capacity.calls k _ _ l0 a2 t110 _ ?side1 ?side2 A4.out).mono ?_); (case side1 => repeat (first | exact HR0.out | (with_reducible refine Kd.C_alloc ?_ _) | (with_reducible refine Kd.C_drewN ?_ _) | (with_reducible refine Kd.C_drew ?_))); (case side2 => exact HC0.out); rintro e w13 ⟨rfl, hb⟩; refine ⟨_, rfl, ?_⟩; have n0_ := as0 (z10 (by repeat (first | (with_reducible first | exact HB.out | apply z80 | apply z90 | apply z50) | exact HB.out)) hb); clear HB; have HB := n0_; clear n0_; (try clear hb); (try clear hb2); (try clear hk); (try clear hi)))
  go_ret
  exact ⟨by first | rfl | (simp only [Int.ofNat_lt]; rfl) | (simp [errW_none, errW_some] <;> rfl) | (simp [*, errW_none, errW_some] <;> rfl), by repeat (first | (with_reducible first | exact HB.out | apply z80 | apply z90 | apply z50) | exact HB.out)⟩
def guard_May.f (k : Nat) (l0 : List Int) (a1 : Int) (a2 : Int) (a3 : Int) : Option (Bool) := if a1 < 0 then (some false) else (if a1 ≥ (l0.length : Int) then (some false) else (if 0 ≤ a1 then (if a1 < (l0.length : Int) then (if (rd l0 a1) = 0 then ((guard_Without.f k l0 a1 a2).bind fun t113 => (some (decide (t113 ≥ a3)))) else (some true)) else (none)) else (none)))
theorem guard_May.calls (k : Nat) (A0 : Option Addr) (c0 : Nat) (l0 : List Int) (a1 : Int) (a2 : Int) (a3 : Int) (r : Bool) (w : World) (hr0 : Kd.C (Kd.int .i64) w A0 l0.length l0) (hc0 : l0.length ≤ c0) (h : guard_May.f k l0 a1 a2 a3 = some r) :
  Calls Tryz.prog 82 #[.slice A0 l0.length c0, .int .i64 a1, .int .i64 a2, .int .i64 a3] w fun e w' => e = .returned (.bool r) ∧ Below w.heap.size w w' := by
 have HR0 := as0 hr0
 have HC0 := as0 hc0
 clear hr0 hc0
 have HB := as0 (Below.refl w.heap.size w)
 have H : (if a1 < 0 then (some false) else (if a1 ≥ (l0.length : Int) then (some false) else (if 0 ≤ a1 then (if a1 < (l0.length : Int) then (if (rd l0 a1) = 0 then ((guard_Without.f k l0 a1 a2).bind fun t113 => (some (decide (t113 ≥ a3)))) else (some true)) else (none)) else (none)))) = some r := h
 clear h
 by_cases c5 : a1 < 0
 ·rw [if_pos c5] at H
  have c5b0 : decide (a1 < 0) = true := decide_eq_true c5
  clear c5
  obtain rfl := Option.some.inj H
  go_enter Tryz.func82, Tryz.ntmps82
  go_wp2
  go_ret
  exact ⟨by first | rfl | (simp only [Int.ofNat_lt]; rfl) | (simp [errW_none, errW_some] <;> rfl) | (simp [*, errW_none, errW_some] <;> rfl), by repeat (first | (with_reducible first | exact HB.out | apply z80 | apply z90 | apply z50) | exact HB.out)⟩
 ·rw [if_neg c5] at H
  have c5b0 : decide (a1 < 0) = false := decide_eq_false c5
  clear c5
  by_cases c6 : a1 ≥ (l0.length : Int)
  ·rw [if_pos c6] at H
   have c6b0 : decide ((l0.length : Int) ≤ a1) = true := decide_eq_true c6
   clear c6
   obtain rfl := Option.some.inj H
   go_enter Tryz.func82, Tryz.ntmps82
   go_wp2
   go_ret
   exact ⟨by first | rfl | (simp only [Int.ofNat_lt]; rfl) | (simp [errW_none, errW_some] <;> rfl) | (simp [*, errW_none, errW_some] <;> rfl), by repeat (first | (with_reducible first | exact HB.out | apply z80 | apply z90 | apply z50) | exact HB.out)⟩
  ·rw [if_neg c6] at H
   have c6b0 : decide ((l0.length : Int) ≤ a1) = false := decide_eq_false c6
   clear c6
   by_cases c7 : 0 ≤ a1
   ·rw [if_pos c7] at H
    have c7b0 : decide (0 ≤ a1) = true := decide_eq_true c7
    clear c7
    by_cases c8 : a1 < (l0.length : Int)
    ·rw [if_pos c8] at H
     have c8b0 : decide (a1 < (l0.length : Int)) = true := decide_eq_true c8
     clear c8
     by_cases c9 : (rd l0 a1) = 0
     ·rw [if_pos c9] at H
      have c9b0 : ((rd l0 a1) == 0) = true := beq_iff_eq.mpr c9
      have c9b1 : ((rd l0 a1) != 0) = false := bne_eq_false_iff_eq.mpr c9
      clear c9
      replace H := Option.bind_eq_some_iff.mp H
      obtain ⟨t113, A100, H⟩ := H
      replace H : (some (decide (t113 ≥ a3))) = some r := H
      have A10 := as0 A100
      clear A100
      obtain rfl := Option.some.inj H
      have p112 : 0 ≤ (a1 : Int) := of_decide_eq_true (by first | (with_reducible assumption) | assumption)
      have q112 : a1 < (l0.length : Int) := of_decide_eq_true (by first | (with_reducible assumption) | assumption)
      obtain ⟨ad112, e112, hx112_0⟩ := Kd.at_int HR0.out a1 p112 q112
      cases e112
      replace p112 := eq_true p112
      replace q112 := eq_true q112
      go_enter Tryz.func82, Tryz.ntmps82
      go_wp2_with (first | (go_at_call 108; (with_reducible refine (guard_Without.calls k _ _ l0 a1 a2 t113 _ ?side1 ?side2 A10.out).mono ?_); (case side1 => repeat (first | exact HR0.out | (with_reducible refine Kd.C_alloc ?_ _) | (with_reducible refine Kd.C_drewN ?_ _) | (with_reducible refine Kd.C_drew ?_))); (case side2 => exact HC0.out); rintro e w11 ⟨rfl, hb⟩; have n0_ := as0 (z10 (by repeat (first | (with_reducible first | exact HB.out | apply z80 | apply z90 | apply z50) | exact HB.out)) hb); clear HB; have HB := n0_; clear n0_; (try clear hb); (try clear hb2); (try clear hk); (try clear hi)))
      go_ret
      exact ⟨by first | rfl | (simp only [Int.ofNat_lt]; rfl) | (simp [errW_none, errW_some] <;> rfl) | (simp [*, errW_none, errW_some] <;> rfl), by repeat (first | (with_reducible first | exact HB.out | apply z80 | apply z90 | apply z50) | exact HB.out)⟩
     ·rw [if_neg c9] at H
      have c9b0 : ((rd l0 a1) == 0) = false := beq_eq_false_iff_ne.mpr c9
      have c9b1 : ((rd l0 a1) != 0) = true := bne_iff_ne.mpr c9
      obtain rfl := Option.some.inj H
      have p112 : 0 ≤ (a1 : Int) := of_decide_eq_true (by first | (with_reducible assumption) | assumption)
      have q112 : a1 < (l0.length : Int) := of_decide_eq_true (by first | (with_reducible assumption) | assumption)
      obtain ⟨ad112, e112, hx112_0⟩ := Kd.at_int HR0.out a1 p112 q112
      cases e112
      replace p112 := eq_true p112
      replace q112 := eq_true q112
      go_enter Tryz.func82, Tryz.ntmps82
      go_wp2
      go_ret
      exact ⟨by first | rfl | (simp only [Int.ofNat_lt]; rfl) | (simp [errW_none, errW_some] <;> rfl) | (simp [*, errW_none, errW_some] <;> rfl), by repeat (first | (with_reducible first | exact HB.out | apply z80 | apply z90 | apply z50) | exact HB.out)⟩
    ·rw [if_neg c8] at H
     exact absurd H (by simp)
   ·rw [if_neg c7] at H
    exact absurd H (by simp)
def hostlerref09_Same.l0 : Nat → List ByteArray → List ByteArray → Int → Option (Bool)
 | 0, _, _, _ => none
 | k + 1, x0, x1, x5 => if x5 < (x0.length : Int) then (if 0 ≤ x5 then (if x5 < (x1.length : Int) then (if (rdOf ByteArray.empty x0 x5).toList = (rdOf ByteArray.empty x1 x5).toList then (hostlerref09_Same.l0 k x0 x1 (wrap64 (x5 + 1))) else (some false)) else (none)) else (none)) else (some true)
def hostlerref09_Same.f (k : Nat) (l0 : List ByteArray) (l1 : List ByteArray) : Option (Bool) := if (l0.length : Int) = (l1.length : Int) then (hostlerref09_Same.l0 k l0 l1 0) else (some false)
theorem hostlerref09_Same.calls (k : Nat) (A0 : Option Addr) (c0 : Nat) (l0 : List ByteArray) (A1 : Option Addr) (c1 : Nat) (l1 : List ByteArray) (r : Bool) (w : World) (hr0 : Kd.C Kd.string w A0 l0.length l0) (hc0 : l0.length ≤ c0) (hr1 : Kd.C Kd.string w A1 l1.length l1) (hc1 : l1.length ≤ c1) (h : hostlerref09_Same.f k l0 l1 = some r) :
  Calls Tryz.prog 31 #[.slice A0 l0.length c0, .slice A1 l1.length c1] w fun e w' => e = .returned (.bool r) ∧ Drawn0 w w' := by
 have HR0 := as0 hr0
 have HC0 := as0 hc0
 clear hr0 hc0
 have HR1 := as0 hr1
 have HC1 := as0 hc1
 clear hr1 hc1
 have H : (if (l0.length : Int) = (l1.length : Int) then (hostlerref09_Same.l0 k l0 l1 0) else (some false)) = some r := h
 clear h
 by_cases c3 : (l0.length : Int) = (l1.length : Int)
 ·rw [if_pos c3] at H
  have c3b0 : ((l0.length : Int) == (l1.length : Int)) = true := beq_iff_eq.mpr c3
  have c3b1 : ((l0.length : Int) != (l1.length : Int)) = false := bne_eq_false_iff_eq.mpr c3
  have c3b2 : (l0.length == l1.length) = true := by first | simpa using c3 | (simp at c3 ⊢; omega)
  clear c3
  have H' := as0 H
  clear H
  go_enter Tryz.func31, Tryz.ntmps31
  go_wp2
  repeat (go_quiet (fail); try go_wp2)
  go_loopg [5] k (fun kq v5 w' => ∃ (x5_1 : Int), v5 = .int .i64 x5_1 ∧ Aside0 (hostlerref09_Same.l0 kq l0 l1 x5_1 = some r) ∧ Aside0 (kq ≤ k) ∧ Drawn0 w w')
  case atStart => exact ⟨(0), (by first | rfl | (simp; done) | (simp [*]; done)), H', ⟨Nat.le_refl _⟩, by repeat (first | exact Drawn0.refl _ | apply Drawn0.step)⟩
  case round =>
   clear H'
   try clear c1
   try clear p2
   try clear c3
   try clear c3b0
   try clear c3b1
   try clear c3b2
   obtain ⟨x5_1, rfl, HA, HK1, ⟨m1, rfl⟩⟩ := hrel
   cases gk with
   | zero => exact absurd HA.out (by simp [hostlerref09_Same.l0])
   | succ k1 =>
    have H := HA.out
    clear HA
    simp only [hostlerref09_Same.l0] at H
    by_cases c4 : x5_1 < (l0.length : Int)
    ·rw [if_pos c4] at H
     have c4b0 : decide (x5_1 < (l0.length : Int)) = true := decide_eq_true c4
     clear c4
     by_cases c5 : 0 ≤ x5_1
     ·rw [if_pos c5] at H
      have c5b0 : decide (0 ≤ x5_1) = true := decide_eq_true c5
      clear c5
      by_cases c6 : x5_1 < (l1.length : Int)
      ·rw [if_pos c6] at H
       have c6b0 : decide (x5_1 < (l1.length : Int)) = true := decide_eq_true c6
       clear c6
       by_cases c7 : (rdOf ByteArray.empty l0 x5_1).toList = (rdOf ByteArray.empty l1 x5_1).toList
       ·rw [if_pos c7] at H
        have c7b0 : ((rdOf ByteArray.empty l0 x5_1).toList == (rdOf ByteArray.empty l1 x5_1).toList) = true := beq_iff_eq.mpr c7
        have c7b1 : ((rdOf ByteArray.empty l0 x5_1).toList != (rdOf ByteArray.empty l1 x5_1).toList) = false := bne_eq_false_iff_eq.mpr c7
        clear c7
        have H' := as0 H
        clear H
        have p114 : 0 ≤ (x5_1 : Int) := of_decide_eq_true (by first | (with_reducible assumption) | assumption)
        have q114 : x5_1 < (l0.length : Int) := of_decide_eq_true (by first | (with_reducible assumption) | assumption)
        obtain ⟨ad114, e114, hx114_0⟩ := Kd.at_string HR0.out x5_1 p114 q114
        cases e114
        replace p114 := eq_true p114
        replace q114 := eq_true q114
        have p115 : 0 ≤ (x5_1 : Int) := of_decide_eq_true (by first | (with_reducible assumption) | assumption)
        have q115 : x5_1 < (l1.length : Int) := of_decide_eq_true (by first | (with_reducible assumption) | assumption)
        obtain ⟨ad115, e115, hx115_0⟩ := Kd.at_string HR1.out x5_1 p115 q115
        cases e115
        replace p115 := eq_true p115
        replace q115 := eq_true q115
        go_wp2
        repeat (go_quiet (fail); try go_wp2)
        go_roundg k1
        case measure => have := HK1.out; omega
        case rel => exact ⟨(wrap64 (x5_1 + 1)), (by first | rfl | (simp; done) | (simp [*]; done)), H', ⟨by have := HK1.out; omega⟩, by repeat (first | exact Drawn0.refl _ | apply Drawn0.step)⟩
       ·rw [if_neg c7] at H
        have c7b0 : ((rdOf ByteArray.empty l0 x5_1).toList == (rdOf ByteArray.empty l1 x5_1).toList) = false := beq_eq_false_iff_ne.mpr c7
        have c7b1 : ((rdOf ByteArray.empty l0 x5_1).toList != (rdOf ByteArray.empty l1 x5_1).toList) = true := bne_iff_ne.mpr c7
        obtain rfl := Option.some.inj H
        have p114 : 0 ≤ (x5_1 : Int) := of_decide_eq_true (by first | (with_reducible assumption) | assumption)
        have q114 : x5_1 < (l0.length : Int) := of_decide_eq_true (by first | (with_reducible assumption) | assumption)
        obtain ⟨ad114, e114, hx114_0⟩ := Kd.at_string HR0.out x5_1 p114 q114
        cases e114
        replace p114 := eq_true p114
        replace q114 := eq_true q114
        have p115 : 0 ≤ (x5_1 : Int) := of_decide_eq_true (by first | (with_reducible assumption) | assumption)
        have q115 : x5_1 < (l1.length : Int) := of_decide_eq_true (by first | (with_reducible assumption) | assumption)
        obtain ⟨ad115, e115, hx115_0⟩ := Kd.at_string HR1.out x5_1 p115 q115
        cases e115
        replace p115 := eq_true p115
        replace q115 := eq_true q115
        go_wp2
        repeat (go_quiet (fail); try go_wp2)
        go_ret
        exact ⟨by first | rfl | (simp; done) | (simp [*]; done), by repeat (first | exact Drawn0.refl _ | apply Drawn0.step)⟩
      ·rw [if_neg c6] at H
       exact absurd H (by simp)
     ·rw [if_neg c5] at H
      exact absurd H (by simp)
    ·rw [if_neg c4] at H
     have c4b0 : decide (x5_1 < (l0.length : Int)) = false := decide_eq_false c4
     clear c4
     obtain rfl := Option.some.inj H
     go_wp2
     repeat (go_quiet (fail); try go_wp2)
     go_ret
     exact ⟨by first | rfl | (simp; done) | (simp [*]; done), by repeat (first | exact Drawn0.refl _ | apply Drawn0.step)⟩
 ·rw [if_neg c3] at H
  have c3b0 : ((l0.length : Int) == (l1.length : Int)) = false := beq_eq_false_iff_ne.mpr c3
  have c3b1 : ((l0.length : Int) != (l1.length : Int)) = true := bne_iff_ne.mpr c3
  have c3b2 : (l0.length == l1.length) = false := by first | simpa using c3 | (simp at c3 ⊢; omega)
  obtain rfl := Option.some.inj H
  go_enter Tryz.func31, Tryz.ntmps31
  go_wp2
  repeat (go_quiet (fail); try go_wp2)
  go_ret
  exact ⟨by first | rfl | (simp; done) | (simp [*]; done), by repeat (first | exact Drawn0.refl _ | apply Drawn0.step)⟩
def hostlerref09_Has.l0 : Nat → List ByteArray → ByteArray → Int → Option (Bool)
 | 0, _, _, _ => none
 | k + 1, x0, x1, x5 => if x5 < (x0.length : Int) then (if 0 ≤ x5 then (if (rdOf ByteArray.empty x0 x5).toList = x1.toList then (some true) else (hostlerref09_Has.l0 k x0 x1 (wrap64 (x5 + 1)))) else (none)) else (some false)
def hostlerref09_Has.f (k : Nat) (l0 : List ByteArray) (a1 : ByteArray) : Option (Bool) := hostlerref09_Has.l0 k l0 a1 0
theorem hostlerref09_Has.calls (k : Nat) (A0 : Option Addr) (c0 : Nat) (l0 : List ByteArray) (a1 : ByteArray) (r : Bool) (w : World) (hr0 : Kd.C Kd.string w A0 l0.length l0) (hc0 : l0.length ≤ c0) (h : hostlerref09_Has.f k l0 a1 = some r) :
  Calls Tryz.prog 59 #[.slice A0 l0.length c0, .string a1] w fun e w' => e = .returned (.bool r) ∧ Drawn0 w w' := by
 have HR0 := as0 hr0
 have HC0 := as0 hc0
 clear hr0 hc0
 have H : (hostlerref09_Has.l0 k l0 a1 0) = some r := h
 clear h
 have H' := as0 H
 clear H
 go_enter Tryz.func59, Tryz.ntmps59
 go_wp2
 go_loopg [5] k (fun kq v5 w' => ∃ (x5_1 : Int), v5 = .int .i64 x5_1 ∧ Aside0 (hostlerref09_Has.l0 kq l0 a1 x5_1 = some r) ∧ Aside0 (kq ≤ k) ∧ Drawn0 w w')
 case atStart => exact ⟨(0), (by first | rfl | (simp; done) | (simp [*]; done)), H', ⟨Nat.le_refl _⟩, by repeat (first | exact Drawn0.refl _ | apply Drawn0.step)⟩
 case round =>
  clear H'
  try clear p2
  obtain ⟨x5_1, rfl, HA, HK1, ⟨m1, rfl⟩⟩ := hrel
  cases gk with
  | zero => exact absurd HA.out (by simp [hostlerref09_Has.l0])
  | succ k1 =>
   have H := HA.out
   clear HA
   simp only [hostlerref09_Has.l0] at H
   by_cases c3 : x5_1 < (l0.length : Int)
   ·rw [if_pos c3] at H
    have c3b0 : decide (x5_1 < (l0.length : Int)) = true := decide_eq_true c3
    clear c3
    by_cases c4 : 0 ≤ x5_1
    ·rw [if_pos c4] at H
     have c4b0 : decide (0 ≤ x5_1) = true := decide_eq_true c4
     clear c4
     by_cases c5 : (rdOf ByteArray.empty l0 x5_1).toList = a1.toList
     ·rw [if_pos c5] at H
      have c5b0 : ((rdOf ByteArray.empty l0 x5_1).toList == a1.toList) = true := beq_iff_eq.mpr c5
      have c5b1 : ((rdOf ByteArray.empty l0 x5_1).toList != a1.toList) = false := bne_eq_false_iff_eq.mpr c5
      clear c5
      obtain rfl := Option.some.inj H
      have p116 : 0 ≤ (x5_1 : Int) := of_decide_eq_true (by first | (with_reducible assumption) | assumption)
      have q116 : x5_1 < (l0.length : Int) := of_decide_eq_true (by first | (with_reducible assumption) | assumption)
      obtain ⟨ad116, e116, hx116_0⟩ := Kd.at_string HR0.out x5_1 p116 q116
      cases e116
      replace p116 := eq_true p116
      replace q116 := eq_true q116
      go_wp2
      go_ret
      exact ⟨by first | rfl | (simp; done) | (simp [*]; done), by repeat (first | exact Drawn0.refl _ | apply Drawn0.step)⟩
     ·rw [if_neg c5] at H
      have c5b0 : ((rdOf ByteArray.empty l0 x5_1).toList == a1.toList) = false := beq_eq_false_iff_ne.mpr c5
      have c5b1 : ((rdOf ByteArray.empty l0 x5_1).toList != a1.toList) = true := bne_iff_ne.mpr c5
      have H' := as0 H
      clear H
      have p116 : 0 ≤ (x5_1 : Int) := of_decide_eq_true (by first | (with_reducible assumption) | assumption)
      have q116 : x5_1 < (l0.length : Int) := of_decide_eq_true (by first | (with_reducible assumption) | assumption)
      obtain ⟨ad116, e116, hx116_0⟩ := Kd.at_string HR0.out x5_1 p116 q116
      cases e116
      replace p116 := eq_true p116
      replace q116 := eq_true q116
      go_wp2
      go_roundg k1
      case measure => have := HK1.out; omega
      case rel => exact ⟨(wrap64 (x5_1 + 1)), (by first | rfl | (simp; done) | (simp [*]; done)), H', ⟨by have := HK1.out; omega⟩, by repeat (first | exact Drawn0.refl _ | apply Drawn0.step)⟩
    ·rw [if_neg c4] at H
     exact absurd H (by simp)
   ·rw [if_neg c3] at H
    have c3b0 : decide (x5_1 < (l0.length : Int)) = false := decide_eq_false c3
    clear c3
    obtain rfl := Option.some.inj H
    go_wp2
    go_ret
    exact ⟨by first | rfl | (simp; done) | (simp [*]; done), by repeat (first | exact Drawn0.refl _ | apply Drawn0.step)⟩
end
end Go.Proofs.YtmlmiocomlehgaaGreat.PA
end
section
namespace Go.Proofs.YtmlmiocomlehgaaGreat.PF
open Go.RowKit Go.Proofs.YtmlmiocomlehgaaGreat.PA Go.Proofs.YtmlmiocomlehgaaGreatW.PrintWords Go.Proofs.YtmlmiocomlehgaaGreatW.PrintLast Go.Proofs.YtmlmiocomlehgaaGreatW.PrintMore
section
attribute [local go_sem] zt1 zv1 zd2 zb2 zn1 zl1 z32 z52   -- for this text's walks alone
structure S110 where
 f0 : ByteArray
 f1 : Int
 f2 : Bool
def z110 : S110 := ⟨(⟨#[]⟩ : ByteArray), (0 : Int), false⟩
def k110 : Kd S110 := Kd.iso (Kd.pair Kd.string (Kd.pair (Kd.int .i64) Kd.bool)) (fun x : S110 => (x.f0, x.f1, x.f2))
theorem zkb {w : World} {x : S110} {cs : List Value} (h : k110.K w x cs) : cs = [.string x.f0, .int .i64 x.f1, .bool x.f2] := by
 obtain ⟨_, _, rfl, rfl, ⟨_, _, rfl, rfl, rfl⟩⟩ := h
 exact rfl
theorem zq5 (w : World) (base : Nat) (ok : Nat → Prop) (x : S110)  : k110.M w base ok x [.string x.f0, .int .i64 x.f1, .bool x.f2] := ⟨[.string x.f0], [.int .i64 x.f1, .bool x.f2], rfl, rfl, ⟨[.int .i64 x.f1], [.bool x.f2], rfl, rfl, rfl⟩⟩
def rd_T110 (xs : List S110) (i : Int) : S110 := xs.getD i.toNat z110
theorem z44 {w : World} {A : Option Addr} {n : Nat} {xs : List S110} (h : Kd.C k110 w A n xs) (i : Int) (h0 : 0 ≤ i) (h1 : i < n) : ∃ ad , A = some ad ∧ w.cell? (ad.add (i.toNat * 3)) = some (.string (rd_T110 xs i).f0) ∧ w.cell? ⟨(ad.add (i.toNat * 3)).block, (ad.add (i.toNat * 3)).off + 1, none⟩ = some (.int .i64 (rd_T110 xs i).f1) ∧ w.cell? ⟨(ad.add (i.toNat * 3)).block, (ad.add (i.toNat * 3)).off + 2, none⟩ = some (.bool (rd_T110 xs i).f2) := by
 obtain ⟨ad, c, e, _, hK, hc0⟩ := Kd.C_get h z110 i h0 h1
 have hc : ∀ j u, c[j]? = some u → w.cell? (ad.add (i.toNat * 3 + j)) = some u := hc0
 obtain rfl := zkb hK
 exact ⟨ad, e, hc 0 _ rfl, by rw [← z43 _ _ 1 (by omega)]; exact hc 1 _ rfl, by rw [← z43 _ _ 2 (by omega)]; exact hc 2 _ rfl⟩
end
section
attribute [local go_sem] zt1 zv1 zd2 zb2 zn1 zl1 z32 z52   -- for this text's walks alone
def drains_drain.l0 : Nat → List (S110) → List ByteArray → Int → Int → Option (Int)
 | 0, _, _, _, _ => none
 | k + 1, x0, x2, x7, x8 => if x8 < x7 then (if 0 ≤ x8 then (if x8 < (x0.length : Int) then ((drains_Drains_place_1.f ((rd_T110 x0 x8).f0) ((rd_T110 x0 x8).f1) ((rd_T110 x0 x8).f2) x2).bind fun t102 => (if t102 = true then (some x8) else (drains_drain.l0 k x0 x2 x7 (wrap64 (x8 + 1))))) else (none)) else (none)) else (some (-1))
def drains_drain.f (k : Nat) (l0 : List (S110)) (a1 : Int) (l2 : List ByteArray) : Option (Int) := drains_drain.l0 k l0 l2 (l0.length : Int) 0
theorem drains_drain.calls (k : Nat) (A0 : Option Addr) (c0 : Nat) (l0 : List (S110)) (a1 : Int) (A2 : Option Addr) (c2 : Nat) (l2 : List ByteArray) (r : Int) (w : World) (hr0 : Kd.C k110 w A0 l0.length l0) (hc0 : l0.length ≤ c0) (hr2 : Kd.C Kd.string w A2 l2.length l2) (hc2 : l2.length ≤ c2) (h : drains_drain.f k l0 a1 l2 = some r) :
  Calls Tryz.prog 105 #[.slice A0 l0.length c0, .func (.func 106) #[] #[.pointer A2]] w fun e w' => e = .returned (.int .i64 r) ∧ Below w.heap.size w w' := by
 have hu110 := Tryz.underlying110
 have HR0 := as0 hr0
 have HC0 := as0 hc0
 clear hr0 hc0
 have HR2 := as0 hr2
 have HC2 := as0 hc2
 clear hr2 hc2
 have HB := as0 (Below.refl w.heap.size w)
 have H : (drains_drain.l0 k l0 l2 (l0.length : Int) 0) = some r := h
 clear h
 have H' := as0 H
 clear H
 go_enter Tryz.func105, Tryz.ntmps105
 go_wp2
 go_loopg [8] k (fun kq v8 w' => ∃ (x8_1 : Int), v8 = .int .i64 x8_1 ∧ Aside0 (drains_drain.l0 kq l0 l2 (l0.length : Int) x8_1 = some r) ∧ Aside0 (kq ≤ k) ∧ Aside0 (Below w.heap.size w w'))
 case atStart => exact ⟨(0), (by first | rfl | (simp; done) | (simp [*]; done)), H', ⟨Nat.le_refl _⟩, ⟨by repeat (first | (with_reducible first | exact HB.out | apply z80 | apply z90 | apply z50) | exact HB.out)⟩⟩
 case round =>
  clear H'
  try clear c1
  try clear c2
  try clear p2
  obtain ⟨x8_1, rfl, HA, HK1, HB⟩ := hrel
  cases gk with
  | zero => exact absurd HA.out (by simp [drains_drain.l0])
  | succ k1 =>
   have H := HA.out
   clear HA
   simp only [drains_drain.l0] at H
   by_cases c4 : x8_1 < (l0.length : Int)
   ·rw [if_pos c4] at H
    have c4b0 : decide (x8_1 < (l0.length : Int)) = true := decide_eq_true c4
    clear c4
    by_cases c5 : 0 ≤ x8_1
    ·rw [if_pos c5] at H
     have c5b0 : decide (0 ≤ x8_1) = true := decide_eq_true c5
     clear c5
     by_cases c6 : x8_1 < (l0.length : Int)
     ·rw [if_pos c6] at H
      have c6b0 : decide (x8_1 < (l0.length : Int)) = true := decide_eq_true c6
      clear c6
      replace H := Option.bind_eq_some_iff.mp H
      obtain ⟨t102, A70, H⟩ := H
      replace H : (if t102 = true then (some x8_1) else (drains_drain.l0 k1 l0 l2 (l0.length : Int) (wrap64 (x8_1 + 1)))) = some r := H
      have A7 := as0 A70
      clear A70
      by_cases c8 : t102 = true
      ·subst c8
       have H1 : (some x8_1) = some r := by rw [if_pos rfl] at H; exact H
       clear H
       have H := H1
       clear H1
       obtain rfl := Option.some.inj H
       have p101 : 0 ≤ (x8_1 : Int) := of_decide_eq_true (by first | (with_reducible assumption) | assumption)
       have q101 : x8_1 < (l0.length : Int) := of_decide_eq_true (by first | (with_reducible assumption) | assumption)
       obtain ⟨ad101, e101, hx101_0, hx101_1, hx101_2⟩ := z44 HR0.out x8_1 p101 q101
       cases e101
       replace hx101_0 := (HB.out.cell (World.block_lt_of_cell? w _ hx101_0)).trans hx101_0
       replace hx101_1 := (HB.out.cell (World.block_lt_of_cell? w _ hx101_1)).trans hx101_1
       replace hx101_2 := (HB.out.cell (World.block_lt_of_cell? w _ hx101_2)).trans hx101_2
       replace p101 := eq_true p101
       replace q101 := eq_true q101
       go_wp2_with (first | (go_at_call 106; (with_reducible refine (drains_Drains_place_1.calls ((rd_T110 l0 x8_1).f0) ((rd_T110 l0 x8_1).f1) ((rd_T110 l0 x8_1).f2) _ c2 l2 true _ ?side1 ?side2 A7.out).mono ?_); (case side1 => repeat (first | exact (Kd.C_below HR2.out HB.out) | (with_reducible refine Kd.C_alloc ?_ _) | (with_reducible refine Kd.C_drewN ?_ _) | (with_reducible refine Kd.C_drew ?_))); (case side2 => exact HC2.out); rintro e w9 ⟨rfl, hb⟩; have n0_ := as0 (z10 (by repeat (first | (with_reducible first | exact HB.out | apply z80 | apply z90 | apply z50) | exact HB.out)) hb); clear HB; have HB := n0_; clear n0_; (try clear hb); (try clear hb2); (try clear hk); (try clear hi)))
       go_ret
       exact ⟨by first | rfl | (simp only [Int.ofNat_lt]; rfl) | (simp [errW_none, errW_some] <;> rfl) | (simp [*, errW_none, errW_some] <;> rfl), by repeat (first | (with_reducible first | exact HB.out | apply z80 | apply z90 | apply z50) | exact HB.out)⟩
      ·replace c8 := Bool.eq_false_iff.mpr c8
       subst c8
       have H1 : (drains_drain.l0 k1 l0 l2 (l0.length : Int) (wrap64 (x8_1 + 1))) = some r := by rw [if_neg (show ¬ (false = true) by decide)] at H; exact H
       clear H
       have H := H1
       clear H1
       have H' := as0 H
       clear H
       have p101 : 0 ≤ (x8_1 : Int) := of_decide_eq_true (by first | (with_reducible assumption) | assumption)
       have q101 : x8_1 < (l0.length : Int) := of_decide_eq_true (by first | (with_reducible assumption) | assumption)
       obtain ⟨ad101, e101, hx101_0, hx101_1, hx101_2⟩ := z44 HR0.out x8_1 p101 q101
       cases e101
       replace hx101_0 := (HB.out.cell (World.block_lt_of_cell? w _ hx101_0)).trans hx101_0
       replace hx101_1 := (HB.out.cell (World.block_lt_of_cell? w _ hx101_1)).trans hx101_1
       replace hx101_2 := (HB.out.cell (World.block_lt_of_cell? w _ hx101_2)).trans hx101_2
       replace p101 := eq_true p101
       replace q101 := eq_true q101
       go_wp2_with (first | (go_at_call 106; (with_reducible refine (drains_Drains_place_1.calls ((rd_T110 l0 x8_1).f0) ((rd_T110 l0 x8_1).f1) ((rd_T110 l0 x8_1).f2) _ c2 l2 false _ ?side1 ?side2 A7.out).mono ?_); (case side1 => repeat (first | exact (Kd.C_below HR2.out HB.out) | (with_reducible refine Kd.C_alloc ?_ _) | (with_reducible refine Kd.C_drewN ?_ _) | (with_reducible refine Kd.C_drew ?_))); (case side2 => exact HC2.out); rintro e w10 ⟨rfl, hb⟩; have n0_ := as0 (z10 (by repeat (first | (with_reducible first | exact HB.out | apply z80 | apply z90 | apply z50) | exact HB.out)) hb); clear HB; have HB := n0_; clear n0_; (try clear hb); (try clear hb2); (try clear hk); (try clear hi)))
       go_roundg k1
       case measure => have := HK1.out; omega
       case rel => exact ⟨(wrap64 (x8_1 + 1)), (by first | rfl | (simp; done) | (simp [*]; done)), H', ⟨by have := HK1.out; omega⟩, ⟨by repeat (first | (with_reducible first | exact HB.out | apply z80 | apply z90 | apply z50) | exact HB.out)⟩⟩
     ·rw [if_neg c6] at H
      exact absurd H (by simp)
    ·rw [if_neg c5] at H
     exact absurd H (by simp)
   ·rw [if_neg c4] at H
    have c4b0 : decide (x8_1 < (l0.length : Int)) = false := decide_eq_false c4
    clear c4
    obtain rfl := Option.some.inj H
    go_wp2
    go_ret
    exact ⟨by first | rfl | (simp only [Int.ofNat_lt]; rfl) | (simp [errW_none, errW_some] <;> rfl) | (simp [*, errW_none, errW_some] <;> rfl), by repeat (first | (with_reducible first | exact HB.out | apply z80 | apply z90 | apply z50) | exact HB.out)⟩
end
end Go.Proofs.YtmlmiocomlehgaaGreat.PF
end
section
namespace Go.Proofs.YtmlmiocomlehgaaGreat.Hid
open Go.RowKit Go.Proofs.YtmlmiocomlehgaaGreatW.PrintWords
section
def Hidn (T : List Nat) (W : World) (k : Nat) : Prop := (∃ cs t fr, W.heap[k]? = some (.cells cs t fr) ∧ t ∈ T) ∨ (∃ cap buf cl s r tm, W.heap[k]? = some (.chan cap buf cl s r tm)) ∨ (∃ es ck, W.heap[k]? = some (.map es ck))
section
variable {T : List Nat} {W W1 W2 : World} {k : Nat}
theorem Hidn.lt (h : Hidn T W k) : k < W.heap.size := by
 rcases h with ⟨_, _, _, h, _⟩ | ⟨_, _, _, _, _, _, h⟩ | ⟨_, _, h⟩ <;> exact z70 h
theorem Hidn.cells {cs : Array Value} {t : TypeId} {fr : Nat × Nat} (h : W.heap[k]? = some (.cells cs t fr)) (ht : t ∈ T) : Hidn T W k := .inl ⟨cs, t, fr, h, ht⟩
theorem Hidn.map {es : Array MapEntry} {ck : Nat} (h : W.heap[k]? = some (.map es ck)) : Hidn T W k := .inr (.inr ⟨es, ck, h⟩)
theorem Hidn.of_eq (h : Hidn T W1 k) (e : W1.heap[k]? = W.heap[k]?) : Hidn T W k := by
 unfold Hidn at h ⊢
 rwa [e] at h
theorem z01 {cs : Array Value} {t : TypeId} {fr : Nat × Nat} (h : W.heap[k]? = some (.cells cs t fr)) (ht : t ∉ T) : ¬ Hidn T W k := by
 rintro (⟨_, _, _, h', ht'⟩ | ⟨_, _, _, _, _, _, h'⟩ | ⟨_, _, h'⟩)
 ·rw [h] at h'
  injection h' with h'
  injection h' with _ e
  subst e
  exact ht ht'
 ·rw [h] at h'
  injection h' with h'
  cases h'
 ·rw [h] at h'
  injection h' with h'
  cases h'
end
section
variable {T : List Nat} {W : World} {k : Nat}
end
def KeptH (T : List Nat) (w W : World) : Prop := Kept w W (Hidn T w) ∧ ∀ k, k < w.heap.size → Hidn T W k → Hidn T w k
section
variable {T : List Nat} {w W W1 W2 : World} {S : Nat → Prop}
theorem KeptH.refl (T : List Nat) (w : World) : KeptH T w w := ⟨Kept.refl _ _, fun _ _ h => h⟩
theorem KeptH.trans (h : KeptH T w W) (k : KeptH T W W2) : KeptH T w W2 :=
 ⟨⟨Nat.le_trans h.1.1 k.1.1, fun i hi hn => (k.1.2 i (Nat.lt_of_lt_of_le hi h.1.1) (fun hk => hn (h.2 i hi hk))).trans (h.1.2 i hi hn)⟩,
  fun i hi hk => h.2 i hi (k.2 i (Nat.lt_of_lt_of_le hi h.1.1) hk)⟩
theorem KeptH.of_below (h : Below w.heap.size w W) : KeptH T w W := ⟨Kept.of_below h _, fun k hk h2 => h2.of_eq (h.block k hk)⟩
theorem KeptH.below (h : KeptH T w W) (hb : Below W.heap.size W W2) : KeptH T w W2 := h.trans (.of_below hb)
theorem KeptH.drew (h : KeptH T w W) : KeptH T w W.drew := h
theorem KeptH.grown (h : KeptH T w W) {row : Option Nat} (hg : W.grownBy W2 row) (hr : ∀ k, row = some k → Hidn T W k ∨ w.heap.size ≤ k) : KeptH T w W2 := by
 refine ⟨⟨Nat.le_trans h.1.1 hg.size, fun i hi hn => ?_⟩, fun k hk h2 => ?_⟩
 ·refine (hg.block i (Nat.lt_of_lt_of_le hi h.1.1) (fun e => ?_)).trans (h.1.2 i hi hn)
  rcases hr i e.symm with h3 | h3
  ·exact hn (h.2 i hi h3)
  ·omega
 ·by_cases e : row = some k
  ·rcases hr k e with h3 | h3
   ·exact h.2 k hk h3
   ·omega
  ·exact h.2 k hk (h2.of_eq (hg.block k (Nat.lt_of_lt_of_le hk h.1.1) (fun e2 => e e2.symm)))
theorem KeptH.setCell (h : KeptH T w W) {p : Addr} (hp : Hidn T W p.block) (u : Value) : KeptH T w (W.setCell p u) := by
 refine h.trans ⟨⟨by simp [World.setCell], fun i _ hn => Below.heap_setCell W p u i (fun e => hn (by rw [e]; exact hp))⟩, fun i _ hk => ?_⟩
 by_cases e : i = p.block
 ·rw [e]; exact hp
 ·exact hk.of_eq (Below.heap_setCell W p u i e)
end
namespace Ko
theorem grown_trans {w w1 w2 : World} {row : Option Nat} (h : w.grownBy w1 row) (k : w1.grownBy w2 row) : w.grownBy w2 row :=
 ⟨k.os.trans h.os, k.tape.trans h.tape, k.output.trans h.output, Nat.le_trans h.size k.size, fun i hi hr => (k.block i (Nat.lt_of_lt_of_le hi h.size) hr).trans (h.block i hi hr)⟩
section
variable {α : Type} {d : Kd α} {e g : Nat} {w w1 : World} {base : Nat} {ok : Nat → Prop} {v : Value} {xs : List α} {T : List Nat} {cs : Array Value} {t : TypeId} {fr : Nat × Nat} {a : Addr} {u : Value}
theorem R_apart (h : d.R e w base ok v xs) (ht : ∀ q, q ∈ e :: d.E → q ∉ T) : d.R e w base (fun k => ok k ∧ ¬ Hidn T w k) v xs :=
 Kd.R_mono (Kd.R_bound h) (fun k hk => ⟨hk.1, by obtain ⟨_, _, _, q, hq, cells, hc⟩ := hk; exact z01 hc (ht q hq)⟩)
theorem R_ne (h : d.R e w base ok v xs) (ht : e ∉ T) : ∀ k, Hidn T w k → some k ≠ v.ownBlock := fun k hk he => by
 obtain ⟨_, inner, ho, _⟩ := h
 obtain ⟨cells, hc⟩ := zw1 ho k he.symm
 exact z01 hc ht hk
theorem R_keep (h : d.R e w base ok v xs) (hk : KeptH T w w1) (hok : ∀ k, ok k → ¬ Hidn T w k) : d.R e w1 base ok v xs := Kd.R_kept h hk.1 hok
theorem blkc (hk : KeptH T w w1) (hb : w.heap[g]? = some (.cells cs t fr)) (ht : t ∉ T) : w1.heap[g]? = some (.cells cs t fr) := blk_kept hb hk.1 (z01 hb ht)
theorem R_tail {c n o : Nat} (h : d.R e w base ok (.slice (some ⟨g, 0, none⟩) n c) xs) (vs : List Value) (ho : n * d.sz ≤ o) (hl : o + vs.length ≤ c * d.sz) :
  d.R e (w.setCells g o vs) base ok (.slice (some ⟨g, 0, none⟩) n c) xs ∧ w.grownBy (w.setCells g o vs) (some g) := by
 obtain ⟨hok, inner, hown, hr⟩ := h
 rcases hown.2 with ⟨hv, _⟩ | ⟨g', cap', cur, hv, hb, hh, hxc, hcm, hcs, htake⟩
 ·cases hv
 injection hv with ha hn2 hc
 injection ha with ha
 injection ha with hg
 subst hg; subst hc; subst hn2
 obtain ⟨cur', h3, h4, h5⟩ := zy2 vs o w cur hh (by omega)
 obtain ⟨s1, s2, s3, s4⟩ := zn2 g vs o w
 have hfar : ∀ k', k' ≠ g → (w.setCells g o vs).heap[k']? = w.heap[k']? := fun k' hk' => z23 vs _ k' hk'
 refine ⟨⟨hok, inner, ⟨hown.1, .inr ⟨g, c, cur', rfl, hb, h3, hxc, hcm, by rw [h4, hcs], ?_⟩⟩, hr.imp_ (fun p q hp => d.M_move (fun k' hk' => hfar k' (fun he => hk'.2 (by rw [he]; rfl))) hp)⟩, ⟨s1, s2, s3, by rw [s4]; exact Nat.le_refl _, fun k' _ hk' => hfar k' (fun he => hk' (by rw [he]))⟩⟩
 have hcl : cur.toList.length = c * d.sz := by rw [Array.length_toList, hcs]
 rw [h5, List.append_assoc, List.take_append_of_le_length (by rw [List.length_take, hcl]; omega), List.take_take, Nat.min_eq_left ho]
 exact htake
end
end Ko
end
end Go.Proofs.YtmlmiocomlehgaaGreat.Hid
end
section
namespace Go.Proofs.YtmlmiocomlehgaaGreat.Man
open Go.RowKit Go.Proofs.YtmlmiocomlehgaaGreatW.PrintWords Go.Proofs.YtmlmiocomlehgaaGreat.PA Go.Proofs.YtmlmiocomlehgaaGreat.PF Go.Proofs.YtmlmiocomlehgaaGreat.Hid
section
structure DS where
 row : List S110
abbrev TD : List Nat := [94, 110]
def IsD (w0 W : World) (g : Nat) (s : DS) : Prop := ∃ v,
 W.heap[g]? = some (.cells #[v] 94 (0, 0)) ∧ w0.heap.size ≤ g ∧ Kd.R k110 110 W w0.heap.size (fun _ => True) v s.row
section
variable {w0 W W1 : World} {g : Nat} {s : DS}
theorem IsD.step (h : IsD w0 W g s) (hm : ∀ k, Hidn TD W k → W1.heap[k]? = W.heap[k]?) : IsD w0 W1 g s := by
 obtain ⟨v, hb, hg, hR⟩ := h
 refine ⟨v, (hm g (.cells hb (by decide))).trans hb, hg, ?_⟩
 refine Kd.R_mono (Kd.R_move (Kd.R_bound hR) (fun k hk => ?_)) (fun _ _ => trivial)
 obtain ⟨_, _, _, q, hq, cells, hq2⟩ := hk
 have : q = 110 := by simpa [k110, Kd.iso, Kd.pair, Kd.int, Kd.scalar, Kd.string, Kd.bool] using hq
 subst this
 exact hm k (.cells hq2 (by decide))
theorem IsD.below (h : IsD w0 W g s) (hw : Below W.heap.size W W1) : IsD w0 W1 g s := h.step (fun k hk => hw.block k hk.lt)
variable {α : Type} {d : Kd α} {e : Nat} {base : Nat} {ok : Nat → Prop} {v : Value} {xs : List α}
theorem IsD.open_ (h : IsD w0 W g s) : ∃ A n, W.heap[g]? = some (.cells #[.slice A s.row.length n] 94 (0, 0)) ∧ s.row.length ≤ n ∧ Kd.C k110 W A s.row.length s.row ∧ Kd.R k110 110 W w0.heap.size (fun _ => True) (.slice A s.row.length n) s.row ∧ w0.heap.size ≤ g := by
 obtain ⟨v, hb, hg, hR⟩ := h
 obtain ⟨A, n, rfl⟩ := Kd.R_slice hR
 have h3 := Kd.R_reads' hR
 exact ⟨A, n, hb, h3.2.1, h3.2.2, hR, hg⟩
theorem za2 (hI : IsD w0 W g s) (hB : Below w0.heap.size w0 W) (hb : Below W.heap.size W W1) : IsD w0 W1 g s ∧ Below w0.heap.size w0 W1 ∧ KeptH TD W W1 :=
 ⟨hI.below hb, z10 hB hb, KeptH.of_below hb⟩
end
end
end Go.Proofs.YtmlmiocomlehgaaGreat.Man
end
section
namespace Go.Proofs.YtmlmiocomlehgaaGreat.Na
open Go.RowKit Go.Lib Go.Proofs.YtmlmiocomlehgaaGreatW.PrintWords Go.Proofs.YtmlmiocomlehgaaGreatW.PrintLast
section
def signs : ByteArray := ⟨#[97, 98, 99, 100, 101, 102, 103, 104, 105, 106, 107, 108, 109, 110, 111, 112, 113, 114, 115, 116, 117, 118, 119, 120, 121, 122, 48, 49, 50, 51, 52, 53, 54, 55, 56, 57, 46, 45]⟩
def okB (b : Nat) : Bool := decide (97 ≤ b ∧ b ≤ 122 ∨ 48 ≤ b ∧ b ≤ 57 ∨ b = 46 ∨ b = 45)
theorem idx62 (s : ByteArray) (c : Int) (w : World) : Calls Tryz.prog 119 #[.string s, .int .u8 c] w fun e w' => e = .returned (.int .i64 (indexByte s.data.toList c.toNat.toUInt8)) ∧ w = w' := by
 go_enter Tryz.func119, Tryz.ntmps119
 go_wp2
 rw [run_callFunc_extern Tryz.func120 (by kernel_rfl) (by kernel_rfl) (by kernel_rfl) (e := Extern.BytealgIndexByte.indexByte) (by kernel_rfl), Lib.run_indexByteString]
 simp only [Result.andThen]
 rw [Oper.upon_value]
 go_wp2
 go_ret
 exact ⟨rfl, rfl⟩
theorem idx58 (s : ByteArray) (c : Int) (w : World) : Calls Tryz.prog 115 #[.string s, .int .u8 c] w fun e w' => e = .returned (.int .i64 (indexByte s.data.toList c.toNat.toUInt8)) ∧ w = w' := by
 go_enter Tryz.func115, Tryz.ntmps115
 go_wp2_with (go_at_call 119; refine (idx62 _ _ _).mono ?_; rintro e w' ⟨rfl, rfl⟩)
 go_ret
 exact ⟨rfl, rfl⟩
theorem valid_eq (r : Int) : Utf8.valid r = decide ((0 ≤ r ∧ r < 55296) ∨ (57343 < r ∧ r ≤ 1114111)) := by
 unfold Utf8.valid
 rw [Bool.eq_iff_iff]
 simp
 omega
theorem zjc (r : Int) (w : World) : Calls Tryz.prog 116 #[.int .i32 r] w fun e w' => e = .returned (.bool (Utf8.valid r)) ∧ w = w' := by
 by_cases h1 : 0 ≤ r <;> by_cases h2 : r < 55296 <;> by_cases h3 : 57343 < r <;> by_cases h4 : r ≤ 1114111
 all_goals
  go_enter Tryz.func116, Tryz.ntmps116
  go_wp2
  go_ret
  refine ⟨?_, rfl⟩
  rw [valid_eq]
  first
   | (rw [decide_eq_true (by omega)]; rfl)
   | (rw [decide_eq_false (by omega)]; rfl)
theorem signs_at : ∀ r, r < 128 → decide (0 ≤ indexByte signs.data.toList ((r : Nat) : Int).toNat.toUInt8) = okB r := by decide +kernel
theorem zab : ∀ pos, pos < 38 → (Utf8.decode signs pos).1 < 128 ∧ (Utf8.decode signs pos).2 = 1 := by decide +kernel
theorem z98 (w : World) : Calls Tryz.prog 113 #[.string signs, .int .i32 65533] w fun e w' => e = .returned (.int .i64 (-1)) ∧ Below w.heap.size w w' := by
 go_enter Tryz.func113, Tryz.ntmps113
 go_wp2
 go_loopg [] 38 (fun gf wx => ∃ pos : Nat, wx.heap[w.heap.size]? = some (.stringIter signs pos) ∧ Below w.heap.size w wx ∧ pos + gf = 38)
 case atStart => exact ⟨0, World.iter_heap w signs 0, (Below.refl _ w).alloc (Nat.le_refl _) _, by omega⟩
 case round =>
  obtain ⟨pos, hit, hbw, hfu⟩ := hrel
  have hsz : signs.size = 38 := by decide +kernel
  by_cases hps : pos < 38
  ·obtain ⟨g', rfl⟩ : ∃ g', gk = g' + 1 := ⟨gk - 1, by omega⟩
   have hnx : ∀ ty, (Instr.next (.pointer (some ⟨w.heap.size, 0, none⟩)) true ty).run Tryz.prog wr = _ := fun ty => Lib.run_next_any_at wr w.heap.size signs pos ty hit (by omega)
   obtain ⟨h1, h2⟩ := zab pos hps
   obtain ⟨R, hR⟩ : ∃ R, (Utf8.decode signs pos).1 = R := ⟨_, rfl⟩
   rw [hR, h2] at hnx
   rw [hR] at h1
   have hRe : (((R : Int) == 65533) = false) := by rw [beq_eq_false_iff_ne]; omega
   have hit2 := Lib.iterAt_heap wr w.heap.size signs pos (pos + 1) hit
   have hbw2 := Lib.below_iterAt hbw (k := w.heap.size) (Nat.le_refl _) signs (pos + 1)
   obtain ⟨W, hWd⟩ : ∃ W, wr.iterAt w.heap.size signs (pos + 1) = W := ⟨_, rfl⟩
   rw [hWd] at hnx hit2 hbw2
   go_wp2
   go_roundg g'
   case measure => omega
   case rel => exact ⟨pos + 1, hit2, hbw2, by omega⟩
  ·have hnx : ∀ ty, (Instr.next (.pointer (some ⟨w.heap.size, 0, none⟩)) true ty).run Tryz.prog wr = _ := fun ty => Lib.run_next_end_at wr w.heap.size signs pos ty hit (by omega)
   go_wp2
   go_ret
   exact ⟨rfl, hbw⟩
theorem zn9 (s : ByteArray) (c : Int) (hs : ∀ b ∈ s.data.toList, b.toNat < 128) (h0 : 128 ≤ c) (h1 : c ≤ 255) (w : World) : Calls Tryz.prog 115 #[.string s, .int .u8 c] w fun e w' => e = .returned (.int .i64 (-1)) ∧ w = w' := by
 refine (idx58 s c w).mono ?_
 rintro e w' ⟨rfl, rfl⟩
 refine ⟨?_, rfl⟩
 have hc : 128 ≤ c.toNat.toUInt8.toNat := by
  rw [show c.toNat.toUInt8 = UInt8.ofNat c.toNat from rfl, UInt8.toNat_ofNat']
  omega
 have key : ∀ l : List UInt8, (∀ b ∈ l, b.toNat < 128) → indexByte l c.toNat.toUInt8 = -1 := by
  intro l
  induction l with
  | nil => intro _; rfl
  | cons b l ih =>
   intro hb
   have h1 := hb b (by simp)
   have hne : (b == c.toNat.toUInt8) = false := by
    rw [beq_eq_false_iff_ne]
    rintro rfl
    omega
   rw [indexByte, hne, ih (fun x hx => hb x (by simp [hx]))]
   rfl
 rw [key _ hs]
theorem zgc : ∀ n : Nat, n < 4 → ∀ b ∈ (signs.extract (n + 1) 38).data.toList, b.toNat < 128 := by decide +kernel
theorem hb_ (x : Nat) : 128 ≤ (UInt8.ofNat (0x80 + x % 64)).toNat := by
 rw [UInt8.toNat_ofNat']
 omega
theorem enc2 (a : UInt8) (b : UInt8) (h : 128 ≤ b.toNat) : ∃ n, (⟨#[a, b]⟩ : ByteArray).size = n + 1 ∧ 1 ≤ n ∧ n ≤ 3 ∧ ∀ h2 : n < (⟨#[a, b]⟩ : ByteArray).size, 128 ≤ ((⟨#[a, b]⟩ : ByteArray)[n]'h2).toNat := ⟨1, rfl, by omega, by omega, fun _ => h⟩
theorem enc3 (a b c : UInt8) (h : 128 ≤ c.toNat) : ∃ n, (⟨#[a, b, c]⟩ : ByteArray).size = n + 1 ∧ 1 ≤ n ∧ n ≤ 3 ∧ ∀ h2 : n < (⟨#[a, b, c]⟩ : ByteArray).size, 128 ≤ ((⟨#[a, b, c]⟩ : ByteArray)[n]'h2).toNat := ⟨2, rfl, by omega, by omega, fun _ => h⟩
theorem enc4 (a b c d : UInt8) (h : 128 ≤ d.toNat) : ∃ n, (⟨#[a, b, c, d]⟩ : ByteArray).size = n + 1 ∧ 1 ≤ n ∧ n ≤ 3 ∧ ∀ h2 : n < (⟨#[a, b, c, d]⟩ : ByteArray).size, 128 ≤ ((⟨#[a, b, c, d]⟩ : ByteArray)[n]'h2).toNat := ⟨3, rfl, by omega, by omega, fun _ => h⟩
theorem e2 (r : Nat) (h : 128 ≤ r) (hv : Utf8.valid r = true) (h1 : r < 2048) : Utf8.encode r = ⟨#[UInt8.ofNat (0xC0 + r / 64), UInt8.ofNat (0x80 + r % 64)]⟩ := by
 unfold Utf8.encode
 rw [if_pos hv]
 simp only [Int.toNat_natCast]
 rw [if_neg (show ¬ r < 0x80 by omega), if_pos (show r < 0x800 from h1)]
theorem e3 (r : Nat) (h : 128 ≤ r) (hv : Utf8.valid r = true) (h1 : ¬ r < 2048) (h2 : r < 65536) : Utf8.encode r = ⟨#[UInt8.ofNat (0xE0 + r / 4096), UInt8.ofNat (0x80 + r / 64 % 64), UInt8.ofNat (0x80 + r % 64)]⟩ := by
 unfold Utf8.encode
 rw [if_pos hv]
 simp only [Int.toNat_natCast]
 rw [if_neg (show ¬ r < 0x80 by omega), if_neg (show ¬ r < 0x800 from h1), if_pos (show r < 0x10000 from h2)]
theorem e4 (r : Nat) (h : 128 ≤ r) (hv : Utf8.valid r = true) (h1 : ¬ r < 2048) (h2 : ¬ r < 65536) : Utf8.encode r = ⟨#[UInt8.ofNat (0xF0 + r / 262144), UInt8.ofNat (0x80 + r / 4096 % 64), UInt8.ofNat (0x80 + r / 64 % 64), UInt8.ofNat (0x80 + r % 64)]⟩ := by
 unfold Utf8.encode
 rw [if_pos hv]
 simp only [Int.toNat_natCast]
 rw [if_neg (show ¬ r < 0x80 by omega), if_neg (show ¬ r < 0x800 from h1), if_neg (show ¬ r < 0x10000 from h2)]
def LastBig (E : ByteArray) : Prop := ∃ n, E.size = n + 1 ∧ 1 ≤ n ∧ n ≤ 3 ∧ ∀ h2 : n < E.size, 128 ≤ (E[n]'h2).toNat
theorem zfc (r : Nat) (h : 128 ≤ r) (hv : Utf8.valid r = true) : LastBig (Utf8.encode r) := by
 by_cases h1 : r < 2048
 ·rw [e2 r h hv h1]
  exact enc2 _ _ (hb_ r)
 ·by_cases h2 : r < 65536
  ·rw [e3 r h hv h1 h2]
   exact enc3 _ _ _ (hb_ r)
  ·rw [e4 r h hv h1 h2]
   exact enc4 _ _ _ _ (hb_ r)
attribute [local irreducible] Utf8.encode Utf8.valid
theorem z18 (r : Nat) (h : 128 ≤ r) (he : r ≠ 65533) (hv : Utf8.valid r = true) (w : World) : Calls Tryz.prog 113 #[.string signs, .int .i32 r] w fun e w' => e = .returned (.int .i64 (-1)) ∧ Below w.heap.size w w' := by
 obtain ⟨n, hsz, hn1, hn3, hlast⟩ := zfc r h hv
 have hre : (((r : Int) == 65533) = false) := by rw [beq_eq_false_iff_ne]; omega
 have hv59 := fun w => zjc (r : Int) w
 rw [hv] at hv59
 have hss : signs.size = 38 := by decide +kernel
 have hls := hlast (by omega)
 clear hlast
 have hg1 : ¬ (r : Int) < 128 := by omega
 clear hv
 go_enter Tryz.func113, Tryz.ntmps113
 go_wp2_with (go_at_call 116; refine (hv59 _).mono ?_; rintro e w' ⟨rfl, rfl⟩)
 go_step3
 go_wp2
 go_loopg [9, 10] 0 (fun gf v9 v10 wr => v9 = .int .i64 (n : Int) ∧ v10 = .int .i64 0 ∧ w = wr)
 case atStart => exact ⟨rfl, rfl, rfl⟩
 case round =>
  obtain ⟨rfl, rfl, rfl⟩ := hrel
  have hb1 : bt signs (n : Int) < 128 := by
   have h2 : ∀ k : Nat, k < 38 → bt signs (k : Int) < 128 := by decide +kernel
   exact h2 n (by omega)
  have hb2 : 128 ≤ bt (Utf8.encode (r : Int)) (n : Int) ∧ bt (Utf8.encode (r : Int)) (n : Int) ≤ 255 := by
   refine ⟨?_, (bt_range _ _).2⟩
   unfold bt
   rw [dif_pos (by simp; omega)]
   simp only [Int.toNat_natCast]
   exact_mod_cast hls
  have B1 := zw2 signs (n : Int)
  have B2 := zw2 (Utf8.encode (r : Int)) (n : Int)
  have B3 : ∀ h, (((signs[n]'h).toNat : Nat) : Int) = bt signs (n : Int) := fun h => by simpa using B1 (by simpa using h)
  have B4 : ∀ h, ((((Utf8.encode (r : Int))[n]'h).toNat : Nat) : Int) = bt (Utf8.encode (r : Int)) (n : Int) := fun h => by simpa using B2 (by simpa using h)
  have q3 : ((n : Int) < (n : Int) + 1) = True := eq_true (by omega)
  have q4 : ((n : Int) < 38) = True := eq_true (by omega)
  have p1 : (0 ≤ (n : Int)) = True := eq_true (by omega)
  have q1 : ((n : Int) < (signs.size : Int)) = True := eq_true (by omega)
  have q2 : ((n : Int) < ((Utf8.encode (r : Int)).size : Int)) = True := eq_true (by omega)
  have hne : (bt signs (n : Int) == bt (Utf8.encode (r : Int)) (n : Int)) = false := by rw [beq_eq_false_iff_ne]; omega
  have hne2 : (bt signs (n : Int) != bt (Utf8.encode (r : Int)) (n : Int)) = true := by rw [bne_iff_ne]; omega
  clear hls
  go_wp2
  go_step3
  go_wp2_with (go_at_call 115; refine (idx58 _ _ _).mono ?_; rintro e w' ⟨rfl, rfl⟩)
  go_region
  all_goals go_wp2_with (go_at_call 115; refine (idx58 _ _ _).mono ?_; rintro e w' ⟨rfl, rfl⟩)
  have q5 : ((n : Int) + 1 ≤ 38) = True := eq_true (by omega)
  have q6 : (0 ≤ (n : Int) + 1) = True := eq_true (by omega)
  have hwr : IntKind.i64.wrap ((n : Int) + 1) = (n : Int) + 1 := by simp [IntKind.wrap, IntKind.bits, IntKind.signed]; omega
  have hI := fun w => zn9 (signs.extract (n + 1) 38) (bt (Utf8.encode (r : Int)) (n : Int)) (zgc n (by omega)) hb2.1 hb2.2 w
  go_region_law (go_simp; go_at_call 115; refine (hI _).mono ?_; rintro e w' ⟨rfl, rfl⟩)
  all_goals go_wp2
  all_goals repeat rw [Exit.noGoto_ret]
  all_goals simp only [Exit.then, Exit.inBlock, Exit.noGoto_ret]
  all_goals change bodyPost Tryz.prog Tryz.f113 _ Exit.ret _ _
  all_goals go_ret
  all_goals exact ⟨rfl, by repeat (first | exact Below.refl _ _ | apply z90 | apply z50)⟩
end
section
attribute [local irreducible] Utf8.encode Utf8.valid
theorem zu7 (r : Nat) (h : r < 128) (w : World) : Calls Tryz.prog 113 #[.string signs, .int .i32 r] w fun e w' => e = .returned (.int .i64 (indexByte signs.data.toList ((r : Nat) : Int).toNat.toUInt8)) ∧ Below w.heap.size w w' := by
 have h0 : (0 ≤ (r : Int)) = True := eq_true (by omega)
 have h1 : ((r : Int) < 128) = True := eq_true (by omega)
 have hw : IntKind.u8.wrap (r : Int) = (r : Int) := by simp [IntKind.wrap, IntKind.bits, IntKind.signed]; omega
 have hI := fun w => idx58 signs (r : Int) w
 generalize indexByte signs.data.toList ((r : Nat) : Int).toNat.toUInt8 = I at hI ⊢
 go_enter Tryz.func113, Tryz.ntmps113
 go_wp2_with (go_at_call 115; refine (hI _).mono ?_; rintro e w' ⟨rfl, rfl⟩)
 go_ret
 exact ⟨rfl, by repeat (first | exact Below.refl _ _ | apply z90 | apply z50)⟩
theorem ze7 (r : Nat) (h : 128 ≤ r) (he : r ≠ 65533) (hv : Utf8.valid r = false) (w : World) : Calls Tryz.prog 113 #[.string signs, .int .i32 r] w fun e w' => e = .returned (.int .i64 (-1)) ∧ Below w.heap.size w w' := by
 have hre : (((r : Int) == 65533) = false) := by rw [beq_eq_false_iff_ne]; omega
 have hv59 := fun w => zjc (r : Int) w
 rw [hv] at hv59
 have hg1 : ¬ (r : Int) < 128 := by omega
 clear hv
 go_enter Tryz.func113, Tryz.ntmps113
 go_wp2_with (go_at_call 116; refine (hv59 _).mono ?_; rintro e w' ⟨rfl, rfl⟩)
 go_ret
 exact ⟨rfl, by repeat (first | exact Below.refl _ _ | apply z90 | apply z50)⟩
theorem idxRune (r : Nat) (w : World) : ∃ v : Int, decide (0 ≤ v) = okB r ∧ Calls Tryz.prog 113 #[.string signs, .int .i32 r] w fun e w' => e = .returned (.int .i64 v) ∧ Below w.heap.size w w' := by
 by_cases h : r < 128
 ·exact ⟨_, signs_at r h, zu7 r h w⟩
 ·have hno : decide (0 ≤ (-1 : Int)) = okB r := by
   unfold okB
   rw [decide_eq_false (by omega)]
   exact (decide_eq_false (by omega)).symm
  refine ⟨-1, hno, ?_⟩
  by_cases he : r = 65533
  ·subst he
   exact z98 w
  ·cases hv : Utf8.valid r with
   | true => exact z18 r (by omega) he hv w
   | false => exact ze7 r (by omega) he hv w
theorem zy9 (r : Nat) (w : World) : Calls Tryz.prog 101 #[.string signs, .int .i32 r] w fun e w' => e = .returned (.bool (okB r)) ∧ Below w.heap.size w w' := by
 obtain ⟨v, hv, hI⟩ := idxRune r w
 go_enter Tryz.func101, Tryz.ntmps101
 go_wp2_with (go_at_call 113; refine hI.mono ?_; rintro e w' ⟨rfl, hb⟩)
 go_ret
 exact ⟨rfl, hb⟩
theorem bad49 (r : Nat) (w : World) : Calls Tryz.prog 100 #[.int .i32 r] w fun e w' => e = .returned (.bool (!okB r)) ∧ Below w.heap.size w w' := by
 have hI := zy9 r w
 generalize okB r = b at hI ⊢
 go_enter Tryz.func100, Tryz.ntmps100
 go_wp2_with (go_at_call 101; refine hI.mono ?_; rintro e w' ⟨rfl, hb⟩)
 go_ret
 exact ⟨rfl, hb⟩
def badFrom (s : ByteArray) : Nat → Nat → Int
 | 0, _ => -1
 | f + 1, pos => if pos < s.size then (if okB (Utf8.decode s pos).1 then badFrom s f (pos + (Utf8.decode s pos).2) else (pos : Int)) else -1
theorem zd7 (s : ByteArray) (f pos : Nat) (h : ¬ pos < s.size) : badFrom s f pos = -1 := by cases f <;> simp [badFrom, h]
theorem zub (s : ByteArray) (w : World) : Calls Tryz.prog 114 #[.string s, .func (.func 100) #[] #[], .bool true] w fun e w' => e = .returned (.int .i64 (badFrom s s.size 0)) ∧ Below w.heap.size w w' := by
 go_enter Tryz.func114, Tryz.ntmps114
 go_wp2
 go_loopg [] s.size (fun gf wx => ∃ pos : Nat, wx.heap[w.heap.size]? = some (.stringIter s pos) ∧ Below w.heap.size w wx ∧ badFrom s gf pos = badFrom s s.size 0 ∧ s.size ≤ pos + gf)
 case atStart => exact ⟨0, World.iter_heap w s 0, (Below.refl _ w).alloc (Nat.le_refl _) _, rfl, by omega⟩
 case round =>
  obtain ⟨pos, hit, hbw, hleft, hfu⟩ := hrel
  by_cases hps : pos < s.size
  ·obtain ⟨g', rfl⟩ : ∃ g', gk = g' + 1 := ⟨gk - 1, by omega⟩
   have hnx : ∀ ty, (Instr.next (.pointer (some ⟨w.heap.size, 0, none⟩)) true ty).run Tryz.prog wr = _ := fun ty => Lib.run_next_any_at wr w.heap.size s pos ty hit hps
   have hwd := Lib.width_pos s pos
   obtain ⟨R, hR⟩ : ∃ R, (Utf8.decode s pos).1 = R := ⟨_, rfl⟩
   obtain ⟨K, hK⟩ : ∃ K, (Utf8.decode s pos).2 = K := ⟨_, rfl⟩
   simp only [badFrom, hps, if_true, hR, hK] at hleft
   rw [hR, hK] at hnx
   rw [hK] at hwd
   have hit2 := Lib.iterAt_heap wr w.heap.size s pos (pos + K) hit
   have hbw2 := Lib.below_iterAt hbw (k := w.heap.size) (Nat.le_refl _) s (pos + K)
   obtain ⟨W, hWd⟩ : ∃ W, wr.iterAt w.heap.size s (pos + K) = W := ⟨_, rfl⟩
   rw [hWd] at hnx hit2 hbw2
   have cS := bad49 R W
   cases hsp : okB R <;> rw [hsp] at cS <;> simp only [hsp, if_true, Bool.false_eq_true, if_false] at hleft
   ·go_wp2_with (go_at_call 100; refine cS.mono ?_; rintro e W' ⟨rfl, hb⟩)
    go_ret
    exact ⟨by rw [← hleft] <;> rfl, hbw2.trans (hb.mono hbw2.size)⟩
   ·go_wp2_with (go_at_call 100; refine cS.mono ?_; rintro e W' ⟨rfl, hb⟩)
    go_roundg g'
    case measure => omega
    case rel => exact ⟨pos + K, (hb.block w.heap.size (z70 hit2)).trans hit2, hbw2.trans (hb.mono hbw2.size), hleft, by omega⟩
  ·have hnx : ∀ ty, (Instr.next (.pointer (some ⟨w.heap.size, 0, none⟩)) true ty).run Tryz.prog wr = _ := fun ty => Lib.run_next_end_at wr w.heap.size s pos ty hit hps
   rw [zd7 s gk pos hps] at hleft
   go_wp2
   go_ret
   exact ⟨by rw [← hleft] <;> rfl, hbw⟩
theorem z5b (s : ByteArray) (w : World) : Calls Tryz.prog 112 #[.string s, .func (.func 100) #[] #[]] w fun e w' => e = .returned (.int .i64 (badFrom s s.size 0)) ∧ Below w.heap.size w w' := by
 have hI := zub s w
 generalize badFrom s s.size 0 = v at hI ⊢
 go_enter Tryz.func112, Tryz.ntmps112
 go_wp2_with (go_at_call 114; refine hI.mono ?_; rintro e w' ⟨rfl, hb⟩)
 go_ret
 exact ⟨rfl, hb⟩
theorem zb5 (s : ByteArray) (w : World) : Calls Tryz.prog 99 #[.string s, .func (.func 100) #[] #[]] w fun e w' => e = .returned (.bool (decide (0 ≤ badFrom s s.size 0))) ∧ Below w.heap.size w w' := by
 have hI := z5b s w
 generalize badFrom s s.size 0 = v at hI ⊢
 go_enter Tryz.func99, Tryz.ntmps99
 go_wp2_with (go_at_call 112; refine hI.mono ?_; rintro e w' ⟨rfl, hb⟩)
 go_ret
 exact ⟨rfl, hb⟩
end
section
def byteAt (s : ByteArray) (i : Nat) : Nat := (s.get! i).toNat
theorem zg6 (s : ByteArray) (pos : Nat) (h : byteAt s pos < 128) : Utf8.decode s pos = (byteAt s pos, 1) := by
 unfold byteAt at h ⊢
 unfold Utf8.decode
 simp only [Nat.add_zero]
 rw [if_pos h]
theorem dec_big (s : ByteArray) (pos : Nat) (h : ¬ byteAt s pos < 128) : 128 ≤ (Utf8.decode s pos).1 := by
 unfold byteAt at h
 unfold Utf8.decode
 simp only [Nat.add_zero]
 rw [if_neg h]
 split
 ·split
  ·assumption
  ·decide
 ·split
  ·split
   ·rename_i h2
    simp only [Bool.and_eq_true, decide_eq_true_eq] at h2
    show 128 ≤ _
    have := h2.1
    simp only at this ⊢
    omega
   ·decide
  ·split
   ·split
    ·rename_i h2
     simp only [Bool.and_eq_true, decide_eq_true_eq] at h2
     have := h2.1
     simp only at this ⊢
     omega
    ·decide
   ·decide
theorem z45 (b : Nat) (h : okB b = true) : b < 128 := by
 unfold okB at h
 have := of_decide_eq_true h
 omega
theorem okB_dec (s : ByteArray) (pos : Nat) : okB (Utf8.decode s pos).1 = okB (byteAt s pos) := by
 by_cases h : byteAt s pos < 128
 ·rw [zg6 s pos h]
 ·have h1 := dec_big s pos h
  have e1 : okB (Utf8.decode s pos).1 = false := by
   cases e : okB (Utf8.decode s pos).1 with
   | false => rfl
   | true =>
    have := z45 _ e
    omega
  have e2 : okB (byteAt s pos) = false := by
   cases e : okB (byteAt s pos) with
   | false => rfl
   | true =>
    have := z45 _ e
    omega
  rw [e1, e2]
theorem zr7 (s : ByteArray) : ∀ (f pos : Nat), s.size ≤ pos + f → (badFrom s f pos < 0 ↔ ∀ i, pos ≤ i → i < s.size → okB (byteAt s i) = true) := by
 intro f
 induction f with
 | zero =>
  intro pos h
  constructor
  ·intro _ i h1 h2
   omega
  ·intro _
   simp [badFrom]
 | succ f ih =>
  intro pos h
  rw [badFrom]
  by_cases hp : pos < s.size
  ·rw [if_pos hp, okB_dec]
   by_cases hb : okB (byteAt s pos) = true
   ·rw [if_pos hb, zg6 s pos (z45 _ hb), ih (pos + 1) (by omega)]
    constructor
    ·intro h1 i h2 h3
     rcases Nat.lt_or_ge pos i with h4 | h4
     ·exact h1 i h4 h3
     ·rw [show i = pos by omega]
      exact hb
    ·intro h1 i h2 h3
     exact h1 i (by omega) h3
   ·rw [if_neg hb]
    constructor
    ·intro h1
     omega
    ·intro h1
     exact absurd (h1 pos (Nat.le_refl _) hp) hb
  ·rw [if_neg hp]
   constructor
   ·intro _ i h1 h2
    omega
   ·intro _
    decide
def nameB (s : ByteArray) : Bool := decide (1 ≤ s.size) && decide (s.size ≤ 16) && decide (∀ i, i < s.size → okB (byteAt s i) = true)
theorem zjb (s : ByteArray) : decide (0 ≤ badFrom s s.size 0) = !decide (∀ i, i < s.size → okB (byteAt s i) = true) := by
 have h := zr7 s s.size 0 (by omega)
 by_cases hb : ∀ i, i < s.size → okB (byteAt s i) = true
 ·have h1 := h.mpr (fun i _ hi => hb i hi)
  rw [decide_eq_true hb, decide_eq_false (by omega)]
  rfl
 ·have h1 : ¬ badFrom s s.size 0 < 0 := fun h2 => hb (fun i hi => h.mp h2 i (Nat.zero_le _) hi)
  rw [decide_eq_false hb, decide_eq_true (by omega)]
  rfl
theorem z22 (s : ByteArray) (w : World) : Calls Tryz.prog 74 #[.string s] w fun e w' => e = .returned (.bool (nameB s)) ∧ Below w.heap.size w w' := by
 have hC := fun w => zb5 s w
 rw [zjb] at hC
 unfold nameB
 generalize decide (∀ i, i < s.size → okB (byteAt s i) = true) = b at hC ⊢
 by_cases h1 : s.size = 0
 ·have he : s = ⟨#[]⟩ := by
   cases s with
   | mk d =>
    congr 1
    exact Array.eq_empty_of_size_eq_zero h1
  subst he
  go_enter Tryz.func74, Tryz.ntmps74
  go_wp2
  go_ret
  exact ⟨rfl, by repeat (first | exact Below.refl _ _ | apply z90 | apply z50)⟩
 ·have hne : s.toList ≠ [] := by
   rw [Lib.toList_data]
   intro e
   apply h1
   have : s.data.toList.length = 0 := by rw [e]; rfl
   simpa using this
  have hem : s.toList.isEmpty = false := by
   cases h : s.toList with
   | nil => exact absurd h hne
   | cons x l => rfl
  have h3 : decide (1 ≤ s.size) = true := decide_eq_true (by omega)
  by_cases h2 : (s.size : Int) ≤ 16
  ·have h4 : decide (s.size ≤ 16) = true := decide_eq_true (by omega)
   rw [h3, h4]
   go_enter Tryz.func74, Tryz.ntmps74
   go_wp2_with (go_at_call 99; refine (hC _).mono ?_; rintro e w' ⟨rfl, hb⟩)
   go_ret
   exact ⟨by simp [hem], hb⟩
  ·have h4 : decide (s.size ≤ 16) = false := decide_eq_false (by omega)
   have h5 : decide ((s.size : Int) ≤ 16) = false := decide_eq_false h2
   rw [h3, h4]
   go_enter Tryz.func74, Tryz.ntmps74
   go_wp2
   go_ret
   exact ⟨by simp [hem], by repeat (first | exact Below.refl _ _ | apply z90 | apply z50)⟩
def diff_Name.f (s : ByteArray) : Option Bool := some (nameB s)
end
end Go.Proofs.YtmlmiocomlehgaaGreat.Na
end
section
namespace Go.Proofs.YtmlmiocomlehgaaGreat.Man
open Go.RowKit Go.Proofs.YtmlmiocomlehgaaGreatW.PrintWords Go.Proofs.YtmlmiocomlehgaaGreatW.PrintLast Go.Proofs.YtmlmiocomlehgaaGreatW.PrintMore Go.Proofs.YtmlmiocomlehgaaGreat.PA Go.Proofs.YtmlmiocomlehgaaGreat.PF Go.Proofs.YtmlmiocomlehgaaGreat.Hid
section
def placeOf : List S110 → ByteArray → Int → Int
 | [], _, _ => -1
 | x :: l, nm, j => if (x.f0.toList == nm.toList) = true then j else placeOf l nm (j + 1)
def drains_Drains_place.f (s : DS) (nm : ByteArray) : Option (Int × DS) := some (placeOf s.row nm 0, s)
theorem zfa (nm : ByteArray) (xs : List S110) (hm : xs.length ≤ 9223372036854775807) (d : Nat) : ∀ (k j : Nat), j ≤ xs.length → xs.length - j = d → d < k → drains_drain.l0 k xs [nm] (xs.length : Int) (j : Int) = some (placeOf (xs.drop j) nm j) := by
 induction d with
 | zero =>
  intro k j hj hd hk
  obtain ⟨k, rfl⟩ : ∃ m, k = m + 1 := ⟨k - 1, by omega⟩
  simp only [drains_drain.l0]
  rw [if_neg (by omega), List.drop_eq_nil_of_le (by omega)]
  rfl
 | succ d ih =>
  intro k j hj hd hk
  obtain ⟨k, rfl⟩ : ∃ m, k = m + 1 := ⟨k - 1, by omega⟩
  have hlt : j < xs.length := by omega
  simp only [drains_drain.l0]
  rw [if_pos (by omega), if_pos (by omega), if_pos (by omega), List.drop_eq_getElem_cons hlt]
  have e : rd_T110 xs (j : Int) = xs[j] := by simp [rd_T110, List.getD, hlt]
  rw [e]
  have ih' := ih k (j + 1) (by omega) (by omega) (by omega)
  rw [show ((j + 1 : Nat) : Int) = (j : Int) + 1 by omega] at ih'
  have hw : wrap64 ((j : Int) + 1) = (j : Int) + 1 := by unfold wrap64; omega
  simp only [drains_Drains_place_1.f, placeOf]
  rw [if_pos (by simp), Option.bind_some, show rdOf ByteArray.empty [nm] 0 = nm from rfl, hw]
  by_cases c : (xs[j].f0.toList == nm.toList) = true
  ·rw [if_pos c, if_pos c]
  ·rw [if_neg c, if_neg c]
   exact ih'
theorem z4a (nm : ByteArray) (xs : List S110) (hm : xs.length ≤ 9223372036854775807) : drains_drain.f (xs.length + 1) xs 0 [nm] = some (placeOf xs nm 0) := by
 have := zfa nm xs hm xs.length (xs.length + 1) 0 (by omega) (by omega) (by omega)
 simpa [drains_drain.f] using this
theorem cap_str {W : World} {B : Nat} {x : ByteArray} (h : W.cell? ⟨B, 0, none⟩ = some (.string x)) : Kd.C Kd.string W (some ⟨B, 0, none⟩) ([x] : List ByteArray).length [x] :=
 Kd.C_of_reads (d := ByteArray.empty) ⟨rfl, by simp, fun _ => ⟨⟨B, 0, none⟩, rfl, fun j hj => by
  have : j = 0 := by simp at hj; omega
  subst this
  simpa [Addr.add] using h⟩⟩
variable {w0 w : World} {g : Nat} {s : DS}
theorem row_len (h : IsD w0 w g s) : s.row.length ≤ 9223372036854775807 := by
 obtain ⟨A, n, hb, hn, hC, hR, hg⟩ := h.open_
 exact hC.2.1
theorem zm1 (nm : ByteArray) (hI : IsD w0 w g s) : Calls Tryz.prog 78 #[.pointer (some ⟨g, 0, none⟩), .string nm] w fun e w' => e = .returned (.int .i64 (placeOf s.row nm 0)) ∧ Below w.heap.size w w' := by
 have hl := row_len hI
 obtain ⟨A, n, hb, hn, hC, hR, hg⟩ := hI.open_
 have h1 : w.cell? ⟨g, 0, none⟩ = some (.slice A s.row.length n) := (z60 hb 0).trans rfl
 have hgl : g < w.heap.size := z70 hb
 have HCALL := as0 (fun (o : Obj) (ho : o = .cells #[.string nm] 9) => drains_drain.calls (s.row.length + 1) A n s.row 0 (some ⟨w.heap.size, 0, none⟩) 1 [nm] _ (w.alloc o) (Kd.C_below hC ((Below.refl _ w).alloc (Nat.le_refl _) _)) hn (cap_str (by subst ho; simp [go_sem])) (Nat.le_refl _) (z4a nm s.row hl))
 clear hb hn hC hR hI hl
 go_enter Tryz.func78, Tryz.ntmps78
 go_wp2_with (go_at_call 105; refine (HCALL.out _ rfl).mono ?_; rintro e w' ⟨rfl, hb⟩)
 go_ret
 exact ⟨rfl, z10 ((Below.refl _ w).alloc (Nat.le_refl _) _) hb⟩
end
section
variable {w0 w : World} {g : Nat} {s : DS}
def namesOf (row : List S110) (u : Bool) : List ByteArray := (row.filter (fun x => x.f2 == u)).map (·.f0)
theorem zy6 (u : Bool) (hlb : s.row.length < 1099511627776) (hI : IsD w0 w g s) :
  Calls Tryz.prog 107 #[.pointer (some ⟨g, 0, none⟩), .bool u] w fun e w' => ∃ v1_ : Value, e = .returned v1_ ∧ Kd.R Kd.string 9 w' w.heap.size (fun _ => True) v1_ (namesOf s.row u) ∧ Below w.heap.size w w' := by
 obtain ⟨A, n, hb, hn, hC, hR, hg⟩ := hI.open_
 have h1 : w.cell? ⟨g, 0, none⟩ = some (.slice A s.row.length n) := (z60 hb 0).trans rfl
 have hgl : g < w.heap.size := z70 hb
 have HC := as0 hC
 clear hb hn hC hR hI
 go_enter Tryz.func107, Tryz.ntmps107
 go_wp2
 go_loopw [5, 16] (fun v5 v16 wr => ∃ k : Nat, k ≤ s.row.length ∧ v16 = .int .i64 k ∧ Aside0 (Kd.R Kd.string 9 wr w.heap.size (fun _ => True) v5 (namesOf (s.row.take k) u)) ∧ Aside0 (Below w.heap.size w wr)) (fun _ v16 _ => s.row.length - (intOf v16).toNat)
 case atStart => exact ⟨0, Nat.zero_le _, rfl, ⟨Kd.R_nil _ _ _ _ _⟩, ⟨Below.refl _ _⟩⟩
 case round =>
  obtain ⟨k, hk, rfl, HO, HB⟩ := hrel
  by_cases hlt : k < s.row.length
  ·obtain ⟨ad, rfl, hx0, hx1, hx2⟩ := z44 (Kd.C_below HC.out HB.out) (k : Int) (by omega) (by omega)
   obtain ⟨x, hxe⟩ : ∃ x : S110, x = rd_T110 s.row (k : Int) := ⟨_, rfl⟩
   rw [← hxe, Int.toNat_natCast] at hx0 hx1 hx2
   have hxg : s.row[k] = x := by rw [hxe]; simp [rd_T110, List.getD, hlt]
   have hts : s.row.take (k + 1) = s.row.take k ++ [x] := by rw [List.take_succ_eq_append_getElem hlt, hxg]
   have h0k : (0 : Int) ≤ (k : Int) := by omega
   have hkl : (k : Int) < (s.row.length : Int) := by omega
   have hlen : (namesOf (s.row.take k) u).length ≤ s.row.length := by
    unfold namesOf
    rw [List.length_map]
    exact Nat.le_trans (List.length_filter_le _ _) (by simp; omega)
   have HLEN2 := as0 hlen
   cases hu : (x.f2 == u) with
   | false =>
    have HX : Aside0 (namesOf (s.row.take (k + 1)) u = namesOf (s.row.take k) u) := ⟨by rw [hts]; simp [namesOf, hu]⟩
    generalize namesOf (s.row.take k) u = xs at HO HX HLEN2
    clear hxe hlen hts hxg
    have hu2 : decide (x.f2 = u) = false := by simpa using hu
    have HX1 := as0 (Kd.R_alloc HO.out (.cells #[.string x.f0, .int .i64 x.f1, .bool x.f2] 110))
    have HB1 := as0 (z80 HB.out (.cells #[.string x.f0, .int .i64 x.f1, .bool x.f2] 110))
    go_wp2
    exact ⟨⟨k + 1, by omega, by rw [show ((k : Int) + 1) = ((k + 1 : Nat) : Int) by omega], ⟨by rw [HX.out]; exact HX1.out⟩, HB1⟩, by simp [intOf]; omega⟩
   | true =>
    have hu2 : decide (x.f2 = u) = true := by simpa using hu
    have HX : Aside0 (namesOf (s.row.take (k + 1)) u = namesOf (s.row.take k) u ++ [x.f0]) := ⟨by rw [hts]; simp [namesOf, hu]⟩
    generalize namesOf (s.row.take k) u = xs at HO HX HLEN2
    clear hxe hlen hts hxg
    have HX1 := as0 (Kd.R_alloc HO.out (.cells #[.string x.f0, .int .i64 x.f1, .bool x.f2] 110))
    have HB1 := as0 (z80 HB.out (.cells #[.string x.f0, .int .i64 x.f1, .bool x.f2] 110))
    go_wp2_with ((with_reducible refine zm0 (b := .append) (xs := #[.tmp 24, .tmp 27]) rfl ?_); (try (refine z41 (by rfl) ?_; dsimp only)); at_builtin; refine Kd.R_append Kd.string (w0 := w) w.heap.size rfl (.tmp 24) (.tmp 27) 27 9 (.string ⟨#[]⟩) 16 rfl Tryz.underlying27 z53 rfl (by decide) (by omega) _ xs x.f0 [.string x.f0] (fun _ => True) (fun _ => False) rfl ?aX ?aP (fun _ h => h.elim) (fun _ _ => trivial) ?aO ?aB ?aS ?aL ?_; (case aX => (show Value.slice (some ⟨wr.heap.size + 1, 0, none⟩) 1 1 = _; simp)); (case aP => exact rfl); (case aO => exact HX1.out); (case aB => exact HB1.out); (case aS => exact HB1.out.size); (case aL => have := HLEN2.out; omega); intro v1 w1 ho hb hg hat; have HO1 := as0 ho; have HB2 := as0 hb; clear ho hb hg hat)
    exact ⟨⟨k + 1, by omega, by rw [show ((k : Int) + 1) = ((k + 1 : Nat) : Int) by omega], ⟨by rw [HX.out]; exact HO1.out⟩, HB2⟩, by simp [intOf]; omega⟩
  ·have hke : k = s.row.length := by omega
   subst hke
   rw [List.take_length] at HO
   clear hk
   go_wp2
   go_ret
   exact ⟨_, rfl, HO.out, HB.out⟩
theorem zy4 (hlb : s.row.length < 1099511627776) (hI : IsD w0 w g s) :
  Calls Tryz.prog 81 #[.pointer (some ⟨g, 0, none⟩)] w fun e w' => ∃ v1_ : Value, e = .returned v1_ ∧ Kd.R Kd.string 9 w' w.heap.size (fun _ => True) v1_ (namesOf s.row false) ∧ Below w.heap.size w w' := by
 have HN := as0 (zy6 false hlb hI)
 clear hI
 go_enter Tryz.func81, Tryz.ntmps81
 go_wp2_with (go_at_call 107; refine HN.out.mono ?_; rintro e w' ⟨v, rfl, hR, hb⟩)
 go_ret
 exact ⟨_, rfl, hR, hb⟩
theorem z5c (hlb : s.row.length < 1099511627776) (hI : IsD w0 w g s) :
  Calls Tryz.prog 93 #[.pointer (some ⟨g, 0, none⟩)] w fun e w' => ∃ v1_ : Value, e = .returned v1_ ∧ Kd.R Kd.string 9 w' w.heap.size (fun _ => True) v1_ (namesOf s.row true) ∧ Below w.heap.size w w' := by
 have HN := as0 (zy6 true hlb hI)
 clear hI
 go_enter Tryz.func93, Tryz.ntmps93
 go_wp2_with (go_at_call 107; refine HN.out.mono ?_; rintro e w' ⟨v, rfl, hR, hb⟩)
 go_ret
 exact ⟨_, rfl, hR, hb⟩
def drains_Drains_Waits.f (s : DS) : Option (List ByteArray × DS) := if s.row.length < 1099511627776 then some (namesOf s.row false, s) else none
def drains_Drains_Under.f (s : DS) : Option (List ByteArray × DS) := if s.row.length < 1099511627776 then some (namesOf s.row true, s) else none
theorem zh3 : ∀ (row : List S110) (nm : ByteArray) (j : Int), placeOf row nm j = -1 ∨ (j ≤ placeOf row nm j ∧ placeOf row nm j < j + row.length)
 | [], _, _ => .inl rfl
 | x :: l, nm, j => by
  rw [placeOf]
  split
  ·right
   simp
   omega
  ·rcases zh3 l nm (j + 1) with h | h
   ·exact .inl h
   ·right
    simp
    omega
end
section
variable {w0 w : World} {g : Nat} {s : DS}
def deadOf (s : DS) (nm : ByteArray) : Int × Bool := if placeOf s.row nm 0 < 0 then (0, false) else if (rd_T110 s.row (placeOf s.row nm 0)).f2 = true then ((rd_T110 s.row (placeOf s.row nm 0)).f1, true) else (0, false)
theorem zv6 (nm : ByteArray) (hI : IsD w0 w g s) :
  Calls Tryz.prog 95 #[.pointer (some ⟨g, 0, none⟩), .string nm] w fun e w' => e = .returned (.tuple #[.int .i64 (deadOf s nm).1, .bool (deadOf s nm).2]) ∧ Below w.heap.size w w' := by
 have HP := as0 (zm1 nm hI)
 have hb := zh3 s.row nm 0
 unfold deadOf
 obtain ⟨A, n, hbk, hn, hC, hR, hg⟩ := hI.open_
 have HC := as0 hC
 have HBK := as0 hbk
 have hgl : g < w.heap.size := z70 hbk
 clear hbk hn hC hR
 by_cases hp : placeOf s.row nm 0 < 0
 ·rw [if_pos hp]
  generalize placeOf s.row nm 0 = i at hp HP
  clear hI
  go_enter Tryz.func95, Tryz.ntmps95
  go_wp2_with (go_at_call 78; refine HP.out.mono ?_; rintro e w' ⟨rfl, hb⟩)
  go_ret2
  exact ⟨rfl, hb⟩
 ·rw [if_neg hp]
  obtain ⟨P, hP⟩ : ∃ P : Nat, placeOf s.row nm 0 = (P : Int) := ⟨(placeOf s.row nm 0).toNat, by omega⟩
  have hPl : (P : Int) < (s.row.length : Int) := by omega
  have h0P : (0 : Int) ≤ (P : Int) := by omega
  rw [hP] at HP ⊢
  clear hP hp hb
  obtain ⟨x, hxe⟩ : ∃ x : S110, x = rd_T110 s.row (P : Int) := ⟨_, rfl⟩
  have hrd : ∀ w1, Below w.heap.size w w1 → ∃ ad, A = some ad ∧ w1.cell? ⟨g, 0, none⟩ = some (.slice A s.row.length n) ∧ w1.cell? ⟨(ad.add (P * 3)).block, (ad.add (P * 3)).off + 1, none⟩ = some (.int .i64 x.f1) ∧ w1.cell? ⟨(ad.add (P * 3)).block, (ad.add (P * 3)).off + 2, none⟩ = some (.bool x.f2) := by
   intro w1 hb1
   obtain ⟨ad, hA, hx0, hx1, hx2⟩ := z44 (Kd.C_below HC.out hb1) (P : Int) h0P hPl
   rw [← hxe, Int.toNat_natCast] at hx1 hx2
   exact ⟨ad, hA, (z60 (z20 HBK.out hb1) 0).trans rfl, hx1, hx2⟩
  have HRD := as0 hrd
  rw [← hxe]
  clear hI hxe hrd HC HBK
  cases hx2 : x.f2 with
  | false =>
   rw [if_neg (by decide)]
   go_enter Tryz.func95, Tryz.ntmps95
   go_wp2_with (go_at_call 78; refine HP.out.mono ?_; rintro e w' ⟨rfl, hb⟩; obtain ⟨ad, rfl, hc0, hc1, hc2⟩ := HRD.out _ hb; rw [hx2] at hc2)
   go_ret2
   exact ⟨rfl, hb⟩
  | true =>
   rw [if_pos rfl]
   go_enter Tryz.func95, Tryz.ntmps95
   go_wp2_with (go_at_call 78; refine HP.out.mono ?_; rintro e w' ⟨rfl, hb⟩; obtain ⟨ad, rfl, hc0, hc1, hc2⟩ := HRD.out _ hb; rw [hx2] at hc2)
   go_ret2
   exact ⟨rfl, hb⟩
def drains_Drains_Deadline.f (s : DS) (nm : ByteArray) : Option (Int × Bool × DS) := some ((deadOf s nm).1, (deadOf s nm).2, s)
end
section
theorem za6 : (Tryz.prog.info? 110).map (fun i => (i.zero, i.size, i.bytes)) = some (some (.agg #[(.string ⟨#[]⟩), (.int .i64 0), (.bool false)]), 3, 32) := by kernel_rfl
theorem z8c (w : World) : Kd.R k110 110 (w.alloc (.cells #[] 110)) w.heap.size (fun _ => True) (.slice (some ⟨w.heap.size, 0, none⟩) ([] : List S110).length 0) [] :=
 ⟨fun _ _ => trivial, [], World.ownsRow_lit (base := w.heap.size) (e := 110) (size := 3) w #[] 0 (Nat.le_refl _) (by decide) (by simp), Reps.none _ _⟩
theorem z29 (b : Nat) (n : Nat) (xs : List S110) (w : World) (base : Nat) (hR : Kd.R k110 110 w base (fun _ => True) (.slice (some ⟨b, 0, none⟩) xs.length n) xs) (hl : xs.length ≤ 1000000000) : Calls Tryz.prog 80 #[.slice (some ⟨b, 0, none⟩) xs.length n] w fun e w' => ∃ v', e = .returned v' ∧ Kd.R k110 110 w' w.heap.size (fun _ => True) v' xs ∧ Below w.heap.size w w' := by
 have HC := as0 (Kd.C_below (Kd.R_reads' hR).2.2 (z80 (Below.refl _ w) (.cells #[] 110)))
 have HO := as0 (z8c w)
 clear hR
 have heq := fun (w : World) (a : Option Addr) (n c n' c' : Nat) => Lib.run_eql_slice_nil (P := Tryz.prog) w 92 110 a n c n' c' Tryz.underlying92
 go_enter Tryz.func80, Tryz.ntmps80
 go_wp2_with (at_builtin; refine Kd.R_append_rows k110 (w0 := w) w.heap.size rfl (.tmp 5) (.tmp 6) 92 110 (.agg #[(.string ⟨#[]⟩), (.int .i64 0), (.bool false)]) 32 rfl Tryz.underlying92 za6 rfl (by decide) (by omega) _ [] xs _ _ _ (fun _ => True) (fun _ => False) rfl rfl ?aO ?aR (fun _ _ h => h) (fun _ h => h.elim) ?aF ?aB ?aS ?aL ?_; (case aO => exact HO.out); (case aR => exact HC.out); (case aF => exact fun _ _ => trivial); (case aB => exact z80 (Below.refl _ w) _); (case aS => simp); (case aL => simp; omega); intro v1 w1 ho hb hg hat; simp only [List.nil_append] at ho)
 go_ret
 exact ⟨_, rfl, ho, hb⟩
theorem zo5 (z : Array Value) : Builtin.zeroCells z 1 = z := by
 apply Array.ext
 ·simp [Builtin.zeroCells]
 ·intro i h1 h2
  simp [Builtin.zeroCells, Nat.mod_eq_of_lt h2, h2]
theorem z26 {P : Program} (w : World) (t e ty : TypeId) (z : Value) (ht : P.underlying t = some (.slice e)) (hv : ∀ w, (zeroValue e).run P w = .ok z w) (h1 : ∀ v ∈ z.cells.toList, v.oneCell' = true) (b o c : Nat)
  (hc : ∀ j, j < z.cells.size → (w.cell? ⟨b, o + j, none⟩).isSome = true) (hf : ∀ j, j < z.cells.size → w.frozen? ⟨b, o + j, none⟩ = false) :
  (Builtin.clear_ #[t] ty #[.slice (some ⟨b, o, none⟩) 1 c]).run P w = .ok (.tuple #[]) (w.setCells b o z.cells.toList) := by
 have hst := run_storeCells_cells (P := P) b o z.cells.toList 0 w (by simpa using hc) (by simpa using hf) h1
 simp only [Nat.add_zero] at hst
 simp [Builtin.clear_, run_underlying ht, hv, zo5, hst]
theorem delete_R (b cap i j : Nat) (xs : List S110) (w : World) (base : Nat) (hR : Kd.R k110 110 w base (fun _ => True) (.slice (some ⟨b, 0, none⟩) xs.length cap) xs) (hij : j = i + 1) (hi : i < xs.length) (hm : xs.length ≤ 1000000000) (hbase : base ≤ w.heap.size) :
  Calls Tryz.prog 79 #[.slice (some ⟨b, 0, none⟩) xs.length cap, .int .i64 i, .int .i64 j] w fun e w' => e = .returned (.slice (some ⟨b, 0, none⟩) (xs.length - 1) cap) ∧
   Kd.R k110 110 w' base (fun _ => True) (.slice (some ⟨b, 0, none⟩) (xs.length - 1) cap) (xs.eraseIdx i) ∧ w.grownBy w' (some b) := by
 obtain ⟨n, hnn⟩ : ∃ n, n = xs.length := ⟨_, rfl⟩
 rw [← hnn] at hR hi hm ⊢
 have hn : n ≤ cap := (Kd.R_reads' hR).2.1
 obtain ⟨cur, hb, hc, hm2⟩ : ∃ cur : Array Value, w.heap[b]? = some (.cells cur 110 (0, 0)) ∧ cur.size = cap * 3 ∧ cap ≤ maxLen := by
  obtain ⟨_, inner, hown, _⟩ := hR
  rcases hown.2 with ⟨hv, _⟩ | ⟨g', cap', cur, hv, hb, hh, _, hcm, hcs, htake⟩
  ·cases hv
  injection hv with ha _ hc
  injection ha with ha
  injection ha with hg
  subst hg; subst hc
  exact ⟨cur, hh, hcs, hcm⟩
 unfold maxLen at hm2
 have hel : (xs.eraseIdx i).length = n - 1 := by rw [List.length_eraseIdx_of_lt (by omega), hnn]
 obtain ⟨A, hA⟩ : ∃ A : Addr, (if cap = j then some (⟨b, 0, none⟩ : Addr) else some ⟨b, j * 3, none⟩) = some A := by
  by_cases h : cap = j
  ·exact ⟨⟨b, 0, none⟩, by simp [h]⟩
  ·exact ⟨⟨b, j * 3, none⟩, by simp [h]⟩
 have HA : Aside0 (some A = if cap = i + 1 then some (⟨b, 0, none⟩ : Addr) else (some (⟨b, 0, none⟩ : Addr)).map (·.add ((i + 1) * k110.sz))) := ⟨by
  rw [← hA, hij]
  by_cases h : cap = i + 1
  ·simp [h]
  ·rw [if_neg h, if_neg h]
   simp [Addr.add]
   rfl⟩
 have e1 : n - (i + (n - j)) = 1 := by omega
 have e3 : n - (n - 1) = 1 := by omega
 have HO : Aside0 (Kd.R k110 110 w.drew base (fun _ => True) (.slice (some ⟨b, 0, none⟩) n cap) xs) := ⟨Kd.R_drew hR⟩
 have HCL := as0 (fun (W1 : World) (h : Kd.R k110 110 W1 base (fun _ => True) (.slice (some ⟨b, 0, none⟩) (n - 1) cap) (xs.eraseIdx i)) (cur1 : Array Value) (hb1 : W1.heap[b]? = some (.cells cur1 110 (0, 0))) (hs1 : cur1.size = cap * 3) =>
  And.intro (fun ty => (show (Builtin.clear_ #[92] ty #[.slice (some ⟨b, (n - 1) * 3, none⟩) (n - (n - 1)) (cap - (n - 1))]).run Tryz.prog W1 = .ok (.tuple #[]) (W1.setCells b ((n - 1) * 3) [.string ⟨#[]⟩, .int .i64 0, .bool false]) from by
   rw [e3]
   exact z26 W1 92 110 ty (.agg #[.string ⟨#[]⟩, .int .i64 0, .bool false]) Tryz.underlying92 (fun w => by kernel_rfl) (by decide) b ((n - 1) * 3) _ (fun j hj => by
    have hj2 : j < 3 := hj
    rw [z60 hb1]; simp [hs1]; omega) (fun j hj => z40 hb1 _)))
   (Ko.R_tail h [.string ⟨#[]⟩, .int .i64 0, .bool false] (o := (n - 1) * 3) (Nat.le_refl _) (by show (n - 1) * 3 + 3 ≤ cap * 3; omega)))
 have HSZ := as0 (fun (W1 : World) (h : Kd.R k110 110 W1 base (fun _ => True) (.slice (some ⟨b, 0, none⟩) (n - 1) cap) (xs.eraseIdx i)) => (show ∃ cur1 : Array Value, W1.heap[b]? = some (.cells cur1 110 (0, 0)) ∧ cur1.size = cap * 3 by
  obtain ⟨_, inner, hown, _⟩ := h
  rcases hown.2 with ⟨hv, _⟩ | ⟨g', cap', cur, hv, hb, hh, _, hcm, hcs, htake⟩
  ·cases hv
  injection hv with ha _ hc
  injection ha with ha
  injection ha with hg
  subst hg; subst hc
  exact ⟨cur, hh, hcs⟩))
 have e2 : i + (n - j) = n - 1 := by omega
 have hic : i ≤ cap := by omega
 have hjc : j ≤ cap := by omega
 have hjn : j ≤ n := by omega
 have hij1 : i < j := by omega
 have HE2 := as0 e2
 have HIJ := as0 hij
 have HN := as0 hnn
 have h1n : 1 ≤ n := by omega
 clear hc hb hR hij e1 e2 hel hnn e3
 go_enter Tryz.func79, Tryz.ntmps79
 go_wp2_with fail
 go_region_law (refine Kd.R_delete_step k110 (w0 := w.drew) base rfl (.tmp 22) (.tmp 25) 92 110 rfl Tryz.underlying92 (by kernel_rfl) (g := b) (n := n) (c := cap) (k := i) (m := n - j) (c2 := cap - j) (A := some A) (xs := xs) (ok := fun _ => True) (by simp [Act.eval, Act.put]) (by simp [Act.eval, Act.put, hA]) HA.out (by rw [HIJ.out]) HO.out hi (Below.refl _ _) hbase ?_; intro w1 hR1 hb1 hg1)
 obtain ⟨cur1, hb2, hs2⟩ := HSZ.out w1 hR1
 obtain ⟨hcl, hR2, hg2⟩ := HCL.out w1 hR1 cur1 hb2 hs2
 have HR2 := as0 hR2
 have HG := as0 (Ko.grown_trans hg1 hg2)
 clear hR2 hR1 hb1 hg1 hg2 hb2 hs2
 go_wp2
 go_ret
 exact ⟨rfl, HR2.out, ⟨HG.out.os, HG.out.tape, HG.out.output, HG.out.size, HG.out.block⟩⟩
end
section
variable {w0 w : World} {g : Nat} {s : DS}
theorem IsD.open_cons (h : IsD w0 w g s) (hne : 0 < s.row.length) : ∃ b n, w.heap[g]? = some (.cells #[.slice (some ⟨b, 0, none⟩) s.row.length n] 94 (0, 0)) ∧ Kd.R k110 110 w w0.heap.size (fun _ => True) (.slice (some ⟨b, 0, none⟩) s.row.length n) s.row ∧ w0.heap.size ≤ g := by
 obtain ⟨A, n, hb, hn, hC, hR, hg⟩ := h.open_
 have hR2 := hR
 obtain ⟨_, inner, hown, _⟩ := hR
 rcases hown.2 with ⟨_, h0⟩ | ⟨b, cap, cur, hv, _⟩
 ·omega
 ·injection hv with ha _ hc2
  subst ha; subst hc2
  exact ⟨b, n, hb, hR2, hg⟩
theorem zr8 {w : World} {base : Nat} {ok : Nat → Prop} {v : Value} {xs : List S110} (h : Kd.R k110 110 w base ok v xs) (hne : 0 < xs.length) : ∃ b n, v = .slice (some ⟨b, 0, none⟩) xs.length n ∧ base ≤ b ∧ ∃ cur, w.heap[b]? = some (.cells cur 110 (0, 0)) := by
 obtain ⟨_, inner, hown, _⟩ := h
 rcases hown.2 with ⟨_, h0⟩ | ⟨b, cap, cur, hv, hb, hh, _⟩
 ·omega
 ·exact ⟨b, cap, hv, hb, cur, hh⟩
theorem IsD.put {w3 : World} {v v3 : Value} {row : List S110} (hg : w0.heap.size ≤ g)
  (hk : KeptH TD w w3) (hB3 : Below w0.heap.size w0 w3) (hgb : w3.heap[g]? = some (.cells #[v] 94 (0, 0))) (hR : Kd.R k110 110 w3 w0.heap.size (fun _ => True) v3 row) :
  IsD w0 (w3.setCell ⟨g, 0, none⟩ v3) g ⟨row⟩ ∧ Below w0.heap.size w0 (w3.setCell ⟨g, 0, none⟩ v3) ∧ KeptH TD w (w3.setCell ⟨g, 0, none⟩ v3) := by
 have hg1 : (w3.setCell ⟨g, 0, none⟩ v3).heap[g]? = some (.cells #[v3] 94 (0, 0)) := by simpa using zz0 hgb 0 v3
 refine ⟨⟨v3, hg1, hg, ?_⟩, zc0 hB3 hg, hk.setCell (p := ⟨g, 0, none⟩) (.cells hgb (by decide)) _⟩
 exact Kd.R_set hR hgb (by decide) 0 v3
theorem zx4 {W W' : World} {g j : Nat} {v : Value} (hb : Below W.heap.size W W') (h1 : W.cell? ⟨g, j, none⟩ = some v) (h2 : W.frozen? ⟨g, j, none⟩ = false) (h3 : g < W.heap.size) : W'.cell? ⟨g, j, none⟩ = some v ∧ W'.frozen? ⟨g, j, none⟩ = false ∧ g < W'.heap.size :=
 ⟨(hb.cell (p := ⟨g, j, none⟩) h3).trans h1, (hb.frozen (p := ⟨g, j, none⟩) h3).trans h2, Nat.lt_of_lt_of_le h3 hb.size⟩
theorem z83 {W W' : World} {g j : Nat} {v : Value} {row : Option Nat} (hg : W.grownBy W' row) (hne : some g ≠ row) (h1 : W.cell? ⟨g, j, none⟩ = some v) (h2 : W.frozen? ⟨g, j, none⟩ = false) (h3 : g < W.heap.size) : W'.cell? ⟨g, j, none⟩ = some v ∧ W'.frozen? ⟨g, j, none⟩ = false ∧ g < W'.heap.size := by
 have hb := hg.block g h3 hne
 refine ⟨?_, ?_, Nat.lt_of_lt_of_le h3 hg.size⟩
 ·rw [← h1]; simp only [World.cell?, hb]
 ·rw [← h2]; simp only [World.frozen?, hb]
def endRow (row : List S110) (nm : ByteArray) : List S110 := if placeOf row nm 0 < 0 then row else row.eraseIdx (placeOf row nm 0).toNat
def drains_Drains_End.f (s : DS) (nm : ByteArray) : Option (Bool × DS) := if s.row.length ≤ 1000000000 then some (decide (0 ≤ placeOf s.row nm 0), ⟨endRow s.row nm⟩) else none
theorem end_no (nm : ByteArray) (hI : IsD w0 w g s) (hp : placeOf s.row nm 0 < 0) : Calls Tryz.prog 48 #[.pointer (some ⟨g, 0, none⟩), .string nm] w fun e w' => e = .returned (.bool false) ∧ Below w.heap.size w w' := by
 have HP := as0 (zm1 nm hI)
 generalize placeOf s.row nm 0 = i at hp HP
 clear hI
 go_enter Tryz.func48, Tryz.ntmps48
 go_wp2_with (go_at_call 78; refine HP.out.mono ?_; rintro e w' ⟨rfl, hb⟩)
 go_ret
 exact ⟨rfl, hb⟩
theorem end_yes (nm : ByteArray) (hI : IsD w0 w g s) (hB : Below w0.heap.size w0 w) (hp : ¬ placeOf s.row nm 0 < 0) (hlen : s.row.length ≤ 1000000000) :
    Calls Tryz.prog 48 #[.pointer (some ⟨g, 0, none⟩), .string nm] w fun e w' => e = .returned (.bool true) ∧ IsD w0 w' g ⟨s.row.eraseIdx (placeOf s.row nm 0).toNat⟩ ∧ Below w0.heap.size w0 w' ∧ KeptH TD w w' := by
  have HP := as0 (zm1 nm hI)
  obtain ⟨j, hj⟩ : ∃ j : Nat, placeOf s.row nm 0 = (j : Int) := ⟨(placeOf s.row nm 0).toNat, by omega⟩
  have hjl : j < s.row.length := by
    rcases zh3 s.row nm 0 with h | h <;> omega
  rw [hj] at HP hp ⊢
  rw [Int.toNat_natCast]
  have HI := as0 hI
  have HB0 := as0 hB
  clear hI hB hj
  go_enter Tryz.func48, Tryz.ntmps48
  go_wp2_with (first
    | (go_at_call 78; refine HP.out.mono ?_; rintro e w1 ⟨rfl, hb1⟩; (
        have HI1 := as0 (HI.out.below hb1); have HB1 := as0 hb1; obtain ⟨b, n, hgb, hR, hg⟩ := HI1.out.open_cons (by omega);
        have h1 : w1.cell? ⟨g, 0, none⟩ = some (.slice (some ⟨b, 0, none⟩) s.row.length n) := (z60 hgb 0).trans rfl;
        have hf1 : w1.frozen? ⟨g, 0, none⟩ = false := z40 hgb 0;
        have hg1l : g < w1.heap.size := z70 hgb;
        have HCL := as0 (z29 b n s.row w1 w0.heap.size hR hlen); have HGB := as0 hgb; clear hR hgb hb1))
    | (go_at_call 80; refine HCL.out.mono ?_; rintro e w2 ⟨v2, rfl, hR2, hb2⟩; obtain ⟨b2, n2, rfl, hbb2, cur2, hcur2⟩ := zr8 hR2 (by omega))
    | (go_at_call 79; rw [show ((j : Int) + 1) = ((j + 1 : Nat) : Int) by omega]; refine (delete_R b2 n2 j (j + 1) s.row w2 w1.heap.size hR2 rfl hjl hlen hb2.size).mono ?_; rintro e w3 ⟨rfl, hR3, hg3⟩;
       (have HGB3 := as0 ((hg3.block g (Nat.lt_of_lt_of_le (z70 HGB.out) hb2.size) (by intro e; injection e with e; have := z70 HGB.out; omega)).trans ((hb2.block g (z70 HGB.out)).trans HGB.out));
        have h3 : w3.cell? ⟨g, 0, none⟩ = some (.slice (some ⟨b, 0, none⟩) s.row.length n) := (z60 HGB3.out 0).trans rfl; have hf3 : w3.frozen? ⟨g, 0, none⟩ = false := z40 HGB3.out 0; have hg3l : g < w3.heap.size := z70 HGB3.out)))
  have hB1 : Below w0.heap.size w0 w1 := HB0.out.trans (HB1.out.mono HB0.out.size)
  have HFIN := as0 (IsD.put (w3 := w3) (v3 := .slice (some ⟨b2, 0, none⟩) (s.row.length - 1) n2) (row := s.row.eraseIdx j) hg
    (((KeptH.of_below HB1.out).below hb2).grown hg3 (fun k h => by injection h with h; subst h; exact .inl (.cells hcur2 (by decide))))
    ((hB1.trans (hb2.mono hB1.size)).grown hg3 (Nat.le_trans hB1.size hb2.size) (fun k h => by injection h with h; subst h; exact Nat.le_trans hB1.size hbb2)) HGB3.out (Kd.R_lower hR3 hB1.size))
  go_ret
  exact ⟨rfl, HFIN.out⟩
theorem drains_Drains_End.calls (g : Nat) (s : DS) (a1 : ByteArray) (r1 : Bool) (s' : DS) (w0 w : World) (hI : IsD w0 w g s) (hB : Below w0.heap.size w0 w) (h : drains_Drains_End.f s a1 = some (r1, s')) :
  Calls Tryz.prog 48 #[.pointer (some ⟨g, 0, none⟩), .string a1] w fun e w' => e = .returned (.bool r1) ∧ IsD w0 w' g s' ∧ Below w0.heap.size w0 w' ∧ KeptH TD w w' := by
 unfold drains_Drains_End.f at h
 split at h
 ·rename_i hl
  obtain ⟨rfl, rfl⟩ := Prod.mk.inj (Option.some.inj h)
  unfold endRow
  by_cases hp : placeOf s.row a1 0 < 0
  ·rw [if_pos hp, decide_eq_false (by omega)]
   refine (end_no a1 hI hp).mono ?_
   rintro e w' ⟨rfl, hb⟩
   exact ⟨rfl, za2 hI hB hb⟩
  ·rw [if_neg hp, decide_eq_true (by omega)]
   exact end_yes a1 hI hB hp hl
 ·cases h
end
end Go.Proofs.YtmlmiocomlehgaaGreat.Man
end
section
namespace Go.Proofs.YtmlmiocomlehgaaGreat.Man
open Go.RowKit Go.Proofs.YtmlmiocomlehgaaGreatW.PrintWords Go.Proofs.YtmlmiocomlehgaaGreatW.PrintLast Go.Proofs.YtmlmiocomlehgaaGreatW.PrintMore Go.Proofs.YtmlmiocomlehgaaGreat.PA Go.Proofs.YtmlmiocomlehgaaGreat.PF Go.Proofs.YtmlmiocomlehgaaGreat.Hid Go.Proofs.YtmlmiocomlehgaaGreat.Na
section
variable {w0 w : World} {g : Nat} {s : DS}
def drains_Drains_Ask.f (s : DS) (nm : ByteArray) : Option (Int × DS) :=
 if s.row.length ≤ 1000000000 then (if nameB nm = true then (if placeOf s.row nm 0 < 0 then (if (namesOf s.row false).length < 16 then some (0, ⟨s.row ++ [⟨nm, 0, false⟩]⟩) else some (7, s)) else some (6, s)) else some (11, s)) else none
theorem ask_bad (nm : ByteArray) (hI : IsD w0 w g s) (hn : nameB nm = false) : Calls Tryz.prog 50 #[.pointer (some ⟨g, 0, none⟩), .string nm] w fun e w' => e = .returned (.int .i64 11) ∧ Below w.heap.size w w' := by
 have HN := as0 (fun W => z22 nm W)
 rw [hn] at HN
 clear hI hn
 go_enter Tryz.func50, Tryz.ntmps50
 go_wp2_with (go_at_call 74; refine (HN.out _).mono ?_; rintro e w' ⟨rfl, hb⟩)
 go_ret
 exact ⟨rfl, hb⟩
theorem ztb (nm : ByteArray) (hI : IsD w0 w g s) (hn : nameB nm = true) (hp : ¬ placeOf s.row nm 0 < 0) : Calls Tryz.prog 50 #[.pointer (some ⟨g, 0, none⟩), .string nm] w fun e w' => e = .returned (.int .i64 6) ∧ Below w.heap.size w w' := by
 have HN := as0 (fun W => z22 nm W)
 have HI := as0 hI
 have HP := as0 (fun W (h : IsD w0 W g s) => zm1 nm h)
 rw [hn] at HN
 generalize placeOf s.row nm 0 = i at hp HP
 clear hI hn
 have hp2 : decide (0 ≤ i) = true := decide_eq_true (by omega)
 go_enter Tryz.func50, Tryz.ntmps50
 go_wp2_with (first
  | (go_at_call 74; refine (HN.out _).mono ?_; rintro e w1 ⟨rfl, hb1⟩; have HB1 := as0 hb1; clear hb1)
  | (go_at_call 78; refine (HP.out _ (HI.out.below HB1.out)).mono ?_; rintro e w2 ⟨rfl, hb2⟩))
 go_ret
 exact ⟨rfl, z10 HB1.out hb2⟩
theorem ask_full (nm : ByteArray) (hI : IsD w0 w g s) (hn : nameB nm = true) (hp : placeOf s.row nm 0 < 0) (hl : s.row.length ≤ 1000000000) (hf : ¬ (namesOf s.row false).length < 16) : Calls Tryz.prog 50 #[.pointer (some ⟨g, 0, none⟩), .string nm] w fun e w' => e = .returned (.int .i64 7) ∧ Below w.heap.size w w' := by
 have HN := as0 (fun W => z22 nm W)
 have HI := as0 hI
 have HP := as0 (fun W (h : IsD w0 W g s) => zm1 nm h)
 have HW := as0 (fun W (h : IsD w0 W g s) => zy4 (by omega) h)
 rw [hn] at HN
 generalize placeOf s.row nm 0 = i at hp HP
 generalize namesOf s.row false = l at hf HW
 clear hI hn hl
 have hp2 : decide (0 ≤ i) = false := decide_eq_false (by omega)
 have hf2 : decide ((16 : Int) ≤ (l.length : Int)) = true := decide_eq_true (by omega)
 have hf3 : decide (16 ≤ l.length) = true := decide_eq_true (by omega)
 go_enter Tryz.func50, Tryz.ntmps50
 go_wp2_with (first
  | (go_at_call 74; refine (HN.out _).mono ?_; rintro e w1 ⟨rfl, hb1⟩; have HB1 := as0 hb1; clear hb1)
  | (go_at_call 78; refine (HP.out _ (HI.out.below HB1.out)).mono ?_; rintro e w2 ⟨rfl, hb2⟩; have HB2 := as0 (z10 HB1.out hb2); clear hb2)
  | (go_at_call 81; refine (HW.out _ (HI.out.below HB2.out)).mono ?_; rintro e w3 ⟨v3, rfl, hR3, hb3⟩; have HB3 := as0 (z10 HB2.out hb3); clear hb3; obtain ⟨A3, n3, rfl⟩ := Kd.R_slice hR3; clear hR3))
 go_ret
 exact ⟨rfl, HB3.out⟩
theorem ask_ok (nm : ByteArray) (hI : IsD w0 w g s) (hB : Below w0.heap.size w0 w) (hn : nameB nm = true) (hp : placeOf s.row nm 0 < 0) (hl : s.row.length ≤ 1000000000) (hf : (namesOf s.row false).length < 16) :
    Calls Tryz.prog 50 #[.pointer (some ⟨g, 0, none⟩), .string nm] w fun e w' => e = .returned (.int .i64 0) ∧ IsD w0 w' g ⟨s.row ++ [⟨nm, 0, false⟩]⟩ ∧ Below w0.heap.size w0 w' ∧ KeptH TD w w' := by
  have HN := as0 (fun W => z22 nm W)
  have HI := as0 hI
  have HB0 := as0 hB
  have HP := as0 (fun W (h : IsD w0 W g s) => zm1 nm h)
  have HW := as0 (fun W (h : IsD w0 W g s) => zy4 (by omega) h)
  rw [hn] at HN
  generalize placeOf s.row nm 0 = i at hp HP
  generalize namesOf s.row false = l at hf HW
  clear hI hn hB
  have hp2 : decide (0 ≤ i) = false := decide_eq_false (by omega)
  have hf2 : decide ((16 : Int) ≤ (l.length : Int)) = false := decide_eq_false (by omega)
  have hf3 : decide (16 ≤ l.length) = false := decide_eq_false (by omega)
  go_enter Tryz.func50, Tryz.ntmps50
  go_wp2_with (first
    | (go_at_call 74; refine (HN.out _).mono ?_; rintro e w1 ⟨rfl, hb1⟩; have HB1 := as0 hb1; clear hb1)
    | (go_at_call 78; refine (HP.out _ (HI.out.below HB1.out)).mono ?_; rintro e w2 ⟨rfl, hb2⟩; have HB2 := as0 (z10 HB1.out hb2); clear hb2)
    | (go_at_call 81; refine (HW.out _ (HI.out.below HB2.out)).mono ?_; rintro e w3 ⟨v3, rfl, hR3, hb3⟩; have HB3 := as0 (z10 HB2.out hb3); clear hb3; obtain ⟨A3, n3, rfl⟩ := Kd.R_slice hR3; clear hR3;
       have HI3 := as0 (HI.out.below HB3.out); obtain ⟨A, n, hgb, hnn, hC, hR, hg⟩ := HI3.out.open_; have HGB := as0 hgb; have HR := as0 hR; have hgl : g < w3.heap.size := z70 hgb; have h1 : w3.cell? ⟨g, 0, none⟩ = some (.slice A s.row.length n) := (z60 hgb 0).trans rfl; have hf1 : w3.frozen? ⟨g, 0, none⟩ = false := z40 hgb 0; clear hgb hnn hC hR)
    | ((with_reducible refine zm0 (b := .append) (xs := #[.tmp 26, .tmp 29]) rfl ?_); (try (refine z41 (by rfl) ?_; dsimp only)); at_builtin; refine Kd.R_append k110 (w0 := w0) w0.heap.size rfl (.tmp 26) (.tmp 29) 92 110 (.agg #[(.string ⟨#[]⟩), (.int .i64 0), (.bool false)]) 32 rfl Tryz.underlying92 za6 rfl (by decide) (by omega) (.slice A s.row.length n) s.row ⟨nm, 0, false⟩ [.string nm, .int .i64 0, .bool false] (fun _ => True) (fun _ => False) rfl ?aX ?aP (fun _ h => h.elim) (fun _ _ => trivial) ?aO ?aB ?aS ?aL ?_; (case aX => (show Value.slice (some ⟨w3.heap.size, 0, none⟩) 1 1 = _; simp)); (case aP => exact zq5 _ _ _ _); (case aO => exact HR.out); (case aB => exact HB0.out.trans (HB3.out.mono HB0.out.size)); (case aS => exact (HB0.out.trans (HB3.out.mono HB0.out.size)).size); (case aL => have := hl; omega); intro v4 w4 hR4 hb4 hg4 hat4; obtain ⟨b4, n4, rfl, hbb4, cur4, hcur4⟩ := zr8 hR4 (by simp);
       have HGN : some g ≠ (Value.slice A s.row.length n).ownBlock := Kd.R_ne HR.out HGB.out (by decide); obtain ⟨h41, hf41, hg4l⟩ := z83 hg4 HGN h1 hf1 hgl; have HG4 := as0 hg4; have HR4 := as0 hR4; have HB4 := as0 hb4; have HA4 := as0 hat4; have HC4 := as0 hcur4; clear hg4 hR4 hb4 hat4 hcur4))
  have HGN : some g ≠ (Value.slice A s.row.length n).ownBlock := Kd.R_ne HR.out HGB.out (by decide)
  have HGB4 : w4.heap[g]? = some (.cells #[.slice A s.row.length n] 94 (0, 0)) := (HG4.out.block g hgl HGN).trans HGB.out
  have HFIN := as0 (IsD.put (w := w) (row := s.row ++ [⟨nm, 0, false⟩]) hg
      ((KeptH.of_below HB3.out).grown HG4.out (fun k h => by
        obtain ⟨cells, hc⟩ := zw1 (Kd.R_own HR.out).choose_spec k h
        exact .inl (.cells hc (by decide)))) HB4.out HGB4 HR4.out)
  rw [show (s.row ++ [(⟨nm, 0, false⟩ : S110)]).length = s.row.length + 1 by simp] at HFIN
  go_ret
  exact ⟨rfl, HFIN.out⟩
def drains_Drains_Begin.f (s : DS) (nm : ByteArray) (dl : Int) : Option (Int × DS) :=
 if s.row.length ≤ 1000000000 then (if nameB nm = true then (if placeOf s.row nm 0 < 0 then some (0, ⟨s.row ++ [⟨nm, mn (mx dl 0) 1099511627776, true⟩]⟩) else if (rd_T110 s.row (placeOf s.row nm 0)).f2 = true then some (6, s) else some (0, ⟨endRow s.row nm ++ [⟨nm, mn (mx dl 0) 1099511627776, true⟩]⟩)) else some (11, s)) else none
theorem z3d (nm : ByteArray) (dl : Int) (hI : IsD w0 w g s) (hn : nameB nm = false) : Calls Tryz.prog 53 #[.pointer (some ⟨g, 0, none⟩), .string nm, .int .i64 dl] w fun e w' => e = .returned (.int .i64 11) ∧ Below w.heap.size w w' := by
 have HN := as0 (fun W => z22 nm W)
 have HP := as0 (zm1 nm hI)
 generalize placeOf s.row nm 0 = i at HP
 rw [hn] at HN
 clear hI hn
 go_enter Tryz.func53, Tryz.ntmps53
 go_wp2_with (first
  | (go_at_call 78; refine HP.out.mono ?_; rintro e w1 ⟨rfl, hb1⟩; have HB1 := as0 hb1; clear hb1)
  | (go_at_call 74; refine (HN.out _).mono ?_; rintro e w' ⟨rfl, hb⟩))
 go_ret
 exact ⟨rfl, z10 HB1.out hb⟩
theorem zdc {W : World} {P : Nat} (hI : IsD w0 W g s) (hP : (P : Int) < (s.row.length : Int)) : ∃ A n, W.cell? ⟨g, 0, none⟩ = some (.slice A s.row.length n) ∧
  ∃ ad, A = some ad ∧ W.cell? ⟨(ad.add (P * 3)).block, (ad.add (P * 3)).off + 2, none⟩ = some (.bool (rd_T110 s.row (P : Int)).f2) := by
 obtain ⟨A, n, hbk, hn, hC, hR, hg⟩ := hI.open_
 obtain ⟨ad, hA, hx0, hx1, hx2⟩ := z44 hC (P : Int) (by omega) hP
 rw [Int.toNat_natCast] at hx2
 exact ⟨A, n, (z60 hbk 0).trans rfl, ad, hA, hx2⟩
theorem zn7 (nm : ByteArray) (dl : Int) (hI : IsD w0 w g s) (hn : nameB nm = true) (hp : ¬ placeOf s.row nm 0 < 0) (hu : (rd_T110 s.row (placeOf s.row nm 0)).f2 = true) : Calls Tryz.prog 53 #[.pointer (some ⟨g, 0, none⟩), .string nm, .int .i64 dl] w fun e w' => e = .returned (.int .i64 6) ∧ Below w.heap.size w w' := by
 have HN := as0 (fun W => z22 nm W)
 have HI := as0 hI
 have HP := as0 (zm1 nm hI)
 rw [hn] at HN
 obtain ⟨P, hP⟩ : ∃ P : Nat, placeOf s.row nm 0 = (P : Int) := ⟨(placeOf s.row nm 0).toNat, by omega⟩
 have hPl : (P : Int) < (s.row.length : Int) := by rcases zh3 s.row nm 0 with h | h <;> omega
 have h0P : (0 : Int) ≤ (P : Int) := by omega
 rw [hP] at HP hu
 clear hI hn hP hp
 have HU := as0 hu
 clear hu
 go_enter Tryz.func53, Tryz.ntmps53
 go_wp2_with (first
  | (go_at_call 78; refine HP.out.mono ?_; rintro e w1 ⟨rfl, hb1⟩; have HB1 := as0 hb1; clear hb1)
  | (go_at_call 74; refine (HN.out _).mono ?_; rintro e w2 ⟨rfl, hb2⟩; have HB2 := as0 (z10 HB1.out hb2); clear hb2; obtain ⟨A, n, hc1, ad, rfl, hc2⟩ := zdc (P := P) (HI.out.below HB2.out) hPl; rw [HU.out] at hc2))
 go_ret
 exact ⟨rfl, HB2.out⟩
theorem zhc (nm : ByteArray) (dl : Int) (hI : IsD w0 w g s) (hB : Below w0.heap.size w0 w) (hn : nameB nm = true) (hl : s.row.length ≤ 1000000000) (hp : placeOf s.row nm 0 < 0) :
    Calls Tryz.prog 53 #[.pointer (some ⟨g, 0, none⟩), .string nm, .int .i64 dl] w fun e w' => e = .returned (.int .i64 0) ∧ IsD w0 w' g ⟨endRow s.row nm ++ [⟨nm, mn (mx dl 0) 1099511627776, true⟩]⟩ ∧ Below w0.heap.size w0 w' ∧ KeptH TD w w' := by
  have HN := as0 (fun W => z22 nm W)
  have HI := as0 hI
  have HB0 := as0 hB
  have HP := as0 (zm1 nm hI)
  rw [hn] at HN
  obtain ⟨row2, hrow2⟩ : ∃ row2, row2 = endRow s.row nm := ⟨_, rfl⟩
  have hl2 : row2.length ≤ 1000000000 := by
    rw [hrow2]
    unfold endRow
    by_cases hq : placeOf s.row nm 0 < 0
    · rw [if_pos hq]
      exact hl
    · rw [if_neg hq, List.length_eraseIdx]
      split <;> omega
  have HE := as0 (fun W (h : IsD w0 W g s) (hb : Below w0.heap.size w0 W) => drains_Drains_End.calls g s nm _ ⟨row2⟩ w0 W h hb (by rw [hrow2]; exact if_pos hl))
  rw [← hrow2]
  have HL2 := as0 hl2
  generalize placeOf s.row nm 0 = i at hp HP HE
  have hp2 : decide (0 ≤ i) = false := decide_eq_false (by omega)
  clear hI hn hB hrow2 hl hl2
  have hcut : sat_Cut.f dl = some (mn (mx dl 0) 1099511627776) := rfl
  have HCUT := as0 hcut
  clear hcut
  generalize mn (mx dl 0) 1099511627776 = dc at HCUT ⊢
  go_enter Tryz.func53, Tryz.ntmps53
  go_wp2_with (first
    | (go_at_call 78; refine HP.out.mono ?_; rintro e w1 ⟨rfl, hb1⟩; have HB1 := as0 hb1; clear hb1)
    | (go_at_call 74; refine (HN.out _).mono ?_; rintro e w2 ⟨rfl, hb2⟩; have HB2 := as0 (z10 HB1.out hb2); clear hb2)
    | (go_at_call 48; refine (HE.out _ (HI.out.below HB2.out) (HB0.out.trans (HB2.out.mono HB0.out.size))).mono ?_; rintro e w3 ⟨rfl, hi3, hb3, hk3⟩; have HI3 := as0 hi3; have HB3 := as0 hb3; have HK3 := as0 ((KeptH.of_below HB2.out).trans hk3); clear hi3 hb3 hk3))
  obtain ⟨A3, n3, hgb, hnn, hC, hR, hg⟩ := HI3.out.open_
  have HGB := as0 hgb
  have HR := as0 hR
  have hgl : g < w3.heap.size := z70 hgb
  have h1 : w3.cell? ⟨g, 0, none⟩ = some (.slice A3 row2.length n3) := (z60 hgb 0).trans rfl
  have hf1 : w3.frozen? ⟨g, 0, none⟩ = false := z40 hgb 0
  clear hgb hnn hC hR
  have HGN : Aside0 (∀ (W : World), Kd.R k110 110 W w0.heap.size (fun _ => True) (.slice A3 row2.length n3) row2 → W.heap[g]? = some (.cells #[.slice A3 row2.length n3] 94 (0, 0)) → some g ≠ (Value.slice A3 row2.length n3).ownBlock) := ⟨fun W h hb => Kd.R_ne h hb (by decide)⟩
  go_region_law ((first
      | (go_simp; go_at_call 83; refine (sat_Cut.calls dl _ _ HCUT.out).mono ?_; rintro e w4 ⟨rfl, hb4⟩; obtain ⟨h41, hf41, hg4l⟩ := zx4 (W := w3.drew) hb4 h1 hf1 hgl)
      | (refine Kd.R_append_step k110 (w0 := w0) w0.heap.size rfl (.tmp 38) (.tmp 43) 92 110 (.agg #[(.string ⟨#[]⟩), (.int .i64 0), (.bool false)]) 32 rfl Tryz.underlying92 za6 rfl (by decide) (by omega) (.slice A3 row2.length n3) row2 ⟨nm, dc, true⟩ [.string nm, .int .i64 dc, .bool true] (fun _ => True) (fun _ => False) (by rfl) (by rfl) ?aP (fun _ h => h.elim) (fun _ _ => trivial) ?aO ?aB ?aS ?aL ?_;
         (case aP => exact zq5 _ _ _ _); (case aO => exact Kd.R_below (Kd.R_drew HR.out) hb4); (case aB => exact (z50 HB3.out).trans (hb4.mono HB3.out.size)); (case aS => exact Nat.le_trans HB3.out.size hb4.size); (case aL => have := HL2.out; omega); intro v5 w5 hR5 hb5 hg5 hat5; obtain ⟨b5, n5, rfl, hbb5, cur5, hcur5⟩ := zr8 hR5 (by simp); obtain ⟨h51, hf51, hg5l⟩ := z83 hg5 (HGN.out _ HR.out HGB.out) h41 hf41 hg4l)))
  all_goals
    have HGB5 : w5.heap[g]? = some (.cells #[.slice A3 row2.length n3] 94 (0, 0)) := (hg5.block g hg4l (HGN.out _ HR.out HGB.out)).trans ((hb4.block g (z70 HGB.out)).trans HGB.out)
    have HFIN := as0 (IsD.put (w := w) (row := row2 ++ [⟨nm, dc, true⟩]) hg
        (((HK3.out.drew).below hb4).grown hg5 (fun k h => by
          obtain ⟨cells, hc⟩ := zw1 (Kd.R_own (Kd.R_below (Kd.R_drew HR.out) hb4)).choose_spec k h
          exact .inl (.cells hc (by decide)))) hb5 HGB5 hR5)
    rw [show (row2 ++ [(⟨nm, dc, true⟩ : S110)]).length = row2.length + 1 by simp] at HFIN
    clear HGB5 hR5 hb5 hg5 hat5 hcur5
    go_wp2
    go_ret
    exact ⟨rfl, HFIN.out⟩
theorem z88 (nm : ByteArray) (dl : Int) (hI : IsD w0 w g s) (hB : Below w0.heap.size w0 w) (hn : nameB nm = true) (hl : s.row.length ≤ 1000000000) (hp : ¬ placeOf s.row nm 0 < 0) (hu : (rd_T110 s.row (placeOf s.row nm 0)).f2 = false) :
    Calls Tryz.prog 53 #[.pointer (some ⟨g, 0, none⟩), .string nm, .int .i64 dl] w fun e w' => e = .returned (.int .i64 0) ∧ IsD w0 w' g ⟨endRow s.row nm ++ [⟨nm, mn (mx dl 0) 1099511627776, true⟩]⟩ ∧ Below w0.heap.size w0 w' ∧ KeptH TD w w' := by
  have HN := as0 (fun W => z22 nm W)
  have HI := as0 hI
  have HB0 := as0 hB
  have HP := as0 (zm1 nm hI)
  rw [hn] at HN
  obtain ⟨row2, hrow2⟩ : ∃ row2, row2 = endRow s.row nm := ⟨_, rfl⟩
  have hl2 : row2.length ≤ 1000000000 := by
    rw [hrow2]
    unfold endRow
    by_cases hq : placeOf s.row nm 0 < 0
    · rw [if_pos hq]
      exact hl
    · rw [if_neg hq, List.length_eraseIdx]
      split <;> omega
  have HE := as0 (fun W (h : IsD w0 W g s) (hb : Below w0.heap.size w0 W) => drains_Drains_End.calls g s nm _ ⟨row2⟩ w0 W h hb (by rw [hrow2]; exact if_pos hl))
  rw [← hrow2]
  have HL2 := as0 hl2
  obtain ⟨P, hP⟩ : ∃ P : Nat, placeOf s.row nm 0 = (P : Int) := ⟨(placeOf s.row nm 0).toNat, by omega⟩
  have hPl : (P : Int) < (s.row.length : Int) := by rcases zh3 s.row nm 0 with h | h <;> omega
  have h0P : (0 : Int) ≤ (P : Int) := by omega
  rw [hP] at HP hu HE
  have HU := as0 hu
  clear hu hP hp
  clear hI hn hB hrow2 hl hl2
  have hcut : sat_Cut.f dl = some (mn (mx dl 0) 1099511627776) := rfl
  have HCUT := as0 hcut
  clear hcut
  generalize mn (mx dl 0) 1099511627776 = dc at HCUT ⊢
  go_enter Tryz.func53, Tryz.ntmps53
  go_wp2_with (first
    | (go_at_call 78; refine HP.out.mono ?_; rintro e w1 ⟨rfl, hb1⟩; have HB1 := as0 hb1; clear hb1)
    | (go_at_call 74; refine (HN.out _).mono ?_; rintro e w2 ⟨rfl, hb2⟩; have HB2 := as0 (z10 HB1.out hb2); clear hb2; obtain ⟨A, n, hc1, ad, rfl, hc2⟩ := zdc (P := P) (HI.out.below HB2.out) hPl; rw [HU.out] at hc2)
    | (go_at_call 48; refine (HE.out _ (HI.out.below HB2.out) (HB0.out.trans (HB2.out.mono HB0.out.size))).mono ?_; rintro e w3 ⟨rfl, hi3, hb3, hk3⟩; have HI3 := as0 hi3; have HB3 := as0 hb3; have HK3 := as0 ((KeptH.of_below HB2.out).trans hk3); clear hi3 hb3 hk3; clear hc1 hc2))
  obtain ⟨A3, n3, hgb, hnn, hC, hR, hg⟩ := HI3.out.open_
  have HGB := as0 hgb
  have HR := as0 hR
  have hgl : g < w3.heap.size := z70 hgb
  have h1 : w3.cell? ⟨g, 0, none⟩ = some (.slice A3 row2.length n3) := (z60 hgb 0).trans rfl
  have hf1 : w3.frozen? ⟨g, 0, none⟩ = false := z40 hgb 0
  clear hgb hnn hC hR
  have HGN : Aside0 (∀ (W : World), Kd.R k110 110 W w0.heap.size (fun _ => True) (.slice A3 row2.length n3) row2 → W.heap[g]? = some (.cells #[.slice A3 row2.length n3] 94 (0, 0)) → some g ≠ (Value.slice A3 row2.length n3).ownBlock) := ⟨fun W h hb => Kd.R_ne h hb (by decide)⟩
  go_region_law ((first
      | (go_simp; go_at_call 83; refine (sat_Cut.calls dl _ _ HCUT.out).mono ?_; rintro e w4 ⟨rfl, hb4⟩; obtain ⟨h41, hf41, hg4l⟩ := zx4 (W := w3.drew) hb4 h1 hf1 hgl)
      | (refine Kd.R_append_step k110 (w0 := w0) w0.heap.size rfl (.tmp 38) (.tmp 43) 92 110 (.agg #[(.string ⟨#[]⟩), (.int .i64 0), (.bool false)]) 32 rfl Tryz.underlying92 za6 rfl (by decide) (by omega) (.slice A3 row2.length n3) row2 ⟨nm, dc, true⟩ [.string nm, .int .i64 dc, .bool true] (fun _ => True) (fun _ => False) (by rfl) (by rfl) ?aP (fun _ h => h.elim) (fun _ _ => trivial) ?aO ?aB ?aS ?aL ?_;
         (case aP => exact zq5 _ _ _ _); (case aO => exact Kd.R_below (Kd.R_drew HR.out) hb4); (case aB => exact (z50 HB3.out).trans (hb4.mono HB3.out.size)); (case aS => exact Nat.le_trans HB3.out.size hb4.size); (case aL => have := HL2.out; omega); intro v5 w5 hR5 hb5 hg5 hat5; obtain ⟨b5, n5, rfl, hbb5, cur5, hcur5⟩ := zr8 hR5 (by simp); obtain ⟨h51, hf51, hg5l⟩ := z83 hg5 (HGN.out _ HR.out HGB.out) h41 hf41 hg4l)))
  all_goals
    have HGB5 : w5.heap[g]? = some (.cells #[.slice A3 row2.length n3] 94 (0, 0)) := (hg5.block g hg4l (HGN.out _ HR.out HGB.out)).trans ((hb4.block g (z70 HGB.out)).trans HGB.out)
    have HFIN := as0 (IsD.put (w := w) (row := row2 ++ [⟨nm, dc, true⟩]) hg
        (((HK3.out.drew).below hb4).grown hg5 (fun k h => by
          obtain ⟨cells, hc⟩ := zw1 (Kd.R_own (Kd.R_below (Kd.R_drew HR.out) hb4)).choose_spec k h
          exact .inl (.cells hc (by decide)))) hb5 HGB5 hR5)
    rw [show (row2 ++ [(⟨nm, dc, true⟩ : S110)]).length = row2.length + 1 by simp] at HFIN
    clear HGB5 hR5 hb5 hg5 hat5 hcur5
    go_wp2
    go_ret
    exact ⟨rfl, HFIN.out⟩
theorem drains_Drains_Ask.calls (g : Nat) (s : DS) (a1 : ByteArray) (r1 : Int) (s' : DS) (w0 w : World) (hI : IsD w0 w g s) (hB : Below w0.heap.size w0 w) (h : drains_Drains_Ask.f s a1 = some (r1, s')) :
  Calls Tryz.prog 50 #[.pointer (some ⟨g, 0, none⟩), .string a1] w fun e w' => e = .returned (.int .i64 r1) ∧ IsD w0 w' g s' ∧ Below w0.heap.size w0 w' ∧ KeptH TD w w' := by
 unfold drains_Drains_Ask.f at h
 by_cases hl : s.row.length ≤ 1000000000
 ·rw [if_pos hl] at h
  by_cases hn : nameB a1 = true
  ·rw [if_pos hn] at h
   by_cases hp : placeOf s.row a1 0 < 0
   ·rw [if_pos hp] at h
    by_cases hf : (namesOf s.row false).length < 16
    ·rw [if_pos hf] at h
     obtain ⟨rfl, rfl⟩ := Prod.mk.inj (Option.some.inj h)
     exact ask_ok a1 hI hB hn hp hl hf
    ·rw [if_neg hf] at h
     obtain ⟨rfl, rfl⟩ := Prod.mk.inj (Option.some.inj h)
     refine (ask_full a1 hI hn hp hl hf).mono ?_
     rintro e w' ⟨rfl, hb⟩
     exact ⟨rfl, za2 hI hB hb⟩
   ·rw [if_neg hp] at h
    obtain ⟨rfl, rfl⟩ := Prod.mk.inj (Option.some.inj h)
    refine (ztb a1 hI hn hp).mono ?_
    rintro e w' ⟨rfl, hb⟩
    exact ⟨rfl, za2 hI hB hb⟩
  ·rw [if_neg hn] at h
   obtain ⟨rfl, rfl⟩ := Prod.mk.inj (Option.some.inj h)
   refine (ask_bad a1 hI (by simpa using hn)).mono ?_
   rintro e w' ⟨rfl, hb⟩
   exact ⟨rfl, za2 hI hB hb⟩
 ·rw [if_neg hl] at h
  cases h
theorem drains_Drains_Begin.calls (g : Nat) (s : DS) (a1 : ByteArray) (a2 : Int) (r1 : Int) (s' : DS) (w0 w : World) (hI : IsD w0 w g s) (hB : Below w0.heap.size w0 w) (h : drains_Drains_Begin.f s a1 a2 = some (r1, s')) :
  Calls Tryz.prog 53 #[.pointer (some ⟨g, 0, none⟩), .string a1, .int .i64 a2] w fun e w' => e = .returned (.int .i64 r1) ∧ IsD w0 w' g s' ∧ Below w0.heap.size w0 w' ∧ KeptH TD w w' := by
 unfold drains_Drains_Begin.f at h
 by_cases hl : s.row.length ≤ 1000000000
 ·rw [if_pos hl] at h
  by_cases hn : nameB a1 = true
  ·rw [if_pos hn] at h
   by_cases hp : placeOf s.row a1 0 < 0
   ·rw [if_pos hp] at h
    obtain ⟨rfl, rfl⟩ := Prod.mk.inj (Option.some.inj h)
    have := zhc a1 a2 hI hB hn hl hp
    unfold endRow at this
    rw [if_pos hp] at this
    exact this
   ·rw [if_neg hp] at h
    by_cases hu : (rd_T110 s.row (placeOf s.row a1 0)).f2 = true
    ·rw [if_pos hu] at h
     obtain ⟨rfl, rfl⟩ := Prod.mk.inj (Option.some.inj h)
     refine (zn7 a1 a2 hI hn hp hu).mono ?_
     rintro e w' ⟨rfl, hb⟩
     exact ⟨rfl, za2 hI hB hb⟩
    ·rw [if_neg hu] at h
     obtain ⟨rfl, rfl⟩ := Prod.mk.inj (Option.some.inj h)
     exact z88 a1 a2 hI hB hn hl hp (by simpa using hu)
  ·rw [if_neg hn] at h
   obtain ⟨rfl, rfl⟩ := Prod.mk.inj (Option.some.inj h)
   refine (z3d a1 a2 hI (by simpa using hn)).mono ?_
   rintro e w' ⟨rfl, hb⟩
   exact ⟨rfl, za2 hI hB hb⟩
 ·rw [if_neg hl] at h
  cases h
end
end Go.Proofs.YtmlmiocomlehgaaGreat.Man
end
