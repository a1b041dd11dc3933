/-
  The pool's reference: rows that are only read, its block, its functions over lists. Conditions: none.
-/
import Derived.Test.YteagjolmikbllaaSq
set_option linter.unusedVariables false
set_option linter.unusedSimpArgs false
namespace Go.Proofs.Yteagjolmikbllaa.Ob
open Go.RowKit Go.Proofs.YteagjolmikbllaaW.PrintWords Go.Proofs.YteagjolmikbllaaW.PrintLast Go.Proofs.YteagjolmikbllaaW.PrintMore Go.Proofs.Yteagjolmikbllaa.Hid Go.Proofs.Yteagjolmikbllaa.Mp Go.Proofs.Yteagjolmikbllaa.PA
/-- A row that is only read: what it says, and the block in which it lies. -/
def Rd (ok : Nat → Prop) (W : World) (v : Value) (xs : List Int) : Prop :=
  ∃ A c, v = .slice A xs.length c ∧ xs.length ≤ c ∧ kI.C W A xs.length xs ∧ ∀ ad, A = some ad → ok ad.block ∧ ∃ cells : Array Value, W.heap[ad.block]? = some (Obj.cells cells 3 (0, 0))
section
variable {ok ok' : Nat → Prop} {W W1 : World} {v : Value} {xs : List Int}
theorem Rd.step (h : Rd ok W v xs) (hk : ∀ (k : Nat) (cells : Array Value), W.heap[k]? = some (Obj.cells cells 3 (0, 0)) → ok k → W1.heap[k]? = W.heap[k]?) : Rd ok W1 v xs := by
  obtain ⟨A, c, rfl, hc, hC, hA⟩ := h
  refine ⟨A, c, rfl, hc, ⟨hC.1, hC.2.1, fun hn => ?_⟩, fun ad he => ?_⟩
  · obtain ⟨ad, hae, hcell⟩ := hC.2.2 hn
    obtain ⟨hb, cells, hcs⟩ := hA ad hae
    have hs := hk ad.block cells hcs hb
    refine ⟨ad, hae, fun j p hj => ?_⟩
    obtain ⟨cs, hcs1, hK, hcc⟩ := hcell j p hj
    refine ⟨cs, hcs1, hK, fun i u hu => ?_⟩
    rw [← hcc i u hu]
    exact World.cell?_of_block (by
      have hbk : ∀ (x : Nat), (ad.add x).block = ad.block := fun x => by unfold Addr.add; split <;> rfl
      rw [hbk]
      exact hs)
  · obtain ⟨hb, cells, hcs⟩ := hA ad he
    exact ⟨hb, cells, (hk ad.block cells hcs hb).trans hcs⟩
theorem Rd.below (h : Rd ok W v xs) (hb : Below W.heap.size W W1) : Rd ok W1 v xs := h.step (fun k cells hk _ => hb.block k (blk_lt hk))
theorem Rd.mono (h : Rd ok W v xs) (hm : ∀ k, k < W.heap.size → ok k → ok' k) : Rd ok' W v xs := by
  obtain ⟨A, c, hv, hc, hC, hA⟩ := h
  exact ⟨A, c, hv, hc, hC, fun ad he => ⟨by obtain ⟨h1, cs, h2⟩ := hA ad he; exact hm _ (blk_lt h2) h1, (hA ad he).2⟩⟩
theorem Rd.of_R {base : Nat} (h : kI.R 3 W base ok' v xs) (hm : ∀ k, base ≤ k → ok k) : Rd ok W v xs := by
  obtain ⟨A, c, rfl, hc, hC⟩ := Kd.R_reads h
  refine ⟨A, c, rfl, hc, hC, fun ad he => ?_⟩
  subst he
  obtain ⟨_, inner, hown, _⟩ := h
  rcases hown.2 with ⟨hv, _⟩ | ⟨g, cap, cur, hv, hb, hh, _⟩
  · cases hv
  · injection hv with hv
    injection hv with hv
    rw [hv]
    exact ⟨hm _ hb, cur, hh⟩
theorem Rd.reads (h : Rd ok W v xs) : ∃ A c, v = .slice A xs.length c ∧ xs.length ≤ c ∧ kI.C W A xs.length xs := by
  obtain ⟨A, c, hv, hc, hC, _⟩ := h
  exact ⟨A, c, hv, hc, hC⟩
theorem Rd.C {n c : Nat} {A : Option Addr} (h : Rd ok W (.slice A n c) xs) : kI.C W A xs.length xs := by
  obtain ⟨A', c', hv, _, hC, _⟩ := h
  injection hv with hA _ _
  rw [hA]
  exact hC
theorem Rd.nil (ok : Nat → Prop) (W : World) : Rd ok W (.slice none 0 0) [] := by
  obtain ⟨A, c, e, hc, hC⟩ := Kd.R_reads (Kd.R_nil kI 3 W W.heap.size (fun _ => True))
  injection e with e1 e2 e3
  subst e1; subst e3
  exact ⟨none, 0, rfl, hc, hC, fun ad he => by cases he⟩
end
/-- A block of the reference's state. -/
def B4 (W : World) (g : Nat) (n : Nat) (a b c : Value) : Prop := W.heap[g]? = some (.cells #[.int .i64 n, a, b, c] 44 (0, 0))
section
variable {W W1 : World} {g n : Nat} {a b c : Value}
theorem B4.below (h : B4 W g n a b c) (hb : Below W.heap.size W W1) : B4 W1 g n a b c := blk_below h hb
theorem B4.far (h : B4 W g n a b c) {g2 j : Nat} (hn : g ≠ g2) (u : Value) : B4 (W.setCell ⟨g2, j, none⟩ u) g n a b c := blk_far h hn u
theorem B4.put1 (h : B4 W g n a b c) (u : Value) : B4 (W.setCell ⟨g, 1, none⟩ u) g n u b c := blk_put (cs := #[.int .i64 n, a, b, c]) h 1 u rfl
theorem B4.put2 (h : B4 W g n a b c) (u : Value) : B4 (W.setCell ⟨g, 2, none⟩ u) g n a u c := blk_put (cs := #[.int .i64 n, a, b, c]) h 2 u rfl
theorem B4.put3 (h : B4 W g n a b c) (u : Value) : B4 (W.setCell ⟨g, 3, none⟩ u) g n a b u := blk_put (cs := #[.int .i64 n, a, b, c]) h 3 u rfl
theorem B4.all (h : B4 W g n a b c) (m : Nat) (x y z : Value) : B4 ((((W.setCell ⟨g, 0, none⟩ (.int .i64 m)).setCell ⟨g, 1, none⟩ x).setCell ⟨g, 2, none⟩ y).setCell ⟨g, 3, none⟩ z) g m x y z :=
  B4.put3 (B4.put2 (B4.put1 (show B4 _ g m a b c from blk_put (cs := #[.int .i64 n, a, b, c]) h 0 (.int .i64 m) rfl) x) y) z
theorem B4.cells (h : B4 W g n a b c) : W.cell? ⟨g, 0, none⟩ = some (.int .i64 n) ∧ W.cell? ⟨g, 1, none⟩ = some a ∧ W.cell? ⟨g, 2, none⟩ = some b ∧ W.cell? ⟨g, 3, none⟩ = some c ∧ W.frozen? ⟨g, 0, none⟩ = false ∧ W.frozen? ⟨g, 1, none⟩ = false ∧ W.frozen? ⟨g, 2, none⟩ = false ∧ W.frozen? ⟨g, 3, none⟩ = false :=
  ⟨(blk_cell h 0).trans rfl, (blk_cell h 1).trans rfl, (blk_cell h 2).trans rfl, (blk_cell h 3).trans rfl, blk_frozen h 0, blk_frozen h 1, blk_frozen h 2, blk_frozen h 3⟩
theorem Rd.put {ok : Nat → Prop} {v : Value} {xs : List Int} (h : Rd ok W v xs) (hB : B4 W g n a b c) {j : Nat} (u : Value) : Rd ok (W.setCell ⟨g, j, none⟩ u) v xs :=
  h.step (fun k cells hk _ => Below.heap_setCell W ⟨g, j, none⟩ u k (by
    intro h0
    have h2 : k = g := h0
    rw [h2, show W.heap[g]? = _ from hB] at hk
    injection hk with hk
    injection hk with _ hk _
    exact absurd hk (by decide)))
theorem Rd.putAll {ok : Nat → Prop} {v : Value} {xs : List Int} (h : Rd ok W v xs) (hB : B4 W g n a b c) (m : Nat) (x y z : Value) : Rd ok ((((W.setCell ⟨g, 0, none⟩ (.int .i64 m)).setCell ⟨g, 1, none⟩ x).setCell ⟨g, 2, none⟩ y).setCell ⟨g, 3, none⟩ z) v xs := by
  have h0 : B4 (W.setCell ⟨g, 0, none⟩ (.int .i64 m)) g m a b c := blk_put (cs := #[.int .i64 n, a, b, c]) hB 0 (.int .i64 m) rfl
  exact (((h.put hB (.int .i64 m)).put h0 x).put (h0.put1 x) y).put ((h0.put1 x).put2 y) z
theorem below_all {w : World} (h : Below w.heap.size w W) (hg : w.heap.size ≤ g) (m : Value) (x y z : Value) : Below w.heap.size w ((((W.setCell ⟨g, 0, none⟩ m).setCell ⟨g, 1, none⟩ x).setCell ⟨g, 2, none⟩ y).setCell ⟨g, 3, none⟩ z) :=
  below_set (below_set (below_set (below_set h hg) hg) hg) hg
end
/-! #### the reference's functions over lists -/
theorem has_pure (id : Int) (xs : List Int) (hl : xs.length ≤ 1000) (k : Nat) (hk : xs.length < k) : hostlerref16_Has.f k xs id = some (decide (id ∈ xs)) := by
  have := has_loop id xs hl xs.length k 0 (by omega) (by omega) hk
  simpa [hostlerref16_Has.f] using this
set_option maxRecDepth 20000 in
theorem is33 (n id : Int) {A1 A2 A3 : Option Addr} {c1 c2 c3 : Nat} {m i b : List Int} (w : World) (h1 : kI.C w A1 m.length m) (g1 : m.length ≤ c1) (h2 : kI.C w A2 i.length i) (g2 : i.length ≤ c2) (h3 : kI.C w A3 b.length b) (g3 : b.length ≤ c3) (l1 : m.length ≤ 1000) (l2 : i.length ≤ 1000) (l3 : b.length ≤ 1000) :
    Calls Try.prog 33 #[.agg #[.int .i64 n, .slice A1 m.length c1, .slice A2 i.length c2, .slice A3 b.length c3], .int .i64 id] w fun e w' => e = .returned (.bool (decide (id ∈ m ∨ id ∈ i ∨ id ∈ b))) ∧ Below w.heap.size w w' := by
  obtain ⟨k, hk⟩ : ∃ k : Nat, 1000 < k := ⟨_, Nat.lt_succ_self _⟩
  refine hostlerref16_Is.calls k n A1 c1 m A2 c2 i A3 c3 b id _ w h1 g1 h2 g2 h3 g3 ?_
  unfold hostlerref16_Is.f
  rw [has_pure id m l1 _ (by omega), has_pure id i l2 _ (by omega), has_pure id b l3 _ (by omega)]
  simp only [Option.bind_some]
  by_cases q1 : id ∈ m
  · simp [q1]
  · by_cases q2 : id ∈ i
    · simp [q1, q2]
    · simp [q1, q2]
set_option maxRecDepth 20000 in
theorem len31 (n : Int) {A1 A2 A3 : Option Addr} {c1 c2 c3 : Nat} {m i b : List Int} (w : World) (h1 : kI.C w A1 m.length m) (g1 : m.length ≤ c1) (h2 : kI.C w A2 i.length i) (g2 : i.length ≤ c2) (h3 : kI.C w A3 b.length b) (g3 : b.length ≤ c3) (l : Nat) (hl : m.length + i.length + b.length = l) (l1 : l ≤ 1000) :
    Calls Try.prog 31 #[.agg #[.int .i64 n, .slice A1 m.length c1, .slice A2 i.length c2, .slice A3 b.length c3]] w fun e w' => e = .returned (.int .i64 (l : Int)) ∧ Below w.heap.size w w' := by
  refine hostlerref16_Len.calls n A1 c1 m A2 c2 i A3 c3 b _ w h1 g1 h2 g2 h3 g3 ?_
  have e : wrap64 (wrap64 ((m.length : Int) + (i.length : Int)) + (b.length : Int)) = (l : Int) := by
    unfold wrap64
    omega
  unfold hostlerref16_Len.f
  rw [e]
theorem more16 (id : Int) (xs : List Int) (A : Option Addr) (c : Nat) (w : World) (hC : kI.C w A xs.length xs) (hc : xs.length ≤ c) (hl : xs.length ≤ 1000) :
    Calls Try.prog 45 #[.slice A xs.length c, .int .i64 id] w fun e w' => ∃ v0_ : Value, e = .returned v0_ ∧ kI.R 3 w' w.heap.size (fun _ => True) v0_ (xs ++ [id]) ∧ Below w.heap.size w w' := by
  refine hostlerref16_More.calls A c xs id _ w hC hc ?_
  unfold hostlerref16_More.f
  rw [if_pos (by simp only [List.length_nil]; omega), Option.bind_some, if_pos (by simp only [List.nil_append]; omega), List.nil_append]
theorem sort35 (xs r : List Int) (A : Option Addr) (c : Nat) (w : World) (hC : kI.C w A xs.length xs) (hc : xs.length ≤ c) (hx : xs.length ≤ 999) (hnd : xs.Nodup) (hr : r.Pairwise (· < ·)) (hm : ∀ y, y ∈ r ↔ y ∈ xs) :
    Calls Try.prog 35 #[.slice A xs.length c] w fun e w' => ∃ v0_ : Value, e = .returned v0_ ∧ kI.R 3 w' w.heap.size (fun _ => True) v0_ r ∧ Below w.heap.size w w' := by
  obtain ⟨k, hk⟩ := sort_pure xs r hx hnd hr hm
  exact hostlerref16_Sorted.calls k A c xs r w hC hc hk
set_option maxRecDepth 20000 in
theorem all36 (n : Int) {A1 A2 A3 : Option Addr} {c1 c2 c3 : Nat} {m i b : List Int} (r : List Int) (w : World) (h1 : kI.C w A1 m.length m) (g1 : m.length ≤ c1) (h2 : kI.C w A2 i.length i) (g2 : i.length ≤ c2) (h3 : kI.C w A3 b.length b) (g3 : b.length ≤ c3)
    (hx : m.length + i.length + b.length ≤ 999) (hnd : (m ++ i ++ b).Nodup) (hr : r.Pairwise (· < ·)) (hm : ∀ y, y ∈ r ↔ y ∈ m ++ i ++ b) :
    Calls Try.prog 36 #[.agg #[.int .i64 n, .slice A1 m.length c1, .slice A2 i.length c2, .slice A3 b.length c3]] w fun e w' => ∃ v0_ : Value, e = .returned v0_ ∧ kI.R 3 w' w.heap.size (fun _ => True) v0_ r ∧ Below w.heap.size w w' := by
  obtain ⟨k, hk⟩ := sort_pure (m ++ i ++ b) r (by simp only [List.length_append]; omega) hnd hr hm
  refine hostlerref16_All.calls k n A1 c1 m A2 c2 i A3 c3 b r w h1 g1 h2 g2 h3 g3 ?_
  unfold hostlerref16_All.f
  rw [if_pos (by simp only [List.length_nil]; omega), Option.bind_some, List.nil_append, if_pos (by omega), Option.bind_some, if_pos (by simp only [List.length_append]; omega), hk]
  rfl
end Go.Proofs.Yteagjolmikbllaa.Ob
