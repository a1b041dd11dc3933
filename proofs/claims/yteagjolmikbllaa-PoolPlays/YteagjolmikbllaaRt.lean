/-
  The reference's state in its block, beside the pool. Conditions: none.
-/
import Derived.Test.YteagjolmikbllaaRq
set_option linter.unusedVariables false
set_option linter.unusedSimpArgs false
namespace Go.Proofs.Yteagjolmikbllaa.Ob
open Go.RowKit Go.Proofs.YteagjolmikbllaaW.PrintWords Go.Proofs.YteagjolmikbllaaW.PrintLast Go.Proofs.YteagjolmikbllaaW.PrintMore Go.Proofs.Yteagjolmikbllaa.Hid Go.Proofs.Yteagjolmikbllaa.Mp Go.Proofs.Yteagjolmikbllaa.PA
variable {w W W1 : World} {g b n : Nat} {s : PS} {r : Rp}
/-- Rows that are none of the pool's. -/
abbrev RdN (W : World) (g : Nat) (v : Value) (xs : List Int) : Prop := Rd (fun k => ¬ Own W g k) W v xs
theorem RdN.below {v : Value} {xs : List Int} (h : RdN W g v xs) (hI : IsP w W g s) (hb : Below W.heap.size W W1) : RdN W1 g v xs :=
  (Rd.below h hb).mono (fun k _ hk ho => hk ((own_step hI (W1 := W1) (fun k hk => hb.block k (hk.lt hI))).1 ho))
theorem RdN.fresh {v : Value} {xs : List Int} (hI : IsP w W g s) (hb : Below W.heap.size W W1) (h : Rd (OkN (fun k => ¬ Own W g k) W) W1 v xs) : RdN W1 g v xs :=
  h.mono (fun k _ hk ho => by
    have h1 := (own_step hI (W1 := W1) (fun k hk => hb.block k (hk.lt hI))).1 ho
    rcases hk with hk | hk
    · exact hk h1
    · have := h1.lt hI
      omega)
theorem RdN.keep {v : Value} {xs : List Int} (h : RdN W g v xs) (hk : KeptP g W W1) : RdN W1 g v xs := by
  obtain ⟨A, c, e, hc, hC, hA⟩ := h
  have h2 : Rd (fun k => ¬ Own W g k) W1 v xs := Rd.step ⟨A, c, e, hc, hC, hA⟩ (fun k cells hk1 hn => hk.2.1 k (blk_lt hk1) hn)
  obtain ⟨A', c', e', hc', hC', hA'⟩ := h2
  refine ⟨A', c', e', hc', hC', fun ad he => ⟨fun ho => ?_, (hA' ad he).2⟩⟩
  rw [e] at e'
  injection e' with e1 _ _
  subst e1
  obtain ⟨h3, cs, h4⟩ := hA ad he
  exact h3 (hk.2.2 _ (blk_lt h4) ho)
theorem slice_rd {ok : Nat → Prop} {v : Value} {xs : List Int} (h : Rd ok W v xs) : ∃ A c, v = .slice A xs.length c := by
  obtain ⟨A, c, e, _⟩ := h
  exact ⟨A, c, e⟩
theorem le_rd {ok : Nat → Prop} {A : Option Addr} {k c : Nat} {xs : List Int} (h : Rd ok W (.slice A k c) xs) : xs.length ≤ c := by
  obtain ⟨A', c', e, hc, _⟩ := h
  injection e with _ _ e
  omega
/-- The reference's state in its block. -/
def RefAt (w W : World) (g b n : Nat) (r : Rp) : Prop := w.heap.size ≤ b ∧ ¬ Own W g b ∧ ∃ (A1 A2 A3 : Option Addr) (c1 c2 c3 : Nat), B4 W b n (.slice A1 r.m.length c1) (.slice A2 r.i.length c2) (.slice A3 r.b.length c3) ∧ RdN W g (.slice A1 r.m.length c1) r.m ∧ RdN W g (.slice A2 r.i.length c2) r.i ∧ RdN W g (.slice A3 r.b.length c3) r.b
theorem RefAt.below (h : RefAt w W g b n r) (hI : IsP w W g s) (hb : Below W.heap.size W W1) : RefAt w W1 g b n r := by
  obtain ⟨h0, hn, A1, A2, A3, c1, c2, c3, h1, h2, h3, h4⟩ := h
  exact ⟨h0, fun ho => hn ((own_step hI (W1 := W1) (fun k hk => hb.block k (hk.lt hI))).1 ho), A1, A2, A3, c1, c2, c3, h1.below hb, h2.below hI hb, h3.below hI hb, h4.below hI hb⟩
theorem RefAt.keep (h : RefAt w W g b n r) (hk : KeptP g W W1) : RefAt w W1 g b n r := by
  obtain ⟨h0, hn, A1, A2, A3, c1, c2, c3, h1, h2, h3, h4⟩ := h
  have := hk.blk h1 hn
  exact ⟨h0, this.2, A1, A2, A3, c1, c2, c3, this.1, h2.keep hk, h3.keep hk, h4.keep hk⟩
/-- Behind a store of a state into the reference's block, and the copy beside it. -/
abbrev putW (W : World) (b n : Nat) (v1 v2 v3 : Value) : World := ((((W.setCell ⟨b, 0, none⟩ (.int .i64 (n : Int))).setCell ⟨b, 1, none⟩ v1).setCell ⟨b, 2, none⟩ v2).setCell ⟨b, 3, none⟩ v3).alloc (.cells #[.int .i64 (n : Int), v1, v2, v3] 44)
theorem put_same (v1 v2 v3 : Value) {k : Nat} (hk : k < W.heap.size) (hb : k ≠ b) : (putW W b n v1 v2 v3).heap[k]? = W.heap[k]? := by
  have h4 := (Below.heap_setCell (((W.setCell ⟨b, 0, none⟩ (.int .i64 (n : Int))).setCell ⟨b, 1, none⟩ v1).setCell ⟨b, 2, none⟩ v2) ⟨b, 3, none⟩ v3 k hb).trans ((Below.heap_setCell ((W.setCell ⟨b, 0, none⟩ (.int .i64 (n : Int))).setCell ⟨b, 1, none⟩ v1) ⟨b, 2, none⟩ v2 k hb).trans ((Below.heap_setCell (W.setCell ⟨b, 0, none⟩ (.int .i64 (n : Int))) ⟨b, 1, none⟩ v1 k hb).trans (Below.heap_setCell W ⟨b, 0, none⟩ (.int .i64 (n : Int)) k hb)))
  refine (Below.heap_alloc _ _ _ ?_).trans h4
  simpa using hk
theorem ref_put {a1 a2 a3 : Value} {m : Nat} {A1 A2 A3 : Option Addr} {c1 c2 c3 : Nat} (hI : IsP w W g s) (hB : Below w.heap.size w W) (h4 : B4 W b m a1 a2 a3) (hbw : w.heap.size ≤ b) (hno : ¬ Own W g b)
    (R1 : RdN W g (.slice A1 r.m.length c1) r.m) (R2 : RdN W g (.slice A2 r.i.length c2) r.i) (R3 : RdN W g (.slice A3 r.b.length c3) r.b) :
    RefAt w (putW W b n (.slice A1 r.m.length c1) (.slice A2 r.i.length c2) (.slice A3 r.b.length c3)) g b n r ∧ IsP w (putW W b n (.slice A1 r.m.length c1) (.slice A2 r.i.length c2) (.slice A3 r.b.length c3)) g s ∧
      Below w.heap.size w (putW W b n (.slice A1 r.m.length c1) (.slice A2 r.i.length c2) (.slice A3 r.b.length c3)) := by
  generalize hv1 : Value.slice A1 r.m.length c1 = v1 at R1 ⊢
  generalize hv2 : Value.slice A2 r.i.length c2 = v2 at R2 ⊢
  generalize hv3 : Value.slice A3 r.b.length c3 = v3 at R3 ⊢
  have hst : ∀ k, Own W g k → (putW W b n v1 v2 v3).heap[k]? = W.heap[k]? := fun k hk => put_same v1 v2 v3 (hk.lt hI) (fun e => hno (by rw [← e]; exact hk))
  have ho : ∀ k, Own (putW W b n v1 v2 v3) g k ↔ Own W g k := fun k => own_step hI hst
  have hrow : ∀ {v : Value} {xs : List Int}, RdN W g v xs → RdN (putW W b n v1 v2 v3) g v xs := fun {v xs} h =>
    (Rd.step h (fun k cells hk _ => put_same v1 v2 v3 (blk_lt hk) (by
      rintro rfl
      rw [show W.heap[k]? = _ from h4] at hk
      injection hk with hk
      injection hk with _ hk _
      exact absurd hk (by decide)))).mono (fun k _ hk hq => hk ((ho k).1 hq))
  have hal := below_alloc (Below.refl _ ((((W.setCell ⟨b, 0, none⟩ (.int .i64 (n : Int))).setCell ⟨b, 1, none⟩ v1).setCell ⟨b, 2, none⟩ v2).setCell ⟨b, 3, none⟩ v3)) (.cells #[.int .i64 (n : Int), v1, v2, v3] 44)
  refine ⟨⟨hbw, fun h => hno ((ho b).1 h), A1, A2, A3, c1, c2, c3, ?_, ?_, ?_, ?_⟩, hI.step hst, below_alloc (below_all hB hbw (.int .i64 (n : Int)) v1 v2 v3) _⟩
  · rw [hv1, hv2, hv3]
    exact (h4.all n v1 v2 v3).below hal
  · rw [hv1]; exact hrow R1
  · rw [hv2]; exact hrow R2
  · rw [hv3]; exact hrow R3
/-! #### what the walk asks of both -/
theorem room_b (hI : IsP w W g s) : Calls Try.prog 16 #[.pointer (some ⟨g, 0, none⟩)] W fun e w' => e = .returned (.int .i64 ((s.size : Int) - (s.what.length : Int))) ∧ Below W.heap.size W w' :=
  (room_raw hI).mono (fun e w' h => ⟨h.1, by rw [← h.2]; exact Below.refl _ _⟩)
theorem there_b (id : Int) (hid : I64 id) (hI : IsP w W g s) : Calls Try.prog 32 #[.pointer (some ⟨g, 0, none⟩), .int .i64 id] W fun e w' => e = .returned (.bool (!decide (code s.what id = 0))) ∧ Below W.heap.size W w' :=
  (isThere_raw id hid hI).mono (fun e w' h => ⟨h.1, by rw [← h.2]; exact Below.refl _ _⟩)
theorem Goes.dec (h : Goes s r) (hv : PInv s) (id : Int) : decide (id ∈ r.m ∨ id ∈ r.i ∨ id ∈ r.b) = !decide (code s.what id = 0) := by
  have ht := h.there hv id
  by_cases hc : code s.what id = 0
  · rw [decide_eq_true hc, decide_eq_false (fun e => ht.1 e hc)]; rfl
  · rw [decide_eq_false hc, decide_eq_true (ht.2 hc)]; rfl
theorem Goes.small (h : Goes s r) (hv : PInv s) : Small r := by
  have := h.len hv
  have h1 := hv.size.1
  have h2 := hv.size.2
  exact ⟨by omega, by omega, by omega⟩
theorem size_make' (s : PS) (id : Int) : (makeF s id).2.size = s.size := by unfold makeF; (repeat' split) <;> rfl
theorem size_ready' (s : PS) (id : Int) : (readyF s id).2.size = s.size := by unfold readyF; (repeat' split) <;> rfl
theorem size_give' (s : PS) (id : Int) : (giveF s id).2.size = s.size := by unfold giveF; (repeat' split) <;> rfl
theorem size_take' (s : PS) : (takeF s).2.2.size = s.size := by unfold takeF; split <;> rfl
theorem size_drop' (s : PS) (id : Int) : (dropF s id).2.size = s.size := by unfold dropF; (repeat' split) <;> rfl
theorem mem_all {lm li lb : List Int} (h : Goes s ⟨lm, li, lb⟩) (hv : PInv s) : (∀ k, k ∈ keys s.what ↔ k ∈ lm ++ li ++ lb) ∧ (keys s.what).Pairwise (· < ·) := ⟨fun k => (h.all hv k).symm, keys_rising hv.rise⟩
theorem ref_new (a0 : Int) (w : World) : Calls Try.prog 24 #[.int .i64 a0] w fun e w' => ∃ A1 A2 A3 c1 c2 c3, e = .returned (.agg #[.int .i64 (sizeOf a0 : Int), .slice A1 0 c1, .slice A2 0 c2, .slice A3 0 c3]) ∧ Rd (fun k => w.heap.size ≤ k) w' (.slice A1 0 c1) [] ∧ Rd (fun k => w.heap.size ≤ k) w' (.slice A2 0 c2) [] ∧ Rd (fun k => w.heap.size ≤ k) w' (.slice A3 0 c3) [] ∧ Below w.heap.size w w' := by
  refine (hostlerref16_New.calls a0 (sizeOf a0 : Int) [] [] [] w ?_).mono ?_
  · unfold hostlerref16_New.f
    rw [(sizeOf_eq a0).1]
  · rintro e w' ⟨v1, v2, v3, rfl, h1, h2, h3, hb⟩
    have q1 := Rd.of_R (ok := fun k => w.heap.size ≤ k) h1 (fun _ h => h)
    have q2 := Rd.of_R (ok := fun k => w.heap.size ≤ k) h2 (fun _ h => h)
    have q3 := Rd.of_R (ok := fun k => w.heap.size ≤ k) h3 (fun _ h => h)
    obtain ⟨A1, c1, rfl⟩ := slice_rd q1
    obtain ⟨A2, c2, rfl⟩ := slice_rd q2
    obtain ⟨A3, c3, rfl⟩ := slice_rd q3
    exact ⟨A1, A2, A3, c1, c2, c3, rfl, q1, q2, q3, hb⟩
end Go.Proofs.Yteagjolmikbllaa.Ob
