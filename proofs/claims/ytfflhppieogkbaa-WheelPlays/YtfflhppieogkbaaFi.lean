/-
  Contracts of the wheel's first. Conditions: none.
-/
import Derived.Test.YtfflhppieogkbaaPu
set_option linter.unusedVariables false
set_option linter.unusedSimpArgs false
set_option maxRecDepth 100000
namespace Go.Proofs.Ytfflhppieogkbaa.Hp
open Go Go.RowKit Go.Proofs.YtfflhppieogkbaaW.PrintWords Go.Proofs.YtfflhppieogkbaaW.PrintLast Go.Proofs.YtfflhppieogkbaaW.PrintMore Go.Proofs.Ytfflhppieogkbaa.Mp
section
variable {w0 W W1 : World} {g mb : Nat} {l : PL} {xs : List E66}
theorem IsX.far {p : Addr} (h : IsX w0 W g l xs) (hne : ¬ Own W g p.block) (u : Value) : IsX w0 (W.setCell p u) g l xs := h.step (fun k hk => Below.heap_setCell W p u k (fun e => hne (by rw [← e]; exact hk)))
theorem own_far {k : Nat} {p : Addr} (h : IsX w0 W g l xs) (hne : ¬ Own W g p.block) (u : Value) : Own (W.setCell p u) g k ↔ Own W g k := own_step h (fun k hk => Below.heap_setCell W p u k (fun e => hne (by rw [← e]; exact hk)))
theorem Kp.far {p : Addr} (hk : Kp g W W1) (h : IsX w0 W1 g l xs) (hne : ¬ Own W1 g p.block) (hp : W.heap.size ≤ p.block) (u : Value) : Kp g W (W1.setCell p u) :=
  ⟨hk.t.trans' (Tch.set (S := fun k => k = p.block) rfl u) (fun b hb e => by omega), fun k hlt ho => hk.own k hlt ((own_far h hne u).1 ho)⟩
theorem IsX.open_ (h : IsX w0 W g l xs) : ∃ mb A n, W.heap[g]? = some (.cells #[.map (some mb), .slice A xs.length n] 62 (0, 0)) ∧ w0.heap.size ≤ g ∧ MapI W mb l ∧ w0.heap.size ≤ mb ∧
    k66.R 66 W w0.heap.size (fun _ => True) (.slice A xs.length n) xs ∧ Heap xs ∧ Covers xs l ∧ Good xs := by
  obtain ⟨mb, v, hb, hg, hM, hgm, hR, hh⟩ := h
  obtain ⟨A, n, rfl⟩ := Kd.R_slice hR
  exact ⟨mb, A, n, hb, hg, hM, hgm, hR, hh⟩
/-- heap.Pop at the wheel: its first entry doesn't hold any more. -/
theorem pop_wheel {n : Nat} (hI : IsX w0 W g l xs) (hB : Below w0.heap.size w0 W) (hxl : xs.length = n + 1) (hn : n ≤ 90000) (hx : ((rd_T66 xs 0).f1, (rd_T66 xs 0).f0) ∉ l) :
    Calls Try.prog 36 #[.iface 64 (.pointer (some ⟨g, 1, none⟩))] W fun e w' => e = .returned (.iface 66 (.agg #[.int .i64 (rd_T66 xs 0).f0, .int .i64 (rd_T66 xs 0).f1])) ∧ ∃ xs', IsX w0 w' g l xs' ∧ xs'.length = n ∧ Kp g W w' := by
  obtain ⟨mb, v, hb, hg, hM, hgm, hR, hH, hC, hG⟩ := hI
  refine (pop_raw hb hR hH hxl hn).mono ?_
  rintro e w' ⟨rfl, v', xs', hb', hR', hH', hm', hl', ht', hv'⟩
  have hmg : ¬ (mb = g ∨ v.ownBlock = some mb) := by
    rintro (h | h)
    · exact ne_map hb hM h.symm
    · exact row_ne_map hR hM h.symm
  refine ⟨rfl, xs', ⟨mb, v', hb', hg, hM.step (ht'.block mb hM.lt hmg), hgm, hR', hH', fun p hp => ?_, fun y hy => hG y ((hm' y).2 (.inr hy))⟩, hl', Kp.of hb hb' ht' (fun k hk => hk.elim .inl (fun h => .inr (.inr h))) (fun k hk => .inl (by rw [← hv']; exact hk))⟩
  rcases (hm' _).1 (hC p hp) with h | h
  · exact absurd (by rw [← h]; exact hp) hx
  · exact h
end
/-- How many entries the wheel's heap has. -/
def hlen (g : Nat) (W : World) : Nat := match W.cell? ⟨g, 1, none⟩ with | some (.slice _ n _) => n | _ => 0
theorem IsX.hlen {w0 W : World} {g : Nat} {l : PL} {xs : List E66} (h : IsX w0 W g l xs) : hlen g W = xs.length := by
  obtain ⟨mb, A, n, hb, _⟩ := h.open_
  have : W.cell? ⟨g, 1, none⟩ = some (.slice A xs.length n) := (blk_cell hb 1).trans rfl
  unfold Hp.hlen
  rw [this]
def FirstIs (l : PL) (xs : List E66) (e : Ending) : Prop := (l = [] ∧ e = .returned (.tuple #[.agg #[.int .i64 0, .int .i64 0], .bool false])) ∨
  (0 < xs.length ∧ e = .returned (.tuple #[.agg #[.int .i64 (rd_T66 xs 0).f0, .int .i64 (rd_T66 xs 0).f1], .bool true]) ∧ ((rd_T66 xs 0).f1, (rd_T66 xs 0).f0) ∈ l ∧ ∀ p ∈ l, (rd_T66 xs 0).f0 ≤ p.2)
set_option maxHeartbeats 4000000 in
theorem first_raw {w0 W : World} {g : Nat} {l : PL} {xs : List E66} (hI : IsX w0 W g l xs) (hB : Below w0.heap.size w0 W) (hl : xs.length ≤ 90000) :
    Calls Try.prog 33 #[.pointer (some ⟨g, 0, none⟩)] W fun e w' => ∃ xs', IsX w0 w' g l xs' ∧ xs'.length ≤ xs.length ∧ Kp g W w' ∧ FirstIs l xs' e := by
  have HI := Aside0.mk hI
  have HB := Aside0.mk hB
  obtain ⟨B, hBd⟩ : ∃ B, B = W.heap.size := ⟨_, rfl⟩
  obtain ⟨W1, hW1⟩ : ∃ W1, W1 = W.alloc (.cells #[.int .i64 0, .int .i64 0] 66) := ⟨_, rfl⟩
  have hB1 : Below W.heap.size W W1 := by rw [hW1]; exact below_alloc (Below.refl _ _) _
  have HB1 := Aside0.mk hB1
  have HBLK : Aside0 (W1.heap[B]? = some (.cells #[.int .i64 0, .int .i64 0] 66 (0, 0))) := ⟨by rw [hW1, hBd]; exact heap_alloc_new _ _⟩
  have HI1 := Aside0.mk (hI.below hB1)
  have HN : Aside0 (¬ Own W1 g B) := ⟨fun h => by
    have := ((own_step hI (fun k hk => hB1.block k (hk.lt hI))).1 h).lt hI
    omega⟩
  clear hI hB
  go_enter Try.func33, Try.ntmps33
  go_wp2
  rw [← hW1, ← hBd]
  have HBD := Aside0.mk hBd
  clear hW1 hBd hB1
  go_loopw [] (fun wr => ∃ (xs' : List E66), xs'.length ≤ xs.length ∧ Aside0 (IsX w0 wr g l xs') ∧ Aside0 (Kp g W1 wr)) (fun wr => hlen g wr)
  case atStart => exact ⟨xs, Nat.le_refl _, HI1, ⟨Kp.refl _ _⟩⟩
  case round =>
    obtain ⟨xs', hln, HIr, HKr⟩ := hrel
    have HHL := Aside0.mk HIr.out.hlen
    obtain ⟨mb, A, n, hb, hg, hM, hgm, hR, hH, hC, hG⟩ := HIr.out.open_
    have HNr := Aside0.mk (HKr.out.blk HBLK.out HN.out)
    have HBr := Aside0.mk (HKr.out.belowX (HB.out.trans (HB1.out.mono HB.out.size)) HI1.out)
    have c1 : wr.cell? ⟨g, 1, none⟩ = some (.slice A xs'.length n) := (blk_cell hb 1).trans rfl
    have c0 : wr.cell? ⟨g, 0, none⟩ = some (.map (some mb)) := (blk_cell hb 0).trans rfl
    have k0 : wr.cell? ⟨B, 0, none⟩ = some (.int .i64 0) := (blk_cell HNr.out.1 0).trans rfl
    have k1 : wr.cell? ⟨B, 1, none⟩ = some (.int .i64 0) := (blk_cell HNr.out.1 1).trans rfl
    have kf0 : wr.frozen? ⟨B, 0, none⟩ = false := blk_frozen HNr.out.1 0
    have kf1 : wr.frozen? ⟨B, 1, none⟩ = false := blk_frozen HNr.out.1 1
    have hBl : B < wr.heap.size := blk_lt HNr.out.1
    have hBne : ¬ B = wr.heap.size := by omega
    have hgl : g < wr.heap.size := blk_lt hb
    have HF : Aside0 (∀ (w2 : World) (u1 u2 : Value), Below wr.heap.size wr w2 → IsX w0 ((w2.setCell ⟨B, 0, none⟩ u1).setCell ⟨B, 1, none⟩ u2) g l xs' ∧ Kp g W ((w2.setCell ⟨B, 0, none⟩ u1).setCell ⟨B, 1, none⟩ u2) ∧
        ((w2.setCell ⟨B, 0, none⟩ u1).setCell ⟨B, 1, none⟩ u2).heap[B]? = some (.cells #[u1, u2] 66 (0, 0))) := ⟨fun w2 u1 u2 hb2 => by
      have hI2 := HIr.out.below hb2
      have hN2 : ¬ Own w2 g B := fun h => HNr.out.2 ((own_step HIr.out (fun k hk => hb2.block k (hk.lt HIr.out))).1 h)
      have h1 := hI2.far (p := ⟨B, 0, none⟩) hN2 u1
      have hn1 : ¬ Own (w2.setCell ⟨B, 0, none⟩ u1) g B := fun h => hN2 ((own_far hI2 (p := ⟨B, 0, none⟩) hN2 u1).1 h)
      have hk0 : Kp g W w2 := ((Kp.of_belowX HI.out HB1.out).trans HKr.out).trans (Kp.of_belowX HIr.out hb2)
      have hb2' : w2.heap[B]? = some (.cells #[.int .i64 0, .int .i64 0] 66 (0, 0)) := blk_below HNr.out.1 hb2
      exact ⟨h1.far (p := ⟨B, 1, none⟩) hn1 u2, (hk0.far hI2 (p := ⟨B, 0, none⟩) hN2 (by rw [HBD.out]; exact Nat.le_refl _) u1).far h1 (p := ⟨B, 1, none⟩) hn1 (by rw [HBD.out]; exact Nat.le_refl _) u2, by simpa using blk_set (blk_set hb2' 0 u1) 1 u2⟩⟩
    have HLN := Aside0.mk hln
    by_cases hz : xs'.length = 0
    · have HLE : Aside0 (l = []) := ⟨by
        cases l with
        | nil => rfl
        | cons p l =>
          have := hC p (List.mem_cons_self ..)
          rw [List.length_eq_zero_iff.1 hz] at this
          simp at this⟩
      rw [hz] at c1
      clear hb hM hR hH hC hG hgm hg hz hln
      go_wp2
      obtain ⟨h1, h2, h3⟩ := HF.out wr (.int .i64 0) (.int .i64 0) (Below.refl _ _)
      refine bodyPost_ret (results_ct (p := 2) (u := 3) rfl _ _ B 66 _ (0, 0) _ rfl h3 Try.underlying66 rfl (by kernel_rfl)) rfl ?_
      exact ⟨xs', h1, HLN.out, h2, .inl ⟨HLE.out, rfl⟩⟩
    · obtain ⟨m, hm⟩ : ∃ m, xs'.length = m + 1 := ⟨xs'.length - 1, by omega⟩
      obtain ⟨b, n', hAe, _, cur, hcur⟩ := R66_some hR (by omega)
      injection hAe with hAe hmm hnn
      subst hAe
      have hcl := cells_of hR (i := 0) (by omega)
      have hgx := hG (rd_T66 xs' 0) (mem_rd.2 ⟨0, by omega, rfl⟩)
      have hlst := hH.least
      have e0 : ((0 : Nat) : Int) = 0 := rfl
      unfold tk at hlst
      rw [e0] at hcl
      simp only [e0] at hlst
      obtain ⟨x0, hx0⟩ : ∃ x, (rd_T66 xs' 0).f0 = x := ⟨_, rfl⟩
      obtain ⟨x1, hx1⟩ : ∃ x, (rd_T66 xs' 0).f1 = x := ⟨_, rfl⟩
      rw [hx0, hx1] at hcl
      rw [hx0] at hgx hlst
      rw [hx1] at hgx
      have HX0 := Aside0.mk hx0
      have HX1 := Aside0.mk hx1
      have HM := Aside0.mk hm
      have HLS : Aside0 (∀ p ∈ l, x0 ≤ p.2) := ⟨fun p hp => by
        obtain ⟨j, hj, he⟩ := mem_rd.1 (hC p hp)
        have := hlst j hj
        rw [he] at this
        exact this⟩
      obtain ⟨hl0, hl1⟩ := hcl
      have hl0 : wr.cell? ⟨b, 0, none⟩ = some (.int .i64 x0) := hl0
      have hl1 : wr.cell? ⟨b, 1, none⟩ = some (.int .i64 x1) := hl1
      obtain ⟨w2, hw2⟩ : ∃ w2, w2 = wr.alloc (.cells #[.int .i64 x0, .int .i64 x1] 66) := ⟨_, rfl⟩
      obtain ⟨T, hT⟩ : ∃ T, T = wr.heap.size := ⟨_, rfl⟩
      have hb2 : Below wr.heap.size wr w2 := by rw [hw2]; exact below_alloc (Below.refl _ _) _
      have HW2 : Aside0 (Below wr.heap.size wr w2.drew) := ⟨below_drew1 hb2⟩
      have hT2 : w2.heap[T]? = some (.cells #[.int .i64 x0, .int .i64 x1] 66 (0, 0)) := by rw [hw2, hT]; exact heap_alloc_new _ _
      have t0 : w2.cell? ⟨T, 0, none⟩ = some (.int .i64 x0) := (blk_cell hT2 0).trans rfl
      have t1 : w2.cell? ⟨T, 1, none⟩ = some (.int .i64 x1) := (blk_cell hT2 1).trans rfl
      have d0 : w2.cell? ⟨g, 0, none⟩ = some (.map (some mb)) := (blk_cell (blk_below hb hb2) 0).trans rfl
      have q0 : w2.cell? ⟨B, 0, none⟩ = some (.int .i64 0) := (blk_cell (blk_below HNr.out.1 hb2) 0).trans rfl
      have q1 : w2.cell? ⟨B, 1, none⟩ = some (.int .i64 0) := (blk_cell (blk_below HNr.out.1 hb2) 1).trans rfl
      have qf0 : w2.frozen? ⟨B, 0, none⟩ = false := blk_frozen (blk_below HNr.out.1 hb2) 0
      have qf1 : w2.frozen? ⟨B, 1, none⟩ = false := blk_frozen (blk_below HNr.out.1 hb2) 1
      have hBT : ¬ B = T := by omega
      have hTB : ¬ T = B := by omega
      have hlk : (Instr.lookup 58 (.map (some mb)) (.int .i64 x1) true).run Try.prog w2.drew = .ok (.tuple #[.int .i64 (code l x1), .bool (Mp.look l x1).isSome]) w2.drew :=
        MapI.look_ok 58 Try.underlying58 (MapI.step (W1 := w2.drew) hM (HW2.out.block _ hM.lt)) hgx.2
      have HW := Aside0.mk hw2
      have HT := Aside0.mk hT
      clear hw2 hT hb2 hT2
      rw [hm] at c1
      have hR1 := hM.1
      by_cases hin : (x1, x0) ∈ l
      · have hlo := (look_some hR1).2 hin
        have hco : code l x1 = x0 := by unfold code; rw [hlo]; rfl
        rw [hlo, hco] at hlk
        have HIN := Aside0.mk hin
        have hd1 : decide (x0 = x0) = true := decide_eq_true rfl
        have hd2 : (x0 == x0) = true := by simp
        clear hb hM hR hH hC hG hgm hg hz hln hcur hlst hx0 hx1 hlo hco hin hR1 hgx hm
        go_upto_region 3 with fail
        rw [← HW.out, ← HT.out]
        go_region
        go_wp2
        obtain ⟨h1, h2, h3⟩ := HF.out w2.drew (.int .i64 x0) (.int .i64 x1) HW2.out
        refine bodyPost_ret (results_ct (p := 2) (u := 3) rfl _ _ B 66 _ (0, 0) _ rfl h3 Try.underlying66 rfl (by kernel_rfl)) rfl ?_
        refine ⟨xs', h1, HLN.out, h2, .inr ⟨by have := HM.out; omega, by rw [HX0.out, HX1.out]; rfl, by rw [HX0.out, HX1.out]; exact HIN.out, by rw [HX0.out]; exact HLS.out⟩⟩
      · have HPW : Aside0 (Calls Try.prog 36 #[.iface 64 (.pointer (some ⟨g, 1, none⟩))] w2.drew fun e w' => e = .returned (.iface 66 (.agg #[.int .i64 x0, .int .i64 x1])) ∧ ∃ xs2, IsX w0 w' g l xs2 ∧ xs2.length = m ∧ Kp g w2.drew w') := by
          have hp := pop_wheel (HIr.out.below HW2.out) (HBr.out.trans (HW2.out.mono HBr.out.size)) hm (by omega) (by rw [hx0, hx1]; exact hin)
          rw [hx0, hx1] at hp
          exact ⟨hp⟩
        by_cases hq : (Mp.look l x1).isSome = true
        · have hd : ¬ code l x1 = x0 := fun e => hin ((look_some hR1).1 (by
            unfold code at e
            obtain ⟨v, hv⟩ := Option.isSome_iff_exists.1 hq
            rw [hv] at e ⊢
            exact congrArg some e))
          rw [hq] at hlk
          obtain ⟨cc, hcc⟩ : ∃ cc, code l x1 = cc := ⟨_, rfl⟩
          rw [hcc] at hlk hd
          have hd1 : decide (cc = x0) = false := decide_eq_false hd
          have hd2 : (cc == x0) = false := beq_eq_false_iff_ne.2 hd
          clear hb hM hR hH hC hG hgm hg hz hln hcur hlst hx0 hx1 hin hR1 hgx hm hq hcc hd
          go_upto_region 3 with fail
          rw [← HW.out, ← HT.out]
          go_region
          go_wp2_with (go_at_call 36; (with_reducible refine HPW.out.mono ?_); rintro e w3 ⟨rfl, xs2, hI3, hl3, hk3⟩; have HI3 := Aside0.mk hI3; have HL3 := Aside0.mk hl3; have HK3 := Aside0.mk hk3; clear hI3 hl3 hk3)
          go_roundw
          case measure => rw [HI3.out.hlen, HHL.out]; have := HL3.out; have := HM.out; omega
          case rel => exact ⟨xs2, by have := HL3.out; have := HM.out; have := HLN.out; omega, HI3, ⟨(HKr.out.trans (Kp.of_belowX HIr.out HW2.out)).trans HK3.out⟩⟩
        · have hq2 : (Mp.look l x1).isSome = false := by simpa using hq
          rw [hq2] at hlk
          obtain ⟨cc, hcc⟩ : ∃ cc, code l x1 = cc := ⟨_, rfl⟩
          rw [hcc] at hlk
          clear hb hM hR hH hC hG hgm hg hz hln hcur hlst hx0 hx1 hin hR1 hgx hm hq hcc hq2
          go_upto_region 3 with fail
          rw [← HW.out, ← HT.out]
          go_region
          go_wp2_with (go_at_call 36; (with_reducible refine HPW.out.mono ?_); rintro e w3 ⟨rfl, xs2, hI3, hl3, hk3⟩; have HI3 := Aside0.mk hI3; have HL3 := Aside0.mk hl3; have HK3 := Aside0.mk hk3; clear hI3 hl3 hk3)
          go_roundw
          case measure => rw [HI3.out.hlen, HHL.out]; have := HL3.out; have := HM.out; omega
          case rel => exact ⟨xs2, by have := HL3.out; have := HM.out; have := HLN.out; omega, HI3, ⟨(HKr.out.trans (Kp.of_belowX HIr.out HW2.out)).trans HK3.out⟩⟩
end Go.Proofs.Ytfflhppieogkbaa.Hp
