/-
  heap.down at the wheel's entries. Conditions: none.
-/
import Derived.Test.YtfflhppieogkbaaUp
set_option linter.unusedVariables false
set_option linter.unusedSimpArgs false
namespace Go.Proofs.Ytfflhppieogkbaa.Hp
open Go Go.RowKit Go.Proofs.YtfflhppieogkbaaW.PrintWords Go.Proofs.YtfflhppieogkbaaW.PrintLast Go.Proofs.YtfflhppieogkbaaW.PrintMore
theorem less_row {W : World} {base b n c i k : Nat} {ok : Nat → Prop} {xs : List E66} (h : k66.R 66 W base ok (.slice (some ⟨b, 0, none⟩) n c) xs) (hi : i < n) (hk : k < n) :
    Calls Try.prog 101 #[.slice (some ⟨b, 0, none⟩) n c, .int .i64 (i : Int), .int .i64 (k : Int)] W fun e w' => e = .returned (.bool (decide (tk xs i < tk xs k))) ∧ Below W.heap.size W w' := by
  have hr := Kd.R_reads' h
  have hn : xs.length = n := hr.1.symm
  have := less_raw (some ⟨b, 0, none⟩) c xs i k W hr.2.2 (by rw [hn]; exact hr.2.1) (by omega) (by omega)
  rwa [hn] at this
/-- Only the first nn have changed places. -/
def Moved (xs xs' : List E66) (nn : Nat) : Prop := (∀ x, x ∈ xs' ↔ x ∈ xs) ∧ ∀ k, nn ≤ k → k < xs.length → rd_T66 xs' (k : Int) = rd_T66 xs (k : Int)
theorem Moved.refl (xs : List E66) (nn : Nat) : Moved xs xs nn := ⟨fun _ => Iff.rfl, fun _ _ _ => rfl⟩
theorem Moved.swp {xs xs' : List E66} {nn i j : Nat} (h : Moved xs xs' nn) (hl : xs'.length = xs.length) (hn : nn ≤ xs.length) (hi : i < nn) (hj : j < nn) : Moved xs (swp xs' i j) nn :=
  ⟨fun x => (mem_swp xs' i j (by omega) (by omega) x).trans (h.1 x), fun k h1 h2 => by
    rw [rd_swp xs' i j k (by omega) (by omega) (by omega), if_neg (by omega), if_neg (by omega)]
    exact h.2 k h1 h2⟩
set_option maxRecDepth 100000 in
set_option maxHeartbeats 4000000 in
theorem down_raw {g b n c i nn base : Nat} {ok : Nat → Prop} {xs : List E66} {W : World} (hc : W.cell? ⟨g, 1, none⟩ = some (sl b n c)) (hne : g ≠ b) (hR : k66.R 66 W base ok (sl b n c) xs) (hH : DownBut xs nn i) (hnn : nn ≤ n) (hi : i ≤ nn) (hn : n ≤ 100000) :
    Calls Try.prog 48 #[.iface 64 (.pointer (some ⟨g, 1, none⟩)), .int .i64 (i : Int), .int .i64 (nn : Int)] W fun e w' => ∃ q : Bool, e = .returned (.bool q) ∧ ∃ xs', HeapTo xs' nn ∧ Moved xs xs' nn ∧ k66.R 66 w' base ok (sl b n c) xs' ∧ W.grownBy w' (some b) := by
  have HR := Aside0.mk hR
  have HH := Aside0.mk hH
  have HG : Aside0 (W.grownBy W (some b)) := ⟨grown_of_below (Below.refl _ _)⟩
  have HC := Aside0.mk hc
  have hxl : xs.length = n := (Kd.R_reads' hR).1.symm
  have HXL := Aside0.mk hxl
  have hgl := World.block_lt_of_cell? W _ hc
  clear hR hH hc hxl
  go_enter Try.func48, Try.ntmps48
  go_wp2
  go_loopw [7] (fun v7 wr => ∃ (i' : Nat) (xs' : List E66), v7 = .int .i64 (i' : Int) ∧ i' ≤ nn ∧ Aside0 (DownBut xs' nn i') ∧ Aside0 (Moved xs xs' nn) ∧ Aside0 (k66.R 66 wr base ok (sl b n c) xs') ∧ Aside0 (W.grownBy wr (some b))) (fun v7 _ => nn - (intOf v7).toNat)
  case atStart => exact ⟨i, xs, rfl, hi, HH, ⟨Moved.refl _ _⟩, HR, HG⟩
  case round =>
    obtain ⟨i', xs', rfl, hi', HB, HM, HRw, HGw⟩ := hrel
    have hcw : wr.cell? ⟨g, 1, none⟩ = some (sl b n c) := (World.cell?_of_block (HGw.out.block g hgl (fun e => hne (by injection e)))).trans HC.out
    have hml := mless hcw
    by_cases hch : nn ≤ 2 * i' + 1
    · have hd1 : decide ((nn : Int) ≤ 2 * (i' : Int) + 1) = true := decide_eq_true (by omega)
      have HST := Aside0.mk (HB.out.stop (fun q h1 h2 h3 => by omega))
      clear hml
      go_wp2
      go_ret
      exact ⟨_, rfl, xs', HST.out, HM.out, HRw.out, HGw.out⟩
    · obtain ⟨a, ha⟩ : ∃ a : Nat, a = 2 * i' + 1 := ⟨_, rfl⟩
      obtain ⟨a2, ha2⟩ : ∃ a2 : Nat, a2 = a + 1 := ⟨_, rfl⟩
      have ha3 : a ≤ 2 * i' + 1 := Nat.le_of_eq ha
      have ha4 : 2 * i' + 1 ≤ a := Nat.le_of_eq ha.symm
      have ha5 : a2 ≤ a + 1 := Nat.le_of_eq ha2
      have ha6 : a + 1 ≤ a2 := Nat.le_of_eq ha2.symm
      clear ha ha2
      have hab : a ≤ 200001 := by omega
      have e1 : 2 * (i' : Int) + 1 = (a : Int) := by omega
      have e2 : (a : Int) + 1 = (a2 : Int) := by omega
      have d1 : decide ((nn : Int) ≤ (a : Int)) = false := decide_eq_false (by omega)
      have d1n : decide (nn ≤ a) = false := decide_eq_false (by omega)
      have hl2 : xs'.length = xs.length := by rw [HXL.out]; exact (Kd.R_reads' HRw.out).1.symm
      have hxl := HXL.out
      have hms := mswap hcw
      by_cases h2 : a2 < nn
      · have d2 : decide ((a2 : Int) < (nn : Int)) = true := decide_eq_true (by omega)
        have d2n : decide (a2 < nn) = true := decide_eq_true h2
        have HL2 := Aside0.mk (less_row HRw.out (show a2 < n by omega) (show a < n by omega))
        by_cases hlt2 : tk xs' a2 < tk xs' a
        · rw [decide_eq_true hlt2] at HL2
          have hmin : ∀ q, 1 ≤ q → q < nn → (q - 1) / 2 = i' → tk xs' a2 ≤ tk xs' q := fun q h1 h3 h4 => by
            have : q = a ∨ q = a2 := by omega
            rcases this with rfl | rfl <;> omega
          have HLX := Aside0.mk (fun (W1 : World) (h : k66.R 66 W1 base ok (sl b n c) xs') => less_row h (show a2 < n by omega) (show i' < n by omega))
          by_cases hlt : tk xs' a2 < tk xs' i'
          · have HD := Aside0.mk (HB.out.down (by omega) (by omega) (by omega) (by omega) hmin hlt)
            have HMV := Aside0.mk (HM.out.swp (i := i') (j := a2) hl2 (by omega) (by omega) (by omega))
            have HSX := Aside0.mk (fun (W1 : World) (h : k66.R 66 W1 base ok (sl b n c) xs') => swap_raw h (show i' < n by omega) (show a2 < n by omega))
            rw [decide_eq_true hlt] at HLX
            clear hmin hlt
            go_wp2_with (first
              | (go_at_call 101; (with_reducible refine HL2.out.mono ?_); rintro e w7 ⟨rfl, hb⟩; have HR7 := Aside0.mk (Kd.R_below HRw.out hb); have HG7 := Aside0.mk (grown_trans HGw.out (grown_of_below hb)); have hcw7 : w7.cell? ⟨g, 1, none⟩ = some (sl b n c) := (hb.cell (p := ⟨g, 1, none⟩) (World.block_lt_of_cell? wr _ hcw)).trans hcw; have hml7 := mless hcw7; have hms7 := mswap hcw7; clear hb HL2)
              | (go_at_call 101; (with_reducible refine (HLX.out w7 HR7.out).mono ?_); rintro e w8 ⟨rfl, hb⟩; have HB8 := Aside0.mk hb; have hcw8 : w8.cell? ⟨g, 1, none⟩ = some (sl b n c) := (hb.cell (p := ⟨g, 1, none⟩) (World.block_lt_of_cell? w7 _ hcw7)).trans hcw7; have hml8 := mless hcw8; have hms8 := mswap hcw8; clear hb)
              | (go_at_call 102; (with_reducible refine (HSX.out w8 (Kd.R_below HR7.out HB8.out)).mono ?_); rintro e w9 ⟨rfl, hR9, hg9⟩; have HR9 := Aside0.mk hR9; have HG9 := Aside0.mk (grown_trans (grown_trans HG7.out (grown_of_below HB8.out)) (grown_trans (grown_of_below (below_drew1 (Below.refl _ _))) hg9)); clear hR9 hg9))
            go_roundw
            case measure => simp [intOf]; omega
            case rel => exact ⟨a2, _, rfl, by omega, HD, HMV, HR9, HG9⟩
          · have HST := Aside0.mk (HB.out.stop (fun q h1 h2 h3 => Int.le_trans (by omega : tk xs' i' ≤ tk xs' a2) (hmin q h1 h2 h3)))
            rw [decide_eq_false hlt] at HLX
            clear hmin hlt
            go_wp2_with (first
              | (go_at_call 101; (with_reducible refine HL2.out.mono ?_); rintro e w7 ⟨rfl, hb⟩; have HR7 := Aside0.mk (Kd.R_below HRw.out hb); have HG7 := Aside0.mk (grown_trans HGw.out (grown_of_below hb)); have hcw7 : w7.cell? ⟨g, 1, none⟩ = some (sl b n c) := (hb.cell (p := ⟨g, 1, none⟩) (World.block_lt_of_cell? wr _ hcw)).trans hcw; have hml7 := mless hcw7; have hms7 := mswap hcw7; clear hb HL2)
              | (go_at_call 101; (with_reducible refine (HLX.out w7 HR7.out).mono ?_); rintro e w8 ⟨rfl, hb⟩; have HB8 := Aside0.mk hb; have hcw8 : w8.cell? ⟨g, 1, none⟩ = some (sl b n c) := (hb.cell (p := ⟨g, 1, none⟩) (World.block_lt_of_cell? w7 _ hcw7)).trans hcw7; have hml8 := mless hcw8; have hms8 := mswap hcw8; clear hb))
            go_ret
            exact ⟨_, rfl, xs', HST.out, HM.out, Kd.R_below HR7.out HB8.out, grown_trans HG7.out (grown_of_below HB8.out)⟩
        · rw [decide_eq_false hlt2] at HL2
          have hmin : ∀ q, 1 ≤ q → q < nn → (q - 1) / 2 = i' → tk xs' a ≤ tk xs' q := fun q h1 h3 h4 => by
            have : q = a ∨ q = a2 := by omega
            rcases this with rfl | rfl <;> omega
          have HLX := Aside0.mk (fun (W1 : World) (h : k66.R 66 W1 base ok (sl b n c) xs') => less_row h (show a < n by omega) (show i' < n by omega))
          by_cases hlt : tk xs' a < tk xs' i'
          · have HD := Aside0.mk (HB.out.down (by omega) (by omega) (by omega) (by omega) hmin hlt)
            have HMV := Aside0.mk (HM.out.swp (i := i') (j := a) hl2 (by omega) (by omega) (by omega))
            have HSX := Aside0.mk (fun (W1 : World) (h : k66.R 66 W1 base ok (sl b n c) xs') => swap_raw h (show i' < n by omega) (show a < n by omega))
            rw [decide_eq_true hlt] at HLX
            clear hmin hlt
            go_wp2_with (first
              | (go_at_call 101; (with_reducible refine HL2.out.mono ?_); rintro e w7 ⟨rfl, hb⟩; have HR7 := Aside0.mk (Kd.R_below HRw.out hb); have HG7 := Aside0.mk (grown_trans HGw.out (grown_of_below hb)); have hcw7 : w7.cell? ⟨g, 1, none⟩ = some (sl b n c) := (hb.cell (p := ⟨g, 1, none⟩) (World.block_lt_of_cell? wr _ hcw)).trans hcw; have hml7 := mless hcw7; have hms7 := mswap hcw7; clear hb HL2)
              | (go_at_call 101; (with_reducible refine (HLX.out w7 HR7.out).mono ?_); rintro e w8 ⟨rfl, hb⟩; have HB8 := Aside0.mk hb; have hcw8 : w8.cell? ⟨g, 1, none⟩ = some (sl b n c) := (hb.cell (p := ⟨g, 1, none⟩) (World.block_lt_of_cell? w7 _ hcw7)).trans hcw7; have hml8 := mless hcw8; have hms8 := mswap hcw8; clear hb)
              | (go_at_call 102; (with_reducible refine (HSX.out w8 (Kd.R_below HR7.out HB8.out)).mono ?_); rintro e w9 ⟨rfl, hR9, hg9⟩; have HR9 := Aside0.mk hR9; have HG9 := Aside0.mk (grown_trans (grown_trans HG7.out (grown_of_below HB8.out)) (grown_trans (grown_of_below (below_drew1 (Below.refl _ _))) hg9)); clear hR9 hg9))
            go_roundw
            case measure => simp [intOf]; omega
            case rel => exact ⟨a, _, rfl, by omega, HD, HMV, HR9, HG9⟩
          · have HST := Aside0.mk (HB.out.stop (fun q h1 h2 h3 => Int.le_trans (by omega : tk xs' i' ≤ tk xs' a) (hmin q h1 h2 h3)))
            rw [decide_eq_false hlt] at HLX
            clear hmin hlt
            go_wp2_with (first
              | (go_at_call 101; (with_reducible refine HL2.out.mono ?_); rintro e w7 ⟨rfl, hb⟩; have HR7 := Aside0.mk (Kd.R_below HRw.out hb); have HG7 := Aside0.mk (grown_trans HGw.out (grown_of_below hb)); have hcw7 : w7.cell? ⟨g, 1, none⟩ = some (sl b n c) := (hb.cell (p := ⟨g, 1, none⟩) (World.block_lt_of_cell? wr _ hcw)).trans hcw; have hml7 := mless hcw7; have hms7 := mswap hcw7; clear hb HL2)
              | (go_at_call 101; (with_reducible refine (HLX.out w7 HR7.out).mono ?_); rintro e w8 ⟨rfl, hb⟩; have HB8 := Aside0.mk hb; have hcw8 : w8.cell? ⟨g, 1, none⟩ = some (sl b n c) := (hb.cell (p := ⟨g, 1, none⟩) (World.block_lt_of_cell? w7 _ hcw7)).trans hcw7; have hml8 := mless hcw8; have hms8 := mswap hcw8; clear hb))
            go_ret
            exact ⟨_, rfl, xs', HST.out, HM.out, Kd.R_below HR7.out HB8.out, grown_trans HG7.out (grown_of_below HB8.out)⟩
      · have d2 : decide ((a2 : Int) < (nn : Int)) = false := decide_eq_false (by omega)
        have d2n : decide (a2 < nn) = false := decide_eq_false h2
        have hmin : ∀ q, 1 ≤ q → q < nn → (q - 1) / 2 = i' → tk xs' a ≤ tk xs' q := fun q h1 h3 h4 => by
          have : q = a := by omega
          rw [this]
          exact Int.le_refl _
        have HLX := Aside0.mk (fun (W1 : World) (h : k66.R 66 W1 base ok (sl b n c) xs') => less_row h (show a < n by omega) (show i' < n by omega))
        by_cases hlt : tk xs' a < tk xs' i'
        · have HD := Aside0.mk (HB.out.down (by omega) (by omega) (by omega) (by omega) hmin hlt)
          have HMV := Aside0.mk (HM.out.swp (i := i') (j := a) hl2 (by omega) (by omega) (by omega))
          have HSX := Aside0.mk (fun (W1 : World) (h : k66.R 66 W1 base ok (sl b n c) xs') => swap_raw h (show i' < n by omega) (show a < n by omega))
          rw [decide_eq_true hlt] at HLX
          clear hmin hlt
          go_wp2_with (first
            | (go_at_call 101; (with_reducible refine (HLX.out wr HRw.out).mono ?_); rintro e w8 ⟨rfl, hb⟩; have HB8 := Aside0.mk hb; have hcw8 : w8.cell? ⟨g, 1, none⟩ = some (sl b n c) := (hb.cell (p := ⟨g, 1, none⟩) (World.block_lt_of_cell? wr _ hcw)).trans hcw; have hml8 := mless hcw8; have hms8 := mswap hcw8; clear hb)
            | (go_at_call 102; (with_reducible refine (HSX.out w8 (Kd.R_below HRw.out HB8.out)).mono ?_); rintro e w9 ⟨rfl, hR9, hg9⟩; have HR9 := Aside0.mk hR9; have HG9 := Aside0.mk (grown_trans (grown_trans HGw.out (grown_of_below HB8.out)) (grown_trans (grown_of_below (below_drew1 (Below.refl _ _))) hg9)); clear hR9 hg9))
          go_roundw
          case measure => simp [intOf]; omega
          case rel => exact ⟨a, _, rfl, by omega, HD, HMV, HR9, HG9⟩
        · have HST := Aside0.mk (HB.out.stop (fun q h1 h2 h3 => Int.le_trans (by omega : tk xs' i' ≤ tk xs' a) (hmin q h1 h2 h3)))
          rw [decide_eq_false hlt] at HLX
          clear hmin hlt
          go_wp2_with (first
            | (go_at_call 101; (with_reducible refine (HLX.out wr HRw.out).mono ?_); rintro e w8 ⟨rfl, hb⟩; have HB8 := Aside0.mk hb; have hcw8 : w8.cell? ⟨g, 1, none⟩ = some (sl b n c) := (hb.cell (p := ⟨g, 1, none⟩) (World.block_lt_of_cell? wr _ hcw)).trans hcw; have hml8 := mless hcw8; have hms8 := mswap hcw8; clear hb))
          go_ret
          exact ⟨_, rfl, xs', HST.out, HM.out, Kd.R_below HRw.out HB8.out, grown_trans HGw.out (grown_of_below HB8.out)⟩
end Go.Proofs.Ytfflhppieogkbaa.Hp
