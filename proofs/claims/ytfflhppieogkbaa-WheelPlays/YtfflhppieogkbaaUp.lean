/-
  heap.up at the wheel's entries. Conditions: none.
-/
import Derived.Test.YtfflhppieogkbaaHq
set_option linter.unusedVariables false
set_option linter.unusedSimpArgs false
namespace Go.Proofs.Ytfflhppieogkbaa.Hp
open Go Go.RowKit Go.Proofs.YtfflhppieogkbaaW.PrintWords Go.Proofs.YtfflhppieogkbaaW.PrintLast Go.Proofs.YtfflhppieogkbaaW.PrintMore
theorem grown_of_below {W W' : World} {row : Option Nat} (hb : Below W.heap.size W W') : W.grownBy W' row := ⟨hb.os, hb.tape, hb.output, hb.size, fun k hk _ => hb.block k hk⟩
abbrev sl (b n c : Nat) : Value := .slice (some ⟨b, 0, none⟩) n c
set_option maxRecDepth 100000 in
set_option maxHeartbeats 4000000 in
theorem up_raw {g b n c j base : Nat} {ok : Nat → Prop} {xs : List E66} {W : World} (hc : W.cell? ⟨g, 1, none⟩ = some (sl b n c)) (hne : g ≠ b) (hR : k66.R 66 W base ok (sl b n c) xs) (hH : HeapBut xs j) (hj : j < n) (hn : n ≤ 100000) :
    Calls Try.prog 44 #[.iface 64 (.pointer (some ⟨g, 1, none⟩)), .int .i64 (j : Int)] W fun e w' => e = .returned (.tuple #[]) ∧ ∃ xs', Heap xs' ∧ (∀ x, x ∈ xs' ↔ x ∈ xs) ∧ k66.R 66 w' base ok (sl b n c) xs' ∧ W.grownBy w' (some b) := by
  have HR := Aside0.mk hR
  have HH := Aside0.mk hH
  have HG : Aside0 (W.grownBy W (some b)) := ⟨grown_of_below (Below.refl _ _)⟩
  have HC := Aside0.mk hc
  have hgl := World.block_lt_of_cell? W _ hc
  clear hR hH hc
  go_enter Try.func44, Try.ntmps44
  go_wp2
  go_loopw [1] (fun v1 wr => ∃ (j' : Nat) (xs' : List E66), v1 = .int .i64 (j' : Int) ∧ j' < n ∧ Aside0 (HeapBut xs' j') ∧ Aside0 (∀ x, x ∈ xs' ↔ x ∈ xs) ∧ Aside0 (k66.R 66 wr base ok (sl b n c) xs') ∧ Aside0 (W.grownBy wr (some b))) (fun v1 _ => (intOf v1).toNat)
  case atStart => exact ⟨j, xs, rfl, hj, HH, ⟨fun _ => Iff.rfl⟩, HR, HG⟩
  case round =>
    obtain ⟨j', xs', rfl, hj', HB, HM, HRw, HGw⟩ := hrel
    have hcw : wr.cell? ⟨g, 1, none⟩ = some (sl b n c) := (World.cell?_of_block (HGw.out.block g hgl (fun e => hne (by injection e)))).trans HC.out
    have hml := mless hcw
    have hms := mswap hcw
    rcases Nat.eq_zero_or_pos j' with h0 | hp
    · subst h0
      go_wp2
      refine bodyPost_end (results_none rfl _ _ _) rfl ?_
      exact ⟨rfl, xs', HB.out.stop (.inl rfl), HM.out, HRw.out, HGw.out⟩
    · obtain ⟨m, hm⟩ : ∃ m : Nat, (j' - 1) / 2 = m := ⟨_, rfl⟩
      have hmi : ((j' : Int) - 1) / 2 = (m : Int) := by omega
      have hmj : m < j' := by omega
      have hq1 : ((m : Int) == (j' : Int)) = false := by rw [beq_eq_false_iff_ne]; omega
      have hq2 : decide ((m : Int) = (j' : Int)) = false := decide_eq_false (by omega)
      have hj1 : 1 ≤ (j' : Int) := by omega
      have hrd := Kd.R_reads' HRw.out
      have hnl : xs'.length = n := hrd.1.symm
      have hll := less_raw (some ⟨b, 0, none⟩) c xs' j' m wr hrd.2.2 (by rw [hnl]; exact hrd.2.1) (by omega) (by omega)
      rw [hnl] at hll
      have HL := Aside0.mk hll
      have HS := Aside0.mk (fun (w1 : World) (h : k66.R 66 w1 base ok (sl b n c) xs') => swap_raw h (show m < n by omega) hj')
      have hup := fun hlt => HB.out.up (j := j') hp (by omega) hlt
      rw [hm] at hup
      have HU := Aside0.mk hup
      have hst := fun hs => HB.out.stop (j := j') (.inr hs)
      rw [hm] at hst
      have HST := Aside0.mk hst
      have hms2 := fun x => mem_swp xs' m j' (by omega) (by omega) x
      have HM2 := Aside0.mk hms2
      clear hll hup hst hms hms2 hrd
      by_cases hlt : tk xs' j' < tk xs' m
      · rw [show decide ((rd_T66 xs' (j' : Int)).f0 < (rd_T66 xs' (m : Int)).f0) = true from decide_eq_true hlt] at HL
        have HLT := Aside0.mk hlt
        clear hlt
        go_wp2_with (first
          | (go_at_call 101; (with_reducible refine HL.out.mono ?_); rintro e w1 ⟨rfl, hb1⟩; have HB1 := Aside0.mk hb1; have hcw1 : w1.cell? ⟨g, 1, none⟩ = some (sl b n c) := (hb1.cell (p := ⟨g, 1, none⟩) (World.block_lt_of_cell? wr _ hcw)).trans hcw; have hms1 := mswap hcw1; clear hb1)
          | (go_at_call 102; (with_reducible refine (HS.out w1 (Kd.R_below HRw.out HB1.out)).mono ?_); rintro e w2 ⟨rfl, hR2, hg2⟩; have HR2 := Aside0.mk hR2; have HG2 := Aside0.mk (grown_trans (grown_trans HGw.out (grown_of_below HB1.out)) (grown_trans (grown_of_below (below_drew1 (Below.refl _ _))) hg2)); clear hR2 hg2))
        go_roundw
        case measure => simp [intOf]; omega
        case rel => exact ⟨m, swp xs' m j', rfl, by omega, ⟨HU.out HLT.out⟩, ⟨fun x => (HM2.out x).trans (HM.out x)⟩, HR2, HG2⟩
      · rw [show decide ((rd_T66 xs' (j' : Int)).f0 < (rd_T66 xs' (m : Int)).f0) = false from decide_eq_false hlt] at HL
        have HLE : Aside0 (tk xs' m ≤ tk xs' j') := ⟨by omega⟩
        clear hlt
        go_wp2_with (go_at_call 101; (with_reducible refine HL.out.mono ?_); rintro e w1 ⟨rfl, hb1⟩; have HB1 := Aside0.mk hb1; clear hb1)
        refine bodyPost_end (results_none rfl _ _ _) rfl ?_
        exact ⟨rfl, xs', HST.out HLE.out, HM.out, Kd.R_below HRw.out HB1.out, grown_trans HGw.out (grown_of_below HB1.out)⟩
end Go.Proofs.Ytfflhppieogkbaa.Hp
