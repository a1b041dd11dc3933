/-
  Contracts of the program's functions and the Lean functions that they compute, laid by a program of this session out of the translation. Conditions: none.
-/
import Derived.Test.YthlhjgbmcehpdaaPAx0
import Derived.Test.YthlhjgbmcehpdaaPAx5
import Derived.Test.YthlhjgbmcehpdaaPAx6
namespace Go.Proofs.Ythlhjgbmcehpdaa.PA
open Go.RowKit Go.Proofs.Ythlhjgbmcehpdaa.Man Go.Proofs.YthlhjgbmcehpdaaW.PrintWords Go.Proofs.YthlhjgbmcehpdaaW.PrintLast Go.Proofs.YthlhjgbmcehpdaaW.PrintMore
attribute [local go_sem] max2_int min2_int max_two min_two max_three min_three max_four min_four   -- for this text's walks alone
set_option linter.unusedVariables false
set_option linter.unusedSimpArgs false

/-! ### hostlerlaw10_StateRetired: function 8 -/
mutual
def hostlerlaw10_StateRetired.l0 : Nat → List Int → Int → Bool → Int → Option (Bool)
  | 0, _, _, _, _ => none
  | k + 1, x0, x3, x4, x5 => if x5 < (x0.length : Int) then (hostlerlaw10_StateRetired.j1 k x0 x3 x4 x5 (decide (x5 < 40))) else (hostlerlaw10_StateRetired.j1 k x0 x3 x4 x5 false)
def hostlerlaw10_StateRetired.j1 : Nat → List Int → Int → Bool → Int → Bool → Option (Bool)
  | 0, _, _, _, _, _ => none
  | k + 1, x0, x3, x4, x5, x17 => if x17 = true then (if x4 = true then (hostlerlaw10_StateRetired.j2 k x0 x3 true x5) else (if 0 ≤ x5 then (if x5 < (x0.length : Int) then (if (rd x0 x5) = 1 then (hostlerlaw10_StateRetired.j2 k x0 x3 true x5) else (hostlerlaw10_StateRetired.j2 k x0 x3 ((rd x0 x5) == 6) x5)) else (none)) else (none))) else (some true)
def hostlerlaw10_StateRetired.j2 : Nat → List Int → Int → Bool → Int → Option (Bool)
  | 0, _, _, _, _ => none
  | k + 1, x0, x3, x4, x5 => if 0 ≤ x5 then (if x5 < (x0.length : Int) then ((state_Next.f x3 (rd x0 x5)).bind fun bt219 => (if x4 = true then (if bt219.1 = 0 then (if bt219.1 < 0 then (some false) else (if bt219.1 > 3 then (some false) else (hostlerlaw10_StateRetired.l0 k x0 bt219.1 x4 (wrap64 (x5 + 1))))) else ((state_Serves.f bt219.1).bind fun t221 => (if t221 = true then (some false) else ((state_Opens.f bt219.1).bind fun t222 => (if t222 = true then (some false) else (if bt219.1 < 0 then (some false) else (if bt219.1 > 3 then (some false) else (hostlerlaw10_StateRetired.l0 k x0 bt219.1 x4 (wrap64 (x5 + 1)))))))))) else (if bt219.1 = 3 then (if bt219.1 = 0 then (if bt219.1 < 0 then (some false) else (if bt219.1 > 3 then (some false) else (hostlerlaw10_StateRetired.l0 k x0 bt219.1 x4 (wrap64 (x5 + 1))))) else ((state_Serves.f bt219.1).bind fun t223 => (if t223 = true then (some false) else ((state_Opens.f bt219.1).bind fun t224 => (if t224 = true then (some false) else (if bt219.1 < 0 then (some false) else (if bt219.1 > 3 then (some false) else (hostlerlaw10_StateRetired.l0 k x0 bt219.1 x4 (wrap64 (x5 + 1)))))))))) else (some false)))) else (none)) else (none)
end
def hostlerlaw10_StateRetired.f (k : Nat) (l0 : List Int) : Option (Bool) := (hostlerlaw10_lives.f k).bind fun t215 => (if t215 = true then (hostlerlaw10_StateRetired.l0 k l0 3 false 0) else (some false))
theorem hostlerlaw10_StateRetired.mono_l : ∀ k, (∀ y0 y1 y2 y3, LeO (hostlerlaw10_StateRetired.l0 k y0 y1 y2 y3) (hostlerlaw10_StateRetired.l0 (k + 1) y0 y1 y2 y3)) ∧ (∀ y0 y1 y2 y3 y4, LeO (hostlerlaw10_StateRetired.j1 k y0 y1 y2 y3 y4) (hostlerlaw10_StateRetired.j1 (k + 1) y0 y1 y2 y3 y4)) ∧ (∀ y0 y1 y2 y3, LeO (hostlerlaw10_StateRetired.j2 k y0 y1 y2 y3) (hostlerlaw10_StateRetired.j2 (k + 1) y0 y1 y2 y3))
  | 0 => ⟨fun _ _ _ _ r h => by simp [hostlerlaw10_StateRetired.l0] at h, fun _ _ _ _ _ r h => by simp [hostlerlaw10_StateRetired.j1] at h, fun _ _ _ _ r h => by simp [hostlerlaw10_StateRetired.j2] at h⟩
  | k + 1 => by
    obtain ⟨ih0, ih1, ih2⟩ := hostlerlaw10_StateRetired.mono_l k
    refine ⟨?_, ?_, ?_⟩
    · intro y0 y1 y2 y3
      unfold hostlerlaw10_StateRetired.l0
      repeat' first
      | (with_reducible exact ih0 _ _ _ _)
      | (with_reducible exact ih1 _ _ _ _ _)
      | (with_reducible exact ih2 _ _ _ _)
      | (with_reducible exact hostlerlaw10_lives.mono _)
      | (with_reducible exact LeO.refl _)
      | (with_reducible exact LeO.none _)
      | (with_reducible refine LeO.ite ?_ ?_)
      | (with_reducible refine LeO.bind ?_ (fun _ => ?_))
      | exact ih0 _ _ _ _
      | exact ih1 _ _ _ _ _
      | exact ih2 _ _ _ _
      | exact hostlerlaw10_lives.mono _
      | exact LeO.none _
      | refine LeO.ite ?_ ?_
      | refine LeO.bind ?_ (fun _ => ?_)
    · intro y0 y1 y2 y3 y4
      unfold hostlerlaw10_StateRetired.j1
      repeat' first
      | (with_reducible exact ih0 _ _ _ _)
      | (with_reducible exact ih1 _ _ _ _ _)
      | (with_reducible exact ih2 _ _ _ _)
      | (with_reducible exact hostlerlaw10_lives.mono _)
      | (with_reducible exact LeO.refl _)
      | (with_reducible exact LeO.none _)
      | (with_reducible refine LeO.ite ?_ ?_)
      | (with_reducible refine LeO.bind ?_ (fun _ => ?_))
      | exact ih0 _ _ _ _
      | exact ih1 _ _ _ _ _
      | exact ih2 _ _ _ _
      | exact hostlerlaw10_lives.mono _
      | exact LeO.none _
      | refine LeO.ite ?_ ?_
      | refine LeO.bind ?_ (fun _ => ?_)
    · intro y0 y1 y2 y3
      unfold hostlerlaw10_StateRetired.j2
      repeat' first
      | (with_reducible exact ih0 _ _ _ _)
      | (with_reducible exact ih1 _ _ _ _ _)
      | (with_reducible exact ih2 _ _ _ _)
      | (with_reducible exact hostlerlaw10_lives.mono _)
      | (with_reducible exact LeO.refl _)
      | (with_reducible exact LeO.none _)
      | (with_reducible refine LeO.ite ?_ ?_)
      | (with_reducible refine LeO.bind ?_ (fun _ => ?_))
      | exact ih0 _ _ _ _
      | exact ih1 _ _ _ _ _
      | exact ih2 _ _ _ _
      | exact hostlerlaw10_lives.mono _
      | exact LeO.none _
      | refine LeO.ite ?_ ?_
      | refine LeO.bind ?_ (fun _ => ?_)
theorem hostlerlaw10_StateRetired.mono : ∀ a0 k, LeO (hostlerlaw10_StateRetired.f k a0) (hostlerlaw10_StateRetired.f (k + 1) a0) := by
  intro a0 k
  obtain ⟨ih0, ih1, ih2⟩ := hostlerlaw10_StateRetired.mono_l k
  unfold hostlerlaw10_StateRetired.f
  repeat' first
      | (with_reducible exact ih0 _ _ _ _)
      | (with_reducible exact ih1 _ _ _ _ _)
      | (with_reducible exact ih2 _ _ _ _)
      | (with_reducible exact hostlerlaw10_lives.mono _)
      | (with_reducible exact LeO.refl _)
      | (with_reducible exact LeO.none _)
      | (with_reducible refine LeO.ite ?_ ?_)
      | (with_reducible refine LeO.bind ?_ (fun _ => ?_))
      | exact ih0 _ _ _ _
      | exact ih1 _ _ _ _ _
      | exact ih2 _ _ _ _
      | exact hostlerlaw10_lives.mono _
      | exact LeO.none _
      | refine LeO.ite ?_ ?_
      | refine LeO.bind ?_ (fun _ => ?_)
set_option maxHeartbeats 8000000 in
set_option maxRecDepth 100000 in
theorem hostlerlaw10_StateRetired.calls (k : Nat) (A0 : Option Addr) (c0 : Nat) (l0 : List Int) (r : Bool) (w : World) (hr0 : Kd.C (Kd.int .i64) w A0 l0.length l0) (hc0 : l0.length ≤ c0) (h : hostlerlaw10_StateRetired.f k l0 = some r) :
    Calls Try.prog 8 #[.slice A0 l0.length c0] w fun e w' => e = .returned (.bool r) ∧ Below w.heap.size w w' := by
  have HR0 := Aside0.mk hr0
  have HC0 := Aside0.mk hc0
  clear hr0 hc0
  have HB := Aside0.mk (Below.refl w.heap.size w)
  have H : ((hostlerlaw10_lives.f k).bind fun t215 => (if t215 = true then (hostlerlaw10_StateRetired.l0 k l0 3 false 0) else (some false))) = some r := h
  clear h
  replace H := Option.bind_eq_some_iff.mp H
  obtain ⟨t215, A20, H⟩ := H
  replace H : (if t215 = true then (hostlerlaw10_StateRetired.l0 k l0 3 false 0) else (some false)) = some r := H
  have A2 := Aside0.mk A20
  clear A20
  by_cases c3 : t215 = true
  · subst c3
    have H1 : (hostlerlaw10_StateRetired.l0 k l0 3 false 0) = some r := by rw [if_pos rfl] at H; exact H
    clear H
    have H := H1
    clear H1
    have H' := Aside0.mk H
    clear H
    go_enter Try.func8, Try.ntmps8
    go_wp2_with (first | ((with_reducible refine gate_callee (f := 20) rfl ?_); refine goesL_ (some 8) rfl rfl Try.func20 (by kernel_rfl) rfl #[] rfl (by (try simp only [List.map_toArray, List.map_cons, List.map_nil]); first | done | rfl | (simp only [List.length_drop, List.length_take]; rfl)) ?_; (with_reducible refine (hostlerlaw10_lives.calls k  true _ A2.out).mono ?_); rintro e w4 ⟨rfl, hb⟩; refine ⟨_, rfl, ?_⟩; have n0_ := Aside0.mk (below_step (by repeat (first | (with_reducible first | exact HB.out | apply below_alloc | apply pw_below_drewN | apply below_drew1) | exact HB.out)) hb); clear HB; have HB := n0_; clear n0_; (try clear hb); (try clear hb2); (try clear hk); (try clear hi)))
    go_loopg [3, 4, 5] k (fun kq v3 v4 v5 w' => ∃ (x3_1 : Int) (x4_1 : Bool) (x5_1 : Int), v3 = .int .i64 x3_1 ∧ v4 = .bool x4_1 ∧ v5 = .int .i64 x5_1 ∧ Aside0 (hostlerlaw10_StateRetired.l0 kq l0 x3_1 x4_1 x5_1 = some r) ∧ Aside0 (kq ≤ k) ∧ Aside0 (Below w.heap.size w w'))
    case atStart => exact ⟨(3), (false), (0), (by first | rfl | (simp; done) | (simp [*]; done)), (by first | rfl | (simp; done) | (simp [*]; done)), (by first | rfl | (simp; done) | (simp [*]; done)), H', ⟨Nat.le_refl _⟩, ⟨by repeat (first | (with_reducible first | exact HB.out | apply below_alloc | apply pw_below_drewN | apply below_drew1) | exact HB.out)⟩⟩
    case round =>
      clear H'
      try clear c2
      try clear p2
      try clear c3
      obtain ⟨x3_1, x4_1, x5_1, rfl, rfl, rfl, HA, HK1, HB⟩ := hrel
      cases gk with
      | zero => exact absurd HA.out (by simp [hostlerlaw10_StateRetired.l0])
      | succ k1 =>
        have H := HA.out
        clear HA
        simp only [hostlerlaw10_StateRetired.l0] at H
        have HC5 := Aside0.mk H
        clear H
        go_upto_region 6 with (fail)
        go_cut [17] (fun v17 wc => ∃ (kq : Nat) (x17_4 : Bool), v17 = .bool x17_4 ∧ Aside0 (hostlerlaw10_StateRetired.j1 kq l0 x3_1 x4_1 x5_1 x17_4 = some r) ∧ Aside0 (kq ≤ k1) ∧ Aside0 (Below w.heap.size w wc))
        case first =>
          have H := HC5.out
          clear HC5
          by_cases c6 : x5_1 < (l0.length : Int)
          · rw [if_pos c6] at H
            have c6b0 : decide (x5_1 < (l0.length : Int)) = true := decide_eq_true c6
            clear c6
            (first | rw [c6b0] | (simp only [i64_w, i32_w]; rw [c6b0]) | skip)
            have H' := Aside0.mk H
            clear H
            go_wp2
            go_meet
            case rel => exact ⟨_, (decide (x5_1 < 40)), (by first | rfl | (simp; done) | (simp [*]; done)), H', ⟨by have := HK1.out; first | omega | exact Nat.le_refl _⟩, ⟨by repeat (first | (with_reducible first | exact HB.out | apply below_alloc | apply pw_below_drewN | apply below_drew1) | exact HB.out)⟩⟩
          · rw [if_neg c6] at H
            have c6b0 : decide (x5_1 < (l0.length : Int)) = false := decide_eq_false c6
            clear c6
            (first | rw [c6b0] | (simp only [i64_w, i32_w]; rw [c6b0]) | skip)
            have H' := Aside0.mk H
            clear H
            go_wp2
            go_meet
            case rel => exact ⟨_, (false), (by first | rfl | (simp; done) | (simp [*]; done)), H', ⟨by have := HK1.out; first | omega | exact Nat.le_refl _⟩, ⟨by repeat (first | (with_reducible first | exact HB.out | apply below_alloc | apply pw_below_drewN | apply below_drew1) | exact HB.out)⟩⟩
        case rest =>
          clear HC5
          try clear c2
          try clear p2
          try clear c3
          try clear c6
          try clear c6b0
          try clear p2
          obtain ⟨kq, x17_4, rfl, HA, HJ4, HB⟩ := hcut
          cases kq with
          | zero => exact absurd HA.out (by simp [hostlerlaw10_StateRetired.j1])
          | succ kj4 =>
            have H := HA.out
            clear HA
            simp only [hostlerlaw10_StateRetired.j1] at H
            by_cases c7 : x17_4 = true
            · subst c7
              have H1 : (if x4_1 = true then (hostlerlaw10_StateRetired.j2 kj4 l0 x3_1 true x5_1) else (if 0 ≤ x5_1 then (if x5_1 < (l0.length : Int) then (if (rd l0 x5_1) = 1 then (hostlerlaw10_StateRetired.j2 kj4 l0 x3_1 true x5_1) else (hostlerlaw10_StateRetired.j2 kj4 l0 x3_1 ((rd l0 x5_1) == 6) x5_1)) else (none)) else (none))) = some r := by rw [if_pos rfl] at H; exact H
              clear H
              have H := H1
              clear H1
              have HC8 := Aside0.mk H
              clear H
              go_upto_region 8 with (fail)
              go_cut [4] (fun v4 wc => ∃ (kq : Nat) (x4_7 : Bool), v4 = .bool x4_7 ∧ Aside0 (hostlerlaw10_StateRetired.j2 kq l0 x3_1 x4_7 x5_1 = some r) ∧ Aside0 (kq ≤ kj4) ∧ Aside0 (Below w.heap.size w wc))
              case first =>
                have H := HC8.out
                clear HC8
                by_cases c9 : x4_1 = true
                · subst c9
                  have H1 : (hostlerlaw10_StateRetired.j2 kj4 l0 x3_1 true x5_1) = some r := by rw [if_pos rfl] at H; exact H
                  clear H
                  have H := H1
                  clear H1
                  have H' := Aside0.mk H
                  clear H
                  go_wp2
                  go_meet
                  case rel => exact ⟨_, (true), (by first | rfl | (simp; done) | (simp [*]; done)), H', ⟨by have := HK1.out; have := HJ4.out; first | omega | exact Nat.le_refl _⟩, ⟨by repeat (first | (with_reducible first | exact HB.out | apply below_alloc | apply pw_below_drewN | apply below_drew1) | exact HB.out)⟩⟩
                · replace c9 := Bool.eq_false_iff.mpr c9
                  subst c9
                  have H1 : (if 0 ≤ x5_1 then (if x5_1 < (l0.length : Int) then (if (rd l0 x5_1) = 1 then (hostlerlaw10_StateRetired.j2 kj4 l0 x3_1 true x5_1) else (hostlerlaw10_StateRetired.j2 kj4 l0 x3_1 ((rd l0 x5_1) == 6) x5_1)) else (none)) else (none)) = some r := by rw [if_neg (show ¬ (false = true) by decide)] at H; exact H
                  clear H
                  have H := H1
                  clear H1
                  by_cases c10 : 0 ≤ x5_1
                  · rw [if_pos c10] at H
                    have c10b0 : decide (0 ≤ x5_1) = true := decide_eq_true c10
                    clear c10
                    (first | rw [c10b0] | (simp only [i64_w, i32_w]; rw [c10b0]) | skip)
                    by_cases c11 : x5_1 < (l0.length : Int)
                    · rw [if_pos c11] at H
                      have c11b0 : decide (x5_1 < (l0.length : Int)) = true := decide_eq_true c11
                      clear c11
                      by_cases c12 : (rd l0 x5_1) = 1
                      · rw [if_pos c12] at H
                        have c12b0 : ((rd l0 x5_1) == 1) = true := beq_iff_eq.mpr c12
                        have c12b1 : ((rd l0 x5_1) != 1) = false := bne_eq_false_iff_eq.mpr c12
                        clear c12
                        have H' := Aside0.mk H
                        clear H
                        have p216 : 0 ≤ (x5_1 : Int) := of_decide_eq_true (by first | (with_reducible assumption) | assumption)
                        have q216 : x5_1 < (l0.length : Int) := of_decide_eq_true (by first | (with_reducible assumption) | assumption)
                        obtain ⟨ad216, e216, hx216_0⟩ := Kd.at_int HR0.out x5_1 p216 q216
                        cases e216
                        replace hx216_0 := (HB.out.cell (World.block_lt_of_cell? w _ hx216_0)).trans hx216_0
                        replace p216 := eq_true p216
                        replace q216 := eq_true q216
                        go_wp2
                        go_meet
                        case rel => exact ⟨_, (true), (by first | rfl | (simp; done) | (simp [*]; done)), H', ⟨by have := HK1.out; have := HJ4.out; first | omega | exact Nat.le_refl _⟩, ⟨by repeat (first | (with_reducible first | exact HB.out | apply below_alloc | apply pw_below_drewN | apply below_drew1) | exact HB.out)⟩⟩
                      · rw [if_neg c12] at H
                        have c12b0 : ((rd l0 x5_1) == 1) = false := beq_eq_false_iff_ne.mpr c12
                        have c12b1 : ((rd l0 x5_1) != 1) = true := bne_iff_ne.mpr c12
                        have H' := Aside0.mk H
                        clear H
                        have p216 : 0 ≤ (x5_1 : Int) := of_decide_eq_true (by first | (with_reducible assumption) | assumption)
                        have q216 : x5_1 < (l0.length : Int) := of_decide_eq_true (by first | (with_reducible assumption) | assumption)
                        obtain ⟨ad216, e216, hx216_0⟩ := Kd.at_int HR0.out x5_1 p216 q216
                        cases e216
                        replace hx216_0 := (HB.out.cell (World.block_lt_of_cell? w _ hx216_0)).trans hx216_0
                        replace p216 := eq_true p216
                        replace q216 := eq_true q216
                        have p217 : 0 ≤ (x5_1 : Int) := of_decide_eq_true (by first | (with_reducible assumption) | assumption)
                        have q217 : x5_1 < (l0.length : Int) := of_decide_eq_true (by first | (with_reducible assumption) | assumption)
                        obtain ⟨ad217, e217, hx217_0⟩ := Kd.at_int HR0.out x5_1 p217 q217
                        obtain rfl : ad216 = ad217 := (by injection e217)
                        replace hx217_0 := (HB.out.cell (World.block_lt_of_cell? w _ hx217_0)).trans hx217_0
                        replace p217 := eq_true p217
                        replace q217 := eq_true q217
                        go_wp2
                        go_meet
                        case rel => exact ⟨_, (((rd l0 x5_1) == 6)), (by first | rfl | (simp; done) | (simp [*]; done)), H', ⟨by have := HK1.out; have := HJ4.out; first | omega | exact Nat.le_refl _⟩, ⟨by repeat (first | (with_reducible first | exact HB.out | apply below_alloc | apply pw_below_drewN | apply below_drew1) | exact HB.out)⟩⟩
                    · rw [if_neg c11] at H
                      exact absurd H (by simp)
                  · rw [if_neg c10] at H
                    exact absurd H (by simp)
              case rest =>
                clear HC8
                try clear c1
                try clear c2
                try clear p2
                try clear q2
                try clear hx2
                try clear c3
                try clear c6
                try clear c6b0
                try clear c7
                try clear c8
                try clear c9
                try clear c10
                try clear c10b0
                try clear c11
                try clear c11b0
                try clear c12
                try clear c12b0
                try clear c12b1
                try clear hx216_0
                try clear hx217_0
                try clear p2
                try clear p216
                try clear p217
                try clear q216
                try clear q217
                obtain ⟨kq, x4_7, rfl, HA, HJ7, HB⟩ := hcut
                cases kq with
                | zero => exact absurd HA.out (by simp [hostlerlaw10_StateRetired.j2])
                | succ kj7 =>
                  have H := HA.out
                  clear HA
                  simp only [hostlerlaw10_StateRetired.j2] at H
                  by_cases c13 : 0 ≤ x5_1
                  · rw [if_pos c13] at H
                    have c13b0 : decide (0 ≤ x5_1) = true := decide_eq_true c13
                    clear c13
                    by_cases c14 : x5_1 < (l0.length : Int)
                    · rw [if_pos c14] at H
                      have c14b0 : decide (x5_1 < (l0.length : Int)) = true := decide_eq_true c14
                      clear c14
                      replace H := Option.bind_eq_some_iff.mp H
                      obtain ⟨⟨t219, t220⟩, A150, H⟩ := H
                      replace H : (if x4_7 = true then (if t219 = 0 then (if t219 < 0 then (some false) else (if t219 > 3 then (some false) else (hostlerlaw10_StateRetired.l0 kj7 l0 t219 x4_7 (wrap64 (x5_1 + 1))))) else ((state_Serves.f t219).bind fun t221 => (if t221 = true then (some false) else ((state_Opens.f t219).bind fun t222 => (if t222 = true then (some false) else (if t219 < 0 then (some false) else (if t219 > 3 then (some false) else (hostlerlaw10_StateRetired.l0 kj7 l0 t219 x4_7 (wrap64 (x5_1 + 1)))))))))) else (if t219 = 3 then (if t219 = 0 then (if t219 < 0 then (some false) else (if t219 > 3 then (some false) else (hostlerlaw10_StateRetired.l0 kj7 l0 t219 x4_7 (wrap64 (x5_1 + 1))))) else ((state_Serves.f t219).bind fun t223 => (if t223 = true then (some false) else ((state_Opens.f t219).bind fun t224 => (if t224 = true then (some false) else (if t219 < 0 then (some false) else (if t219 > 3 then (some false) else (hostlerlaw10_StateRetired.l0 kj7 l0 t219 x4_7 (wrap64 (x5_1 + 1)))))))))) else (some false))) = some r := H
                      have A15 := Aside0.mk A150
                      clear A150
                      by_cases c16 : x4_7 = true
                      · subst c16
                        have H1 : (if t219 = 0 then (if t219 < 0 then (some false) else (if t219 > 3 then (some false) else (hostlerlaw10_StateRetired.l0 kj7 l0 t219 true (wrap64 (x5_1 + 1))))) else ((state_Serves.f t219).bind fun t221 => (if t221 = true then (some false) else ((state_Opens.f t219).bind fun t222 => (if t222 = true then (some false) else (if t219 < 0 then (some false) else (if t219 > 3 then (some false) else (hostlerlaw10_StateRetired.l0 kj7 l0 t219 true (wrap64 (x5_1 + 1)))))))))) = some r := by rw [if_pos rfl] at H; exact H
                        clear H
                        have H := H1
                        clear H1
                        by_cases c17 : t219 = 0
                        · rw [if_pos c17] at H
                          have c17b0 : (t219 == 0) = true := beq_iff_eq.mpr c17
                          have c17b1 : (t219 != 0) = false := bne_eq_false_iff_eq.mpr c17
                          clear c17
                          by_cases c18 : t219 < 0
                          · rw [if_pos c18] at H
                            have c18b0 : decide (t219 < 0) = true := decide_eq_true c18
                            clear c18
                            obtain rfl := Option.some.inj H
                            have p218 : 0 ≤ (x5_1 : Int) := of_decide_eq_true (by first | (with_reducible assumption) | assumption)
                            have q218 : x5_1 < (l0.length : Int) := of_decide_eq_true (by first | (with_reducible assumption) | assumption)
                            obtain ⟨ad218, e218, hx218_0⟩ := Kd.at_int HR0.out x5_1 p218 q218
                            cases e218
                            replace hx218_0 := (HB.out.cell (World.block_lt_of_cell? w _ hx218_0)).trans hx218_0
                            replace p218 := eq_true p218
                            replace q218 := eq_true q218
                            go_wp2_with (first | ((with_reducible refine gate_callee (f := 21) rfl ?_); refine goesL_ (some 41) rfl rfl Try.func21 (by kernel_rfl) rfl #[.int .i64 x3_1, .int .i64 (rd l0 x5_1)] rfl (by (try simp only [List.map_toArray, List.map_cons, List.map_nil]); first | done | rfl | (simp only [List.length_drop, List.length_take]; rfl)) ?_; (with_reducible refine (state_Next.calls x3_1 (rd l0 x5_1) t219 t220 _ A15.out).mono ?_); rintro e w19 ⟨rfl, hb⟩; refine ⟨_, rfl, ?_⟩; have n0_ := Aside0.mk (below_step (by repeat (first | (with_reducible first | exact HB.out | apply below_alloc | apply pw_below_drewN | apply below_drew1) | exact HB.out)) hb); clear HB; have HB := n0_; clear n0_; (try clear hb); (try clear hb2); (try clear hk); (try clear hi)))
                            go_ret
                            exact ⟨by first | rfl | (simp [errW_none, errW_some] <;> rfl) | (simp [*, errW_none, errW_some] <;> rfl), by repeat (first | (with_reducible first | exact HB.out | apply below_alloc | apply pw_below_drewN | apply below_drew1) | exact HB.out)⟩
                          · rw [if_neg c18] at H
                            have c18b0 : decide (t219 < 0) = false := decide_eq_false c18
                            clear c18
                            by_cases c20 : t219 > 3
                            · rw [if_pos c20] at H
                              have c20b0 : decide (3 < t219) = true := decide_eq_true c20
                              clear c20
                              obtain rfl := Option.some.inj H
                              have p218 : 0 ≤ (x5_1 : Int) := of_decide_eq_true (by first | (with_reducible assumption) | assumption)
                              have q218 : x5_1 < (l0.length : Int) := of_decide_eq_true (by first | (with_reducible assumption) | assumption)
                              obtain ⟨ad218, e218, hx218_0⟩ := Kd.at_int HR0.out x5_1 p218 q218
                              cases e218
                              replace hx218_0 := (HB.out.cell (World.block_lt_of_cell? w _ hx218_0)).trans hx218_0
                              replace p218 := eq_true p218
                              replace q218 := eq_true q218
                              go_wp2_with (first | ((with_reducible refine gate_callee (f := 21) rfl ?_); refine goesL_ (some 41) rfl rfl Try.func21 (by kernel_rfl) rfl #[.int .i64 x3_1, .int .i64 (rd l0 x5_1)] rfl (by (try simp only [List.map_toArray, List.map_cons, List.map_nil]); first | done | rfl | (simp only [List.length_drop, List.length_take]; rfl)) ?_; (with_reducible refine (state_Next.calls x3_1 (rd l0 x5_1) t219 t220 _ A15.out).mono ?_); rintro e w21 ⟨rfl, hb⟩; refine ⟨_, rfl, ?_⟩; have n0_ := Aside0.mk (below_step (by repeat (first | (with_reducible first | exact HB.out | apply below_alloc | apply pw_below_drewN | apply below_drew1) | exact HB.out)) hb); clear HB; have HB := n0_; clear n0_; (try clear hb); (try clear hb2); (try clear hk); (try clear hi)))
                              go_ret
                              exact ⟨by first | rfl | (simp [errW_none, errW_some] <;> rfl) | (simp [*, errW_none, errW_some] <;> rfl), by repeat (first | (with_reducible first | exact HB.out | apply below_alloc | apply pw_below_drewN | apply below_drew1) | exact HB.out)⟩
                            · rw [if_neg c20] at H
                              have c20b0 : decide (3 < t219) = false := decide_eq_false c20
                              clear c20
                              have H' := Aside0.mk H
                              clear H
                              have p218 : 0 ≤ (x5_1 : Int) := of_decide_eq_true (by first | (with_reducible assumption) | assumption)
                              have q218 : x5_1 < (l0.length : Int) := of_decide_eq_true (by first | (with_reducible assumption) | assumption)
                              obtain ⟨ad218, e218, hx218_0⟩ := Kd.at_int HR0.out x5_1 p218 q218
                              cases e218
                              replace hx218_0 := (HB.out.cell (World.block_lt_of_cell? w _ hx218_0)).trans hx218_0
                              replace p218 := eq_true p218
                              replace q218 := eq_true q218
                              go_wp2_with (first | ((with_reducible refine gate_callee (f := 21) rfl ?_); refine goesL_ (some 41) rfl rfl Try.func21 (by kernel_rfl) rfl #[.int .i64 x3_1, .int .i64 (rd l0 x5_1)] rfl (by (try simp only [List.map_toArray, List.map_cons, List.map_nil]); first | done | rfl | (simp only [List.length_drop, List.length_take]; rfl)) ?_; (with_reducible refine (state_Next.calls x3_1 (rd l0 x5_1) t219 t220 _ A15.out).mono ?_); rintro e w22 ⟨rfl, hb⟩; refine ⟨_, rfl, ?_⟩; have n0_ := Aside0.mk (below_step (by repeat (first | (with_reducible first | exact HB.out | apply below_alloc | apply pw_below_drewN | apply below_drew1) | exact HB.out)) hb); clear HB; have HB := n0_; clear n0_; (try clear hb); (try clear hb2); (try clear hk); (try clear hi)))
                              go_roundg kj7
                              case measure => have := HK1.out; have := HJ4.out; have := HJ7.out; omega
                              case rel => exact ⟨(t219), (true), (wrap64 (x5_1 + 1)), (by first | rfl | (simp; done) | (simp [*]; done)), (by first | rfl | (simp; done) | (simp [*]; done)), (by first | rfl | (simp; done) | (simp [*]; done)), H', ⟨by have := HK1.out; have := HJ4.out; have := HJ7.out; omega⟩, ⟨by repeat (first | (with_reducible first | exact HB.out | apply below_alloc | apply pw_below_drewN | apply below_drew1) | exact HB.out)⟩⟩
                        · rw [if_neg c17] at H
                          have c17b0 : (t219 == 0) = false := beq_eq_false_iff_ne.mpr c17
                          have c17b1 : (t219 != 0) = true := bne_iff_ne.mpr c17
                          replace H := Option.bind_eq_some_iff.mp H
                          obtain ⟨t221, A230, H⟩ := H
                          replace H : (if t221 = true then (some false) else ((state_Opens.f t219).bind fun t222 => (if t222 = true then (some false) else (if t219 < 0 then (some false) else (if t219 > 3 then (some false) else (hostlerlaw10_StateRetired.l0 kj7 l0 t219 true (wrap64 (x5_1 + 1)))))))) = some r := H
                          have A23 := Aside0.mk A230
                          clear A230
                          by_cases c24 : t221 = true
                          · subst c24
                            have H1 : (some false) = some r := by rw [if_pos rfl] at H; exact H
                            clear H
                            have H := H1
                            clear H1
                            obtain rfl := Option.some.inj H
                            have p218 : 0 ≤ (x5_1 : Int) := of_decide_eq_true (by first | (with_reducible assumption) | assumption)
                            have q218 : x5_1 < (l0.length : Int) := of_decide_eq_true (by first | (with_reducible assumption) | assumption)
                            obtain ⟨ad218, e218, hx218_0⟩ := Kd.at_int HR0.out x5_1 p218 q218
                            cases e218
                            replace hx218_0 := (HB.out.cell (World.block_lt_of_cell? w _ hx218_0)).trans hx218_0
                            replace p218 := eq_true p218
                            replace q218 := eq_true q218
                            go_wp2_with (first | ((with_reducible refine gate_callee (f := 21) rfl ?_); refine goesL_ (some 41) rfl rfl Try.func21 (by kernel_rfl) rfl #[.int .i64 x3_1, .int .i64 (rd l0 x5_1)] rfl (by (try simp only [List.map_toArray, List.map_cons, List.map_nil]); first | done | rfl | (simp only [List.length_drop, List.length_take]; rfl)) ?_; (with_reducible refine (state_Next.calls x3_1 (rd l0 x5_1) t219 t220 _ A15.out).mono ?_); rintro e w25 ⟨rfl, hb⟩; refine ⟨_, rfl, ?_⟩; have n0_ := Aside0.mk (below_step (by repeat (first | (with_reducible first | exact HB.out | apply below_alloc | apply pw_below_drewN | apply below_drew1) | exact HB.out)) hb); clear HB; have HB := n0_; clear n0_; (try clear hb); (try clear hb2); (try clear hk); (try clear hi)) | (go_at_call 23; (with_reducible refine (state_Serves.calls t219 true _ A23.out).mono ?_); rintro e w' ⟨rfl, ⟨nd, rfl⟩⟩))
                            go_ret
                            exact ⟨by first | rfl | (simp [errW_none, errW_some] <;> rfl) | (simp [*, errW_none, errW_some] <;> rfl), by repeat (first | (with_reducible first | exact HB.out | apply below_alloc | apply pw_below_drewN | apply below_drew1) | exact HB.out)⟩
                          · replace c24 := Bool.eq_false_iff.mpr c24
                            subst c24
                            have H1 : ((state_Opens.f t219).bind fun t222 => (if t222 = true then (some false) else (if t219 < 0 then (some false) else (if t219 > 3 then (some false) else (hostlerlaw10_StateRetired.l0 kj7 l0 t219 true (wrap64 (x5_1 + 1))))))) = some r := by rw [if_neg (show ¬ (false = true) by decide)] at H; exact H
                            clear H
                            have H := H1
                            clear H1
                            replace H := Option.bind_eq_some_iff.mp H
                            obtain ⟨t222, A260, H⟩ := H
                            replace H : (if t222 = true then (some false) else (if t219 < 0 then (some false) else (if t219 > 3 then (some false) else (hostlerlaw10_StateRetired.l0 kj7 l0 t219 true (wrap64 (x5_1 + 1)))))) = some r := H
                            have A26 := Aside0.mk A260
                            clear A260
                            by_cases c27 : t222 = true
                            · subst c27
                              have H1 : (some false) = some r := by rw [if_pos rfl] at H; exact H
                              clear H
                              have H := H1
                              clear H1
                              obtain rfl := Option.some.inj H
                              have p218 : 0 ≤ (x5_1 : Int) := of_decide_eq_true (by first | (with_reducible assumption) | assumption)
                              have q218 : x5_1 < (l0.length : Int) := of_decide_eq_true (by first | (with_reducible assumption) | assumption)
                              obtain ⟨ad218, e218, hx218_0⟩ := Kd.at_int HR0.out x5_1 p218 q218
                              cases e218
                              replace hx218_0 := (HB.out.cell (World.block_lt_of_cell? w _ hx218_0)).trans hx218_0
                              replace p218 := eq_true p218
                              replace q218 := eq_true q218
                              go_wp2_with (first | ((with_reducible refine gate_callee (f := 21) rfl ?_); refine goesL_ (some 41) rfl rfl Try.func21 (by kernel_rfl) rfl #[.int .i64 x3_1, .int .i64 (rd l0 x5_1)] rfl (by (try simp only [List.map_toArray, List.map_cons, List.map_nil]); first | done | rfl | (simp only [List.length_drop, List.length_take]; rfl)) ?_; (with_reducible refine (state_Next.calls x3_1 (rd l0 x5_1) t219 t220 _ A15.out).mono ?_); rintro e w28 ⟨rfl, hb⟩; refine ⟨_, rfl, ?_⟩; have n0_ := Aside0.mk (below_step (by repeat (first | (with_reducible first | exact HB.out | apply below_alloc | apply pw_below_drewN | apply below_drew1) | exact HB.out)) hb); clear HB; have HB := n0_; clear n0_; (try clear hb); (try clear hb2); (try clear hk); (try clear hi)) | (go_at_call 23; (with_reducible refine (state_Serves.calls t219 false _ A23.out).mono ?_); rintro e w' ⟨rfl, ⟨nd, rfl⟩⟩) | (go_at_call 24; (with_reducible refine (state_Opens.calls t219 true _ A26.out).mono ?_); rintro e w' ⟨rfl, ⟨nd, rfl⟩⟩))
                              go_ret
                              exact ⟨by first | rfl | (simp [errW_none, errW_some] <;> rfl) | (simp [*, errW_none, errW_some] <;> rfl), by repeat (first | (with_reducible first | exact HB.out | apply below_alloc | apply pw_below_drewN | apply below_drew1) | exact HB.out)⟩
                            · replace c27 := Bool.eq_false_iff.mpr c27
                              subst c27
                              have H1 : (if t219 < 0 then (some false) else (if t219 > 3 then (some false) else (hostlerlaw10_StateRetired.l0 kj7 l0 t219 true (wrap64 (x5_1 + 1))))) = some r := by rw [if_neg (show ¬ (false = true) by decide)] at H; exact H
                              clear H
                              have H := H1
                              clear H1
                              by_cases c29 : t219 < 0
                              · rw [if_pos c29] at H
                                have c29b0 : decide (t219 < 0) = true := decide_eq_true c29
                                clear c29
                                obtain rfl := Option.some.inj H
                                have p218 : 0 ≤ (x5_1 : Int) := of_decide_eq_true (by first | (with_reducible assumption) | assumption)
                                have q218 : x5_1 < (l0.length : Int) := of_decide_eq_true (by first | (with_reducible assumption) | assumption)
                                obtain ⟨ad218, e218, hx218_0⟩ := Kd.at_int HR0.out x5_1 p218 q218
                                cases e218
                                replace hx218_0 := (HB.out.cell (World.block_lt_of_cell? w _ hx218_0)).trans hx218_0
                                replace p218 := eq_true p218
                                replace q218 := eq_true q218
                                go_wp2_with (first | ((with_reducible refine gate_callee (f := 21) rfl ?_); refine goesL_ (some 41) rfl rfl Try.func21 (by kernel_rfl) rfl #[.int .i64 x3_1, .int .i64 (rd l0 x5_1)] rfl (by (try simp only [List.map_toArray, List.map_cons, List.map_nil]); first | done | rfl | (simp only [List.length_drop, List.length_take]; rfl)) ?_; (with_reducible refine (state_Next.calls x3_1 (rd l0 x5_1) t219 t220 _ A15.out).mono ?_); rintro e w30 ⟨rfl, hb⟩; refine ⟨_, rfl, ?_⟩; have n0_ := Aside0.mk (below_step (by repeat (first | (with_reducible first | exact HB.out | apply below_alloc | apply pw_below_drewN | apply below_drew1) | exact HB.out)) hb); clear HB; have HB := n0_; clear n0_; (try clear hb); (try clear hb2); (try clear hk); (try clear hi)) | (go_at_call 23; (with_reducible refine (state_Serves.calls t219 false _ A23.out).mono ?_); rintro e w' ⟨rfl, ⟨nd, rfl⟩⟩) | (go_at_call 24; (with_reducible refine (state_Opens.calls t219 false _ A26.out).mono ?_); rintro e w' ⟨rfl, ⟨nd, rfl⟩⟩))
                                go_ret
                                exact ⟨by first | rfl | (simp [errW_none, errW_some] <;> rfl) | (simp [*, errW_none, errW_some] <;> rfl), by repeat (first | (with_reducible first | exact HB.out | apply below_alloc | apply pw_below_drewN | apply below_drew1) | exact HB.out)⟩
                              · rw [if_neg c29] at H
                                have c29b0 : decide (t219 < 0) = false := decide_eq_false c29
                                clear c29
                                by_cases c31 : t219 > 3
                                · rw [if_pos c31] at H
                                  have c31b0 : decide (3 < t219) = true := decide_eq_true c31
                                  clear c31
                                  obtain rfl := Option.some.inj H
                                  have p218 : 0 ≤ (x5_1 : Int) := of_decide_eq_true (by first | (with_reducible assumption) | assumption)
                                  have q218 : x5_1 < (l0.length : Int) := of_decide_eq_true (by first | (with_reducible assumption) | assumption)
                                  obtain ⟨ad218, e218, hx218_0⟩ := Kd.at_int HR0.out x5_1 p218 q218
                                  cases e218
                                  replace hx218_0 := (HB.out.cell (World.block_lt_of_cell? w _ hx218_0)).trans hx218_0
                                  replace p218 := eq_true p218
                                  replace q218 := eq_true q218
                                  go_wp2_with (first | ((with_reducible refine gate_callee (f := 21) rfl ?_); refine goesL_ (some 41) rfl rfl Try.func21 (by kernel_rfl) rfl #[.int .i64 x3_1, .int .i64 (rd l0 x5_1)] rfl (by (try simp only [List.map_toArray, List.map_cons, List.map_nil]); first | done | rfl | (simp only [List.length_drop, List.length_take]; rfl)) ?_; (with_reducible refine (state_Next.calls x3_1 (rd l0 x5_1) t219 t220 _ A15.out).mono ?_); rintro e w32 ⟨rfl, hb⟩; refine ⟨_, rfl, ?_⟩; have n0_ := Aside0.mk (below_step (by repeat (first | (with_reducible first | exact HB.out | apply below_alloc | apply pw_below_drewN | apply below_drew1) | exact HB.out)) hb); clear HB; have HB := n0_; clear n0_; (try clear hb); (try clear hb2); (try clear hk); (try clear hi)) | (go_at_call 23; (with_reducible refine (state_Serves.calls t219 false _ A23.out).mono ?_); rintro e w' ⟨rfl, ⟨nd, rfl⟩⟩) | (go_at_call 24; (with_reducible refine (state_Opens.calls t219 false _ A26.out).mono ?_); rintro e w' ⟨rfl, ⟨nd, rfl⟩⟩))
                                  go_ret
                                  exact ⟨by first | rfl | (simp [errW_none, errW_some] <;> rfl) | (simp [*, errW_none, errW_some] <;> rfl), by repeat (first | (with_reducible first | exact HB.out | apply below_alloc | apply pw_below_drewN | apply below_drew1) | exact HB.out)⟩
                                · rw [if_neg c31] at H
                                  have c31b0 : decide (3 < t219) = false := decide_eq_false c31
                                  clear c31
                                  have H' := Aside0.mk H
                                  clear H
                                  have p218 : 0 ≤ (x5_1 : Int) := of_decide_eq_true (by first | (with_reducible assumption) | assumption)
                                  have q218 : x5_1 < (l0.length : Int) := of_decide_eq_true (by first | (with_reducible assumption) | assumption)
                                  obtain ⟨ad218, e218, hx218_0⟩ := Kd.at_int HR0.out x5_1 p218 q218
                                  cases e218
                                  replace hx218_0 := (HB.out.cell (World.block_lt_of_cell? w _ hx218_0)).trans hx218_0
                                  replace p218 := eq_true p218
                                  replace q218 := eq_true q218
                                  go_wp2_with (first | ((with_reducible refine gate_callee (f := 21) rfl ?_); refine goesL_ (some 41) rfl rfl Try.func21 (by kernel_rfl) rfl #[.int .i64 x3_1, .int .i64 (rd l0 x5_1)] rfl (by (try simp only [List.map_toArray, List.map_cons, List.map_nil]); first | done | rfl | (simp only [List.length_drop, List.length_take]; rfl)) ?_; (with_reducible refine (state_Next.calls x3_1 (rd l0 x5_1) t219 t220 _ A15.out).mono ?_); rintro e w33 ⟨rfl, hb⟩; refine ⟨_, rfl, ?_⟩; have n0_ := Aside0.mk (below_step (by repeat (first | (with_reducible first | exact HB.out | apply below_alloc | apply pw_below_drewN | apply below_drew1) | exact HB.out)) hb); clear HB; have HB := n0_; clear n0_; (try clear hb); (try clear hb2); (try clear hk); (try clear hi)) | (go_at_call 23; (with_reducible refine (state_Serves.calls t219 false _ A23.out).mono ?_); rintro e w' ⟨rfl, ⟨nd, rfl⟩⟩) | (go_at_call 24; (with_reducible refine (state_Opens.calls t219 false _ A26.out).mono ?_); rintro e w' ⟨rfl, ⟨nd, rfl⟩⟩))
                                  go_roundg kj7
                                  case measure => have := HK1.out; have := HJ4.out; have := HJ7.out; omega
                                  case rel => exact ⟨(t219), (true), (wrap64 (x5_1 + 1)), (by first | rfl | (simp; done) | (simp [*]; done)), (by first | rfl | (simp; done) | (simp [*]; done)), (by first | rfl | (simp; done) | (simp [*]; done)), H', ⟨by have := HK1.out; have := HJ4.out; have := HJ7.out; omega⟩, ⟨by repeat (first | (with_reducible first | exact HB.out | apply below_alloc | apply pw_below_drewN | apply below_drew1) | exact HB.out)⟩⟩
                      · replace c16 := Bool.eq_false_iff.mpr c16
                        subst c16
                        have H1 : (if t219 = 3 then (if t219 = 0 then (if t219 < 0 then (some false) else (if t219 > 3 then (some false) else (hostlerlaw10_StateRetired.l0 kj7 l0 t219 false (wrap64 (x5_1 + 1))))) else ((state_Serves.f t219).bind fun t223 => (if t223 = true then (some false) else ((state_Opens.f t219).bind fun t224 => (if t224 = true then (some false) else (if t219 < 0 then (some false) else (if t219 > 3 then (some false) else (hostlerlaw10_StateRetired.l0 kj7 l0 t219 false (wrap64 (x5_1 + 1)))))))))) else (some false)) = some r := by rw [if_neg (show ¬ (false = true) by decide)] at H; exact H
                        clear H
                        have H := H1
                        clear H1
                        by_cases c34 : t219 = 3
                        · rw [if_pos c34] at H
                          have c34b0 : (t219 == 3) = true := beq_iff_eq.mpr c34
                          have c34b1 : (t219 != 3) = false := bne_eq_false_iff_eq.mpr c34
                          clear c34
                          by_cases c35 : t219 = 0
                          · rw [if_pos c35] at H
                            have c35b0 : (t219 == 0) = true := beq_iff_eq.mpr c35
                            have c35b1 : (t219 != 0) = false := bne_eq_false_iff_eq.mpr c35
                            clear c35
                            by_cases c36 : t219 < 0
                            · rw [if_pos c36] at H
                              have c36b0 : decide (t219 < 0) = true := decide_eq_true c36
                              clear c36
                              obtain rfl := Option.some.inj H
                              have p218 : 0 ≤ (x5_1 : Int) := of_decide_eq_true (by first | (with_reducible assumption) | assumption)
                              have q218 : x5_1 < (l0.length : Int) := of_decide_eq_true (by first | (with_reducible assumption) | assumption)
                              obtain ⟨ad218, e218, hx218_0⟩ := Kd.at_int HR0.out x5_1 p218 q218
                              cases e218
                              replace hx218_0 := (HB.out.cell (World.block_lt_of_cell? w _ hx218_0)).trans hx218_0
                              replace p218 := eq_true p218
                              replace q218 := eq_true q218
                              go_wp2_with (first | ((with_reducible refine gate_callee (f := 21) rfl ?_); refine goesL_ (some 41) rfl rfl Try.func21 (by kernel_rfl) rfl #[.int .i64 x3_1, .int .i64 (rd l0 x5_1)] rfl (by (try simp only [List.map_toArray, List.map_cons, List.map_nil]); first | done | rfl | (simp only [List.length_drop, List.length_take]; rfl)) ?_; (with_reducible refine (state_Next.calls x3_1 (rd l0 x5_1) t219 t220 _ A15.out).mono ?_); rintro e w37 ⟨rfl, hb⟩; refine ⟨_, rfl, ?_⟩; have n0_ := Aside0.mk (below_step (by repeat (first | (with_reducible first | exact HB.out | apply below_alloc | apply pw_below_drewN | apply below_drew1) | exact HB.out)) hb); clear HB; have HB := n0_; clear n0_; (try clear hb); (try clear hb2); (try clear hk); (try clear hi)))
                              go_ret
                              exact ⟨by first | rfl | (simp [errW_none, errW_some] <;> rfl) | (simp [*, errW_none, errW_some] <;> rfl), by repeat (first | (with_reducible first | exact HB.out | apply below_alloc | apply pw_below_drewN | apply below_drew1) | exact HB.out)⟩
                            · rw [if_neg c36] at H
                              have c36b0 : decide (t219 < 0) = false := decide_eq_false c36
                              clear c36
                              by_cases c38 : t219 > 3
                              · rw [if_pos c38] at H
                                have c38b0 : decide (3 < t219) = true := decide_eq_true c38
                                clear c38
                                obtain rfl := Option.some.inj H
                                have p218 : 0 ≤ (x5_1 : Int) := of_decide_eq_true (by first | (with_reducible assumption) | assumption)
                                have q218 : x5_1 < (l0.length : Int) := of_decide_eq_true (by first | (with_reducible assumption) | assumption)
                                obtain ⟨ad218, e218, hx218_0⟩ := Kd.at_int HR0.out x5_1 p218 q218
                                cases e218
                                replace hx218_0 := (HB.out.cell (World.block_lt_of_cell? w _ hx218_0)).trans hx218_0
                                replace p218 := eq_true p218
                                replace q218 := eq_true q218
                                go_wp2_with (first | ((with_reducible refine gate_callee (f := 21) rfl ?_); refine goesL_ (some 41) rfl rfl Try.func21 (by kernel_rfl) rfl #[.int .i64 x3_1, .int .i64 (rd l0 x5_1)] rfl (by (try simp only [List.map_toArray, List.map_cons, List.map_nil]); first | done | rfl | (simp only [List.length_drop, List.length_take]; rfl)) ?_; (with_reducible refine (state_Next.calls x3_1 (rd l0 x5_1) t219 t220 _ A15.out).mono ?_); rintro e w39 ⟨rfl, hb⟩; refine ⟨_, rfl, ?_⟩; have n0_ := Aside0.mk (below_step (by repeat (first | (with_reducible first | exact HB.out | apply below_alloc | apply pw_below_drewN | apply below_drew1) | exact HB.out)) hb); clear HB; have HB := n0_; clear n0_; (try clear hb); (try clear hb2); (try clear hk); (try clear hi)))
                                go_ret
                                exact ⟨by first | rfl | (simp [errW_none, errW_some] <;> rfl) | (simp [*, errW_none, errW_some] <;> rfl), by repeat (first | (with_reducible first | exact HB.out | apply below_alloc | apply pw_below_drewN | apply below_drew1) | exact HB.out)⟩
                              · rw [if_neg c38] at H
                                have c38b0 : decide (3 < t219) = false := decide_eq_false c38
                                clear c38
                                have H' := Aside0.mk H
                                clear H
                                have p218 : 0 ≤ (x5_1 : Int) := of_decide_eq_true (by first | (with_reducible assumption) | assumption)
                                have q218 : x5_1 < (l0.length : Int) := of_decide_eq_true (by first | (with_reducible assumption) | assumption)
                                obtain ⟨ad218, e218, hx218_0⟩ := Kd.at_int HR0.out x5_1 p218 q218
                                cases e218
                                replace hx218_0 := (HB.out.cell (World.block_lt_of_cell? w _ hx218_0)).trans hx218_0
                                replace p218 := eq_true p218
                                replace q218 := eq_true q218
                                go_wp2_with (first | ((with_reducible refine gate_callee (f := 21) rfl ?_); refine goesL_ (some 41) rfl rfl Try.func21 (by kernel_rfl) rfl #[.int .i64 x3_1, .int .i64 (rd l0 x5_1)] rfl (by (try simp only [List.map_toArray, List.map_cons, List.map_nil]); first | done | rfl | (simp only [List.length_drop, List.length_take]; rfl)) ?_; (with_reducible refine (state_Next.calls x3_1 (rd l0 x5_1) t219 t220 _ A15.out).mono ?_); rintro e w40 ⟨rfl, hb⟩; refine ⟨_, rfl, ?_⟩; have n0_ := Aside0.mk (below_step (by repeat (first | (with_reducible first | exact HB.out | apply below_alloc | apply pw_below_drewN | apply below_drew1) | exact HB.out)) hb); clear HB; have HB := n0_; clear n0_; (try clear hb); (try clear hb2); (try clear hk); (try clear hi)))
                                go_roundg kj7
                                case measure => have := HK1.out; have := HJ4.out; have := HJ7.out; omega
                                case rel => exact ⟨(t219), (false), (wrap64 (x5_1 + 1)), (by first | rfl | (simp; done) | (simp [*]; done)), (by first | rfl | (simp; done) | (simp [*]; done)), (by first | rfl | (simp; done) | (simp [*]; done)), H', ⟨by have := HK1.out; have := HJ4.out; have := HJ7.out; omega⟩, ⟨by repeat (first | (with_reducible first | exact HB.out | apply below_alloc | apply pw_below_drewN | apply below_drew1) | exact HB.out)⟩⟩
                          · rw [if_neg c35] at H
                            have c35b0 : (t219 == 0) = false := beq_eq_false_iff_ne.mpr c35
                            have c35b1 : (t219 != 0) = true := bne_iff_ne.mpr c35
                            replace H := Option.bind_eq_some_iff.mp H
                            obtain ⟨t223, A410, H⟩ := H
                            replace H : (if t223 = true then (some false) else ((state_Opens.f t219).bind fun t224 => (if t224 = true then (some false) else (if t219 < 0 then (some false) else (if t219 > 3 then (some false) else (hostlerlaw10_StateRetired.l0 kj7 l0 t219 false (wrap64 (x5_1 + 1)))))))) = some r := H
                            have A41 := Aside0.mk A410
                            clear A410
                            by_cases c42 : t223 = true
                            · subst c42
                              have H1 : (some false) = some r := by rw [if_pos rfl] at H; exact H
                              clear H
                              have H := H1
                              clear H1
                              obtain rfl := Option.some.inj H
                              have p218 : 0 ≤ (x5_1 : Int) := of_decide_eq_true (by first | (with_reducible assumption) | assumption)
                              have q218 : x5_1 < (l0.length : Int) := of_decide_eq_true (by first | (with_reducible assumption) | assumption)
                              obtain ⟨ad218, e218, hx218_0⟩ := Kd.at_int HR0.out x5_1 p218 q218
                              cases e218
                              replace hx218_0 := (HB.out.cell (World.block_lt_of_cell? w _ hx218_0)).trans hx218_0
                              replace p218 := eq_true p218
                              replace q218 := eq_true q218
                              go_wp2_with (first | ((with_reducible refine gate_callee (f := 21) rfl ?_); refine goesL_ (some 41) rfl rfl Try.func21 (by kernel_rfl) rfl #[.int .i64 x3_1, .int .i64 (rd l0 x5_1)] rfl (by (try simp only [List.map_toArray, List.map_cons, List.map_nil]); first | done | rfl | (simp only [List.length_drop, List.length_take]; rfl)) ?_; (with_reducible refine (state_Next.calls x3_1 (rd l0 x5_1) t219 t220 _ A15.out).mono ?_); rintro e w43 ⟨rfl, hb⟩; refine ⟨_, rfl, ?_⟩; have n0_ := Aside0.mk (below_step (by repeat (first | (with_reducible first | exact HB.out | apply below_alloc | apply pw_below_drewN | apply below_drew1) | exact HB.out)) hb); clear HB; have HB := n0_; clear n0_; (try clear hb); (try clear hb2); (try clear hk); (try clear hi)) | (go_at_call 23; (with_reducible refine (state_Serves.calls t219 true _ A41.out).mono ?_); rintro e w' ⟨rfl, ⟨nd, rfl⟩⟩))
                              go_ret
                              exact ⟨by first | rfl | (simp [errW_none, errW_some] <;> rfl) | (simp [*, errW_none, errW_some] <;> rfl), by repeat (first | (with_reducible first | exact HB.out | apply below_alloc | apply pw_below_drewN | apply below_drew1) | exact HB.out)⟩
                            · replace c42 := Bool.eq_false_iff.mpr c42
                              subst c42
                              have H1 : ((state_Opens.f t219).bind fun t224 => (if t224 = true then (some false) else (if t219 < 0 then (some false) else (if t219 > 3 then (some false) else (hostlerlaw10_StateRetired.l0 kj7 l0 t219 false (wrap64 (x5_1 + 1))))))) = some r := by rw [if_neg (show ¬ (false = true) by decide)] at H; exact H
                              clear H
                              have H := H1
                              clear H1
                              replace H := Option.bind_eq_some_iff.mp H
                              obtain ⟨t224, A440, H⟩ := H
                              replace H : (if t224 = true then (some false) else (if t219 < 0 then (some false) else (if t219 > 3 then (some false) else (hostlerlaw10_StateRetired.l0 kj7 l0 t219 false (wrap64 (x5_1 + 1)))))) = some r := H
                              have A44 := Aside0.mk A440
                              clear A440
                              by_cases c45 : t224 = true
                              · subst c45
                                have H1 : (some false) = some r := by rw [if_pos rfl] at H; exact H
                                clear H
                                have H := H1
                                clear H1
                                obtain rfl := Option.some.inj H
                                have p218 : 0 ≤ (x5_1 : Int) := of_decide_eq_true (by first | (with_reducible assumption) | assumption)
                                have q218 : x5_1 < (l0.length : Int) := of_decide_eq_true (by first | (with_reducible assumption) | assumption)
                                obtain ⟨ad218, e218, hx218_0⟩ := Kd.at_int HR0.out x5_1 p218 q218
                                cases e218
                                replace hx218_0 := (HB.out.cell (World.block_lt_of_cell? w _ hx218_0)).trans hx218_0
                                replace p218 := eq_true p218
                                replace q218 := eq_true q218
                                go_wp2_with (first | ((with_reducible refine gate_callee (f := 21) rfl ?_); refine goesL_ (some 41) rfl rfl Try.func21 (by kernel_rfl) rfl #[.int .i64 x3_1, .int .i64 (rd l0 x5_1)] rfl (by (try simp only [List.map_toArray, List.map_cons, List.map_nil]); first | done | rfl | (simp only [List.length_drop, List.length_take]; rfl)) ?_; (with_reducible refine (state_Next.calls x3_1 (rd l0 x5_1) t219 t220 _ A15.out).mono ?_); rintro e w46 ⟨rfl, hb⟩; refine ⟨_, rfl, ?_⟩; have n0_ := Aside0.mk (below_step (by repeat (first | (with_reducible first | exact HB.out | apply below_alloc | apply pw_below_drewN | apply below_drew1) | exact HB.out)) hb); clear HB; have HB := n0_; clear n0_; (try clear hb); (try clear hb2); (try clear hk); (try clear hi)) | (go_at_call 23; (with_reducible refine (state_Serves.calls t219 false _ A41.out).mono ?_); rintro e w' ⟨rfl, ⟨nd, rfl⟩⟩) | (go_at_call 24; (with_reducible refine (state_Opens.calls t219 true _ A44.out).mono ?_); rintro e w' ⟨rfl, ⟨nd, rfl⟩⟩))
                                go_ret
                                exact ⟨by first | rfl | (simp [errW_none, errW_some] <;> rfl) | (simp [*, errW_none, errW_some] <;> rfl), by repeat (first | (with_reducible first | exact HB.out | apply below_alloc | apply pw_below_drewN | apply below_drew1) | exact HB.out)⟩
                              · replace c45 := Bool.eq_false_iff.mpr c45
                                subst c45
                                have H1 : (if t219 < 0 then (some false) else (if t219 > 3 then (some false) else (hostlerlaw10_StateRetired.l0 kj7 l0 t219 false (wrap64 (x5_1 + 1))))) = some r := by rw [if_neg (show ¬ (false = true) by decide)] at H; exact H
                                clear H
                                have H := H1
                                clear H1
                                by_cases c47 : t219 < 0
                                · rw [if_pos c47] at H
                                  have c47b0 : decide (t219 < 0) = true := decide_eq_true c47
                                  clear c47
                                  obtain rfl := Option.some.inj H
                                  have p218 : 0 ≤ (x5_1 : Int) := of_decide_eq_true (by first | (with_reducible assumption) | assumption)
                                  have q218 : x5_1 < (l0.length : Int) := of_decide_eq_true (by first | (with_reducible assumption) | assumption)
                                  obtain ⟨ad218, e218, hx218_0⟩ := Kd.at_int HR0.out x5_1 p218 q218
                                  cases e218
                                  replace hx218_0 := (HB.out.cell (World.block_lt_of_cell? w _ hx218_0)).trans hx218_0
                                  replace p218 := eq_true p218
                                  replace q218 := eq_true q218
                                  go_wp2_with (first | ((with_reducible refine gate_callee (f := 21) rfl ?_); refine goesL_ (some 41) rfl rfl Try.func21 (by kernel_rfl) rfl #[.int .i64 x3_1, .int .i64 (rd l0 x5_1)] rfl (by (try simp only [List.map_toArray, List.map_cons, List.map_nil]); first | done | rfl | (simp only [List.length_drop, List.length_take]; rfl)) ?_; (with_reducible refine (state_Next.calls x3_1 (rd l0 x5_1) t219 t220 _ A15.out).mono ?_); rintro e w48 ⟨rfl, hb⟩; refine ⟨_, rfl, ?_⟩; have n0_ := Aside0.mk (below_step (by repeat (first | (with_reducible first | exact HB.out | apply below_alloc | apply pw_below_drewN | apply below_drew1) | exact HB.out)) hb); clear HB; have HB := n0_; clear n0_; (try clear hb); (try clear hb2); (try clear hk); (try clear hi)) | (go_at_call 23; (with_reducible refine (state_Serves.calls t219 false _ A41.out).mono ?_); rintro e w' ⟨rfl, ⟨nd, rfl⟩⟩) | (go_at_call 24; (with_reducible refine (state_Opens.calls t219 false _ A44.out).mono ?_); rintro e w' ⟨rfl, ⟨nd, rfl⟩⟩))
                                  go_ret
                                  exact ⟨by first | rfl | (simp [errW_none, errW_some] <;> rfl) | (simp [*, errW_none, errW_some] <;> rfl), by repeat (first | (with_reducible first | exact HB.out | apply below_alloc | apply pw_below_drewN | apply below_drew1) | exact HB.out)⟩
                                · rw [if_neg c47] at H
                                  have c47b0 : decide (t219 < 0) = false := decide_eq_false c47
                                  clear c47
                                  by_cases c49 : t219 > 3
                                  · rw [if_pos c49] at H
                                    have c49b0 : decide (3 < t219) = true := decide_eq_true c49
                                    clear c49
                                    obtain rfl := Option.some.inj H
                                    have p218 : 0 ≤ (x5_1 : Int) := of_decide_eq_true (by first | (with_reducible assumption) | assumption)
                                    have q218 : x5_1 < (l0.length : Int) := of_decide_eq_true (by first | (with_reducible assumption) | assumption)
                                    obtain ⟨ad218, e218, hx218_0⟩ := Kd.at_int HR0.out x5_1 p218 q218
                                    cases e218
                                    replace hx218_0 := (HB.out.cell (World.block_lt_of_cell? w _ hx218_0)).trans hx218_0
                                    replace p218 := eq_true p218
                                    replace q218 := eq_true q218
                                    go_wp2_with (first | ((with_reducible refine gate_callee (f := 21) rfl ?_); refine goesL_ (some 41) rfl rfl Try.func21 (by kernel_rfl) rfl #[.int .i64 x3_1, .int .i64 (rd l0 x5_1)] rfl (by (try simp only [List.map_toArray, List.map_cons, List.map_nil]); first | done | rfl | (simp only [List.length_drop, List.length_take]; rfl)) ?_; (with_reducible refine (state_Next.calls x3_1 (rd l0 x5_1) t219 t220 _ A15.out).mono ?_); rintro e w50 ⟨rfl, hb⟩; refine ⟨_, rfl, ?_⟩; have n0_ := Aside0.mk (below_step (by repeat (first | (with_reducible first | exact HB.out | apply below_alloc | apply pw_below_drewN | apply below_drew1) | exact HB.out)) hb); clear HB; have HB := n0_; clear n0_; (try clear hb); (try clear hb2); (try clear hk); (try clear hi)) | (go_at_call 23; (with_reducible refine (state_Serves.calls t219 false _ A41.out).mono ?_); rintro e w' ⟨rfl, ⟨nd, rfl⟩⟩) | (go_at_call 24; (with_reducible refine (state_Opens.calls t219 false _ A44.out).mono ?_); rintro e w' ⟨rfl, ⟨nd, rfl⟩⟩))
                                    go_ret
                                    exact ⟨by first | rfl | (simp [errW_none, errW_some] <;> rfl) | (simp [*, errW_none, errW_some] <;> rfl), by repeat (first | (with_reducible first | exact HB.out | apply below_alloc | apply pw_below_drewN | apply below_drew1) | exact HB.out)⟩
                                  · rw [if_neg c49] at H
                                    have c49b0 : decide (3 < t219) = false := decide_eq_false c49
                                    clear c49
                                    have H' := Aside0.mk H
                                    clear H
                                    have p218 : 0 ≤ (x5_1 : Int) := of_decide_eq_true (by first | (with_reducible assumption) | assumption)
                                    have q218 : x5_1 < (l0.length : Int) := of_decide_eq_true (by first | (with_reducible assumption) | assumption)
                                    obtain ⟨ad218, e218, hx218_0⟩ := Kd.at_int HR0.out x5_1 p218 q218
                                    cases e218
                                    replace hx218_0 := (HB.out.cell (World.block_lt_of_cell? w _ hx218_0)).trans hx218_0
                                    replace p218 := eq_true p218
                                    replace q218 := eq_true q218
                                    go_wp2_with (first | ((with_reducible refine gate_callee (f := 21) rfl ?_); refine goesL_ (some 41) rfl rfl Try.func21 (by kernel_rfl) rfl #[.int .i64 x3_1, .int .i64 (rd l0 x5_1)] rfl (by (try simp only [List.map_toArray, List.map_cons, List.map_nil]); first | done | rfl | (simp only [List.length_drop, List.length_take]; rfl)) ?_; (with_reducible refine (state_Next.calls x3_1 (rd l0 x5_1) t219 t220 _ A15.out).mono ?_); rintro e w51 ⟨rfl, hb⟩; refine ⟨_, rfl, ?_⟩; have n0_ := Aside0.mk (below_step (by repeat (first | (with_reducible first | exact HB.out | apply below_alloc | apply pw_below_drewN | apply below_drew1) | exact HB.out)) hb); clear HB; have HB := n0_; clear n0_; (try clear hb); (try clear hb2); (try clear hk); (try clear hi)) | (go_at_call 23; (with_reducible refine (state_Serves.calls t219 false _ A41.out).mono ?_); rintro e w' ⟨rfl, ⟨nd, rfl⟩⟩) | (go_at_call 24; (with_reducible refine (state_Opens.calls t219 false _ A44.out).mono ?_); rintro e w' ⟨rfl, ⟨nd, rfl⟩⟩))
                                    go_roundg kj7
                                    case measure => have := HK1.out; have := HJ4.out; have := HJ7.out; omega
                                    case rel => exact ⟨(t219), (false), (wrap64 (x5_1 + 1)), (by first | rfl | (simp; done) | (simp [*]; done)), (by first | rfl | (simp; done) | (simp [*]; done)), (by first | rfl | (simp; done) | (simp [*]; done)), H', ⟨by have := HK1.out; have := HJ4.out; have := HJ7.out; omega⟩, ⟨by repeat (first | (with_reducible first | exact HB.out | apply below_alloc | apply pw_below_drewN | apply below_drew1) | exact HB.out)⟩⟩
                        · rw [if_neg c34] at H
                          have c34b0 : (t219 == 3) = false := beq_eq_false_iff_ne.mpr c34
                          have c34b1 : (t219 != 3) = true := bne_iff_ne.mpr c34
                          obtain rfl := Option.some.inj H
                          have p218 : 0 ≤ (x5_1 : Int) := of_decide_eq_true (by first | (with_reducible assumption) | assumption)
                          have q218 : x5_1 < (l0.length : Int) := of_decide_eq_true (by first | (with_reducible assumption) | assumption)
                          obtain ⟨ad218, e218, hx218_0⟩ := Kd.at_int HR0.out x5_1 p218 q218
                          cases e218
                          replace hx218_0 := (HB.out.cell (World.block_lt_of_cell? w _ hx218_0)).trans hx218_0
                          replace p218 := eq_true p218
                          replace q218 := eq_true q218
                          go_wp2_with (first | ((with_reducible refine gate_callee (f := 21) rfl ?_); refine goesL_ (some 41) rfl rfl Try.func21 (by kernel_rfl) rfl #[.int .i64 x3_1, .int .i64 (rd l0 x5_1)] rfl (by (try simp only [List.map_toArray, List.map_cons, List.map_nil]); first | done | rfl | (simp only [List.length_drop, List.length_take]; rfl)) ?_; (with_reducible refine (state_Next.calls x3_1 (rd l0 x5_1) t219 t220 _ A15.out).mono ?_); rintro e w52 ⟨rfl, hb⟩; refine ⟨_, rfl, ?_⟩; have n0_ := Aside0.mk (below_step (by repeat (first | (with_reducible first | exact HB.out | apply below_alloc | apply pw_below_drewN | apply below_drew1) | exact HB.out)) hb); clear HB; have HB := n0_; clear n0_; (try clear hb); (try clear hb2); (try clear hk); (try clear hi)))
                          go_ret
                          exact ⟨by first | rfl | (simp [errW_none, errW_some] <;> rfl) | (simp [*, errW_none, errW_some] <;> rfl), by repeat (first | (with_reducible first | exact HB.out | apply below_alloc | apply pw_below_drewN | apply below_drew1) | exact HB.out)⟩
                    · rw [if_neg c14] at H
                      exact absurd H (by simp)
                  · rw [if_neg c13] at H
                    exact absurd H (by simp)
            · replace c7 := Bool.eq_false_iff.mpr c7
              subst c7
              have H1 : (some true) = some r := by rw [if_neg (show ¬ (false = true) by decide)] at H; exact H
              clear H
              have H := H1
              clear H1
              obtain rfl := Option.some.inj H
              go_wp2
              go_ret
              exact ⟨by first | rfl | (simp [errW_none, errW_some] <;> rfl) | (simp [*, errW_none, errW_some] <;> rfl), by repeat (first | (with_reducible first | exact HB.out | apply below_alloc | apply pw_below_drewN | apply below_drew1) | exact HB.out)⟩
  · replace c3 := Bool.eq_false_iff.mpr c3
    subst c3
    have H1 : (some false) = some r := by rw [if_neg (show ¬ (false = true) by decide)] at H; exact H
    clear H
    have H := H1
    clear H1
    obtain rfl := Option.some.inj H
    go_enter Try.func8, Try.ntmps8
    go_wp2_with (first | ((with_reducible refine gate_callee (f := 20) rfl ?_); refine goesL_ (some 8) rfl rfl Try.func20 (by kernel_rfl) rfl #[] rfl (by (try simp only [List.map_toArray, List.map_cons, List.map_nil]); first | done | rfl | (simp only [List.length_drop, List.length_take]; rfl)) ?_; (with_reducible refine (hostlerlaw10_lives.calls k  false _ A2.out).mono ?_); rintro e w53 ⟨rfl, hb⟩; refine ⟨_, rfl, ?_⟩; have n0_ := Aside0.mk (below_step (by repeat (first | (with_reducible first | exact HB.out | apply below_alloc | apply pw_below_drewN | apply below_drew1) | exact HB.out)) hb); clear HB; have HB := n0_; clear n0_; (try clear hb); (try clear hb2); (try clear hk); (try clear hi)))
    go_ret
    exact ⟨by first | rfl | (simp [errW_none, errW_some] <;> rfl) | (simp [*, errW_none, errW_some] <;> rfl), by repeat (first | (with_reducible first | exact HB.out | apply below_alloc | apply pw_below_drewN | apply below_drew1) | exact HB.out)⟩

/-- THE ONE PURE STATEMENT of hostlerlaw10_StateRetired: yours. -/
def hostlerlaw10_StateRetired.Pure : Prop := ∀ (l0 : List Int), l0.length ≤ maxLen → l0.length * 8 ≤ 140737488351232 → (∀ x ∈ l0, (Lit.int .i64 x).wf = true) → ∃ k, hostlerlaw10_StateRetired.f k l0 = some true
theorem hostlerlaw10_StateRetired.walk (P : hostlerlaw10_StateRetired.Pure) (a0 : Option Addr) (len0 cap0 : Nat) (z0 : List Int) (w : World) (w0 : (a0 = none ∧ len0 = 0 ∧ cap0 = 0 ∧ z0 = []) ∨ ∃ x, a0 = some x ∧ len0 ≤ cap0 ∧ cap0 ≤ maxLen ∧ z0.length = cap0 ∧ (∀ i, i < z0.length → w.cell? (x.add i) = some (.int .i64 (z0.getD i 0))) ∧ ∀ n ∈ z0, (Lit.int .i64 n).wf = true) (y0 : len0 * 8 ≤ 140737488351232) :
    Calls Try.prog 8 #[.slice a0 len0 cap0] w fun e w' => e = .returned (.bool true) ∧ Below w.heap.size w w' := by
  obtain ⟨l0, rfl, hr0, hm0, hw0, hc0⟩ := ReadsInt.ofRowC w0
  obtain ⟨k, h⟩ := P l0 hm0 y0 hw0
  refine (hostlerlaw10_StateRetired.calls k _ _ l0 true w (Kd.C_of_reads (d := (0 : Int)) (h1 := fun _ => rfl) hr0) hc0 h).mono ?_
  rintro e w' ⟨rfl, hd⟩
  exact ⟨rfl, hd⟩

/-! ### hostlerref10_Walk: function 26 -/
def hostlerref10_Walk.l0 : Nat → Int → List Int → Int → Int → Option (Int × Int)
  | 0, _, _, _, _ => none
  | k + 1, x0, x1, x6, x7 => if x7 < (x1.length : Int) then (if 0 ≤ x7 then ((hostlerref10_Next.f x0 (rd x1 x7)).bind fun bt226 => (if bt226.2 = true then (hostlerref10_Walk.l0 k bt226.1 x1 (wrap64 (x6 + 1)) (wrap64 (x7 + 1))) else (hostlerref10_Walk.l0 k bt226.1 x1 x6 (wrap64 (x7 + 1))))) else (none)) else (some (x0, x6))
def hostlerref10_Walk.f (k : Nat) (a0 : Int) (l1 : List Int) : Option (Int × Int) := hostlerref10_Walk.l0 k a0 l1 0 0
theorem hostlerref10_Walk.mono_l : ∀ k, (∀ y0 y1 y2 y3, LeO (hostlerref10_Walk.l0 k y0 y1 y2 y3) (hostlerref10_Walk.l0 (k + 1) y0 y1 y2 y3))
  | 0 => fun _ _ _ _ r h => by simp [hostlerref10_Walk.l0] at h
  | k + 1 => by
    have ih0 := hostlerref10_Walk.mono_l k
    · intro y0 y1 y2 y3
      unfold hostlerref10_Walk.l0
      repeat' first
      | (with_reducible exact ih0 _ _ _ _)
      | (with_reducible exact LeO.refl _)
      | (with_reducible exact LeO.none _)
      | (with_reducible refine LeO.ite ?_ ?_)
      | (with_reducible refine LeO.bind ?_ (fun _ => ?_))
      | exact ih0 _ _ _ _
      | exact LeO.none _
      | refine LeO.ite ?_ ?_
      | refine LeO.bind ?_ (fun _ => ?_)
theorem hostlerref10_Walk.mono : ∀ a0 a1 k, LeO (hostlerref10_Walk.f k a0 a1) (hostlerref10_Walk.f (k + 1) a0 a1) := by
  intro a0 a1 k
  have ih0 := hostlerref10_Walk.mono_l k
  unfold hostlerref10_Walk.f
  repeat' first
      | (with_reducible exact ih0 _ _ _ _)
      | (with_reducible exact LeO.refl _)
      | (with_reducible exact LeO.none _)
      | (with_reducible refine LeO.ite ?_ ?_)
      | (with_reducible refine LeO.bind ?_ (fun _ => ?_))
      | exact ih0 _ _ _ _
      | exact LeO.none _
      | refine LeO.ite ?_ ?_
      | refine LeO.bind ?_ (fun _ => ?_)
set_option maxHeartbeats 8000000 in
set_option maxRecDepth 100000 in
theorem hostlerref10_Walk.calls (k : Nat) (a0 : Int) (A1 : Option Addr) (c1 : Nat) (l1 : List Int) (r1 : Int) (r2 : Int) (w : World) (hr1 : Kd.C (Kd.int .i64) w A1 l1.length l1) (hc1 : l1.length ≤ c1) (h : hostlerref10_Walk.f k a0 l1 = some (r1, r2)) :
    Calls Try.prog 26 #[.int .i64 a0, .slice A1 l1.length c1] w fun e w' => e = .returned (.tuple #[.int .i64 r1, .int .i64 r2]) ∧ Below w.heap.size w w' := by
  have HR1 := Aside0.mk hr1
  have HC1 := Aside0.mk hc1
  clear hr1 hc1
  have HB := Aside0.mk (Below.refl w.heap.size w)
  have H : (hostlerref10_Walk.l0 k a0 l1 0 0) = some (r1, r2) := h
  clear h
  have H' := Aside0.mk H
  clear H
  go_enter Try.func26, Try.ntmps26
  go_wp2
  go_loopg [0, 6, 7] k (fun kq v0 v6 v7 w' => ∃ (x0_1 : Int) (x6_1 : Int) (x7_1 : Int), v0 = .int .i64 x0_1 ∧ v6 = .int .i64 x6_1 ∧ v7 = .int .i64 x7_1 ∧ Aside0 (hostlerref10_Walk.l0 kq x0_1 l1 x6_1 x7_1 = some (r1, r2)) ∧ Aside0 (kq ≤ k) ∧ Aside0 (Below w.heap.size w w'))
  case atStart => exact ⟨(a0), (0), (0), (by first | rfl | (simp; done) | (simp [*]; done)), (by first | rfl | (simp; done) | (simp [*]; done)), (by first | rfl | (simp; done) | (simp [*]; done)), H', ⟨Nat.le_refl _⟩, ⟨by repeat (first | (with_reducible first | exact HB.out | apply below_alloc | apply pw_below_drewN | apply below_drew1) | exact HB.out)⟩⟩
  case round =>
    clear H'
    try clear c1
    try clear c2
    try clear p2
    obtain ⟨x0_1, x6_1, x7_1, rfl, rfl, rfl, HA, HK1, HB⟩ := hrel
    cases gk with
    | zero => exact absurd HA.out (by simp [hostlerref10_Walk.l0])
    | succ k1 =>
      have H := HA.out
      clear HA
      simp only [hostlerref10_Walk.l0] at H
      by_cases c3 : x7_1 < (l1.length : Int)
      · rw [if_pos c3] at H
        have c3b0 : decide (x7_1 < (l1.length : Int)) = true := decide_eq_true c3
        clear c3
        by_cases c4 : 0 ≤ x7_1
        · rw [if_pos c4] at H
          have c4b0 : decide (0 ≤ x7_1) = true := decide_eq_true c4
          clear c4
          replace H := Option.bind_eq_some_iff.mp H
          obtain ⟨⟨t226, t227⟩, A50, H⟩ := H
          replace H : (if t227 = true then (hostlerref10_Walk.l0 k1 t226 l1 (wrap64 (x6_1 + 1)) (wrap64 (x7_1 + 1))) else (hostlerref10_Walk.l0 k1 t226 l1 x6_1 (wrap64 (x7_1 + 1)))) = some (r1, r2) := H
          have A5 := Aside0.mk A50
          clear A50
          by_cases c6 : t227 = true
          · subst c6
            have H1 : (hostlerref10_Walk.l0 k1 t226 l1 (wrap64 (x6_1 + 1)) (wrap64 (x7_1 + 1))) = some (r1, r2) := by rw [if_pos rfl] at H; exact H
            clear H
            have H := H1
            clear H1
            have H' := Aside0.mk H
            clear H
            have p225 : 0 ≤ (x7_1 : Int) := of_decide_eq_true (by first | (with_reducible assumption) | assumption)
            have q225 : x7_1 < (l1.length : Int) := of_decide_eq_true (by first | (with_reducible assumption) | assumption)
            obtain ⟨ad225, e225, hx225_0⟩ := Kd.at_int HR1.out x7_1 p225 q225
            cases e225
            replace hx225_0 := (HB.out.cell (World.block_lt_of_cell? w _ hx225_0)).trans hx225_0
            replace p225 := eq_true p225
            replace q225 := eq_true q225
            go_wp2_with (first | ((with_reducible refine gate_callee (f := 25) rfl ?_); refine goesL_ (some 22) rfl rfl Try.func25 (by kernel_rfl) rfl #[.int .i64 x0_1, .int .i64 (rd l1 x7_1)] rfl (by (try simp only [List.map_toArray, List.map_cons, List.map_nil]); first | done | rfl | (simp only [List.length_drop, List.length_take]; rfl)) ?_; (with_reducible refine (hostlerref10_Next.calls x0_1 (rd l1 x7_1) t226 true _ A5.out).mono ?_); rintro e w7 ⟨rfl, hb⟩; refine ⟨_, rfl, ?_⟩; have n0_ := Aside0.mk (below_step (by repeat (first | (with_reducible first | exact HB.out | apply below_alloc | apply pw_below_drewN | apply below_drew1) | exact HB.out)) hb); clear HB; have HB := n0_; clear n0_; (try clear hb); (try clear hb2); (try clear hk); (try clear hi)))
            go_roundg k1
            case measure => have := HK1.out; omega
            case rel => exact ⟨(t226), (wrap64 (x6_1 + 1)), (wrap64 (x7_1 + 1)), (by first | rfl | (simp; done) | (simp [*]; done)), (by first | rfl | (simp; done) | (simp [*]; done)), (by first | rfl | (simp; done) | (simp [*]; done)), H', ⟨by have := HK1.out; omega⟩, ⟨by repeat (first | (with_reducible first | exact HB.out | apply below_alloc | apply pw_below_drewN | apply below_drew1) | exact HB.out)⟩⟩
          · replace c6 := Bool.eq_false_iff.mpr c6
            subst c6
            have H1 : (hostlerref10_Walk.l0 k1 t226 l1 x6_1 (wrap64 (x7_1 + 1))) = some (r1, r2) := by rw [if_neg (show ¬ (false = true) by decide)] at H; exact H
            clear H
            have H := H1
            clear H1
            have H' := Aside0.mk H
            clear H
            have p225 : 0 ≤ (x7_1 : Int) := of_decide_eq_true (by first | (with_reducible assumption) | assumption)
            have q225 : x7_1 < (l1.length : Int) := of_decide_eq_true (by first | (with_reducible assumption) | assumption)
            obtain ⟨ad225, e225, hx225_0⟩ := Kd.at_int HR1.out x7_1 p225 q225
            cases e225
            replace hx225_0 := (HB.out.cell (World.block_lt_of_cell? w _ hx225_0)).trans hx225_0
            replace p225 := eq_true p225
            replace q225 := eq_true q225
            go_wp2_with (first | ((with_reducible refine gate_callee (f := 25) rfl ?_); refine goesL_ (some 22) rfl rfl Try.func25 (by kernel_rfl) rfl #[.int .i64 x0_1, .int .i64 (rd l1 x7_1)] rfl (by (try simp only [List.map_toArray, List.map_cons, List.map_nil]); first | done | rfl | (simp only [List.length_drop, List.length_take]; rfl)) ?_; (with_reducible refine (hostlerref10_Next.calls x0_1 (rd l1 x7_1) t226 false _ A5.out).mono ?_); rintro e w8 ⟨rfl, hb⟩; refine ⟨_, rfl, ?_⟩; have n0_ := Aside0.mk (below_step (by repeat (first | (with_reducible first | exact HB.out | apply below_alloc | apply pw_below_drewN | apply below_drew1) | exact HB.out)) hb); clear HB; have HB := n0_; clear n0_; (try clear hb); (try clear hb2); (try clear hk); (try clear hi)))
            go_roundg k1
            case measure => have := HK1.out; omega
            case rel => exact ⟨(t226), (x6_1), (wrap64 (x7_1 + 1)), (by first | rfl | (simp; done) | (simp [*]; done)), (by first | rfl | (simp; done) | (simp [*]; done)), (by first | rfl | (simp; done) | (simp [*]; done)), H', ⟨by have := HK1.out; omega⟩, ⟨by repeat (first | (with_reducible first | exact HB.out | apply below_alloc | apply pw_below_drewN | apply below_drew1) | exact HB.out)⟩⟩
        · rw [if_neg c4] at H
          exact absurd H (by simp)
      · rw [if_neg c3] at H
        have c3b0 : decide (x7_1 < (l1.length : Int)) = false := decide_eq_false c3
        clear c3
        simp only [Option.some.injEq, Prod.mk.injEq] at H
        obtain ⟨rfl, rfl⟩ := H
        go_wp2
        go_ret2
        exact ⟨by first | rfl | (simp [errW_none, errW_some] <;> rfl) | (simp [*, errW_none, errW_some] <;> rfl), by repeat (first | (with_reducible first | exact HB.out | apply below_alloc | apply pw_below_drewN | apply below_drew1) | exact HB.out)⟩

/-! ### hostlerref10_Name: function 28 -/
def hostlerref10_Name.f (a0 : Int) : Option (ByteArray) := if a0 < 0 then (some (⟨#[]⟩ : ByteArray)) else (if a0 > 3 then (some (⟨#[]⟩ : ByteArray)) else ((some (([(⟨#[97, 99, 116, 105, 118, 101]⟩ : ByteArray), (⟨#[100, 114, 97, 105, 110, 105, 110, 103]⟩ : ByteArray), (⟨#[113, 117, 97, 114, 97, 110, 116, 105, 110, 101, 100]⟩ : ByteArray), (⟨#[114, 101, 116, 105, 114, 101, 100]⟩ : ByteArray)] : List ByteArray) : List ByteArray)).bind fun y228 => (if 0 ≤ a0 then (if a0 < (y228.length : Int) then (some (rdOf ByteArray.empty y228 a0)) else (none)) else (none))))
set_option maxHeartbeats 8000000 in
set_option maxRecDepth 100000 in
theorem hostlerref10_Name.calls (a0 : Int) (r : ByteArray) (w : World) (h : hostlerref10_Name.f a0 = some r) :
    Calls Try.prog 28 #[.int .i64 a0] w fun e w' => e = .returned (.string r) ∧ Below w.heap.size w w' := by
  have HB := Aside0.mk (Below.refl w.heap.size w)
  have H : (if a0 < 0 then (some (⟨#[]⟩ : ByteArray)) else (if a0 > 3 then (some (⟨#[]⟩ : ByteArray)) else ((some (([(⟨#[97, 99, 116, 105, 118, 101]⟩ : ByteArray), (⟨#[100, 114, 97, 105, 110, 105, 110, 103]⟩ : ByteArray), (⟨#[113, 117, 97, 114, 97, 110, 116, 105, 110, 101, 100]⟩ : ByteArray), (⟨#[114, 101, 116, 105, 114, 101, 100]⟩ : ByteArray)] : List ByteArray) : List ByteArray)).bind fun y228 => (if 0 ≤ a0 then (if a0 < (y228.length : Int) then (some (rdOf ByteArray.empty y228 a0)) else (none)) else (none))))) = some r := h
  clear h
  by_cases c2 : a0 < 0
  · rw [if_pos c2] at H
    have c2b0 : decide (a0 < 0) = true := decide_eq_true c2
    clear c2
    obtain rfl := Option.some.inj H
    go_enter Try.func28, Try.ntmps28
    go_wp2
    go_ret
    exact ⟨by first | rfl | (simp [errW_none, errW_some] <;> rfl) | (simp [*, errW_none, errW_some] <;> rfl), by repeat (first | (with_reducible first | exact HB.out | apply below_alloc | apply pw_below_drewN | apply below_drew1) | exact HB.out)⟩
  · rw [if_neg c2] at H
    have c2b0 : decide (a0 < 0) = false := decide_eq_false c2
    clear c2
    by_cases c3 : a0 > 3
    · rw [if_pos c3] at H
      have c3b0 : decide (3 < a0) = true := decide_eq_true c3
      clear c3
      obtain rfl := Option.some.inj H
      go_enter Try.func28, Try.ntmps28
      go_wp2
      go_ret
      exact ⟨by first | rfl | (simp [errW_none, errW_some] <;> rfl) | (simp [*, errW_none, errW_some] <;> rfl), by repeat (first | (with_reducible first | exact HB.out | apply below_alloc | apply pw_below_drewN | apply below_drew1) | exact HB.out)⟩
    · rw [if_neg c3] at H
      have c3b0 : decide (3 < a0) = false := decide_eq_false c3
      clear c3
      obtain ⟨y228, hy228⟩ : ∃ y_ : List ByteArray, y_ = (([(⟨#[97, 99, 116, 105, 118, 101]⟩ : ByteArray), (⟨#[100, 114, 97, 105, 110, 105, 110, 103]⟩ : ByteArray), (⟨#[113, 117, 97, 114, 97, 110, 116, 105, 110, 101, 100]⟩ : ByteArray), (⟨#[114, 101, 116, 105, 114, 101, 100]⟩ : ByteArray)] : List ByteArray)) := ⟨_, rfl⟩
      replace H : (if 0 ≤ a0 then (if a0 < (y228.length : Int) then (some (rdOf ByteArray.empty y228 a0)) else (none)) else (none)) = some r := by first | (rw [hy228]; with_reducible exact H) | (have H2_ := (Option.bind_some _ _).symm.trans H; rw [hy228]; with_reducible exact H2_) | (have H2_ := (Option.bind_some _ _).symm.trans H; with_reducible exact H2_) | with_reducible exact H | (rw [hy228]; exact H) | exact H
      have Ny228 := Aside0.mk hy228
      clear hy228
      by_cases c4 : 0 ≤ a0
      · rw [if_pos c4] at H
        have c4b0 : decide (0 ≤ a0) = true := decide_eq_true c4
        clear c4
        by_cases c5 : a0 < (y228.length : Int)
        · rw [if_pos c5] at H
          have c5b0 : decide (a0 < (y228.length : Int)) = true := decide_eq_true c5
          clear c5
          obtain rfl := Option.some.inj H
          go_enter Try.func28, Try.ntmps28
          go_wp2_with (first | ((with_reducible refine gate_dst (N := 9) rfl ?_); refine Kd.R_lit Kd.string _ 9 ?hg (N := 9) ?hd (xs := ([(⟨#[97, 99, 116, 105, 118, 101]⟩ : ByteArray), (⟨#[100, 114, 97, 105, 110, 105, 110, 103]⟩ : ByteArray), (⟨#[113, 117, 97, 114, 97, 110, 116, 105, 110, 101, 100]⟩ : ByteArray), (⟨#[114, 101, 116, 105, 114, 101, 100]⟩ : ByteArray)] : List ByteArray)) (inner := [.string (⟨#[97, 99, 116, 105, 118, 101]⟩ : ByteArray), .string (⟨#[100, 114, 97, 105, 110, 105, 110, 103]⟩ : ByteArray), .string (⟨#[113, 117, 97, 114, 97, 110, 116, 105, 110, 101, 100]⟩ : ByteArray), .string (⟨#[114, 101, 116, 105, 114, 101, 100]⟩ : ByteArray)]) (ok := fun _ => True) (okp := fun _ => True) ?hr ?hp (fun _ hk => hk) trivial (Below.refl _ _) (Nat.le_refl _) (by simp) ?_; (case hd => rfl); (case hg => rfl); (case hr => first | (go_simp; done) | (go_simp; rfl)); (case hp => exact (Reps.one (show Kd.M Kd.string _ _ _ (⟨#[97, 99, 116, 105, 118, 101]⟩ : ByteArray) [.string (⟨#[97, 99, 116, 105, 118, 101]⟩ : ByteArray)] from rfl) (Reps.one (show Kd.M Kd.string _ _ _ (⟨#[100, 114, 97, 105, 110, 105, 110, 103]⟩ : ByteArray) [.string (⟨#[100, 114, 97, 105, 110, 105, 110, 103]⟩ : ByteArray)] from rfl) (Reps.one (show Kd.M Kd.string _ _ _ (⟨#[113, 117, 97, 114, 97, 110, 116, 105, 110, 101, 100]⟩ : ByteArray) [.string (⟨#[113, 117, 97, 114, 97, 110, 116, 105, 110, 101, 100]⟩ : ByteArray)] from rfl) (Reps.one (show Kd.M Kd.string _ _ _ (⟨#[114, 101, 116, 105, 114, 101, 100]⟩ : ByteArray) [.string (⟨#[114, 101, 116, 105, 114, 101, 100]⟩ : ByteArray)] from rfl) (Reps.none _ _)))))); intro v229 w6 ho7 hb hg_ hnew_; clear hg_ hnew_; (first | rw [← Ny228.out] at ho7 | (simp only [Int.reduceToNat] at ho7; rw [← Ny228.out] at ho7)); have n0_ := Aside0.mk (Kd.R_lower ho7 (below_size (by repeat (first | (with_reducible first | exact HB.out | apply below_alloc | apply pw_below_drewN | apply below_drew1) | exact HB.out)))); have n1_ := Aside0.mk (below_step (by repeat (first | (with_reducible first | exact HB.out | apply below_alloc | apply pw_below_drewN | apply below_drew1) | exact HB.out)) hb); clear HB; have HO230 := n0_; have HB := n1_; clear n0_ n1_; clear hb ho7; obtain ⟨Ao8, co8, eo8⟩ := Kd.R_slice HO230.out; subst eo8; have p231 : 0 ≤ (a0 : Int) := of_decide_eq_true (by first | (with_reducible assumption) | assumption); have q231 : a0 < (y228.length : Int) := of_decide_eq_true (by first | (with_reducible assumption) | assumption); obtain ⟨ad231, e231, hx231_0⟩ := Kd.at_string (Kd.R_reads' HO230.out).2.2 a0 p231 q231; cases e231; replace p231 := eq_true p231; replace q231 := eq_true q231))
          go_ret
          exact ⟨by first | rfl | (simp [errW_none, errW_some] <;> rfl) | (simp [*, errW_none, errW_some] <;> rfl), by repeat (first | (with_reducible first | exact HB.out | apply below_alloc | apply pw_below_drewN | apply below_drew1) | exact HB.out)⟩
        · rw [if_neg c5] at H
          exact absurd H (by simp)
      · rw [if_neg c4] at H
        exact absurd H (by simp)

end Go.Proofs.Ythlhjgbmcehpdaa.PA
