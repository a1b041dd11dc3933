/-
  Contracts of the program's functions and the Lean functions that they compute, laid by a program of this session out of the translation. Conditions: none.
-/
import Derived.Test.YthloffjgbgmpkaaPDx0
import Derived.Test.YthloffjgbgmpkaaPDx1
namespace Go.Proofs.Ythloffjgbgmpkaa.PD
open Go.RowKit Go.Proofs.Ythloffjgbgmpkaa.PA Go.Proofs.Ythloffjgbgmpkaa.Man Go.Proofs.YthloffjgbgmpkaaW.PrintWords Go.Proofs.YthloffjgbgmpkaaW.PrintLast Go.Proofs.YthloffjgbgmpkaaW.PrintMore
attribute [local go_sem] max2_int min2_int max_two min_two max_three min_three max_four min_four   -- for this text's walks alone
set_option linter.unusedVariables false
set_option linter.unusedSimpArgs false

/-! ### hostlerlaw17_ChooseBest: function 3 -/
mutual
def hostlerlaw17_ChooseBest.l0 : Nat → Int → List (S32) → Int → Bool → Int → Bool → Int → Option (Bool)
  | 0, _, _, _, _, _, _, _ => none
  | k + 1, x1, x5, x6, x7, x8, x9, x10 => if x10 < (x5.length : Int) then (if 0 ≤ x10 then (if x10 ≤ (wrap64 (x10 + 1)) then (if (wrap64 (x10 + 1)) ≤ (x5.length : Int) then ((choose_All.f k ((x5.take ((wrap64 (x10 + 1)) : Int).toNat).drop (x10 : Int).toNat)).bind fun t127 => (if ((rd_T32 x5 x10).f0) = 0 then (hostlerlaw17_ChooseBest.j1 k x1 x5 x6 x7 x8 x9 x10 t127 (decide (((rd_T32 x5 x10).f2) > 0))) else (hostlerlaw17_ChooseBest.j1 k x1 x5 x6 x7 x8 x9 x10 t127 false))) else (none)) else (none)) else (none)) else (if x7 = true then (if x9 = true then (if (x5.length : Int) > 0 then (some true) else (none)) else (if x8 = 0 then (if (x5.length : Int) > 0 then (some true) else (none)) else (none))) else (if x6 = 0 then (if x9 = true then (if (x5.length : Int) > 0 then (some true) else (some (!x9))) else (if x8 = 0 then (if (x5.length : Int) > 0 then (some true) else (some (!x9))) else (none))) else (none)))
def hostlerlaw17_ChooseBest.j1 : Nat → Int → List (S32) → Int → Bool → Int → Bool → Int → Int → Bool → Option (Bool)
  | 0, _, _, _, _, _, _, _, _, _ => none
  | k + 1, x1, x5, x6, x7, x8, x9, x10, x12, x13 => if 0 ≤ x10 then (if x10 < (x5.length : Int) then (if ((rd_T32 x5 x10).f0) = 0 then (if (rd_T32 x5 x10).f4 = true then (hostlerlaw17_ChooseBest.j2 k x1 x5 x6 x7 x8 x9 x10 x12 x13 (decide (x12 < x1))) else (hostlerlaw17_ChooseBest.j2 k x1 x5 x6 x7 x8 x9 x10 x12 x13 false)) else (hostlerlaw17_ChooseBest.j2 k x1 x5 x6 x7 x8 x9 x10 x12 x13 false)) else (none)) else (none)
def hostlerlaw17_ChooseBest.j2 : Nat → Int → List (S32) → Int → Bool → Int → Bool → Int → Int → Bool → Bool → Option (Bool)
  | 0, _, _, _, _, _, _, _, _, _, _ => none
  | k + 1, x1, x5, x6, x7, x8, x9, x10, x12, x13, x14 => if x13 = true then (if x7 = true then (if 0 ≤ x10 then (if x10 < (x5.length : Int) then (if 0 ≤ x6 then (if x6 < (x5.length : Int) then (if (mx ((rd_T32 x5 x10).f3) 0) < (mx ((rd_T32 x5 x6).f3) 0) then (hostlerlaw17_ChooseBest.j3 k x1 x5 x6 x7 x8 x9 x10 x12 x14 true) else (if (mx ((rd_T32 x5 x10).f3) 0) = (mx ((rd_T32 x5 x6).f3) 0) then (if x10 < x6 then (hostlerlaw17_ChooseBest.j3 k x1 x5 x6 x7 x8 x9 x10 x12 x14 true) else (if x10 = x6 then (hostlerlaw17_ChooseBest.j3 k x1 x5 x6 x7 x8 x9 x10 x12 x14 (!x13)) else (hostlerlaw17_ChooseBest.j3 k x1 x5 x6 x7 x8 x9 x10 x12 x14 false))) else (if x10 = x6 then (hostlerlaw17_ChooseBest.j3 k x1 x5 x6 x7 x8 x9 x10 x12 x14 (!x13)) else (hostlerlaw17_ChooseBest.j3 k x1 x5 x6 x7 x8 x9 x10 x12 x14 false)))) else (none)) else (none)) else (none)) else (none)) else (hostlerlaw17_ChooseBest.j3 k x1 x5 x6 x7 x8 x9 x10 x12 x14 true)) else (if x10 = x6 then (if x7 = true then (hostlerlaw17_ChooseBest.j3 k x1 x5 x6 x7 x8 x9 x10 x12 x14 (!x13)) else (hostlerlaw17_ChooseBest.j3 k x1 x5 x6 x7 x8 x9 x10 x12 x14 false)) else (hostlerlaw17_ChooseBest.j3 k x1 x5 x6 x7 x8 x9 x10 x12 x14 false))
def hostlerlaw17_ChooseBest.j3 : Nat → Int → List (S32) → Int → Bool → Int → Bool → Int → Int → Bool → Bool → Option (Bool)
  | 0, _, _, _, _, _, _, _, _, _, _ => none
  | k + 1, x1, x5, x6, x7, x8, x9, x10, x12, x14, x127 => if x127 = true then (none) else (if x14 = true then (if x9 = true then (if 0 ≤ x8 then (if x8 ≤ (wrap64 (x8 + 1)) then (if (wrap64 (x8 + 1)) ≤ (x5.length : Int) then ((choose_All.f k ((x5.take ((wrap64 (x8 + 1)) : Int).toNat).drop (x8 : Int).toNat)).bind fun t140 => (if x12 < t140 then (none) else ((choose_All.f k ((x5.take ((wrap64 (x8 + 1)) : Int).toNat).drop (x8 : Int).toNat)).bind fun t145 => (if x12 = t145 then (if x10 < x8 then (none) else (if x10 = x8 then (hostlerlaw17_ChooseBest.l0 k x1 x5 x6 x7 x8 x9 (wrap64 (x10 + 1))) else (hostlerlaw17_ChooseBest.l0 k x1 x5 x6 x7 x8 x9 (wrap64 (x10 + 1))))) else (if x10 = x8 then (hostlerlaw17_ChooseBest.l0 k x1 x5 x6 x7 x8 x9 (wrap64 (x10 + 1))) else (hostlerlaw17_ChooseBest.l0 k x1 x5 x6 x7 x8 x9 (wrap64 (x10 + 1)))))))) else (none)) else (none)) else (none)) else (none)) else (if x10 = x8 then (if x9 = true then (none) else (hostlerlaw17_ChooseBest.l0 k x1 x5 x6 x7 x8 x9 (wrap64 (x10 + 1)))) else (hostlerlaw17_ChooseBest.l0 k x1 x5 x6 x7 x8 x9 (wrap64 (x10 + 1)))))
end
def hostlerlaw17_ChooseBest.f (k : Nat) (l0 : List (S43)) (a1 : Int) : Option (Bool) := (hostlerlaw17_lives.f k).bind fun t112 => (if t112 = true then ((hostlerlaw17_few.f k l0).bind fun t113 => ((hostlerlaw17_as.f k t113).bind fun t116 => ((choose_Serve.f k t116).bind fun bt119 => ((choose_Open.f k t116 a1).bind fun bt121 => (hostlerlaw17_ChooseBest.l0 k a1 t116 bt119.1 bt119.2 bt121.1 bt121.2 0))))) else (none))
theorem hostlerlaw17_ChooseBest.mono_l : ∀ k, (∀ y0 y1 y2 y3 y4 y5 y6, LeO (hostlerlaw17_ChooseBest.l0 k y0 y1 y2 y3 y4 y5 y6) (hostlerlaw17_ChooseBest.l0 (k + 1) y0 y1 y2 y3 y4 y5 y6)) ∧ (∀ y0 y1 y2 y3 y4 y5 y6 y7 y8, LeO (hostlerlaw17_ChooseBest.j1 k y0 y1 y2 y3 y4 y5 y6 y7 y8) (hostlerlaw17_ChooseBest.j1 (k + 1) y0 y1 y2 y3 y4 y5 y6 y7 y8)) ∧ (∀ y0 y1 y2 y3 y4 y5 y6 y7 y8 y9, LeO (hostlerlaw17_ChooseBest.j2 k y0 y1 y2 y3 y4 y5 y6 y7 y8 y9) (hostlerlaw17_ChooseBest.j2 (k + 1) y0 y1 y2 y3 y4 y5 y6 y7 y8 y9)) ∧ (∀ y0 y1 y2 y3 y4 y5 y6 y7 y8 y9, LeO (hostlerlaw17_ChooseBest.j3 k y0 y1 y2 y3 y4 y5 y6 y7 y8 y9) (hostlerlaw17_ChooseBest.j3 (k + 1) y0 y1 y2 y3 y4 y5 y6 y7 y8 y9))
  | 0 => ⟨fun _ _ _ _ _ _ _ r h => by simp [hostlerlaw17_ChooseBest.l0] at h, fun _ _ _ _ _ _ _ _ _ r h => by simp [hostlerlaw17_ChooseBest.j1] at h, fun _ _ _ _ _ _ _ _ _ _ r h => by simp [hostlerlaw17_ChooseBest.j2] at h, fun _ _ _ _ _ _ _ _ _ _ r h => by simp [hostlerlaw17_ChooseBest.j3] at h⟩
  | k + 1 => by
    obtain ⟨ih0, ih1, ih2, ih3⟩ := hostlerlaw17_ChooseBest.mono_l k
    refine ⟨?_, ?_, ?_, ?_⟩
    · intro y0 y1 y2 y3 y4 y5 y6
      unfold hostlerlaw17_ChooseBest.l0
      repeat' first
      | (with_reducible exact ih0 _ _ _ _ _ _ _)
      | (with_reducible exact ih1 _ _ _ _ _ _ _ _ _)
      | (with_reducible exact ih2 _ _ _ _ _ _ _ _ _ _)
      | (with_reducible exact ih3 _ _ _ _ _ _ _ _ _ _)
      | (with_reducible exact choose_All.mono _ _)
      | (with_reducible exact choose_Open.mono _ _ _)
      | (with_reducible exact choose_Serve.mono _ _)
      | (with_reducible exact hostlerlaw17_as.mono _ _)
      | (with_reducible exact hostlerlaw17_few.mono _ _)
      | (with_reducible exact hostlerlaw17_lives.mono _)
      | (with_reducible exact LeO.refl _)
      | (with_reducible exact LeO.none _)
      | (with_reducible refine LeO.ite ?_ ?_)
      | (with_reducible refine LeO.bind ?_ (fun _ => ?_))
      | exact ih0 _ _ _ _ _ _ _
      | exact ih1 _ _ _ _ _ _ _ _ _
      | exact ih2 _ _ _ _ _ _ _ _ _ _
      | exact ih3 _ _ _ _ _ _ _ _ _ _
      | exact choose_All.mono _ _
      | exact choose_Open.mono _ _ _
      | exact choose_Serve.mono _ _
      | exact hostlerlaw17_as.mono _ _
      | exact hostlerlaw17_few.mono _ _
      | exact hostlerlaw17_lives.mono _
      | exact LeO.none _
      | refine LeO.ite ?_ ?_
      | refine LeO.bind ?_ (fun _ => ?_)
    · intro y0 y1 y2 y3 y4 y5 y6 y7 y8
      unfold hostlerlaw17_ChooseBest.j1
      repeat' first
      | (with_reducible exact ih0 _ _ _ _ _ _ _)
      | (with_reducible exact ih1 _ _ _ _ _ _ _ _ _)
      | (with_reducible exact ih2 _ _ _ _ _ _ _ _ _ _)
      | (with_reducible exact ih3 _ _ _ _ _ _ _ _ _ _)
      | (with_reducible exact choose_All.mono _ _)
      | (with_reducible exact choose_Open.mono _ _ _)
      | (with_reducible exact choose_Serve.mono _ _)
      | (with_reducible exact hostlerlaw17_as.mono _ _)
      | (with_reducible exact hostlerlaw17_few.mono _ _)
      | (with_reducible exact hostlerlaw17_lives.mono _)
      | (with_reducible exact LeO.refl _)
      | (with_reducible exact LeO.none _)
      | (with_reducible refine LeO.ite ?_ ?_)
      | (with_reducible refine LeO.bind ?_ (fun _ => ?_))
      | exact ih0 _ _ _ _ _ _ _
      | exact ih1 _ _ _ _ _ _ _ _ _
      | exact ih2 _ _ _ _ _ _ _ _ _ _
      | exact ih3 _ _ _ _ _ _ _ _ _ _
      | exact choose_All.mono _ _
      | exact choose_Open.mono _ _ _
      | exact choose_Serve.mono _ _
      | exact hostlerlaw17_as.mono _ _
      | exact hostlerlaw17_few.mono _ _
      | exact hostlerlaw17_lives.mono _
      | exact LeO.none _
      | refine LeO.ite ?_ ?_
      | refine LeO.bind ?_ (fun _ => ?_)
    · intro y0 y1 y2 y3 y4 y5 y6 y7 y8 y9
      unfold hostlerlaw17_ChooseBest.j2
      repeat' first
      | (with_reducible exact ih0 _ _ _ _ _ _ _)
      | (with_reducible exact ih1 _ _ _ _ _ _ _ _ _)
      | (with_reducible exact ih2 _ _ _ _ _ _ _ _ _ _)
      | (with_reducible exact ih3 _ _ _ _ _ _ _ _ _ _)
      | (with_reducible exact choose_All.mono _ _)
      | (with_reducible exact choose_Open.mono _ _ _)
      | (with_reducible exact choose_Serve.mono _ _)
      | (with_reducible exact hostlerlaw17_as.mono _ _)
      | (with_reducible exact hostlerlaw17_few.mono _ _)
      | (with_reducible exact hostlerlaw17_lives.mono _)
      | (with_reducible exact LeO.refl _)
      | (with_reducible exact LeO.none _)
      | (with_reducible refine LeO.ite ?_ ?_)
      | (with_reducible refine LeO.bind ?_ (fun _ => ?_))
      | exact ih0 _ _ _ _ _ _ _
      | exact ih1 _ _ _ _ _ _ _ _ _
      | exact ih2 _ _ _ _ _ _ _ _ _ _
      | exact ih3 _ _ _ _ _ _ _ _ _ _
      | exact choose_All.mono _ _
      | exact choose_Open.mono _ _ _
      | exact choose_Serve.mono _ _
      | exact hostlerlaw17_as.mono _ _
      | exact hostlerlaw17_few.mono _ _
      | exact hostlerlaw17_lives.mono _
      | exact LeO.none _
      | refine LeO.ite ?_ ?_
      | refine LeO.bind ?_ (fun _ => ?_)
    · intro y0 y1 y2 y3 y4 y5 y6 y7 y8 y9
      unfold hostlerlaw17_ChooseBest.j3
      repeat' first
      | (with_reducible exact ih0 _ _ _ _ _ _ _)
      | (with_reducible exact ih1 _ _ _ _ _ _ _ _ _)
      | (with_reducible exact ih2 _ _ _ _ _ _ _ _ _ _)
      | (with_reducible exact ih3 _ _ _ _ _ _ _ _ _ _)
      | (with_reducible exact choose_All.mono _ _)
      | (with_reducible exact choose_Open.mono _ _ _)
      | (with_reducible exact choose_Serve.mono _ _)
      | (with_reducible exact hostlerlaw17_as.mono _ _)
      | (with_reducible exact hostlerlaw17_few.mono _ _)
      | (with_reducible exact hostlerlaw17_lives.mono _)
      | (with_reducible exact LeO.refl _)
      | (with_reducible exact LeO.none _)
      | (with_reducible refine LeO.ite ?_ ?_)
      | (with_reducible refine LeO.bind ?_ (fun _ => ?_))
      | exact ih0 _ _ _ _ _ _ _
      | exact ih1 _ _ _ _ _ _ _ _ _
      | exact ih2 _ _ _ _ _ _ _ _ _ _
      | exact ih3 _ _ _ _ _ _ _ _ _ _
      | exact choose_All.mono _ _
      | exact choose_Open.mono _ _ _
      | exact choose_Serve.mono _ _
      | exact hostlerlaw17_as.mono _ _
      | exact hostlerlaw17_few.mono _ _
      | exact hostlerlaw17_lives.mono _
      | exact LeO.none _
      | refine LeO.ite ?_ ?_
      | refine LeO.bind ?_ (fun _ => ?_)
theorem hostlerlaw17_ChooseBest.mono : ∀ a0 a1 k, LeO (hostlerlaw17_ChooseBest.f k a0 a1) (hostlerlaw17_ChooseBest.f (k + 1) a0 a1) := by
  intro a0 a1 k
  obtain ⟨ih0, ih1, ih2, ih3⟩ := hostlerlaw17_ChooseBest.mono_l k
  unfold hostlerlaw17_ChooseBest.f
  repeat' first
      | (with_reducible exact ih0 _ _ _ _ _ _ _)
      | (with_reducible exact ih1 _ _ _ _ _ _ _ _ _)
      | (with_reducible exact ih2 _ _ _ _ _ _ _ _ _ _)
      | (with_reducible exact ih3 _ _ _ _ _ _ _ _ _ _)
      | (with_reducible exact choose_All.mono _ _)
      | (with_reducible exact choose_Open.mono _ _ _)
      | (with_reducible exact choose_Serve.mono _ _)
      | (with_reducible exact hostlerlaw17_as.mono _ _)
      | (with_reducible exact hostlerlaw17_few.mono _ _)
      | (with_reducible exact hostlerlaw17_lives.mono _)
      | (with_reducible exact LeO.refl _)
      | (with_reducible exact LeO.none _)
      | (with_reducible refine LeO.ite ?_ ?_)
      | (with_reducible refine LeO.bind ?_ (fun _ => ?_))
      | exact ih0 _ _ _ _ _ _ _
      | exact ih1 _ _ _ _ _ _ _ _ _
      | exact ih2 _ _ _ _ _ _ _ _ _ _
      | exact ih3 _ _ _ _ _ _ _ _ _ _
      | exact choose_All.mono _ _
      | exact choose_Open.mono _ _ _
      | exact choose_Serve.mono _ _
      | exact hostlerlaw17_as.mono _ _
      | exact hostlerlaw17_few.mono _ _
      | exact hostlerlaw17_lives.mono _
      | exact LeO.none _
      | refine LeO.ite ?_ ?_
      | refine LeO.bind ?_ (fun _ => ?_)
set_option maxHeartbeats 8000000 in
set_option maxRecDepth 100000 in
theorem hostlerlaw17_ChooseBest.calls (k : Nat) (A0 : Option Addr) (c0 : Nat) (l0 : List (S43)) (a1 : Int) (r : Bool) (w : World) (hr0 : Kd.C k43 w A0 l0.length l0) (hc0 : l0.length ≤ c0) (h : hostlerlaw17_ChooseBest.f k l0 a1 = some r) :
    Calls Try.prog 3 #[.slice A0 l0.length c0, .int .i64 a1] w fun e w' => e = .returned (.bool r) ∧ Below w.heap.size w w' := by
  have HR0 := Aside0.mk hr0
  have HC0 := Aside0.mk hc0
  clear hr0 hc0
  have HB := Aside0.mk (Below.refl w.heap.size w)
  have H : ((hostlerlaw17_lives.f k).bind fun t112 => (if t112 = true then ((hostlerlaw17_few.f k l0).bind fun t113 => ((hostlerlaw17_as.f k t113).bind fun t116 => ((choose_Serve.f k t116).bind fun bt119 => ((choose_Open.f k t116 a1).bind fun bt121 => (hostlerlaw17_ChooseBest.l0 k a1 t116 bt119.1 bt119.2 bt121.1 bt121.2 0))))) else (none))) = some r := h
  clear h
  replace H := Option.bind_eq_some_iff.mp H
  obtain ⟨t112, A30, H⟩ := H
  replace H : (if t112 = true then ((hostlerlaw17_few.f k l0).bind fun t113 => ((hostlerlaw17_as.f k t113).bind fun t116 => ((choose_Serve.f k t116).bind fun bt119 => ((choose_Open.f k t116 a1).bind fun bt121 => (hostlerlaw17_ChooseBest.l0 k a1 t116 bt119.1 bt119.2 bt121.1 bt121.2 0))))) else (none)) = some r := H
  have A3 := Aside0.mk A30
  clear A30
  by_cases c4 : t112 = true
  · subst c4
    have H1 : ((hostlerlaw17_few.f k l0).bind fun t113 => ((hostlerlaw17_as.f k t113).bind fun t116 => ((choose_Serve.f k t116).bind fun bt119 => ((choose_Open.f k t116 a1).bind fun bt121 => (hostlerlaw17_ChooseBest.l0 k a1 t116 bt119.1 bt119.2 bt121.1 bt121.2 0))))) = some r := by rw [if_pos rfl] at H; exact H
    clear H
    have H := H1
    clear H1
    replace H := Option.bind_eq_some_iff.mp H
    obtain ⟨t113, A50, H⟩ := H
    replace H : ((hostlerlaw17_as.f k t113).bind fun t116 => ((choose_Serve.f k t116).bind fun bt119 => ((choose_Open.f k t116 a1).bind fun bt121 => (hostlerlaw17_ChooseBest.l0 k a1 t116 bt119.1 bt119.2 bt121.1 bt121.2 0)))) = some r := H
    have A5 := Aside0.mk A50
    clear A50
    replace H := Option.bind_eq_some_iff.mp H
    obtain ⟨t116, A60, H⟩ := H
    replace H : ((choose_Serve.f k t116).bind fun bt119 => ((choose_Open.f k t116 a1).bind fun bt121 => (hostlerlaw17_ChooseBest.l0 k a1 t116 bt119.1 bt119.2 bt121.1 bt121.2 0))) = some r := H
    have A6 := Aside0.mk A60
    clear A60
    replace H := Option.bind_eq_some_iff.mp H
    obtain ⟨⟨t119, t120⟩, A70, H⟩ := H
    replace H : ((choose_Open.f k t116 a1).bind fun bt121 => (hostlerlaw17_ChooseBest.l0 k a1 t116 t119 t120 bt121.1 bt121.2 0)) = some r := H
    have A7 := Aside0.mk A70
    clear A70
    replace H := Option.bind_eq_some_iff.mp H
    obtain ⟨⟨t121, t122⟩, A80, H⟩ := H
    replace H : (hostlerlaw17_ChooseBest.l0 k a1 t116 t119 t120 t121 t122 0) = some r := H
    have A8 := Aside0.mk A80
    clear A80
    have H' := Aside0.mk H
    clear H
    go_enter Try.func3, Try.ntmps3
    go_wp2_with (first | (go_at_call 7; (with_reducible refine (hostlerlaw17_lives.calls k  true _ A3.out).mono ?_); rintro e w9 ⟨rfl, hb⟩; have n0_ := Aside0.mk (below_step (by repeat (first | (with_reducible first | exact HB.out | apply below_alloc | apply pw_below_drewN | apply below_drew1) | exact HB.out)) hb); clear HB; have HB := n0_; clear n0_; (try clear hb); (try clear hb2); (try clear hk); (try clear hi)) | (go_at_call 9; (with_reducible refine (hostlerlaw17_few.calls k _ _ l0 t113 _ ?side1 ?side2 A5.out).mono ?_); (case side1 => repeat (first | exact (Kd.C_below HR0.out HB.out) | (with_reducible refine Kd.C_alloc ?_ _) | (with_reducible refine Kd.C_drewN ?_ _) | (with_reducible refine Kd.C_drew ?_))); (case side2 => exact HC0.out); rintro e w10 ⟨v114, rfl, ho0, hb⟩; have n0_ := Aside0.mk (Kd.R_lower ho0 (below_size (by repeat (first | (with_reducible first | exact HB.out | apply below_alloc | apply pw_below_drewN | apply below_drew1) | exact HB.out)))); have n1_ := Aside0.mk (below_step (by repeat (first | (with_reducible first | exact HB.out | apply below_alloc | apply pw_below_drewN | apply below_drew1) | exact HB.out)) hb); clear HB; have HO115 := n0_; have HB := n1_; clear n0_ n1_; (try clear hb); (try clear hb2); (try clear hk); (try clear hi); (try clear ho0); obtain ⟨Ao11, co11, eo11⟩ := Kd.R_slice HO115.out; subst eo11) | (go_at_call 8; (with_reducible refine (hostlerlaw17_as.calls k _ _ t113 t116 _ ?side1 ?side2 A6.out).mono ?_); (case side1 => repeat (first | exact (Kd.R_reads' HO115.out).2.2 | (with_reducible refine Kd.C_alloc ?_ _) | (with_reducible refine Kd.C_drewN ?_ _) | (with_reducible refine Kd.C_drew ?_))); (case side2 => exact (Kd.R_reads' HO115.out).2.1); rintro e w12 ⟨v117, rfl, ho0, hb⟩; have n0_ := Aside0.mk (Kd.R_below (by (with_reducible repeat (first | apply Kd.R_alloc | apply Kd.R_drewN | apply Kd.R_drew)); exact HO115.out) hb); have n1_ := Aside0.mk (Kd.R_lower ho0 (below_size (by repeat (first | (with_reducible first | exact HB.out | apply below_alloc | apply pw_below_drewN | apply below_drew1) | exact HB.out)))); have n2_ := Aside0.mk (below_step (by repeat (first | (with_reducible first | exact HB.out | apply below_alloc | apply pw_below_drewN | apply below_drew1) | exact HB.out)) hb); clear HO115; clear HB; have HO115 := n0_; have HO118 := n1_; have HB := n2_; clear n0_ n1_ n2_; (try clear hb); (try clear hb2); (try clear hk); (try clear hi); (try clear ho0); obtain ⟨Ao13, co13, eo13⟩ := Kd.R_slice HO118.out; subst eo13) | (go_at_call 10; (with_reducible refine (choose_Serve.calls k _ _ t116 t119 t120 _ ?side1 ?side2 A7.out).mono ?_); (case side1 => repeat (first | exact (Kd.R_reads' HO118.out).2.2 | (with_reducible refine Kd.C_alloc ?_ _) | (with_reducible refine Kd.C_drewN ?_ _) | (with_reducible refine Kd.C_drew ?_))); (case side2 => exact (Kd.R_reads' HO118.out).2.1); rintro e w14 ⟨rfl, hb⟩; have n0_ := Aside0.mk (Kd.R_below (by (with_reducible repeat (first | apply Kd.R_alloc | apply Kd.R_drewN | apply Kd.R_drew)); exact HO115.out) hb); have n1_ := Aside0.mk (Kd.R_below (by (with_reducible repeat (first | apply Kd.R_alloc | apply Kd.R_drewN | apply Kd.R_drew)); exact HO118.out) hb); have n2_ := Aside0.mk (below_step (by repeat (first | (with_reducible first | exact HB.out | apply below_alloc | apply pw_below_drewN | apply below_drew1) | exact HB.out)) hb); clear HO115; clear HO118; clear HB; have HO115 := n0_; have HO118 := n1_; have HB := n2_; clear n0_ n1_ n2_; (try clear hb); (try clear hb2); (try clear hk); (try clear hi)) | (go_at_call 11; (with_reducible refine (choose_Open.calls k _ _ t116 a1 t121 t122 _ ?side1 ?side2 A8.out).mono ?_); (case side1 => repeat (first | exact (Kd.R_reads' HO118.out).2.2 | (with_reducible refine Kd.C_alloc ?_ _) | (with_reducible refine Kd.C_drewN ?_ _) | (with_reducible refine Kd.C_drew ?_))); (case side2 => exact (Kd.R_reads' HO118.out).2.1); rintro e w15 ⟨rfl, hb⟩; have n0_ := Aside0.mk (Kd.R_below (by (with_reducible repeat (first | apply Kd.R_alloc | apply Kd.R_drewN | apply Kd.R_drew)); exact HO115.out) hb); have n1_ := Aside0.mk (Kd.R_below (by (with_reducible repeat (first | apply Kd.R_alloc | apply Kd.R_drewN | apply Kd.R_drew)); exact HO118.out) hb); have n2_ := Aside0.mk (below_step (by repeat (first | (with_reducible first | exact HB.out | apply below_alloc | apply pw_below_drewN | apply below_drew1) | exact HB.out)) hb); clear HO115; clear HO118; clear HB; have HO115 := n0_; have HO118 := n1_; have HB := n2_; clear n0_ n1_ n2_; (try clear hb); (try clear hb2); (try clear hk); (try clear hi)))
    repeat (go_quiet (first | (go_at_call 7; (with_reducible refine (hostlerlaw17_lives.calls k  true _ A3.out).mono ?_); rintro e w9 ⟨rfl, hb⟩; have n0_ := Aside0.mk (below_step (by repeat (first | (with_reducible first | exact HB.out | apply below_alloc | apply pw_below_drewN | apply below_drew1) | exact HB.out)) hb); clear HB; have HB := n0_; clear n0_; (try clear hb); (try clear hb2); (try clear hk); (try clear hi)) | (go_at_call 9; (with_reducible refine (hostlerlaw17_few.calls k _ _ l0 t113 _ ?side1 ?side2 A5.out).mono ?_); (case side1 => repeat (first | exact (Kd.C_below HR0.out HB.out) | (with_reducible refine Kd.C_alloc ?_ _) | (with_reducible refine Kd.C_drewN ?_ _) | (with_reducible refine Kd.C_drew ?_))); (case side2 => exact HC0.out); rintro e w10 ⟨v114, rfl, ho0, hb⟩; have n0_ := Aside0.mk (Kd.R_lower ho0 (below_size (by repeat (first | (with_reducible first | exact HB.out | apply below_alloc | apply pw_below_drewN | apply below_drew1) | exact HB.out)))); have n1_ := Aside0.mk (below_step (by repeat (first | (with_reducible first | exact HB.out | apply below_alloc | apply pw_below_drewN | apply below_drew1) | exact HB.out)) hb); clear HB; have HO115 := n0_; have HB := n1_; clear n0_ n1_; (try clear hb); (try clear hb2); (try clear hk); (try clear hi); (try clear ho0); obtain ⟨Ao11, co11, eo11⟩ := Kd.R_slice HO115.out; subst eo11) | (go_at_call 8; (with_reducible refine (hostlerlaw17_as.calls k _ _ t113 t116 _ ?side1 ?side2 A6.out).mono ?_); (case side1 => repeat (first | exact (Kd.R_reads' HO115.out).2.2 | (with_reducible refine Kd.C_alloc ?_ _) | (with_reducible refine Kd.C_drewN ?_ _) | (with_reducible refine Kd.C_drew ?_))); (case side2 => exact (Kd.R_reads' HO115.out).2.1); rintro e w12 ⟨v117, rfl, ho0, hb⟩; have n0_ := Aside0.mk (Kd.R_below (by (with_reducible repeat (first | apply Kd.R_alloc | apply Kd.R_drewN | apply Kd.R_drew)); exact HO115.out) hb); have n1_ := Aside0.mk (Kd.R_lower ho0 (below_size (by repeat (first | (with_reducible first | exact HB.out | apply below_alloc | apply pw_below_drewN | apply below_drew1) | exact HB.out)))); have n2_ := Aside0.mk (below_step (by repeat (first | (with_reducible first | exact HB.out | apply below_alloc | apply pw_below_drewN | apply below_drew1) | exact HB.out)) hb); clear HO115; clear HB; have HO115 := n0_; have HO118 := n1_; have HB := n2_; clear n0_ n1_ n2_; (try clear hb); (try clear hb2); (try clear hk); (try clear hi); (try clear ho0); obtain ⟨Ao13, co13, eo13⟩ := Kd.R_slice HO118.out; subst eo13) | (go_at_call 10; (with_reducible refine (choose_Serve.calls k _ _ t116 t119 t120 _ ?side1 ?side2 A7.out).mono ?_); (case side1 => repeat (first | exact (Kd.R_reads' HO118.out).2.2 | (with_reducible refine Kd.C_alloc ?_ _) | (with_reducible refine Kd.C_drewN ?_ _) | (with_reducible refine Kd.C_drew ?_))); (case side2 => exact (Kd.R_reads' HO118.out).2.1); rintro e w14 ⟨rfl, hb⟩; have n0_ := Aside0.mk (Kd.R_below (by (with_reducible repeat (first | apply Kd.R_alloc | apply Kd.R_drewN | apply Kd.R_drew)); exact HO115.out) hb); have n1_ := Aside0.mk (Kd.R_below (by (with_reducible repeat (first | apply Kd.R_alloc | apply Kd.R_drewN | apply Kd.R_drew)); exact HO118.out) hb); have n2_ := Aside0.mk (below_step (by repeat (first | (with_reducible first | exact HB.out | apply below_alloc | apply pw_below_drewN | apply below_drew1) | exact HB.out)) hb); clear HO115; clear HO118; clear HB; have HO115 := n0_; have HO118 := n1_; have HB := n2_; clear n0_ n1_ n2_; (try clear hb); (try clear hb2); (try clear hk); (try clear hi)) | (go_at_call 11; (with_reducible refine (choose_Open.calls k _ _ t116 a1 t121 t122 _ ?side1 ?side2 A8.out).mono ?_); (case side1 => repeat (first | exact (Kd.R_reads' HO118.out).2.2 | (with_reducible refine Kd.C_alloc ?_ _) | (with_reducible refine Kd.C_drewN ?_ _) | (with_reducible refine Kd.C_drew ?_))); (case side2 => exact (Kd.R_reads' HO118.out).2.1); rintro e w15 ⟨rfl, hb⟩; have n0_ := Aside0.mk (Kd.R_below (by (with_reducible repeat (first | apply Kd.R_alloc | apply Kd.R_drewN | apply Kd.R_drew)); exact HO115.out) hb); have n1_ := Aside0.mk (Kd.R_below (by (with_reducible repeat (first | apply Kd.R_alloc | apply Kd.R_drewN | apply Kd.R_drew)); exact HO118.out) hb); have n2_ := Aside0.mk (below_step (by repeat (first | (with_reducible first | exact HB.out | apply below_alloc | apply pw_below_drewN | apply below_drew1) | exact HB.out)) hb); clear HO115; clear HO118; clear HB; have HO115 := n0_; have HO118 := n1_; have HB := n2_; clear n0_ n1_ n2_; (try clear hb); (try clear hb2); (try clear hk); (try clear hi))); try go_wp2_with (first | (go_at_call 7; (with_reducible refine (hostlerlaw17_lives.calls k  true _ A3.out).mono ?_); rintro e w9 ⟨rfl, hb⟩; have n0_ := Aside0.mk (below_step (by repeat (first | (with_reducible first | exact HB.out | apply below_alloc | apply pw_below_drewN | apply below_drew1) | exact HB.out)) hb); clear HB; have HB := n0_; clear n0_; (try clear hb); (try clear hb2); (try clear hk); (try clear hi)) | (go_at_call 9; (with_reducible refine (hostlerlaw17_few.calls k _ _ l0 t113 _ ?side1 ?side2 A5.out).mono ?_); (case side1 => repeat (first | exact (Kd.C_below HR0.out HB.out) | (with_reducible refine Kd.C_alloc ?_ _) | (with_reducible refine Kd.C_drewN ?_ _) | (with_reducible refine Kd.C_drew ?_))); (case side2 => exact HC0.out); rintro e w10 ⟨v114, rfl, ho0, hb⟩; have n0_ := Aside0.mk (Kd.R_lower ho0 (below_size (by repeat (first | (with_reducible first | exact HB.out | apply below_alloc | apply pw_below_drewN | apply below_drew1) | exact HB.out)))); have n1_ := Aside0.mk (below_step (by repeat (first | (with_reducible first | exact HB.out | apply below_alloc | apply pw_below_drewN | apply below_drew1) | exact HB.out)) hb); clear HB; have HO115 := n0_; have HB := n1_; clear n0_ n1_; (try clear hb); (try clear hb2); (try clear hk); (try clear hi); (try clear ho0); obtain ⟨Ao11, co11, eo11⟩ := Kd.R_slice HO115.out; subst eo11) | (go_at_call 8; (with_reducible refine (hostlerlaw17_as.calls k _ _ t113 t116 _ ?side1 ?side2 A6.out).mono ?_); (case side1 => repeat (first | exact (Kd.R_reads' HO115.out).2.2 | (with_reducible refine Kd.C_alloc ?_ _) | (with_reducible refine Kd.C_drewN ?_ _) | (with_reducible refine Kd.C_drew ?_))); (case side2 => exact (Kd.R_reads' HO115.out).2.1); rintro e w12 ⟨v117, rfl, ho0, hb⟩; have n0_ := Aside0.mk (Kd.R_below (by (with_reducible repeat (first | apply Kd.R_alloc | apply Kd.R_drewN | apply Kd.R_drew)); exact HO115.out) hb); have n1_ := Aside0.mk (Kd.R_lower ho0 (below_size (by repeat (first | (with_reducible first | exact HB.out | apply below_alloc | apply pw_below_drewN | apply below_drew1) | exact HB.out)))); have n2_ := Aside0.mk (below_step (by repeat (first | (with_reducible first | exact HB.out | apply below_alloc | apply pw_below_drewN | apply below_drew1) | exact HB.out)) hb); clear HO115; clear HB; have HO115 := n0_; have HO118 := n1_; have HB := n2_; clear n0_ n1_ n2_; (try clear hb); (try clear hb2); (try clear hk); (try clear hi); (try clear ho0); obtain ⟨Ao13, co13, eo13⟩ := Kd.R_slice HO118.out; subst eo13) | (go_at_call 10; (with_reducible refine (choose_Serve.calls k _ _ t116 t119 t120 _ ?side1 ?side2 A7.out).mono ?_); (case side1 => repeat (first | exact (Kd.R_reads' HO118.out).2.2 | (with_reducible refine Kd.C_alloc ?_ _) | (with_reducible refine Kd.C_drewN ?_ _) | (with_reducible refine Kd.C_drew ?_))); (case side2 => exact (Kd.R_reads' HO118.out).2.1); rintro e w14 ⟨rfl, hb⟩; have n0_ := Aside0.mk (Kd.R_below (by (with_reducible repeat (first | apply Kd.R_alloc | apply Kd.R_drewN | apply Kd.R_drew)); exact HO115.out) hb); have n1_ := Aside0.mk (Kd.R_below (by (with_reducible repeat (first | apply Kd.R_alloc | apply Kd.R_drewN | apply Kd.R_drew)); exact HO118.out) hb); have n2_ := Aside0.mk (below_step (by repeat (first | (with_reducible first | exact HB.out | apply below_alloc | apply pw_below_drewN | apply below_drew1) | exact HB.out)) hb); clear HO115; clear HO118; clear HB; have HO115 := n0_; have HO118 := n1_; have HB := n2_; clear n0_ n1_ n2_; (try clear hb); (try clear hb2); (try clear hk); (try clear hi)) | (go_at_call 11; (with_reducible refine (choose_Open.calls k _ _ t116 a1 t121 t122 _ ?side1 ?side2 A8.out).mono ?_); (case side1 => repeat (first | exact (Kd.R_reads' HO118.out).2.2 | (with_reducible refine Kd.C_alloc ?_ _) | (with_reducible refine Kd.C_drewN ?_ _) | (with_reducible refine Kd.C_drew ?_))); (case side2 => exact (Kd.R_reads' HO118.out).2.1); rintro e w15 ⟨rfl, hb⟩; have n0_ := Aside0.mk (Kd.R_below (by (with_reducible repeat (first | apply Kd.R_alloc | apply Kd.R_drewN | apply Kd.R_drew)); exact HO115.out) hb); have n1_ := Aside0.mk (Kd.R_below (by (with_reducible repeat (first | apply Kd.R_alloc | apply Kd.R_drewN | apply Kd.R_drew)); exact HO118.out) hb); have n2_ := Aside0.mk (below_step (by repeat (first | (with_reducible first | exact HB.out | apply below_alloc | apply pw_below_drewN | apply below_drew1) | exact HB.out)) hb); clear HO115; clear HO118; clear HB; have HO115 := n0_; have HO118 := n1_; have HB := n2_; clear n0_ n1_ n2_; (try clear hb); (try clear hb2); (try clear hk); (try clear hi))))
    go_loopg [10] k (fun kq v10 w' => ∃ (x10_1 : Int), v10 = .int .i64 x10_1 ∧ Aside0 (hostlerlaw17_ChooseBest.l0 kq a1 t116 t119 t120 t121 t122 x10_1 = some r) ∧ Aside0 (kq ≤ k) ∧ Aside0 (Kd.R k32 32 w' w.heap.size (fun _ => True) (.slice Ao13 t116.length co13) t116) ∧ Aside0 (Below w.heap.size w w'))
    case atStart => exact ⟨(0), (by first | rfl | (simp; done) | (simp [*]; done)), H', ⟨Nat.le_refl _⟩, ⟨by (with_reducible repeat (first | apply Kd.R_alloc | apply Kd.R_drewN | apply Kd.R_drew)); exact HO118.out⟩, ⟨by repeat (first | (with_reducible first | exact HB.out | apply below_alloc | apply pw_below_drewN | apply below_drew1) | exact HB.out)⟩⟩
    case round =>
      clear H'
      try clear p2
      try clear c3
      try clear c4
      obtain ⟨x10_1, rfl, HA, HK1, HO_5, HB⟩ := hrel
      cases gk with
      | zero => exact absurd HA.out (by simp [hostlerlaw17_ChooseBest.l0])
      | succ k1 =>
        have H := HA.out
        clear HA
        simp only [hostlerlaw17_ChooseBest.l0] at H
        by_cases c16 : x10_1 < (t116.length : Int)
        · rw [if_pos c16] at H
          have c16b0 : decide (x10_1 < (t116.length : Int)) = true := decide_eq_true c16
          clear c16
          by_cases c17 : 0 ≤ x10_1
          · rw [if_pos c17] at H
            have c17b0 := eq_true c17
            have c17b1 : decide (0 ≤ x10_1) = true := decide_eq_true c17
            clear c17
            by_cases c18 : x10_1 ≤ (wrap64 (x10_1 + 1))
            · rw [if_pos c18] at H
              have c18b0 := eq_true c18
              have c18b1 : decide (x10_1 ≤ (wrap64 (x10_1 + 1))) = true := decide_eq_true c18
              by_cases c19 : (wrap64 (x10_1 + 1)) ≤ (t116.length : Int)
              · rw [if_pos c19] at H
                have c19b0 := eq_true c19
                have c19b1 : decide ((wrap64 (x10_1 + 1)) ≤ (t116.length : Int)) = true := decide_eq_true c19
                obtain ⟨y123, hy123⟩ : ∃ y_ : List (S32), y_ = ((t116.take ((wrap64 (x10_1 + 1)) : Int).toNat).drop (x10_1 : Int).toNat) := ⟨_, rfl⟩
                replace H : ((choose_All.f k1 y123).bind fun t127 => (if ((rd_T32 t116 x10_1).f0) = 0 then (hostlerlaw17_ChooseBest.j1 k1 a1 t116 t119 t120 t121 t122 x10_1 t127 (decide (((rd_T32 t116 x10_1).f2) > 0))) else (hostlerlaw17_ChooseBest.j1 k1 a1 t116 t119 t120 t121 t122 x10_1 t127 false))) = some r := by first | (rw [hy123]; with_reducible exact H) | (have H2_ := (Option.bind_some _ _).symm.trans H; rw [hy123]; with_reducible exact H2_) | (have H2_ := (Option.bind_some _ _).symm.trans H; with_reducible exact H2_) | with_reducible exact H | (rw [hy123]; exact H) | exact H
                have Ny123 := Aside0.mk hy123
                clear hy123
                replace H := Option.bind_eq_some_iff.mp H
                obtain ⟨t127, A200, H⟩ := H
                replace H : (if ((rd_T32 t116 x10_1).f0) = 0 then (hostlerlaw17_ChooseBest.j1 k1 a1 t116 t119 t120 t121 t122 x10_1 t127 (decide (((rd_T32 t116 x10_1).f2) > 0))) else (hostlerlaw17_ChooseBest.j1 k1 a1 t116 t119 t120 t121 t122 x10_1 t127 false)) = some r := H
                have A20 := Aside0.mk A200
                clear A200
                have HC21 := Aside0.mk H
                clear H
                have q22 : ((wrap64 (x10_1 + 1)) : Int) ≤ ((t116.length : Int) : Int) := of_decide_eq_true (by first | (with_reducible assumption) | assumption)
                obtain ⟨i022, hi022, _, hsz22, _⟩ := info_parts info32
                have hroom22 : t116.length ≤ co13 := (Kd.R_reads' HO_5.out).2.1
                have hC22 : Kd.C k32 _ Ao13 t116.length t116 := (Kd.R_reads' HO_5.out).2.2
                have ql22 : (x10_1 : Int) ≤ ((wrap64 (x10_1 + 1)) : Int) := of_decide_eq_true (by first | (with_reducible assumption) | assumption)
                have q022 : (0 : Int) ≤ (x10_1 : Int) := of_decide_eq_true (by first | (with_reducible assumption) | assumption)
                have hcut22 := cut_mid (P := Try.prog) 24 32 .i64 .i64 Try.underlying24 hi022 5 hsz22 Ao13 t116.length co13 x10_1 (wrap64 (x10_1 + 1)) q022 ql22 q22 hroom22
                have hr22 := Kd.C_mid (lo := (x10_1 : Int).toNat) (hi := ((wrap64 (x10_1 + 1)) : Int).toNat) (c := co13) hC22 (by omega) (by omega) hroom22
                obtain ⟨A22, hA22⟩ : ∃ A1, A1 = (if co13 = (x10_1 : Int).toNat then Ao13 else (Ao13 : Option Addr).map (·.add ((x10_1 : Int).toNat * 5))) := ⟨_, rfl⟩
                obtain ⟨c22, hc22⟩ : ∃ c1, c1 = co13 - (x10_1 : Int).toNat := ⟨_, rfl⟩
                have hy22 : y123.length = ((wrap64 (x10_1 + 1)) : Int).toNat - (x10_1 : Int).toNat := (by rw [Ny123.out, List.length_drop, List.length_take] <;> omega)
                rw [show ((t116).take ((wrap64 (x10_1 + 1)) : Int).toNat).drop (x10_1 : Int).toNat = y123 from Ny123.out.symm] at hr22
                replace hr22 : Kd.C k32 _ A22 y123.length y123 := (by rw [hA22]; exact hr22)
                rw [← hy22, ← hA22, ← hc22] at hcut22
                have HR126 := Aside0.mk hr22
                have HC126 := Aside0.mk (show y123.length ≤ c22 from by rw [hy22, hc22]; exact Nat.sub_le_sub_right (Nat.le_trans (by omega) hroom22) _)
                clear hr22 hC22 hroom22 hi022 hsz22 hc22
                have KY22 := Aside0.mk hy22
                have KA22 := Aside0.mk hA22
                clear hy22 hA22
                have KL22 := Aside0.mk (show ((wrap64 (x10_1 + 1)) : Int).toNat ≤ t116.length from by omega)
                have KM22 := Aside0.mk (show (x10_1 : Int).toNat ≤ ((wrap64 (x10_1 + 1)) : Int).toNat from by omega)
                replace q22 := eq_true q22
                go_upto_region 11 with (first | (go_at_call 12; (with_reducible refine (choose_All.calls k1 _ _ y123 t127 _ ?side1 ?side2 A20.out).mono ?_); (case side1 => repeat (first | exact (by repeat (first | (with_reducible exact HR126.out) | (with_reducible refine Kd.C_alloc ?_ _) | (with_reducible refine Kd.C_drewN ?_ _) | (with_reducible refine Kd.C_drew ?_) | exact HR126.out)) | (with_reducible refine Kd.C_alloc ?_ _) | (with_reducible refine Kd.C_drewN ?_ _) | (with_reducible refine Kd.C_drew ?_))); (case side2 => exact HC126.out); rintro e w23 ⟨rfl, hb⟩; have n0_ := Aside0.mk (Kd.R_below (by (with_reducible repeat (first | apply Kd.R_alloc | apply Kd.R_drewN | apply Kd.R_drew)); exact HO_5.out) hb); have n1_ := Aside0.mk (Kd.C_below (by repeat (first | (with_reducible exact HR126.out) | (with_reducible refine Kd.C_alloc ?_ _) | (with_reducible refine Kd.C_drewN ?_ _) | (with_reducible refine Kd.C_drew ?_) | exact HR126.out)) hb); have n2_ := Aside0.mk (below_step (by repeat (first | (with_reducible first | exact HB.out | apply below_alloc | apply pw_below_drewN | apply below_drew1) | exact HB.out)) hb); clear HO_5; clear HR126; clear HB; have HO_5 := n0_; have HR126 := n1_; have HB := n2_; clear n0_ n1_ n2_; (try clear hb); (try clear hb2); (try clear hk); (try clear hi)))
                repeat (go_quiet (first | (go_at_call 12; (with_reducible refine (choose_All.calls k1 _ _ y123 t127 _ ?side1 ?side2 A20.out).mono ?_); (case side1 => repeat (first | exact (by repeat (first | (with_reducible exact HR126.out) | (with_reducible refine Kd.C_alloc ?_ _) | (with_reducible refine Kd.C_drewN ?_ _) | (with_reducible refine Kd.C_drew ?_) | exact HR126.out)) | (with_reducible refine Kd.C_alloc ?_ _) | (with_reducible refine Kd.C_drewN ?_ _) | (with_reducible refine Kd.C_drew ?_))); (case side2 => exact HC126.out); rintro e w23 ⟨rfl, hb⟩; have n0_ := Aside0.mk (Kd.R_below (by (with_reducible repeat (first | apply Kd.R_alloc | apply Kd.R_drewN | apply Kd.R_drew)); exact HO_5.out) hb); have n1_ := Aside0.mk (Kd.C_below (by repeat (first | (with_reducible exact HR126.out) | (with_reducible refine Kd.C_alloc ?_ _) | (with_reducible refine Kd.C_drewN ?_ _) | (with_reducible refine Kd.C_drew ?_) | exact HR126.out)) hb); have n2_ := Aside0.mk (below_step (by repeat (first | (with_reducible first | exact HB.out | apply below_alloc | apply pw_below_drewN | apply below_drew1) | exact HB.out)) hb); clear HO_5; clear HR126; clear HB; have HO_5 := n0_; have HR126 := n1_; have HB := n2_; clear n0_ n1_ n2_; (try clear hb); (try clear hb2); (try clear hk); (try clear hi))); go_upto_region 11 with (first | (go_at_call 12; (with_reducible refine (choose_All.calls k1 _ _ y123 t127 _ ?side1 ?side2 A20.out).mono ?_); (case side1 => repeat (first | exact (by repeat (first | (with_reducible exact HR126.out) | (with_reducible refine Kd.C_alloc ?_ _) | (with_reducible refine Kd.C_drewN ?_ _) | (with_reducible refine Kd.C_drew ?_) | exact HR126.out)) | (with_reducible refine Kd.C_alloc ?_ _) | (with_reducible refine Kd.C_drewN ?_ _) | (with_reducible refine Kd.C_drew ?_))); (case side2 => exact HC126.out); rintro e w23 ⟨rfl, hb⟩; have n0_ := Aside0.mk (Kd.R_below (by (with_reducible repeat (first | apply Kd.R_alloc | apply Kd.R_drewN | apply Kd.R_drew)); exact HO_5.out) hb); have n1_ := Aside0.mk (Kd.C_below (by repeat (first | (with_reducible exact HR126.out) | (with_reducible refine Kd.C_alloc ?_ _) | (with_reducible refine Kd.C_drewN ?_ _) | (with_reducible refine Kd.C_drew ?_) | exact HR126.out)) hb); have n2_ := Aside0.mk (below_step (by repeat (first | (with_reducible first | exact HB.out | apply below_alloc | apply pw_below_drewN | apply below_drew1) | exact HB.out)) hb); clear HO_5; clear HR126; clear HB; have HO_5 := n0_; have HR126 := n1_; have HB := n2_; clear n0_ n1_ n2_; (try clear hb); (try clear hb2); (try clear hk); (try clear hi))))
                (try simp only [Act.put, List.setIfInBounds_toArray, List.set_cons_zero, List.set_cons_succ])
                go_cut [13] (fun v13 wc => ∃ (kq : Nat) (x13_20 : Bool), v13 = .bool x13_20 ∧ Aside0 (hostlerlaw17_ChooseBest.j1 kq a1 t116 t119 t120 t121 t122 x10_1 t127 x13_20 = some r) ∧ Aside0 (kq ≤ k1) ∧ Aside0 (Kd.R k32 32 wc w.heap.size (fun _ => True) (.slice Ao13 t116.length co13) t116) ∧ Aside0 (Kd.C k32 wc A22 y123.length y123) ∧ Aside0 (Below w.heap.size w wc))
                case first =>
                  have H := HC21.out
                  clear HC21
                  by_cases c24 : ((rd_T32 t116 x10_1).f0) = 0
                  · rw [if_pos c24] at H
                    have c24b0 : (((rd_T32 t116 x10_1).f0) == 0) = true := beq_iff_eq.mpr c24
                    have c24b1 : (((rd_T32 t116 x10_1).f0) != 0) = false := bne_eq_false_iff_eq.mpr c24
                    clear c24
                    (first | rw [c24b0] | (simp only [i64_w, i32_w]; rw [c24b0]) | skip)
                    as_aux_lemma =>
                      have H' := Aside0.mk H
                      clear H
                      have p128 : 0 ≤ (x10_1 : Int) := of_decide_eq_true (by first | (with_reducible assumption) | assumption)
                      have q128 : x10_1 < (t116.length : Int) := of_decide_eq_true (by first | (with_reducible assumption) | assumption)
                      obtain ⟨ad128, e128, hx128_0, hx128_1, hx128_2, hx128_3, hx128_4⟩ := at_T32 (Kd.R_reads' HO_5.out).2.2 x10_1 p128 q128
                      cases e128
                      replace p128 := eq_true p128
                      replace q128 := eq_true q128
                      have p129 : 0 ≤ (x10_1 : Int) := of_decide_eq_true (by first | (with_reducible assumption) | assumption)
                      have q129 : x10_1 < (t116.length : Int) := of_decide_eq_true (by first | (with_reducible assumption) | assumption)
                      obtain ⟨ad129, e129, hx129_0, hx129_1, hx129_2, hx129_3, hx129_4⟩ := at_T32 (Kd.R_reads' HO_5.out).2.2 x10_1 p129 q129
                      obtain rfl : ad128 = ad129 := (by injection e129)
                      replace p129 := eq_true p129
                      replace q129 := eq_true q129
                      go_wp2
                      repeat (go_quiet (fail); try go_wp2)
                      go_meet
                      case rel => exact ⟨_, (decide (((rd_T32 t116 x10_1).f2) > 0)), (by first | rfl | (simp; done) | (simp [*]; done)), H', ⟨by have := HK1.out; first | omega | exact Nat.le_refl _⟩, ⟨by (with_reducible repeat (first | apply Kd.R_alloc | apply Kd.R_drewN | apply Kd.R_drew)); exact HO_5.out⟩, ⟨by repeat (first | (with_reducible exact HR126.out) | (with_reducible refine Kd.C_alloc ?_ _) | (with_reducible refine Kd.C_drewN ?_ _) | (with_reducible refine Kd.C_drew ?_) | exact HR126.out)⟩, ⟨by repeat (first | (with_reducible first | exact HB.out | apply below_alloc | apply pw_below_drewN | apply below_drew1) | exact HB.out)⟩⟩
                  · rw [if_neg c24] at H
                    have c24b0 : (((rd_T32 t116 x10_1).f0) == 0) = false := beq_eq_false_iff_ne.mpr c24
                    have c24b1 : (((rd_T32 t116 x10_1).f0) != 0) = true := bne_iff_ne.mpr c24
                    (first | rw [c24b0] | (simp only [i64_w, i32_w]; rw [c24b0]) | skip)
                    as_aux_lemma =>
                      have H' := Aside0.mk H
                      clear H
                      have p128 : 0 ≤ (x10_1 : Int) := of_decide_eq_true (by first | (with_reducible assumption) | assumption)
                      have q128 : x10_1 < (t116.length : Int) := of_decide_eq_true (by first | (with_reducible assumption) | assumption)
                      obtain ⟨ad128, e128, hx128_0, hx128_1, hx128_2, hx128_3, hx128_4⟩ := at_T32 (Kd.R_reads' HO_5.out).2.2 x10_1 p128 q128
                      cases e128
                      replace p128 := eq_true p128
                      replace q128 := eq_true q128
                      go_wp2
                      repeat (go_quiet (fail); try go_wp2)
                      go_meet
                      case rel => exact ⟨_, (false), (by first | rfl | (simp; done) | (simp [*]; done)), H', ⟨by have := HK1.out; first | omega | exact Nat.le_refl _⟩, ⟨by (with_reducible repeat (first | apply Kd.R_alloc | apply Kd.R_drewN | apply Kd.R_drew)); exact HO_5.out⟩, ⟨by repeat (first | (with_reducible exact HR126.out) | (with_reducible refine Kd.C_alloc ?_ _) | (with_reducible refine Kd.C_drewN ?_ _) | (with_reducible refine Kd.C_drew ?_) | exact HR126.out)⟩, ⟨by repeat (first | (with_reducible first | exact HB.out | apply below_alloc | apply pw_below_drewN | apply below_drew1) | exact HB.out)⟩⟩
                case rest =>
                  clear HC21
                  try clear c1
                  try clear p1
                  try clear q1
                  try clear hx1
                  try clear c2
                  try clear p2
                  try clear q2
                  try clear c3
                  try clear c4
                  try clear p6
                  try clear p12
                  try clear q12
                  try clear hx12
                  try clear c16
                  try clear c16b0
                  try clear c17
                  try clear c17b0
                  try clear c17b1
                  try clear c18
                  try clear c18b0
                  try clear c18b1
                  try clear c19
                  try clear c19b0
                  try clear c19b1
                  try clear c22
                  try clear q22
                  try clear c24
                  try clear c24b0
                  try clear c24b1
                  try clear hx128_0
                  try clear hx128_1
                  try clear hx128_2
                  try clear hx128_3
                  try clear hx128_4
                  try clear hx129_0
                  try clear hx129_1
                  try clear hx129_2
                  try clear hx129_3
                  try clear hx129_4
                  try clear p128
                  try clear p129
                  try clear p2
                  try clear q022
                  try clear q128
                  try clear q129
                  try clear q22
                  obtain ⟨kq, x13_20, rfl, HA, HJ20, HO_5, HR126, HB⟩ := hcut
                  cases kq with
                  | zero => exact absurd HA.out (by simp [hostlerlaw17_ChooseBest.j1])
                  | succ kj20 =>
                    have H := HA.out
                    clear HA
                    simp only [hostlerlaw17_ChooseBest.j1] at H
                    have HC25 := Aside0.mk H
                    clear H
                    go_upto_region 12 with (fail)
                    repeat (go_quiet (fail); go_upto_region 12 with (fail))
                    go_cut [14] (fun v14 wc => ∃ (kq : Nat) (x14_24 : Bool), v14 = .bool x14_24 ∧ Aside0 (hostlerlaw17_ChooseBest.j2 kq a1 t116 t119 t120 t121 t122 x10_1 t127 x13_20 x14_24 = some r) ∧ Aside0 (kq ≤ kj20) ∧ Aside0 (Kd.R k32 32 wc w.heap.size (fun _ => True) (.slice Ao13 t116.length co13) t116) ∧ Aside0 (Kd.C k32 wc A22 y123.length y123) ∧ Aside0 (Below w.heap.size w wc))
                    case first =>
                      have H := HC25.out
                      clear HC25
                      by_cases c26 : 0 ≤ x10_1
                      · rw [if_pos c26] at H
                        have c26b0 : decide (0 ≤ x10_1) = true := decide_eq_true c26
                        clear c26
                        (first | rw [c26b0] | (simp only [i64_w, i32_w]; rw [c26b0]) | skip)
                        by_cases c27 : x10_1 < (t116.length : Int)
                        · rw [if_pos c27] at H
                          have c27b0 : decide (x10_1 < (t116.length : Int)) = true := decide_eq_true c27
                          clear c27
                          by_cases c28 : ((rd_T32 t116 x10_1).f0) = 0
                          · rw [if_pos c28] at H
                            have c28b0 : (((rd_T32 t116 x10_1).f0) == 0) = true := beq_iff_eq.mpr c28
                            have c28b1 : (((rd_T32 t116 x10_1).f0) != 0) = false := bne_eq_false_iff_eq.mpr c28
                            clear c28
                            obtain ⟨bq29, hbq29⟩ : ∃ b_ : Bool, b_ = ((rd_T32 t116 x10_1).f4) := ⟨_, rfl⟩
                            replace H : (if bq29 = true then (hostlerlaw17_ChooseBest.j2 kj20 a1 t116 t119 t120 t121 t122 x10_1 t127 x13_20 (decide (t127 < a1))) else (hostlerlaw17_ChooseBest.j2 kj20 a1 t116 t119 t120 t121 t122 x10_1 t127 x13_20 false)) = some r := by rw [← hbq29] at H; exact H
                            have Nbq29 := Aside0.mk hbq29
                            clear hbq29
                            by_cases c30 : bq29 = true
                            · subst c30
                              have H1 : (hostlerlaw17_ChooseBest.j2 kj20 a1 t116 t119 t120 t121 t122 x10_1 t127 x13_20 (decide (t127 < a1))) = some r := by rw [if_pos rfl] at H; exact H
                              clear H
                              have H := H1
                              clear H1
                              as_aux_lemma =>
                                have H' := Aside0.mk H
                                clear H
                                have p130 : 0 ≤ (x10_1 : Int) := of_decide_eq_true (by first | (with_reducible assumption) | assumption)
                                have q130 : x10_1 < (t116.length : Int) := of_decide_eq_true (by first | (with_reducible assumption) | assumption)
                                obtain ⟨ad130, e130, hx130_0, hx130_1, hx130_2, hx130_3, hx130_4⟩ := at_T32 (Kd.R_reads' HO_5.out).2.2 x10_1 p130 q130
                                (try rw [← Nbq29.out] at hx130_4)
                                (try rw [← Nbq29.out] at hw130_4)
                                cases e130
                                replace p130 := eq_true p130
                                replace q130 := eq_true q130
                                have p131 : 0 ≤ (x10_1 : Int) := of_decide_eq_true (by first | (with_reducible assumption) | assumption)
                                have q131 : x10_1 < (t116.length : Int) := of_decide_eq_true (by first | (with_reducible assumption) | assumption)
                                obtain ⟨ad131, e131, hx131_0, hx131_1, hx131_2, hx131_3, hx131_4⟩ := at_T32 (Kd.R_reads' HO_5.out).2.2 x10_1 p131 q131
                                (try rw [← Nbq29.out] at hx131_4)
                                (try rw [← Nbq29.out] at hw131_4)
                                obtain rfl : ad130 = ad131 := (by injection e131)
                                replace p131 := eq_true p131
                                replace q131 := eq_true q131
                                go_wp2
                                repeat (go_quiet (fail); try go_wp2)
                                go_meet
                                case rel => exact ⟨_, (decide (t127 < a1)), (by first | rfl | (simp; done) | (simp [*]; done)), H', ⟨by have := HK1.out; have := HJ20.out; first | omega | exact Nat.le_refl _⟩, ⟨by (with_reducible repeat (first | apply Kd.R_alloc | apply Kd.R_drewN | apply Kd.R_drew)); exact HO_5.out⟩, ⟨by repeat (first | (with_reducible exact HR126.out) | (with_reducible refine Kd.C_alloc ?_ _) | (with_reducible refine Kd.C_drewN ?_ _) | (with_reducible refine Kd.C_drew ?_) | exact HR126.out)⟩, ⟨by repeat (first | (with_reducible first | exact HB.out | apply below_alloc | apply pw_below_drewN | apply below_drew1) | exact HB.out)⟩⟩
                            · replace c30 := Bool.eq_false_iff.mpr c30
                              subst c30
                              have H1 : (hostlerlaw17_ChooseBest.j2 kj20 a1 t116 t119 t120 t121 t122 x10_1 t127 x13_20 false) = some r := by rw [if_neg (show ¬ (false = true) by decide)] at H; exact H
                              clear H
                              have H := H1
                              clear H1
                              as_aux_lemma =>
                                have H' := Aside0.mk H
                                clear H
                                have p130 : 0 ≤ (x10_1 : Int) := of_decide_eq_true (by first | (with_reducible assumption) | assumption)
                                have q130 : x10_1 < (t116.length : Int) := of_decide_eq_true (by first | (with_reducible assumption) | assumption)
                                obtain ⟨ad130, e130, hx130_0, hx130_1, hx130_2, hx130_3, hx130_4⟩ := at_T32 (Kd.R_reads' HO_5.out).2.2 x10_1 p130 q130
                                (try rw [← Nbq29.out] at hx130_4)
                                (try rw [← Nbq29.out] at hw130_4)
                                cases e130
                                replace p130 := eq_true p130
                                replace q130 := eq_true q130
                                have p131 : 0 ≤ (x10_1 : Int) := of_decide_eq_true (by first | (with_reducible assumption) | assumption)
                                have q131 : x10_1 < (t116.length : Int) := of_decide_eq_true (by first | (with_reducible assumption) | assumption)
                                obtain ⟨ad131, e131, hx131_0, hx131_1, hx131_2, hx131_3, hx131_4⟩ := at_T32 (Kd.R_reads' HO_5.out).2.2 x10_1 p131 q131
                                (try rw [← Nbq29.out] at hx131_4)
                                (try rw [← Nbq29.out] at hw131_4)
                                obtain rfl : ad130 = ad131 := (by injection e131)
                                replace p131 := eq_true p131
                                replace q131 := eq_true q131
                                go_wp2
                                repeat (go_quiet (fail); try go_wp2)
                                go_meet
                                case rel => exact ⟨_, (false), (by first | rfl | (simp; done) | (simp [*]; done)), H', ⟨by have := HK1.out; have := HJ20.out; first | omega | exact Nat.le_refl _⟩, ⟨by (with_reducible repeat (first | apply Kd.R_alloc | apply Kd.R_drewN | apply Kd.R_drew)); exact HO_5.out⟩, ⟨by repeat (first | (with_reducible exact HR126.out) | (with_reducible refine Kd.C_alloc ?_ _) | (with_reducible refine Kd.C_drewN ?_ _) | (with_reducible refine Kd.C_drew ?_) | exact HR126.out)⟩, ⟨by repeat (first | (with_reducible first | exact HB.out | apply below_alloc | apply pw_below_drewN | apply below_drew1) | exact HB.out)⟩⟩
                          · rw [if_neg c28] at H
                            have c28b0 : (((rd_T32 t116 x10_1).f0) == 0) = false := beq_eq_false_iff_ne.mpr c28
                            have c28b1 : (((rd_T32 t116 x10_1).f0) != 0) = true := bne_iff_ne.mpr c28
                            as_aux_lemma =>
                              have H' := Aside0.mk H
                              clear H
                              have p130 : 0 ≤ (x10_1 : Int) := of_decide_eq_true (by first | (with_reducible assumption) | assumption)
                              have q130 : x10_1 < (t116.length : Int) := of_decide_eq_true (by first | (with_reducible assumption) | assumption)
                              obtain ⟨ad130, e130, hx130_0, hx130_1, hx130_2, hx130_3, hx130_4⟩ := at_T32 (Kd.R_reads' HO_5.out).2.2 x10_1 p130 q130
                              cases e130
                              replace p130 := eq_true p130
                              replace q130 := eq_true q130
                              go_wp2
                              repeat (go_quiet (fail); try go_wp2)
                              go_meet
                              case rel => exact ⟨_, (false), (by first | rfl | (simp; done) | (simp [*]; done)), H', ⟨by have := HK1.out; have := HJ20.out; first | omega | exact Nat.le_refl _⟩, ⟨by (with_reducible repeat (first | apply Kd.R_alloc | apply Kd.R_drewN | apply Kd.R_drew)); exact HO_5.out⟩, ⟨by repeat (first | (with_reducible exact HR126.out) | (with_reducible refine Kd.C_alloc ?_ _) | (with_reducible refine Kd.C_drewN ?_ _) | (with_reducible refine Kd.C_drew ?_) | exact HR126.out)⟩, ⟨by repeat (first | (with_reducible first | exact HB.out | apply below_alloc | apply pw_below_drewN | apply below_drew1) | exact HB.out)⟩⟩
                        · rw [if_neg c27] at H
                          exact absurd H (by simp)
                      · rw [if_neg c26] at H
                        exact absurd H (by simp)
                    case rest =>
                      clear HC25
                      try clear c1
                      try clear p1
                      try clear q1
                      try clear hx1
                      try clear c2
                      try clear p2
                      try clear q2
                      try clear c3
                      try clear c4
                      try clear p6
                      try clear p12
                      try clear q12
                      try clear hx12
                      try clear p13
                      try clear q13
                      try clear hx13
                      try clear c16
                      try clear c16b0
                      try clear c17
                      try clear c17b0
                      try clear c17b1
                      try clear c18
                      try clear c18b0
                      try clear c18b1
                      try clear c19
                      try clear c19b0
                      try clear c19b1
                      try clear c22
                      try clear q22
                      try clear c24
                      try clear c24b0
                      try clear c24b1
                      try clear c26
                      try clear c26b0
                      try clear c27
                      try clear c27b0
                      try clear c28
                      try clear c28b0
                      try clear c28b1
                      try clear q29
                      try clear c30
                      try clear hx128_0
                      try clear hx128_1
                      try clear hx128_2
                      try clear hx128_3
                      try clear hx128_4
                      try clear hx129_0
                      try clear hx129_1
                      try clear hx129_2
                      try clear hx129_3
                      try clear hx129_4
                      try clear hx130_0
                      try clear hx130_1
                      try clear hx130_2
                      try clear hx130_3
                      try clear hx130_4
                      try clear hx131_0
                      try clear hx131_1
                      try clear hx131_2
                      try clear hx131_3
                      try clear hx131_4
                      try clear p1
                      try clear p12
                      try clear p128
                      try clear p129
                      try clear p130
                      try clear p131
                      try clear p2
                      try clear p6
                      try clear q022
                      try clear q1
                      try clear q12
                      try clear q128
                      try clear q129
                      try clear q130
                      try clear q131
                      try clear q2
                      try clear q22
                      obtain ⟨kq, x14_24, rfl, HA, HJ24, HO_5, HR126, HB⟩ := hcut
                      cases kq with
                      | zero => exact absurd HA.out (by simp [hostlerlaw17_ChooseBest.j2])
                      | succ kj24 =>
                        have H := HA.out
                        clear HA
                        simp only [hostlerlaw17_ChooseBest.j2] at H
                        have HC31 := Aside0.mk H
                        clear H
                        go_upto_region 13 with (fail)
                        repeat (go_quiet (fail); go_upto_region 13 with (fail))
                        go_cut [127] (fun v127 wc => ∃ (kq : Nat) (x127_30 : Bool), v127 = .bool x127_30 ∧ Aside0 (hostlerlaw17_ChooseBest.j3 kq a1 t116 t119 t120 t121 t122 x10_1 t127 x14_24 x127_30 = some r) ∧ Aside0 (kq ≤ kj24) ∧ Aside0 (Kd.R k32 32 wc w.heap.size (fun _ => True) (.slice Ao13 t116.length co13) t116) ∧ Aside0 (Kd.C k32 wc A22 y123.length y123) ∧ Aside0 (Below w.heap.size w wc))
                        case first =>
                          have H := HC31.out
                          clear HC31
                          by_cases c32 : x13_20 = true
                          · subst c32
                            have H1 : (if t120 = true then (if 0 ≤ x10_1 then (if x10_1 < (t116.length : Int) then (if 0 ≤ t119 then (if t119 < (t116.length : Int) then (if (mx ((rd_T32 t116 x10_1).f3) 0) < (mx ((rd_T32 t116 t119).f3) 0) then (hostlerlaw17_ChooseBest.j3 kj24 a1 t116 t119 t120 t121 t122 x10_1 t127 x14_24 true) else (if (mx ((rd_T32 t116 x10_1).f3) 0) = (mx ((rd_T32 t116 t119).f3) 0) then (if x10_1 < t119 then (hostlerlaw17_ChooseBest.j3 kj24 a1 t116 t119 t120 t121 t122 x10_1 t127 x14_24 true) else (if x10_1 = t119 then (hostlerlaw17_ChooseBest.j3 kj24 a1 t116 t119 t120 t121 t122 x10_1 t127 x14_24 (!true)) else (hostlerlaw17_ChooseBest.j3 kj24 a1 t116 t119 t120 t121 t122 x10_1 t127 x14_24 false))) else (if x10_1 = t119 then (hostlerlaw17_ChooseBest.j3 kj24 a1 t116 t119 t120 t121 t122 x10_1 t127 x14_24 (!true)) else (hostlerlaw17_ChooseBest.j3 kj24 a1 t116 t119 t120 t121 t122 x10_1 t127 x14_24 false)))) else (none)) else (none)) else (none)) else (none)) else (hostlerlaw17_ChooseBest.j3 kj24 a1 t116 t119 t120 t121 t122 x10_1 t127 x14_24 true)) = some r := by rw [if_pos rfl] at H; exact H
                            clear H
                            have H := H1
                            clear H1
                            by_cases c33 : t120 = true
                            · subst c33
                              have H1 : (if 0 ≤ x10_1 then (if x10_1 < (t116.length : Int) then (if 0 ≤ t119 then (if t119 < (t116.length : Int) then (if (mx ((rd_T32 t116 x10_1).f3) 0) < (mx ((rd_T32 t116 t119).f3) 0) then (hostlerlaw17_ChooseBest.j3 kj24 a1 t116 t119 true t121 t122 x10_1 t127 x14_24 true) else (if (mx ((rd_T32 t116 x10_1).f3) 0) = (mx ((rd_T32 t116 t119).f3) 0) then (if x10_1 < t119 then (hostlerlaw17_ChooseBest.j3 kj24 a1 t116 t119 true t121 t122 x10_1 t127 x14_24 true) else (if x10_1 = t119 then (hostlerlaw17_ChooseBest.j3 kj24 a1 t116 t119 true t121 t122 x10_1 t127 x14_24 (!true)) else (hostlerlaw17_ChooseBest.j3 kj24 a1 t116 t119 true t121 t122 x10_1 t127 x14_24 false))) else (if x10_1 = t119 then (hostlerlaw17_ChooseBest.j3 kj24 a1 t116 t119 true t121 t122 x10_1 t127 x14_24 (!true)) else (hostlerlaw17_ChooseBest.j3 kj24 a1 t116 t119 true t121 t122 x10_1 t127 x14_24 false)))) else (none)) else (none)) else (none)) else (none)) = some r := by rw [if_pos rfl] at H; exact H
                              clear H
                              have H := H1
                              clear H1
                              by_cases c34 : 0 ≤ x10_1
                              · rw [if_pos c34] at H
                                have c34b0 : decide (0 ≤ x10_1) = true := decide_eq_true c34
                                clear c34
                                (first | rw [c34b0] | (simp only [i64_w, i32_w]; rw [c34b0]) | skip)
                                by_cases c35 : x10_1 < (t116.length : Int)
                                · rw [if_pos c35] at H
                                  have c35b0 : decide (x10_1 < (t116.length : Int)) = true := decide_eq_true c35
                                  clear c35
                                  obtain ⟨ji36, hji36⟩ : ∃ j_ : Int, (mx ((rd_T32 t116 x10_1).f3) 0) = j_ := ⟨_, rfl⟩
                                  replace H : (if 0 ≤ t119 then (if t119 < (t116.length : Int) then (if (ji36) < (mx ((rd_T32 t116 t119).f3) 0) then (hostlerlaw17_ChooseBest.j3 kj24 a1 t116 t119 true t121 t122 x10_1 t127 x14_24 true) else (if (ji36) = (mx ((rd_T32 t116 t119).f3) 0) then (if x10_1 < t119 then (hostlerlaw17_ChooseBest.j3 kj24 a1 t116 t119 true t121 t122 x10_1 t127 x14_24 true) else (if x10_1 = t119 then (hostlerlaw17_ChooseBest.j3 kj24 a1 t116 t119 true t121 t122 x10_1 t127 x14_24 (!true)) else (hostlerlaw17_ChooseBest.j3 kj24 a1 t116 t119 true t121 t122 x10_1 t127 x14_24 false))) else (if x10_1 = t119 then (hostlerlaw17_ChooseBest.j3 kj24 a1 t116 t119 true t121 t122 x10_1 t127 x14_24 (!true)) else (hostlerlaw17_ChooseBest.j3 kj24 a1 t116 t119 true t121 t122 x10_1 t127 x14_24 false)))) else (none)) else (none)) = some r := by first | (rw [hji36] at H; exact H) | (simp only [hji36] at H ⊢; exact H)
                                  have hji36_ : (if ((rd_T32 t116 x10_1).f3) < 0 then 0 else ((rd_T32 t116 x10_1).f3)) = ji36 := hji36
                                  by_cases c37 : 0 ≤ t119
                                  · rw [if_pos c37] at H
                                    have c37b0 : decide (0 ≤ t119) = true := decide_eq_true c37
                                    clear c37
                                    by_cases c38 : t119 < (t116.length : Int)
                                    · rw [if_pos c38] at H
                                      have c38b0 : decide (t119 < (t116.length : Int)) = true := decide_eq_true c38
                                      clear c38
                                      obtain ⟨ji39, hji39⟩ : ∃ j_ : Int, (mx ((rd_T32 t116 t119).f3) 0) = j_ := ⟨_, rfl⟩
                                      replace H : (if (ji36) < (ji39) then (hostlerlaw17_ChooseBest.j3 kj24 a1 t116 t119 true t121 t122 x10_1 t127 x14_24 true) else (if (ji36) = (ji39) then (if x10_1 < t119 then (hostlerlaw17_ChooseBest.j3 kj24 a1 t116 t119 true t121 t122 x10_1 t127 x14_24 true) else (if x10_1 = t119 then (hostlerlaw17_ChooseBest.j3 kj24 a1 t116 t119 true t121 t122 x10_1 t127 x14_24 (!true)) else (hostlerlaw17_ChooseBest.j3 kj24 a1 t116 t119 true t121 t122 x10_1 t127 x14_24 false))) else (if x10_1 = t119 then (hostlerlaw17_ChooseBest.j3 kj24 a1 t116 t119 true t121 t122 x10_1 t127 x14_24 (!true)) else (hostlerlaw17_ChooseBest.j3 kj24 a1 t116 t119 true t121 t122 x10_1 t127 x14_24 false)))) = some r := by first | (rw [hji39] at H; exact H) | (simp only [hji39] at H ⊢; exact H)
                                      have hji39_ : (if ((rd_T32 t116 t119).f3) < 0 then 0 else ((rd_T32 t116 t119).f3)) = ji39 := hji39
                                      by_cases c40 : (ji36) < (ji39)
                                      · rw [if_pos c40] at H
                                        have c40b0 : decide ((ji36) < (ji39)) = true := decide_eq_true c40
                                        clear c40
                                        as_aux_lemma =>
                                          have H' := Aside0.mk H
                                          clear H
                                          have p132 : 0 ≤ (x10_1 : Int) := of_decide_eq_true (by first | (with_reducible assumption) | assumption)
                                          have q132 : x10_1 < (t116.length : Int) := of_decide_eq_true (by first | (with_reducible assumption) | assumption)
                                          obtain ⟨ad132, e132, hx132_0, hx132_1, hx132_2, hx132_3, hx132_4⟩ := at_T32 (Kd.R_reads' HO_5.out).2.2 x10_1 p132 q132
                                          cases e132
                                          replace p132 := eq_true p132
                                          replace q132 := eq_true q132
                                          have p133 : 0 ≤ (t119 : Int) := of_decide_eq_true (by first | (with_reducible assumption) | assumption)
                                          have q133 : t119 < (t116.length : Int) := of_decide_eq_true (by first | (with_reducible assumption) | assumption)
                                          obtain ⟨ad133, e133, hx133_0, hx133_1, hx133_2, hx133_3, hx133_4⟩ := at_T32 (Kd.R_reads' HO_5.out).2.2 t119 p133 q133
                                          obtain rfl : ad132 = ad133 := (by injection e133)
                                          replace p133 := eq_true p133
                                          replace q133 := eq_true q133
                                          go_wp2
                                          repeat (go_quiet (fail); try go_wp2)
                                          go_meet
                                          case rel => exact ⟨_, (true), (by first | rfl | (simp; done) | (simp [*]; done)), (by first | exact H' | (simp only [hji36, hji39]; exact H')), ⟨by have := HK1.out; have := HJ20.out; have := HJ24.out; first | omega | exact Nat.le_refl _⟩, ⟨by (with_reducible repeat (first | apply Kd.R_alloc | apply Kd.R_drewN | apply Kd.R_drew)); exact HO_5.out⟩, ⟨by repeat (first | (with_reducible exact HR126.out) | (with_reducible refine Kd.C_alloc ?_ _) | (with_reducible refine Kd.C_drewN ?_ _) | (with_reducible refine Kd.C_drew ?_) | exact HR126.out)⟩, ⟨by repeat (first | (with_reducible first | exact HB.out | apply below_alloc | apply pw_below_drewN | apply below_drew1) | exact HB.out)⟩⟩
                                      · rw [if_neg c40] at H
                                        have c40b0 : decide ((ji36) < (ji39)) = false := decide_eq_false c40
                                        clear c40
                                        by_cases c41 : (ji36) = (ji39)
                                        · rw [if_pos c41] at H
                                          have c41b0 : ((ji36) == (ji39)) = true := beq_iff_eq.mpr c41
                                          have c41b1 : ((ji36) != (ji39)) = false := bne_eq_false_iff_eq.mpr c41
                                          clear c41
                                          by_cases c42 : x10_1 < t119
                                          · rw [if_pos c42] at H
                                            have c42b0 : decide (x10_1 < t119) = true := decide_eq_true c42
                                            clear c42
                                            as_aux_lemma =>
                                              have H' := Aside0.mk H
                                              clear H
                                              have p132 : 0 ≤ (x10_1 : Int) := of_decide_eq_true (by first | (with_reducible assumption) | assumption)
                                              have q132 : x10_1 < (t116.length : Int) := of_decide_eq_true (by first | (with_reducible assumption) | assumption)
                                              obtain ⟨ad132, e132, hx132_0, hx132_1, hx132_2, hx132_3, hx132_4⟩ := at_T32 (Kd.R_reads' HO_5.out).2.2 x10_1 p132 q132
                                              cases e132
                                              replace p132 := eq_true p132
                                              replace q132 := eq_true q132
                                              have p133 : 0 ≤ (t119 : Int) := of_decide_eq_true (by first | (with_reducible assumption) | assumption)
                                              have q133 : t119 < (t116.length : Int) := of_decide_eq_true (by first | (with_reducible assumption) | assumption)
                                              obtain ⟨ad133, e133, hx133_0, hx133_1, hx133_2, hx133_3, hx133_4⟩ := at_T32 (Kd.R_reads' HO_5.out).2.2 t119 p133 q133
                                              obtain rfl : ad132 = ad133 := (by injection e133)
                                              replace p133 := eq_true p133
                                              replace q133 := eq_true q133
                                              have p134 : 0 ≤ (x10_1 : Int) := of_decide_eq_true (by first | (with_reducible assumption) | assumption)
                                              have q134 : x10_1 < (t116.length : Int) := of_decide_eq_true (by first | (with_reducible assumption) | assumption)
                                              obtain ⟨ad134, e134, hx134_0, hx134_1, hx134_2, hx134_3, hx134_4⟩ := at_T32 (Kd.R_reads' HO_5.out).2.2 x10_1 p134 q134
                                              obtain rfl : ad132 = ad134 := (by injection e134)
                                              replace p134 := eq_true p134
                                              replace q134 := eq_true q134
                                              have p135 : 0 ≤ (t119 : Int) := of_decide_eq_true (by first | (with_reducible assumption) | assumption)
                                              have q135 : t119 < (t116.length : Int) := of_decide_eq_true (by first | (with_reducible assumption) | assumption)
                                              obtain ⟨ad135, e135, hx135_0, hx135_1, hx135_2, hx135_3, hx135_4⟩ := at_T32 (Kd.R_reads' HO_5.out).2.2 t119 p135 q135
                                              obtain rfl : ad132 = ad135 := (by injection e135)
                                              replace p135 := eq_true p135
                                              replace q135 := eq_true q135
                                              go_wp2
                                              repeat (go_quiet (fail); try go_wp2)
                                              go_meet
                                              case rel => exact ⟨_, (true), (by first | rfl | (simp; done) | (simp [*]; done)), (by first | exact H' | (simp only [hji36, hji39]; exact H')), ⟨by have := HK1.out; have := HJ20.out; have := HJ24.out; first | omega | exact Nat.le_refl _⟩, ⟨by (with_reducible repeat (first | apply Kd.R_alloc | apply Kd.R_drewN | apply Kd.R_drew)); exact HO_5.out⟩, ⟨by repeat (first | (with_reducible exact HR126.out) | (with_reducible refine Kd.C_alloc ?_ _) | (with_reducible refine Kd.C_drewN ?_ _) | (with_reducible refine Kd.C_drew ?_) | exact HR126.out)⟩, ⟨by repeat (first | (with_reducible first | exact HB.out | apply below_alloc | apply pw_below_drewN | apply below_drew1) | exact HB.out)⟩⟩
                                          · rw [if_neg c42] at H
                                            have c42b0 : decide (x10_1 < t119) = false := decide_eq_false c42
                                            clear c42
                                            by_cases c43 : x10_1 = t119
                                            · rw [if_pos c43] at H
                                              have c43b0 : (x10_1 == t119) = true := beq_iff_eq.mpr c43
                                              have c43b1 : (x10_1 != t119) = false := bne_eq_false_iff_eq.mpr c43
                                              clear c43
                                              as_aux_lemma =>
                                                have H' := Aside0.mk H
                                                clear H
                                                have p132 : 0 ≤ (x10_1 : Int) := of_decide_eq_true (by first | (with_reducible assumption) | assumption)
                                                have q132 : x10_1 < (t116.length : Int) := of_decide_eq_true (by first | (with_reducible assumption) | assumption)
                                                obtain ⟨ad132, e132, hx132_0, hx132_1, hx132_2, hx132_3, hx132_4⟩ := at_T32 (Kd.R_reads' HO_5.out).2.2 x10_1 p132 q132
                                                cases e132
                                                replace p132 := eq_true p132
                                                replace q132 := eq_true q132
                                                have p133 : 0 ≤ (t119 : Int) := of_decide_eq_true (by first | (with_reducible assumption) | assumption)
                                                have q133 : t119 < (t116.length : Int) := of_decide_eq_true (by first | (with_reducible assumption) | assumption)
                                                obtain ⟨ad133, e133, hx133_0, hx133_1, hx133_2, hx133_3, hx133_4⟩ := at_T32 (Kd.R_reads' HO_5.out).2.2 t119 p133 q133
                                                obtain rfl : ad132 = ad133 := (by injection e133)
                                                replace p133 := eq_true p133
                                                replace q133 := eq_true q133
                                                have p134 : 0 ≤ (x10_1 : Int) := of_decide_eq_true (by first | (with_reducible assumption) | assumption)
                                                have q134 : x10_1 < (t116.length : Int) := of_decide_eq_true (by first | (with_reducible assumption) | assumption)
                                                obtain ⟨ad134, e134, hx134_0, hx134_1, hx134_2, hx134_3, hx134_4⟩ := at_T32 (Kd.R_reads' HO_5.out).2.2 x10_1 p134 q134
                                                obtain rfl : ad132 = ad134 := (by injection e134)
                                                replace p134 := eq_true p134
                                                replace q134 := eq_true q134
                                                have p135 : 0 ≤ (t119 : Int) := of_decide_eq_true (by first | (with_reducible assumption) | assumption)
                                                have q135 : t119 < (t116.length : Int) := of_decide_eq_true (by first | (with_reducible assumption) | assumption)
                                                obtain ⟨ad135, e135, hx135_0, hx135_1, hx135_2, hx135_3, hx135_4⟩ := at_T32 (Kd.R_reads' HO_5.out).2.2 t119 p135 q135
                                                obtain rfl : ad132 = ad135 := (by injection e135)
                                                replace p135 := eq_true p135
                                                replace q135 := eq_true q135
                                                go_wp2
                                                repeat (go_quiet (fail); try go_wp2)
                                                go_meet
                                                case rel => exact ⟨_, (!true), (by first | rfl | (simp; done) | (simp [*]; done)), (by first | exact H' | (simp only [hji36, hji39]; exact H')), ⟨by have := HK1.out; have := HJ20.out; have := HJ24.out; first | omega | exact Nat.le_refl _⟩, ⟨by (with_reducible repeat (first | apply Kd.R_alloc | apply Kd.R_drewN | apply Kd.R_drew)); exact HO_5.out⟩, ⟨by repeat (first | (with_reducible exact HR126.out) | (with_reducible refine Kd.C_alloc ?_ _) | (with_reducible refine Kd.C_drewN ?_ _) | (with_reducible refine Kd.C_drew ?_) | exact HR126.out)⟩, ⟨by repeat (first | (with_reducible first | exact HB.out | apply below_alloc | apply pw_below_drewN | apply below_drew1) | exact HB.out)⟩⟩
                                            · rw [if_neg c43] at H
                                              have c43b0 : (x10_1 == t119) = false := beq_eq_false_iff_ne.mpr c43
                                              have c43b1 : (x10_1 != t119) = true := bne_iff_ne.mpr c43
                                              as_aux_lemma =>
                                                have H' := Aside0.mk H
                                                clear H
                                                have p132 : 0 ≤ (x10_1 : Int) := of_decide_eq_true (by first | (with_reducible assumption) | assumption)
                                                have q132 : x10_1 < (t116.length : Int) := of_decide_eq_true (by first | (with_reducible assumption) | assumption)
                                                obtain ⟨ad132, e132, hx132_0, hx132_1, hx132_2, hx132_3, hx132_4⟩ := at_T32 (Kd.R_reads' HO_5.out).2.2 x10_1 p132 q132
                                                cases e132
                                                replace p132 := eq_true p132
                                                replace q132 := eq_true q132
                                                have p133 : 0 ≤ (t119 : Int) := of_decide_eq_true (by first | (with_reducible assumption) | assumption)
                                                have q133 : t119 < (t116.length : Int) := of_decide_eq_true (by first | (with_reducible assumption) | assumption)
                                                obtain ⟨ad133, e133, hx133_0, hx133_1, hx133_2, hx133_3, hx133_4⟩ := at_T32 (Kd.R_reads' HO_5.out).2.2 t119 p133 q133
                                                obtain rfl : ad132 = ad133 := (by injection e133)
                                                replace p133 := eq_true p133
                                                replace q133 := eq_true q133
                                                have p134 : 0 ≤ (x10_1 : Int) := of_decide_eq_true (by first | (with_reducible assumption) | assumption)
                                                have q134 : x10_1 < (t116.length : Int) := of_decide_eq_true (by first | (with_reducible assumption) | assumption)
                                                obtain ⟨ad134, e134, hx134_0, hx134_1, hx134_2, hx134_3, hx134_4⟩ := at_T32 (Kd.R_reads' HO_5.out).2.2 x10_1 p134 q134
                                                obtain rfl : ad132 = ad134 := (by injection e134)
                                                replace p134 := eq_true p134
                                                replace q134 := eq_true q134
                                                have p135 : 0 ≤ (t119 : Int) := of_decide_eq_true (by first | (with_reducible assumption) | assumption)
                                                have q135 : t119 < (t116.length : Int) := of_decide_eq_true (by first | (with_reducible assumption) | assumption)
                                                obtain ⟨ad135, e135, hx135_0, hx135_1, hx135_2, hx135_3, hx135_4⟩ := at_T32 (Kd.R_reads' HO_5.out).2.2 t119 p135 q135
                                                obtain rfl : ad132 = ad135 := (by injection e135)
                                                replace p135 := eq_true p135
                                                replace q135 := eq_true q135
                                                go_wp2
                                                repeat (go_quiet (fail); try go_wp2)
                                                go_meet
                                                case rel => exact ⟨_, (false), (by first | rfl | (simp; done) | (simp [*]; done)), (by first | exact H' | (simp only [hji36, hji39]; exact H')), ⟨by have := HK1.out; have := HJ20.out; have := HJ24.out; first | omega | exact Nat.le_refl _⟩, ⟨by (with_reducible repeat (first | apply Kd.R_alloc | apply Kd.R_drewN | apply Kd.R_drew)); exact HO_5.out⟩, ⟨by repeat (first | (with_reducible exact HR126.out) | (with_reducible refine Kd.C_alloc ?_ _) | (with_reducible refine Kd.C_drewN ?_ _) | (with_reducible refine Kd.C_drew ?_) | exact HR126.out)⟩, ⟨by repeat (first | (with_reducible first | exact HB.out | apply below_alloc | apply pw_below_drewN | apply below_drew1) | exact HB.out)⟩⟩
                                        · rw [if_neg c41] at H
                                          have c41b0 : ((ji36) == (ji39)) = false := beq_eq_false_iff_ne.mpr c41
                                          have c41b1 : ((ji36) != (ji39)) = true := bne_iff_ne.mpr c41
                                          by_cases c44 : x10_1 = t119
                                          · rw [if_pos c44] at H
                                            have c44b0 : (x10_1 == t119) = true := beq_iff_eq.mpr c44
                                            have c44b1 : (x10_1 != t119) = false := bne_eq_false_iff_eq.mpr c44
                                            clear c44
                                            as_aux_lemma =>
                                              have H' := Aside0.mk H
                                              clear H
                                              have p132 : 0 ≤ (x10_1 : Int) := of_decide_eq_true (by first | (with_reducible assumption) | assumption)
                                              have q132 : x10_1 < (t116.length : Int) := of_decide_eq_true (by first | (with_reducible assumption) | assumption)
                                              obtain ⟨ad132, e132, hx132_0, hx132_1, hx132_2, hx132_3, hx132_4⟩ := at_T32 (Kd.R_reads' HO_5.out).2.2 x10_1 p132 q132
                                              cases e132
                                              replace p132 := eq_true p132
                                              replace q132 := eq_true q132
                                              have p133 : 0 ≤ (t119 : Int) := of_decide_eq_true (by first | (with_reducible assumption) | assumption)
                                              have q133 : t119 < (t116.length : Int) := of_decide_eq_true (by first | (with_reducible assumption) | assumption)
                                              obtain ⟨ad133, e133, hx133_0, hx133_1, hx133_2, hx133_3, hx133_4⟩ := at_T32 (Kd.R_reads' HO_5.out).2.2 t119 p133 q133
                                              obtain rfl : ad132 = ad133 := (by injection e133)
                                              replace p133 := eq_true p133
                                              replace q133 := eq_true q133
                                              have p134 : 0 ≤ (x10_1 : Int) := of_decide_eq_true (by first | (with_reducible assumption) | assumption)
                                              have q134 : x10_1 < (t116.length : Int) := of_decide_eq_true (by first | (with_reducible assumption) | assumption)
                                              obtain ⟨ad134, e134, hx134_0, hx134_1, hx134_2, hx134_3, hx134_4⟩ := at_T32 (Kd.R_reads' HO_5.out).2.2 x10_1 p134 q134
                                              obtain rfl : ad132 = ad134 := (by injection e134)
                                              replace p134 := eq_true p134
                                              replace q134 := eq_true q134
                                              have p135 : 0 ≤ (t119 : Int) := of_decide_eq_true (by first | (with_reducible assumption) | assumption)
                                              have q135 : t119 < (t116.length : Int) := of_decide_eq_true (by first | (with_reducible assumption) | assumption)
                                              obtain ⟨ad135, e135, hx135_0, hx135_1, hx135_2, hx135_3, hx135_4⟩ := at_T32 (Kd.R_reads' HO_5.out).2.2 t119 p135 q135
                                              obtain rfl : ad132 = ad135 := (by injection e135)
                                              replace p135 := eq_true p135
                                              replace q135 := eq_true q135
                                              go_wp2
                                              repeat (go_quiet (fail); try go_wp2)
                                              go_meet
                                              case rel => exact ⟨_, (!true), (by first | rfl | (simp; done) | (simp [*]; done)), (by first | exact H' | (simp only [hji36, hji39]; exact H')), ⟨by have := HK1.out; have := HJ20.out; have := HJ24.out; first | omega | exact Nat.le_refl _⟩, ⟨by (with_reducible repeat (first | apply Kd.R_alloc | apply Kd.R_drewN | apply Kd.R_drew)); exact HO_5.out⟩, ⟨by repeat (first | (with_reducible exact HR126.out) | (with_reducible refine Kd.C_alloc ?_ _) | (with_reducible refine Kd.C_drewN ?_ _) | (with_reducible refine Kd.C_drew ?_) | exact HR126.out)⟩, ⟨by repeat (first | (with_reducible first | exact HB.out | apply below_alloc | apply pw_below_drewN | apply below_drew1) | exact HB.out)⟩⟩
                                          · rw [if_neg c44] at H
                                            have c44b0 : (x10_1 == t119) = false := beq_eq_false_iff_ne.mpr c44
                                            have c44b1 : (x10_1 != t119) = true := bne_iff_ne.mpr c44
                                            as_aux_lemma =>
                                              have H' := Aside0.mk H
                                              clear H
                                              have p132 : 0 ≤ (x10_1 : Int) := of_decide_eq_true (by first | (with_reducible assumption) | assumption)
                                              have q132 : x10_1 < (t116.length : Int) := of_decide_eq_true (by first | (with_reducible assumption) | assumption)
                                              obtain ⟨ad132, e132, hx132_0, hx132_1, hx132_2, hx132_3, hx132_4⟩ := at_T32 (Kd.R_reads' HO_5.out).2.2 x10_1 p132 q132
                                              cases e132
                                              replace p132 := eq_true p132
                                              replace q132 := eq_true q132
                                              have p133 : 0 ≤ (t119 : Int) := of_decide_eq_true (by first | (with_reducible assumption) | assumption)
                                              have q133 : t119 < (t116.length : Int) := of_decide_eq_true (by first | (with_reducible assumption) | assumption)
                                              obtain ⟨ad133, e133, hx133_0, hx133_1, hx133_2, hx133_3, hx133_4⟩ := at_T32 (Kd.R_reads' HO_5.out).2.2 t119 p133 q133
                                              obtain rfl : ad132 = ad133 := (by injection e133)
                                              replace p133 := eq_true p133
                                              replace q133 := eq_true q133
                                              have p134 : 0 ≤ (x10_1 : Int) := of_decide_eq_true (by first | (with_reducible assumption) | assumption)
                                              have q134 : x10_1 < (t116.length : Int) := of_decide_eq_true (by first | (with_reducible assumption) | assumption)
                                              obtain ⟨ad134, e134, hx134_0, hx134_1, hx134_2, hx134_3, hx134_4⟩ := at_T32 (Kd.R_reads' HO_5.out).2.2 x10_1 p134 q134
                                              obtain rfl : ad132 = ad134 := (by injection e134)
                                              replace p134 := eq_true p134
                                              replace q134 := eq_true q134
                                              have p135 : 0 ≤ (t119 : Int) := of_decide_eq_true (by first | (with_reducible assumption) | assumption)
                                              have q135 : t119 < (t116.length : Int) := of_decide_eq_true (by first | (with_reducible assumption) | assumption)
                                              obtain ⟨ad135, e135, hx135_0, hx135_1, hx135_2, hx135_3, hx135_4⟩ := at_T32 (Kd.R_reads' HO_5.out).2.2 t119 p135 q135
                                              obtain rfl : ad132 = ad135 := (by injection e135)
                                              replace p135 := eq_true p135
                                              replace q135 := eq_true q135
                                              go_wp2
                                              repeat (go_quiet (fail); try go_wp2)
                                              go_meet
                                              case rel => exact ⟨_, (false), (by first | rfl | (simp; done) | (simp [*]; done)), (by first | exact H' | (simp only [hji36, hji39]; exact H')), ⟨by have := HK1.out; have := HJ20.out; have := HJ24.out; first | omega | exact Nat.le_refl _⟩, ⟨by (with_reducible repeat (first | apply Kd.R_alloc | apply Kd.R_drewN | apply Kd.R_drew)); exact HO_5.out⟩, ⟨by repeat (first | (with_reducible exact HR126.out) | (with_reducible refine Kd.C_alloc ?_ _) | (with_reducible refine Kd.C_drewN ?_ _) | (with_reducible refine Kd.C_drew ?_) | exact HR126.out)⟩, ⟨by repeat (first | (with_reducible first | exact HB.out | apply below_alloc | apply pw_below_drewN | apply below_drew1) | exact HB.out)⟩⟩
                                    · rw [if_neg c38] at H
                                      exact absurd H (by simp)
                                  · rw [if_neg c37] at H
                                    exact absurd H (by simp)
                                · rw [if_neg c35] at H
                                  exact absurd H (by simp)
                              · rw [if_neg c34] at H
                                exact absurd H (by simp)
                            · replace c33 := Bool.eq_false_iff.mpr c33
                              subst c33
                              have H1 : (hostlerlaw17_ChooseBest.j3 kj24 a1 t116 t119 false t121 t122 x10_1 t127 x14_24 true) = some r := by rw [if_neg (show ¬ (false = true) by decide)] at H; exact H
                              clear H
                              have H := H1
                              clear H1
                              as_aux_lemma =>
                                have H' := Aside0.mk H
                                clear H
                                go_wp2
                                repeat (go_quiet (fail); try go_wp2)
                                go_meet
                                case rel => exact ⟨_, (true), (by first | rfl | (simp; done) | (simp [*]; done)), H', ⟨by have := HK1.out; have := HJ20.out; have := HJ24.out; first | omega | exact Nat.le_refl _⟩, ⟨by (with_reducible repeat (first | apply Kd.R_alloc | apply Kd.R_drewN | apply Kd.R_drew)); exact HO_5.out⟩, ⟨by repeat (first | (with_reducible exact HR126.out) | (with_reducible refine Kd.C_alloc ?_ _) | (with_reducible refine Kd.C_drewN ?_ _) | (with_reducible refine Kd.C_drew ?_) | exact HR126.out)⟩, ⟨by repeat (first | (with_reducible first | exact HB.out | apply below_alloc | apply pw_below_drewN | apply below_drew1) | exact HB.out)⟩⟩
                          · replace c32 := Bool.eq_false_iff.mpr c32
                            subst c32
                            have H1 : (if x10_1 = t119 then (if t120 = true then (hostlerlaw17_ChooseBest.j3 kj24 a1 t116 t119 t120 t121 t122 x10_1 t127 x14_24 (!false)) else (hostlerlaw17_ChooseBest.j3 kj24 a1 t116 t119 t120 t121 t122 x10_1 t127 x14_24 false)) else (hostlerlaw17_ChooseBest.j3 kj24 a1 t116 t119 t120 t121 t122 x10_1 t127 x14_24 false)) = some r := by rw [if_neg (show ¬ (false = true) by decide)] at H; exact H
                            clear H
                            have H := H1
                            clear H1
                            by_cases c45 : x10_1 = t119
                            · rw [if_pos c45] at H
                              have c45b0 : (x10_1 == t119) = true := beq_iff_eq.mpr c45
                              have c45b1 : (x10_1 != t119) = false := bne_eq_false_iff_eq.mpr c45
                              clear c45
                              by_cases c46 : t120 = true
                              · subst c46
                                have H1 : (hostlerlaw17_ChooseBest.j3 kj24 a1 t116 t119 true t121 t122 x10_1 t127 x14_24 (!false)) = some r := by rw [if_pos rfl] at H; exact H
                                clear H
                                have H := H1
                                clear H1
                                as_aux_lemma =>
                                  have H' := Aside0.mk H
                                  clear H
                                  go_wp2
                                  repeat (go_quiet (fail); try go_wp2)
                                  go_meet
                                  case rel => exact ⟨_, (!false), (by first | rfl | (simp; done) | (simp [*]; done)), H', ⟨by have := HK1.out; have := HJ20.out; have := HJ24.out; first | omega | exact Nat.le_refl _⟩, ⟨by (with_reducible repeat (first | apply Kd.R_alloc | apply Kd.R_drewN | apply Kd.R_drew)); exact HO_5.out⟩, ⟨by repeat (first | (with_reducible exact HR126.out) | (with_reducible refine Kd.C_alloc ?_ _) | (with_reducible refine Kd.C_drewN ?_ _) | (with_reducible refine Kd.C_drew ?_) | exact HR126.out)⟩, ⟨by repeat (first | (with_reducible first | exact HB.out | apply below_alloc | apply pw_below_drewN | apply below_drew1) | exact HB.out)⟩⟩
                              · replace c46 := Bool.eq_false_iff.mpr c46
                                subst c46
                                have H1 : (hostlerlaw17_ChooseBest.j3 kj24 a1 t116 t119 false t121 t122 x10_1 t127 x14_24 false) = some r := by rw [if_neg (show ¬ (false = true) by decide)] at H; exact H
                                clear H
                                have H := H1
                                clear H1
                                as_aux_lemma =>
                                  have H' := Aside0.mk H
                                  clear H
                                  go_wp2
                                  repeat (go_quiet (fail); try go_wp2)
                                  go_meet
                                  case rel => exact ⟨_, (false), (by first | rfl | (simp; done) | (simp [*]; done)), H', ⟨by have := HK1.out; have := HJ20.out; have := HJ24.out; first | omega | exact Nat.le_refl _⟩, ⟨by (with_reducible repeat (first | apply Kd.R_alloc | apply Kd.R_drewN | apply Kd.R_drew)); exact HO_5.out⟩, ⟨by repeat (first | (with_reducible exact HR126.out) | (with_reducible refine Kd.C_alloc ?_ _) | (with_reducible refine Kd.C_drewN ?_ _) | (with_reducible refine Kd.C_drew ?_) | exact HR126.out)⟩, ⟨by repeat (first | (with_reducible first | exact HB.out | apply below_alloc | apply pw_below_drewN | apply below_drew1) | exact HB.out)⟩⟩
                            · rw [if_neg c45] at H
                              have c45b0 : (x10_1 == t119) = false := beq_eq_false_iff_ne.mpr c45
                              have c45b1 : (x10_1 != t119) = true := bne_iff_ne.mpr c45
                              as_aux_lemma =>
                                have H' := Aside0.mk H
                                clear H
                                go_wp2
                                repeat (go_quiet (fail); try go_wp2)
                                go_meet
                                case rel => exact ⟨_, (false), (by first | rfl | (simp; done) | (simp [*]; done)), H', ⟨by have := HK1.out; have := HJ20.out; have := HJ24.out; first | omega | exact Nat.le_refl _⟩, ⟨by (with_reducible repeat (first | apply Kd.R_alloc | apply Kd.R_drewN | apply Kd.R_drew)); exact HO_5.out⟩, ⟨by repeat (first | (with_reducible exact HR126.out) | (with_reducible refine Kd.C_alloc ?_ _) | (with_reducible refine Kd.C_drewN ?_ _) | (with_reducible refine Kd.C_drew ?_) | exact HR126.out)⟩, ⟨by repeat (first | (with_reducible first | exact HB.out | apply below_alloc | apply pw_below_drewN | apply below_drew1) | exact HB.out)⟩⟩
                        case rest =>
                          clear HC31
                          try clear c1
                          try clear p1
                          try clear q1
                          try clear hx1
                          try clear c2
                          try clear p2
                          try clear q2
                          try clear c3
                          try clear c4
                          try clear p6
                          try clear p12
                          try clear q12
                          try clear hx12
                          try clear p13
                          try clear q13
                          try clear hx13
                          try clear c16
                          try clear c16b0
                          try clear c17
                          try clear c17b0
                          try clear c17b1
                          try clear c18
                          try clear c18b0
                          try clear c18b1
                          try clear c19
                          try clear c19b0
                          try clear c19b1
                          try clear c22
                          try clear q22
                          try clear c24
                          try clear c24b0
                          try clear c24b1
                          try clear c26
                          try clear c26b0
                          try clear c27
                          try clear c27b0
                          try clear c28
                          try clear c28b0
                          try clear c28b1
                          try clear q29
                          try clear c30
                          try clear c32
                          try clear c33
                          try clear c34
                          try clear c34b0
                          try clear c35
                          try clear c35b0
                          try clear c37
                          try clear c37b0
                          try clear c38
                          try clear c38b0
                          try clear c40
                          try clear c40b0
                          try clear c41
                          try clear c41b0
                          try clear c41b1
                          try clear c42
                          try clear c42b0
                          try clear c43
                          try clear c43b0
                          try clear c43b1
                          try clear c44
                          try clear c44b0
                          try clear c44b1
                          try clear c45
                          try clear c45b0
                          try clear c45b1
                          try clear c46
                          try clear hx128_0
                          try clear hx128_1
                          try clear hx128_2
                          try clear hx128_3
                          try clear hx128_4
                          try clear hx129_0
                          try clear hx129_1
                          try clear hx129_2
                          try clear hx129_3
                          try clear hx129_4
                          try clear hx130_0
                          try clear hx130_1
                          try clear hx130_2
                          try clear hx130_3
                          try clear hx130_4
                          try clear hx131_0
                          try clear hx131_1
                          try clear hx131_2
                          try clear hx131_3
                          try clear hx131_4
                          try clear hx132_0
                          try clear hx132_1
                          try clear hx132_2
                          try clear hx132_3
                          try clear hx132_4
                          try clear hx133_0
                          try clear hx133_1
                          try clear hx133_2
                          try clear hx133_3
                          try clear hx133_4
                          try clear hx134_0
                          try clear hx134_1
                          try clear hx134_2
                          try clear hx134_3
                          try clear hx134_4
                          try clear hx135_0
                          try clear hx135_1
                          try clear hx135_2
                          try clear hx135_3
                          try clear hx135_4
                          try clear p1
                          try clear p12
                          try clear p128
                          try clear p129
                          try clear p13
                          try clear p130
                          try clear p131
                          try clear p132
                          try clear p133
                          try clear p134
                          try clear p135
                          try clear p2
                          try clear p6
                          try clear q022
                          try clear q1
                          try clear q12
                          try clear q128
                          try clear q129
                          try clear q13
                          try clear q130
                          try clear q131
                          try clear q132
                          try clear q133
                          try clear q134
                          try clear q135
                          try clear q2
                          try clear q22
                          try clear q29
                          obtain ⟨kq, x127_30, rfl, HA, HJ30, HO_5, HR126, HB⟩ := hcut
                          cases kq with
                          | zero => exact absurd HA.out (by simp [hostlerlaw17_ChooseBest.j3])
                          | succ kj30 =>
                            have H := HA.out
                            clear HA
                            simp only [hostlerlaw17_ChooseBest.j3] at H
                            by_cases c47 : x127_30 = true
                            · subst c47
                              have H1 : (none) = some r := by rw [if_pos rfl] at H; exact H
                              clear H
                              have H := H1
                              clear H1
                              exact absurd H (by simp)
                            · replace c47 := Bool.eq_false_iff.mpr c47
                              subst c47
                              have H1 : (if x14_24 = true then (if t122 = true then (if 0 ≤ t121 then (if t121 ≤ (wrap64 (t121 + 1)) then (if (wrap64 (t121 + 1)) ≤ (t116.length : Int) then ((choose_All.f kj30 ((t116.take ((wrap64 (t121 + 1)) : Int).toNat).drop (t121 : Int).toNat)).bind fun t140 => (if t127 < t140 then (none) else ((choose_All.f kj30 ((t116.take ((wrap64 (t121 + 1)) : Int).toNat).drop (t121 : Int).toNat)).bind fun t145 => (if t127 = t145 then (if x10_1 < t121 then (none) else (if x10_1 = t121 then (hostlerlaw17_ChooseBest.l0 kj30 a1 t116 t119 t120 t121 t122 (wrap64 (x10_1 + 1))) else (hostlerlaw17_ChooseBest.l0 kj30 a1 t116 t119 t120 t121 t122 (wrap64 (x10_1 + 1))))) else (if x10_1 = t121 then (hostlerlaw17_ChooseBest.l0 kj30 a1 t116 t119 t120 t121 t122 (wrap64 (x10_1 + 1))) else (hostlerlaw17_ChooseBest.l0 kj30 a1 t116 t119 t120 t121 t122 (wrap64 (x10_1 + 1)))))))) else (none)) else (none)) else (none)) else (none)) else (if x10_1 = t121 then (if t122 = true then (none) else (hostlerlaw17_ChooseBest.l0 kj30 a1 t116 t119 t120 t121 t122 (wrap64 (x10_1 + 1)))) else (hostlerlaw17_ChooseBest.l0 kj30 a1 t116 t119 t120 t121 t122 (wrap64 (x10_1 + 1))))) = some r := by rw [if_neg (show ¬ (false = true) by decide)] at H; exact H
                              clear H
                              have H := H1
                              clear H1
                              by_cases c48 : x14_24 = true
                              · subst c48
                                have H1 : (if t122 = true then (if 0 ≤ t121 then (if t121 ≤ (wrap64 (t121 + 1)) then (if (wrap64 (t121 + 1)) ≤ (t116.length : Int) then ((choose_All.f kj30 ((t116.take ((wrap64 (t121 + 1)) : Int).toNat).drop (t121 : Int).toNat)).bind fun t140 => (if t127 < t140 then (none) else ((choose_All.f kj30 ((t116.take ((wrap64 (t121 + 1)) : Int).toNat).drop (t121 : Int).toNat)).bind fun t145 => (if t127 = t145 then (if x10_1 < t121 then (none) else (if x10_1 = t121 then (hostlerlaw17_ChooseBest.l0 kj30 a1 t116 t119 t120 t121 t122 (wrap64 (x10_1 + 1))) else (hostlerlaw17_ChooseBest.l0 kj30 a1 t116 t119 t120 t121 t122 (wrap64 (x10_1 + 1))))) else (if x10_1 = t121 then (hostlerlaw17_ChooseBest.l0 kj30 a1 t116 t119 t120 t121 t122 (wrap64 (x10_1 + 1))) else (hostlerlaw17_ChooseBest.l0 kj30 a1 t116 t119 t120 t121 t122 (wrap64 (x10_1 + 1)))))))) else (none)) else (none)) else (none)) else (none)) = some r := by rw [if_pos rfl] at H; exact H
                                clear H
                                have H := H1
                                clear H1
                                by_cases c49 : t122 = true
                                · subst c49
                                  have H1 : (if 0 ≤ t121 then (if t121 ≤ (wrap64 (t121 + 1)) then (if (wrap64 (t121 + 1)) ≤ (t116.length : Int) then ((choose_All.f kj30 ((t116.take ((wrap64 (t121 + 1)) : Int).toNat).drop (t121 : Int).toNat)).bind fun t140 => (if t127 < t140 then (none) else ((choose_All.f kj30 ((t116.take ((wrap64 (t121 + 1)) : Int).toNat).drop (t121 : Int).toNat)).bind fun t145 => (if t127 = t145 then (if x10_1 < t121 then (none) else (if x10_1 = t121 then (hostlerlaw17_ChooseBest.l0 kj30 a1 t116 t119 t120 t121 true (wrap64 (x10_1 + 1))) else (hostlerlaw17_ChooseBest.l0 kj30 a1 t116 t119 t120 t121 true (wrap64 (x10_1 + 1))))) else (if x10_1 = t121 then (hostlerlaw17_ChooseBest.l0 kj30 a1 t116 t119 t120 t121 true (wrap64 (x10_1 + 1))) else (hostlerlaw17_ChooseBest.l0 kj30 a1 t116 t119 t120 t121 true (wrap64 (x10_1 + 1)))))))) else (none)) else (none)) else (none)) = some r := by rw [if_pos rfl] at H; exact H
                                  clear H
                                  have H := H1
                                  clear H1
                                  by_cases c50 : 0 ≤ t121
                                  · rw [if_pos c50] at H
                                    have c50b0 := eq_true c50
                                    have c50b1 : decide (0 ≤ t121) = true := decide_eq_true c50
                                    clear c50
                                    by_cases c51 : t121 ≤ (wrap64 (t121 + 1))
                                    · rw [if_pos c51] at H
                                      have c51b0 := eq_true c51
                                      have c51b1 : decide (t121 ≤ (wrap64 (t121 + 1))) = true := decide_eq_true c51
                                      by_cases c52 : (wrap64 (t121 + 1)) ≤ (t116.length : Int)
                                      · rw [if_pos c52] at H
                                        have c52b0 := eq_true c52
                                        have c52b1 : decide ((wrap64 (t121 + 1)) ≤ (t116.length : Int)) = true := decide_eq_true c52
                                        obtain ⟨y136, hy136⟩ : ∃ y_ : List (S32), y_ = ((t116.take ((wrap64 (t121 + 1)) : Int).toNat).drop (t121 : Int).toNat) := ⟨_, rfl⟩
                                        replace H : ((choose_All.f kj30 y136).bind fun t140 => (if t127 < t140 then (none) else ((choose_All.f kj30 ((t116.take ((wrap64 (t121 + 1)) : Int).toNat).drop (t121 : Int).toNat)).bind fun t145 => (if t127 = t145 then (if x10_1 < t121 then (none) else (if x10_1 = t121 then (hostlerlaw17_ChooseBest.l0 kj30 a1 t116 t119 t120 t121 true (wrap64 (x10_1 + 1))) else (hostlerlaw17_ChooseBest.l0 kj30 a1 t116 t119 t120 t121 true (wrap64 (x10_1 + 1))))) else (if x10_1 = t121 then (hostlerlaw17_ChooseBest.l0 kj30 a1 t116 t119 t120 t121 true (wrap64 (x10_1 + 1))) else (hostlerlaw17_ChooseBest.l0 kj30 a1 t116 t119 t120 t121 true (wrap64 (x10_1 + 1)))))))) = some r := by first | (rw [hy136]; with_reducible exact H) | (have H2_ := (Option.bind_some _ _).symm.trans H; rw [hy136]; with_reducible exact H2_) | (have H2_ := (Option.bind_some _ _).symm.trans H; with_reducible exact H2_) | with_reducible exact H | (rw [hy136]; exact H) | exact H
                                        have Ny136 := Aside0.mk hy136
                                        clear hy136
                                        replace H := Option.bind_eq_some_iff.mp H
                                        obtain ⟨t140, A530, H⟩ := H
                                        replace H : (if t127 < t140 then (none) else ((choose_All.f kj30 ((t116.take ((wrap64 (t121 + 1)) : Int).toNat).drop (t121 : Int).toNat)).bind fun t145 => (if t127 = t145 then (if x10_1 < t121 then (none) else (if x10_1 = t121 then (hostlerlaw17_ChooseBest.l0 kj30 a1 t116 t119 t120 t121 true (wrap64 (x10_1 + 1))) else (hostlerlaw17_ChooseBest.l0 kj30 a1 t116 t119 t120 t121 true (wrap64 (x10_1 + 1))))) else (if x10_1 = t121 then (hostlerlaw17_ChooseBest.l0 kj30 a1 t116 t119 t120 t121 true (wrap64 (x10_1 + 1))) else (hostlerlaw17_ChooseBest.l0 kj30 a1 t116 t119 t120 t121 true (wrap64 (x10_1 + 1))))))) = some r := H
                                        have A53 := Aside0.mk A530
                                        clear A530
                                        by_cases c54 : t127 < t140
                                        · rw [if_pos c54] at H
                                          exact absurd H (by simp)
                                        · rw [if_neg c54] at H
                                          have c54b0 : decide (t127 < t140) = false := decide_eq_false c54
                                          clear c54
                                          have c55b0 := eq_true (of_decide_eq_true (by first | (with_reducible assumption) | assumption) : 0 ≤ t121)
                                          have c56b0 := eq_true (of_decide_eq_true (by first | (with_reducible assumption) | assumption) : t121 ≤ (wrap64 (t121 + 1)))
                                          have c57b0 := eq_true (of_decide_eq_true (by first | (with_reducible assumption) | assumption) : (wrap64 (t121 + 1)) ≤ (t116.length : Int))
                                          obtain ⟨y141, hy141⟩ : ∃ y_ : List (S32), y_ = ((t116.take ((wrap64 (t121 + 1)) : Int).toNat).drop (t121 : Int).toNat) := ⟨_, rfl⟩
                                          replace H : ((choose_All.f kj30 y141).bind fun t145 => (if t127 = t145 then (if x10_1 < t121 then (none) else (if x10_1 = t121 then (hostlerlaw17_ChooseBest.l0 kj30 a1 t116 t119 t120 t121 true (wrap64 (x10_1 + 1))) else (hostlerlaw17_ChooseBest.l0 kj30 a1 t116 t119 t120 t121 true (wrap64 (x10_1 + 1))))) else (if x10_1 = t121 then (hostlerlaw17_ChooseBest.l0 kj30 a1 t116 t119 t120 t121 true (wrap64 (x10_1 + 1))) else (hostlerlaw17_ChooseBest.l0 kj30 a1 t116 t119 t120 t121 true (wrap64 (x10_1 + 1)))))) = some r := by first | (rw [hy141]; with_reducible exact H) | (have H2_ := (Option.bind_some _ _).symm.trans H; rw [hy141]; with_reducible exact H2_) | (have H2_ := (Option.bind_some _ _).symm.trans H; with_reducible exact H2_) | with_reducible exact H | (rw [hy141]; exact H) | exact H
                                          have Ny141 := Aside0.mk hy141
                                          clear hy141
                                          replace H := Option.bind_eq_some_iff.mp H
                                          obtain ⟨t145, A580, H⟩ := H
                                          replace H : (if t127 = t145 then (if x10_1 < t121 then (none) else (if x10_1 = t121 then (hostlerlaw17_ChooseBest.l0 kj30 a1 t116 t119 t120 t121 true (wrap64 (x10_1 + 1))) else (hostlerlaw17_ChooseBest.l0 kj30 a1 t116 t119 t120 t121 true (wrap64 (x10_1 + 1))))) else (if x10_1 = t121 then (hostlerlaw17_ChooseBest.l0 kj30 a1 t116 t119 t120 t121 true (wrap64 (x10_1 + 1))) else (hostlerlaw17_ChooseBest.l0 kj30 a1 t116 t119 t120 t121 true (wrap64 (x10_1 + 1))))) = some r := H
                                          have A58 := Aside0.mk A580
                                          obtain rfl : t140 = t145 := (by have h1_ := A53.out; have h2_ := A58.out; rw [Ny136.out] at h1_; rw [Ny141.out] at h2_; exact Option.some.inj (h1_.symm.trans h2_))
                                          clear A580
                                          by_cases c59 : t127 = t140
                                          · rw [if_pos c59] at H
                                            have c59b0 : (t127 == t140) = true := beq_iff_eq.mpr c59
                                            have c59b1 : (t127 != t140) = false := bne_eq_false_iff_eq.mpr c59
                                            clear c59
                                            by_cases c60 : x10_1 < t121
                                            · rw [if_pos c60] at H
                                              exact absurd H (by simp)
                                            · rw [if_neg c60] at H
                                              have c60b0 : decide (x10_1 < t121) = false := decide_eq_false c60
                                              clear c60
                                              by_cases c61 : x10_1 = t121
                                              · rw [if_pos c61] at H
                                                have c61b0 : (x10_1 == t121) = true := beq_iff_eq.mpr c61
                                                have c61b1 : (x10_1 != t121) = false := bne_eq_false_iff_eq.mpr c61
                                                clear c61
                                                as_aux_lemma =>
                                                  have H' := Aside0.mk H
                                                  clear H
                                                  have q62 : ((wrap64 (t121 + 1)) : Int) ≤ ((t116.length : Int) : Int) := of_decide_eq_true (by first | (with_reducible assumption) | assumption)
                                                  obtain ⟨i062, hi062, _, hsz62, _⟩ := info_parts info32
                                                  have hroom62 : t116.length ≤ co13 := (Kd.R_reads' HO_5.out).2.1
                                                  have hC62 : Kd.C k32 _ Ao13 t116.length t116 := (Kd.R_reads' HO_5.out).2.2
                                                  have ql62 : (t121 : Int) ≤ ((wrap64 (t121 + 1)) : Int) := of_decide_eq_true (by first | (with_reducible assumption) | assumption)
                                                  have q062 : (0 : Int) ≤ (t121 : Int) := of_decide_eq_true (by first | (with_reducible assumption) | assumption)
                                                  have hcut62 := cut_mid (P := Try.prog) 24 32 .i64 .i64 Try.underlying24 hi062 5 hsz62 Ao13 t116.length co13 t121 (wrap64 (t121 + 1)) q062 ql62 q62 hroom62
                                                  have hr62 := Kd.C_mid (lo := (t121 : Int).toNat) (hi := ((wrap64 (t121 + 1)) : Int).toNat) (c := co13) hC62 (by omega) (by omega) hroom62
                                                  obtain ⟨A62, hA62⟩ : ∃ A1, A1 = (if co13 = (t121 : Int).toNat then Ao13 else (Ao13 : Option Addr).map (·.add ((t121 : Int).toNat * 5))) := ⟨_, rfl⟩
                                                  obtain ⟨c62, hc62⟩ : ∃ c1, c1 = co13 - (t121 : Int).toNat := ⟨_, rfl⟩
                                                  have hy62 : y136.length = ((wrap64 (t121 + 1)) : Int).toNat - (t121 : Int).toNat := (by rw [Ny136.out, List.length_drop, List.length_take] <;> omega)
                                                  rw [show ((t116).take ((wrap64 (t121 + 1)) : Int).toNat).drop (t121 : Int).toNat = y136 from Ny136.out.symm] at hr62
                                                  replace hr62 : Kd.C k32 _ A62 y136.length y136 := (by rw [hA62]; exact hr62)
                                                  rw [← hy62, ← hA62, ← hc62] at hcut62
                                                  have HR139 := Aside0.mk hr62
                                                  have HC139 := Aside0.mk (show y136.length ≤ c62 from by rw [hy62, hc62]; exact Nat.sub_le_sub_right (Nat.le_trans (by omega) hroom62) _)
                                                  clear hr62 hC62 hroom62 hi062 hsz62 hc62
                                                  have KY62 := Aside0.mk hy62
                                                  have KA62 := Aside0.mk hA62
                                                  clear hy62 hA62
                                                  have KL62 := Aside0.mk (show ((wrap64 (t121 + 1)) : Int).toNat ≤ t116.length from by omega)
                                                  have KM62 := Aside0.mk (show (t121 : Int).toNat ≤ ((wrap64 (t121 + 1)) : Int).toNat from by omega)
                                                  replace q62 := eq_true q62
                                                  go_wp2_with (first | (go_at_call 12; (with_reducible refine (choose_All.calls kj30 _ _ y136 t140 _ ?side1 ?side2 A53.out).mono ?_); (case side1 => repeat (first | exact (by repeat (first | (with_reducible exact HR139.out) | (with_reducible refine Kd.C_alloc ?_ _) | (with_reducible refine Kd.C_drewN ?_ _) | (with_reducible refine Kd.C_drew ?_) | exact HR139.out)) | (with_reducible refine Kd.C_alloc ?_ _) | (with_reducible refine Kd.C_drewN ?_ _) | (with_reducible refine Kd.C_drew ?_))); (case side2 => exact HC139.out); rintro e w63 ⟨rfl, hb⟩; have n0_ := Aside0.mk (Kd.R_below (by (with_reducible repeat (first | apply Kd.R_alloc | apply Kd.R_drewN | apply Kd.R_drew)); exact HO_5.out) hb); have n1_ := Aside0.mk (Kd.C_below (by repeat (first | (with_reducible exact HR126.out) | (with_reducible refine Kd.C_alloc ?_ _) | (with_reducible refine Kd.C_drewN ?_ _) | (with_reducible refine Kd.C_drew ?_) | exact HR126.out)) hb); have n2_ := Aside0.mk (Kd.C_below (by repeat (first | (with_reducible exact HR139.out) | (with_reducible refine Kd.C_alloc ?_ _) | (with_reducible refine Kd.C_drewN ?_ _) | (with_reducible refine Kd.C_drew ?_) | exact HR139.out)) hb); have n3_ := Aside0.mk (below_step (by repeat (first | (with_reducible first | exact HB.out | apply below_alloc | apply pw_below_drewN | apply below_drew1) | exact HB.out)) hb); clear HO_5; clear HR126; clear HR139; clear HB; have HO_5 := n0_; have HR126 := n1_; have HR139 := n2_; have HB := n3_; clear n0_ n1_ n2_ n3_; (try clear hb); (try clear hb2); (try clear hk); (try clear hi); have q64 : ((wrap64 (t121 + 1)) : Int) ≤ ((t116.length : Int) : Int) := of_decide_eq_true (by first | (with_reducible assumption) | assumption); obtain ⟨i064, hi064, _, hsz64, _⟩ := info_parts info32; have hroom64 : t116.length ≤ co13 := (Kd.R_reads' HO_5.out).2.1; have hC64 : Kd.C k32 _ Ao13 t116.length t116 := (Kd.R_reads' HO_5.out).2.2; have ql64 : (t121 : Int) ≤ ((wrap64 (t121 + 1)) : Int) := of_decide_eq_true (by first | (with_reducible assumption) | assumption); have q064 : (0 : Int) ≤ (t121 : Int) := of_decide_eq_true (by first | (with_reducible assumption) | assumption); have hcut64 := cut_mid (P := Try.prog) 24 32 .i64 .i64 Try.underlying24 hi064 5 hsz64 Ao13 t116.length co13 t121 (wrap64 (t121 + 1)) q064 ql64 q64 hroom64; have hr64 := Kd.C_mid (lo := (t121 : Int).toNat) (hi := ((wrap64 (t121 + 1)) : Int).toNat) (c := co13) hC64 (by omega) (by omega) hroom64; obtain ⟨A64, hA64⟩ : ∃ A1, A1 = (if co13 = (t121 : Int).toNat then Ao13 else (Ao13 : Option Addr).map (·.add ((t121 : Int).toNat * 5))) := ⟨_, rfl⟩; obtain ⟨c64, hc64⟩ : ∃ c1, c1 = co13 - (t121 : Int).toNat := ⟨_, rfl⟩; have hy64 : y141.length = ((wrap64 (t121 + 1)) : Int).toNat - (t121 : Int).toNat := (by rw [Ny141.out, List.length_drop, List.length_take] <;> omega); rw [show ((t116).take ((wrap64 (t121 + 1)) : Int).toNat).drop (t121 : Int).toNat = y141 from Ny141.out.symm] at hr64; replace hr64 : Kd.C k32 _ A64 y141.length y141 := (by rw [hA64]; exact hr64); rw [← hy64, ← hA64, ← hc64] at hcut64; have HR144 := Aside0.mk hr64; have HC144 := Aside0.mk (show y141.length ≤ c64 from by rw [hy64, hc64]; exact Nat.sub_le_sub_right (Nat.le_trans (by omega) hroom64) _); clear hr64 hC64 hroom64 hi064 hsz64 hc64; have KY64 := Aside0.mk hy64; have KA64 := Aside0.mk hA64; clear hy64 hA64; have KL64 := Aside0.mk (show ((wrap64 (t121 + 1)) : Int).toNat ≤ t116.length from by omega); have KM64 := Aside0.mk (show (t121 : Int).toNat ≤ ((wrap64 (t121 + 1)) : Int).toNat from by omega); replace q64 := eq_true q64) | (go_at_call 12; (with_reducible refine (choose_All.calls kj30 _ _ y141 t140 _ ?side1 ?side2 A58.out).mono ?_); (case side1 => repeat (first | exact (by repeat (first | (with_reducible exact HR144.out) | (with_reducible refine Kd.C_alloc ?_ _) | (with_reducible refine Kd.C_drewN ?_ _) | (with_reducible refine Kd.C_drew ?_) | exact HR144.out)) | (with_reducible refine Kd.C_alloc ?_ _) | (with_reducible refine Kd.C_drewN ?_ _) | (with_reducible refine Kd.C_drew ?_))); (case side2 => exact HC144.out); rintro e w65 ⟨rfl, hb⟩; have n0_ := Aside0.mk (Kd.R_below (by (with_reducible repeat (first | apply Kd.R_alloc | apply Kd.R_drewN | apply Kd.R_drew)); exact HO_5.out) hb); have n1_ := Aside0.mk (Kd.C_below (by repeat (first | (with_reducible exact HR126.out) | (with_reducible refine Kd.C_alloc ?_ _) | (with_reducible refine Kd.C_drewN ?_ _) | (with_reducible refine Kd.C_drew ?_) | exact HR126.out)) hb); have n2_ := Aside0.mk (Kd.C_below (by repeat (first | (with_reducible exact HR139.out) | (with_reducible refine Kd.C_alloc ?_ _) | (with_reducible refine Kd.C_drewN ?_ _) | (with_reducible refine Kd.C_drew ?_) | exact HR139.out)) hb); have n3_ := Aside0.mk (Kd.C_below (by repeat (first | (with_reducible exact HR144.out) | (with_reducible refine Kd.C_alloc ?_ _) | (with_reducible refine Kd.C_drewN ?_ _) | (with_reducible refine Kd.C_drew ?_) | exact HR144.out)) hb); have n4_ := Aside0.mk (below_step (by repeat (first | (with_reducible first | exact HB.out | apply below_alloc | apply pw_below_drewN | apply below_drew1) | exact HB.out)) hb); clear HO_5; clear HR126; clear HR139; clear HR144; clear HB; have HO_5 := n0_; have HR126 := n1_; have HR139 := n2_; have HR144 := n3_; have HB := n4_; clear n0_ n1_ n2_ n3_ n4_; (try clear hb); (try clear hb2); (try clear hk); (try clear hi)))
                                                  repeat (go_quiet (first | (go_at_call 12; (with_reducible refine (choose_All.calls kj30 _ _ y136 t140 _ ?side1 ?side2 A53.out).mono ?_); (case side1 => repeat (first | exact (by repeat (first | (with_reducible exact HR139.out) | (with_reducible refine Kd.C_alloc ?_ _) | (with_reducible refine Kd.C_drewN ?_ _) | (with_reducible refine Kd.C_drew ?_) | exact HR139.out)) | (with_reducible refine Kd.C_alloc ?_ _) | (with_reducible refine Kd.C_drewN ?_ _) | (with_reducible refine Kd.C_drew ?_))); (case side2 => exact HC139.out); rintro e w63 ⟨rfl, hb⟩; have n0_ := Aside0.mk (Kd.R_below (by (with_reducible repeat (first | apply Kd.R_alloc | apply Kd.R_drewN | apply Kd.R_drew)); exact HO_5.out) hb); have n1_ := Aside0.mk (Kd.C_below (by repeat (first | (with_reducible exact HR126.out) | (with_reducible refine Kd.C_alloc ?_ _) | (with_reducible refine Kd.C_drewN ?_ _) | (with_reducible refine Kd.C_drew ?_) | exact HR126.out)) hb); have n2_ := Aside0.mk (Kd.C_below (by repeat (first | (with_reducible exact HR139.out) | (with_reducible refine Kd.C_alloc ?_ _) | (with_reducible refine Kd.C_drewN ?_ _) | (with_reducible refine Kd.C_drew ?_) | exact HR139.out)) hb); have n3_ := Aside0.mk (below_step (by repeat (first | (with_reducible first | exact HB.out | apply below_alloc | apply pw_below_drewN | apply below_drew1) | exact HB.out)) hb); clear HO_5; clear HR126; clear HR139; clear HB; have HO_5 := n0_; have HR126 := n1_; have HR139 := n2_; have HB := n3_; clear n0_ n1_ n2_ n3_; (try clear hb); (try clear hb2); (try clear hk); (try clear hi); have q64 : ((wrap64 (t121 + 1)) : Int) ≤ ((t116.length : Int) : Int) := of_decide_eq_true (by first | (with_reducible assumption) | assumption); obtain ⟨i064, hi064, _, hsz64, _⟩ := info_parts info32; have hroom64 : t116.length ≤ co13 := (Kd.R_reads' HO_5.out).2.1; have hC64 : Kd.C k32 _ Ao13 t116.length t116 := (Kd.R_reads' HO_5.out).2.2; have ql64 : (t121 : Int) ≤ ((wrap64 (t121 + 1)) : Int) := of_decide_eq_true (by first | (with_reducible assumption) | assumption); have q064 : (0 : Int) ≤ (t121 : Int) := of_decide_eq_true (by first | (with_reducible assumption) | assumption); have hcut64 := cut_mid (P := Try.prog) 24 32 .i64 .i64 Try.underlying24 hi064 5 hsz64 Ao13 t116.length co13 t121 (wrap64 (t121 + 1)) q064 ql64 q64 hroom64; have hr64 := Kd.C_mid (lo := (t121 : Int).toNat) (hi := ((wrap64 (t121 + 1)) : Int).toNat) (c := co13) hC64 (by omega) (by omega) hroom64; obtain ⟨A64, hA64⟩ : ∃ A1, A1 = (if co13 = (t121 : Int).toNat then Ao13 else (Ao13 : Option Addr).map (·.add ((t121 : Int).toNat * 5))) := ⟨_, rfl⟩; obtain ⟨c64, hc64⟩ : ∃ c1, c1 = co13 - (t121 : Int).toNat := ⟨_, rfl⟩; have hy64 : y141.length = ((wrap64 (t121 + 1)) : Int).toNat - (t121 : Int).toNat := (by rw [Ny141.out, List.length_drop, List.length_take] <;> omega); rw [show ((t116).take ((wrap64 (t121 + 1)) : Int).toNat).drop (t121 : Int).toNat = y141 from Ny141.out.symm] at hr64; replace hr64 : Kd.C k32 _ A64 y141.length y141 := (by rw [hA64]; exact hr64); rw [← hy64, ← hA64, ← hc64] at hcut64; have HR144 := Aside0.mk hr64; have HC144 := Aside0.mk (show y141.length ≤ c64 from by rw [hy64, hc64]; exact Nat.sub_le_sub_right (Nat.le_trans (by omega) hroom64) _); clear hr64 hC64 hroom64 hi064 hsz64 hc64; have KY64 := Aside0.mk hy64; have KA64 := Aside0.mk hA64; clear hy64 hA64; have KL64 := Aside0.mk (show ((wrap64 (t121 + 1)) : Int).toNat ≤ t116.length from by omega); have KM64 := Aside0.mk (show (t121 : Int).toNat ≤ ((wrap64 (t121 + 1)) : Int).toNat from by omega); replace q64 := eq_true q64) | (go_at_call 12; (with_reducible refine (choose_All.calls kj30 _ _ y141 t140 _ ?side1 ?side2 A58.out).mono ?_); (case side1 => repeat (first | exact (by repeat (first | (with_reducible exact HR144.out) | (with_reducible refine Kd.C_alloc ?_ _) | (with_reducible refine Kd.C_drewN ?_ _) | (with_reducible refine Kd.C_drew ?_) | exact HR144.out)) | (with_reducible refine Kd.C_alloc ?_ _) | (with_reducible refine Kd.C_drewN ?_ _) | (with_reducible refine Kd.C_drew ?_))); (case side2 => exact HC144.out); rintro e w65 ⟨rfl, hb⟩; have n0_ := Aside0.mk (Kd.R_below (by (with_reducible repeat (first | apply Kd.R_alloc | apply Kd.R_drewN | apply Kd.R_drew)); exact HO_5.out) hb); have n1_ := Aside0.mk (Kd.C_below (by repeat (first | (with_reducible exact HR126.out) | (with_reducible refine Kd.C_alloc ?_ _) | (with_reducible refine Kd.C_drewN ?_ _) | (with_reducible refine Kd.C_drew ?_) | exact HR126.out)) hb); have n2_ := Aside0.mk (Kd.C_below (by repeat (first | (with_reducible exact HR139.out) | (with_reducible refine Kd.C_alloc ?_ _) | (with_reducible refine Kd.C_drewN ?_ _) | (with_reducible refine Kd.C_drew ?_) | exact HR139.out)) hb); have n3_ := Aside0.mk (Kd.C_below (by repeat (first | (with_reducible exact HR144.out) | (with_reducible refine Kd.C_alloc ?_ _) | (with_reducible refine Kd.C_drewN ?_ _) | (with_reducible refine Kd.C_drew ?_) | exact HR144.out)) hb); have n4_ := Aside0.mk (below_step (by repeat (first | (with_reducible first | exact HB.out | apply below_alloc | apply pw_below_drewN | apply below_drew1) | exact HB.out)) hb); clear HO_5; clear HR126; clear HR139; clear HR144; clear HB; have HO_5 := n0_; have HR126 := n1_; have HR139 := n2_; have HR144 := n3_; have HB := n4_; clear n0_ n1_ n2_ n3_ n4_; (try clear hb); (try clear hb2); (try clear hk); (try clear hi))); try go_wp2_with (first | (go_at_call 12; (with_reducible refine (choose_All.calls kj30 _ _ y136 t140 _ ?side1 ?side2 A53.out).mono ?_); (case side1 => repeat (first | exact (by repeat (first | (with_reducible exact HR139.out) | (with_reducible refine Kd.C_alloc ?_ _) | (with_reducible refine Kd.C_drewN ?_ _) | (with_reducible refine Kd.C_drew ?_) | exact HR139.out)) | (with_reducible refine Kd.C_alloc ?_ _) | (with_reducible refine Kd.C_drewN ?_ _) | (with_reducible refine Kd.C_drew ?_))); (case side2 => exact HC139.out); rintro e w63 ⟨rfl, hb⟩; have n0_ := Aside0.mk (Kd.R_below (by (with_reducible repeat (first | apply Kd.R_alloc | apply Kd.R_drewN | apply Kd.R_drew)); exact HO_5.out) hb); have n1_ := Aside0.mk (Kd.C_below (by repeat (first | (with_reducible exact HR126.out) | (with_reducible refine Kd.C_alloc ?_ _) | (with_reducible refine Kd.C_drewN ?_ _) | (with_reducible refine Kd.C_drew ?_) | exact HR126.out)) hb); have n2_ := Aside0.mk (Kd.C_below (by repeat (first | (with_reducible exact HR139.out) | (with_reducible refine Kd.C_alloc ?_ _) | (with_reducible refine Kd.C_drewN ?_ _) | (with_reducible refine Kd.C_drew ?_) | exact HR139.out)) hb); have n3_ := Aside0.mk (below_step (by repeat (first | (with_reducible first | exact HB.out | apply below_alloc | apply pw_below_drewN | apply below_drew1) | exact HB.out)) hb); clear HO_5; clear HR126; clear HR139; clear HB; have HO_5 := n0_; have HR126 := n1_; have HR139 := n2_; have HB := n3_; clear n0_ n1_ n2_ n3_; (try clear hb); (try clear hb2); (try clear hk); (try clear hi); have q64 : ((wrap64 (t121 + 1)) : Int) ≤ ((t116.length : Int) : Int) := of_decide_eq_true (by first | (with_reducible assumption) | assumption); obtain ⟨i064, hi064, _, hsz64, _⟩ := info_parts info32; have hroom64 : t116.length ≤ co13 := (Kd.R_reads' HO_5.out).2.1; have hC64 : Kd.C k32 _ Ao13 t116.length t116 := (Kd.R_reads' HO_5.out).2.2; have ql64 : (t121 : Int) ≤ ((wrap64 (t121 + 1)) : Int) := of_decide_eq_true (by first | (with_reducible assumption) | assumption); have q064 : (0 : Int) ≤ (t121 : Int) := of_decide_eq_true (by first | (with_reducible assumption) | assumption); have hcut64 := cut_mid (P := Try.prog) 24 32 .i64 .i64 Try.underlying24 hi064 5 hsz64 Ao13 t116.length co13 t121 (wrap64 (t121 + 1)) q064 ql64 q64 hroom64; have hr64 := Kd.C_mid (lo := (t121 : Int).toNat) (hi := ((wrap64 (t121 + 1)) : Int).toNat) (c := co13) hC64 (by omega) (by omega) hroom64; obtain ⟨A64, hA64⟩ : ∃ A1, A1 = (if co13 = (t121 : Int).toNat then Ao13 else (Ao13 : Option Addr).map (·.add ((t121 : Int).toNat * 5))) := ⟨_, rfl⟩; obtain ⟨c64, hc64⟩ : ∃ c1, c1 = co13 - (t121 : Int).toNat := ⟨_, rfl⟩; have hy64 : y141.length = ((wrap64 (t121 + 1)) : Int).toNat - (t121 : Int).toNat := (by rw [Ny141.out, List.length_drop, List.length_take] <;> omega); rw [show ((t116).take ((wrap64 (t121 + 1)) : Int).toNat).drop (t121 : Int).toNat = y141 from Ny141.out.symm] at hr64; replace hr64 : Kd.C k32 _ A64 y141.length y141 := (by rw [hA64]; exact hr64); rw [← hy64, ← hA64, ← hc64] at hcut64; have HR144 := Aside0.mk hr64; have HC144 := Aside0.mk (show y141.length ≤ c64 from by rw [hy64, hc64]; exact Nat.sub_le_sub_right (Nat.le_trans (by omega) hroom64) _); clear hr64 hC64 hroom64 hi064 hsz64 hc64; have KY64 := Aside0.mk hy64; have KA64 := Aside0.mk hA64; clear hy64 hA64; have KL64 := Aside0.mk (show ((wrap64 (t121 + 1)) : Int).toNat ≤ t116.length from by omega); have KM64 := Aside0.mk (show (t121 : Int).toNat ≤ ((wrap64 (t121 + 1)) : Int).toNat from by omega); replace q64 := eq_true q64) | (go_at_call 12; (with_reducible refine (choose_All.calls kj30 _ _ y141 t140 _ ?side1 ?side2 A58.out).mono ?_); (case side1 => repeat (first | exact (by repeat (first | (with_reducible exact HR144.out) | (with_reducible refine Kd.C_alloc ?_ _) | (with_reducible refine Kd.C_drewN ?_ _) | (with_reducible refine Kd.C_drew ?_) | exact HR144.out)) | (with_reducible refine Kd.C_alloc ?_ _) | (with_reducible refine Kd.C_drewN ?_ _) | (with_reducible refine Kd.C_drew ?_))); (case side2 => exact HC144.out); rintro e w65 ⟨rfl, hb⟩; have n0_ := Aside0.mk (Kd.R_below (by (with_reducible repeat (first | apply Kd.R_alloc | apply Kd.R_drewN | apply Kd.R_drew)); exact HO_5.out) hb); have n1_ := Aside0.mk (Kd.C_below (by repeat (first | (with_reducible exact HR126.out) | (with_reducible refine Kd.C_alloc ?_ _) | (with_reducible refine Kd.C_drewN ?_ _) | (with_reducible refine Kd.C_drew ?_) | exact HR126.out)) hb); have n2_ := Aside0.mk (Kd.C_below (by repeat (first | (with_reducible exact HR139.out) | (with_reducible refine Kd.C_alloc ?_ _) | (with_reducible refine Kd.C_drewN ?_ _) | (with_reducible refine Kd.C_drew ?_) | exact HR139.out)) hb); have n3_ := Aside0.mk (Kd.C_below (by repeat (first | (with_reducible exact HR144.out) | (with_reducible refine Kd.C_alloc ?_ _) | (with_reducible refine Kd.C_drewN ?_ _) | (with_reducible refine Kd.C_drew ?_) | exact HR144.out)) hb); have n4_ := Aside0.mk (below_step (by repeat (first | (with_reducible first | exact HB.out | apply below_alloc | apply pw_below_drewN | apply below_drew1) | exact HB.out)) hb); clear HO_5; clear HR126; clear HR139; clear HR144; clear HB; have HO_5 := n0_; have HR126 := n1_; have HR139 := n2_; have HR144 := n3_; have HB := n4_; clear n0_ n1_ n2_ n3_ n4_; (try clear hb); (try clear hb2); (try clear hk); (try clear hi))))
                                                  go_roundg kj30
                                                  case measure => have := HK1.out; have := HJ20.out; have := HJ24.out; have := HJ30.out; omega
                                                  case rel => exact ⟨(wrap64 (x10_1 + 1)), (by first | rfl | (simp; done) | (simp [*]; done)), H', ⟨by have := HK1.out; have := HJ20.out; have := HJ24.out; have := HJ30.out; omega⟩, ⟨by (with_reducible repeat (first | apply Kd.R_alloc | apply Kd.R_drewN | apply Kd.R_drew)); exact HO_5.out⟩, ⟨by repeat (first | (with_reducible first | exact HB.out | apply below_alloc | apply pw_below_drewN | apply below_drew1) | exact HB.out)⟩⟩
                                              · rw [if_neg c61] at H
                                                have c61b0 : (x10_1 == t121) = false := beq_eq_false_iff_ne.mpr c61
                                                have c61b1 : (x10_1 != t121) = true := bne_iff_ne.mpr c61
                                                as_aux_lemma =>
                                                  have H' := Aside0.mk H
                                                  clear H
                                                  have q66 : ((wrap64 (t121 + 1)) : Int) ≤ ((t116.length : Int) : Int) := of_decide_eq_true (by first | (with_reducible assumption) | assumption)
                                                  obtain ⟨i066, hi066, _, hsz66, _⟩ := info_parts info32
                                                  have hroom66 : t116.length ≤ co13 := (Kd.R_reads' HO_5.out).2.1
                                                  have hC66 : Kd.C k32 _ Ao13 t116.length t116 := (Kd.R_reads' HO_5.out).2.2
                                                  have ql66 : (t121 : Int) ≤ ((wrap64 (t121 + 1)) : Int) := of_decide_eq_true (by first | (with_reducible assumption) | assumption)
                                                  have q066 : (0 : Int) ≤ (t121 : Int) := of_decide_eq_true (by first | (with_reducible assumption) | assumption)
                                                  have hcut66 := cut_mid (P := Try.prog) 24 32 .i64 .i64 Try.underlying24 hi066 5 hsz66 Ao13 t116.length co13 t121 (wrap64 (t121 + 1)) q066 ql66 q66 hroom66
                                                  have hr66 := Kd.C_mid (lo := (t121 : Int).toNat) (hi := ((wrap64 (t121 + 1)) : Int).toNat) (c := co13) hC66 (by omega) (by omega) hroom66
                                                  obtain ⟨A66, hA66⟩ : ∃ A1, A1 = (if co13 = (t121 : Int).toNat then Ao13 else (Ao13 : Option Addr).map (·.add ((t121 : Int).toNat * 5))) := ⟨_, rfl⟩
                                                  obtain ⟨c66, hc66⟩ : ∃ c1, c1 = co13 - (t121 : Int).toNat := ⟨_, rfl⟩
                                                  have hy66 : y136.length = ((wrap64 (t121 + 1)) : Int).toNat - (t121 : Int).toNat := (by rw [Ny136.out, List.length_drop, List.length_take] <;> omega)
                                                  rw [show ((t116).take ((wrap64 (t121 + 1)) : Int).toNat).drop (t121 : Int).toNat = y136 from Ny136.out.symm] at hr66
                                                  replace hr66 : Kd.C k32 _ A66 y136.length y136 := (by rw [hA66]; exact hr66)
                                                  rw [← hy66, ← hA66, ← hc66] at hcut66
                                                  have HR139 := Aside0.mk hr66
                                                  have HC139 := Aside0.mk (show y136.length ≤ c66 from by rw [hy66, hc66]; exact Nat.sub_le_sub_right (Nat.le_trans (by omega) hroom66) _)
                                                  clear hr66 hC66 hroom66 hi066 hsz66 hc66
                                                  have KY66 := Aside0.mk hy66
                                                  have KA66 := Aside0.mk hA66
                                                  clear hy66 hA66
                                                  have KL66 := Aside0.mk (show ((wrap64 (t121 + 1)) : Int).toNat ≤ t116.length from by omega)
                                                  have KM66 := Aside0.mk (show (t121 : Int).toNat ≤ ((wrap64 (t121 + 1)) : Int).toNat from by omega)
                                                  replace q66 := eq_true q66
                                                  go_wp2_with (first | (go_at_call 12; (with_reducible refine (choose_All.calls kj30 _ _ y136 t140 _ ?side1 ?side2 A53.out).mono ?_); (case side1 => repeat (first | exact (by repeat (first | (with_reducible exact HR139.out) | (with_reducible refine Kd.C_alloc ?_ _) | (with_reducible refine Kd.C_drewN ?_ _) | (with_reducible refine Kd.C_drew ?_) | exact HR139.out)) | (with_reducible refine Kd.C_alloc ?_ _) | (with_reducible refine Kd.C_drewN ?_ _) | (with_reducible refine Kd.C_drew ?_))); (case side2 => exact HC139.out); rintro e w67 ⟨rfl, hb⟩; have n0_ := Aside0.mk (Kd.R_below (by (with_reducible repeat (first | apply Kd.R_alloc | apply Kd.R_drewN | apply Kd.R_drew)); exact HO_5.out) hb); have n1_ := Aside0.mk (Kd.C_below (by repeat (first | (with_reducible exact HR126.out) | (with_reducible refine Kd.C_alloc ?_ _) | (with_reducible refine Kd.C_drewN ?_ _) | (with_reducible refine Kd.C_drew ?_) | exact HR126.out)) hb); have n2_ := Aside0.mk (Kd.C_below (by repeat (first | (with_reducible exact HR139.out) | (with_reducible refine Kd.C_alloc ?_ _) | (with_reducible refine Kd.C_drewN ?_ _) | (with_reducible refine Kd.C_drew ?_) | exact HR139.out)) hb); have n3_ := Aside0.mk (below_step (by repeat (first | (with_reducible first | exact HB.out | apply below_alloc | apply pw_below_drewN | apply below_drew1) | exact HB.out)) hb); clear HO_5; clear HR126; clear HR139; clear HB; have HO_5 := n0_; have HR126 := n1_; have HR139 := n2_; have HB := n3_; clear n0_ n1_ n2_ n3_; (try clear hb); (try clear hb2); (try clear hk); (try clear hi); have q68 : ((wrap64 (t121 + 1)) : Int) ≤ ((t116.length : Int) : Int) := of_decide_eq_true (by first | (with_reducible assumption) | assumption); obtain ⟨i068, hi068, _, hsz68, _⟩ := info_parts info32; have hroom68 : t116.length ≤ co13 := (Kd.R_reads' HO_5.out).2.1; have hC68 : Kd.C k32 _ Ao13 t116.length t116 := (Kd.R_reads' HO_5.out).2.2; have ql68 : (t121 : Int) ≤ ((wrap64 (t121 + 1)) : Int) := of_decide_eq_true (by first | (with_reducible assumption) | assumption); have q068 : (0 : Int) ≤ (t121 : Int) := of_decide_eq_true (by first | (with_reducible assumption) | assumption); have hcut68 := cut_mid (P := Try.prog) 24 32 .i64 .i64 Try.underlying24 hi068 5 hsz68 Ao13 t116.length co13 t121 (wrap64 (t121 + 1)) q068 ql68 q68 hroom68; have hr68 := Kd.C_mid (lo := (t121 : Int).toNat) (hi := ((wrap64 (t121 + 1)) : Int).toNat) (c := co13) hC68 (by omega) (by omega) hroom68; obtain ⟨A68, hA68⟩ : ∃ A1, A1 = (if co13 = (t121 : Int).toNat then Ao13 else (Ao13 : Option Addr).map (·.add ((t121 : Int).toNat * 5))) := ⟨_, rfl⟩; obtain ⟨c68, hc68⟩ : ∃ c1, c1 = co13 - (t121 : Int).toNat := ⟨_, rfl⟩; have hy68 : y141.length = ((wrap64 (t121 + 1)) : Int).toNat - (t121 : Int).toNat := (by rw [Ny141.out, List.length_drop, List.length_take] <;> omega); rw [show ((t116).take ((wrap64 (t121 + 1)) : Int).toNat).drop (t121 : Int).toNat = y141 from Ny141.out.symm] at hr68; replace hr68 : Kd.C k32 _ A68 y141.length y141 := (by rw [hA68]; exact hr68); rw [← hy68, ← hA68, ← hc68] at hcut68; have HR144 := Aside0.mk hr68; have HC144 := Aside0.mk (show y141.length ≤ c68 from by rw [hy68, hc68]; exact Nat.sub_le_sub_right (Nat.le_trans (by omega) hroom68) _); clear hr68 hC68 hroom68 hi068 hsz68 hc68; have KY68 := Aside0.mk hy68; have KA68 := Aside0.mk hA68; clear hy68 hA68; have KL68 := Aside0.mk (show ((wrap64 (t121 + 1)) : Int).toNat ≤ t116.length from by omega); have KM68 := Aside0.mk (show (t121 : Int).toNat ≤ ((wrap64 (t121 + 1)) : Int).toNat from by omega); replace q68 := eq_true q68) | (go_at_call 12; (with_reducible refine (choose_All.calls kj30 _ _ y141 t140 _ ?side1 ?side2 A58.out).mono ?_); (case side1 => repeat (first | exact (by repeat (first | (with_reducible exact HR144.out) | (with_reducible refine Kd.C_alloc ?_ _) | (with_reducible refine Kd.C_drewN ?_ _) | (with_reducible refine Kd.C_drew ?_) | exact HR144.out)) | (with_reducible refine Kd.C_alloc ?_ _) | (with_reducible refine Kd.C_drewN ?_ _) | (with_reducible refine Kd.C_drew ?_))); (case side2 => exact HC144.out); rintro e w69 ⟨rfl, hb⟩; have n0_ := Aside0.mk (Kd.R_below (by (with_reducible repeat (first | apply Kd.R_alloc | apply Kd.R_drewN | apply Kd.R_drew)); exact HO_5.out) hb); have n1_ := Aside0.mk (Kd.C_below (by repeat (first | (with_reducible exact HR126.out) | (with_reducible refine Kd.C_alloc ?_ _) | (with_reducible refine Kd.C_drewN ?_ _) | (with_reducible refine Kd.C_drew ?_) | exact HR126.out)) hb); have n2_ := Aside0.mk (Kd.C_below (by repeat (first | (with_reducible exact HR139.out) | (with_reducible refine Kd.C_alloc ?_ _) | (with_reducible refine Kd.C_drewN ?_ _) | (with_reducible refine Kd.C_drew ?_) | exact HR139.out)) hb); have n3_ := Aside0.mk (Kd.C_below (by repeat (first | (with_reducible exact HR144.out) | (with_reducible refine Kd.C_alloc ?_ _) | (with_reducible refine Kd.C_drewN ?_ _) | (with_reducible refine Kd.C_drew ?_) | exact HR144.out)) hb); have n4_ := Aside0.mk (below_step (by repeat (first | (with_reducible first | exact HB.out | apply below_alloc | apply pw_below_drewN | apply below_drew1) | exact HB.out)) hb); clear HO_5; clear HR126; clear HR139; clear HR144; clear HB; have HO_5 := n0_; have HR126 := n1_; have HR139 := n2_; have HR144 := n3_; have HB := n4_; clear n0_ n1_ n2_ n3_ n4_; (try clear hb); (try clear hb2); (try clear hk); (try clear hi)))
                                                  repeat (go_quiet (first | (go_at_call 12; (with_reducible refine (choose_All.calls kj30 _ _ y136 t140 _ ?side1 ?side2 A53.out).mono ?_); (case side1 => repeat (first | exact (by repeat (first | (with_reducible exact HR139.out) | (with_reducible refine Kd.C_alloc ?_ _) | (with_reducible refine Kd.C_drewN ?_ _) | (with_reducible refine Kd.C_drew ?_) | exact HR139.out)) | (with_reducible refine Kd.C_alloc ?_ _) | (with_reducible refine Kd.C_drewN ?_ _) | (with_reducible refine Kd.C_drew ?_))); (case side2 => exact HC139.out); rintro e w67 ⟨rfl, hb⟩; have n0_ := Aside0.mk (Kd.R_below (by (with_reducible repeat (first | apply Kd.R_alloc | apply Kd.R_drewN | apply Kd.R_drew)); exact HO_5.out) hb); have n1_ := Aside0.mk (Kd.C_below (by repeat (first | (with_reducible exact HR126.out) | (with_reducible refine Kd.C_alloc ?_ _) | (with_reducible refine Kd.C_drewN ?_ _) | (with_reducible refine Kd.C_drew ?_) | exact HR126.out)) hb); have n2_ := Aside0.mk (Kd.C_below (by repeat (first | (with_reducible exact HR139.out) | (with_reducible refine Kd.C_alloc ?_ _) | (with_reducible refine Kd.C_drewN ?_ _) | (with_reducible refine Kd.C_drew ?_) | exact HR139.out)) hb); have n3_ := Aside0.mk (below_step (by repeat (first | (with_reducible first | exact HB.out | apply below_alloc | apply pw_below_drewN | apply below_drew1) | exact HB.out)) hb); clear HO_5; clear HR126; clear HR139; clear HB; have HO_5 := n0_; have HR126 := n1_; have HR139 := n2_; have HB := n3_; clear n0_ n1_ n2_ n3_; (try clear hb); (try clear hb2); (try clear hk); (try clear hi); have q68 : ((wrap64 (t121 + 1)) : Int) ≤ ((t116.length : Int) : Int) := of_decide_eq_true (by first | (with_reducible assumption) | assumption); obtain ⟨i068, hi068, _, hsz68, _⟩ := info_parts info32; have hroom68 : t116.length ≤ co13 := (Kd.R_reads' HO_5.out).2.1; have hC68 : Kd.C k32 _ Ao13 t116.length t116 := (Kd.R_reads' HO_5.out).2.2; have ql68 : (t121 : Int) ≤ ((wrap64 (t121 + 1)) : Int) := of_decide_eq_true (by first | (with_reducible assumption) | assumption); have q068 : (0 : Int) ≤ (t121 : Int) := of_decide_eq_true (by first | (with_reducible assumption) | assumption); have hcut68 := cut_mid (P := Try.prog) 24 32 .i64 .i64 Try.underlying24 hi068 5 hsz68 Ao13 t116.length co13 t121 (wrap64 (t121 + 1)) q068 ql68 q68 hroom68; have hr68 := Kd.C_mid (lo := (t121 : Int).toNat) (hi := ((wrap64 (t121 + 1)) : Int).toNat) (c := co13) hC68 (by omega) (by omega) hroom68; obtain ⟨A68, hA68⟩ : ∃ A1, A1 = (if co13 = (t121 : Int).toNat then Ao13 else (Ao13 : Option Addr).map (·.add ((t121 : Int).toNat * 5))) := ⟨_, rfl⟩; obtain ⟨c68, hc68⟩ : ∃ c1, c1 = co13 - (t121 : Int).toNat := ⟨_, rfl⟩; have hy68 : y141.length = ((wrap64 (t121 + 1)) : Int).toNat - (t121 : Int).toNat := (by rw [Ny141.out, List.length_drop, List.length_take] <;> omega); rw [show ((t116).take ((wrap64 (t121 + 1)) : Int).toNat).drop (t121 : Int).toNat = y141 from Ny141.out.symm] at hr68; replace hr68 : Kd.C k32 _ A68 y141.length y141 := (by rw [hA68]; exact hr68); rw [← hy68, ← hA68, ← hc68] at hcut68; have HR144 := Aside0.mk hr68; have HC144 := Aside0.mk (show y141.length ≤ c68 from by rw [hy68, hc68]; exact Nat.sub_le_sub_right (Nat.le_trans (by omega) hroom68) _); clear hr68 hC68 hroom68 hi068 hsz68 hc68; have KY68 := Aside0.mk hy68; have KA68 := Aside0.mk hA68; clear hy68 hA68; have KL68 := Aside0.mk (show ((wrap64 (t121 + 1)) : Int).toNat ≤ t116.length from by omega); have KM68 := Aside0.mk (show (t121 : Int).toNat ≤ ((wrap64 (t121 + 1)) : Int).toNat from by omega); replace q68 := eq_true q68) | (go_at_call 12; (with_reducible refine (choose_All.calls kj30 _ _ y141 t140 _ ?side1 ?side2 A58.out).mono ?_); (case side1 => repeat (first | exact (by repeat (first | (with_reducible exact HR144.out) | (with_reducible refine Kd.C_alloc ?_ _) | (with_reducible refine Kd.C_drewN ?_ _) | (with_reducible refine Kd.C_drew ?_) | exact HR144.out)) | (with_reducible refine Kd.C_alloc ?_ _) | (with_reducible refine Kd.C_drewN ?_ _) | (with_reducible refine Kd.C_drew ?_))); (case side2 => exact HC144.out); rintro e w69 ⟨rfl, hb⟩; have n0_ := Aside0.mk (Kd.R_below (by (with_reducible repeat (first | apply Kd.R_alloc | apply Kd.R_drewN | apply Kd.R_drew)); exact HO_5.out) hb); have n1_ := Aside0.mk (Kd.C_below (by repeat (first | (with_reducible exact HR126.out) | (with_reducible refine Kd.C_alloc ?_ _) | (with_reducible refine Kd.C_drewN ?_ _) | (with_reducible refine Kd.C_drew ?_) | exact HR126.out)) hb); have n2_ := Aside0.mk (Kd.C_below (by repeat (first | (with_reducible exact HR139.out) | (with_reducible refine Kd.C_alloc ?_ _) | (with_reducible refine Kd.C_drewN ?_ _) | (with_reducible refine Kd.C_drew ?_) | exact HR139.out)) hb); have n3_ := Aside0.mk (Kd.C_below (by repeat (first | (with_reducible exact HR144.out) | (with_reducible refine Kd.C_alloc ?_ _) | (with_reducible refine Kd.C_drewN ?_ _) | (with_reducible refine Kd.C_drew ?_) | exact HR144.out)) hb); have n4_ := Aside0.mk (below_step (by repeat (first | (with_reducible first | exact HB.out | apply below_alloc | apply pw_below_drewN | apply below_drew1) | exact HB.out)) hb); clear HO_5; clear HR126; clear HR139; clear HR144; clear HB; have HO_5 := n0_; have HR126 := n1_; have HR139 := n2_; have HR144 := n3_; have HB := n4_; clear n0_ n1_ n2_ n3_ n4_; (try clear hb); (try clear hb2); (try clear hk); (try clear hi))); try go_wp2_with (first | (go_at_call 12; (with_reducible refine (choose_All.calls kj30 _ _ y136 t140 _ ?side1 ?side2 A53.out).mono ?_); (case side1 => repeat (first | exact (by repeat (first | (with_reducible exact HR139.out) | (with_reducible refine Kd.C_alloc ?_ _) | (with_reducible refine Kd.C_drewN ?_ _) | (with_reducible refine Kd.C_drew ?_) | exact HR139.out)) | (with_reducible refine Kd.C_alloc ?_ _) | (with_reducible refine Kd.C_drewN ?_ _) | (with_reducible refine Kd.C_drew ?_))); (case side2 => exact HC139.out); rintro e w67 ⟨rfl, hb⟩; have n0_ := Aside0.mk (Kd.R_below (by (with_reducible repeat (first | apply Kd.R_alloc | apply Kd.R_drewN | apply Kd.R_drew)); exact HO_5.out) hb); have n1_ := Aside0.mk (Kd.C_below (by repeat (first | (with_reducible exact HR126.out) | (with_reducible refine Kd.C_alloc ?_ _) | (with_reducible refine Kd.C_drewN ?_ _) | (with_reducible refine Kd.C_drew ?_) | exact HR126.out)) hb); have n2_ := Aside0.mk (Kd.C_below (by repeat (first | (with_reducible exact HR139.out) | (with_reducible refine Kd.C_alloc ?_ _) | (with_reducible refine Kd.C_drewN ?_ _) | (with_reducible refine Kd.C_drew ?_) | exact HR139.out)) hb); have n3_ := Aside0.mk (below_step (by repeat (first | (with_reducible first | exact HB.out | apply below_alloc | apply pw_below_drewN | apply below_drew1) | exact HB.out)) hb); clear HO_5; clear HR126; clear HR139; clear HB; have HO_5 := n0_; have HR126 := n1_; have HR139 := n2_; have HB := n3_; clear n0_ n1_ n2_ n3_; (try clear hb); (try clear hb2); (try clear hk); (try clear hi); have q68 : ((wrap64 (t121 + 1)) : Int) ≤ ((t116.length : Int) : Int) := of_decide_eq_true (by first | (with_reducible assumption) | assumption); obtain ⟨i068, hi068, _, hsz68, _⟩ := info_parts info32; have hroom68 : t116.length ≤ co13 := (Kd.R_reads' HO_5.out).2.1; have hC68 : Kd.C k32 _ Ao13 t116.length t116 := (Kd.R_reads' HO_5.out).2.2; have ql68 : (t121 : Int) ≤ ((wrap64 (t121 + 1)) : Int) := of_decide_eq_true (by first | (with_reducible assumption) | assumption); have q068 : (0 : Int) ≤ (t121 : Int) := of_decide_eq_true (by first | (with_reducible assumption) | assumption); have hcut68 := cut_mid (P := Try.prog) 24 32 .i64 .i64 Try.underlying24 hi068 5 hsz68 Ao13 t116.length co13 t121 (wrap64 (t121 + 1)) q068 ql68 q68 hroom68; have hr68 := Kd.C_mid (lo := (t121 : Int).toNat) (hi := ((wrap64 (t121 + 1)) : Int).toNat) (c := co13) hC68 (by omega) (by omega) hroom68; obtain ⟨A68, hA68⟩ : ∃ A1, A1 = (if co13 = (t121 : Int).toNat then Ao13 else (Ao13 : Option Addr).map (·.add ((t121 : Int).toNat * 5))) := ⟨_, rfl⟩; obtain ⟨c68, hc68⟩ : ∃ c1, c1 = co13 - (t121 : Int).toNat := ⟨_, rfl⟩; have hy68 : y141.length = ((wrap64 (t121 + 1)) : Int).toNat - (t121 : Int).toNat := (by rw [Ny141.out, List.length_drop, List.length_take] <;> omega); rw [show ((t116).take ((wrap64 (t121 + 1)) : Int).toNat).drop (t121 : Int).toNat = y141 from Ny141.out.symm] at hr68; replace hr68 : Kd.C k32 _ A68 y141.length y141 := (by rw [hA68]; exact hr68); rw [← hy68, ← hA68, ← hc68] at hcut68; have HR144 := Aside0.mk hr68; have HC144 := Aside0.mk (show y141.length ≤ c68 from by rw [hy68, hc68]; exact Nat.sub_le_sub_right (Nat.le_trans (by omega) hroom68) _); clear hr68 hC68 hroom68 hi068 hsz68 hc68; have KY68 := Aside0.mk hy68; have KA68 := Aside0.mk hA68; clear hy68 hA68; have KL68 := Aside0.mk (show ((wrap64 (t121 + 1)) : Int).toNat ≤ t116.length from by omega); have KM68 := Aside0.mk (show (t121 : Int).toNat ≤ ((wrap64 (t121 + 1)) : Int).toNat from by omega); replace q68 := eq_true q68) | (go_at_call 12; (with_reducible refine (choose_All.calls kj30 _ _ y141 t140 _ ?side1 ?side2 A58.out).mono ?_); (case side1 => repeat (first | exact (by repeat (first | (with_reducible exact HR144.out) | (with_reducible refine Kd.C_alloc ?_ _) | (with_reducible refine Kd.C_drewN ?_ _) | (with_reducible refine Kd.C_drew ?_) | exact HR144.out)) | (with_reducible refine Kd.C_alloc ?_ _) | (with_reducible refine Kd.C_drewN ?_ _) | (with_reducible refine Kd.C_drew ?_))); (case side2 => exact HC144.out); rintro e w69 ⟨rfl, hb⟩; have n0_ := Aside0.mk (Kd.R_below (by (with_reducible repeat (first | apply Kd.R_alloc | apply Kd.R_drewN | apply Kd.R_drew)); exact HO_5.out) hb); have n1_ := Aside0.mk (Kd.C_below (by repeat (first | (with_reducible exact HR126.out) | (with_reducible refine Kd.C_alloc ?_ _) | (with_reducible refine Kd.C_drewN ?_ _) | (with_reducible refine Kd.C_drew ?_) | exact HR126.out)) hb); have n2_ := Aside0.mk (Kd.C_below (by repeat (first | (with_reducible exact HR139.out) | (with_reducible refine Kd.C_alloc ?_ _) | (with_reducible refine Kd.C_drewN ?_ _) | (with_reducible refine Kd.C_drew ?_) | exact HR139.out)) hb); have n3_ := Aside0.mk (Kd.C_below (by repeat (first | (with_reducible exact HR144.out) | (with_reducible refine Kd.C_alloc ?_ _) | (with_reducible refine Kd.C_drewN ?_ _) | (with_reducible refine Kd.C_drew ?_) | exact HR144.out)) hb); have n4_ := Aside0.mk (below_step (by repeat (first | (with_reducible first | exact HB.out | apply below_alloc | apply pw_below_drewN | apply below_drew1) | exact HB.out)) hb); clear HO_5; clear HR126; clear HR139; clear HR144; clear HB; have HO_5 := n0_; have HR126 := n1_; have HR139 := n2_; have HR144 := n3_; have HB := n4_; clear n0_ n1_ n2_ n3_ n4_; (try clear hb); (try clear hb2); (try clear hk); (try clear hi))))
                                                  go_roundg kj30
                                                  case measure => have := HK1.out; have := HJ20.out; have := HJ24.out; have := HJ30.out; omega
                                                  case rel => exact ⟨(wrap64 (x10_1 + 1)), (by first | rfl | (simp; done) | (simp [*]; done)), H', ⟨by have := HK1.out; have := HJ20.out; have := HJ24.out; have := HJ30.out; omega⟩, ⟨by (with_reducible repeat (first | apply Kd.R_alloc | apply Kd.R_drewN | apply Kd.R_drew)); exact HO_5.out⟩, ⟨by repeat (first | (with_reducible first | exact HB.out | apply below_alloc | apply pw_below_drewN | apply below_drew1) | exact HB.out)⟩⟩
                                          · rw [if_neg c59] at H
                                            have c59b0 : (t127 == t140) = false := beq_eq_false_iff_ne.mpr c59
                                            have c59b1 : (t127 != t140) = true := bne_iff_ne.mpr c59
                                            by_cases c70 : x10_1 = t121
                                            · rw [if_pos c70] at H
                                              have c70b0 : (x10_1 == t121) = true := beq_iff_eq.mpr c70
                                              have c70b1 : (x10_1 != t121) = false := bne_eq_false_iff_eq.mpr c70
                                              clear c70
                                              as_aux_lemma =>
                                                have H' := Aside0.mk H
                                                clear H
                                                have q71 : ((wrap64 (t121 + 1)) : Int) ≤ ((t116.length : Int) : Int) := of_decide_eq_true (by first | (with_reducible assumption) | assumption)
                                                obtain ⟨i071, hi071, _, hsz71, _⟩ := info_parts info32
                                                have hroom71 : t116.length ≤ co13 := (Kd.R_reads' HO_5.out).2.1
                                                have hC71 : Kd.C k32 _ Ao13 t116.length t116 := (Kd.R_reads' HO_5.out).2.2
                                                have ql71 : (t121 : Int) ≤ ((wrap64 (t121 + 1)) : Int) := of_decide_eq_true (by first | (with_reducible assumption) | assumption)
                                                have q071 : (0 : Int) ≤ (t121 : Int) := of_decide_eq_true (by first | (with_reducible assumption) | assumption)
                                                have hcut71 := cut_mid (P := Try.prog) 24 32 .i64 .i64 Try.underlying24 hi071 5 hsz71 Ao13 t116.length co13 t121 (wrap64 (t121 + 1)) q071 ql71 q71 hroom71
                                                have hr71 := Kd.C_mid (lo := (t121 : Int).toNat) (hi := ((wrap64 (t121 + 1)) : Int).toNat) (c := co13) hC71 (by omega) (by omega) hroom71
                                                obtain ⟨A71, hA71⟩ : ∃ A1, A1 = (if co13 = (t121 : Int).toNat then Ao13 else (Ao13 : Option Addr).map (·.add ((t121 : Int).toNat * 5))) := ⟨_, rfl⟩
                                                obtain ⟨c71, hc71⟩ : ∃ c1, c1 = co13 - (t121 : Int).toNat := ⟨_, rfl⟩
                                                have hy71 : y136.length = ((wrap64 (t121 + 1)) : Int).toNat - (t121 : Int).toNat := (by rw [Ny136.out, List.length_drop, List.length_take] <;> omega)
                                                rw [show ((t116).take ((wrap64 (t121 + 1)) : Int).toNat).drop (t121 : Int).toNat = y136 from Ny136.out.symm] at hr71
                                                replace hr71 : Kd.C k32 _ A71 y136.length y136 := (by rw [hA71]; exact hr71)
                                                rw [← hy71, ← hA71, ← hc71] at hcut71
                                                have HR139 := Aside0.mk hr71
                                                have HC139 := Aside0.mk (show y136.length ≤ c71 from by rw [hy71, hc71]; exact Nat.sub_le_sub_right (Nat.le_trans (by omega) hroom71) _)
                                                clear hr71 hC71 hroom71 hi071 hsz71 hc71
                                                have KY71 := Aside0.mk hy71
                                                have KA71 := Aside0.mk hA71
                                                clear hy71 hA71
                                                have KL71 := Aside0.mk (show ((wrap64 (t121 + 1)) : Int).toNat ≤ t116.length from by omega)
                                                have KM71 := Aside0.mk (show (t121 : Int).toNat ≤ ((wrap64 (t121 + 1)) : Int).toNat from by omega)
                                                replace q71 := eq_true q71
                                                go_wp2_with (first | (go_at_call 12; (with_reducible refine (choose_All.calls kj30 _ _ y136 t140 _ ?side1 ?side2 A53.out).mono ?_); (case side1 => repeat (first | exact (by repeat (first | (with_reducible exact HR139.out) | (with_reducible refine Kd.C_alloc ?_ _) | (with_reducible refine Kd.C_drewN ?_ _) | (with_reducible refine Kd.C_drew ?_) | exact HR139.out)) | (with_reducible refine Kd.C_alloc ?_ _) | (with_reducible refine Kd.C_drewN ?_ _) | (with_reducible refine Kd.C_drew ?_))); (case side2 => exact HC139.out); rintro e w72 ⟨rfl, hb⟩; have n0_ := Aside0.mk (Kd.R_below (by (with_reducible repeat (first | apply Kd.R_alloc | apply Kd.R_drewN | apply Kd.R_drew)); exact HO_5.out) hb); have n1_ := Aside0.mk (Kd.C_below (by repeat (first | (with_reducible exact HR126.out) | (with_reducible refine Kd.C_alloc ?_ _) | (with_reducible refine Kd.C_drewN ?_ _) | (with_reducible refine Kd.C_drew ?_) | exact HR126.out)) hb); have n2_ := Aside0.mk (Kd.C_below (by repeat (first | (with_reducible exact HR139.out) | (with_reducible refine Kd.C_alloc ?_ _) | (with_reducible refine Kd.C_drewN ?_ _) | (with_reducible refine Kd.C_drew ?_) | exact HR139.out)) hb); have n3_ := Aside0.mk (below_step (by repeat (first | (with_reducible first | exact HB.out | apply below_alloc | apply pw_below_drewN | apply below_drew1) | exact HB.out)) hb); clear HO_5; clear HR126; clear HR139; clear HB; have HO_5 := n0_; have HR126 := n1_; have HR139 := n2_; have HB := n3_; clear n0_ n1_ n2_ n3_; (try clear hb); (try clear hb2); (try clear hk); (try clear hi); have q73 : ((wrap64 (t121 + 1)) : Int) ≤ ((t116.length : Int) : Int) := of_decide_eq_true (by first | (with_reducible assumption) | assumption); obtain ⟨i073, hi073, _, hsz73, _⟩ := info_parts info32; have hroom73 : t116.length ≤ co13 := (Kd.R_reads' HO_5.out).2.1; have hC73 : Kd.C k32 _ Ao13 t116.length t116 := (Kd.R_reads' HO_5.out).2.2; have ql73 : (t121 : Int) ≤ ((wrap64 (t121 + 1)) : Int) := of_decide_eq_true (by first | (with_reducible assumption) | assumption); have q073 : (0 : Int) ≤ (t121 : Int) := of_decide_eq_true (by first | (with_reducible assumption) | assumption); have hcut73 := cut_mid (P := Try.prog) 24 32 .i64 .i64 Try.underlying24 hi073 5 hsz73 Ao13 t116.length co13 t121 (wrap64 (t121 + 1)) q073 ql73 q73 hroom73; have hr73 := Kd.C_mid (lo := (t121 : Int).toNat) (hi := ((wrap64 (t121 + 1)) : Int).toNat) (c := co13) hC73 (by omega) (by omega) hroom73; obtain ⟨A73, hA73⟩ : ∃ A1, A1 = (if co13 = (t121 : Int).toNat then Ao13 else (Ao13 : Option Addr).map (·.add ((t121 : Int).toNat * 5))) := ⟨_, rfl⟩; obtain ⟨c73, hc73⟩ : ∃ c1, c1 = co13 - (t121 : Int).toNat := ⟨_, rfl⟩; have hy73 : y141.length = ((wrap64 (t121 + 1)) : Int).toNat - (t121 : Int).toNat := (by rw [Ny141.out, List.length_drop, List.length_take] <;> omega); rw [show ((t116).take ((wrap64 (t121 + 1)) : Int).toNat).drop (t121 : Int).toNat = y141 from Ny141.out.symm] at hr73; replace hr73 : Kd.C k32 _ A73 y141.length y141 := (by rw [hA73]; exact hr73); rw [← hy73, ← hA73, ← hc73] at hcut73; have HR144 := Aside0.mk hr73; have HC144 := Aside0.mk (show y141.length ≤ c73 from by rw [hy73, hc73]; exact Nat.sub_le_sub_right (Nat.le_trans (by omega) hroom73) _); clear hr73 hC73 hroom73 hi073 hsz73 hc73; have KY73 := Aside0.mk hy73; have KA73 := Aside0.mk hA73; clear hy73 hA73; have KL73 := Aside0.mk (show ((wrap64 (t121 + 1)) : Int).toNat ≤ t116.length from by omega); have KM73 := Aside0.mk (show (t121 : Int).toNat ≤ ((wrap64 (t121 + 1)) : Int).toNat from by omega); replace q73 := eq_true q73) | (go_at_call 12; (with_reducible refine (choose_All.calls kj30 _ _ y141 t140 _ ?side1 ?side2 A58.out).mono ?_); (case side1 => repeat (first | exact (by repeat (first | (with_reducible exact HR144.out) | (with_reducible refine Kd.C_alloc ?_ _) | (with_reducible refine Kd.C_drewN ?_ _) | (with_reducible refine Kd.C_drew ?_) | exact HR144.out)) | (with_reducible refine Kd.C_alloc ?_ _) | (with_reducible refine Kd.C_drewN ?_ _) | (with_reducible refine Kd.C_drew ?_))); (case side2 => exact HC144.out); rintro e w74 ⟨rfl, hb⟩; have n0_ := Aside0.mk (Kd.R_below (by (with_reducible repeat (first | apply Kd.R_alloc | apply Kd.R_drewN | apply Kd.R_drew)); exact HO_5.out) hb); have n1_ := Aside0.mk (Kd.C_below (by repeat (first | (with_reducible exact HR126.out) | (with_reducible refine Kd.C_alloc ?_ _) | (with_reducible refine Kd.C_drewN ?_ _) | (with_reducible refine Kd.C_drew ?_) | exact HR126.out)) hb); have n2_ := Aside0.mk (Kd.C_below (by repeat (first | (with_reducible exact HR139.out) | (with_reducible refine Kd.C_alloc ?_ _) | (with_reducible refine Kd.C_drewN ?_ _) | (with_reducible refine Kd.C_drew ?_) | exact HR139.out)) hb); have n3_ := Aside0.mk (Kd.C_below (by repeat (first | (with_reducible exact HR144.out) | (with_reducible refine Kd.C_alloc ?_ _) | (with_reducible refine Kd.C_drewN ?_ _) | (with_reducible refine Kd.C_drew ?_) | exact HR144.out)) hb); have n4_ := Aside0.mk (below_step (by repeat (first | (with_reducible first | exact HB.out | apply below_alloc | apply pw_below_drewN | apply below_drew1) | exact HB.out)) hb); clear HO_5; clear HR126; clear HR139; clear HR144; clear HB; have HO_5 := n0_; have HR126 := n1_; have HR139 := n2_; have HR144 := n3_; have HB := n4_; clear n0_ n1_ n2_ n3_ n4_; (try clear hb); (try clear hb2); (try clear hk); (try clear hi)))
                                                repeat (go_quiet (first | (go_at_call 12; (with_reducible refine (choose_All.calls kj30 _ _ y136 t140 _ ?side1 ?side2 A53.out).mono ?_); (case side1 => repeat (first | exact (by repeat (first | (with_reducible exact HR139.out) | (with_reducible refine Kd.C_alloc ?_ _) | (with_reducible refine Kd.C_drewN ?_ _) | (with_reducible refine Kd.C_drew ?_) | exact HR139.out)) | (with_reducible refine Kd.C_alloc ?_ _) | (with_reducible refine Kd.C_drewN ?_ _) | (with_reducible refine Kd.C_drew ?_))); (case side2 => exact HC139.out); rintro e w72 ⟨rfl, hb⟩; have n0_ := Aside0.mk (Kd.R_below (by (with_reducible repeat (first | apply Kd.R_alloc | apply Kd.R_drewN | apply Kd.R_drew)); exact HO_5.out) hb); have n1_ := Aside0.mk (Kd.C_below (by repeat (first | (with_reducible exact HR126.out) | (with_reducible refine Kd.C_alloc ?_ _) | (with_reducible refine Kd.C_drewN ?_ _) | (with_reducible refine Kd.C_drew ?_) | exact HR126.out)) hb); have n2_ := Aside0.mk (Kd.C_below (by repeat (first | (with_reducible exact HR139.out) | (with_reducible refine Kd.C_alloc ?_ _) | (with_reducible refine Kd.C_drewN ?_ _) | (with_reducible refine Kd.C_drew ?_) | exact HR139.out)) hb); have n3_ := Aside0.mk (below_step (by repeat (first | (with_reducible first | exact HB.out | apply below_alloc | apply pw_below_drewN | apply below_drew1) | exact HB.out)) hb); clear HO_5; clear HR126; clear HR139; clear HB; have HO_5 := n0_; have HR126 := n1_; have HR139 := n2_; have HB := n3_; clear n0_ n1_ n2_ n3_; (try clear hb); (try clear hb2); (try clear hk); (try clear hi); have q73 : ((wrap64 (t121 + 1)) : Int) ≤ ((t116.length : Int) : Int) := of_decide_eq_true (by first | (with_reducible assumption) | assumption); obtain ⟨i073, hi073, _, hsz73, _⟩ := info_parts info32; have hroom73 : t116.length ≤ co13 := (Kd.R_reads' HO_5.out).2.1; have hC73 : Kd.C k32 _ Ao13 t116.length t116 := (Kd.R_reads' HO_5.out).2.2; have ql73 : (t121 : Int) ≤ ((wrap64 (t121 + 1)) : Int) := of_decide_eq_true (by first | (with_reducible assumption) | assumption); have q073 : (0 : Int) ≤ (t121 : Int) := of_decide_eq_true (by first | (with_reducible assumption) | assumption); have hcut73 := cut_mid (P := Try.prog) 24 32 .i64 .i64 Try.underlying24 hi073 5 hsz73 Ao13 t116.length co13 t121 (wrap64 (t121 + 1)) q073 ql73 q73 hroom73; have hr73 := Kd.C_mid (lo := (t121 : Int).toNat) (hi := ((wrap64 (t121 + 1)) : Int).toNat) (c := co13) hC73 (by omega) (by omega) hroom73; obtain ⟨A73, hA73⟩ : ∃ A1, A1 = (if co13 = (t121 : Int).toNat then Ao13 else (Ao13 : Option Addr).map (·.add ((t121 : Int).toNat * 5))) := ⟨_, rfl⟩; obtain ⟨c73, hc73⟩ : ∃ c1, c1 = co13 - (t121 : Int).toNat := ⟨_, rfl⟩; have hy73 : y141.length = ((wrap64 (t121 + 1)) : Int).toNat - (t121 : Int).toNat := (by rw [Ny141.out, List.length_drop, List.length_take] <;> omega); rw [show ((t116).take ((wrap64 (t121 + 1)) : Int).toNat).drop (t121 : Int).toNat = y141 from Ny141.out.symm] at hr73; replace hr73 : Kd.C k32 _ A73 y141.length y141 := (by rw [hA73]; exact hr73); rw [← hy73, ← hA73, ← hc73] at hcut73; have HR144 := Aside0.mk hr73; have HC144 := Aside0.mk (show y141.length ≤ c73 from by rw [hy73, hc73]; exact Nat.sub_le_sub_right (Nat.le_trans (by omega) hroom73) _); clear hr73 hC73 hroom73 hi073 hsz73 hc73; have KY73 := Aside0.mk hy73; have KA73 := Aside0.mk hA73; clear hy73 hA73; have KL73 := Aside0.mk (show ((wrap64 (t121 + 1)) : Int).toNat ≤ t116.length from by omega); have KM73 := Aside0.mk (show (t121 : Int).toNat ≤ ((wrap64 (t121 + 1)) : Int).toNat from by omega); replace q73 := eq_true q73) | (go_at_call 12; (with_reducible refine (choose_All.calls kj30 _ _ y141 t140 _ ?side1 ?side2 A58.out).mono ?_); (case side1 => repeat (first | exact (by repeat (first | (with_reducible exact HR144.out) | (with_reducible refine Kd.C_alloc ?_ _) | (with_reducible refine Kd.C_drewN ?_ _) | (with_reducible refine Kd.C_drew ?_) | exact HR144.out)) | (with_reducible refine Kd.C_alloc ?_ _) | (with_reducible refine Kd.C_drewN ?_ _) | (with_reducible refine Kd.C_drew ?_))); (case side2 => exact HC144.out); rintro e w74 ⟨rfl, hb⟩; have n0_ := Aside0.mk (Kd.R_below (by (with_reducible repeat (first | apply Kd.R_alloc | apply Kd.R_drewN | apply Kd.R_drew)); exact HO_5.out) hb); have n1_ := Aside0.mk (Kd.C_below (by repeat (first | (with_reducible exact HR126.out) | (with_reducible refine Kd.C_alloc ?_ _) | (with_reducible refine Kd.C_drewN ?_ _) | (with_reducible refine Kd.C_drew ?_) | exact HR126.out)) hb); have n2_ := Aside0.mk (Kd.C_below (by repeat (first | (with_reducible exact HR139.out) | (with_reducible refine Kd.C_alloc ?_ _) | (with_reducible refine Kd.C_drewN ?_ _) | (with_reducible refine Kd.C_drew ?_) | exact HR139.out)) hb); have n3_ := Aside0.mk (Kd.C_below (by repeat (first | (with_reducible exact HR144.out) | (with_reducible refine Kd.C_alloc ?_ _) | (with_reducible refine Kd.C_drewN ?_ _) | (with_reducible refine Kd.C_drew ?_) | exact HR144.out)) hb); have n4_ := Aside0.mk (below_step (by repeat (first | (with_reducible first | exact HB.out | apply below_alloc | apply pw_below_drewN | apply below_drew1) | exact HB.out)) hb); clear HO_5; clear HR126; clear HR139; clear HR144; clear HB; have HO_5 := n0_; have HR126 := n1_; have HR139 := n2_; have HR144 := n3_; have HB := n4_; clear n0_ n1_ n2_ n3_ n4_; (try clear hb); (try clear hb2); (try clear hk); (try clear hi))); try go_wp2_with (first | (go_at_call 12; (with_reducible refine (choose_All.calls kj30 _ _ y136 t140 _ ?side1 ?side2 A53.out).mono ?_); (case side1 => repeat (first | exact (by repeat (first | (with_reducible exact HR139.out) | (with_reducible refine Kd.C_alloc ?_ _) | (with_reducible refine Kd.C_drewN ?_ _) | (with_reducible refine Kd.C_drew ?_) | exact HR139.out)) | (with_reducible refine Kd.C_alloc ?_ _) | (with_reducible refine Kd.C_drewN ?_ _) | (with_reducible refine Kd.C_drew ?_))); (case side2 => exact HC139.out); rintro e w72 ⟨rfl, hb⟩; have n0_ := Aside0.mk (Kd.R_below (by (with_reducible repeat (first | apply Kd.R_alloc | apply Kd.R_drewN | apply Kd.R_drew)); exact HO_5.out) hb); have n1_ := Aside0.mk (Kd.C_below (by repeat (first | (with_reducible exact HR126.out) | (with_reducible refine Kd.C_alloc ?_ _) | (with_reducible refine Kd.C_drewN ?_ _) | (with_reducible refine Kd.C_drew ?_) | exact HR126.out)) hb); have n2_ := Aside0.mk (Kd.C_below (by repeat (first | (with_reducible exact HR139.out) | (with_reducible refine Kd.C_alloc ?_ _) | (with_reducible refine Kd.C_drewN ?_ _) | (with_reducible refine Kd.C_drew ?_) | exact HR139.out)) hb); have n3_ := Aside0.mk (below_step (by repeat (first | (with_reducible first | exact HB.out | apply below_alloc | apply pw_below_drewN | apply below_drew1) | exact HB.out)) hb); clear HO_5; clear HR126; clear HR139; clear HB; have HO_5 := n0_; have HR126 := n1_; have HR139 := n2_; have HB := n3_; clear n0_ n1_ n2_ n3_; (try clear hb); (try clear hb2); (try clear hk); (try clear hi); have q73 : ((wrap64 (t121 + 1)) : Int) ≤ ((t116.length : Int) : Int) := of_decide_eq_true (by first | (with_reducible assumption) | assumption); obtain ⟨i073, hi073, _, hsz73, _⟩ := info_parts info32; have hroom73 : t116.length ≤ co13 := (Kd.R_reads' HO_5.out).2.1; have hC73 : Kd.C k32 _ Ao13 t116.length t116 := (Kd.R_reads' HO_5.out).2.2; have ql73 : (t121 : Int) ≤ ((wrap64 (t121 + 1)) : Int) := of_decide_eq_true (by first | (with_reducible assumption) | assumption); have q073 : (0 : Int) ≤ (t121 : Int) := of_decide_eq_true (by first | (with_reducible assumption) | assumption); have hcut73 := cut_mid (P := Try.prog) 24 32 .i64 .i64 Try.underlying24 hi073 5 hsz73 Ao13 t116.length co13 t121 (wrap64 (t121 + 1)) q073 ql73 q73 hroom73; have hr73 := Kd.C_mid (lo := (t121 : Int).toNat) (hi := ((wrap64 (t121 + 1)) : Int).toNat) (c := co13) hC73 (by omega) (by omega) hroom73; obtain ⟨A73, hA73⟩ : ∃ A1, A1 = (if co13 = (t121 : Int).toNat then Ao13 else (Ao13 : Option Addr).map (·.add ((t121 : Int).toNat * 5))) := ⟨_, rfl⟩; obtain ⟨c73, hc73⟩ : ∃ c1, c1 = co13 - (t121 : Int).toNat := ⟨_, rfl⟩; have hy73 : y141.length = ((wrap64 (t121 + 1)) : Int).toNat - (t121 : Int).toNat := (by rw [Ny141.out, List.length_drop, List.length_take] <;> omega); rw [show ((t116).take ((wrap64 (t121 + 1)) : Int).toNat).drop (t121 : Int).toNat = y141 from Ny141.out.symm] at hr73; replace hr73 : Kd.C k32 _ A73 y141.length y141 := (by rw [hA73]; exact hr73); rw [← hy73, ← hA73, ← hc73] at hcut73; have HR144 := Aside0.mk hr73; have HC144 := Aside0.mk (show y141.length ≤ c73 from by rw [hy73, hc73]; exact Nat.sub_le_sub_right (Nat.le_trans (by omega) hroom73) _); clear hr73 hC73 hroom73 hi073 hsz73 hc73; have KY73 := Aside0.mk hy73; have KA73 := Aside0.mk hA73; clear hy73 hA73; have KL73 := Aside0.mk (show ((wrap64 (t121 + 1)) : Int).toNat ≤ t116.length from by omega); have KM73 := Aside0.mk (show (t121 : Int).toNat ≤ ((wrap64 (t121 + 1)) : Int).toNat from by omega); replace q73 := eq_true q73) | (go_at_call 12; (with_reducible refine (choose_All.calls kj30 _ _ y141 t140 _ ?side1 ?side2 A58.out).mono ?_); (case side1 => repeat (first | exact (by repeat (first | (with_reducible exact HR144.out) | (with_reducible refine Kd.C_alloc ?_ _) | (with_reducible refine Kd.C_drewN ?_ _) | (with_reducible refine Kd.C_drew ?_) | exact HR144.out)) | (with_reducible refine Kd.C_alloc ?_ _) | (with_reducible refine Kd.C_drewN ?_ _) | (with_reducible refine Kd.C_drew ?_))); (case side2 => exact HC144.out); rintro e w74 ⟨rfl, hb⟩; have n0_ := Aside0.mk (Kd.R_below (by (with_reducible repeat (first | apply Kd.R_alloc | apply Kd.R_drewN | apply Kd.R_drew)); exact HO_5.out) hb); have n1_ := Aside0.mk (Kd.C_below (by repeat (first | (with_reducible exact HR126.out) | (with_reducible refine Kd.C_alloc ?_ _) | (with_reducible refine Kd.C_drewN ?_ _) | (with_reducible refine Kd.C_drew ?_) | exact HR126.out)) hb); have n2_ := Aside0.mk (Kd.C_below (by repeat (first | (with_reducible exact HR139.out) | (with_reducible refine Kd.C_alloc ?_ _) | (with_reducible refine Kd.C_drewN ?_ _) | (with_reducible refine Kd.C_drew ?_) | exact HR139.out)) hb); have n3_ := Aside0.mk (Kd.C_below (by repeat (first | (with_reducible exact HR144.out) | (with_reducible refine Kd.C_alloc ?_ _) | (with_reducible refine Kd.C_drewN ?_ _) | (with_reducible refine Kd.C_drew ?_) | exact HR144.out)) hb); have n4_ := Aside0.mk (below_step (by repeat (first | (with_reducible first | exact HB.out | apply below_alloc | apply pw_below_drewN | apply below_drew1) | exact HB.out)) hb); clear HO_5; clear HR126; clear HR139; clear HR144; clear HB; have HO_5 := n0_; have HR126 := n1_; have HR139 := n2_; have HR144 := n3_; have HB := n4_; clear n0_ n1_ n2_ n3_ n4_; (try clear hb); (try clear hb2); (try clear hk); (try clear hi))))
                                                go_roundg kj30
                                                case measure => have := HK1.out; have := HJ20.out; have := HJ24.out; have := HJ30.out; omega
                                                case rel => exact ⟨(wrap64 (x10_1 + 1)), (by first | rfl | (simp; done) | (simp [*]; done)), H', ⟨by have := HK1.out; have := HJ20.out; have := HJ24.out; have := HJ30.out; omega⟩, ⟨by (with_reducible repeat (first | apply Kd.R_alloc | apply Kd.R_drewN | apply Kd.R_drew)); exact HO_5.out⟩, ⟨by repeat (first | (with_reducible first | exact HB.out | apply below_alloc | apply pw_below_drewN | apply below_drew1) | exact HB.out)⟩⟩
                                            · rw [if_neg c70] at H
                                              have c70b0 : (x10_1 == t121) = false := beq_eq_false_iff_ne.mpr c70
                                              have c70b1 : (x10_1 != t121) = true := bne_iff_ne.mpr c70
                                              as_aux_lemma =>
                                                have H' := Aside0.mk H
                                                clear H
                                                have q75 : ((wrap64 (t121 + 1)) : Int) ≤ ((t116.length : Int) : Int) := of_decide_eq_true (by first | (with_reducible assumption) | assumption)
                                                obtain ⟨i075, hi075, _, hsz75, _⟩ := info_parts info32
                                                have hroom75 : t116.length ≤ co13 := (Kd.R_reads' HO_5.out).2.1
                                                have hC75 : Kd.C k32 _ Ao13 t116.length t116 := (Kd.R_reads' HO_5.out).2.2
                                                have ql75 : (t121 : Int) ≤ ((wrap64 (t121 + 1)) : Int) := of_decide_eq_true (by first | (with_reducible assumption) | assumption)
                                                have q075 : (0 : Int) ≤ (t121 : Int) := of_decide_eq_true (by first | (with_reducible assumption) | assumption)
                                                have hcut75 := cut_mid (P := Try.prog) 24 32 .i64 .i64 Try.underlying24 hi075 5 hsz75 Ao13 t116.length co13 t121 (wrap64 (t121 + 1)) q075 ql75 q75 hroom75
                                                have hr75 := Kd.C_mid (lo := (t121 : Int).toNat) (hi := ((wrap64 (t121 + 1)) : Int).toNat) (c := co13) hC75 (by omega) (by omega) hroom75
                                                obtain ⟨A75, hA75⟩ : ∃ A1, A1 = (if co13 = (t121 : Int).toNat then Ao13 else (Ao13 : Option Addr).map (·.add ((t121 : Int).toNat * 5))) := ⟨_, rfl⟩
                                                obtain ⟨c75, hc75⟩ : ∃ c1, c1 = co13 - (t121 : Int).toNat := ⟨_, rfl⟩
                                                have hy75 : y136.length = ((wrap64 (t121 + 1)) : Int).toNat - (t121 : Int).toNat := (by rw [Ny136.out, List.length_drop, List.length_take] <;> omega)
                                                rw [show ((t116).take ((wrap64 (t121 + 1)) : Int).toNat).drop (t121 : Int).toNat = y136 from Ny136.out.symm] at hr75
                                                replace hr75 : Kd.C k32 _ A75 y136.length y136 := (by rw [hA75]; exact hr75)
                                                rw [← hy75, ← hA75, ← hc75] at hcut75
                                                have HR139 := Aside0.mk hr75
                                                have HC139 := Aside0.mk (show y136.length ≤ c75 from by rw [hy75, hc75]; exact Nat.sub_le_sub_right (Nat.le_trans (by omega) hroom75) _)
                                                clear hr75 hC75 hroom75 hi075 hsz75 hc75
                                                have KY75 := Aside0.mk hy75
                                                have KA75 := Aside0.mk hA75
                                                clear hy75 hA75
                                                have KL75 := Aside0.mk (show ((wrap64 (t121 + 1)) : Int).toNat ≤ t116.length from by omega)
                                                have KM75 := Aside0.mk (show (t121 : Int).toNat ≤ ((wrap64 (t121 + 1)) : Int).toNat from by omega)
                                                replace q75 := eq_true q75
                                                go_wp2_with (first | (go_at_call 12; (with_reducible refine (choose_All.calls kj30 _ _ y136 t140 _ ?side1 ?side2 A53.out).mono ?_); (case side1 => repeat (first | exact (by repeat (first | (with_reducible exact HR139.out) | (with_reducible refine Kd.C_alloc ?_ _) | (with_reducible refine Kd.C_drewN ?_ _) | (with_reducible refine Kd.C_drew ?_) | exact HR139.out)) | (with_reducible refine Kd.C_alloc ?_ _) | (with_reducible refine Kd.C_drewN ?_ _) | (with_reducible refine Kd.C_drew ?_))); (case side2 => exact HC139.out); rintro e w76 ⟨rfl, hb⟩; have n0_ := Aside0.mk (Kd.R_below (by (with_reducible repeat (first | apply Kd.R_alloc | apply Kd.R_drewN | apply Kd.R_drew)); exact HO_5.out) hb); have n1_ := Aside0.mk (Kd.C_below (by repeat (first | (with_reducible exact HR126.out) | (with_reducible refine Kd.C_alloc ?_ _) | (with_reducible refine Kd.C_drewN ?_ _) | (with_reducible refine Kd.C_drew ?_) | exact HR126.out)) hb); have n2_ := Aside0.mk (Kd.C_below (by repeat (first | (with_reducible exact HR139.out) | (with_reducible refine Kd.C_alloc ?_ _) | (with_reducible refine Kd.C_drewN ?_ _) | (with_reducible refine Kd.C_drew ?_) | exact HR139.out)) hb); have n3_ := Aside0.mk (below_step (by repeat (first | (with_reducible first | exact HB.out | apply below_alloc | apply pw_below_drewN | apply below_drew1) | exact HB.out)) hb); clear HO_5; clear HR126; clear HR139; clear HB; have HO_5 := n0_; have HR126 := n1_; have HR139 := n2_; have HB := n3_; clear n0_ n1_ n2_ n3_; (try clear hb); (try clear hb2); (try clear hk); (try clear hi); have q77 : ((wrap64 (t121 + 1)) : Int) ≤ ((t116.length : Int) : Int) := of_decide_eq_true (by first | (with_reducible assumption) | assumption); obtain ⟨i077, hi077, _, hsz77, _⟩ := info_parts info32; have hroom77 : t116.length ≤ co13 := (Kd.R_reads' HO_5.out).2.1; have hC77 : Kd.C k32 _ Ao13 t116.length t116 := (Kd.R_reads' HO_5.out).2.2; have ql77 : (t121 : Int) ≤ ((wrap64 (t121 + 1)) : Int) := of_decide_eq_true (by first | (with_reducible assumption) | assumption); have q077 : (0 : Int) ≤ (t121 : Int) := of_decide_eq_true (by first | (with_reducible assumption) | assumption); have hcut77 := cut_mid (P := Try.prog) 24 32 .i64 .i64 Try.underlying24 hi077 5 hsz77 Ao13 t116.length co13 t121 (wrap64 (t121 + 1)) q077 ql77 q77 hroom77; have hr77 := Kd.C_mid (lo := (t121 : Int).toNat) (hi := ((wrap64 (t121 + 1)) : Int).toNat) (c := co13) hC77 (by omega) (by omega) hroom77; obtain ⟨A77, hA77⟩ : ∃ A1, A1 = (if co13 = (t121 : Int).toNat then Ao13 else (Ao13 : Option Addr).map (·.add ((t121 : Int).toNat * 5))) := ⟨_, rfl⟩; obtain ⟨c77, hc77⟩ : ∃ c1, c1 = co13 - (t121 : Int).toNat := ⟨_, rfl⟩; have hy77 : y141.length = ((wrap64 (t121 + 1)) : Int).toNat - (t121 : Int).toNat := (by rw [Ny141.out, List.length_drop, List.length_take] <;> omega); rw [show ((t116).take ((wrap64 (t121 + 1)) : Int).toNat).drop (t121 : Int).toNat = y141 from Ny141.out.symm] at hr77; replace hr77 : Kd.C k32 _ A77 y141.length y141 := (by rw [hA77]; exact hr77); rw [← hy77, ← hA77, ← hc77] at hcut77; have HR144 := Aside0.mk hr77; have HC144 := Aside0.mk (show y141.length ≤ c77 from by rw [hy77, hc77]; exact Nat.sub_le_sub_right (Nat.le_trans (by omega) hroom77) _); clear hr77 hC77 hroom77 hi077 hsz77 hc77; have KY77 := Aside0.mk hy77; have KA77 := Aside0.mk hA77; clear hy77 hA77; have KL77 := Aside0.mk (show ((wrap64 (t121 + 1)) : Int).toNat ≤ t116.length from by omega); have KM77 := Aside0.mk (show (t121 : Int).toNat ≤ ((wrap64 (t121 + 1)) : Int).toNat from by omega); replace q77 := eq_true q77) | (go_at_call 12; (with_reducible refine (choose_All.calls kj30 _ _ y141 t140 _ ?side1 ?side2 A58.out).mono ?_); (case side1 => repeat (first | exact (by repeat (first | (with_reducible exact HR144.out) | (with_reducible refine Kd.C_alloc ?_ _) | (with_reducible refine Kd.C_drewN ?_ _) | (with_reducible refine Kd.C_drew ?_) | exact HR144.out)) | (with_reducible refine Kd.C_alloc ?_ _) | (with_reducible refine Kd.C_drewN ?_ _) | (with_reducible refine Kd.C_drew ?_))); (case side2 => exact HC144.out); rintro e w78 ⟨rfl, hb⟩; have n0_ := Aside0.mk (Kd.R_below (by (with_reducible repeat (first | apply Kd.R_alloc | apply Kd.R_drewN | apply Kd.R_drew)); exact HO_5.out) hb); have n1_ := Aside0.mk (Kd.C_below (by repeat (first | (with_reducible exact HR126.out) | (with_reducible refine Kd.C_alloc ?_ _) | (with_reducible refine Kd.C_drewN ?_ _) | (with_reducible refine Kd.C_drew ?_) | exact HR126.out)) hb); have n2_ := Aside0.mk (Kd.C_below (by repeat (first | (with_reducible exact HR139.out) | (with_reducible refine Kd.C_alloc ?_ _) | (with_reducible refine Kd.C_drewN ?_ _) | (with_reducible refine Kd.C_drew ?_) | exact HR139.out)) hb); have n3_ := Aside0.mk (Kd.C_below (by repeat (first | (with_reducible exact HR144.out) | (with_reducible refine Kd.C_alloc ?_ _) | (with_reducible refine Kd.C_drewN ?_ _) | (with_reducible refine Kd.C_drew ?_) | exact HR144.out)) hb); have n4_ := Aside0.mk (below_step (by repeat (first | (with_reducible first | exact HB.out | apply below_alloc | apply pw_below_drewN | apply below_drew1) | exact HB.out)) hb); clear HO_5; clear HR126; clear HR139; clear HR144; clear HB; have HO_5 := n0_; have HR126 := n1_; have HR139 := n2_; have HR144 := n3_; have HB := n4_; clear n0_ n1_ n2_ n3_ n4_; (try clear hb); (try clear hb2); (try clear hk); (try clear hi)))
                                                repeat (go_quiet (first | (go_at_call 12; (with_reducible refine (choose_All.calls kj30 _ _ y136 t140 _ ?side1 ?side2 A53.out).mono ?_); (case side1 => repeat (first | exact (by repeat (first | (with_reducible exact HR139.out) | (with_reducible refine Kd.C_alloc ?_ _) | (with_reducible refine Kd.C_drewN ?_ _) | (with_reducible refine Kd.C_drew ?_) | exact HR139.out)) | (with_reducible refine Kd.C_alloc ?_ _) | (with_reducible refine Kd.C_drewN ?_ _) | (with_reducible refine Kd.C_drew ?_))); (case side2 => exact HC139.out); rintro e w76 ⟨rfl, hb⟩; have n0_ := Aside0.mk (Kd.R_below (by (with_reducible repeat (first | apply Kd.R_alloc | apply Kd.R_drewN | apply Kd.R_drew)); exact HO_5.out) hb); have n1_ := Aside0.mk (Kd.C_below (by repeat (first | (with_reducible exact HR126.out) | (with_reducible refine Kd.C_alloc ?_ _) | (with_reducible refine Kd.C_drewN ?_ _) | (with_reducible refine Kd.C_drew ?_) | exact HR126.out)) hb); have n2_ := Aside0.mk (Kd.C_below (by repeat (first | (with_reducible exact HR139.out) | (with_reducible refine Kd.C_alloc ?_ _) | (with_reducible refine Kd.C_drewN ?_ _) | (with_reducible refine Kd.C_drew ?_) | exact HR139.out)) hb); have n3_ := Aside0.mk (below_step (by repeat (first | (with_reducible first | exact HB.out | apply below_alloc | apply pw_below_drewN | apply below_drew1) | exact HB.out)) hb); clear HO_5; clear HR126; clear HR139; clear HB; have HO_5 := n0_; have HR126 := n1_; have HR139 := n2_; have HB := n3_; clear n0_ n1_ n2_ n3_; (try clear hb); (try clear hb2); (try clear hk); (try clear hi); have q77 : ((wrap64 (t121 + 1)) : Int) ≤ ((t116.length : Int) : Int) := of_decide_eq_true (by first | (with_reducible assumption) | assumption); obtain ⟨i077, hi077, _, hsz77, _⟩ := info_parts info32; have hroom77 : t116.length ≤ co13 := (Kd.R_reads' HO_5.out).2.1; have hC77 : Kd.C k32 _ Ao13 t116.length t116 := (Kd.R_reads' HO_5.out).2.2; have ql77 : (t121 : Int) ≤ ((wrap64 (t121 + 1)) : Int) := of_decide_eq_true (by first | (with_reducible assumption) | assumption); have q077 : (0 : Int) ≤ (t121 : Int) := of_decide_eq_true (by first | (with_reducible assumption) | assumption); have hcut77 := cut_mid (P := Try.prog) 24 32 .i64 .i64 Try.underlying24 hi077 5 hsz77 Ao13 t116.length co13 t121 (wrap64 (t121 + 1)) q077 ql77 q77 hroom77; have hr77 := Kd.C_mid (lo := (t121 : Int).toNat) (hi := ((wrap64 (t121 + 1)) : Int).toNat) (c := co13) hC77 (by omega) (by omega) hroom77; obtain ⟨A77, hA77⟩ : ∃ A1, A1 = (if co13 = (t121 : Int).toNat then Ao13 else (Ao13 : Option Addr).map (·.add ((t121 : Int).toNat * 5))) := ⟨_, rfl⟩; obtain ⟨c77, hc77⟩ : ∃ c1, c1 = co13 - (t121 : Int).toNat := ⟨_, rfl⟩; have hy77 : y141.length = ((wrap64 (t121 + 1)) : Int).toNat - (t121 : Int).toNat := (by rw [Ny141.out, List.length_drop, List.length_take] <;> omega); rw [show ((t116).take ((wrap64 (t121 + 1)) : Int).toNat).drop (t121 : Int).toNat = y141 from Ny141.out.symm] at hr77; replace hr77 : Kd.C k32 _ A77 y141.length y141 := (by rw [hA77]; exact hr77); rw [← hy77, ← hA77, ← hc77] at hcut77; have HR144 := Aside0.mk hr77; have HC144 := Aside0.mk (show y141.length ≤ c77 from by rw [hy77, hc77]; exact Nat.sub_le_sub_right (Nat.le_trans (by omega) hroom77) _); clear hr77 hC77 hroom77 hi077 hsz77 hc77; have KY77 := Aside0.mk hy77; have KA77 := Aside0.mk hA77; clear hy77 hA77; have KL77 := Aside0.mk (show ((wrap64 (t121 + 1)) : Int).toNat ≤ t116.length from by omega); have KM77 := Aside0.mk (show (t121 : Int).toNat ≤ ((wrap64 (t121 + 1)) : Int).toNat from by omega); replace q77 := eq_true q77) | (go_at_call 12; (with_reducible refine (choose_All.calls kj30 _ _ y141 t140 _ ?side1 ?side2 A58.out).mono ?_); (case side1 => repeat (first | exact (by repeat (first | (with_reducible exact HR144.out) | (with_reducible refine Kd.C_alloc ?_ _) | (with_reducible refine Kd.C_drewN ?_ _) | (with_reducible refine Kd.C_drew ?_) | exact HR144.out)) | (with_reducible refine Kd.C_alloc ?_ _) | (with_reducible refine Kd.C_drewN ?_ _) | (with_reducible refine Kd.C_drew ?_))); (case side2 => exact HC144.out); rintro e w78 ⟨rfl, hb⟩; have n0_ := Aside0.mk (Kd.R_below (by (with_reducible repeat (first | apply Kd.R_alloc | apply Kd.R_drewN | apply Kd.R_drew)); exact HO_5.out) hb); have n1_ := Aside0.mk (Kd.C_below (by repeat (first | (with_reducible exact HR126.out) | (with_reducible refine Kd.C_alloc ?_ _) | (with_reducible refine Kd.C_drewN ?_ _) | (with_reducible refine Kd.C_drew ?_) | exact HR126.out)) hb); have n2_ := Aside0.mk (Kd.C_below (by repeat (first | (with_reducible exact HR139.out) | (with_reducible refine Kd.C_alloc ?_ _) | (with_reducible refine Kd.C_drewN ?_ _) | (with_reducible refine Kd.C_drew ?_) | exact HR139.out)) hb); have n3_ := Aside0.mk (Kd.C_below (by repeat (first | (with_reducible exact HR144.out) | (with_reducible refine Kd.C_alloc ?_ _) | (with_reducible refine Kd.C_drewN ?_ _) | (with_reducible refine Kd.C_drew ?_) | exact HR144.out)) hb); have n4_ := Aside0.mk (below_step (by repeat (first | (with_reducible first | exact HB.out | apply below_alloc | apply pw_below_drewN | apply below_drew1) | exact HB.out)) hb); clear HO_5; clear HR126; clear HR139; clear HR144; clear HB; have HO_5 := n0_; have HR126 := n1_; have HR139 := n2_; have HR144 := n3_; have HB := n4_; clear n0_ n1_ n2_ n3_ n4_; (try clear hb); (try clear hb2); (try clear hk); (try clear hi))); try go_wp2_with (first | (go_at_call 12; (with_reducible refine (choose_All.calls kj30 _ _ y136 t140 _ ?side1 ?side2 A53.out).mono ?_); (case side1 => repeat (first | exact (by repeat (first | (with_reducible exact HR139.out) | (with_reducible refine Kd.C_alloc ?_ _) | (with_reducible refine Kd.C_drewN ?_ _) | (with_reducible refine Kd.C_drew ?_) | exact HR139.out)) | (with_reducible refine Kd.C_alloc ?_ _) | (with_reducible refine Kd.C_drewN ?_ _) | (with_reducible refine Kd.C_drew ?_))); (case side2 => exact HC139.out); rintro e w76 ⟨rfl, hb⟩; have n0_ := Aside0.mk (Kd.R_below (by (with_reducible repeat (first | apply Kd.R_alloc | apply Kd.R_drewN | apply Kd.R_drew)); exact HO_5.out) hb); have n1_ := Aside0.mk (Kd.C_below (by repeat (first | (with_reducible exact HR126.out) | (with_reducible refine Kd.C_alloc ?_ _) | (with_reducible refine Kd.C_drewN ?_ _) | (with_reducible refine Kd.C_drew ?_) | exact HR126.out)) hb); have n2_ := Aside0.mk (Kd.C_below (by repeat (first | (with_reducible exact HR139.out) | (with_reducible refine Kd.C_alloc ?_ _) | (with_reducible refine Kd.C_drewN ?_ _) | (with_reducible refine Kd.C_drew ?_) | exact HR139.out)) hb); have n3_ := Aside0.mk (below_step (by repeat (first | (with_reducible first | exact HB.out | apply below_alloc | apply pw_below_drewN | apply below_drew1) | exact HB.out)) hb); clear HO_5; clear HR126; clear HR139; clear HB; have HO_5 := n0_; have HR126 := n1_; have HR139 := n2_; have HB := n3_; clear n0_ n1_ n2_ n3_; (try clear hb); (try clear hb2); (try clear hk); (try clear hi); have q77 : ((wrap64 (t121 + 1)) : Int) ≤ ((t116.length : Int) : Int) := of_decide_eq_true (by first | (with_reducible assumption) | assumption); obtain ⟨i077, hi077, _, hsz77, _⟩ := info_parts info32; have hroom77 : t116.length ≤ co13 := (Kd.R_reads' HO_5.out).2.1; have hC77 : Kd.C k32 _ Ao13 t116.length t116 := (Kd.R_reads' HO_5.out).2.2; have ql77 : (t121 : Int) ≤ ((wrap64 (t121 + 1)) : Int) := of_decide_eq_true (by first | (with_reducible assumption) | assumption); have q077 : (0 : Int) ≤ (t121 : Int) := of_decide_eq_true (by first | (with_reducible assumption) | assumption); have hcut77 := cut_mid (P := Try.prog) 24 32 .i64 .i64 Try.underlying24 hi077 5 hsz77 Ao13 t116.length co13 t121 (wrap64 (t121 + 1)) q077 ql77 q77 hroom77; have hr77 := Kd.C_mid (lo := (t121 : Int).toNat) (hi := ((wrap64 (t121 + 1)) : Int).toNat) (c := co13) hC77 (by omega) (by omega) hroom77; obtain ⟨A77, hA77⟩ : ∃ A1, A1 = (if co13 = (t121 : Int).toNat then Ao13 else (Ao13 : Option Addr).map (·.add ((t121 : Int).toNat * 5))) := ⟨_, rfl⟩; obtain ⟨c77, hc77⟩ : ∃ c1, c1 = co13 - (t121 : Int).toNat := ⟨_, rfl⟩; have hy77 : y141.length = ((wrap64 (t121 + 1)) : Int).toNat - (t121 : Int).toNat := (by rw [Ny141.out, List.length_drop, List.length_take] <;> omega); rw [show ((t116).take ((wrap64 (t121 + 1)) : Int).toNat).drop (t121 : Int).toNat = y141 from Ny141.out.symm] at hr77; replace hr77 : Kd.C k32 _ A77 y141.length y141 := (by rw [hA77]; exact hr77); rw [← hy77, ← hA77, ← hc77] at hcut77; have HR144 := Aside0.mk hr77; have HC144 := Aside0.mk (show y141.length ≤ c77 from by rw [hy77, hc77]; exact Nat.sub_le_sub_right (Nat.le_trans (by omega) hroom77) _); clear hr77 hC77 hroom77 hi077 hsz77 hc77; have KY77 := Aside0.mk hy77; have KA77 := Aside0.mk hA77; clear hy77 hA77; have KL77 := Aside0.mk (show ((wrap64 (t121 + 1)) : Int).toNat ≤ t116.length from by omega); have KM77 := Aside0.mk (show (t121 : Int).toNat ≤ ((wrap64 (t121 + 1)) : Int).toNat from by omega); replace q77 := eq_true q77) | (go_at_call 12; (with_reducible refine (choose_All.calls kj30 _ _ y141 t140 _ ?side1 ?side2 A58.out).mono ?_); (case side1 => repeat (first | exact (by repeat (first | (with_reducible exact HR144.out) | (with_reducible refine Kd.C_alloc ?_ _) | (with_reducible refine Kd.C_drewN ?_ _) | (with_reducible refine Kd.C_drew ?_) | exact HR144.out)) | (with_reducible refine Kd.C_alloc ?_ _) | (with_reducible refine Kd.C_drewN ?_ _) | (with_reducible refine Kd.C_drew ?_))); (case side2 => exact HC144.out); rintro e w78 ⟨rfl, hb⟩; have n0_ := Aside0.mk (Kd.R_below (by (with_reducible repeat (first | apply Kd.R_alloc | apply Kd.R_drewN | apply Kd.R_drew)); exact HO_5.out) hb); have n1_ := Aside0.mk (Kd.C_below (by repeat (first | (with_reducible exact HR126.out) | (with_reducible refine Kd.C_alloc ?_ _) | (with_reducible refine Kd.C_drewN ?_ _) | (with_reducible refine Kd.C_drew ?_) | exact HR126.out)) hb); have n2_ := Aside0.mk (Kd.C_below (by repeat (first | (with_reducible exact HR139.out) | (with_reducible refine Kd.C_alloc ?_ _) | (with_reducible refine Kd.C_drewN ?_ _) | (with_reducible refine Kd.C_drew ?_) | exact HR139.out)) hb); have n3_ := Aside0.mk (Kd.C_below (by repeat (first | (with_reducible exact HR144.out) | (with_reducible refine Kd.C_alloc ?_ _) | (with_reducible refine Kd.C_drewN ?_ _) | (with_reducible refine Kd.C_drew ?_) | exact HR144.out)) hb); have n4_ := Aside0.mk (below_step (by repeat (first | (with_reducible first | exact HB.out | apply below_alloc | apply pw_below_drewN | apply below_drew1) | exact HB.out)) hb); clear HO_5; clear HR126; clear HR139; clear HR144; clear HB; have HO_5 := n0_; have HR126 := n1_; have HR139 := n2_; have HR144 := n3_; have HB := n4_; clear n0_ n1_ n2_ n3_ n4_; (try clear hb); (try clear hb2); (try clear hk); (try clear hi))))
                                                go_roundg kj30
                                                case measure => have := HK1.out; have := HJ20.out; have := HJ24.out; have := HJ30.out; omega
                                                case rel => exact ⟨(wrap64 (x10_1 + 1)), (by first | rfl | (simp; done) | (simp [*]; done)), H', ⟨by have := HK1.out; have := HJ20.out; have := HJ24.out; have := HJ30.out; omega⟩, ⟨by (with_reducible repeat (first | apply Kd.R_alloc | apply Kd.R_drewN | apply Kd.R_drew)); exact HO_5.out⟩, ⟨by repeat (first | (with_reducible first | exact HB.out | apply below_alloc | apply pw_below_drewN | apply below_drew1) | exact HB.out)⟩⟩
                                      · rw [if_neg c52] at H
                                        exact absurd H (by simp)
                                    · rw [if_neg c51] at H
                                      exact absurd H (by simp)
                                  · rw [if_neg c50] at H
                                    exact absurd H (by simp)
                                · replace c49 := Bool.eq_false_iff.mpr c49
                                  subst c49
                                  have H1 : (none) = some r := by rw [if_neg (show ¬ (false = true) by decide)] at H; exact H
                                  clear H
                                  have H := H1
                                  clear H1
                                  exact absurd H (by simp)
                              · replace c48 := Bool.eq_false_iff.mpr c48
                                subst c48
                                have H1 : (if x10_1 = t121 then (if t122 = true then (none) else (hostlerlaw17_ChooseBest.l0 kj30 a1 t116 t119 t120 t121 t122 (wrap64 (x10_1 + 1)))) else (hostlerlaw17_ChooseBest.l0 kj30 a1 t116 t119 t120 t121 t122 (wrap64 (x10_1 + 1)))) = some r := by rw [if_neg (show ¬ (false = true) by decide)] at H; exact H
                                clear H
                                have H := H1
                                clear H1
                                by_cases c79 : x10_1 = t121
                                · rw [if_pos c79] at H
                                  have c79b0 : (x10_1 == t121) = true := beq_iff_eq.mpr c79
                                  have c79b1 : (x10_1 != t121) = false := bne_eq_false_iff_eq.mpr c79
                                  clear c79
                                  by_cases c80 : t122 = true
                                  · subst c80
                                    have H1 : (none) = some r := by rw [if_pos rfl] at H; exact H
                                    clear H
                                    have H := H1
                                    clear H1
                                    exact absurd H (by simp)
                                  · replace c80 := Bool.eq_false_iff.mpr c80
                                    subst c80
                                    have H1 : (hostlerlaw17_ChooseBest.l0 kj30 a1 t116 t119 t120 t121 false (wrap64 (x10_1 + 1))) = some r := by rw [if_neg (show ¬ (false = true) by decide)] at H; exact H
                                    clear H
                                    have H := H1
                                    clear H1
                                    as_aux_lemma =>
                                      have H' := Aside0.mk H
                                      clear H
                                      go_wp2
                                      repeat (go_quiet (fail); try go_wp2)
                                      go_roundg kj30
                                      case measure => have := HK1.out; have := HJ20.out; have := HJ24.out; have := HJ30.out; omega
                                      case rel => exact ⟨(wrap64 (x10_1 + 1)), (by first | rfl | (simp; done) | (simp [*]; done)), H', ⟨by have := HK1.out; have := HJ20.out; have := HJ24.out; have := HJ30.out; omega⟩, ⟨by (with_reducible repeat (first | apply Kd.R_alloc | apply Kd.R_drewN | apply Kd.R_drew)); exact HO_5.out⟩, ⟨by repeat (first | (with_reducible first | exact HB.out | apply below_alloc | apply pw_below_drewN | apply below_drew1) | exact HB.out)⟩⟩
                                · rw [if_neg c79] at H
                                  have c79b0 : (x10_1 == t121) = false := beq_eq_false_iff_ne.mpr c79
                                  have c79b1 : (x10_1 != t121) = true := bne_iff_ne.mpr c79
                                  as_aux_lemma =>
                                    have H' := Aside0.mk H
                                    clear H
                                    go_wp2
                                    repeat (go_quiet (fail); try go_wp2)
                                    go_roundg kj30
                                    case measure => have := HK1.out; have := HJ20.out; have := HJ24.out; have := HJ30.out; omega
                                    case rel => exact ⟨(wrap64 (x10_1 + 1)), (by first | rfl | (simp; done) | (simp [*]; done)), H', ⟨by have := HK1.out; have := HJ20.out; have := HJ24.out; have := HJ30.out; omega⟩, ⟨by (with_reducible repeat (first | apply Kd.R_alloc | apply Kd.R_drewN | apply Kd.R_drew)); exact HO_5.out⟩, ⟨by repeat (first | (with_reducible first | exact HB.out | apply below_alloc | apply pw_below_drewN | apply below_drew1) | exact HB.out)⟩⟩
              · rw [if_neg c19] at H
                exact absurd H (by simp)
            · rw [if_neg c18] at H
              exact absurd H (by simp)
          · rw [if_neg c17] at H
            exact absurd H (by simp)
        · rw [if_neg c16] at H
          have c16b0 : decide (x10_1 < (t116.length : Int)) = false := decide_eq_false c16
          clear c16
          by_cases c81 : t120 = true
          · subst c81
            have H1 : (if t122 = true then (if (t116.length : Int) > 0 then (some true) else (none)) else (if t121 = 0 then (if (t116.length : Int) > 0 then (some true) else (none)) else (none))) = some r := by rw [if_pos rfl] at H; exact H
            clear H
            have H := H1
            clear H1
            by_cases c82 : t122 = true
            · subst c82
              have H1 : (if (t116.length : Int) > 0 then (some true) else (none)) = some r := by rw [if_pos rfl] at H; exact H
              clear H
              have H := H1
              clear H1
              by_cases c83 : (t116.length : Int) > 0
              · rw [if_pos c83] at H
                have c83b0 : decide (0 < (t116.length : Int)) = true := decide_eq_true c83
                have c83b1 : decide (0 < t116.length) = true := decide_eq_true (by omega)
                clear c83
                as_aux_lemma =>
                  obtain rfl := Option.some.inj H
                  go_wp2
                  repeat (go_quiet (fail); try go_wp2)
                  go_ret
                  exact ⟨by first | rfl | (simp only [Int.ofNat_lt]; rfl) | (simp [errW_none, errW_some] <;> rfl) | (simp [*, errW_none, errW_some] <;> rfl), by repeat (first | (with_reducible first | exact HB.out | apply below_alloc | apply pw_below_drewN | apply below_drew1) | exact HB.out)⟩
              · rw [if_neg c83] at H
                exact absurd H (by simp)
            · replace c82 := Bool.eq_false_iff.mpr c82
              subst c82
              have H1 : (if t121 = 0 then (if (t116.length : Int) > 0 then (some true) else (none)) else (none)) = some r := by rw [if_neg (show ¬ (false = true) by decide)] at H; exact H
              clear H
              have H := H1
              clear H1
              by_cases c84 : t121 = 0
              · rw [if_pos c84] at H
                have c84b0 : (t121 == 0) = true := beq_iff_eq.mpr c84
                have c84b1 : (t121 != 0) = false := bne_eq_false_iff_eq.mpr c84
                clear c84
                by_cases c85 : (t116.length : Int) > 0
                · rw [if_pos c85] at H
                  have c85b0 : decide (0 < (t116.length : Int)) = true := decide_eq_true c85
                  have c85b1 : decide (0 < t116.length) = true := decide_eq_true (by omega)
                  clear c85
                  as_aux_lemma =>
                    obtain rfl := Option.some.inj H
                    go_wp2
                    repeat (go_quiet (fail); try go_wp2)
                    go_ret
                    exact ⟨by first | rfl | (simp only [Int.ofNat_lt]; rfl) | (simp [errW_none, errW_some] <;> rfl) | (simp [*, errW_none, errW_some] <;> rfl), by repeat (first | (with_reducible first | exact HB.out | apply below_alloc | apply pw_below_drewN | apply below_drew1) | exact HB.out)⟩
                · rw [if_neg c85] at H
                  exact absurd H (by simp)
              · rw [if_neg c84] at H
                exact absurd H (by simp)
          · replace c81 := Bool.eq_false_iff.mpr c81
            subst c81
            have H1 : (if t119 = 0 then (if t122 = true then (if (t116.length : Int) > 0 then (some true) else (some (!t122))) else (if t121 = 0 then (if (t116.length : Int) > 0 then (some true) else (some (!t122))) else (none))) else (none)) = some r := by rw [if_neg (show ¬ (false = true) by decide)] at H; exact H
            clear H
            have H := H1
            clear H1
            by_cases c86 : t119 = 0
            · rw [if_pos c86] at H
              have c86b0 : (t119 == 0) = true := beq_iff_eq.mpr c86
              have c86b1 : (t119 != 0) = false := bne_eq_false_iff_eq.mpr c86
              clear c86
              by_cases c87 : t122 = true
              · subst c87
                have H1 : (if (t116.length : Int) > 0 then (some true) else (some (!true))) = some r := by rw [if_pos rfl] at H; exact H
                clear H
                have H := H1
                clear H1
                by_cases c88 : (t116.length : Int) > 0
                · rw [if_pos c88] at H
                  have c88b0 : decide (0 < (t116.length : Int)) = true := decide_eq_true c88
                  have c88b1 : decide (0 < t116.length) = true := decide_eq_true (by omega)
                  clear c88
                  as_aux_lemma =>
                    obtain rfl := Option.some.inj H
                    go_wp2
                    repeat (go_quiet (fail); try go_wp2)
                    go_ret
                    exact ⟨by first | rfl | (simp only [Int.ofNat_lt]; rfl) | (simp [errW_none, errW_some] <;> rfl) | (simp [*, errW_none, errW_some] <;> rfl), by repeat (first | (with_reducible first | exact HB.out | apply below_alloc | apply pw_below_drewN | apply below_drew1) | exact HB.out)⟩
                · rw [if_neg c88] at H
                  have c88b0 : decide (0 < (t116.length : Int)) = false := decide_eq_false c88
                  have c88b1 : decide (0 < t116.length) = false := decide_eq_false (by omega)
                  clear c88
                  as_aux_lemma =>
                    obtain rfl := Option.some.inj H
                    go_wp2
                    repeat (go_quiet (fail); try go_wp2)
                    go_ret
                    exact ⟨by first | rfl | (simp only [Int.ofNat_lt]; rfl) | (simp [errW_none, errW_some] <;> rfl) | (simp [*, errW_none, errW_some] <;> rfl), by repeat (first | (with_reducible first | exact HB.out | apply below_alloc | apply pw_below_drewN | apply below_drew1) | exact HB.out)⟩
              · replace c87 := Bool.eq_false_iff.mpr c87
                subst c87
                have H1 : (if t121 = 0 then (if (t116.length : Int) > 0 then (some true) else (some (!false))) else (none)) = some r := by rw [if_neg (show ¬ (false = true) by decide)] at H; exact H
                clear H
                have H := H1
                clear H1
                by_cases c89 : t121 = 0
                · rw [if_pos c89] at H
                  have c89b0 : (t121 == 0) = true := beq_iff_eq.mpr c89
                  have c89b1 : (t121 != 0) = false := bne_eq_false_iff_eq.mpr c89
                  clear c89
                  by_cases c90 : (t116.length : Int) > 0
                  · rw [if_pos c90] at H
                    have c90b0 : decide (0 < (t116.length : Int)) = true := decide_eq_true c90
                    have c90b1 : decide (0 < t116.length) = true := decide_eq_true (by omega)
                    clear c90
                    as_aux_lemma =>
                      obtain rfl := Option.some.inj H
                      go_wp2
                      repeat (go_quiet (fail); try go_wp2)
                      go_ret
                      exact ⟨by first | rfl | (simp only [Int.ofNat_lt]; rfl) | (simp [errW_none, errW_some] <;> rfl) | (simp [*, errW_none, errW_some] <;> rfl), by repeat (first | (with_reducible first | exact HB.out | apply below_alloc | apply pw_below_drewN | apply below_drew1) | exact HB.out)⟩
                  · rw [if_neg c90] at H
                    have c90b0 : decide (0 < (t116.length : Int)) = false := decide_eq_false c90
                    have c90b1 : decide (0 < t116.length) = false := decide_eq_false (by omega)
                    clear c90
                    as_aux_lemma =>
                      obtain rfl := Option.some.inj H
                      go_wp2
                      repeat (go_quiet (fail); try go_wp2)
                      go_ret
                      exact ⟨by first | rfl | (simp only [Int.ofNat_lt]; rfl) | (simp [errW_none, errW_some] <;> rfl) | (simp [*, errW_none, errW_some] <;> rfl), by repeat (first | (with_reducible first | exact HB.out | apply below_alloc | apply pw_below_drewN | apply below_drew1) | exact HB.out)⟩
                · rw [if_neg c89] at H
                  exact absurd H (by simp)
            · rw [if_neg c86] at H
              exact absurd H (by simp)
  · replace c4 := Bool.eq_false_iff.mpr c4
    subst c4
    have H1 : (none) = some r := by rw [if_neg (show ¬ (false = true) by decide)] at H; exact H
    clear H
    have H := H1
    clear H1
    exact absurd H (by simp)

/-- THE ONE PURE STATEMENT of hostlerlaw17_ChooseBest: yours. -/
def hostlerlaw17_ChooseBest.Pure : Prop := ∀ (l0 : List (S43)) (a1 : Int), l0.length ≤ maxLen → l0.length * 40 ≤ 140737488351232 → (∀ x ∈ l0, ((Lit.int .i64 x.f0).wf = true ∧ (Lit.int .i64 x.f1).wf = true ∧ (Lit.int .i64 x.f2).wf = true ∧ (Lit.int .i64 x.f3).wf = true ∧ True)) → (Lit.int .i64 a1).wf = true → ∃ k, hostlerlaw17_ChooseBest.f k l0 a1 = some true
theorem hostlerlaw17_ChooseBest.walk (P : hostlerlaw17_ChooseBest.Pure) (a0 : Option Addr) (cap0 : Nat) (l0 : List (S43)) (a1 : Int) (w : World) (hr0 : Kd.C k43 w a0 l0.length l0) (hc0 : l0.length ≤ cap0) (hm0 : l0.length ≤ maxLen) (y0 : l0.length * 40 ≤ 140737488351232) (hw0 : ∀ x ∈ l0, ((Lit.int .i64 x.f0).wf = true ∧ (Lit.int .i64 x.f1).wf = true ∧ (Lit.int .i64 x.f2).wf = true ∧ (Lit.int .i64 x.f3).wf = true ∧ True)) (w1 : (Lit.int .i64 a1).wf = true) :
    Calls Try.prog 3 #[.slice a0 l0.length cap0, .int .i64 a1] w fun e w' => e = .returned (.bool true) ∧ Below w.heap.size w w' := by
  obtain ⟨k, h⟩ := P l0 a1 hm0 y0 hw0 w1
  refine (hostlerlaw17_ChooseBest.calls k _ _ l0 a1 true w hr0 hc0 h).mono ?_
  rintro e w' ⟨rfl, hd⟩
  exact ⟨rfl, hd⟩

end Go.Proofs.Ythloffjgbgmpkaa.PD
