/-
  Contracts of the program's functions and the Lean functions that they compute, laid by a program of this session out of the translation. Conditions: none.
-/
import Derived.Test.YthloffjgbgmpkaaPBx0
import Derived.Test.YthloffjgbgmpkaaPBx1
namespace Go.Proofs.Ythloffjgbgmpkaa.PB
open Go.RowKit Go.Proofs.Ythloffjgbgmpkaa.PA Go.Proofs.Ythloffjgbgmpkaa.Man Go.Proofs.YthloffjgbgmpkaaW.PrintWords Go.Proofs.YthloffjgbgmpkaaW.PrintLast Go.Proofs.YthloffjgbgmpkaaW.PrintMore
attribute [local go_sem] max2_int min2_int max_two min_two max_three min_three max_four min_four   -- for this text's walks alone
set_option linter.unusedVariables false
set_option linter.unusedSimpArgs false

/-! ### hostlerlaw17_ChooseWarm: function 6 -/
mutual
def hostlerlaw17_ChooseWarm.l0 : Nat → Int → Int → List (S32) → Int → Option (Bool)
  | 0, _, _, _, _ => none
  | k + 1, x1, x2, x7, x8 => if x8 < (x7.length : Int) then (if 0 ≤ x8 then (hostlerlaw17_ChooseWarm.l0 k x1 x2 (x7.set (x8 : Int).toNat (⟨(rd_T32 x7 x8).f0, wrap64 (Int.tmod (IntKind.u64.wrap ((rd_T32 x7 x8).f1)) 4), (rd_T32 x7 x8).f2, (rd_T32 x7 x8).f3, (rd_T32 x7 x8).f4⟩ : S32)) (wrap64 (x8 + 1))) else (none)) else (hostlerlaw17_ChooseWarm.l1 k (wrap64 (Int.tmod (IntKind.u64.wrap (x1)) 9)) (wrap64 (Int.tmod (IntKind.u64.wrap (x2)) 9)) x7 0)
def hostlerlaw17_ChooseWarm.l1 : Nat → Int → Int → List (S32) → Int → Option (Bool)
  | 0, _, _, _, _ => none
  | k + 1, x1, x2, x7, x9 => if x9 < 200 then ((choose_Warm.f k x7 x1 x2).bind fun bt189 => (if bt189.2 = true then (if 0 ≤ bt189.1 then (if bt189.1 < (x7.length : Int) then ((some (x7.set (bt189.1 : Int).toNat (⟨(rd_T32 x7 bt189.1).f0, wrap64 (((rd_T32 x7 bt189.1).f1) + 1), (rd_T32 x7 bt189.1).f2, (rd_T32 x7 bt189.1).f3, (rd_T32 x7 bt189.1).f4⟩ : S32) : List (S32))).bind fun y192 => (if (wrap64 (((rd_T32 y192 bt189.1).f1) + (mx ((rd_T32 y192 bt189.1).f2) 0))) > x2 then (none) else (if bt189.1 ≤ (wrap64 (bt189.1 + 1)) then (if (wrap64 (bt189.1 + 1)) ≤ (x7.length : Int) then ((choose_All.f k ((y192.take ((wrap64 (bt189.1 + 1)) : Int).toNat).drop (bt189.1 : Int).toNat)).bind fun t199 => (if t199 > x1 then (none) else (hostlerlaw17_ChooseWarm.l1 k x1 x2 y192 (wrap64 (x9 + 1))))) else (none)) else (none)))) else (none)) else (none)) else (hostlerlaw17_ChooseWarm.l2 k x1 x2 x7 0))) else (none)
def hostlerlaw17_ChooseWarm.l2 : Nat → Int → Int → List (S32) → Int → Option (Bool)
  | 0, _, _, _, _ => none
  | k + 1, x1, x2, x7, x12 => if x12 < (x7.length : Int) then (if 0 ≤ x12 then (if ((rd_T32 x7 x12).f0) = 0 then (if (rd_T32 x7 x12).f4 = true then (if (wrap64 ((mx ((rd_T32 x7 x12).f1) 0) + (mx ((rd_T32 x7 x12).f2) 0))) < x2 then (if (wrap64 ((wrap64 ((mx ((rd_T32 x7 x12).f1) 0) + (mx ((rd_T32 x7 x12).f2) 0))) + (mx ((rd_T32 x7 x12).f3) 0))) < x1 then (none) else (hostlerlaw17_ChooseWarm.l2 k x1 x2 x7 (wrap64 (x12 + 1)))) else (hostlerlaw17_ChooseWarm.l2 k x1 x2 x7 (wrap64 (x12 + 1)))) else (hostlerlaw17_ChooseWarm.l2 k x1 x2 x7 (wrap64 (x12 + 1)))) else (hostlerlaw17_ChooseWarm.l2 k x1 x2 x7 (wrap64 (x12 + 1)))) else (none)) else (some true)
end
def hostlerlaw17_ChooseWarm.f (k : Nat) (l0 : List (S43)) (a1 : Int) (a2 : Int) : Option (Bool) := (hostlerlaw17_lives.f k).bind fun t180 => (if t180 = true then ((hostlerlaw17_few.f k l0).bind fun t181 => ((hostlerlaw17_as.f k t181).bind fun t184 => (hostlerlaw17_ChooseWarm.l0 k a1 a2 t184 0))) else (none))
theorem hostlerlaw17_ChooseWarm.mono_l : ∀ k, (∀ y0 y1 y2 y3, LeO (hostlerlaw17_ChooseWarm.l0 k y0 y1 y2 y3) (hostlerlaw17_ChooseWarm.l0 (k + 1) y0 y1 y2 y3)) ∧ (∀ y0 y1 y2 y3, LeO (hostlerlaw17_ChooseWarm.l1 k y0 y1 y2 y3) (hostlerlaw17_ChooseWarm.l1 (k + 1) y0 y1 y2 y3)) ∧ (∀ y0 y1 y2 y3, LeO (hostlerlaw17_ChooseWarm.l2 k y0 y1 y2 y3) (hostlerlaw17_ChooseWarm.l2 (k + 1) y0 y1 y2 y3))
  | 0 => ⟨fun _ _ _ _ r h => by simp [hostlerlaw17_ChooseWarm.l0] at h, fun _ _ _ _ r h => by simp [hostlerlaw17_ChooseWarm.l1] at h, fun _ _ _ _ r h => by simp [hostlerlaw17_ChooseWarm.l2] at h⟩
  | k + 1 => by
    obtain ⟨ih0, ih1, ih2⟩ := hostlerlaw17_ChooseWarm.mono_l k
    refine ⟨?_, ?_, ?_⟩
    · intro y0 y1 y2 y3
      unfold hostlerlaw17_ChooseWarm.l0
      repeat' first
      | (with_reducible exact ih0 _ _ _ _)
      | (with_reducible exact ih1 _ _ _ _)
      | (with_reducible exact ih2 _ _ _ _)
      | (with_reducible exact choose_All.mono _ _)
      | (with_reducible exact choose_Warm.mono _ _ _ _)
      | (with_reducible exact hostlerlaw17_as.mono _ _)
      | (with_reducible exact hostlerlaw17_few.mono _ _)
      | (with_reducible exact hostlerlaw17_lives.mono _)
      | (with_reducible exact LeO.refl _)
      | (with_reducible exact LeO.none _)
      | (with_reducible refine LeO.ite ?_ ?_)
      | (with_reducible refine LeO.bind ?_ (fun _ => ?_))
      | exact ih0 _ _ _ _
      | exact ih1 _ _ _ _
      | exact ih2 _ _ _ _
      | exact choose_All.mono _ _
      | exact choose_Warm.mono _ _ _ _
      | exact hostlerlaw17_as.mono _ _
      | exact hostlerlaw17_few.mono _ _
      | exact hostlerlaw17_lives.mono _
      | exact LeO.none _
      | refine LeO.ite ?_ ?_
      | refine LeO.bind ?_ (fun _ => ?_)
    · intro y0 y1 y2 y3
      unfold hostlerlaw17_ChooseWarm.l1
      repeat' first
      | (with_reducible exact ih0 _ _ _ _)
      | (with_reducible exact ih1 _ _ _ _)
      | (with_reducible exact ih2 _ _ _ _)
      | (with_reducible exact choose_All.mono _ _)
      | (with_reducible exact choose_Warm.mono _ _ _ _)
      | (with_reducible exact hostlerlaw17_as.mono _ _)
      | (with_reducible exact hostlerlaw17_few.mono _ _)
      | (with_reducible exact hostlerlaw17_lives.mono _)
      | (with_reducible exact LeO.refl _)
      | (with_reducible exact LeO.none _)
      | (with_reducible refine LeO.ite ?_ ?_)
      | (with_reducible refine LeO.bind ?_ (fun _ => ?_))
      | exact ih0 _ _ _ _
      | exact ih1 _ _ _ _
      | exact ih2 _ _ _ _
      | exact choose_All.mono _ _
      | exact choose_Warm.mono _ _ _ _
      | exact hostlerlaw17_as.mono _ _
      | exact hostlerlaw17_few.mono _ _
      | exact hostlerlaw17_lives.mono _
      | exact LeO.none _
      | refine LeO.ite ?_ ?_
      | refine LeO.bind ?_ (fun _ => ?_)
    · intro y0 y1 y2 y3
      unfold hostlerlaw17_ChooseWarm.l2
      repeat' first
      | (with_reducible exact ih0 _ _ _ _)
      | (with_reducible exact ih1 _ _ _ _)
      | (with_reducible exact ih2 _ _ _ _)
      | (with_reducible exact choose_All.mono _ _)
      | (with_reducible exact choose_Warm.mono _ _ _ _)
      | (with_reducible exact hostlerlaw17_as.mono _ _)
      | (with_reducible exact hostlerlaw17_few.mono _ _)
      | (with_reducible exact hostlerlaw17_lives.mono _)
      | (with_reducible exact LeO.refl _)
      | (with_reducible exact LeO.none _)
      | (with_reducible refine LeO.ite ?_ ?_)
      | (with_reducible refine LeO.bind ?_ (fun _ => ?_))
      | exact ih0 _ _ _ _
      | exact ih1 _ _ _ _
      | exact ih2 _ _ _ _
      | exact choose_All.mono _ _
      | exact choose_Warm.mono _ _ _ _
      | exact hostlerlaw17_as.mono _ _
      | exact hostlerlaw17_few.mono _ _
      | exact hostlerlaw17_lives.mono _
      | exact LeO.none _
      | refine LeO.ite ?_ ?_
      | refine LeO.bind ?_ (fun _ => ?_)
theorem hostlerlaw17_ChooseWarm.mono : ∀ a0 a1 a2 k, LeO (hostlerlaw17_ChooseWarm.f k a0 a1 a2) (hostlerlaw17_ChooseWarm.f (k + 1) a0 a1 a2) := by
  intro a0 a1 a2 k
  obtain ⟨ih0, ih1, ih2⟩ := hostlerlaw17_ChooseWarm.mono_l k
  unfold hostlerlaw17_ChooseWarm.f
  repeat' first
      | (with_reducible exact ih0 _ _ _ _)
      | (with_reducible exact ih1 _ _ _ _)
      | (with_reducible exact ih2 _ _ _ _)
      | (with_reducible exact choose_All.mono _ _)
      | (with_reducible exact choose_Warm.mono _ _ _ _)
      | (with_reducible exact hostlerlaw17_as.mono _ _)
      | (with_reducible exact hostlerlaw17_few.mono _ _)
      | (with_reducible exact hostlerlaw17_lives.mono _)
      | (with_reducible exact LeO.refl _)
      | (with_reducible exact LeO.none _)
      | (with_reducible refine LeO.ite ?_ ?_)
      | (with_reducible refine LeO.bind ?_ (fun _ => ?_))
      | exact ih0 _ _ _ _
      | exact ih1 _ _ _ _
      | exact ih2 _ _ _ _
      | exact choose_All.mono _ _
      | exact choose_Warm.mono _ _ _ _
      | exact hostlerlaw17_as.mono _ _
      | exact hostlerlaw17_few.mono _ _
      | exact hostlerlaw17_lives.mono _
      | exact LeO.none _
      | refine LeO.ite ?_ ?_
      | refine LeO.bind ?_ (fun _ => ?_)
def hostlerlaw17_ChooseWarm.T18 : Bool × List (List Nat × List Nat) := (true, [([], []), ([], []), ([0, 1], [0, 1]), ([2], [2]), ([3], [3]), ([4], [4]), ([], []), ([], []), ([6, 7], [6, 7]), ([8], [8]), ([9], [9]), ([10], [10]), ([5, 11], [5, 11]), ([12, 0, 1, 2, 3, 4, 5, 6, 7, 8, 9, 10, 11, 12], [12])])
def hostlerlaw17_ChooseWarm.B18 : List Nat := [0, 0, 3, 7, 15, 31, 0, 0, 192, 448, 960, 1984, 4095, 8191]
theorem hostlerlaw17_ChooseWarm.tab18 : rtab .any (opsOf Try.f6 18) = hostlerlaw17_ChooseWarm.T18 := by kernel_rfl
theorem hostlerlaw17_ChooseWarm.bits18 : waitsOk hostlerlaw17_ChooseWarm.T18.2 hostlerlaw17_ChooseWarm.B18 = true := by kernel_rfl
def hostlerlaw17_ChooseWarm.T23 : Bool × List (List Nat × List Nat) := (true, [([], []), ([], []), ([0, 1], [0, 1]), ([2], [2]), ([3], [3]), ([], []), ([], []), ([5, 6], [5, 6]), ([7], [7]), ([8], [8]), ([9], [9]), ([4, 10], [4, 10]), ([], []), ([11, 12], [11, 12]), ([13], [13]), ([14], [14]), ([14], [14]), ([14], [14]), ([17, 14], [14, 17]), ([15, 16, 18, 14], [14, 15, 16, 18]), ([19, 14, 14], [14, 19]), ([14], [14]), ([20, 21, 14], [14, 20, 21]), ([14, 22], [14, 22])])
def hostlerlaw17_ChooseWarm.B23 : List Nat := [0, 0, 3, 7, 15, 0, 0, 96, 224, 480, 992, 2047, 0, 8191, 16383, 32767, 32767, 32767, 163839, 524287, 1048575, 32767, 4194303, 8388607]
theorem hostlerlaw17_ChooseWarm.tab23 : rtab .any (opsOf Try.f6 23) = hostlerlaw17_ChooseWarm.T23 := by kernel_rfl
theorem hostlerlaw17_ChooseWarm.bits23 : waitsOk hostlerlaw17_ChooseWarm.T23.2 hostlerlaw17_ChooseWarm.B23 = true := by kernel_rfl
set_option maxHeartbeats 8000000 in
set_option maxRecDepth 100000 in
theorem hostlerlaw17_ChooseWarm.calls (k : Nat) (A0 : Option Addr) (c0 : Nat) (l0 : List (S43)) (a1 : Int) (a2 : Int) (r : Bool) (w : World) (hr0 : Kd.C k43 w A0 l0.length l0) (hc0 : l0.length ≤ c0) (h : hostlerlaw17_ChooseWarm.f k l0 a1 a2 = some r) :
    Calls Try.prog 6 #[.slice A0 l0.length c0, .int .i64 a1, .int .i64 a2] w fun e w' => e = .returned (.bool r) ∧ Below w.heap.size w w' := by
  have HR0 := Aside0.mk hr0
  have HC0 := Aside0.mk hc0
  clear hr0 hc0
  have HB := Aside0.mk (Below.refl w.heap.size w)
  have H : ((hostlerlaw17_lives.f k).bind fun t180 => (if t180 = true then ((hostlerlaw17_few.f k l0).bind fun t181 => ((hostlerlaw17_as.f k t181).bind fun t184 => (hostlerlaw17_ChooseWarm.l0 k a1 a2 t184 0))) else (none))) = some r := h
  clear h
  replace H := Option.bind_eq_some_iff.mp H
  obtain ⟨t180, A40, H⟩ := H
  replace H : (if t180 = true then ((hostlerlaw17_few.f k l0).bind fun t181 => ((hostlerlaw17_as.f k t181).bind fun t184 => (hostlerlaw17_ChooseWarm.l0 k a1 a2 t184 0))) else (none)) = some r := H
  have A4 := Aside0.mk A40
  clear A40
  by_cases c5 : t180 = true
  · subst c5
    have H1 : ((hostlerlaw17_few.f k l0).bind fun t181 => ((hostlerlaw17_as.f k t181).bind fun t184 => (hostlerlaw17_ChooseWarm.l0 k a1 a2 t184 0))) = some r := by rw [if_pos rfl] at H; exact H
    clear H
    have H := H1
    clear H1
    replace H := Option.bind_eq_some_iff.mp H
    obtain ⟨t181, A60, H⟩ := H
    replace H : ((hostlerlaw17_as.f k t181).bind fun t184 => (hostlerlaw17_ChooseWarm.l0 k a1 a2 t184 0)) = some r := H
    have A6 := Aside0.mk A60
    clear A60
    replace H := Option.bind_eq_some_iff.mp H
    obtain ⟨t184, A70, H⟩ := H
    replace H : (hostlerlaw17_ChooseWarm.l0 k a1 a2 t184 0) = some r := H
    have A7 := Aside0.mk A70
    clear A70
    have H' := Aside0.mk H
    clear H
    go_enter Try.func6, Try.ntmps6
    go_wp2_with (first | ((with_reducible refine gate_callee (f := 7) rfl ?_); refine goesL_ (some 14) rfl rfl Try.func7 (by kernel_rfl) rfl #[] rfl (by (try simp only [List.map_toArray, List.map_cons, List.map_nil]); first | done | rfl | (simp only [List.length_drop, List.length_take]; rfl)) ?_; (with_reducible refine (hostlerlaw17_lives.calls k  true _ A4.out).mono ?_); rintro e w8 ⟨rfl, hb⟩; refine ⟨_, rfl, ?_⟩; have n0_ := Aside0.mk (below_step (by repeat (first | (with_reducible first | exact HB.out | apply below_alloc | apply pw_below_drewN | apply below_drew1) | exact HB.out)) hb); clear HB; have HB := n0_; clear n0_; (try clear hb); (try clear hb2); (try clear hk); (try clear hi)) | ((with_reducible refine gate_callee (f := 9) rfl ?_); refine goesL_ (some 17) rfl rfl Try.func9 (by kernel_rfl) rfl #[.slice A0 l0.length c0] rfl (by (try simp only [List.map_toArray, List.map_cons, List.map_nil]); first | done | rfl | (simp only [List.length_drop, List.length_take]; rfl)) ?_; (with_reducible refine (hostlerlaw17_few.calls k _ _ l0 t181 _ ?side1 ?side2 A6.out).mono ?_); (case side1 => repeat (first | exact (Kd.C_below HR0.out HB.out) | (with_reducible refine Kd.C_alloc ?_ _) | (with_reducible refine Kd.C_drewN ?_ _) | (with_reducible refine Kd.C_drew ?_))); (case side2 => exact HC0.out); rintro e w9 ⟨v182, rfl, ho0, hb⟩; refine ⟨_, rfl, ?_⟩; have n0_ := Aside0.mk (Kd.R_lower ho0 (below_size (by repeat (first | (with_reducible first | exact HB.out | apply below_alloc | apply pw_below_drewN | apply below_drew1) | exact HB.out)))); have n1_ := Aside0.mk (below_step (by repeat (first | (with_reducible first | exact HB.out | apply below_alloc | apply pw_below_drewN | apply below_drew1) | exact HB.out)) hb); clear HB; have HO183 := n0_; have HB := n1_; clear n0_ n1_; (try clear hb); (try clear hb2); (try clear hk); (try clear hi); (try clear ho0); obtain ⟨Ao10, co10, eo10⟩ := Kd.R_slice HO183.out; subst eo10) | ((with_reducible refine gate_callee (f := 8) rfl ?_); refine goesL_ (some 18) rfl rfl Try.func8 (by kernel_rfl) rfl #[.slice Ao10 t181.length co10] rfl (by (try simp only [List.map_toArray, List.map_cons, List.map_nil]); first | done | rfl | (simp only [List.length_drop, List.length_take]; rfl)) ?_; (with_reducible refine (hostlerlaw17_as.calls k _ _ t181 t184 _ ?side1 ?side2 A7.out).mono ?_); (case side1 => repeat (first | exact (Kd.R_reads' HO183.out).2.2 | (with_reducible refine Kd.C_alloc ?_ _) | (with_reducible refine Kd.C_drewN ?_ _) | (with_reducible refine Kd.C_drew ?_))); (case side2 => exact (Kd.R_reads' HO183.out).2.1); rintro e w11 ⟨v185, rfl, ho0, hb⟩; refine ⟨_, rfl, ?_⟩; have n0_ := Aside0.mk (Kd.R_below (by (with_reducible repeat (first | apply Kd.R_alloc | apply Kd.R_drewN | apply Kd.R_drew)); exact HO183.out) hb); have n1_ := Aside0.mk (Kd.R_lower ho0 (below_size (by repeat (first | (with_reducible first | exact HB.out | apply below_alloc | apply pw_below_drewN | apply below_drew1) | exact HB.out)))); have n2_ := Aside0.mk (below_step (by repeat (first | (with_reducible first | exact HB.out | apply below_alloc | apply pw_below_drewN | apply below_drew1) | exact HB.out)) hb); clear HO183; clear HB; have HO183 := n0_; have HO186 := n1_; have HB := n2_; clear n0_ n1_ n2_; (try clear hb); (try clear hb2); (try clear hk); (try clear hi); (try clear ho0)))
    go_loopg [8] k (fun kq v8 w' => ∃ (x7_1 : List (S32)) (x8_1 : Int), v8 = .int .i64 x8_1 ∧ Aside0 (hostlerlaw17_ChooseWarm.l0 kq a1 a2 x7_1 x8_1 = some r) ∧ Aside0 (kq ≤ k) ∧ Aside0 (Kd.R k32 32 w' w.heap.size (fun _ => True) v185 x7_1) ∧ Aside0 (Below w.heap.size w w'))
    case atStart => exact ⟨(t184), (0), (by first | rfl | (simp; done) | (simp [*]; done)), H', ⟨Nat.le_refl _⟩, ⟨by (with_reducible repeat (first | apply Kd.R_alloc | apply Kd.R_drewN | apply Kd.R_drew)); exact HO186.out⟩, ⟨by repeat (first | (with_reducible first | exact HB.out | apply below_alloc | apply pw_below_drewN | apply below_drew1) | exact HB.out)⟩⟩
    case round =>
      clear H'
      try clear p2
      try clear c5
      try clear c6
      try clear c7
      try clear c8
      try clear c9
      obtain ⟨x7_1, x8_1, rfl, HA, HK1, HO_7, HB⟩ := hrel
      cases gk with
      | zero => exact absurd HA.out (by simp [hostlerlaw17_ChooseWarm.l0])
      | succ k1 =>
        have H := HA.out
        clear HA
        simp only [hostlerlaw17_ChooseWarm.l0] at H
        by_cases c12 : x8_1 < (x7_1.length : Int)
        · rw [if_pos c12] at H
          have c12b0 : decide (x8_1 < (x7_1.length : Int)) = true := decide_eq_true c12
          clear c12
          by_cases c13 : 0 ≤ x8_1
          · rw [if_pos c13] at H
            have c13b0 : decide (0 ≤ x8_1) = true := decide_eq_true c13
            clear c13
            obtain ⟨y188, hy188⟩ : ∃ y_ : List (S32), y_ = (x7_1.set (x8_1 : Int).toNat (⟨(rd_T32 x7_1 x8_1).f0, wrap64 (Int.tmod (IntKind.u64.wrap ((rd_T32 x7_1 x8_1).f1)) 4), (rd_T32 x7_1 x8_1).f2, (rd_T32 x7_1 x8_1).f3, (rd_T32 x7_1 x8_1).f4⟩ : S32)) := ⟨_, rfl⟩
            replace H : (hostlerlaw17_ChooseWarm.l0 k1 a1 a2 y188 (wrap64 (x8_1 + 1))) = some r := by first | (rw [hy188]; with_reducible exact H) | (have H2_ := (Option.bind_some _ _).symm.trans H; rw [hy188]; with_reducible exact H2_) | (have H2_ := (Option.bind_some _ _).symm.trans H; with_reducible exact H2_) | with_reducible exact H | (rw [hy188]; exact H) | exact H
            have Ny188 := Aside0.mk hy188
            clear hy188
            have H' := Aside0.mk H
            clear H
            obtain ⟨Ao15, co15, eo15⟩ := Kd.R_slice HO_7.out
            subst eo15
            have p187 : 0 ≤ (x8_1 : Int) := of_decide_eq_true (by first | (with_reducible assumption) | assumption)
            have q187 : x8_1 < (x7_1.length : Int) := of_decide_eq_true (by first | (with_reducible assumption) | assumption)
            obtain ⟨ad187, e187, hx187_0, hx187_1, hx187_2, hx187_3, hx187_4⟩ := at_T32 (Kd.R_reads' HO_7.out).2.2 x8_1 p187 q187
            cases e187
            replace p187 := eq_true p187
            replace q187 := eq_true q187
            have p14 : 0 ≤ (x8_1 : Int) := of_decide_eq_true (by first | (with_reducible assumption) | assumption)
            have q14 : (x8_1 : Int) < ((x7_1.length : Int) : Int) := of_decide_eq_true (by first | (with_reducible assumption) | assumption)
            obtain ⟨go14, co14, eo14, gb14, gl14, cl14, HG14⟩ := Kd.R_form HO_7.out (by omega)
            (first | cases eo14 | (injection eo14 with ea_ en_ ec_; (first | subst ea_ | (injection ea_ with ea_; subst ea_)); subst ec_; clear en_))
            have GB14 := Aside0.mk gb14
            have GG14 := Aside0.mk HG14
            clear gb14 gl14 HG14
            (first | simp only [add_plain] at hx187_0 | skip)
            (first | simp only [add_plain] at hx187_1 | skip)
            (first | simp only [add_plain] at hx187_2 | skip)
            (first | simp only [add_plain] at hx187_3 | skip)
            (first | simp only [add_plain] at hx187_4 | skip)
            obtain ⟨ce14, hcl14, hM14, hcc14, hfr14⟩ := Kd.R_elem HO_7.out z32 (x8_1 : Int) p14 q14
            obtain rfl := k32_openM hM14
            have hx14_0 : wr.cell? ⟨go14, (x8_1 : Int).toNat * 5, none⟩ = some (.int .i64 ((rd_T32 x7_1 x8_1).f0)) := hcc14 0 _ rfl
            have hx14_1 : wr.cell? ⟨go14, (x8_1 : Int).toNat * 5 + 1, none⟩ = some (.int .i64 ((rd_T32 x7_1 x8_1).f1)) := hcc14 1 _ rfl
            have hx14_2 : wr.cell? ⟨go14, (x8_1 : Int).toNat * 5 + 2, none⟩ = some (.int .i64 ((rd_T32 x7_1 x8_1).f2)) := hcc14 2 _ rfl
            have hx14_3 : wr.cell? ⟨go14, (x8_1 : Int).toNat * 5 + 3, none⟩ = some (.int .i64 ((rd_T32 x7_1 x8_1).f3)) := hcc14 3 _ rfl
            have hx14_4 : wr.cell? ⟨go14, (x8_1 : Int).toNat * 5 + 4, none⟩ = some (.bool ((rd_T32 x7_1 x8_1).f4)) := hcc14 4 _ rfl
            have hf14_0 : wr.frozen? ⟨go14, (x8_1 : Int).toNat * 5, none⟩ = false := hfr14 0
            have hf14_1 : wr.frozen? ⟨go14, (x8_1 : Int).toNat * 5 + 1, none⟩ = false := hfr14 1
            have hf14_2 : wr.frozen? ⟨go14, (x8_1 : Int).toNat * 5 + 2, none⟩ = false := hfr14 2
            have hf14_3 : wr.frozen? ⟨go14, (x8_1 : Int).toNat * 5 + 3, none⟩ = false := hfr14 3
            have hf14_4 : wr.frozen? ⟨go14, (x8_1 : Int).toNat * 5 + 4, none⟩ = false := hfr14 4
            clear hcl14 hcc14 hfr14 hM14
            replace p14 := eq_true p14
            replace q14 := eq_true q14
            have HX16 := Aside0.mk (show Kd.R k32 32 wr w.heap.size (fun _ => True) (.slice (some ⟨go14, 0, none⟩) x7_1.length co15) x7_1 from (by (with_reducible repeat (first | apply Kd.R_alloc | apply Kd.R_drewN | apply Kd.R_drew)); exact HO_7.out))
            obtain ⟨ce16, hcl16, hM16, hcc16, hfr16⟩ := Kd.R_elem HX16.out z32 (x8_1 : Int) (of_decide_eq_true (by first | (with_reducible assumption) | assumption)) (by have h_ : (x8_1 : Int) < ((x7_1.length : Int) : Int) := of_decide_eq_true (by first | (with_reducible assumption) | assumption); first | exact h_ | (have e_ := (Kd.R_reads' HO_7.out).1; omega) | simpa using h_)
            obtain rfl := k32_openM hM16
            have HP16 := Kd.R_seg HX16.out (x8_1 : Int) (of_decide_eq_true (by first | (with_reducible assumption) | assumption)) (by have h_ : (x8_1 : Int) < ((x7_1.length : Int) : Int) := of_decide_eq_true (by first | (with_reducible assumption) | assumption); first | exact h_ | (have e_ := (Kd.R_reads' HO_7.out).1; omega) | simpa using h_) (seg := [.int .i64 (wrap64 (Int.tmod (IntKind.u64.wrap ((rd_T32 x7_1 x8_1).f1)) 4))]) (j := 1) hcl16 hcc16 (show 2 ≤ 5 from by decide) (x' := (⟨(rd_T32 x7_1 x8_1).f0, wrap64 (Int.tmod (IntKind.u64.wrap ((rd_T32 x7_1 x8_1).f1)) 4), (rd_T32 x7_1 x8_1).f2, (rd_T32 x7_1 x8_1).f3, (rd_T32 x7_1 x8_1).f4⟩ : S32)) (k32_mkM _ _ _ (⟨(rd_T32 x7_1 x8_1).f0, wrap64 (Int.tmod (IntKind.u64.wrap ((rd_T32 x7_1 x8_1).f1)) 4), (rd_T32 x7_1 x8_1).f2, (rd_T32 x7_1 x8_1).f3, (rd_T32 x7_1 x8_1).f4⟩ : S32) ) (fun _ hk => hk)
            have hx16_1 := hcc16 1 _ rfl
            (try simp only [show (k32).sz = 5 from rfl, Nat.mul_one, Nat.add_zero] at hx16_1)
            have hf16_1 := hfr16 1
            (try simp only [show (k32).sz = 5 from rfl, Nat.mul_one, Nat.add_zero] at hf16_1)
            clear hcl16 hcc16 hfr16 hM16
            go_wp2_with (first | ((with_reducible refine gate_store (t := 3) (p := 36) rfl ?_); refine store_event (t := 3) (p := 36) (v := ?vo_w17) (w1 := (wr.setCell ⟨go14, (x8_1 : Int).toNat * 5 + 1, none⟩ (.int .i64 (wrap64 (Int.tmod (IntKind.u64.wrap ((rd_T32 x7_1 x8_1).f1)) 4))))) ?hg ?ho ?hn ?hr ?_; (case ho => rfl); (case hg => rfl); (case hn => rfl); (case hr => first | (go_simp; done) | (go_simp; rfl)); intro w17 hw; have hg : wr.grownBy w17 (some go14) := (by rw [hw]; exact HP16.2); have hp_ : Kd.R k32 32 w17 w.heap.size (fun _ => True) (.slice (some ⟨go14, 0, none⟩) x7_1.length co15) y188 := (by rw [hw, Ny188.out]; exact HP16.1); clear HP16; have n0_ := Aside0.mk (hp_); have n1_ := Aside0.mk ((by rw [hw]; exact below_set (HB.out) GB14.out : Below w.heap.size w w17)); clear HO_7; clear HB; have HO_7 := n0_; have HB := n1_; clear n0_ n1_; clear hg hw hp_))
            go_roundg k1
            case measure => have := HK1.out; omega
            case rel => exact ⟨(y188), (wrap64 (x8_1 + 1)), (by first | rfl | (simp; done) | (simp [*]; done)), H', ⟨by have := HK1.out; omega⟩, ⟨by (with_reducible repeat (first | apply Kd.R_alloc | apply Kd.R_drewN | apply Kd.R_drew)); exact HO_7.out⟩, ⟨by repeat (first | (with_reducible first | exact HB.out | apply below_alloc | apply pw_below_drewN | apply below_drew1) | exact HB.out)⟩⟩
          · rw [if_neg c13] at H
            exact absurd H (by simp)
        · rw [if_neg c12] at H
          have c12b0 : decide (x8_1 < (x7_1.length : Int)) = false := decide_eq_false c12
          clear c12
          have H' := Aside0.mk H
          clear H
          obtain ⟨Ao18, co18, eo18⟩ := Kd.R_slice HO_7.out
          subst eo18
          go_wp2
          go_loopg [9] k1 (fun kq v9 w' => ∃ (x7_2 : List (S32)) (x9_2 : Int), v9 = .int .i64 x9_2 ∧ Aside0 (hostlerlaw17_ChooseWarm.l1 kq (wrap64 (Int.tmod (IntKind.u64.wrap (a1)) 9)) (wrap64 (Int.tmod (IntKind.u64.wrap (a2)) 9)) x7_2 x9_2 = some r) ∧ Aside0 (kq ≤ k1) ∧ Aside0 (Kd.R k32 32 w' w.heap.size (fun _ => True) (.slice Ao18 x7_1.length co18) x7_2) ∧ Aside0 (Below w.heap.size w w'))
          case atStart => exact ⟨(x7_1), (0), (by first | rfl | (simp; done) | (simp [*]; done)), H', ⟨Nat.le_refl _⟩, ⟨by (with_reducible repeat (first | apply Kd.R_alloc | apply Kd.R_drewN | apply Kd.R_drew)); exact HO_7.out⟩, ⟨by repeat (first | (with_reducible first | exact HB.out | apply below_alloc | apply pw_below_drewN | apply below_drew1) | exact HB.out)⟩⟩
          case round =>
            clear H'
            try clear c1
            try clear p1
            try clear q1
            try clear hx1
            try clear p2
            try clear c5
            try clear c6
            try clear p6
            try clear c7
            try clear c8
            try clear c9
            try clear c12
            try clear c12b0
            try clear c13
            try clear c13b0
            try clear c14
            try clear p14
            try clear q14
            try clear hx14
            try clear hf14
            try clear c16
            try clear hx16
            try clear hf16
            try clear p18
            try clear q18
            try clear hx18
            try clear hx14_0
            try clear hx14_1
            try clear hx14_2
            try clear hx14_3
            try clear hx14_4
            try clear hx16_1
            try clear hx187_0
            try clear hx187_1
            try clear hx187_2
            try clear hx187_3
            try clear hx187_4
            try clear p14
            try clear p187
            try clear p2
            try clear q14
            try clear q187
            obtain ⟨x7_2, x9_2, rfl, HA, HK2, HO_7, HB⟩ := hrel
            have hl7_2 := (Kd.R_reads' HO_7.out).1
            rw [hl7_2] at HO_7
            (try simp only [hl7_2])
            cases gk with
            | zero => exact absurd HA.out (by simp [hostlerlaw17_ChooseWarm.l1])
            | succ k2 =>
              have H := HA.out
              clear HA
              simp only [hostlerlaw17_ChooseWarm.l1] at H
              by_cases c19 : x9_2 < 200
              · rw [if_pos c19] at H
                have c19b0 : decide (x9_2 < 200) = true := decide_eq_true c19
                clear c19
                replace H := Option.bind_eq_some_iff.mp H
                obtain ⟨⟨t189, t190⟩, A200, H⟩ := H
                replace H : (if t190 = true then (if 0 ≤ t189 then (if t189 < (x7_2.length : Int) then ((some (x7_2.set (t189 : Int).toNat (⟨(rd_T32 x7_2 t189).f0, wrap64 (((rd_T32 x7_2 t189).f1) + 1), (rd_T32 x7_2 t189).f2, (rd_T32 x7_2 t189).f3, (rd_T32 x7_2 t189).f4⟩ : S32) : List (S32))).bind fun y192 => (if (wrap64 (((rd_T32 y192 t189).f1) + (mx ((rd_T32 y192 t189).f2) 0))) > (wrap64 (Int.tmod (IntKind.u64.wrap (a2)) 9)) then (none) else (if t189 ≤ (wrap64 (t189 + 1)) then (if (wrap64 (t189 + 1)) ≤ (x7_2.length : Int) then ((choose_All.f k2 ((y192.take ((wrap64 (t189 + 1)) : Int).toNat).drop (t189 : Int).toNat)).bind fun t199 => (if t199 > (wrap64 (Int.tmod (IntKind.u64.wrap (a1)) 9)) then (none) else (hostlerlaw17_ChooseWarm.l1 k2 (wrap64 (Int.tmod (IntKind.u64.wrap (a1)) 9)) (wrap64 (Int.tmod (IntKind.u64.wrap (a2)) 9)) y192 (wrap64 (x9_2 + 1))))) else (none)) else (none)))) else (none)) else (none)) else (hostlerlaw17_ChooseWarm.l2 k2 (wrap64 (Int.tmod (IntKind.u64.wrap (a1)) 9)) (wrap64 (Int.tmod (IntKind.u64.wrap (a2)) 9)) x7_2 0)) = some r := H
                have A20 := Aside0.mk A200
                clear A200
                by_cases c21 : t190 = true
                · subst c21
                  have H1 : (if 0 ≤ t189 then (if t189 < (x7_2.length : Int) then ((some (x7_2.set (t189 : Int).toNat (⟨(rd_T32 x7_2 t189).f0, wrap64 (((rd_T32 x7_2 t189).f1) + 1), (rd_T32 x7_2 t189).f2, (rd_T32 x7_2 t189).f3, (rd_T32 x7_2 t189).f4⟩ : S32) : List (S32))).bind fun y192 => (if (wrap64 (((rd_T32 y192 t189).f1) + (mx ((rd_T32 y192 t189).f2) 0))) > (wrap64 (Int.tmod (IntKind.u64.wrap (a2)) 9)) then (none) else (if t189 ≤ (wrap64 (t189 + 1)) then (if (wrap64 (t189 + 1)) ≤ (x7_2.length : Int) then ((choose_All.f k2 ((y192.take ((wrap64 (t189 + 1)) : Int).toNat).drop (t189 : Int).toNat)).bind fun t199 => (if t199 > (wrap64 (Int.tmod (IntKind.u64.wrap (a1)) 9)) then (none) else (hostlerlaw17_ChooseWarm.l1 k2 (wrap64 (Int.tmod (IntKind.u64.wrap (a1)) 9)) (wrap64 (Int.tmod (IntKind.u64.wrap (a2)) 9)) y192 (wrap64 (x9_2 + 1))))) else (none)) else (none)))) else (none)) else (none)) = some r := by rw [if_pos rfl] at H; exact H
                  clear H
                  have H := H1
                  clear H1
                  by_cases c22 : 0 ≤ t189
                  · rw [if_pos c22] at H
                    have c22b0 : decide (0 ≤ t189) = true := decide_eq_true c22
                    clear c22
                    by_cases c23 : t189 < (x7_2.length : Int)
                    · rw [if_pos c23] at H
                      have c23b0 : decide (t189 < (x7_2.length : Int)) = true := decide_eq_true c23
                      clear c23
                      obtain ⟨y192, hy192⟩ : ∃ y_ : List (S32), y_ = (x7_2.set (t189 : Int).toNat (⟨(rd_T32 x7_2 t189).f0, wrap64 (((rd_T32 x7_2 t189).f1) + 1), (rd_T32 x7_2 t189).f2, (rd_T32 x7_2 t189).f3, (rd_T32 x7_2 t189).f4⟩ : S32)) := ⟨_, rfl⟩
                      replace H : (if (wrap64 (((rd_T32 y192 t189).f1) + (mx ((rd_T32 y192 t189).f2) 0))) > (wrap64 (Int.tmod (IntKind.u64.wrap (a2)) 9)) then (none) else (if t189 ≤ (wrap64 (t189 + 1)) then (if (wrap64 (t189 + 1)) ≤ (x7_2.length : Int) then ((choose_All.f k2 ((y192.take ((wrap64 (t189 + 1)) : Int).toNat).drop (t189 : Int).toNat)).bind fun t199 => (if t199 > (wrap64 (Int.tmod (IntKind.u64.wrap (a1)) 9)) then (none) else (hostlerlaw17_ChooseWarm.l1 k2 (wrap64 (Int.tmod (IntKind.u64.wrap (a1)) 9)) (wrap64 (Int.tmod (IntKind.u64.wrap (a2)) 9)) y192 (wrap64 (x9_2 + 1))))) else (none)) else (none))) = some r := by first | (rw [hy192]; with_reducible exact H) | (have H2_ := (Option.bind_some _ _).symm.trans H; rw [hy192]; with_reducible exact H2_) | (have H2_ := (Option.bind_some _ _).symm.trans H; with_reducible exact H2_) | with_reducible exact H | (rw [hy192]; exact H) | exact H
                      have Ny192 := Aside0.mk hy192
                      clear hy192
                      obtain ⟨ji25, hji25⟩ : ∃ j_ : Int, (mx ((rd_T32 y192 t189).f2) 0) = j_ := ⟨_, rfl⟩
                      replace H : (if (wrap64 (((rd_T32 y192 t189).f1) + (ji25))) > (wrap64 (Int.tmod (IntKind.u64.wrap (a2)) 9)) then (none) else (if t189 ≤ (wrap64 (t189 + 1)) then (if (wrap64 (t189 + 1)) ≤ (x7_2.length : Int) then ((choose_All.f k2 ((y192.take ((wrap64 (t189 + 1)) : Int).toNat).drop (t189 : Int).toNat)).bind fun t199 => (if t199 > (wrap64 (Int.tmod (IntKind.u64.wrap (a1)) 9)) then (none) else (hostlerlaw17_ChooseWarm.l1 k2 (wrap64 (Int.tmod (IntKind.u64.wrap (a1)) 9)) (wrap64 (Int.tmod (IntKind.u64.wrap (a2)) 9)) y192 (wrap64 (x9_2 + 1))))) else (none)) else (none))) = some r := by first | (rw [hji25] at H; exact H) | (simp only [hji25] at H ⊢; exact H)
                      (try rw [hji25] at A20)
                      (try (have hji25l : 0 ≤ ji25 := by (rw [← hji25]; unfold mx; (repeat' split) <;> omega)))
                      (try (have hji25m : 0 ≤ ji25 := by omega))
                      have hji25_ : (if ((rd_T32 y192 t189).f2) < 0 then 0 else ((rd_T32 y192 t189).f2)) = ji25 := hji25
                      by_cases c26 : (wrap64 (((rd_T32 y192 t189).f1) + (ji25))) > (wrap64 (Int.tmod (IntKind.u64.wrap (a2)) 9))
                      · rw [if_pos c26] at H
                        exact absurd H (by simp)
                      · rw [if_neg c26] at H
                        have c26b0 : decide ((wrap64 (Int.tmod (IntKind.u64.wrap (a2)) 9)) < (wrap64 (((rd_T32 y192 t189).f1) + (ji25)))) = false := decide_eq_false c26
                        clear c26
                        have c27b0 := eq_true (of_decide_eq_true (by first | (with_reducible assumption) | assumption) : 0 ≤ t189)
                        by_cases c28 : t189 ≤ (wrap64 (t189 + 1))
                        · rw [if_pos c28] at H
                          have c28b0 := eq_true c28
                          have c28b1 : decide (t189 ≤ (wrap64 (t189 + 1))) = true := decide_eq_true c28
                          by_cases c29 : (wrap64 (t189 + 1)) ≤ (x7_2.length : Int)
                          · rw [if_pos c29] at H
                            have c29b0 := eq_true c29
                            have c29b1 : decide ((wrap64 (t189 + 1)) ≤ (x7_2.length : Int)) = true := decide_eq_true c29
                            obtain ⟨y195, hy195⟩ : ∃ y_ : List (S32), y_ = ((y192.take ((wrap64 (t189 + 1)) : Int).toNat).drop (t189 : Int).toNat) := ⟨_, rfl⟩
                            replace H : ((choose_All.f k2 y195).bind fun t199 => (if t199 > (wrap64 (Int.tmod (IntKind.u64.wrap (a1)) 9)) then (none) else (hostlerlaw17_ChooseWarm.l1 k2 (wrap64 (Int.tmod (IntKind.u64.wrap (a1)) 9)) (wrap64 (Int.tmod (IntKind.u64.wrap (a2)) 9)) y192 (wrap64 (x9_2 + 1))))) = some r := by first | (rw [hy195]; with_reducible exact H) | (have H2_ := (Option.bind_some _ _).symm.trans H; rw [hy195]; with_reducible exact H2_) | (have H2_ := (Option.bind_some _ _).symm.trans H; with_reducible exact H2_) | with_reducible exact H | (rw [hy195]; exact H) | exact H
                            have Ny195 := Aside0.mk hy195
                            clear hy195
                            replace H := Option.bind_eq_some_iff.mp H
                            obtain ⟨t199, A300, H⟩ := H
                            replace H : (if t199 > (wrap64 (Int.tmod (IntKind.u64.wrap (a1)) 9)) then (none) else (hostlerlaw17_ChooseWarm.l1 k2 (wrap64 (Int.tmod (IntKind.u64.wrap (a1)) 9)) (wrap64 (Int.tmod (IntKind.u64.wrap (a2)) 9)) y192 (wrap64 (x9_2 + 1)))) = some r := H
                            have A30 := Aside0.mk A300
                            clear A300
                            by_cases c31 : t199 > (wrap64 (Int.tmod (IntKind.u64.wrap (a1)) 9))
                            · rw [if_pos c31] at H
                              exact absurd H (by simp)
                            · rw [if_neg c31] at H
                              have c31b0 : decide ((wrap64 (Int.tmod (IntKind.u64.wrap (a1)) 9)) < t199) = false := decide_eq_false c31
                              clear c31
                              have H' := Aside0.mk H
                              clear H
                              try go_wp2_with (first | ((with_reducible refine gate_callee (f := 13) rfl ?_); refine goesL_ (some 53) rfl rfl Try.func13 (by kernel_rfl) rfl #[.slice Ao18 x7_2.length co18, .int .i64 (wrap64 (Int.tmod (IntKind.u64.wrap (a1)) 9)), .int .i64 (wrap64 (Int.tmod (IntKind.u64.wrap (a2)) 9))] rfl (by (try simp only [List.map_toArray, List.map_cons, List.map_nil]); first | done | rfl | (simp only [List.length_drop, List.length_take]; rfl)) ?_; (with_reducible refine (choose_Warm.calls k2 _ _ x7_2 (wrap64 (Int.tmod (IntKind.u64.wrap (a1)) 9)) (wrap64 (Int.tmod (IntKind.u64.wrap (a2)) 9)) t189 true _ ?side1 ?side2 A20.out).mono ?_); (case side1 => repeat (first | exact (Kd.R_reads' HO_7.out).2.2 | (with_reducible refine Kd.C_alloc ?_ _) | (with_reducible refine Kd.C_drewN ?_ _) | (with_reducible refine Kd.C_drew ?_))); (case side2 => exact (Kd.R_reads' HO_7.out).2.1); rintro e w32 ⟨rfl, hb⟩; refine ⟨_, rfl, ?_⟩; have n0_ := Aside0.mk (Kd.R_below (by (with_reducible repeat (first | apply Kd.R_alloc | apply Kd.R_drewN | apply Kd.R_drew)); exact HO_7.out) hb); have n1_ := Aside0.mk (below_step (by repeat (first | (with_reducible first | exact HB.out | apply below_alloc | apply pw_below_drewN | apply below_drew1) | exact HB.out)) hb); clear HO_7; clear HB; have HO_7 := n0_; have HB := n1_; clear n0_ n1_; (try clear hb); (try clear hb2); (try clear hk); (try clear hi); have p191 : 0 ≤ (t189 : Int) := of_decide_eq_true (by first | (with_reducible assumption) | assumption); have q191 : t189 < (x7_2.length : Int) := of_decide_eq_true (by first | (with_reducible assumption) | assumption); obtain ⟨ad191, e191, hx191_0, hx191_1, hx191_2, hx191_3, hx191_4⟩ := at_T32 (Kd.R_reads' HO_7.out).2.2 t189 p191 q191; cases e191; replace p191 := eq_true p191; replace q191 := eq_true q191; have p24 : 0 ≤ (t189 : Int) := of_decide_eq_true (by first | (with_reducible assumption) | assumption); have q24 : (t189 : Int) < ((x7_2.length : Int) : Int) := of_decide_eq_true (by first | (with_reducible assumption) | assumption); obtain ⟨go24, co24, eo24, gb24, gl24, cl24, HG24⟩ := Kd.R_form HO_7.out (by omega); (first | cases eo24 | (injection eo24 with ea_ en_ ec_; (first | subst ea_ | (injection ea_ with ea_; subst ea_)); subst ec_; clear en_)); have GB24 := Aside0.mk gb24; have GG24 := Aside0.mk HG24; clear gb24 gl24 HG24; (first | simp only [add_plain] at hx191_0 | skip); (first | simp only [add_plain] at hx191_1 | skip); (first | simp only [add_plain] at hx191_2 | skip); (first | simp only [add_plain] at hx191_3 | skip); (first | simp only [add_plain] at hx191_4 | skip); obtain ⟨ce24, hcl24, hM24, hcc24, hfr24⟩ := Kd.R_elem HO_7.out z32 (t189 : Int) p24 q24; obtain rfl := k32_openM hM24; have hx24_0 : w32.cell? ⟨go24, (t189 : Int).toNat * 5, none⟩ = some (.int .i64 ((rd_T32 x7_2 t189).f0)) := hcc24 0 _ rfl; have hx24_1 : w32.cell? ⟨go24, (t189 : Int).toNat * 5 + 1, none⟩ = some (.int .i64 ((rd_T32 x7_2 t189).f1)) := hcc24 1 _ rfl; have hx24_2 : w32.cell? ⟨go24, (t189 : Int).toNat * 5 + 2, none⟩ = some (.int .i64 ((rd_T32 x7_2 t189).f2)) := hcc24 2 _ rfl; have hx24_3 : w32.cell? ⟨go24, (t189 : Int).toNat * 5 + 3, none⟩ = some (.int .i64 ((rd_T32 x7_2 t189).f3)) := hcc24 3 _ rfl; have hx24_4 : w32.cell? ⟨go24, (t189 : Int).toNat * 5 + 4, none⟩ = some (.bool ((rd_T32 x7_2 t189).f4)) := hcc24 4 _ rfl; have hf24_0 : w32.frozen? ⟨go24, (t189 : Int).toNat * 5, none⟩ = false := hfr24 0; have hf24_1 : w32.frozen? ⟨go24, (t189 : Int).toNat * 5 + 1, none⟩ = false := hfr24 1; have hf24_2 : w32.frozen? ⟨go24, (t189 : Int).toNat * 5 + 2, none⟩ = false := hfr24 2; have hf24_3 : w32.frozen? ⟨go24, (t189 : Int).toNat * 5 + 3, none⟩ = false := hfr24 3; have hf24_4 : w32.frozen? ⟨go24, (t189 : Int).toNat * 5 + 4, none⟩ = false := hfr24 4; clear hcl24 hcc24 hfr24 hM24; replace p24 := eq_true p24; replace q24 := eq_true q24; have HX33 := Aside0.mk (show Kd.R k32 32 w32 w.heap.size (fun _ => True) (.slice (some ⟨go24, 0, none⟩) x7_2.length co18) x7_2 from (by (with_reducible repeat (first | apply Kd.R_alloc | apply Kd.R_drewN | apply Kd.R_drew)); exact HO_7.out)); obtain ⟨ce33, hcl33, hM33, hcc33, hfr33⟩ := Kd.R_elem HX33.out z32 (t189 : Int) (of_decide_eq_true (by first | (with_reducible assumption) | assumption)) (by have h_ : (t189 : Int) < ((x7_2.length : Int) : Int) := of_decide_eq_true (by first | (with_reducible assumption) | assumption); first | exact h_ | (have e_ := (Kd.R_reads' HO_7.out).1; omega) | simpa using h_); obtain rfl := k32_openM hM33; have HP33 := Kd.R_seg HX33.out (t189 : Int) (of_decide_eq_true (by first | (with_reducible assumption) | assumption)) (by have h_ : (t189 : Int) < ((x7_2.length : Int) : Int) := of_decide_eq_true (by first | (with_reducible assumption) | assumption); first | exact h_ | (have e_ := (Kd.R_reads' HO_7.out).1; omega) | simpa using h_) (seg := [.int .i64 (wrap64 (((rd_T32 x7_2 t189).f1) + 1))]) (j := 1) hcl33 hcc33 (show 2 ≤ 5 from by decide) (x' := (⟨(rd_T32 x7_2 t189).f0, wrap64 (((rd_T32 x7_2 t189).f1) + 1), (rd_T32 x7_2 t189).f2, (rd_T32 x7_2 t189).f3, (rd_T32 x7_2 t189).f4⟩ : S32)) (k32_mkM _ _ _ (⟨(rd_T32 x7_2 t189).f0, wrap64 (((rd_T32 x7_2 t189).f1) + 1), (rd_T32 x7_2 t189).f2, (rd_T32 x7_2 t189).f3, (rd_T32 x7_2 t189).f4⟩ : S32) ) (fun _ hk => hk); have hx33_1 := hcc33 1 _ rfl; (try simp only [show (k32).sz = 5 from rfl, Nat.mul_one, Nat.add_zero] at hx33_1); have hf33_1 := hfr33 1; (try simp only [show (k32).sz = 5 from rfl, Nat.mul_one, Nat.add_zero] at hf33_1); clear hcl33 hcc33 hfr33 hM33) | ((with_reducible refine gate_store (t := 3) (p := 114) rfl ?_); refine store_event (t := 3) (p := 114) (v := ?vo_w34) (w1 := (w32.setCell ⟨go24, (t189 : Int).toNat * 5 + 1, none⟩ (.int .i64 (wrap64 (((rd_T32 x7_2 t189).f1) + 1))))) ?hg ?ho ?hn ?hr ?_; (case ho => rfl); (case hg => rfl); (case hn => rfl); (case hr => first | (go_simp; done) | (go_simp; rfl)); intro w34 hw; have hg : w32.grownBy w34 (some go24) := (by rw [hw]; exact HP33.2); have hp_ : Kd.R k32 32 w34 w.heap.size (fun _ => True) (.slice (some ⟨go24, 0, none⟩) x7_2.length co18) y192 := (by rw [hw, Ny192.out]; exact HP33.1); clear HP33; have n0_ := Aside0.mk (hp_); have n1_ := Aside0.mk ((by rw [hw]; exact below_set (HB.out) GB24.out : Below w.heap.size w w34)); clear HO_7; clear HB; have HO_7 := n0_; have HB := n1_; clear n0_ n1_; clear hg hw hp_))
                              have n0_ := Aside0.mk (Kd.R_drew HO_7.out)
                              have n1_ := Aside0.mk (below_drew1 HB.out)
                              clear HO_7
                              clear HB
                              have HO_7 := n0_
                              have HB := n1_
                              clear n0_ n1_
                              have p193 : 0 ≤ (t189 : Int) := of_decide_eq_true (by first | (with_reducible assumption) | assumption)
                              have q193 : t189 < (y192.length : Int) := (by have h_ : (t189 : Int) < ((x7_2.length : Int) : Int) := of_decide_eq_true (by first | (with_reducible assumption) | assumption); first | (have e_ := (Kd.R_reads' HO_7.out).1; omega) | simpa only [Ny192.out, List.length_set] using h_)
                              have ql193 : ((t189 : Int) < ((x7_2.length : Int) : Int)) = True := eq_true (of_decide_eq_true (by first | (with_reducible assumption) | assumption))
                              obtain ⟨ad193, e193, hx193_0, hx193_1, hx193_2, hx193_3, hx193_4⟩ := at_T32 (Kd.R_reads' HO_7.out).2.2 t189 p193 q193
                              obtain rfl : (⟨go24, 0, none⟩ : Addr) = ad193 := (by injection e193)
                              (first | simp only [add_plain] at hx193_0 | simp only [add_at] at hx193_0 | simp only [Addr.add, Nat.zero_add] at hx193_0 | skip)
                              (first | simp only [add_plain] at hx193_1 | simp only [add_at] at hx193_1 | simp only [Addr.add, Nat.zero_add] at hx193_1 | skip)
                              (first | simp only [add_plain] at hx193_2 | simp only [add_at] at hx193_2 | simp only [Addr.add, Nat.zero_add] at hx193_2 | skip)
                              (first | simp only [add_plain] at hx193_3 | simp only [add_at] at hx193_3 | simp only [Addr.add, Nat.zero_add] at hx193_3 | skip)
                              (first | simp only [add_plain] at hx193_4 | simp only [add_at] at hx193_4 | simp only [Addr.add, Nat.zero_add] at hx193_4 | skip)
                              replace p193 := eq_true p193
                              replace q193 := eq_true q193
                              have p194 : 0 ≤ (t189 : Int) := of_decide_eq_true (by first | (with_reducible assumption) | assumption)
                              have q194 : t189 < (y192.length : Int) := (by have h_ : (t189 : Int) < ((x7_2.length : Int) : Int) := of_decide_eq_true (by first | (with_reducible assumption) | assumption); first | (have e_ := (Kd.R_reads' HO_7.out).1; omega) | simpa only [Ny192.out, List.length_set] using h_)
                              have ql194 : ((t189 : Int) < ((x7_2.length : Int) : Int)) = True := eq_true (of_decide_eq_true (by first | (with_reducible assumption) | assumption))
                              obtain ⟨ad194, e194, hx194_0, hx194_1, hx194_2, hx194_3, hx194_4⟩ := at_T32 (Kd.R_reads' HO_7.out).2.2 t189 p194 q194
                              obtain rfl : (⟨go24, 0, none⟩ : Addr) = ad194 := (by injection e194)
                              (first | simp only [add_plain] at hx194_0 | simp only [add_at] at hx194_0 | simp only [Addr.add, Nat.zero_add] at hx194_0 | skip)
                              (first | simp only [add_plain] at hx194_1 | simp only [add_at] at hx194_1 | simp only [Addr.add, Nat.zero_add] at hx194_1 | skip)
                              (first | simp only [add_plain] at hx194_2 | simp only [add_at] at hx194_2 | simp only [Addr.add, Nat.zero_add] at hx194_2 | skip)
                              (first | simp only [add_plain] at hx194_3 | simp only [add_at] at hx194_3 | simp only [Addr.add, Nat.zero_add] at hx194_3 | skip)
                              (first | simp only [add_plain] at hx194_4 | simp only [add_at] at hx194_4 | simp only [Addr.add, Nat.zero_add] at hx194_4 | skip)
                              replace p194 := eq_true p194
                              replace q194 := eq_true q194
                              have hlx36 := (Kd.R_reads' HO_7.out).1
                              have q36 : ((wrap64 (t189 + 1)) : Int) ≤ ((x7_2.length : Int) : Int) := of_decide_eq_true (by first | (with_reducible assumption) | assumption)
                              obtain ⟨i036, hi036, _, hsz36, _⟩ := info_parts info32
                              have hroom36 : x7_2.length ≤ co18 := (Kd.R_reads' HO_7.out).2.1
                              have hroomc36 : y192.length ≤ co18 := (by rw [← hlx36]; exact hroom36)
                              have hC36 : Kd.C k32 _ (some ⟨go24, 0, none⟩) y192.length y192 := (Kd.R_reads' HO_7.out).2.2
                              have ql36 : (t189 : Int) ≤ ((wrap64 (t189 + 1)) : Int) := of_decide_eq_true (by first | (with_reducible assumption) | assumption)
                              have q036 : (0 : Int) ≤ (t189 : Int) := of_decide_eq_true (by first | (with_reducible assumption) | assumption)
                              have hcut36 := cut_mid (P := Try.prog) 24 32 .i64 .i64 Try.underlying24 hi036 5 hsz36 (some ⟨go24, 0, none⟩) x7_2.length co18 t189 (wrap64 (t189 + 1)) q036 ql36 q36 hroom36
                              have hr36 := Kd.C_mid (lo := (t189 : Int).toNat) (hi := ((wrap64 (t189 + 1)) : Int).toNat) (c := co18) hC36 (by omega) (by omega) hroomc36
                              obtain ⟨A36, hA36⟩ : ∃ A1, A1 = (if co18 = (t189 : Int).toNat then (some ⟨go24, 0, none⟩) else ((some ⟨go24, 0, none⟩) : Option Addr).map (·.add ((t189 : Int).toNat * 5))) := ⟨_, rfl⟩
                              obtain ⟨c36, hc36⟩ : ∃ c1, c1 = co18 - (t189 : Int).toNat := ⟨_, rfl⟩
                              have hy36 : y195.length = ((wrap64 (t189 + 1)) : Int).toNat - (t189 : Int).toNat := (by rw [Ny195.out, List.length_drop, List.length_take] <;> omega)
                              rw [show ((y192).take ((wrap64 (t189 + 1)) : Int).toNat).drop (t189 : Int).toNat = y195 from Ny195.out.symm] at hr36
                              replace hr36 : Kd.C k32 _ A36 y195.length y195 := (by rw [hA36]; exact hr36)
                              rw [← hy36, ← hA36, ← hc36] at hcut36
                              have HR198 := Aside0.mk hr36
                              have HC198 := Aside0.mk (show y195.length ≤ c36 from by rw [hy36, hc36]; exact Nat.sub_le_sub_right (Nat.le_trans (by omega) hroom36) _)
                              clear hr36 hC36 hroom36 hi036 hsz36 hc36 hroomc36
                              have KY36 := Aside0.mk hy36
                              have KA36 := Aside0.mk hA36
                              clear hy36 hA36
                              have KE36 := Aside0.mk hlx36
                              have KL36 := Aside0.mk (show ((wrap64 (t189 + 1)) : Int).toNat ≤ y192.length from by omega)
                              have KM36 := Aside0.mk (show (t189 : Int).toNat ≤ ((wrap64 (t189 + 1)) : Int).toNat from by omega)
                              clear hlx36
                              replace q36 := eq_true q36
                              refine start_ (n := 24) (S := fun w' => w'.cell? ⟨go24, (t189).toNat * 5, none⟩ = some (.int .i64 ((rd_T32 y192 t189).f0)) ∧ w'.cell? ⟨go24, (t189).toNat * 5 + 1, none⟩ = some (.int .i64 ((rd_T32 y192 t189).f1)) ∧ w'.cell? ⟨go24, (t189).toNat * 5 + 2, none⟩ = some (.int .i64 ((rd_T32 y192 t189).f2)) ∧ w'.cell? ⟨go24, (t189).toNat * 5 + 3, none⟩ = some (.int .i64 ((rd_T32 y192 t189).f3)) ∧ w'.cell? ⟨go24, (t189).toNat * 5 + 4, none⟩ = some (.bool ((rd_T32 y192 t189).f4)) ∧ w'.cell? ⟨go24, (t189).toNat * 5, none⟩ = some (.int .i64 ((rd_T32 y192 t189).f0)) ∧ w'.cell? ⟨go24, (t189).toNat * 5 + 1, none⟩ = some (.int .i64 ((rd_T32 y192 t189).f1)) ∧ w'.cell? ⟨go24, (t189).toNat * 5 + 2, none⟩ = some (.int .i64 ((rd_T32 y192 t189).f2)) ∧ w'.cell? ⟨go24, (t189).toNat * 5 + 3, none⟩ = some (.int .i64 ((rd_T32 y192 t189).f3)) ∧ w'.cell? ⟨go24, (t189).toNat * 5 + 4, none⟩ = some (.bool ((rd_T32 y192 t189).f4))) (ds := []) #[false, false, false, false, false, false, false, false, false, false, false, false, false, false, false, false, false, false, false, false, false, false, false, false] (by kernel_rfl) rfl rfl ⟨hx193_0, hx193_1, hx193_2, hx193_3, hx193_4, hx194_0, hx194_1, hx194_2, hx194_3, hx194_4⟩ (fun hHeld => ?_); refine with_tabW hostlerlaw17_ChooseWarm.tab23 hostlerlaw17_ChooseWarm.bits23 (fun HT_ HW_ => ?_)
                              generalize w34.drew = w35 at HO_7 HB HR198 hx193_0 hx193_1 hx193_2 hx193_3 hx193_4 hx194_0 hx194_1 hx194_2 hx194_3 hx194_4 hHeld ⊢
                              refine pure_ (i := 0) (N := some 115) (v := ?_) (a' := ?_) #[true, false, false, false, false, false, false, false, false, false, false, false, false, false, false, false, false, false, false, false, false, false, false, false] rfl rfl (any_of HT_.out (by kernel_rfl)) (fun _ _ _ h => h) (Or.inl ⟨by rfl, ?_⟩) ?_ ?_
                              rotate_left
                              · intro w'
                                go_simp
                                with_reducible rfl
                              rotate_left
                              · simp only [Act.put, List.setIfInBounds_toArray, List.set_cons_zero, List.set_cons_succ, i64_w, i32_w]
                                rfl
                              refine pure_ (i := 1) (N := some 116) (v := ?_) (a' := ?_) #[true, true, false, false, false, false, false, false, false, false, false, false, false, false, false, false, false, false, false, false, false, false, false, false] rfl rfl (any_of HT_.out (by kernel_rfl)) (fun _ _ _ h => h) (Or.inl ⟨by rfl, ?_⟩) ?_ ?_
                              rotate_left
                              · intro w'
                                go_simp
                                with_reducible rfl
                              rotate_left
                              · simp only [Act.put, List.setIfInBounds_toArray, List.set_cons_zero, List.set_cons_succ, i64_w, i32_w]
                                rfl
                              refine pure_ (i := 2) (N := some 117) (v := ?_) (a' := ?_) #[true, true, true, false, false, false, false, false, false, false, false, false, false, false, false, false, false, false, false, false, false, false, false, false] rfl rfl (any_of HT_.out (by kernel_rfl)) (fun _ _ _ h => h) (Or.inl ⟨by rfl, ?_⟩) ?_ ?_
                              rotate_left
                              · intro w'
                                go_simp
                                with_reducible rfl
                              rotate_left
                              · simp only [Act.put, List.setIfInBounds_toArray, List.set_cons_zero, List.set_cons_succ, i64_w, i32_w]
                                rfl
                              refine pure_ (i := 3) (N := some 118) (v := ?_) (a' := ?_) #[true, true, true, true, false, false, false, false, false, false, false, false, false, false, false, false, false, false, false, false, false, false, false, false] rfl rfl (any_of HT_.out (by kernel_rfl)) (fun _ _ _ h => h) (Or.inl ⟨by rfl, ?_⟩) ?_ ?_
                              rotate_left
                              · intro w'
                                go_simp
                                with_reducible rfl
                              rotate_left
                              · simp only [Act.put, List.setIfInBounds_toArray, List.set_cons_zero, List.set_cons_succ, i64_w, i32_w]
                                rfl
                              refine pure_ (i := 5) (N := some 120) (v := ?_) (a' := ?_) #[true, true, true, true, false, true, false, false, false, false, false, false, false, false, false, false, false, false, false, false, false, false, false, false] rfl rfl (any_of HT_.out (by kernel_rfl)) (fun _ _ _ h => h) (Or.inl ⟨by rfl, ?_⟩) ?_ ?_
                              rotate_left
                              · intro w'
                                go_simp
                                with_reducible rfl
                              rotate_left
                              · simp only [Act.put, List.setIfInBounds_toArray, List.set_cons_zero, List.set_cons_succ, i64_w, i32_w]
                                rfl
                              refine pure_ (i := 6) (N := some 121) (v := ?_) (a' := ?_) #[true, true, true, true, false, true, true, false, false, false, false, false, false, false, false, false, false, false, false, false, false, false, false, false] rfl rfl (any_of HT_.out (by kernel_rfl)) (fun _ _ _ h => h) (Or.inl ⟨by rfl, ?_⟩) ?_ ?_
                              rotate_left
                              · intro w'
                                go_simp
                                with_reducible rfl
                              rotate_left
                              · simp only [Act.put, List.setIfInBounds_toArray, List.set_cons_zero, List.set_cons_succ, i64_w, i32_w]
                                rfl
                              refine pure_ (i := 7) (N := some 122) (v := ?_) (a' := ?_) #[true, true, true, true, false, true, true, true, false, false, false, false, false, false, false, false, false, false, false, false, false, false, false, false] rfl rfl (any_of HT_.out (by kernel_rfl)) (fun _ _ _ h => h) (Or.inl ⟨by rfl, ?_⟩) ?_ ?_
                              rotate_left
                              · intro w'
                                go_simp
                                with_reducible rfl
                              rotate_left
                              · simp only [Act.put, List.setIfInBounds_toArray, List.set_cons_zero, List.set_cons_succ, i64_w, i32_w]
                                rfl
                              refine pure_ (i := 8) (N := some 123) (v := ?_) (a' := ?_) #[true, true, true, true, false, true, true, true, true, false, false, false, false, false, false, false, false, false, false, false, false, false, false, false] rfl rfl (any_of HT_.out (by kernel_rfl)) (fun _ _ _ h => h) (Or.inl ⟨by rfl, ?_⟩) ?_ ?_
                              rotate_left
                              · intro w'
                                go_simp
                                with_reducible rfl
                              rotate_left
                              · simp only [Act.put, List.setIfInBounds_toArray, List.set_cons_zero, List.set_cons_succ, i64_w, i32_w]
                                rfl
                              refine pure_ (i := 12) (N := some 127) (v := ?_) (a' := ?_) #[true, true, true, true, false, true, true, true, true, false, false, false, true, false, false, false, false, false, false, false, false, false, false, false] rfl rfl (any_of HT_.out (by kernel_rfl)) (fun _ _ _ h => h) (Or.inl ⟨by rfl, ?_⟩) ?_ ?_
                              rotate_left
                              · intro w'
                                go_simp
                                with_reducible rfl
                              rotate_left
                              · simp only [Act.put, List.setIfInBounds_toArray, List.set_cons_zero, List.set_cons_succ, i64_w, i32_w]
                                rfl
                              refine take_ (i := 4) (N := some 119) (v := ?_) (a' := ?_) #[true, true, true, true, true, true, true, true, true, false, false, false, true, false, false, false, false, false, false, false, false, false, false, false] rfl rfl (take_ofW HT_.out HW_.out (by kernel_rfl)) (fun _ _ _ h => h) (Or.inl ⟨by rfl, ?_⟩) hHeld ?_ ?_
                              rotate_left
                              · rintro w' ⟨s0, s1, s2, s3, s4, s5, s6, s7, s8, s9⟩
                                go_simp
                                with_reducible rfl
                              rotate_left
                              · simp only [Act.put, List.setIfInBounds_toArray, List.set_cons_zero, List.set_cons_succ, i64_w, i32_w]
                                rfl
                              refine take_ (i := 9) (N := some 124) (v := ?_) (a' := ?_) #[true, true, true, true, true, true, true, true, true, true, false, false, true, false, false, false, false, false, false, false, false, false, false, false] rfl rfl (take_ofW HT_.out HW_.out (by kernel_rfl)) (fun _ _ _ h => h) (Or.inl ⟨by rfl, ?_⟩) hHeld ?_ ?_
                              rotate_left
                              · rintro w' ⟨s0, s1, s2, s3, s4, s5, s6, s7, s8, s9⟩
                                go_simp
                                with_reducible rfl
                              rotate_left
                              · simp only [Act.put, List.setIfInBounds_toArray, List.set_cons_zero, List.set_cons_succ, i64_w, i32_w]
                                rfl
                              refine pure_ (i := 10) (N := some 125) (v := ?_) (a' := ?_) #[true, true, true, true, true, true, true, true, true, true, true, false, true, false, false, false, false, false, false, false, false, false, false, false] rfl rfl (any_of HT_.out (by kernel_rfl)) (fun _ _ _ h => h) (Or.inl ⟨by rfl, ?_⟩) ?_ ?_
                              rotate_left
                              · intro w'
                                go_simp
                                with_reducible rfl
                              rotate_left
                              · simp only [Act.put, List.setIfInBounds_toArray, List.set_cons_zero, List.set_cons_succ, i64_w, i32_w]
                                rfl
                              refine pure_ (i := 11) (N := some 126) (v := ?_) (a' := ?_) #[true, true, true, true, true, true, true, true, true, true, true, true, true, false, false, false, false, false, false, false, false, false, false, false] rfl rfl (any_of HT_.out (by kernel_rfl)) (fun _ _ _ h => h) (Or.inl ⟨by rfl, ?_⟩) ?_ ?_
                              rotate_left
                              · intro w'
                                go_simp
                                with_reducible rfl
                              rotate_left
                              · simp only [Act.put, List.setIfInBounds_toArray, List.set_cons_zero, List.set_cons_succ, i64_w, i32_w]
                                rfl
                              refine pure_ (i := 13) (N := some 128) (v := ?_) (a' := ?_) #[true, true, true, true, true, true, true, true, true, true, true, true, true, true, false, false, false, false, false, false, false, false, false, false] rfl rfl (any_of HT_.out (by kernel_rfl)) (fun _ _ _ h => h) (Or.inl ⟨by rfl, ?_⟩) ?_ ?_
                              rotate_left
                              · intro w'
                                go_simp
                                with_reducible rfl
                              rotate_left
                              · simp only [Act.put, List.setIfInBounds_toArray, List.set_cons_zero, List.set_cons_succ, i64_w, i32_w]
                                rfl
                              refine pure_ (i := 14) (N := some 129) (v := ?_) (a' := ?_) #[true, true, true, true, true, true, true, true, true, true, true, true, true, true, true, false, false, false, false, false, false, false, false, false] rfl rfl (any_of HT_.out (by kernel_rfl)) (fun _ _ _ h => h) (Or.inl ⟨by rfl, ?_⟩) ?_ ?_
                              rotate_left
                              · intro w'
                                go_simp
                                with_reducible rfl
                              rotate_left
                              · simp only [Act.put, List.setIfInBounds_toArray, List.set_cons_zero, List.set_cons_succ, i64_w, i32_w]
                                rfl
                              refine pure_ (i := 15) (N := some 130) (v := ?_) (a' := ?_) #[true, true, true, true, true, true, true, true, true, true, true, true, true, true, true, true, false, false, false, false, false, false, false, false] rfl rfl (any_of HT_.out (by kernel_rfl)) (fun _ _ _ h => h) (Or.inl ⟨by rfl, ?_⟩) ?_ ?_
                              rotate_left
                              · intro w'
                                go_simp
                                with_reducible rfl
                              rotate_left
                              · simp only [Act.put, List.setIfInBounds_toArray, List.set_cons_zero, List.set_cons_succ, i64_w, i32_w]
                                rfl
                              refine pure_ (i := 16) (N := some 131) (v := ?_) (a' := ?_) #[true, true, true, true, true, true, true, true, true, true, true, true, true, true, true, true, true, false, false, false, false, false, false, false] rfl rfl (any_of HT_.out (by kernel_rfl)) (fun _ _ _ h => h) (Or.inl ⟨by rfl, ?_⟩) ?_ ?_
                              rotate_left
                              · intro w'
                                go_simp
                                with_reducible rfl
                              rotate_left
                              · simp only [Act.put, List.setIfInBounds_toArray, List.set_cons_zero, List.set_cons_succ, i64_w, i32_w]
                                rfl
                              refine pure_ (i := 17) (N := some 132) (v := ?_) (a' := ?_) #[true, true, true, true, true, true, true, true, true, true, true, true, true, true, true, true, true, true, false, false, false, false, false, false] rfl rfl (any_of HT_.out (by kernel_rfl)) (fun _ _ _ h => h) (Or.inl ⟨by rfl, ?_⟩) ?_ ?_
                              rotate_left
                              · intro w'
                                go_simp
                                with_reducible rfl
                              rotate_left
                              · simp only [Act.put, List.setIfInBounds_toArray, List.set_cons_zero, List.set_cons_succ, i64_w, i32_w]
                                rfl
                              refine pure_ (i := 18) (N := some 133) (v := ?_) (a' := ?_) #[true, true, true, true, true, true, true, true, true, true, true, true, true, true, true, true, true, true, true, false, false, false, false, false] rfl rfl (any_of HT_.out (by kernel_rfl)) (fun _ _ _ h => h) (Or.inl ⟨by rfl, ?_⟩) ?_ ?_
                              rotate_left
                              · intro w'
                                go_simp
                                with_reducible rfl
                              rotate_left
                              · simp only [Act.put, List.setIfInBounds_toArray, List.set_cons_zero, List.set_cons_succ, i64_w, i32_w]
                                rfl
                              refine pure_ (i := 19) (N := some 134) (v := ?_) (a' := ?_) #[true, true, true, true, true, true, true, true, true, true, true, true, true, true, true, true, true, true, true, true, false, false, false, false] rfl rfl (any_of HT_.out (by kernel_rfl)) (fun _ _ _ h => h) (Or.inl ⟨by rfl, ?_⟩) ?_ ?_
                              rotate_left
                              · intro w'
                                go_simp
                                with_reducible rfl
                              rotate_left
                              · simp only [Act.put, List.setIfInBounds_toArray, List.set_cons_zero, List.set_cons_succ, i64_w, i32_w]
                                rfl
                              refine pure_ (i := 21) (N := some 136) (v := ?_) (a' := ?_) #[true, true, true, true, true, true, true, true, true, true, true, true, true, true, true, true, true, true, true, true, false, true, false, false] rfl rfl (any_of HT_.out (by kernel_rfl)) (fun _ _ _ h => h) (Or.inl ⟨by rfl, ?_⟩) ?_ ?_
                              rotate_left
                              · intro w'
                                go_simp
                                with_reducible rfl
                              rotate_left
                              · simp only [Act.put, List.setIfInBounds_toArray, List.set_cons_zero, List.set_cons_succ, i64_w, i32_w]
                                rfl
                              refine one_ (i := 20) (N := some 135) #[true, true, true, true, true, true, true, true, true, true, true, true, true, true, true, true, true, true, true, true, true, true, false, false] rfl rfl (one_of HT_.out (by kernel_rfl)) (by decide) (fun K hK => ?_)
                              refine goes_ Try.func12 (by kernel_rfl) rfl #[.slice A36 y195.length c36] (by rfl) rfl rfl (by (try simp only [List.map_toArray, List.map_cons, List.map_nil]); first | done | rfl | (simp only [List.length_drop, List.length_take]; rfl)) ?_
                              with_reducible refine (choose_All.calls k2 _ _ y195 t199 _ ?side1 ?side2 A30.out).mono ?_
                              (case side1 => repeat (first | exact (by repeat (first | (with_reducible exact HR198.out) | (with_reducible refine Kd.C_alloc ?_ _) | (with_reducible refine Kd.C_drewN ?_ _) | (with_reducible refine Kd.C_drew ?_) | exact HR198.out)) | (with_reducible refine Kd.C_alloc ?_ _) | (with_reducible refine Kd.C_drewN ?_ _) | (with_reducible refine Kd.C_drew ?_)))
                              (case side2 => exact HC198.out)
                              rintro e w37 ⟨rfl, hb⟩
                              have HS0_ := (hb.cell (World.block_lt_of_cell? _ _ (hHeld.1))).trans (hHeld.1)
                              have HS1_ := (hb.cell (World.block_lt_of_cell? _ _ (hHeld.2.1))).trans (hHeld.2.1)
                              have HS2_ := (hb.cell (World.block_lt_of_cell? _ _ (hHeld.2.2.1))).trans (hHeld.2.2.1)
                              have HS3_ := (hb.cell (World.block_lt_of_cell? _ _ (hHeld.2.2.2.1))).trans (hHeld.2.2.2.1)
                              have HS4_ := (hb.cell (World.block_lt_of_cell? _ _ (hHeld.2.2.2.2.1))).trans (hHeld.2.2.2.2.1)
                              have HS5_ := (hb.cell (World.block_lt_of_cell? _ _ (hHeld.2.2.2.2.2.1))).trans (hHeld.2.2.2.2.2.1)
                              have HS6_ := (hb.cell (World.block_lt_of_cell? _ _ (hHeld.2.2.2.2.2.2.1))).trans (hHeld.2.2.2.2.2.2.1)
                              have HS7_ := (hb.cell (World.block_lt_of_cell? _ _ (hHeld.2.2.2.2.2.2.2.1))).trans (hHeld.2.2.2.2.2.2.2.1)
                              have HS8_ := (hb.cell (World.block_lt_of_cell? _ _ (hHeld.2.2.2.2.2.2.2.2.1))).trans (hHeld.2.2.2.2.2.2.2.2.1)
                              have HS9_ := (hb.cell (World.block_lt_of_cell? _ _ (hHeld.2.2.2.2.2.2.2.2.2))).trans (hHeld.2.2.2.2.2.2.2.2.2)
                              refine ⟨_, rfl, ?_⟩
                              have n0_ := Aside0.mk (Kd.R_below (by (with_reducible repeat (first | apply Kd.R_alloc | apply Kd.R_drewN | apply Kd.R_drew)); exact HO_7.out) hb)
                              have n1_ := Aside0.mk (Kd.C_below (by repeat (first | (with_reducible exact HR198.out) | (with_reducible refine Kd.C_alloc ?_ _) | (with_reducible refine Kd.C_drewN ?_ _) | (with_reducible refine Kd.C_drew ?_) | exact HR198.out)) hb)
                              have n2_ := Aside0.mk (below_step (by repeat (first | (with_reducible first | exact HB.out | apply below_alloc | apply pw_below_drewN | apply below_drew1) | exact HB.out)) hb)
                              clear HO_7
                              clear HR198
                              clear HB
                              have HO_7 := n0_
                              have HR198 := n1_
                              have HB := n2_
                              clear n0_ n1_ n2_
                              (try clear hb)
                              (try clear hb2)
                              (try clear hk)
                              (try clear hi)
                              refine hK.out _ _ ⟨HS0_, HS1_, HS2_, HS3_, HS4_, HS5_, HS6_, HS7_, HS8_, HS9_⟩ (fun hHeld => ?_)
                              clear hK K
                              refine norm_ (a' := ?_) ?_ ?_
                              rotate_left
                              · show Act.put _ (some 135) _ = _
                                simp only [Act.put, List.setIfInBounds_toArray, List.set_cons_zero, List.set_cons_succ, i64_w, i32_w]
                                rfl
                              refine pure_ (i := 22) (N := some 137) (v := ?_) (a' := ?_) #[true, true, true, true, true, true, true, true, true, true, true, true, true, true, true, true, true, true, true, true, true, true, true, false] rfl rfl (any_of HT_.out (by kernel_rfl)) (fun _ _ _ h => h) (Or.inl ⟨by rfl, ?_⟩) ?_ ?_
                              rotate_left
                              · intro w'
                                go_simp
                                with_reducible rfl
                              rotate_left
                              · simp only [Act.put, List.setIfInBounds_toArray, List.set_cons_zero, List.set_cons_succ, i64_w, i32_w]
                                rfl
                              refine pure_ (i := 23) (N := some 138) (v := ?_) (a' := ?_) #[true, true, true, true, true, true, true, true, true, true, true, true, true, true, true, true, true, true, true, true, true, true, true, true] rfl rfl (any_of HT_.out (by kernel_rfl)) (fun _ _ _ h => h) (Or.inl ⟨by rfl, ?_⟩) ?_ ?_
                              rotate_left
                              · intro w'
                                go_simp
                                with_reducible rfl
                              rotate_left
                              · simp only [Act.put, List.setIfInBounds_toArray, List.set_cons_zero, List.set_cons_succ, i64_w, i32_w]
                                rfl
                              refine done_ (done_of HT_.out (by kernel_rfl)) ?_
                              try go_wp2
                              (try simp only [← hl7_2])
                              go_roundg k2
                              case measure => have := HK1.out; have := HK2.out; omega
                              case rel => exact ⟨(y192), (wrap64 (x9_2 + 1)), (by first | rfl | (simp; done) | (simp [*]; done)), (by first | exact H' | (simp only [hji25]; exact H')), ⟨by have := HK1.out; have := HK2.out; omega⟩, ⟨by (try simp only [hl7_2]); (with_reducible repeat (first | apply Kd.R_alloc | apply Kd.R_drewN | apply Kd.R_drew)); exact HO_7.out⟩, ⟨by repeat (first | (with_reducible first | exact HB.out | apply below_alloc | apply pw_below_drewN | apply below_drew1) | exact HB.out)⟩⟩
                          · rw [if_neg c29] at H
                            exact absurd H (by simp)
                        · rw [if_neg c28] at H
                          exact absurd H (by simp)
                    · rw [if_neg c23] at H
                      exact absurd H (by simp)
                  · rw [if_neg c22] at H
                    exact absurd H (by simp)
                · replace c21 := Bool.eq_false_iff.mpr c21
                  subst c21
                  have H1 : (hostlerlaw17_ChooseWarm.l2 k2 (wrap64 (Int.tmod (IntKind.u64.wrap (a1)) 9)) (wrap64 (Int.tmod (IntKind.u64.wrap (a2)) 9)) x7_2 0) = some r := by rw [if_neg (show ¬ (false = true) by decide)] at H; exact H
                  clear H
                  have H := H1
                  clear H1
                  have H' := Aside0.mk H
                  clear H
                  go_wp2_with (first | ((with_reducible refine gate_callee (f := 13) rfl ?_); refine goesL_ (some 53) rfl rfl Try.func13 (by kernel_rfl) rfl #[.slice Ao18 x7_2.length co18, .int .i64 (wrap64 (Int.tmod (IntKind.u64.wrap (a1)) 9)), .int .i64 (wrap64 (Int.tmod (IntKind.u64.wrap (a2)) 9))] rfl (by (try simp only [List.map_toArray, List.map_cons, List.map_nil]); first | done | rfl | (simp only [List.length_drop, List.length_take]; rfl)) ?_; (with_reducible refine (choose_Warm.calls k2 _ _ x7_2 (wrap64 (Int.tmod (IntKind.u64.wrap (a1)) 9)) (wrap64 (Int.tmod (IntKind.u64.wrap (a2)) 9)) t189 false _ ?side1 ?side2 A20.out).mono ?_); (case side1 => repeat (first | exact (Kd.R_reads' HO_7.out).2.2 | (with_reducible refine Kd.C_alloc ?_ _) | (with_reducible refine Kd.C_drewN ?_ _) | (with_reducible refine Kd.C_drew ?_))); (case side2 => exact (Kd.R_reads' HO_7.out).2.1); rintro e w38 ⟨rfl, hb⟩; refine ⟨_, rfl, ?_⟩; have n0_ := Aside0.mk (Kd.R_below (by (with_reducible repeat (first | apply Kd.R_alloc | apply Kd.R_drewN | apply Kd.R_drew)); exact HO_7.out) hb); have n1_ := Aside0.mk (below_step (by repeat (first | (with_reducible first | exact HB.out | apply below_alloc | apply pw_below_drewN | apply below_drew1) | exact HB.out)) hb); clear HO_7; clear HB; have HO_7 := n0_; have HB := n1_; clear n0_ n1_; (try clear hb); (try clear hb2); (try clear hk); (try clear hi)))
                  go_loopg [12] k2 (fun kq v12 w' => ∃ (x12_3 : Int), v12 = .int .i64 x12_3 ∧ Aside0 (hostlerlaw17_ChooseWarm.l2 kq (wrap64 (Int.tmod (IntKind.u64.wrap (a1)) 9)) (wrap64 (Int.tmod (IntKind.u64.wrap (a2)) 9)) x7_2 x12_3 = some r) ∧ Aside0 (kq ≤ k2) ∧ Aside0 (Kd.R k32 32 w' w.heap.size (fun _ => True) (.slice Ao18 x7_2.length co18) x7_2) ∧ Aside0 (Below w.heap.size w w'))
                  case atStart => exact ⟨(0), (by first | rfl | (simp; done) | (simp [*]; done)), H', ⟨Nat.le_refl _⟩, ⟨by (try simp only [hl7_2]); (with_reducible repeat (first | apply Kd.R_alloc | apply Kd.R_drewN | apply Kd.R_drew)); exact HO_7.out⟩, ⟨by repeat (first | (with_reducible first | exact HB.out | apply below_alloc | apply pw_below_drewN | apply below_drew1) | exact HB.out)⟩⟩
                  case round =>
                    clear H'
                    try clear c1
                    try clear p1
                    try clear q1
                    try clear hx1
                    try clear c2
                    try clear p2
                    try clear q2
                    try clear hx2
                    try clear c3
                    try clear q3
                    try clear hx3
                    try clear hf3
                    try clear c5
                    try clear c6
                    try clear p6
                    try clear c7
                    try clear c8
                    try clear c9
                    try clear c12
                    try clear c12b0
                    try clear c13
                    try clear c13b0
                    try clear c14
                    try clear p14
                    try clear q14
                    try clear hx14
                    try clear hf14
                    try clear c16
                    try clear hx16
                    try clear hf16
                    try clear p18
                    try clear q18
                    try clear hx18
                    try clear c19
                    try clear c19b0
                    try clear p19
                    try clear q19
                    try clear hx19
                    try clear c21
                    try clear c22
                    try clear c22b0
                    try clear c23
                    try clear c23b0
                    try clear c24
                    try clear p24
                    try clear q24
                    try clear hx24
                    try clear hf24
                    try clear c26
                    try clear c26b0
                    try clear c27
                    try clear c27b0
                    try clear c28
                    try clear c28b0
                    try clear c28b1
                    try clear c29
                    try clear c29b0
                    try clear c29b1
                    try clear c31
                    try clear c31b0
                    try clear c33
                    try clear hx33
                    try clear hf33
                    try clear c36
                    try clear q36
                    try clear hx14_0
                    try clear hx14_1
                    try clear hx14_2
                    try clear hx14_3
                    try clear hx14_4
                    try clear hx16_1
                    try clear hx187_0
                    try clear hx187_1
                    try clear hx187_2
                    try clear hx187_3
                    try clear hx187_4
                    try clear hx191_0
                    try clear hx191_1
                    try clear hx191_2
                    try clear hx191_3
                    try clear hx191_4
                    try clear hx193_0
                    try clear hx193_1
                    try clear hx193_2
                    try clear hx193_3
                    try clear hx193_4
                    try clear hx194_0
                    try clear hx194_1
                    try clear hx194_2
                    try clear hx194_3
                    try clear hx194_4
                    try clear hx24_0
                    try clear hx24_1
                    try clear hx24_2
                    try clear hx24_3
                    try clear hx24_4
                    try clear hx33_1
                    try clear p1
                    try clear p14
                    try clear p18
                    try clear p187
                    try clear p191
                    try clear p193
                    try clear p194
                    try clear p2
                    try clear p24
                    try clear p6
                    try clear q036
                    try clear q1
                    try clear q14
                    try clear q18
                    try clear q187
                    try clear q191
                    try clear q193
                    try clear q194
                    try clear q24
                    try clear q36
                    obtain ⟨x12_3, rfl, HA, HK3, HO_7, HB⟩ := hrel
                    cases gk with
                    | zero => exact absurd HA.out (by simp [hostlerlaw17_ChooseWarm.l2])
                    | succ k3 =>
                      have H := HA.out
                      clear HA
                      simp only [hostlerlaw17_ChooseWarm.l2] at H
                      by_cases c39 : x12_3 < (x7_2.length : Int)
                      · rw [if_pos c39] at H
                        have c39b0 : decide (x12_3 < (x7_2.length : Int)) = true := decide_eq_true c39
                        clear c39
                        by_cases c40 : 0 ≤ x12_3
                        · rw [if_pos c40] at H
                          have c40b0 : decide (0 ≤ x12_3) = true := decide_eq_true c40
                          clear c40
                          obtain ⟨ji41, hji41⟩ : ∃ j_ : Int, (mx ((rd_T32 x7_2 x12_3).f1) 0) = j_ := ⟨_, rfl⟩
                          replace H : (if ((rd_T32 x7_2 x12_3).f0) = 0 then (if (rd_T32 x7_2 x12_3).f4 = true then (if (wrap64 ((ji41) + (mx ((rd_T32 x7_2 x12_3).f2) 0))) < (wrap64 (Int.tmod (IntKind.u64.wrap (a2)) 9)) then (if (wrap64 ((wrap64 ((ji41) + (mx ((rd_T32 x7_2 x12_3).f2) 0))) + (mx ((rd_T32 x7_2 x12_3).f3) 0))) < (wrap64 (Int.tmod (IntKind.u64.wrap (a1)) 9)) then (none) else (hostlerlaw17_ChooseWarm.l2 k3 (wrap64 (Int.tmod (IntKind.u64.wrap (a1)) 9)) (wrap64 (Int.tmod (IntKind.u64.wrap (a2)) 9)) x7_2 (wrap64 (x12_3 + 1)))) else (hostlerlaw17_ChooseWarm.l2 k3 (wrap64 (Int.tmod (IntKind.u64.wrap (a1)) 9)) (wrap64 (Int.tmod (IntKind.u64.wrap (a2)) 9)) x7_2 (wrap64 (x12_3 + 1)))) else (hostlerlaw17_ChooseWarm.l2 k3 (wrap64 (Int.tmod (IntKind.u64.wrap (a1)) 9)) (wrap64 (Int.tmod (IntKind.u64.wrap (a2)) 9)) x7_2 (wrap64 (x12_3 + 1)))) else (hostlerlaw17_ChooseWarm.l2 k3 (wrap64 (Int.tmod (IntKind.u64.wrap (a1)) 9)) (wrap64 (Int.tmod (IntKind.u64.wrap (a2)) 9)) x7_2 (wrap64 (x12_3 + 1)))) = some r := by first | (rw [hji41] at H; exact H) | (simp only [hji41] at H ⊢; exact H)
                          have hji41_ : (if ((rd_T32 x7_2 x12_3).f1) < 0 then 0 else ((rd_T32 x7_2 x12_3).f1)) = ji41 := hji41
                          obtain ⟨ji42, hji42⟩ : ∃ j_ : Int, (mx ((rd_T32 x7_2 x12_3).f2) 0) = j_ := ⟨_, rfl⟩
                          replace H : (if ((rd_T32 x7_2 x12_3).f0) = 0 then (if (rd_T32 x7_2 x12_3).f4 = true then (if (wrap64 ((ji41) + (ji42))) < (wrap64 (Int.tmod (IntKind.u64.wrap (a2)) 9)) then (if (wrap64 ((wrap64 ((ji41) + (ji42))) + (mx ((rd_T32 x7_2 x12_3).f3) 0))) < (wrap64 (Int.tmod (IntKind.u64.wrap (a1)) 9)) then (none) else (hostlerlaw17_ChooseWarm.l2 k3 (wrap64 (Int.tmod (IntKind.u64.wrap (a1)) 9)) (wrap64 (Int.tmod (IntKind.u64.wrap (a2)) 9)) x7_2 (wrap64 (x12_3 + 1)))) else (hostlerlaw17_ChooseWarm.l2 k3 (wrap64 (Int.tmod (IntKind.u64.wrap (a1)) 9)) (wrap64 (Int.tmod (IntKind.u64.wrap (a2)) 9)) x7_2 (wrap64 (x12_3 + 1)))) else (hostlerlaw17_ChooseWarm.l2 k3 (wrap64 (Int.tmod (IntKind.u64.wrap (a1)) 9)) (wrap64 (Int.tmod (IntKind.u64.wrap (a2)) 9)) x7_2 (wrap64 (x12_3 + 1)))) else (hostlerlaw17_ChooseWarm.l2 k3 (wrap64 (Int.tmod (IntKind.u64.wrap (a1)) 9)) (wrap64 (Int.tmod (IntKind.u64.wrap (a2)) 9)) x7_2 (wrap64 (x12_3 + 1)))) = some r := by first | (rw [hji42] at H; exact H) | (simp only [hji42] at H ⊢; exact H)
                          have hji42_ : (if ((rd_T32 x7_2 x12_3).f2) < 0 then 0 else ((rd_T32 x7_2 x12_3).f2)) = ji42 := hji42
                          by_cases c43 : ((rd_T32 x7_2 x12_3).f0) = 0
                          · rw [if_pos c43] at H
                            have c43b0 : (((rd_T32 x7_2 x12_3).f0) == 0) = true := beq_iff_eq.mpr c43
                            have c43b1 : (((rd_T32 x7_2 x12_3).f0) != 0) = false := bne_eq_false_iff_eq.mpr c43
                            clear c43
                            obtain ⟨bq44, hbq44⟩ : ∃ b_ : Bool, b_ = ((rd_T32 x7_2 x12_3).f4) := ⟨_, rfl⟩
                            replace H : (if bq44 = true then (if (wrap64 ((ji41) + (ji42))) < (wrap64 (Int.tmod (IntKind.u64.wrap (a2)) 9)) then (if (wrap64 ((wrap64 ((ji41) + (ji42))) + (mx ((rd_T32 x7_2 x12_3).f3) 0))) < (wrap64 (Int.tmod (IntKind.u64.wrap (a1)) 9)) then (none) else (hostlerlaw17_ChooseWarm.l2 k3 (wrap64 (Int.tmod (IntKind.u64.wrap (a1)) 9)) (wrap64 (Int.tmod (IntKind.u64.wrap (a2)) 9)) x7_2 (wrap64 (x12_3 + 1)))) else (hostlerlaw17_ChooseWarm.l2 k3 (wrap64 (Int.tmod (IntKind.u64.wrap (a1)) 9)) (wrap64 (Int.tmod (IntKind.u64.wrap (a2)) 9)) x7_2 (wrap64 (x12_3 + 1)))) else (hostlerlaw17_ChooseWarm.l2 k3 (wrap64 (Int.tmod (IntKind.u64.wrap (a1)) 9)) (wrap64 (Int.tmod (IntKind.u64.wrap (a2)) 9)) x7_2 (wrap64 (x12_3 + 1)))) = some r := by rw [← hbq44] at H; exact H
                            have Nbq44 := Aside0.mk hbq44
                            clear hbq44
                            by_cases c45 : bq44 = true
                            · subst c45
                              have H1 : (if (wrap64 ((ji41) + (ji42))) < (wrap64 (Int.tmod (IntKind.u64.wrap (a2)) 9)) then (if (wrap64 ((wrap64 ((ji41) + (ji42))) + (mx ((rd_T32 x7_2 x12_3).f3) 0))) < (wrap64 (Int.tmod (IntKind.u64.wrap (a1)) 9)) then (none) else (hostlerlaw17_ChooseWarm.l2 k3 (wrap64 (Int.tmod (IntKind.u64.wrap (a1)) 9)) (wrap64 (Int.tmod (IntKind.u64.wrap (a2)) 9)) x7_2 (wrap64 (x12_3 + 1)))) else (hostlerlaw17_ChooseWarm.l2 k3 (wrap64 (Int.tmod (IntKind.u64.wrap (a1)) 9)) (wrap64 (Int.tmod (IntKind.u64.wrap (a2)) 9)) x7_2 (wrap64 (x12_3 + 1)))) = some r := by rw [if_pos rfl] at H; exact H
                              clear H
                              have H := H1
                              clear H1
                              by_cases c46 : (wrap64 ((ji41) + (ji42))) < (wrap64 (Int.tmod (IntKind.u64.wrap (a2)) 9))
                              · rw [if_pos c46] at H
                                have c46b0 : decide ((wrap64 ((ji41) + (ji42))) < (wrap64 (Int.tmod (IntKind.u64.wrap (a2)) 9))) = true := decide_eq_true c46
                                clear c46
                                obtain ⟨ji47, hji47⟩ : ∃ j_ : Int, (mx ((rd_T32 x7_2 x12_3).f3) 0) = j_ := ⟨_, rfl⟩
                                replace H : (if (wrap64 ((wrap64 ((ji41) + (ji42))) + (ji47))) < (wrap64 (Int.tmod (IntKind.u64.wrap (a1)) 9)) then (none) else (hostlerlaw17_ChooseWarm.l2 k3 (wrap64 (Int.tmod (IntKind.u64.wrap (a1)) 9)) (wrap64 (Int.tmod (IntKind.u64.wrap (a2)) 9)) x7_2 (wrap64 (x12_3 + 1)))) = some r := by first | (rw [hji47] at H; exact H) | (simp only [hji47] at H ⊢; exact H)
                                have hji47_ : (if ((rd_T32 x7_2 x12_3).f3) < 0 then 0 else ((rd_T32 x7_2 x12_3).f3)) = ji47 := hji47
                                by_cases c48 : (wrap64 ((wrap64 ((ji41) + (ji42))) + (ji47))) < (wrap64 (Int.tmod (IntKind.u64.wrap (a1)) 9))
                                · rw [if_pos c48] at H
                                  exact absurd H (by simp)
                                · rw [if_neg c48] at H
                                  have c48b0 : decide ((wrap64 ((wrap64 ((ji41) + (ji42))) + (ji47))) < (wrap64 (Int.tmod (IntKind.u64.wrap (a1)) 9))) = false := decide_eq_false c48
                                  clear c48
                                  have H' := Aside0.mk H
                                  clear H
                                  try go_wp2
                                  have n0_ := Aside0.mk (Kd.R_drew HO_7.out)
                                  have n1_ := Aside0.mk (below_drew1 HB.out)
                                  clear HO_7
                                  clear HB
                                  have HO_7 := n0_
                                  have HB := n1_
                                  clear n0_ n1_
                                  have p200 : 0 ≤ (x12_3 : Int) := of_decide_eq_true (by first | (with_reducible assumption) | assumption)
                                  have q200 : x12_3 < (x7_2.length : Int) := of_decide_eq_true (by first | (with_reducible assumption) | assumption)
                                  obtain ⟨ad200, e200, hx200_0, hx200_1, hx200_2, hx200_3, hx200_4⟩ := at_T32 (Kd.R_reads' HO_7.out).2.2 x12_3 p200 q200
                                  (try rw [← Nbq44.out] at hx200_4)
                                  (try rw [← Nbq44.out] at hw200_4)
                                  cases e200
                                  replace p200 := eq_true p200
                                  replace q200 := eq_true q200
                                  have p201 : 0 ≤ (x12_3 : Int) := of_decide_eq_true (by first | (with_reducible assumption) | assumption)
                                  have q201 : x12_3 < (x7_2.length : Int) := of_decide_eq_true (by first | (with_reducible assumption) | assumption)
                                  obtain ⟨ad201, e201, hx201_0, hx201_1, hx201_2, hx201_3, hx201_4⟩ := at_T32 (Kd.R_reads' HO_7.out).2.2 x12_3 p201 q201
                                  (try rw [← Nbq44.out] at hx201_4)
                                  (try rw [← Nbq44.out] at hw201_4)
                                  obtain rfl : ad200 = ad201 := (by injection e201)
                                  replace p201 := eq_true p201
                                  replace q201 := eq_true q201
                                  refine start_ (n := 14) (S := fun w' => w'.cell? (ad200.add ((x12_3).toNat * 5)) = some (.int .i64 ((rd_T32 x7_2 x12_3).f0)) ∧ w'.cell? ⟨(ad200.add ((x12_3).toNat * 5)).block, (ad200.add ((x12_3).toNat * 5)).off + 1, none⟩ = some (.int .i64 ((rd_T32 x7_2 x12_3).f1)) ∧ w'.cell? ⟨(ad200.add ((x12_3).toNat * 5)).block, (ad200.add ((x12_3).toNat * 5)).off + 2, none⟩ = some (.int .i64 ((rd_T32 x7_2 x12_3).f2)) ∧ w'.cell? ⟨(ad200.add ((x12_3).toNat * 5)).block, (ad200.add ((x12_3).toNat * 5)).off + 3, none⟩ = some (.int .i64 ((rd_T32 x7_2 x12_3).f3)) ∧ w'.cell? ⟨(ad200.add ((x12_3).toNat * 5)).block, (ad200.add ((x12_3).toNat * 5)).off + 4, none⟩ = some (.bool true) ∧ w'.cell? (ad200.add ((x12_3).toNat * 5)) = some (.int .i64 ((rd_T32 x7_2 x12_3).f0)) ∧ w'.cell? ⟨(ad200.add ((x12_3).toNat * 5)).block, (ad200.add ((x12_3).toNat * 5)).off + 1, none⟩ = some (.int .i64 ((rd_T32 x7_2 x12_3).f1)) ∧ w'.cell? ⟨(ad200.add ((x12_3).toNat * 5)).block, (ad200.add ((x12_3).toNat * 5)).off + 2, none⟩ = some (.int .i64 ((rd_T32 x7_2 x12_3).f2)) ∧ w'.cell? ⟨(ad200.add ((x12_3).toNat * 5)).block, (ad200.add ((x12_3).toNat * 5)).off + 3, none⟩ = some (.int .i64 ((rd_T32 x7_2 x12_3).f3)) ∧ w'.cell? ⟨(ad200.add ((x12_3).toNat * 5)).block, (ad200.add ((x12_3).toNat * 5)).off + 4, none⟩ = some (.bool true)) (ds := []) #[false, false, false, false, false, false, false, false, false, false, false, false, false, false] (by kernel_rfl) rfl rfl ⟨hx200_0, hx200_1, hx200_2, hx200_3, hx200_4, hx201_0, hx201_1, hx201_2, hx201_3, hx201_4⟩ (fun hHeld => ?_); refine with_tabW hostlerlaw17_ChooseWarm.tab18 hostlerlaw17_ChooseWarm.bits18 (fun HT_ HW_ => ?_)
                                  generalize wr.drew = w49 at HO_7 HB hx200_0 hx200_1 hx200_2 hx200_3 hx200_4 hx201_0 hx201_1 hx201_2 hx201_3 hx201_4 hHeld ⊢
                                  refine pure_ (i := 0) (N := some 64) (v := ?_) (a' := ?_) #[true, false, false, false, false, false, false, false, false, false, false, false, false, false] rfl rfl (any_of HT_.out (by kernel_rfl)) (fun _ _ _ h => h) (Or.inl ⟨by rfl, ?_⟩) ?_ ?_
                                  rotate_left
                                  · intro w'
                                    go_simp
                                    with_reducible rfl
                                  rotate_left
                                  · simp only [Act.put, List.setIfInBounds_toArray, List.set_cons_zero, List.set_cons_succ, i64_w, i32_w]
                                    rfl
                                  refine pure_ (i := 1) (N := some 65) (v := ?_) (a' := ?_) #[true, true, false, false, false, false, false, false, false, false, false, false, false, false] rfl rfl (any_of HT_.out (by kernel_rfl)) (fun _ _ _ h => h) (Or.inl ⟨by rfl, ?_⟩) ?_ ?_
                                  rotate_left
                                  · intro w'
                                    go_simp
                                    with_reducible rfl
                                  rotate_left
                                  · simp only [Act.put, List.setIfInBounds_toArray, List.set_cons_zero, List.set_cons_succ, i64_w, i32_w]
                                    rfl
                                  refine pure_ (i := 2) (N := some 66) (v := ?_) (a' := ?_) #[true, true, true, false, false, false, false, false, false, false, false, false, false, false] rfl rfl (any_of HT_.out (by kernel_rfl)) (fun _ _ _ h => h) (Or.inl ⟨by rfl, ?_⟩) ?_ ?_
                                  rotate_left
                                  · intro w'
                                    go_simp
                                    with_reducible rfl
                                  rotate_left
                                  · simp only [Act.put, List.setIfInBounds_toArray, List.set_cons_zero, List.set_cons_succ, i64_w, i32_w]
                                    rfl
                                  refine pure_ (i := 3) (N := some 67) (v := ?_) (a' := ?_) #[true, true, true, true, false, false, false, false, false, false, false, false, false, false] rfl rfl (any_of HT_.out (by kernel_rfl)) (fun _ _ _ h => h) (Or.inl ⟨by rfl, ?_⟩) ?_ ?_
                                  rotate_left
                                  · intro w'
                                    go_simp
                                    with_reducible rfl
                                  rotate_left
                                  · simp only [Act.put, List.setIfInBounds_toArray, List.set_cons_zero, List.set_cons_succ, i64_w, i32_w]
                                    rfl
                                  refine pure_ (i := 6) (N := some 70) (v := ?_) (a' := ?_) #[true, true, true, true, false, false, true, false, false, false, false, false, false, false] rfl rfl (any_of HT_.out (by kernel_rfl)) (fun _ _ _ h => h) (Or.inl ⟨by rfl, ?_⟩) ?_ ?_
                                  rotate_left
                                  · intro w'
                                    go_simp
                                    with_reducible rfl
                                  rotate_left
                                  · simp only [Act.put, List.setIfInBounds_toArray, List.set_cons_zero, List.set_cons_succ, i64_w, i32_w]
                                    rfl
                                  refine pure_ (i := 7) (N := some 71) (v := ?_) (a' := ?_) #[true, true, true, true, false, false, true, true, false, false, false, false, false, false] rfl rfl (any_of HT_.out (by kernel_rfl)) (fun _ _ _ h => h) (Or.inl ⟨by rfl, ?_⟩) ?_ ?_
                                  rotate_left
                                  · intro w'
                                    go_simp
                                    with_reducible rfl
                                  rotate_left
                                  · simp only [Act.put, List.setIfInBounds_toArray, List.set_cons_zero, List.set_cons_succ, i64_w, i32_w]
                                    rfl
                                  refine pure_ (i := 8) (N := some 72) (v := ?_) (a' := ?_) #[true, true, true, true, false, false, true, true, true, false, false, false, false, false] rfl rfl (any_of HT_.out (by kernel_rfl)) (fun _ _ _ h => h) (Or.inl ⟨by rfl, ?_⟩) ?_ ?_
                                  rotate_left
                                  · intro w'
                                    go_simp
                                    with_reducible rfl
                                  rotate_left
                                  · simp only [Act.put, List.setIfInBounds_toArray, List.set_cons_zero, List.set_cons_succ, i64_w, i32_w]
                                    rfl
                                  refine pure_ (i := 9) (N := some 73) (v := ?_) (a' := ?_) #[true, true, true, true, false, false, true, true, true, true, false, false, false, false] rfl rfl (any_of HT_.out (by kernel_rfl)) (fun _ _ _ h => h) (Or.inl ⟨by rfl, ?_⟩) ?_ ?_
                                  rotate_left
                                  · intro w'
                                    go_simp
                                    with_reducible rfl
                                  rotate_left
                                  · simp only [Act.put, List.setIfInBounds_toArray, List.set_cons_zero, List.set_cons_succ, i64_w, i32_w]
                                    rfl
                                  refine take_ (i := 4) (N := some 68) (v := ?_) (a' := ?_) #[true, true, true, true, true, false, true, true, true, true, false, false, false, false] rfl rfl (take_ofW HT_.out HW_.out (by kernel_rfl)) (fun _ _ _ h => h) (Or.inl ⟨by rfl, ?_⟩) hHeld ?_ ?_
                                  rotate_left
                                  · rintro w' ⟨s0, s1, s2, s3, s4, s5, s6, s7, s8, s9⟩
                                    go_simp
                                    with_reducible rfl
                                  rotate_left
                                  · simp only [Act.put, List.setIfInBounds_toArray, List.set_cons_zero, List.set_cons_succ, i64_w, i32_w]
                                    rfl
                                  refine pure_ (i := 5) (N := some 69) (v := ?_) (a' := ?_) #[true, true, true, true, true, true, true, true, true, true, false, false, false, false] rfl rfl (any_of HT_.out (by kernel_rfl)) (fun _ _ _ h => h) (Or.inl ⟨by rfl, ?_⟩) ?_ ?_
                                  rotate_left
                                  · intro w'
                                    go_simp
                                    with_reducible rfl
                                  rotate_left
                                  · simp only [Act.put, List.setIfInBounds_toArray, List.set_cons_zero, List.set_cons_succ, i64_w, i32_w]
                                    rfl
                                  refine take_ (i := 10) (N := some 74) (v := ?_) (a' := ?_) #[true, true, true, true, true, true, true, true, true, true, true, false, false, false] rfl rfl (take_ofW HT_.out HW_.out (by kernel_rfl)) (fun _ _ _ h => h) (Or.inl ⟨by rfl, ?_⟩) hHeld ?_ ?_
                                  rotate_left
                                  · rintro w' ⟨s0, s1, s2, s3, s4, s5, s6, s7, s8, s9⟩
                                    go_simp
                                    with_reducible rfl
                                  rotate_left
                                  · simp only [Act.put, List.setIfInBounds_toArray, List.set_cons_zero, List.set_cons_succ, i64_w, i32_w]
                                    rfl
                                  refine pure_ (i := 11) (N := some 75) (v := ?_) (a' := ?_) #[true, true, true, true, true, true, true, true, true, true, true, true, false, false] rfl rfl (any_of HT_.out (by kernel_rfl)) (fun _ _ _ h => h) (Or.inl ⟨by rfl, ?_⟩) ?_ ?_
                                  rotate_left
                                  · intro w'
                                    go_simp
                                    with_reducible rfl
                                  rotate_left
                                  · simp only [Act.put, List.setIfInBounds_toArray, List.set_cons_zero, List.set_cons_succ, i64_w, i32_w]
                                    rfl
                                  refine pure_ (i := 12) (N := some 76) (v := ?_) (a' := ?_) #[true, true, true, true, true, true, true, true, true, true, true, true, true, false] rfl rfl (any_of HT_.out (by kernel_rfl)) (fun _ _ _ h => h) (Or.inl ⟨by rfl, ?_⟩) ?_ ?_
                                  rotate_left
                                  · intro w'
                                    go_simp
                                    with_reducible rfl
                                  rotate_left
                                  · simp only [Act.put, List.setIfInBounds_toArray, List.set_cons_zero, List.set_cons_succ, i64_w, i32_w]
                                    rfl
                                  refine pure_ (i := 13) (N := some 13) (v := ?_) (a' := ?_) #[true, true, true, true, true, true, true, true, true, true, true, true, true, true] rfl rfl (any_of HT_.out (by kernel_rfl)) (fun _ _ _ h => h) (Or.inl ⟨by rfl, ?_⟩) ?_ ?_
                                  rotate_left
                                  · intro w'
                                    go_simp
                                    with_reducible rfl
                                  rotate_left
                                  · simp only [Act.put, List.setIfInBounds_toArray, List.set_cons_zero, List.set_cons_succ, i64_w, i32_w]
                                    rfl
                                  refine done_ (done_of HT_.out (by kernel_rfl)) ?_
                                  have p202 : 0 ≤ (x12_3 : Int) := of_decide_eq_true (by first | (with_reducible assumption) | assumption)
                                  have q202 : x12_3 < (x7_2.length : Int) := of_decide_eq_true (by first | (with_reducible assumption) | assumption)
                                  obtain ⟨ad202, e202, hx202_0, hx202_1, hx202_2, hx202_3, hx202_4⟩ := at_T32 (Kd.R_reads' HO_7.out).2.2 x12_3 p202 q202
                                  (try rw [← Nbq44.out] at hx202_4)
                                  (try rw [← Nbq44.out] at hw202_4)
                                  obtain rfl : ad200 = ad202 := (by injection e202)
                                  replace p202 := eq_true p202
                                  replace q202 := eq_true q202
                                  have p203 : 0 ≤ (x12_3 : Int) := of_decide_eq_true (by first | (with_reducible assumption) | assumption)
                                  have q203 : x12_3 < (x7_2.length : Int) := of_decide_eq_true (by first | (with_reducible assumption) | assumption)
                                  obtain ⟨ad203, e203, hx203_0, hx203_1, hx203_2, hx203_3, hx203_4⟩ := at_T32 (Kd.R_reads' HO_7.out).2.2 x12_3 p203 q203
                                  (try rw [← Nbq44.out] at hx203_4)
                                  (try rw [← Nbq44.out] at hw203_4)
                                  obtain rfl : ad200 = ad203 := (by injection e203)
                                  replace p203 := eq_true p203
                                  replace q203 := eq_true q203
                                  have p204 : 0 ≤ (x12_3 : Int) := of_decide_eq_true (by first | (with_reducible assumption) | assumption)
                                  have q204 : x12_3 < (x7_2.length : Int) := of_decide_eq_true (by first | (with_reducible assumption) | assumption)
                                  obtain ⟨ad204, e204, hx204_0, hx204_1, hx204_2, hx204_3, hx204_4⟩ := at_T32 (Kd.R_reads' HO_7.out).2.2 x12_3 p204 q204
                                  (try rw [← Nbq44.out] at hx204_4)
                                  (try rw [← Nbq44.out] at hw204_4)
                                  obtain rfl : ad200 = ad204 := (by injection e204)
                                  replace p204 := eq_true p204
                                  replace q204 := eq_true q204
                                  try go_wp2
                                  go_roundg k3
                                  case measure => have := HK1.out; have := HK2.out; have := HK3.out; omega
                                  case rel => exact ⟨(wrap64 (x12_3 + 1)), (by first | rfl | (simp; done) | (simp [*]; done)), (by first | exact H' | (simp only [hji41, hji42, hji47]; exact H')), ⟨by have := HK1.out; have := HK2.out; have := HK3.out; omega⟩, ⟨by (try simp only [hl7_2]); (with_reducible repeat (first | apply Kd.R_alloc | apply Kd.R_drewN | apply Kd.R_drew)); exact HO_7.out⟩, ⟨by repeat (first | (with_reducible first | exact HB.out | apply below_alloc | apply pw_below_drewN | apply below_drew1) | exact HB.out)⟩⟩
                              · rw [if_neg c46] at H
                                have c46b0 : decide ((wrap64 ((ji41) + (ji42))) < (wrap64 (Int.tmod (IntKind.u64.wrap (a2)) 9))) = false := decide_eq_false c46
                                clear c46
                                have H' := Aside0.mk H
                                clear H
                                try go_wp2
                                have n0_ := Aside0.mk (Kd.R_drew HO_7.out)
                                have n1_ := Aside0.mk (below_drew1 HB.out)
                                clear HO_7
                                clear HB
                                have HO_7 := n0_
                                have HB := n1_
                                clear n0_ n1_
                                have p200 : 0 ≤ (x12_3 : Int) := of_decide_eq_true (by first | (with_reducible assumption) | assumption)
                                have q200 : x12_3 < (x7_2.length : Int) := of_decide_eq_true (by first | (with_reducible assumption) | assumption)
                                obtain ⟨ad200, e200, hx200_0, hx200_1, hx200_2, hx200_3, hx200_4⟩ := at_T32 (Kd.R_reads' HO_7.out).2.2 x12_3 p200 q200
                                (try rw [← Nbq44.out] at hx200_4)
                                (try rw [← Nbq44.out] at hw200_4)
                                cases e200
                                replace p200 := eq_true p200
                                replace q200 := eq_true q200
                                have p201 : 0 ≤ (x12_3 : Int) := of_decide_eq_true (by first | (with_reducible assumption) | assumption)
                                have q201 : x12_3 < (x7_2.length : Int) := of_decide_eq_true (by first | (with_reducible assumption) | assumption)
                                obtain ⟨ad201, e201, hx201_0, hx201_1, hx201_2, hx201_3, hx201_4⟩ := at_T32 (Kd.R_reads' HO_7.out).2.2 x12_3 p201 q201
                                (try rw [← Nbq44.out] at hx201_4)
                                (try rw [← Nbq44.out] at hw201_4)
                                obtain rfl : ad200 = ad201 := (by injection e201)
                                replace p201 := eq_true p201
                                replace q201 := eq_true q201
                                refine start_ (n := 14) (S := fun w' => w'.cell? (ad200.add ((x12_3).toNat * 5)) = some (.int .i64 ((rd_T32 x7_2 x12_3).f0)) ∧ w'.cell? ⟨(ad200.add ((x12_3).toNat * 5)).block, (ad200.add ((x12_3).toNat * 5)).off + 1, none⟩ = some (.int .i64 ((rd_T32 x7_2 x12_3).f1)) ∧ w'.cell? ⟨(ad200.add ((x12_3).toNat * 5)).block, (ad200.add ((x12_3).toNat * 5)).off + 2, none⟩ = some (.int .i64 ((rd_T32 x7_2 x12_3).f2)) ∧ w'.cell? ⟨(ad200.add ((x12_3).toNat * 5)).block, (ad200.add ((x12_3).toNat * 5)).off + 3, none⟩ = some (.int .i64 ((rd_T32 x7_2 x12_3).f3)) ∧ w'.cell? ⟨(ad200.add ((x12_3).toNat * 5)).block, (ad200.add ((x12_3).toNat * 5)).off + 4, none⟩ = some (.bool true) ∧ w'.cell? (ad200.add ((x12_3).toNat * 5)) = some (.int .i64 ((rd_T32 x7_2 x12_3).f0)) ∧ w'.cell? ⟨(ad200.add ((x12_3).toNat * 5)).block, (ad200.add ((x12_3).toNat * 5)).off + 1, none⟩ = some (.int .i64 ((rd_T32 x7_2 x12_3).f1)) ∧ w'.cell? ⟨(ad200.add ((x12_3).toNat * 5)).block, (ad200.add ((x12_3).toNat * 5)).off + 2, none⟩ = some (.int .i64 ((rd_T32 x7_2 x12_3).f2)) ∧ w'.cell? ⟨(ad200.add ((x12_3).toNat * 5)).block, (ad200.add ((x12_3).toNat * 5)).off + 3, none⟩ = some (.int .i64 ((rd_T32 x7_2 x12_3).f3)) ∧ w'.cell? ⟨(ad200.add ((x12_3).toNat * 5)).block, (ad200.add ((x12_3).toNat * 5)).off + 4, none⟩ = some (.bool true)) (ds := []) #[false, false, false, false, false, false, false, false, false, false, false, false, false, false] (by kernel_rfl) rfl rfl ⟨hx200_0, hx200_1, hx200_2, hx200_3, hx200_4, hx201_0, hx201_1, hx201_2, hx201_3, hx201_4⟩ (fun hHeld => ?_); refine with_tabW hostlerlaw17_ChooseWarm.tab18 hostlerlaw17_ChooseWarm.bits18 (fun HT_ HW_ => ?_)
                                generalize wr.drew = w50 at HO_7 HB hx200_0 hx200_1 hx200_2 hx200_3 hx200_4 hx201_0 hx201_1 hx201_2 hx201_3 hx201_4 hHeld ⊢
                                refine pure_ (i := 0) (N := some 64) (v := ?_) (a' := ?_) #[true, false, false, false, false, false, false, false, false, false, false, false, false, false] rfl rfl (any_of HT_.out (by kernel_rfl)) (fun _ _ _ h => h) (Or.inl ⟨by rfl, ?_⟩) ?_ ?_
                                rotate_left
                                · intro w'
                                  go_simp
                                  with_reducible rfl
                                rotate_left
                                · simp only [Act.put, List.setIfInBounds_toArray, List.set_cons_zero, List.set_cons_succ, i64_w, i32_w]
                                  rfl
                                refine pure_ (i := 1) (N := some 65) (v := ?_) (a' := ?_) #[true, true, false, false, false, false, false, false, false, false, false, false, false, false] rfl rfl (any_of HT_.out (by kernel_rfl)) (fun _ _ _ h => h) (Or.inl ⟨by rfl, ?_⟩) ?_ ?_
                                rotate_left
                                · intro w'
                                  go_simp
                                  with_reducible rfl
                                rotate_left
                                · simp only [Act.put, List.setIfInBounds_toArray, List.set_cons_zero, List.set_cons_succ, i64_w, i32_w]
                                  rfl
                                refine pure_ (i := 2) (N := some 66) (v := ?_) (a' := ?_) #[true, true, true, false, false, false, false, false, false, false, false, false, false, false] rfl rfl (any_of HT_.out (by kernel_rfl)) (fun _ _ _ h => h) (Or.inl ⟨by rfl, ?_⟩) ?_ ?_
                                rotate_left
                                · intro w'
                                  go_simp
                                  with_reducible rfl
                                rotate_left
                                · simp only [Act.put, List.setIfInBounds_toArray, List.set_cons_zero, List.set_cons_succ, i64_w, i32_w]
                                  rfl
                                refine pure_ (i := 3) (N := some 67) (v := ?_) (a' := ?_) #[true, true, true, true, false, false, false, false, false, false, false, false, false, false] rfl rfl (any_of HT_.out (by kernel_rfl)) (fun _ _ _ h => h) (Or.inl ⟨by rfl, ?_⟩) ?_ ?_
                                rotate_left
                                · intro w'
                                  go_simp
                                  with_reducible rfl
                                rotate_left
                                · simp only [Act.put, List.setIfInBounds_toArray, List.set_cons_zero, List.set_cons_succ, i64_w, i32_w]
                                  rfl
                                refine pure_ (i := 6) (N := some 70) (v := ?_) (a' := ?_) #[true, true, true, true, false, false, true, false, false, false, false, false, false, false] rfl rfl (any_of HT_.out (by kernel_rfl)) (fun _ _ _ h => h) (Or.inl ⟨by rfl, ?_⟩) ?_ ?_
                                rotate_left
                                · intro w'
                                  go_simp
                                  with_reducible rfl
                                rotate_left
                                · simp only [Act.put, List.setIfInBounds_toArray, List.set_cons_zero, List.set_cons_succ, i64_w, i32_w]
                                  rfl
                                refine pure_ (i := 7) (N := some 71) (v := ?_) (a' := ?_) #[true, true, true, true, false, false, true, true, false, false, false, false, false, false] rfl rfl (any_of HT_.out (by kernel_rfl)) (fun _ _ _ h => h) (Or.inl ⟨by rfl, ?_⟩) ?_ ?_
                                rotate_left
                                · intro w'
                                  go_simp
                                  with_reducible rfl
                                rotate_left
                                · simp only [Act.put, List.setIfInBounds_toArray, List.set_cons_zero, List.set_cons_succ, i64_w, i32_w]
                                  rfl
                                refine pure_ (i := 8) (N := some 72) (v := ?_) (a' := ?_) #[true, true, true, true, false, false, true, true, true, false, false, false, false, false] rfl rfl (any_of HT_.out (by kernel_rfl)) (fun _ _ _ h => h) (Or.inl ⟨by rfl, ?_⟩) ?_ ?_
                                rotate_left
                                · intro w'
                                  go_simp
                                  with_reducible rfl
                                rotate_left
                                · simp only [Act.put, List.setIfInBounds_toArray, List.set_cons_zero, List.set_cons_succ, i64_w, i32_w]
                                  rfl
                                refine pure_ (i := 9) (N := some 73) (v := ?_) (a' := ?_) #[true, true, true, true, false, false, true, true, true, true, false, false, false, false] rfl rfl (any_of HT_.out (by kernel_rfl)) (fun _ _ _ h => h) (Or.inl ⟨by rfl, ?_⟩) ?_ ?_
                                rotate_left
                                · intro w'
                                  go_simp
                                  with_reducible rfl
                                rotate_left
                                · simp only [Act.put, List.setIfInBounds_toArray, List.set_cons_zero, List.set_cons_succ, i64_w, i32_w]
                                  rfl
                                refine take_ (i := 4) (N := some 68) (v := ?_) (a' := ?_) #[true, true, true, true, true, false, true, true, true, true, false, false, false, false] rfl rfl (take_ofW HT_.out HW_.out (by kernel_rfl)) (fun _ _ _ h => h) (Or.inl ⟨by rfl, ?_⟩) hHeld ?_ ?_
                                rotate_left
                                · rintro w' ⟨s0, s1, s2, s3, s4, s5, s6, s7, s8, s9⟩
                                  go_simp
                                  with_reducible rfl
                                rotate_left
                                · simp only [Act.put, List.setIfInBounds_toArray, List.set_cons_zero, List.set_cons_succ, i64_w, i32_w]
                                  rfl
                                refine pure_ (i := 5) (N := some 69) (v := ?_) (a' := ?_) #[true, true, true, true, true, true, true, true, true, true, false, false, false, false] rfl rfl (any_of HT_.out (by kernel_rfl)) (fun _ _ _ h => h) (Or.inl ⟨by rfl, ?_⟩) ?_ ?_
                                rotate_left
                                · intro w'
                                  go_simp
                                  with_reducible rfl
                                rotate_left
                                · simp only [Act.put, List.setIfInBounds_toArray, List.set_cons_zero, List.set_cons_succ, i64_w, i32_w]
                                  rfl
                                refine take_ (i := 10) (N := some 74) (v := ?_) (a' := ?_) #[true, true, true, true, true, true, true, true, true, true, true, false, false, false] rfl rfl (take_ofW HT_.out HW_.out (by kernel_rfl)) (fun _ _ _ h => h) (Or.inl ⟨by rfl, ?_⟩) hHeld ?_ ?_
                                rotate_left
                                · rintro w' ⟨s0, s1, s2, s3, s4, s5, s6, s7, s8, s9⟩
                                  go_simp
                                  with_reducible rfl
                                rotate_left
                                · simp only [Act.put, List.setIfInBounds_toArray, List.set_cons_zero, List.set_cons_succ, i64_w, i32_w]
                                  rfl
                                refine pure_ (i := 11) (N := some 75) (v := ?_) (a' := ?_) #[true, true, true, true, true, true, true, true, true, true, true, true, false, false] rfl rfl (any_of HT_.out (by kernel_rfl)) (fun _ _ _ h => h) (Or.inl ⟨by rfl, ?_⟩) ?_ ?_
                                rotate_left
                                · intro w'
                                  go_simp
                                  with_reducible rfl
                                rotate_left
                                · simp only [Act.put, List.setIfInBounds_toArray, List.set_cons_zero, List.set_cons_succ, i64_w, i32_w]
                                  rfl
                                refine pure_ (i := 12) (N := some 76) (v := ?_) (a' := ?_) #[true, true, true, true, true, true, true, true, true, true, true, true, true, false] rfl rfl (any_of HT_.out (by kernel_rfl)) (fun _ _ _ h => h) (Or.inl ⟨by rfl, ?_⟩) ?_ ?_
                                rotate_left
                                · intro w'
                                  go_simp
                                  with_reducible rfl
                                rotate_left
                                · simp only [Act.put, List.setIfInBounds_toArray, List.set_cons_zero, List.set_cons_succ, i64_w, i32_w]
                                  rfl
                                refine pure_ (i := 13) (N := some 13) (v := ?_) (a' := ?_) #[true, true, true, true, true, true, true, true, true, true, true, true, true, true] rfl rfl (any_of HT_.out (by kernel_rfl)) (fun _ _ _ h => h) (Or.inl ⟨by rfl, ?_⟩) ?_ ?_
                                rotate_left
                                · intro w'
                                  go_simp
                                  with_reducible rfl
                                rotate_left
                                · simp only [Act.put, List.setIfInBounds_toArray, List.set_cons_zero, List.set_cons_succ, i64_w, i32_w]
                                  rfl
                                refine done_ (done_of HT_.out (by kernel_rfl)) ?_
                                have p202 : 0 ≤ (x12_3 : Int) := of_decide_eq_true (by first | (with_reducible assumption) | assumption)
                                have q202 : x12_3 < (x7_2.length : Int) := of_decide_eq_true (by first | (with_reducible assumption) | assumption)
                                obtain ⟨ad202, e202, hx202_0, hx202_1, hx202_2, hx202_3, hx202_4⟩ := at_T32 (Kd.R_reads' HO_7.out).2.2 x12_3 p202 q202
                                (try rw [← Nbq44.out] at hx202_4)
                                (try rw [← Nbq44.out] at hw202_4)
                                obtain rfl : ad200 = ad202 := (by injection e202)
                                replace p202 := eq_true p202
                                replace q202 := eq_true q202
                                have p203 : 0 ≤ (x12_3 : Int) := of_decide_eq_true (by first | (with_reducible assumption) | assumption)
                                have q203 : x12_3 < (x7_2.length : Int) := of_decide_eq_true (by first | (with_reducible assumption) | assumption)
                                obtain ⟨ad203, e203, hx203_0, hx203_1, hx203_2, hx203_3, hx203_4⟩ := at_T32 (Kd.R_reads' HO_7.out).2.2 x12_3 p203 q203
                                (try rw [← Nbq44.out] at hx203_4)
                                (try rw [← Nbq44.out] at hw203_4)
                                obtain rfl : ad200 = ad203 := (by injection e203)
                                replace p203 := eq_true p203
                                replace q203 := eq_true q203
                                try go_wp2
                                go_roundg k3
                                case measure => have := HK1.out; have := HK2.out; have := HK3.out; omega
                                case rel => exact ⟨(wrap64 (x12_3 + 1)), (by first | rfl | (simp; done) | (simp [*]; done)), (by first | exact H' | (simp only [hji41, hji42]; exact H')), ⟨by have := HK1.out; have := HK2.out; have := HK3.out; omega⟩, ⟨by (try simp only [hl7_2]); (with_reducible repeat (first | apply Kd.R_alloc | apply Kd.R_drewN | apply Kd.R_drew)); exact HO_7.out⟩, ⟨by repeat (first | (with_reducible first | exact HB.out | apply below_alloc | apply pw_below_drewN | apply below_drew1) | exact HB.out)⟩⟩
                            · replace c45 := Bool.eq_false_iff.mpr c45
                              subst c45
                              have H1 : (hostlerlaw17_ChooseWarm.l2 k3 (wrap64 (Int.tmod (IntKind.u64.wrap (a1)) 9)) (wrap64 (Int.tmod (IntKind.u64.wrap (a2)) 9)) x7_2 (wrap64 (x12_3 + 1))) = some r := by rw [if_neg (show ¬ (false = true) by decide)] at H; exact H
                              clear H
                              have H := H1
                              clear H1
                              have H' := Aside0.mk H
                              clear H
                              try go_wp2
                              have n0_ := Aside0.mk (Kd.R_drew HO_7.out)
                              have n1_ := Aside0.mk (below_drew1 HB.out)
                              clear HO_7
                              clear HB
                              have HO_7 := n0_
                              have HB := n1_
                              clear n0_ n1_
                              have p200 : 0 ≤ (x12_3 : Int) := of_decide_eq_true (by first | (with_reducible assumption) | assumption)
                              have q200 : x12_3 < (x7_2.length : Int) := of_decide_eq_true (by first | (with_reducible assumption) | assumption)
                              obtain ⟨ad200, e200, hx200_0, hx200_1, hx200_2, hx200_3, hx200_4⟩ := at_T32 (Kd.R_reads' HO_7.out).2.2 x12_3 p200 q200
                              (try rw [← Nbq44.out] at hx200_4)
                              (try rw [← Nbq44.out] at hw200_4)
                              cases e200
                              replace p200 := eq_true p200
                              replace q200 := eq_true q200
                              have p201 : 0 ≤ (x12_3 : Int) := of_decide_eq_true (by first | (with_reducible assumption) | assumption)
                              have q201 : x12_3 < (x7_2.length : Int) := of_decide_eq_true (by first | (with_reducible assumption) | assumption)
                              obtain ⟨ad201, e201, hx201_0, hx201_1, hx201_2, hx201_3, hx201_4⟩ := at_T32 (Kd.R_reads' HO_7.out).2.2 x12_3 p201 q201
                              (try rw [← Nbq44.out] at hx201_4)
                              (try rw [← Nbq44.out] at hw201_4)
                              obtain rfl : ad200 = ad201 := (by injection e201)
                              replace p201 := eq_true p201
                              replace q201 := eq_true q201
                              refine start_ (n := 14) (S := fun w' => w'.cell? (ad200.add ((x12_3).toNat * 5)) = some (.int .i64 ((rd_T32 x7_2 x12_3).f0)) ∧ w'.cell? ⟨(ad200.add ((x12_3).toNat * 5)).block, (ad200.add ((x12_3).toNat * 5)).off + 1, none⟩ = some (.int .i64 ((rd_T32 x7_2 x12_3).f1)) ∧ w'.cell? ⟨(ad200.add ((x12_3).toNat * 5)).block, (ad200.add ((x12_3).toNat * 5)).off + 2, none⟩ = some (.int .i64 ((rd_T32 x7_2 x12_3).f2)) ∧ w'.cell? ⟨(ad200.add ((x12_3).toNat * 5)).block, (ad200.add ((x12_3).toNat * 5)).off + 3, none⟩ = some (.int .i64 ((rd_T32 x7_2 x12_3).f3)) ∧ w'.cell? ⟨(ad200.add ((x12_3).toNat * 5)).block, (ad200.add ((x12_3).toNat * 5)).off + 4, none⟩ = some (.bool false) ∧ w'.cell? (ad200.add ((x12_3).toNat * 5)) = some (.int .i64 ((rd_T32 x7_2 x12_3).f0)) ∧ w'.cell? ⟨(ad200.add ((x12_3).toNat * 5)).block, (ad200.add ((x12_3).toNat * 5)).off + 1, none⟩ = some (.int .i64 ((rd_T32 x7_2 x12_3).f1)) ∧ w'.cell? ⟨(ad200.add ((x12_3).toNat * 5)).block, (ad200.add ((x12_3).toNat * 5)).off + 2, none⟩ = some (.int .i64 ((rd_T32 x7_2 x12_3).f2)) ∧ w'.cell? ⟨(ad200.add ((x12_3).toNat * 5)).block, (ad200.add ((x12_3).toNat * 5)).off + 3, none⟩ = some (.int .i64 ((rd_T32 x7_2 x12_3).f3)) ∧ w'.cell? ⟨(ad200.add ((x12_3).toNat * 5)).block, (ad200.add ((x12_3).toNat * 5)).off + 4, none⟩ = some (.bool false)) (ds := []) #[false, false, false, false, false, false, false, false, false, false, false, false, false, false] (by kernel_rfl) rfl rfl ⟨hx200_0, hx200_1, hx200_2, hx200_3, hx200_4, hx201_0, hx201_1, hx201_2, hx201_3, hx201_4⟩ (fun hHeld => ?_); refine with_tabW hostlerlaw17_ChooseWarm.tab18 hostlerlaw17_ChooseWarm.bits18 (fun HT_ HW_ => ?_)
                              generalize wr.drew = w51 at HO_7 HB hx200_0 hx200_1 hx200_2 hx200_3 hx200_4 hx201_0 hx201_1 hx201_2 hx201_3 hx201_4 hHeld ⊢
                              refine pure_ (i := 0) (N := some 64) (v := ?_) (a' := ?_) #[true, false, false, false, false, false, false, false, false, false, false, false, false, false] rfl rfl (any_of HT_.out (by kernel_rfl)) (fun _ _ _ h => h) (Or.inl ⟨by rfl, ?_⟩) ?_ ?_
                              rotate_left
                              · intro w'
                                go_simp
                                with_reducible rfl
                              rotate_left
                              · simp only [Act.put, List.setIfInBounds_toArray, List.set_cons_zero, List.set_cons_succ, i64_w, i32_w]
                                rfl
                              refine pure_ (i := 1) (N := some 65) (v := ?_) (a' := ?_) #[true, true, false, false, false, false, false, false, false, false, false, false, false, false] rfl rfl (any_of HT_.out (by kernel_rfl)) (fun _ _ _ h => h) (Or.inl ⟨by rfl, ?_⟩) ?_ ?_
                              rotate_left
                              · intro w'
                                go_simp
                                with_reducible rfl
                              rotate_left
                              · simp only [Act.put, List.setIfInBounds_toArray, List.set_cons_zero, List.set_cons_succ, i64_w, i32_w]
                                rfl
                              refine pure_ (i := 2) (N := some 66) (v := ?_) (a' := ?_) #[true, true, true, false, false, false, false, false, false, false, false, false, false, false] rfl rfl (any_of HT_.out (by kernel_rfl)) (fun _ _ _ h => h) (Or.inl ⟨by rfl, ?_⟩) ?_ ?_
                              rotate_left
                              · intro w'
                                go_simp
                                with_reducible rfl
                              rotate_left
                              · simp only [Act.put, List.setIfInBounds_toArray, List.set_cons_zero, List.set_cons_succ, i64_w, i32_w]
                                rfl
                              refine pure_ (i := 3) (N := some 67) (v := ?_) (a' := ?_) #[true, true, true, true, false, false, false, false, false, false, false, false, false, false] rfl rfl (any_of HT_.out (by kernel_rfl)) (fun _ _ _ h => h) (Or.inl ⟨by rfl, ?_⟩) ?_ ?_
                              rotate_left
                              · intro w'
                                go_simp
                                with_reducible rfl
                              rotate_left
                              · simp only [Act.put, List.setIfInBounds_toArray, List.set_cons_zero, List.set_cons_succ, i64_w, i32_w]
                                rfl
                              refine pure_ (i := 6) (N := some 70) (v := ?_) (a' := ?_) #[true, true, true, true, false, false, true, false, false, false, false, false, false, false] rfl rfl (any_of HT_.out (by kernel_rfl)) (fun _ _ _ h => h) (Or.inl ⟨by rfl, ?_⟩) ?_ ?_
                              rotate_left
                              · intro w'
                                go_simp
                                with_reducible rfl
                              rotate_left
                              · simp only [Act.put, List.setIfInBounds_toArray, List.set_cons_zero, List.set_cons_succ, i64_w, i32_w]
                                rfl
                              refine pure_ (i := 7) (N := some 71) (v := ?_) (a' := ?_) #[true, true, true, true, false, false, true, true, false, false, false, false, false, false] rfl rfl (any_of HT_.out (by kernel_rfl)) (fun _ _ _ h => h) (Or.inl ⟨by rfl, ?_⟩) ?_ ?_
                              rotate_left
                              · intro w'
                                go_simp
                                with_reducible rfl
                              rotate_left
                              · simp only [Act.put, List.setIfInBounds_toArray, List.set_cons_zero, List.set_cons_succ, i64_w, i32_w]
                                rfl
                              refine pure_ (i := 8) (N := some 72) (v := ?_) (a' := ?_) #[true, true, true, true, false, false, true, true, true, false, false, false, false, false] rfl rfl (any_of HT_.out (by kernel_rfl)) (fun _ _ _ h => h) (Or.inl ⟨by rfl, ?_⟩) ?_ ?_
                              rotate_left
                              · intro w'
                                go_simp
                                with_reducible rfl
                              rotate_left
                              · simp only [Act.put, List.setIfInBounds_toArray, List.set_cons_zero, List.set_cons_succ, i64_w, i32_w]
                                rfl
                              refine pure_ (i := 9) (N := some 73) (v := ?_) (a' := ?_) #[true, true, true, true, false, false, true, true, true, true, false, false, false, false] rfl rfl (any_of HT_.out (by kernel_rfl)) (fun _ _ _ h => h) (Or.inl ⟨by rfl, ?_⟩) ?_ ?_
                              rotate_left
                              · intro w'
                                go_simp
                                with_reducible rfl
                              rotate_left
                              · simp only [Act.put, List.setIfInBounds_toArray, List.set_cons_zero, List.set_cons_succ, i64_w, i32_w]
                                rfl
                              refine take_ (i := 4) (N := some 68) (v := ?_) (a' := ?_) #[true, true, true, true, true, false, true, true, true, true, false, false, false, false] rfl rfl (take_ofW HT_.out HW_.out (by kernel_rfl)) (fun _ _ _ h => h) (Or.inl ⟨by rfl, ?_⟩) hHeld ?_ ?_
                              rotate_left
                              · rintro w' ⟨s0, s1, s2, s3, s4, s5, s6, s7, s8, s9⟩
                                go_simp
                                with_reducible rfl
                              rotate_left
                              · simp only [Act.put, List.setIfInBounds_toArray, List.set_cons_zero, List.set_cons_succ, i64_w, i32_w]
                                rfl
                              refine pure_ (i := 5) (N := some 69) (v := ?_) (a' := ?_) #[true, true, true, true, true, true, true, true, true, true, false, false, false, false] rfl rfl (any_of HT_.out (by kernel_rfl)) (fun _ _ _ h => h) (Or.inl ⟨by rfl, ?_⟩) ?_ ?_
                              rotate_left
                              · intro w'
                                go_simp
                                with_reducible rfl
                              rotate_left
                              · simp only [Act.put, List.setIfInBounds_toArray, List.set_cons_zero, List.set_cons_succ, i64_w, i32_w]
                                rfl
                              refine take_ (i := 10) (N := some 74) (v := ?_) (a' := ?_) #[true, true, true, true, true, true, true, true, true, true, true, false, false, false] rfl rfl (take_ofW HT_.out HW_.out (by kernel_rfl)) (fun _ _ _ h => h) (Or.inl ⟨by rfl, ?_⟩) hHeld ?_ ?_
                              rotate_left
                              · rintro w' ⟨s0, s1, s2, s3, s4, s5, s6, s7, s8, s9⟩
                                go_simp
                                with_reducible rfl
                              rotate_left
                              · simp only [Act.put, List.setIfInBounds_toArray, List.set_cons_zero, List.set_cons_succ, i64_w, i32_w]
                                rfl
                              refine pure_ (i := 11) (N := some 75) (v := ?_) (a' := ?_) #[true, true, true, true, true, true, true, true, true, true, true, true, false, false] rfl rfl (any_of HT_.out (by kernel_rfl)) (fun _ _ _ h => h) (Or.inl ⟨by rfl, ?_⟩) ?_ ?_
                              rotate_left
                              · intro w'
                                go_simp
                                with_reducible rfl
                              rotate_left
                              · simp only [Act.put, List.setIfInBounds_toArray, List.set_cons_zero, List.set_cons_succ, i64_w, i32_w]
                                rfl
                              refine pure_ (i := 12) (N := some 76) (v := ?_) (a' := ?_) #[true, true, true, true, true, true, true, true, true, true, true, true, true, false] rfl rfl (any_of HT_.out (by kernel_rfl)) (fun _ _ _ h => h) (Or.inl ⟨by rfl, ?_⟩) ?_ ?_
                              rotate_left
                              · intro w'
                                go_simp
                                with_reducible rfl
                              rotate_left
                              · simp only [Act.put, List.setIfInBounds_toArray, List.set_cons_zero, List.set_cons_succ, i64_w, i32_w]
                                rfl
                              refine pure_ (i := 13) (N := some 13) (v := ?_) (a' := ?_) #[true, true, true, true, true, true, true, true, true, true, true, true, true, true] rfl rfl (any_of HT_.out (by kernel_rfl)) (fun _ _ _ h => h) (Or.inl ⟨by rfl, ?_⟩) ?_ ?_
                              rotate_left
                              · intro w'
                                go_simp
                                with_reducible rfl
                              rotate_left
                              · simp only [Act.put, List.setIfInBounds_toArray, List.set_cons_zero, List.set_cons_succ, i64_w, i32_w]
                                rfl
                              refine done_ (done_of HT_.out (by kernel_rfl)) ?_
                              have p202 : 0 ≤ (x12_3 : Int) := of_decide_eq_true (by first | (with_reducible assumption) | assumption)
                              have q202 : x12_3 < (x7_2.length : Int) := of_decide_eq_true (by first | (with_reducible assumption) | assumption)
                              obtain ⟨ad202, e202, hx202_0, hx202_1, hx202_2, hx202_3, hx202_4⟩ := at_T32 (Kd.R_reads' HO_7.out).2.2 x12_3 p202 q202
                              (try rw [← Nbq44.out] at hx202_4)
                              (try rw [← Nbq44.out] at hw202_4)
                              obtain rfl : ad200 = ad202 := (by injection e202)
                              replace p202 := eq_true p202
                              replace q202 := eq_true q202
                              have p203 : 0 ≤ (x12_3 : Int) := of_decide_eq_true (by first | (with_reducible assumption) | assumption)
                              have q203 : x12_3 < (x7_2.length : Int) := of_decide_eq_true (by first | (with_reducible assumption) | assumption)
                              obtain ⟨ad203, e203, hx203_0, hx203_1, hx203_2, hx203_3, hx203_4⟩ := at_T32 (Kd.R_reads' HO_7.out).2.2 x12_3 p203 q203
                              (try rw [← Nbq44.out] at hx203_4)
                              (try rw [← Nbq44.out] at hw203_4)
                              obtain rfl : ad200 = ad203 := (by injection e203)
                              replace p203 := eq_true p203
                              replace q203 := eq_true q203
                              try go_wp2
                              go_roundg k3
                              case measure => have := HK1.out; have := HK2.out; have := HK3.out; omega
                              case rel => exact ⟨(wrap64 (x12_3 + 1)), (by first | rfl | (simp; done) | (simp [*]; done)), (by first | exact H' | (simp only [hji41, hji42]; exact H')), ⟨by have := HK1.out; have := HK2.out; have := HK3.out; omega⟩, ⟨by (try simp only [hl7_2]); (with_reducible repeat (first | apply Kd.R_alloc | apply Kd.R_drewN | apply Kd.R_drew)); exact HO_7.out⟩, ⟨by repeat (first | (with_reducible first | exact HB.out | apply below_alloc | apply pw_below_drewN | apply below_drew1) | exact HB.out)⟩⟩
                          · rw [if_neg c43] at H
                            have c43b0 : (((rd_T32 x7_2 x12_3).f0) == 0) = false := beq_eq_false_iff_ne.mpr c43
                            have c43b1 : (((rd_T32 x7_2 x12_3).f0) != 0) = true := bne_iff_ne.mpr c43
                            have H' := Aside0.mk H
                            clear H
                            try go_wp2
                            have n0_ := Aside0.mk (Kd.R_drew HO_7.out)
                            have n1_ := Aside0.mk (below_drew1 HB.out)
                            clear HO_7
                            clear HB
                            have HO_7 := n0_
                            have HB := n1_
                            clear n0_ n1_
                            have p200 : 0 ≤ (x12_3 : Int) := of_decide_eq_true (by first | (with_reducible assumption) | assumption)
                            have q200 : x12_3 < (x7_2.length : Int) := of_decide_eq_true (by first | (with_reducible assumption) | assumption)
                            obtain ⟨ad200, e200, hx200_0, hx200_1, hx200_2, hx200_3, hx200_4⟩ := at_T32 (Kd.R_reads' HO_7.out).2.2 x12_3 p200 q200
                            cases e200
                            replace p200 := eq_true p200
                            replace q200 := eq_true q200
                            have p201 : 0 ≤ (x12_3 : Int) := of_decide_eq_true (by first | (with_reducible assumption) | assumption)
                            have q201 : x12_3 < (x7_2.length : Int) := of_decide_eq_true (by first | (with_reducible assumption) | assumption)
                            obtain ⟨ad201, e201, hx201_0, hx201_1, hx201_2, hx201_3, hx201_4⟩ := at_T32 (Kd.R_reads' HO_7.out).2.2 x12_3 p201 q201
                            obtain rfl : ad200 = ad201 := (by injection e201)
                            replace p201 := eq_true p201
                            replace q201 := eq_true q201
                            refine start_ (n := 14) (S := fun w' => w'.cell? (ad200.add ((x12_3).toNat * 5)) = some (.int .i64 ((rd_T32 x7_2 x12_3).f0)) ∧ w'.cell? ⟨(ad200.add ((x12_3).toNat * 5)).block, (ad200.add ((x12_3).toNat * 5)).off + 1, none⟩ = some (.int .i64 ((rd_T32 x7_2 x12_3).f1)) ∧ w'.cell? ⟨(ad200.add ((x12_3).toNat * 5)).block, (ad200.add ((x12_3).toNat * 5)).off + 2, none⟩ = some (.int .i64 ((rd_T32 x7_2 x12_3).f2)) ∧ w'.cell? ⟨(ad200.add ((x12_3).toNat * 5)).block, (ad200.add ((x12_3).toNat * 5)).off + 3, none⟩ = some (.int .i64 ((rd_T32 x7_2 x12_3).f3)) ∧ w'.cell? ⟨(ad200.add ((x12_3).toNat * 5)).block, (ad200.add ((x12_3).toNat * 5)).off + 4, none⟩ = some (.bool ((rd_T32 x7_2 x12_3).f4)) ∧ w'.cell? (ad200.add ((x12_3).toNat * 5)) = some (.int .i64 ((rd_T32 x7_2 x12_3).f0)) ∧ w'.cell? ⟨(ad200.add ((x12_3).toNat * 5)).block, (ad200.add ((x12_3).toNat * 5)).off + 1, none⟩ = some (.int .i64 ((rd_T32 x7_2 x12_3).f1)) ∧ w'.cell? ⟨(ad200.add ((x12_3).toNat * 5)).block, (ad200.add ((x12_3).toNat * 5)).off + 2, none⟩ = some (.int .i64 ((rd_T32 x7_2 x12_3).f2)) ∧ w'.cell? ⟨(ad200.add ((x12_3).toNat * 5)).block, (ad200.add ((x12_3).toNat * 5)).off + 3, none⟩ = some (.int .i64 ((rd_T32 x7_2 x12_3).f3)) ∧ w'.cell? ⟨(ad200.add ((x12_3).toNat * 5)).block, (ad200.add ((x12_3).toNat * 5)).off + 4, none⟩ = some (.bool ((rd_T32 x7_2 x12_3).f4))) (ds := []) #[false, false, false, false, false, false, false, false, false, false, false, false, false, false] (by kernel_rfl) rfl rfl ⟨hx200_0, hx200_1, hx200_2, hx200_3, hx200_4, hx201_0, hx201_1, hx201_2, hx201_3, hx201_4⟩ (fun hHeld => ?_); refine with_tabW hostlerlaw17_ChooseWarm.tab18 hostlerlaw17_ChooseWarm.bits18 (fun HT_ HW_ => ?_)
                            generalize wr.drew = w52 at HO_7 HB hx200_0 hx200_1 hx200_2 hx200_3 hx200_4 hx201_0 hx201_1 hx201_2 hx201_3 hx201_4 hHeld ⊢
                            refine pure_ (i := 0) (N := some 64) (v := ?_) (a' := ?_) #[true, false, false, false, false, false, false, false, false, false, false, false, false, false] rfl rfl (any_of HT_.out (by kernel_rfl)) (fun _ _ _ h => h) (Or.inl ⟨by rfl, ?_⟩) ?_ ?_
                            rotate_left
                            · intro w'
                              go_simp
                              with_reducible rfl
                            rotate_left
                            · simp only [Act.put, List.setIfInBounds_toArray, List.set_cons_zero, List.set_cons_succ, i64_w, i32_w]
                              rfl
                            refine pure_ (i := 1) (N := some 65) (v := ?_) (a' := ?_) #[true, true, false, false, false, false, false, false, false, false, false, false, false, false] rfl rfl (any_of HT_.out (by kernel_rfl)) (fun _ _ _ h => h) (Or.inl ⟨by rfl, ?_⟩) ?_ ?_
                            rotate_left
                            · intro w'
                              go_simp
                              with_reducible rfl
                            rotate_left
                            · simp only [Act.put, List.setIfInBounds_toArray, List.set_cons_zero, List.set_cons_succ, i64_w, i32_w]
                              rfl
                            refine pure_ (i := 2) (N := some 66) (v := ?_) (a' := ?_) #[true, true, true, false, false, false, false, false, false, false, false, false, false, false] rfl rfl (any_of HT_.out (by kernel_rfl)) (fun _ _ _ h => h) (Or.inl ⟨by rfl, ?_⟩) ?_ ?_
                            rotate_left
                            · intro w'
                              go_simp
                              with_reducible rfl
                            rotate_left
                            · simp only [Act.put, List.setIfInBounds_toArray, List.set_cons_zero, List.set_cons_succ, i64_w, i32_w]
                              rfl
                            refine pure_ (i := 3) (N := some 67) (v := ?_) (a' := ?_) #[true, true, true, true, false, false, false, false, false, false, false, false, false, false] rfl rfl (any_of HT_.out (by kernel_rfl)) (fun _ _ _ h => h) (Or.inl ⟨by rfl, ?_⟩) ?_ ?_
                            rotate_left
                            · intro w'
                              go_simp
                              with_reducible rfl
                            rotate_left
                            · simp only [Act.put, List.setIfInBounds_toArray, List.set_cons_zero, List.set_cons_succ, i64_w, i32_w]
                              rfl
                            refine pure_ (i := 6) (N := some 70) (v := ?_) (a' := ?_) #[true, true, true, true, false, false, true, false, false, false, false, false, false, false] rfl rfl (any_of HT_.out (by kernel_rfl)) (fun _ _ _ h => h) (Or.inl ⟨by rfl, ?_⟩) ?_ ?_
                            rotate_left
                            · intro w'
                              go_simp
                              with_reducible rfl
                            rotate_left
                            · simp only [Act.put, List.setIfInBounds_toArray, List.set_cons_zero, List.set_cons_succ, i64_w, i32_w]
                              rfl
                            refine pure_ (i := 7) (N := some 71) (v := ?_) (a' := ?_) #[true, true, true, true, false, false, true, true, false, false, false, false, false, false] rfl rfl (any_of HT_.out (by kernel_rfl)) (fun _ _ _ h => h) (Or.inl ⟨by rfl, ?_⟩) ?_ ?_
                            rotate_left
                            · intro w'
                              go_simp
                              with_reducible rfl
                            rotate_left
                            · simp only [Act.put, List.setIfInBounds_toArray, List.set_cons_zero, List.set_cons_succ, i64_w, i32_w]
                              rfl
                            refine pure_ (i := 8) (N := some 72) (v := ?_) (a' := ?_) #[true, true, true, true, false, false, true, true, true, false, false, false, false, false] rfl rfl (any_of HT_.out (by kernel_rfl)) (fun _ _ _ h => h) (Or.inl ⟨by rfl, ?_⟩) ?_ ?_
                            rotate_left
                            · intro w'
                              go_simp
                              with_reducible rfl
                            rotate_left
                            · simp only [Act.put, List.setIfInBounds_toArray, List.set_cons_zero, List.set_cons_succ, i64_w, i32_w]
                              rfl
                            refine pure_ (i := 9) (N := some 73) (v := ?_) (a' := ?_) #[true, true, true, true, false, false, true, true, true, true, false, false, false, false] rfl rfl (any_of HT_.out (by kernel_rfl)) (fun _ _ _ h => h) (Or.inl ⟨by rfl, ?_⟩) ?_ ?_
                            rotate_left
                            · intro w'
                              go_simp
                              with_reducible rfl
                            rotate_left
                            · simp only [Act.put, List.setIfInBounds_toArray, List.set_cons_zero, List.set_cons_succ, i64_w, i32_w]
                              rfl
                            refine take_ (i := 4) (N := some 68) (v := ?_) (a' := ?_) #[true, true, true, true, true, false, true, true, true, true, false, false, false, false] rfl rfl (take_ofW HT_.out HW_.out (by kernel_rfl)) (fun _ _ _ h => h) (Or.inl ⟨by rfl, ?_⟩) hHeld ?_ ?_
                            rotate_left
                            · rintro w' ⟨s0, s1, s2, s3, s4, s5, s6, s7, s8, s9⟩
                              go_simp
                              with_reducible rfl
                            rotate_left
                            · simp only [Act.put, List.setIfInBounds_toArray, List.set_cons_zero, List.set_cons_succ, i64_w, i32_w]
                              rfl
                            refine pure_ (i := 5) (N := some 69) (v := ?_) (a' := ?_) #[true, true, true, true, true, true, true, true, true, true, false, false, false, false] rfl rfl (any_of HT_.out (by kernel_rfl)) (fun _ _ _ h => h) (Or.inl ⟨by rfl, ?_⟩) ?_ ?_
                            rotate_left
                            · intro w'
                              go_simp
                              with_reducible rfl
                            rotate_left
                            · simp only [Act.put, List.setIfInBounds_toArray, List.set_cons_zero, List.set_cons_succ, i64_w, i32_w]
                              rfl
                            refine take_ (i := 10) (N := some 74) (v := ?_) (a' := ?_) #[true, true, true, true, true, true, true, true, true, true, true, false, false, false] rfl rfl (take_ofW HT_.out HW_.out (by kernel_rfl)) (fun _ _ _ h => h) (Or.inl ⟨by rfl, ?_⟩) hHeld ?_ ?_
                            rotate_left
                            · rintro w' ⟨s0, s1, s2, s3, s4, s5, s6, s7, s8, s9⟩
                              go_simp
                              with_reducible rfl
                            rotate_left
                            · simp only [Act.put, List.setIfInBounds_toArray, List.set_cons_zero, List.set_cons_succ, i64_w, i32_w]
                              rfl
                            refine pure_ (i := 11) (N := some 75) (v := ?_) (a' := ?_) #[true, true, true, true, true, true, true, true, true, true, true, true, false, false] rfl rfl (any_of HT_.out (by kernel_rfl)) (fun _ _ _ h => h) (Or.inl ⟨by rfl, ?_⟩) ?_ ?_
                            rotate_left
                            · intro w'
                              go_simp
                              with_reducible rfl
                            rotate_left
                            · simp only [Act.put, List.setIfInBounds_toArray, List.set_cons_zero, List.set_cons_succ, i64_w, i32_w]
                              rfl
                            refine pure_ (i := 12) (N := some 76) (v := ?_) (a' := ?_) #[true, true, true, true, true, true, true, true, true, true, true, true, true, false] rfl rfl (any_of HT_.out (by kernel_rfl)) (fun _ _ _ h => h) (Or.inl ⟨by rfl, ?_⟩) ?_ ?_
                            rotate_left
                            · intro w'
                              go_simp
                              with_reducible rfl
                            rotate_left
                            · simp only [Act.put, List.setIfInBounds_toArray, List.set_cons_zero, List.set_cons_succ, i64_w, i32_w]
                              rfl
                            refine pure_ (i := 13) (N := some 13) (v := ?_) (a' := ?_) #[true, true, true, true, true, true, true, true, true, true, true, true, true, true] rfl rfl (any_of HT_.out (by kernel_rfl)) (fun _ _ _ h => h) (Or.inl ⟨by rfl, ?_⟩) ?_ ?_
                            rotate_left
                            · intro w'
                              go_simp
                              with_reducible rfl
                            rotate_left
                            · simp only [Act.put, List.setIfInBounds_toArray, List.set_cons_zero, List.set_cons_succ, i64_w, i32_w]
                              rfl
                            refine done_ (done_of HT_.out (by kernel_rfl)) ?_
                            have p202 : 0 ≤ (x12_3 : Int) := of_decide_eq_true (by first | (with_reducible assumption) | assumption)
                            have q202 : x12_3 < (x7_2.length : Int) := of_decide_eq_true (by first | (with_reducible assumption) | assumption)
                            obtain ⟨ad202, e202, hx202_0, hx202_1, hx202_2, hx202_3, hx202_4⟩ := at_T32 (Kd.R_reads' HO_7.out).2.2 x12_3 p202 q202
                            obtain rfl : ad200 = ad202 := (by injection e202)
                            replace p202 := eq_true p202
                            replace q202 := eq_true q202
                            try go_wp2
                            go_roundg k3
                            case measure => have := HK1.out; have := HK2.out; have := HK3.out; omega
                            case rel => exact ⟨(wrap64 (x12_3 + 1)), (by first | rfl | (simp; done) | (simp [*]; done)), (by first | exact H' | (simp only [hji41, hji42]; exact H')), ⟨by have := HK1.out; have := HK2.out; have := HK3.out; omega⟩, ⟨by (try simp only [hl7_2]); (with_reducible repeat (first | apply Kd.R_alloc | apply Kd.R_drewN | apply Kd.R_drew)); exact HO_7.out⟩, ⟨by repeat (first | (with_reducible first | exact HB.out | apply below_alloc | apply pw_below_drewN | apply below_drew1) | exact HB.out)⟩⟩
                        · rw [if_neg c40] at H
                          exact absurd H (by simp)
                      · rw [if_neg c39] at H
                        have c39b0 : decide (x12_3 < (x7_2.length : Int)) = false := decide_eq_false c39
                        clear c39
                        obtain rfl := Option.some.inj H
                        go_wp2
                        go_ret
                        exact ⟨by first | rfl | (simp [errW_none, errW_some] <;> rfl) | (simp [*, errW_none, errW_some] <;> rfl), by repeat (first | (with_reducible first | exact HB.out | apply below_alloc | apply pw_below_drewN | apply below_drew1) | exact HB.out)⟩
              · rw [if_neg c19] at H
                exact absurd H (by simp)
  · replace c5 := Bool.eq_false_iff.mpr c5
    subst c5
    have H1 : (none) = some r := by rw [if_neg (show ¬ (false = true) by decide)] at H; exact H
    clear H
    have H := H1
    clear H1
    exact absurd H (by simp)

/-- THE ONE PURE STATEMENT of hostlerlaw17_ChooseWarm: yours. -/
def hostlerlaw17_ChooseWarm.Pure : Prop := ∀ (l0 : List (S43)) (a1 : Int) (a2 : Int), l0.length ≤ maxLen → l0.length * 40 ≤ 140737488351232 → (∀ x ∈ l0, ((Lit.int .i64 x.f0).wf = true ∧ (Lit.int .i64 x.f1).wf = true ∧ (Lit.int .i64 x.f2).wf = true ∧ (Lit.int .i64 x.f3).wf = true ∧ True)) → (Lit.int .i64 a1).wf = true → (Lit.int .i64 a2).wf = true → ∃ k, hostlerlaw17_ChooseWarm.f k l0 a1 a2 = some true
theorem hostlerlaw17_ChooseWarm.walk (P : hostlerlaw17_ChooseWarm.Pure) (a0 : Option Addr) (cap0 : Nat) (l0 : List (S43)) (a1 : Int) (a2 : Int) (w : World) (hr0 : Kd.C k43 w a0 l0.length l0) (hc0 : l0.length ≤ cap0) (hm0 : l0.length ≤ maxLen) (y0 : l0.length * 40 ≤ 140737488351232) (hw0 : ∀ x ∈ l0, ((Lit.int .i64 x.f0).wf = true ∧ (Lit.int .i64 x.f1).wf = true ∧ (Lit.int .i64 x.f2).wf = true ∧ (Lit.int .i64 x.f3).wf = true ∧ True)) (w1 : (Lit.int .i64 a1).wf = true) (w2 : (Lit.int .i64 a2).wf = true) :
    Calls Try.prog 6 #[.slice a0 l0.length cap0, .int .i64 a1, .int .i64 a2] w fun e w' => e = .returned (.bool true) ∧ Below w.heap.size w w' := by
  obtain ⟨k, h⟩ := P l0 a1 a2 hm0 y0 hw0 w1 w2
  refine (hostlerlaw17_ChooseWarm.calls k _ _ l0 a1 a2 true w hr0 hc0 h).mono ?_
  rintro e w' ⟨rfl, hd⟩
  exact ⟨rfl, hd⟩

end Go.Proofs.Ythloffjgbgmpkaa.PB
