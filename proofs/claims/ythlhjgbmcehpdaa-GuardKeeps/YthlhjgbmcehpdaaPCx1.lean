/-
  Contracts of the program's functions and the Lean functions that they compute, laid by a program of this session out of the translation. Conditions: none.
-/
import Derived.Test.YthlhjgbmcehpdaaPCx0
namespace Go.Proofs.Ythlhjgbmcehpdaa.PC
open Go.RowKit Go.Proofs.Ythlhjgbmcehpdaa.Man Go.Proofs.Ythlhjgbmcehpdaa.PA Go.Proofs.Ythlhjgbmcehpdaa.ManB Go.Proofs.YthlhjgbmcehpdaaW.PrintWords Go.Proofs.YthlhjgbmcehpdaaW.PrintLast Go.Proofs.YthlhjgbmcehpdaaW.PrintMore
attribute [local go_sem] max2_int min2_int max_two min_two max_three min_three max_four min_four   -- for this text's walks alone
set_option linter.unusedVariables false
set_option linter.unusedSimpArgs false

/-! ### hostlerlaw11_GuardKeeps: function 4 -/
mutual
def hostlerlaw11_GuardKeeps.l0 : Nat → List Int → List Int → Int → Int → Int → Int → Int → Option (Bool)
  | 0, _, _, _, _, _, _, _ => none
  | k + 1, x1, x7, x8, x9, x10, x11, x12 => if x12 < (x1.length : Int) then (hostlerlaw11_GuardKeeps.j1 k x1 x7 x8 x9 x10 x11 x12 (decide (x12 < 40))) else (hostlerlaw11_GuardKeeps.j1 k x1 x7 x8 x9 x10 x11 x12 false)
def hostlerlaw11_GuardKeeps.j1 : Nat → List Int → List Int → Int → Int → Int → Int → Int → Bool → Option (Bool)
  | 0, _, _, _, _, _, _, _, _ => none
  | k + 1, x1, x7, x8, x9, x10, x11, x12, x43 => if x43 = true then (if (x7.length : Int) = 0 then (some true) else (if 0 ≤ x12 then (if x12 < (x1.length : Int) then (if (IntKind.u64.wrap ((x7.length : Int))) = 0 then (none) else ((guard_Capacity.f k x7 x8).bind fun t112 => ((guard_May.f k x7 (wrap64 (Int.tmod (IntKind.u64.wrap (rd x1 x12)) (IntKind.u64.wrap ((x7.length : Int))))) x8 x9).bind fun t113 => (if t113 = true then (if 0 ≤ (wrap64 (Int.tmod (IntKind.u64.wrap (rd x1 x12)) (IntKind.u64.wrap ((x7.length : Int))))) then (if (wrap64 (Int.tmod (IntKind.u64.wrap (rd x1 x12)) (IntKind.u64.wrap ((x7.length : Int))))) < (x7.length : Int) then (hostlerlaw11_GuardKeeps.j2 k x1 x7 x8 x9 x10 x11 x12 (wrap64 (Int.tmod (IntKind.u64.wrap (rd x1 x12)) (IntKind.u64.wrap ((x7.length : Int))))) t112 t113 ((rd x7 (wrap64 (Int.tmod (IntKind.u64.wrap (rd x1 x12)) (IntKind.u64.wrap ((x7.length : Int)))))) == 0)) else (none)) else (none)) else (hostlerlaw11_GuardKeeps.j2 k x1 x7 x8 x9 x10 x11 x12 (wrap64 (Int.tmod (IntKind.u64.wrap (rd x1 x12)) (IntKind.u64.wrap ((x7.length : Int))))) t112 t113 false))))) else (none)) else (none))) else (some (decide (x11 ≤ x10)))
def hostlerlaw11_GuardKeeps.j2 : Nat → List Int → List Int → Int → Int → Int → Int → Int → Int → Int → Bool → Bool → Option (Bool)
  | 0, _, _, _, _, _, _, _, _, _, _, _ => none
  | k + 1, x1, x7, x8, x9, x10, x11, x12, x13, x14, x15, x74 => if x74 = true then (hostlerlaw11_GuardKeeps.j3 k x1 x7 x8 x9 x10 (wrap64 (x11 + 1)) x12 x13 x14 x15) else (hostlerlaw11_GuardKeeps.j3 k x1 x7 x8 x9 x10 x11 x12 x13 x14 x15)
def hostlerlaw11_GuardKeeps.j3 : Nat → List Int → List Int → Int → Int → Int → Int → Int → Int → Int → Bool → Option (Bool)
  | 0, _, _, _, _, _, _, _, _, _, _ => none
  | k + 1, x1, x7, x8, x9, x10, x11, x12, x13, x14, x15 => if x15 = true then (if 0 ≤ x13 then (if x13 < (x7.length : Int) then (hostlerlaw11_GuardKeeps.j4 k x1 (x7.set (x13 : Int).toNat 1) x8 x9 x10 x11 x12 x13 x14 x15) else (none)) else (none)) else (hostlerlaw11_GuardKeeps.j4 k x1 x7 x8 x9 x10 x11 x12 x13 x14 x15)
def hostlerlaw11_GuardKeeps.j4 : Nat → List Int → List Int → Int → Int → Int → Int → Int → Int → Int → Bool → Option (Bool)
  | 0, _, _, _, _, _, _, _, _, _, _ => none
  | k + 1, x1, x7, x8, x9, x10, x11, x12, x13, x14, x15 => (guard_Capacity.f k x7 x8).bind fun t116 => ((guard_Fell.f x14 t116 x9).bind fun t117 => (if t117 = true then (none) else (if t116 > x14 then (none) else (if x15 = true then (hostlerlaw11_GuardKeeps.l0 k x1 x7 x8 x9 x10 x11 (wrap64 (x12 + 1))) else (if 0 ≤ x13 then (if x13 < (x7.length : Int) then (if (rd x7 x13) = 0 then (hostlerlaw11_GuardKeeps.l0 k x1 x7 x8 x9 x10 x11 (wrap64 (x12 + 1))) else (none)) else (none)) else (none))))))
end
def hostlerlaw11_GuardKeeps.f (k : Nat) (l0 : List Int) (l1 : List Int) (a2_0 : Int) (a2_1 : Int) : Option (Bool) := (hostlerlaw11_lives.f k).bind fun t102 => (if t102 = true then ((hostlerlaw11_few.f l0).bind fun t103 => (if ([] : List Int).length + t103.length < 17592186044416 then ((some (([] : List Int) ++ t103 : List Int)).bind fun y106 => ((hostlerlaw11_near.f a2_1).bind fun t109 => ((guard_Spare.f k y106 (wrap64 (1 + (wrap64 (Int.tmod (IntKind.u64.wrap (a2_0)) 8)))) t109).bind fun t110 => (hostlerlaw11_GuardKeeps.l0 k l1 y106 (wrap64 (1 + (wrap64 (Int.tmod (IntKind.u64.wrap (a2_0)) 8)))) t109 t110 0 0)))) else (none))) else (none))
theorem hostlerlaw11_GuardKeeps.mono_l : ∀ k, (∀ y0 y1 y2 y3 y4 y5 y6, LeO (hostlerlaw11_GuardKeeps.l0 k y0 y1 y2 y3 y4 y5 y6) (hostlerlaw11_GuardKeeps.l0 (k + 1) y0 y1 y2 y3 y4 y5 y6)) ∧ (∀ y0 y1 y2 y3 y4 y5 y6 y7, LeO (hostlerlaw11_GuardKeeps.j1 k y0 y1 y2 y3 y4 y5 y6 y7) (hostlerlaw11_GuardKeeps.j1 (k + 1) y0 y1 y2 y3 y4 y5 y6 y7)) ∧ (∀ y0 y1 y2 y3 y4 y5 y6 y7 y8 y9 y10, LeO (hostlerlaw11_GuardKeeps.j2 k y0 y1 y2 y3 y4 y5 y6 y7 y8 y9 y10) (hostlerlaw11_GuardKeeps.j2 (k + 1) y0 y1 y2 y3 y4 y5 y6 y7 y8 y9 y10)) ∧ (∀ y0 y1 y2 y3 y4 y5 y6 y7 y8 y9, LeO (hostlerlaw11_GuardKeeps.j3 k y0 y1 y2 y3 y4 y5 y6 y7 y8 y9) (hostlerlaw11_GuardKeeps.j3 (k + 1) y0 y1 y2 y3 y4 y5 y6 y7 y8 y9)) ∧ (∀ y0 y1 y2 y3 y4 y5 y6 y7 y8 y9, LeO (hostlerlaw11_GuardKeeps.j4 k y0 y1 y2 y3 y4 y5 y6 y7 y8 y9) (hostlerlaw11_GuardKeeps.j4 (k + 1) y0 y1 y2 y3 y4 y5 y6 y7 y8 y9))
  | 0 => ⟨fun _ _ _ _ _ _ _ r h => by simp [hostlerlaw11_GuardKeeps.l0] at h, fun _ _ _ _ _ _ _ _ r h => by simp [hostlerlaw11_GuardKeeps.j1] at h, fun _ _ _ _ _ _ _ _ _ _ _ r h => by simp [hostlerlaw11_GuardKeeps.j2] at h, fun _ _ _ _ _ _ _ _ _ _ r h => by simp [hostlerlaw11_GuardKeeps.j3] at h, fun _ _ _ _ _ _ _ _ _ _ r h => by simp [hostlerlaw11_GuardKeeps.j4] at h⟩
  | k + 1 => by
    obtain ⟨ih0, ih1, ih2, ih3, ih4⟩ := hostlerlaw11_GuardKeeps.mono_l k
    refine ⟨?_, ?_, ?_, ?_, ?_⟩
    · intro y0 y1 y2 y3 y4 y5 y6
      unfold hostlerlaw11_GuardKeeps.l0
      repeat' first
      | (with_reducible exact ih0 _ _ _ _ _ _ _)
      | (with_reducible exact ih1 _ _ _ _ _ _ _ _)
      | (with_reducible exact ih2 _ _ _ _ _ _ _ _ _ _ _)
      | (with_reducible exact ih3 _ _ _ _ _ _ _ _ _ _)
      | (with_reducible exact ih4 _ _ _ _ _ _ _ _ _ _)
      | (with_reducible exact guard_Capacity.mono _ _ _)
      | (with_reducible exact guard_May.mono _ _ _ _ _)
      | (with_reducible exact guard_Spare.mono _ _ _ _)
      | (with_reducible exact hostlerlaw11_lives.mono _)
      | (with_reducible exact LeO.refl _)
      | (with_reducible exact LeO.none _)
      | (with_reducible refine LeO.ite ?_ ?_)
      | (with_reducible refine LeO.bind ?_ (fun _ => ?_))
      | exact ih0 _ _ _ _ _ _ _
      | exact ih1 _ _ _ _ _ _ _ _
      | exact ih2 _ _ _ _ _ _ _ _ _ _ _
      | exact ih3 _ _ _ _ _ _ _ _ _ _
      | exact ih4 _ _ _ _ _ _ _ _ _ _
      | exact guard_Capacity.mono _ _ _
      | exact guard_May.mono _ _ _ _ _
      | exact guard_Spare.mono _ _ _ _
      | exact hostlerlaw11_lives.mono _
      | exact LeO.none _
      | refine LeO.ite ?_ ?_
      | refine LeO.bind ?_ (fun _ => ?_)
    · intro y0 y1 y2 y3 y4 y5 y6 y7
      unfold hostlerlaw11_GuardKeeps.j1
      repeat' first
      | (with_reducible exact ih0 _ _ _ _ _ _ _)
      | (with_reducible exact ih1 _ _ _ _ _ _ _ _)
      | (with_reducible exact ih2 _ _ _ _ _ _ _ _ _ _ _)
      | (with_reducible exact ih3 _ _ _ _ _ _ _ _ _ _)
      | (with_reducible exact ih4 _ _ _ _ _ _ _ _ _ _)
      | (with_reducible exact guard_Capacity.mono _ _ _)
      | (with_reducible exact guard_May.mono _ _ _ _ _)
      | (with_reducible exact guard_Spare.mono _ _ _ _)
      | (with_reducible exact hostlerlaw11_lives.mono _)
      | (with_reducible exact LeO.refl _)
      | (with_reducible exact LeO.none _)
      | (with_reducible refine LeO.ite ?_ ?_)
      | (with_reducible refine LeO.bind ?_ (fun _ => ?_))
      | exact ih0 _ _ _ _ _ _ _
      | exact ih1 _ _ _ _ _ _ _ _
      | exact ih2 _ _ _ _ _ _ _ _ _ _ _
      | exact ih3 _ _ _ _ _ _ _ _ _ _
      | exact ih4 _ _ _ _ _ _ _ _ _ _
      | exact guard_Capacity.mono _ _ _
      | exact guard_May.mono _ _ _ _ _
      | exact guard_Spare.mono _ _ _ _
      | exact hostlerlaw11_lives.mono _
      | exact LeO.none _
      | refine LeO.ite ?_ ?_
      | refine LeO.bind ?_ (fun _ => ?_)
    · intro y0 y1 y2 y3 y4 y5 y6 y7 y8 y9 y10
      unfold hostlerlaw11_GuardKeeps.j2
      repeat' first
      | (with_reducible exact ih0 _ _ _ _ _ _ _)
      | (with_reducible exact ih1 _ _ _ _ _ _ _ _)
      | (with_reducible exact ih2 _ _ _ _ _ _ _ _ _ _ _)
      | (with_reducible exact ih3 _ _ _ _ _ _ _ _ _ _)
      | (with_reducible exact ih4 _ _ _ _ _ _ _ _ _ _)
      | (with_reducible exact guard_Capacity.mono _ _ _)
      | (with_reducible exact guard_May.mono _ _ _ _ _)
      | (with_reducible exact guard_Spare.mono _ _ _ _)
      | (with_reducible exact hostlerlaw11_lives.mono _)
      | (with_reducible exact LeO.refl _)
      | (with_reducible exact LeO.none _)
      | (with_reducible refine LeO.ite ?_ ?_)
      | (with_reducible refine LeO.bind ?_ (fun _ => ?_))
      | exact ih0 _ _ _ _ _ _ _
      | exact ih1 _ _ _ _ _ _ _ _
      | exact ih2 _ _ _ _ _ _ _ _ _ _ _
      | exact ih3 _ _ _ _ _ _ _ _ _ _
      | exact ih4 _ _ _ _ _ _ _ _ _ _
      | exact guard_Capacity.mono _ _ _
      | exact guard_May.mono _ _ _ _ _
      | exact guard_Spare.mono _ _ _ _
      | exact hostlerlaw11_lives.mono _
      | exact LeO.none _
      | refine LeO.ite ?_ ?_
      | refine LeO.bind ?_ (fun _ => ?_)
    · intro y0 y1 y2 y3 y4 y5 y6 y7 y8 y9
      unfold hostlerlaw11_GuardKeeps.j3
      repeat' first
      | (with_reducible exact ih0 _ _ _ _ _ _ _)
      | (with_reducible exact ih1 _ _ _ _ _ _ _ _)
      | (with_reducible exact ih2 _ _ _ _ _ _ _ _ _ _ _)
      | (with_reducible exact ih3 _ _ _ _ _ _ _ _ _ _)
      | (with_reducible exact ih4 _ _ _ _ _ _ _ _ _ _)
      | (with_reducible exact guard_Capacity.mono _ _ _)
      | (with_reducible exact guard_May.mono _ _ _ _ _)
      | (with_reducible exact guard_Spare.mono _ _ _ _)
      | (with_reducible exact hostlerlaw11_lives.mono _)
      | (with_reducible exact LeO.refl _)
      | (with_reducible exact LeO.none _)
      | (with_reducible refine LeO.ite ?_ ?_)
      | (with_reducible refine LeO.bind ?_ (fun _ => ?_))
      | exact ih0 _ _ _ _ _ _ _
      | exact ih1 _ _ _ _ _ _ _ _
      | exact ih2 _ _ _ _ _ _ _ _ _ _ _
      | exact ih3 _ _ _ _ _ _ _ _ _ _
      | exact ih4 _ _ _ _ _ _ _ _ _ _
      | exact guard_Capacity.mono _ _ _
      | exact guard_May.mono _ _ _ _ _
      | exact guard_Spare.mono _ _ _ _
      | exact hostlerlaw11_lives.mono _
      | exact LeO.none _
      | refine LeO.ite ?_ ?_
      | refine LeO.bind ?_ (fun _ => ?_)
    · intro y0 y1 y2 y3 y4 y5 y6 y7 y8 y9
      unfold hostlerlaw11_GuardKeeps.j4
      repeat' first
      | (with_reducible exact ih0 _ _ _ _ _ _ _)
      | (with_reducible exact ih1 _ _ _ _ _ _ _ _)
      | (with_reducible exact ih2 _ _ _ _ _ _ _ _ _ _ _)
      | (with_reducible exact ih3 _ _ _ _ _ _ _ _ _ _)
      | (with_reducible exact ih4 _ _ _ _ _ _ _ _ _ _)
      | (with_reducible exact guard_Capacity.mono _ _ _)
      | (with_reducible exact guard_May.mono _ _ _ _ _)
      | (with_reducible exact guard_Spare.mono _ _ _ _)
      | (with_reducible exact hostlerlaw11_lives.mono _)
      | (with_reducible exact LeO.refl _)
      | (with_reducible exact LeO.none _)
      | (with_reducible refine LeO.ite ?_ ?_)
      | (with_reducible refine LeO.bind ?_ (fun _ => ?_))
      | exact ih0 _ _ _ _ _ _ _
      | exact ih1 _ _ _ _ _ _ _ _
      | exact ih2 _ _ _ _ _ _ _ _ _ _ _
      | exact ih3 _ _ _ _ _ _ _ _ _ _
      | exact ih4 _ _ _ _ _ _ _ _ _ _
      | exact guard_Capacity.mono _ _ _
      | exact guard_May.mono _ _ _ _ _
      | exact guard_Spare.mono _ _ _ _
      | exact hostlerlaw11_lives.mono _
      | exact LeO.none _
      | refine LeO.ite ?_ ?_
      | refine LeO.bind ?_ (fun _ => ?_)
theorem hostlerlaw11_GuardKeeps.mono : ∀ a0 a1 a2 a3 k, LeO (hostlerlaw11_GuardKeeps.f k a0 a1 a2 a3) (hostlerlaw11_GuardKeeps.f (k + 1) a0 a1 a2 a3) := by
  intro a0 a1 a2 a3 k
  obtain ⟨ih0, ih1, ih2, ih3, ih4⟩ := hostlerlaw11_GuardKeeps.mono_l k
  unfold hostlerlaw11_GuardKeeps.f
  repeat' first
      | (with_reducible exact ih0 _ _ _ _ _ _ _)
      | (with_reducible exact ih1 _ _ _ _ _ _ _ _)
      | (with_reducible exact ih2 _ _ _ _ _ _ _ _ _ _ _)
      | (with_reducible exact ih3 _ _ _ _ _ _ _ _ _ _)
      | (with_reducible exact ih4 _ _ _ _ _ _ _ _ _ _)
      | (with_reducible exact guard_Capacity.mono _ _ _)
      | (with_reducible exact guard_May.mono _ _ _ _ _)
      | (with_reducible exact guard_Spare.mono _ _ _ _)
      | (with_reducible exact hostlerlaw11_lives.mono _)
      | (with_reducible exact LeO.refl _)
      | (with_reducible exact LeO.none _)
      | (with_reducible refine LeO.ite ?_ ?_)
      | (with_reducible refine LeO.bind ?_ (fun _ => ?_))
      | exact ih0 _ _ _ _ _ _ _
      | exact ih1 _ _ _ _ _ _ _ _
      | exact ih2 _ _ _ _ _ _ _ _ _ _ _
      | exact ih3 _ _ _ _ _ _ _ _ _ _
      | exact ih4 _ _ _ _ _ _ _ _ _ _
      | exact guard_Capacity.mono _ _ _
      | exact guard_May.mono _ _ _ _ _
      | exact guard_Spare.mono _ _ _ _
      | exact hostlerlaw11_lives.mono _
      | exact LeO.none _
      | refine LeO.ite ?_ ?_
      | refine LeO.bind ?_ (fun _ => ?_)
def hostlerlaw11_GuardKeeps.T5 : Bool × List (List Nat × List Nat) := (true, [([], []), ([0], [0]), ([1], [1]), ([2], [2]), ([3], [3]), ([4], [4]), ([], []), ([6], [6]), ([7], [7]), ([5, 8, 0, 1, 2, 3, 4, 5], [5]), ([8, 9, 0, 1, 2, 3, 4, 5, 6, 7, 8, 9], [8])])
def hostlerlaw11_GuardKeeps.B5 : List Nat := [0, 1, 3, 7, 15, 31, 0, 64, 192, 511, 1023]
theorem hostlerlaw11_GuardKeeps.tab5 : rtab .any (opsOf Try.f4 5) = hostlerlaw11_GuardKeeps.T5 := by kernel_rfl
theorem hostlerlaw11_GuardKeeps.bits5 : waitsOk hostlerlaw11_GuardKeeps.T5.2 hostlerlaw11_GuardKeeps.B5 = true := by kernel_rfl
set_option maxHeartbeats 8000000 in
set_option maxRecDepth 100000 in
theorem hostlerlaw11_GuardKeeps.calls (k : Nat) (A0 : Option Addr) (c0 : Nat) (l0 : List Int) (A1 : Option Addr) (c1 : Nat) (l1 : List Int) (a2_0 : Int) (a2_1 : Int) (r : Bool) (w : World) (hr0 : Kd.C (Kd.int .i64) w A0 l0.length l0) (hc0 : l0.length ≤ c0) (hr1 : Kd.C (Kd.int .i64) w A1 l1.length l1) (hc1 : l1.length ≤ c1) (h : hostlerlaw11_GuardKeeps.f k l0 l1 a2_0 a2_1 = some r) :
    Calls Try.prog 4 #[.slice A0 l0.length c0, .slice A1 l1.length c1, .agg #[.int .i64 a2_0, .int .i64 a2_1]] w fun e w' => e = .returned (.bool r) ∧ Below w.heap.size w w' := by
  have hu23 := Try.underlying23
  have HR0 := Aside0.mk hr0
  have HC0 := Aside0.mk hc0
  clear hr0 hc0
  have HR1 := Aside0.mk hr1
  have HC1 := Aside0.mk hc1
  clear hr1 hc1
  have HB := Aside0.mk (Below.refl w.heap.size w)
  have H : ((hostlerlaw11_lives.f k).bind fun t102 => (if t102 = true then ((hostlerlaw11_few.f l0).bind fun t103 => (if ([] : List Int).length + t103.length < 17592186044416 then ((some (([] : List Int) ++ t103 : List Int)).bind fun y106 => ((hostlerlaw11_near.f a2_1).bind fun t109 => ((guard_Spare.f k y106 (wrap64 (1 + (wrap64 (Int.tmod (IntKind.u64.wrap (a2_0)) 8)))) t109).bind fun t110 => (hostlerlaw11_GuardKeeps.l0 k l1 y106 (wrap64 (1 + (wrap64 (Int.tmod (IntKind.u64.wrap (a2_0)) 8)))) t109 t110 0 0)))) else (none))) else (none))) = some r := h
  clear h
  replace H := Option.bind_eq_some_iff.mp H
  obtain ⟨t102, A40, H⟩ := H
  replace H : (if t102 = true then ((hostlerlaw11_few.f l0).bind fun t103 => (if ([] : List Int).length + t103.length < 17592186044416 then ((some (([] : List Int) ++ t103 : List Int)).bind fun y106 => ((hostlerlaw11_near.f a2_1).bind fun t109 => ((guard_Spare.f k y106 (wrap64 (1 + (wrap64 (Int.tmod (IntKind.u64.wrap (a2_0)) 8)))) t109).bind fun t110 => (hostlerlaw11_GuardKeeps.l0 k l1 y106 (wrap64 (1 + (wrap64 (Int.tmod (IntKind.u64.wrap (a2_0)) 8)))) t109 t110 0 0)))) else (none))) else (none)) = some r := H
  have A4 := Aside0.mk A40
  clear A40
  by_cases c5 : t102 = true
  · subst c5
    have H1 : ((hostlerlaw11_few.f l0).bind fun t103 => (if ([] : List Int).length + t103.length < 17592186044416 then ((some (([] : List Int) ++ t103 : List Int)).bind fun y106 => ((hostlerlaw11_near.f a2_1).bind fun t109 => ((guard_Spare.f k y106 (wrap64 (1 + (wrap64 (Int.tmod (IntKind.u64.wrap (a2_0)) 8)))) t109).bind fun t110 => (hostlerlaw11_GuardKeeps.l0 k l1 y106 (wrap64 (1 + (wrap64 (Int.tmod (IntKind.u64.wrap (a2_0)) 8)))) t109 t110 0 0)))) else (none))) = some r := by rw [if_pos rfl] at H; exact H
    clear H
    have H := H1
    clear H1
    replace H := Option.bind_eq_some_iff.mp H
    obtain ⟨t103, A60, H⟩ := H
    replace H : (if ([] : List Int).length + t103.length < 17592186044416 then ((some (([] : List Int) ++ t103 : List Int)).bind fun y106 => ((hostlerlaw11_near.f a2_1).bind fun t109 => ((guard_Spare.f k y106 (wrap64 (1 + (wrap64 (Int.tmod (IntKind.u64.wrap (a2_0)) 8)))) t109).bind fun t110 => (hostlerlaw11_GuardKeeps.l0 k l1 y106 (wrap64 (1 + (wrap64 (Int.tmod (IntKind.u64.wrap (a2_0)) 8)))) t109 t110 0 0)))) else (none)) = some r := H
    have A6 := Aside0.mk A60
    clear A60
    by_cases c7 : ([] : List Int).length + t103.length < 17592186044416
    · rw [if_pos c7] at H
      have LMc7 := Aside0.mk c7
      clear c7
      obtain ⟨y106, hy106⟩ : ∃ y_ : List Int, y_ = (([] : List Int) ++ t103) := ⟨_, rfl⟩
      replace H : ((hostlerlaw11_near.f a2_1).bind fun t109 => ((guard_Spare.f k y106 (wrap64 (1 + (wrap64 (Int.tmod (IntKind.u64.wrap (a2_0)) 8)))) t109).bind fun t110 => (hostlerlaw11_GuardKeeps.l0 k l1 y106 (wrap64 (1 + (wrap64 (Int.tmod (IntKind.u64.wrap (a2_0)) 8)))) t109 t110 0 0))) = some r := by first | (rw [hy106]; with_reducible exact H) | (have H2_ := (Option.bind_some _ _).symm.trans H; rw [hy106]; with_reducible exact H2_) | (have H2_ := (Option.bind_some _ _).symm.trans H; with_reducible exact H2_) | with_reducible exact H | (rw [hy106]; exact H) | exact H
      have Ny106 := Aside0.mk hy106
      clear hy106
      replace H := Option.bind_eq_some_iff.mp H
      obtain ⟨t109, A80, H⟩ := H
      replace H : ((guard_Spare.f k y106 (wrap64 (1 + (wrap64 (Int.tmod (IntKind.u64.wrap (a2_0)) 8)))) t109).bind fun t110 => (hostlerlaw11_GuardKeeps.l0 k l1 y106 (wrap64 (1 + (wrap64 (Int.tmod (IntKind.u64.wrap (a2_0)) 8)))) t109 t110 0 0)) = some r := H
      have A8 := Aside0.mk A80
      clear A80
      replace H := Option.bind_eq_some_iff.mp H
      obtain ⟨t110, A90, H⟩ := H
      replace H : (hostlerlaw11_GuardKeeps.l0 k l1 y106 (wrap64 (1 + (wrap64 (Int.tmod (IntKind.u64.wrap (a2_0)) 8)))) t109 t110 0 0) = some r := H
      have A9 := Aside0.mk A90
      clear A90
      have H' := Aside0.mk H
      clear H
      go_enter Try.func4, Try.ntmps4
      try go_wp2_with (first | ((with_reducible refine gate_dst (N := 5) rfl ?_); refine box_event ?hg (N := 5) ?hd (cs := #[.int .i64 a2_0, .int .i64 a2_1]) (t := 23) ?hr ?_; (case hd => rfl); (case hg => rfl); (case hr => first | (go_simp; done) | (go_simp; rfl)); intro gb101 hg w10 hbox hb; have n0_ := Aside0.mk (below_step (by repeat (first | (with_reducible first | exact HB.out | apply below_alloc | apply pw_below_drewN | apply below_drew1) | exact HB.out)) hb); have n1_ := Aside0.mk (hbox); have n2_ := Aside0.mk ((by rw [hg]; exact (below_size (by repeat (first | (with_reducible first | exact HB.out | apply below_alloc | apply pw_below_drewN | apply below_drew1) | exact HB.out))) : w.heap.size ≤ gb101)); have n3_ := Aside0.mk ((by rw [hg]; exact (below_size (by repeat (first | (with_reducible first | exact HB.out | apply below_alloc | apply pw_below_drewN | apply below_drew1) | exact HB.out))) : w.heap.size ≤ gb101)); clear HB; have HB := n0_; have BK101 := n1_; have GW101 := n2_; have GE101 := n3_; clear n0_ n1_ n2_ n3_; clear hb hbox hg) | ((with_reducible refine gate_callee (f := 13) rfl ?_); refine goesL_ (some 17) rfl rfl Try.func13 (by kernel_rfl) rfl #[] rfl (by (try simp only [List.map_toArray, List.map_cons, List.map_nil]); first | done | rfl | (simp only [List.length_drop, List.length_take]; rfl)) ?_; (with_reducible refine (hostlerlaw11_lives.calls k  true _ A4.out).mono ?_); rintro e w11 ⟨rfl, hb⟩; refine ⟨_, rfl, ?_⟩; have n0_ := Aside0.mk (blk_below (g := gb101) (o := .cells #[.int .i64 a2_0, .int .i64 a2_1] 23 (0, 0)) (by (with_reducible repeat (first | refine blk_drewN ?_ _ | refine blk_drew ?_ | refine blk_alloc ?_ _)); exact BK101.out) hb); have n1_ := Aside0.mk (below_step (by repeat (first | (with_reducible first | exact HB.out | apply below_alloc | apply pw_below_drewN | apply below_drew1 | refine below_set ?_ GE101.out) | exact HB.out)) hb); clear BK101; clear HB; have BK101 := n0_; have HB := n1_; clear n0_ n1_; (try clear hb); (try clear hb2); (try clear hk); (try clear hi)) | ((with_reducible refine gate_callee (f := 14) rfl ?_); refine goesL_ (some 21) rfl rfl Try.func14 (by kernel_rfl) rfl #[.slice A0 l0.length c0] rfl (by (try simp only [List.map_toArray, List.map_cons, List.map_nil]); first | done | rfl | (simp only [List.length_drop, List.length_take]; rfl)) ?_; (with_reducible refine (hostlerlaw11_few.calls (fun k_ => k_ < w.heap.size) _ _ l0 t103 _ ?side1 A6.out).mono ?_); (case side1 => exact Kd.V_mk HC0.out (Kd.F_below (Kd.C_F (Kd.heap_int .i64) HR0.out) (by repeat (first | (with_reducible first | exact HB.out | apply below_alloc | apply pw_below_drewN | apply below_drew1 | refine below_set ?_ GE101.out) | exact HB.out)))); rintro e w12 ⟨v104, rfl, ho0, hb⟩; refine ⟨_, rfl, ?_⟩; have n0_ := Aside0.mk (Kd.V_lower (Kd.V_mono (ok' := fun k_ => k_ ≠ gb101) ho0 (fun k_ hk_ => Or.elim hk_ (fun hs_ => fun e_ => Nat.not_le.2 hs_ (by rw [e_]; exact GW101.out)) (fun hn_ => (Kd.freshB (g := gb101) (o := .cells #[.int .i64 a2_0, .int .i64 a2_1] 23 (0, 0)) (by (with_reducible repeat (first | refine blk_drewN ?_ _ | refine blk_drew ?_ | refine blk_alloc ?_ _)); exact BK101.out) k_ hn_)))) (below_size (by repeat (first | (with_reducible first | exact HB.out | apply below_alloc | apply pw_below_drewN | apply below_drew1 | refine below_set ?_ GE101.out) | exact HB.out)))); have n1_ := Aside0.mk (blk_below (g := gb101) (o := .cells #[.int .i64 a2_0, .int .i64 a2_1] 23 (0, 0)) (by (with_reducible repeat (first | refine blk_drewN ?_ _ | refine blk_drew ?_ | refine blk_alloc ?_ _)); exact BK101.out) hb); have n2_ := Aside0.mk (below_step (by repeat (first | (with_reducible first | exact HB.out | apply below_alloc | apply pw_below_drewN | apply below_drew1 | refine below_set ?_ GE101.out) | exact HB.out)) hb); clear BK101; clear HB; have HO105 := n0_; have BK101 := n1_; have HB := n2_; clear n0_ n1_ n2_; (try clear hb); (try clear hb2); (try clear hk); (try clear hi); (try clear ho0); obtain ⟨Ao14, co14, eo14⟩ := Kd.V_slice HO105.out; subst eo14) | ((with_reducible refine gate_builtin (b := .append) (xs := #[.tmp 19, .tmp 21]) rfl ?_); at_builtin; refine Kd.R_append_rows (Kd.int .i64) (w0 := w) w.heap.size rfl (.tmp 19) (.tmp 21) 22 3 (.int .i64 0) 8 rfl Try.underlying22 info3 rfl (by decide) (by omega) (.slice none 0 0) ([] : List Int) t103 _ _ _ (fun _ => True) (fun _ => False) rfl rfl ?aO ?aR (fun _ _ h => h) (fun _ h => h.elim) ?aF ?aB ?aS ?aL ?_; (case aR => repeat (first | exact (Kd.V_reads' HO105.out).2.2 | (with_reducible refine Kd.C_alloc ?_ _) | (with_reducible refine Kd.C_drewN ?_ _) | (with_reducible refine Kd.C_drew ?_))); (case aB => exact (by repeat (first | (with_reducible first | exact HB.out | apply below_alloc | apply pw_below_drewN | apply below_drew1 | refine below_set ?_ GE101.out) | exact HB.out))); (case aF => exact (fun _ _ => trivial)); (case aO => exact ((Kd.R_nil _ _ _ _ (fun _ => True)))); (case aS => exact (below_size (by repeat (first | (with_reducible first | exact HB.out | apply below_alloc | apply pw_below_drewN | apply below_drew1 | refine below_set ?_ GE101.out) | exact HB.out)))); (case aL => have := LMc7.out; omega); intro v107 w13 ho hb hg hat; rw [← Ny106.out] at ho; have n0_ := Aside0.mk (blk_grown (g := gb101) (o := .cells #[.int .i64 a2_0, .int .i64 a2_1] 23 (0, 0)) (by (with_reducible repeat (first | refine blk_drewN ?_ _ | refine blk_drew ?_ | refine blk_alloc ?_ _)); exact BK101.out) hg (by simp [Value.ownBlock])); have n1_ := Aside0.mk (Kd.V_afterv (Kd.V_apart_nil (by (with_reducible repeat (first | apply Kd.V_alloc | apply Kd.V_drewN | apply Kd.V_drew)); exact HO105.out)) hg hat); have n2_ := Aside0.mk (hb); have n3_ := Aside0.mk (ho); clear BK101; clear HO105; clear HB; have BK101 := n0_; have HO105 := n1_; have HB := n2_; have HO108 := n3_; clear n0_ n1_ n2_ n3_; clear ho hb hg hat))
      have n0_ := Aside0.mk (Kd.V_drew HO105.out)
      have n1_ := Aside0.mk (Kd.R_drew HO108.out)
      have n2_ := Aside0.mk (blk_drew BK101.out)
      have n3_ := Aside0.mk (below_drew1 HB.out)
      clear HO105
      clear HO108
      clear BK101
      clear HB
      have HO105 := n0_
      have HO108 := n1_
      have BK101 := n2_
      have HB := n3_
      clear n0_ n1_ n2_ n3_
      refine start_ (n := 11) (S := fun w' => w'.cell? ⟨gb101, 0, none⟩ = some (.int .i64 a2_0) ∧ w'.cell? ⟨gb101, 1, none⟩ = some (.int .i64 a2_1)) (ds := []) #[false, false, false, false, false, false, false, false, false, false, false] (by kernel_rfl) rfl rfl ⟨(blk_cell BK101.out 0).trans rfl, (blk_cell BK101.out 1).trans rfl⟩ (fun hHeld => ?_); refine with_tabW hostlerlaw11_GuardKeeps.tab5 hostlerlaw11_GuardKeeps.bits5 (fun HT_ HW_ => ?_)
      generalize w13.drew = w15 at HO105 HO108 BK101 HB hHeld ⊢
      refine pure_ (i := 0) (N := some 23) (v := ?_) (a' := ?_) #[true, false, false, false, false, false, false, false, false, false, false] rfl rfl (any_of HT_.out (by kernel_rfl)) (fun _ _ _ h => h) (Or.inl ⟨by rfl, ?_⟩) ?_ ?_
      rotate_left
      · intro w'
        go_simp
        with_reducible rfl
      rotate_left
      · simp only [Act.put, List.setIfInBounds_toArray, List.set_cons_zero, List.set_cons_succ, i64_w, i32_w]
        rfl
      refine pure_ (i := 6) (N := some 29) (v := ?_) (a' := ?_) #[true, false, false, false, false, false, true, false, false, false, false] rfl rfl (any_of HT_.out (by kernel_rfl)) (fun _ _ _ h => h) (Or.inl ⟨by rfl, ?_⟩) ?_ ?_
      rotate_left
      · intro w'
        go_simp
        with_reducible rfl
      rotate_left
      · simp only [Act.put, List.setIfInBounds_toArray, List.set_cons_zero, List.set_cons_succ, i64_w, i32_w]
        rfl
      refine take_ (i := 1) (N := some 24) (v := ?_) (a' := ?_) #[true, true, false, false, false, false, true, false, false, false, false] rfl rfl (take_ofW HT_.out HW_.out (by kernel_rfl)) (fun _ _ _ h => h) (Or.inl ⟨by rfl, ?_⟩) hHeld ?_ ?_
      rotate_left
      · rintro w' ⟨s0, s1⟩
        go_simp
        with_reducible rfl
      rotate_left
      · simp only [Act.put, List.setIfInBounds_toArray, List.set_cons_zero, List.set_cons_succ, i64_w, i32_w]
        rfl
      refine pure_ (i := 2) (N := some 25) (v := ?_) (a' := ?_) #[true, true, true, false, false, false, true, false, false, false, false] rfl rfl (any_of HT_.out (by kernel_rfl)) (fun _ _ _ h => h) (Or.inl ⟨by rfl, ?_⟩) ?_ ?_
      rotate_left
      · intro w'
        go_simp
        with_reducible rfl
      rotate_left
      · simp only [Act.put, List.setIfInBounds_toArray, List.set_cons_zero, List.set_cons_succ, i64_w, i32_w]
        rfl
      refine pure_ (i := 3) (N := some 26) (v := ?_) (a' := ?_) #[true, true, true, true, false, false, true, false, false, false, false] rfl rfl (any_of HT_.out (by kernel_rfl)) (fun _ _ _ h => h) (Or.inl ⟨by rfl, ?_⟩) ?_ ?_
      rotate_left
      · intro w'
        go_simp
        with_reducible rfl
      rotate_left
      · simp only [Act.put, List.setIfInBounds_toArray, List.set_cons_zero, List.set_cons_succ, i64_w, i32_w]
        rfl
      refine pure_ (i := 4) (N := some 27) (v := ?_) (a' := ?_) #[true, true, true, true, true, false, true, false, false, false, false] rfl rfl (any_of HT_.out (by kernel_rfl)) (fun _ _ _ h => h) (Or.inl ⟨by rfl, ?_⟩) ?_ ?_
      rotate_left
      · intro w'
        go_simp
        with_reducible rfl
      rotate_left
      · simp only [Act.put, List.setIfInBounds_toArray, List.set_cons_zero, List.set_cons_succ, i64_w, i32_w]
        rfl
      refine pure_ (i := 5) (N := some 28) (v := ?_) (a' := ?_) #[true, true, true, true, true, true, true, false, false, false, false] rfl rfl (any_of HT_.out (by kernel_rfl)) (fun _ _ _ h => h) (Or.inl ⟨by rfl, ?_⟩) ?_ ?_
      rotate_left
      · intro w'
        go_simp
        with_reducible rfl
      rotate_left
      · simp only [Act.put, List.setIfInBounds_toArray, List.set_cons_zero, List.set_cons_succ, i64_w, i32_w]
        rfl
      refine take_ (i := 7) (N := some 30) (v := ?_) (a' := ?_) #[true, true, true, true, true, true, true, true, false, false, false] rfl rfl (take_ofW HT_.out HW_.out (by kernel_rfl)) (fun _ _ _ h => h) (Or.inl ⟨by rfl, ?_⟩) hHeld ?_ ?_
      rotate_left
      · rintro w' ⟨s0, s1⟩
        go_simp
        with_reducible rfl
      rotate_left
      · simp only [Act.put, List.setIfInBounds_toArray, List.set_cons_zero, List.set_cons_succ, i64_w, i32_w]
        rfl
      refine one_ (i := 8) (N := some 31) #[true, true, true, true, true, true, true, true, true, false, false] rfl rfl (one_of HT_.out (by kernel_rfl)) (by decide) (fun K hK => ?_)
      refine goes_ Try.func15 (by kernel_rfl) rfl #[.int .i64 a2_1] (by rfl) rfl rfl (by (try simp only [List.map_toArray, List.map_cons, List.map_nil]); first | done | rfl | (simp only [List.length_drop, List.length_take]; rfl)) ?_
      with_reducible refine (hostlerlaw11_near.calls a2_1 t109 _ A8.out).mono ?_
      rintro e w16 ⟨rfl, hb⟩
      refine ⟨_, rfl, ?_⟩
      have n0_ := Aside0.mk (Kd.V_below (by (with_reducible repeat (first | apply Kd.V_alloc | apply Kd.V_drewN | apply Kd.V_drew)); exact HO105.out) hb)
      have n1_ := Aside0.mk (Kd.R_below (by (with_reducible repeat (first | apply Kd.R_alloc | apply Kd.R_drewN | apply Kd.R_drew)); exact HO108.out) hb)
      have n2_ := Aside0.mk (blk_below (g := gb101) (o := .cells #[.int .i64 a2_0, .int .i64 a2_1] 23 (0, 0)) (by (with_reducible repeat (first | refine blk_drewN ?_ _ | refine blk_drew ?_ | refine blk_alloc ?_ _)); exact BK101.out) hb)
      have n3_ := Aside0.mk (below_step (by repeat (first | (with_reducible first | exact HB.out | apply below_alloc | apply pw_below_drewN | apply below_drew1 | refine below_set ?_ GE101.out) | exact HB.out)) hb)
      clear HO105
      clear HO108
      clear BK101
      clear HB
      have HO105 := n0_
      have HO108 := n1_
      have BK101 := n2_
      have HB := n3_
      clear n0_ n1_ n2_ n3_
      (try clear hb)
      (try clear hb2)
      (try clear hk)
      (try clear hi)
      refine hK.out _ _ ⟨(blk_cell BK101.out 0).trans rfl, (blk_cell BK101.out 1).trans rfl⟩ (fun hHeld => ?_)
      clear hK K
      refine norm_ (a' := ?_) ?_ ?_
      rotate_left
      · show Act.put _ (some 31) _ = _
        simp only [Act.put, List.setIfInBounds_toArray, List.set_cons_zero, List.set_cons_succ, i64_w, i32_w]
        rfl
      refine pure_ (i := 9) (N := some 8) (v := ?_) (a' := ?_) #[true, true, true, true, true, true, true, true, true, true, false] rfl rfl (any_of HT_.out (by kernel_rfl)) (fun _ _ _ h => h) (Or.inl ⟨by rfl, ?_⟩) ?_ ?_
      rotate_left
      · intro w'
        go_simp
        with_reducible rfl
      rotate_left
      · simp only [Act.put, List.setIfInBounds_toArray, List.set_cons_zero, List.set_cons_succ, i64_w, i32_w]
        rfl
      refine pure_ (i := 10) (N := some 9) (v := ?_) (a' := ?_) #[true, true, true, true, true, true, true, true, true, true, true] rfl rfl (any_of HT_.out (by kernel_rfl)) (fun _ _ _ h => h) (Or.inl ⟨by rfl, ?_⟩) ?_ ?_
      rotate_left
      · intro w'
        go_simp
        with_reducible rfl
      rotate_left
      · simp only [Act.put, List.setIfInBounds_toArray, List.set_cons_zero, List.set_cons_succ, i64_w, i32_w]
        rfl
      refine done_ (done_of HT_.out (by kernel_rfl)) ?_
      obtain ⟨Ao17, co17, eo17⟩ := Kd.R_slice HO108.out
      subst eo17
      try go_wp2_with (first | ((with_reducible refine gate_callee (f := 17) rfl ?_); refine goesL_ (some 35) rfl rfl Try.func17 (by kernel_rfl) rfl #[.slice Ao17 y106.length co17, .int .i64 (wrap64 (1 + (wrap64 (Int.tmod (IntKind.u64.wrap (a2_0)) 8)))), .int .i64 t109] rfl (by (try simp only [List.map_toArray, List.map_cons, List.map_nil]); first | done | rfl | (simp only [List.length_drop, List.length_take]; rfl)) ?_; (with_reducible refine (guard_Spare.calls k _ _ y106 (wrap64 (1 + (wrap64 (Int.tmod (IntKind.u64.wrap (a2_0)) 8)))) t109 t110 _ ?side1 ?side2 A9.out).mono ?_); (case side1 => repeat (first | exact (Kd.R_reads' HO108.out).2.2 | (with_reducible refine Kd.C_alloc ?_ _) | (with_reducible refine Kd.C_drewN ?_ _) | (with_reducible refine Kd.C_drew ?_))); (case side2 => exact (Kd.R_reads' HO108.out).2.1); rintro e w18 ⟨rfl, hb⟩; refine ⟨_, rfl, ?_⟩; have n0_ := Aside0.mk (Kd.V_below (by (with_reducible repeat (first | apply Kd.V_alloc | apply Kd.V_drewN | apply Kd.V_drew)); exact HO105.out) hb); have n1_ := Aside0.mk (Kd.R_below (by (with_reducible repeat (first | apply Kd.R_alloc | apply Kd.R_drewN | apply Kd.R_drew)); exact HO108.out) hb); have n2_ := Aside0.mk (blk_below (g := gb101) (o := .cells #[.int .i64 a2_0, .int .i64 a2_1] 23 (0, 0)) (by (with_reducible repeat (first | refine blk_drewN ?_ _ | refine blk_drew ?_ | refine blk_alloc ?_ _)); exact BK101.out) hb); have n3_ := Aside0.mk (below_step (by repeat (first | (with_reducible first | exact HB.out | apply below_alloc | apply pw_below_drewN | apply below_drew1 | refine below_set ?_ GE101.out) | exact HB.out)) hb); clear HO105; clear HO108; clear BK101; clear HB; have HO105 := n0_; have HO108 := n1_; have BK101 := n2_; have HB := n3_; clear n0_ n1_ n2_ n3_; (try clear hb); (try clear hb2); (try clear hk); (try clear hi)))
      go_loopg [11, 12] k (fun kq v11 v12 w' => ∃ (x7_1 : List Int) (x11_1 : Int) (x12_1 : Int), v11 = .int .i64 x11_1 ∧ v12 = .int .i64 x12_1 ∧ Aside0 (hostlerlaw11_GuardKeeps.l0 kq l1 x7_1 (wrap64 (1 + (wrap64 (Int.tmod (IntKind.u64.wrap (a2_0)) 8)))) t109 t110 x11_1 x12_1 = some r) ∧ Aside0 (kq ≤ k) ∧ Aside0 (Kd.R (Kd.int .i64) 3 w' w.heap.size (fun _ => True) (.slice Ao17 y106.length co17) x7_1) ∧ Aside0 (w'.heap[gb101]? = some (.cells #[.int .i64 a2_0, .int .i64 a2_1] 23 (0, 0))) ∧ Aside0 (Below w.heap.size w w'))
      case atStart => exact ⟨(y106), (0), (0), (by first | rfl | (simp; done) | (simp [*]; done)), (by first | rfl | (simp; done) | (simp [*]; done)), H', ⟨Nat.le_refl _⟩, ⟨by (with_reducible repeat (first | apply Kd.R_alloc | apply Kd.R_drewN | apply Kd.R_drew)); exact HO108.out⟩, ⟨by (with_reducible repeat (first | refine blk_drewN ?_ _ | refine blk_drew ?_ | refine blk_alloc ?_ _)); exact BK101.out⟩, ⟨by repeat (first | (with_reducible first | exact HB.out | apply below_alloc | apply pw_below_drewN | apply below_drew1 | refine below_set ?_ GE101.out) | exact HB.out)⟩⟩
      case round =>
        clear H'
        try clear c1
        try clear p2
        try clear c4
        try clear c5
        try clear p6
        try clear c7
        try clear c13
        try clear c14
        try clear c15
        try clear c17
        obtain ⟨x7_1, x11_1, x12_1, rfl, rfl, HA, HK1, HO_7, BK101, HB⟩ := hrel
        have hl7_1 := (Kd.R_reads' HO_7.out).1
        rw [hl7_1] at HO_7
        (try simp only [hl7_1])
        (try simp only [hl7_1] at BK101)
        cases gk with
        | zero => exact absurd HA.out (by simp [hostlerlaw11_GuardKeeps.l0])
        | succ k1 =>
          have H := HA.out
          clear HA
          simp only [hostlerlaw11_GuardKeeps.l0] at H
          have HC19 := Aside0.mk H
          clear H
          go_upto_region 9 with (fail)
          go_cut [43] (fun v43 wc => ∃ (kq : Nat) (x43_18 : Bool), v43 = .bool x43_18 ∧ Aside0 (hostlerlaw11_GuardKeeps.j1 kq l1 x7_1 (wrap64 (1 + (wrap64 (Int.tmod (IntKind.u64.wrap (a2_0)) 8)))) t109 t110 x11_1 x12_1 x43_18 = some r) ∧ Aside0 (kq ≤ k1) ∧ Aside0 (Kd.R (Kd.int .i64) 3 wc w.heap.size (fun _ => True) (.slice Ao17 x7_1.length co17) x7_1) ∧ Aside0 (wc.heap[gb101]? = some (.cells #[.int .i64 a2_0, .int .i64 a2_1] 23 (0, 0))) ∧ Aside0 (Below w.heap.size w wc))
          case first =>
            have H := HC19.out
            clear HC19
            by_cases c20 : x12_1 < (l1.length : Int)
            · rw [if_pos c20] at H
              have c20b0 : decide (x12_1 < (l1.length : Int)) = true := decide_eq_true c20
              clear c20
              (first | rw [c20b0] | (simp only [i64_w, i32_w]; rw [c20b0]) | skip)
              have H' := Aside0.mk H
              clear H
              go_wp2
              go_meet
              case rel => exact ⟨_, (decide (x12_1 < 40)), (by first | rfl | (simp; done) | (simp [*]; done)), H', ⟨by have := HK1.out; first | omega | exact Nat.le_refl _⟩, ⟨by (try simp only [hl7_1]); (with_reducible repeat (first | apply Kd.R_alloc | apply Kd.R_drewN | apply Kd.R_drew)); exact HO_7.out⟩, ⟨by (try simp only [hl7_1]); (with_reducible repeat (first | refine blk_drewN ?_ _ | refine blk_drew ?_ | refine blk_alloc ?_ _)); exact BK101.out⟩, ⟨by repeat (first | (with_reducible first | exact HB.out | apply below_alloc | apply pw_below_drewN | apply below_drew1 | refine below_set ?_ GE101.out) | exact HB.out)⟩⟩
            · rw [if_neg c20] at H
              have c20b0 : decide (x12_1 < (l1.length : Int)) = false := decide_eq_false c20
              clear c20
              (first | rw [c20b0] | (simp only [i64_w, i32_w]; rw [c20b0]) | skip)
              have H' := Aside0.mk H
              clear H
              go_wp2
              go_meet
              case rel => exact ⟨_, (false), (by first | rfl | (simp; done) | (simp [*]; done)), H', ⟨by have := HK1.out; first | omega | exact Nat.le_refl _⟩, ⟨by (try simp only [hl7_1]); (with_reducible repeat (first | apply Kd.R_alloc | apply Kd.R_drewN | apply Kd.R_drew)); exact HO_7.out⟩, ⟨by (try simp only [hl7_1]); (with_reducible repeat (first | refine blk_drewN ?_ _ | refine blk_drew ?_ | refine blk_alloc ?_ _)); exact BK101.out⟩, ⟨by repeat (first | (with_reducible first | exact HB.out | apply below_alloc | apply pw_below_drewN | apply below_drew1 | refine below_set ?_ GE101.out) | exact HB.out)⟩⟩
          case rest =>
            clear HC19
            try clear c1
            try clear c2
            try clear p2
            try clear c4
            try clear c5
            try clear p6
            try clear c7
            try clear c13
            try clear c14
            try clear c15
            try clear c17
            try clear c20
            try clear c20b0
            try clear p2
            try clear p6
            obtain ⟨kq, x43_18, rfl, HA, HJ18, HO_7, BK101, HB⟩ := hcut
            cases kq with
            | zero => exact absurd HA.out (by simp [hostlerlaw11_GuardKeeps.j1])
            | succ kj18 =>
              have H := HA.out
              clear HA
              simp only [hostlerlaw11_GuardKeeps.j1] at H
              by_cases c21 : x43_18 = true
              · subst c21
                have H1 : (if (x7_1.length : Int) = 0 then (some true) else (if 0 ≤ x12_1 then (if x12_1 < (l1.length : Int) then (if (IntKind.u64.wrap ((x7_1.length : Int))) = 0 then (none) else ((guard_Capacity.f kj18 x7_1 (wrap64 (1 + (wrap64 (Int.tmod (IntKind.u64.wrap (a2_0)) 8))))).bind fun t112 => ((guard_May.f kj18 x7_1 (wrap64 (Int.tmod (IntKind.u64.wrap (rd l1 x12_1)) (IntKind.u64.wrap ((x7_1.length : Int))))) (wrap64 (1 + (wrap64 (Int.tmod (IntKind.u64.wrap (a2_0)) 8)))) t109).bind fun t113 => (if t113 = true then (if 0 ≤ (wrap64 (Int.tmod (IntKind.u64.wrap (rd l1 x12_1)) (IntKind.u64.wrap ((x7_1.length : Int))))) then (if (wrap64 (Int.tmod (IntKind.u64.wrap (rd l1 x12_1)) (IntKind.u64.wrap ((x7_1.length : Int))))) < (x7_1.length : Int) then (hostlerlaw11_GuardKeeps.j2 kj18 l1 x7_1 (wrap64 (1 + (wrap64 (Int.tmod (IntKind.u64.wrap (a2_0)) 8)))) t109 t110 x11_1 x12_1 (wrap64 (Int.tmod (IntKind.u64.wrap (rd l1 x12_1)) (IntKind.u64.wrap ((x7_1.length : Int))))) t112 t113 ((rd x7_1 (wrap64 (Int.tmod (IntKind.u64.wrap (rd l1 x12_1)) (IntKind.u64.wrap ((x7_1.length : Int)))))) == 0)) else (none)) else (none)) else (hostlerlaw11_GuardKeeps.j2 kj18 l1 x7_1 (wrap64 (1 + (wrap64 (Int.tmod (IntKind.u64.wrap (a2_0)) 8)))) t109 t110 x11_1 x12_1 (wrap64 (Int.tmod (IntKind.u64.wrap (rd l1 x12_1)) (IntKind.u64.wrap ((x7_1.length : Int))))) t112 t113 false))))) else (none)) else (none))) = some r := by rw [if_pos rfl] at H; exact H
                clear H
                have H := H1
                clear H1
                by_cases c22 : (x7_1.length : Int) = 0
                · rw [if_pos c22] at H
                  have c22b0 : ((x7_1.length : Int) == 0) = true := beq_iff_eq.mpr c22
                  have c22b1 : ((x7_1.length : Int) != 0) = false := bne_eq_false_iff_eq.mpr c22
                  clear c22
                  obtain rfl := Option.some.inj H
                  go_wp2
                  go_ret
                  exact ⟨by first | rfl | (simp [errW_none, errW_some] <;> rfl) | (simp [*, errW_none, errW_some] <;> rfl), by repeat (first | (with_reducible first | exact HB.out | apply below_alloc | apply pw_below_drewN | apply below_drew1 | refine below_set ?_ GE101.out) | exact HB.out)⟩
                · rw [if_neg c22] at H
                  have c22b0 : ((x7_1.length : Int) == 0) = false := beq_eq_false_iff_ne.mpr c22
                  have c22b1 : ((x7_1.length : Int) != 0) = true := bne_iff_ne.mpr c22
                  have c22b2 : ¬ (x7_1 = []) := fun h_ => c22 (by rw [h_]; rfl)
                  by_cases c23 : 0 ≤ x12_1
                  · rw [if_pos c23] at H
                    have c23b0 : decide (0 ≤ x12_1) = true := decide_eq_true c23
                    clear c23
                    by_cases c24 : x12_1 < (l1.length : Int)
                    · rw [if_pos c24] at H
                      have c24b0 : decide (x12_1 < (l1.length : Int)) = true := decide_eq_true c24
                      clear c24
                      by_cases c25 : (IntKind.u64.wrap ((x7_1.length : Int))) = 0
                      · rw [if_pos c25] at H
                        exact absurd H (by simp)
                      · rw [if_neg c25] at H
                        have c25b0 : ((IntKind.u64.wrap ((x7_1.length : Int))) == 0) = false := beq_eq_false_iff_ne.mpr c25
                        have c25b1 : ((IntKind.u64.wrap ((x7_1.length : Int))) != 0) = true := bne_iff_ne.mpr c25
                        replace H := Option.bind_eq_some_iff.mp H
                        obtain ⟨t112, A260, H⟩ := H
                        replace H : ((guard_May.f kj18 x7_1 (wrap64 (Int.tmod (IntKind.u64.wrap (rd l1 x12_1)) (IntKind.u64.wrap ((x7_1.length : Int))))) (wrap64 (1 + (wrap64 (Int.tmod (IntKind.u64.wrap (a2_0)) 8)))) t109).bind fun t113 => (if t113 = true then (if 0 ≤ (wrap64 (Int.tmod (IntKind.u64.wrap (rd l1 x12_1)) (IntKind.u64.wrap ((x7_1.length : Int))))) then (if (wrap64 (Int.tmod (IntKind.u64.wrap (rd l1 x12_1)) (IntKind.u64.wrap ((x7_1.length : Int))))) < (x7_1.length : Int) then (hostlerlaw11_GuardKeeps.j2 kj18 l1 x7_1 (wrap64 (1 + (wrap64 (Int.tmod (IntKind.u64.wrap (a2_0)) 8)))) t109 t110 x11_1 x12_1 (wrap64 (Int.tmod (IntKind.u64.wrap (rd l1 x12_1)) (IntKind.u64.wrap ((x7_1.length : Int))))) t112 t113 ((rd x7_1 (wrap64 (Int.tmod (IntKind.u64.wrap (rd l1 x12_1)) (IntKind.u64.wrap ((x7_1.length : Int)))))) == 0)) else (none)) else (none)) else (hostlerlaw11_GuardKeeps.j2 kj18 l1 x7_1 (wrap64 (1 + (wrap64 (Int.tmod (IntKind.u64.wrap (a2_0)) 8)))) t109 t110 x11_1 x12_1 (wrap64 (Int.tmod (IntKind.u64.wrap (rd l1 x12_1)) (IntKind.u64.wrap ((x7_1.length : Int))))) t112 t113 false))) = some r := H
                        have A26 := Aside0.mk A260
                        clear A260
                        replace H := Option.bind_eq_some_iff.mp H
                        obtain ⟨t113, A270, H⟩ := H
                        replace H : (if t113 = true then (if 0 ≤ (wrap64 (Int.tmod (IntKind.u64.wrap (rd l1 x12_1)) (IntKind.u64.wrap ((x7_1.length : Int))))) then (if (wrap64 (Int.tmod (IntKind.u64.wrap (rd l1 x12_1)) (IntKind.u64.wrap ((x7_1.length : Int))))) < (x7_1.length : Int) then (hostlerlaw11_GuardKeeps.j2 kj18 l1 x7_1 (wrap64 (1 + (wrap64 (Int.tmod (IntKind.u64.wrap (a2_0)) 8)))) t109 t110 x11_1 x12_1 (wrap64 (Int.tmod (IntKind.u64.wrap (rd l1 x12_1)) (IntKind.u64.wrap ((x7_1.length : Int))))) t112 t113 ((rd x7_1 (wrap64 (Int.tmod (IntKind.u64.wrap (rd l1 x12_1)) (IntKind.u64.wrap ((x7_1.length : Int)))))) == 0)) else (none)) else (none)) else (hostlerlaw11_GuardKeeps.j2 kj18 l1 x7_1 (wrap64 (1 + (wrap64 (Int.tmod (IntKind.u64.wrap (a2_0)) 8)))) t109 t110 x11_1 x12_1 (wrap64 (Int.tmod (IntKind.u64.wrap (rd l1 x12_1)) (IntKind.u64.wrap ((x7_1.length : Int))))) t112 t113 false)) = some r := H
                        have A27 := Aside0.mk A270
                        clear A270
                        have HC28 := Aside0.mk H
                        clear H
                        have p111 : 0 ≤ (x12_1 : Int) := of_decide_eq_true (by first | (with_reducible assumption) | assumption)
                        have q111 : x12_1 < (l1.length : Int) := of_decide_eq_true (by first | (with_reducible assumption) | assumption)
                        obtain ⟨ad111, e111, hx111_0⟩ := Kd.at_int HR1.out x12_1 p111 q111
                        cases e111
                        replace hx111_0 := (HB.out.cell (World.block_lt_of_cell? w _ hx111_0)).trans hx111_0
                        replace p111 := eq_true p111
                        replace q111 := eq_true q111
                        go_upto_region 16 with (first | ((with_reducible refine gate_callee (f := 16) rfl ?_); refine goesL_ (some 61) rfl rfl Try.func16 (by kernel_rfl) rfl #[.slice Ao17 x7_1.length co17, .int .i64 (wrap64 (1 + (wrap64 (Int.tmod (IntKind.u64.wrap (a2_0)) 8))))] rfl (by (try simp only [List.map_toArray, List.map_cons, List.map_nil]); first | done | rfl | (simp only [List.length_drop, List.length_take]; rfl)) ?_; (with_reducible refine (guard_Capacity.calls kj18 _ _ x7_1 (wrap64 (1 + (wrap64 (Int.tmod (IntKind.u64.wrap (a2_0)) 8)))) t112 _ ?side1 ?side2 A26.out).mono ?_); (case side1 => repeat (first | exact (Kd.R_reads' HO_7.out).2.2 | (with_reducible refine Kd.C_alloc ?_ _) | (with_reducible refine Kd.C_drewN ?_ _) | (with_reducible refine Kd.C_drew ?_))); (case side2 => exact (Kd.R_reads' HO_7.out).2.1); rintro e w29 ⟨rfl, hb⟩; refine ⟨_, rfl, ?_⟩; have n0_ := Aside0.mk (Kd.R_below (by (with_reducible repeat (first | apply Kd.R_alloc | apply Kd.R_drewN | apply Kd.R_drew)); exact HO_7.out) hb); have n1_ := Aside0.mk (blk_below (g := gb101) (o := .cells #[.int .i64 a2_0, .int .i64 a2_1] 23 (0, 0)) (by (with_reducible repeat (first | refine blk_drewN ?_ _ | refine blk_drew ?_ | refine blk_alloc ?_ _)); exact BK101.out) hb); have n2_ := Aside0.mk (below_step (by repeat (first | (with_reducible first | exact HB.out | apply below_alloc | apply pw_below_drewN | apply below_drew1 | refine below_set ?_ GE101.out) | exact HB.out)) hb); clear HO_7; clear BK101; clear HB; have HO_7 := n0_; have BK101 := n1_; have HB := n2_; clear n0_ n1_ n2_; (try clear hb); (try clear hb2); (try clear hk); (try clear hi)) | ((with_reducible refine gate_callee (f := 18) rfl ?_); refine goesL_ (some 66) rfl rfl Try.func18 (by kernel_rfl) rfl #[.slice Ao17 x7_1.length co17, .int .i64 (wrap64 (Int.tmod (IntKind.u64.wrap (rd l1 x12_1)) (IntKind.u64.wrap ((x7_1.length : Int))))), .int .i64 (wrap64 (1 + (wrap64 (Int.tmod (IntKind.u64.wrap (a2_0)) 8)))), .int .i64 t109] rfl (by (try simp only [List.map_toArray, List.map_cons, List.map_nil]); first | done | rfl | (simp only [List.length_drop, List.length_take]; rfl)) ?_; (with_reducible refine (guard_May.calls kj18 _ _ x7_1 (wrap64 (Int.tmod (IntKind.u64.wrap (rd l1 x12_1)) (IntKind.u64.wrap ((x7_1.length : Int))))) (wrap64 (1 + (wrap64 (Int.tmod (IntKind.u64.wrap (a2_0)) 8)))) t109 t113 _ ?side1 ?side2 A27.out).mono ?_); (case side1 => repeat (first | exact (Kd.R_reads' HO_7.out).2.2 | (with_reducible refine Kd.C_alloc ?_ _) | (with_reducible refine Kd.C_drewN ?_ _) | (with_reducible refine Kd.C_drew ?_))); (case side2 => exact (Kd.R_reads' HO_7.out).2.1); rintro e w30 ⟨rfl, hb⟩; refine ⟨_, rfl, ?_⟩; have n0_ := Aside0.mk (Kd.R_below (by (with_reducible repeat (first | apply Kd.R_alloc | apply Kd.R_drewN | apply Kd.R_drew)); exact HO_7.out) hb); have n1_ := Aside0.mk (blk_below (g := gb101) (o := .cells #[.int .i64 a2_0, .int .i64 a2_1] 23 (0, 0)) (by (with_reducible repeat (first | refine blk_drewN ?_ _ | refine blk_drew ?_ | refine blk_alloc ?_ _)); exact BK101.out) hb); have n2_ := Aside0.mk (below_step (by repeat (first | (with_reducible first | exact HB.out | apply below_alloc | apply pw_below_drewN | apply below_drew1 | refine below_set ?_ GE101.out) | exact HB.out)) hb); clear HO_7; clear BK101; clear HB; have HO_7 := n0_; have BK101 := n1_; have HB := n2_; clear n0_ n1_ n2_; (try clear hb); (try clear hb2); (try clear hk); (try clear hi)))
                        (try simp only [Act.put, List.setIfInBounds_toArray, List.set_cons_zero, List.set_cons_succ])
                        go_cut [74] (fun v74 wc => ∃ (kq : Nat) (x74_27 : Bool), v74 = .bool x74_27 ∧ Aside0 (hostlerlaw11_GuardKeeps.j2 kq l1 x7_1 (wrap64 (1 + (wrap64 (Int.tmod (IntKind.u64.wrap (a2_0)) 8)))) t109 t110 x11_1 x12_1 (wrap64 (Int.tmod (IntKind.u64.wrap (rd l1 x12_1)) (IntKind.u64.wrap ((x7_1.length : Int))))) t112 t113 x74_27 = some r) ∧ Aside0 (kq ≤ kj18) ∧ Aside0 (Kd.R (Kd.int .i64) 3 wc w.heap.size (fun _ => True) (.slice Ao17 x7_1.length co17) x7_1) ∧ Aside0 (wc.heap[gb101]? = some (.cells #[.int .i64 a2_0, .int .i64 a2_1] 23 (0, 0))) ∧ Aside0 (Below w.heap.size w wc))
                        case first =>
                          have H := HC28.out
                          clear HC28
                          by_cases c31 : t113 = true
                          · subst c31
                            have H1 : (if 0 ≤ (wrap64 (Int.tmod (IntKind.u64.wrap (rd l1 x12_1)) (IntKind.u64.wrap ((x7_1.length : Int))))) then (if (wrap64 (Int.tmod (IntKind.u64.wrap (rd l1 x12_1)) (IntKind.u64.wrap ((x7_1.length : Int))))) < (x7_1.length : Int) then (hostlerlaw11_GuardKeeps.j2 kj18 l1 x7_1 (wrap64 (1 + (wrap64 (Int.tmod (IntKind.u64.wrap (a2_0)) 8)))) t109 t110 x11_1 x12_1 (wrap64 (Int.tmod (IntKind.u64.wrap (rd l1 x12_1)) (IntKind.u64.wrap ((x7_1.length : Int))))) t112 true ((rd x7_1 (wrap64 (Int.tmod (IntKind.u64.wrap (rd l1 x12_1)) (IntKind.u64.wrap ((x7_1.length : Int)))))) == 0)) else (none)) else (none)) = some r := by rw [if_pos rfl] at H; exact H
                            clear H
                            have H := H1
                            clear H1
                            obtain ⟨ji32, hji32⟩ : ∃ j_ : Int, (wrap64 (Int.tmod (IntKind.u64.wrap (rd l1 x12_1)) (IntKind.u64.wrap ((x7_1.length : Int))))) = j_ := ⟨_, rfl⟩
                            replace H : (if 0 ≤ (ji32) then (if (ji32) < (x7_1.length : Int) then (hostlerlaw11_GuardKeeps.j2 kj18 l1 x7_1 (wrap64 (1 + (wrap64 (Int.tmod (IntKind.u64.wrap (a2_0)) 8)))) t109 t110 x11_1 x12_1 ji32 t112 true ((rd x7_1 (ji32)) == 0)) else (none)) else (none)) = some r := by first | (rw [hji32] at H; exact H) | (simp only [hji32] at H ⊢; exact H)
                            have hji32w : (IntKind.i64.wrap (Int.tmod (IntKind.u64.wrap (rd l1 x12_1)) (IntKind.u64.wrap ((x7_1.length : Int))))) = ji32 := (i64_w _).trans hji32
                            by_cases c33 : 0 ≤ (ji32)
                            · rw [if_pos c33] at H
                              have c33b0 : decide (0 ≤ (ji32)) = true := decide_eq_true c33
                              clear c33
                              (first | rw [c33b0] | (simp only [i64_w, i32_w]; rw [c33b0]) | skip)
                              by_cases c34 : (ji32) < (x7_1.length : Int)
                              · rw [if_pos c34] at H
                                have c34b0 : decide ((ji32) < (x7_1.length : Int)) = true := decide_eq_true c34
                                clear c34
                                have H' := Aside0.mk H
                                clear H
                                have p114 : 0 ≤ ((ji32) : Int) := of_decide_eq_true (by first | (with_reducible assumption) | assumption)
                                have q114 : (ji32) < (x7_1.length : Int) := of_decide_eq_true (by first | (with_reducible assumption) | assumption)
                                obtain ⟨ad114, e114, hx114_0⟩ := Kd.at_int (Kd.R_reads' HO_7.out).2.2 (ji32) p114 q114
                                cases e114
                                replace p114 := eq_true p114
                                replace q114 := eq_true q114
                                go_wp2
                                go_meet
                                case rel => exact ⟨_, (((rd x7_1 (ji32)) == 0)), (by first | rfl | (simp; done) | (simp only [← hji32] <;> (first | rfl | simp)) | (simp [*]; done)), (by first | exact H' | (simp only [hji32]; exact H')), ⟨by have := HK1.out; have := HJ18.out; first | omega | exact Nat.le_refl _⟩, ⟨by (try simp only [hl7_1]); (with_reducible repeat (first | apply Kd.R_alloc | apply Kd.R_drewN | apply Kd.R_drew)); exact HO_7.out⟩, ⟨by (try simp only [hl7_1]); (with_reducible repeat (first | refine blk_drewN ?_ _ | refine blk_drew ?_ | refine blk_alloc ?_ _)); exact BK101.out⟩, ⟨by repeat (first | (with_reducible first | exact HB.out | apply below_alloc | apply pw_below_drewN | apply below_drew1 | refine below_set ?_ GE101.out) | exact HB.out)⟩⟩
                              · rw [if_neg c34] at H
                                exact absurd H (by simp)
                            · rw [if_neg c33] at H
                              exact absurd H (by simp)
                          · replace c31 := Bool.eq_false_iff.mpr c31
                            subst c31
                            have H1 : (hostlerlaw11_GuardKeeps.j2 kj18 l1 x7_1 (wrap64 (1 + (wrap64 (Int.tmod (IntKind.u64.wrap (a2_0)) 8)))) t109 t110 x11_1 x12_1 (wrap64 (Int.tmod (IntKind.u64.wrap (rd l1 x12_1)) (IntKind.u64.wrap ((x7_1.length : Int))))) t112 false false) = some r := by rw [if_neg (show ¬ (false = true) by decide)] at H; exact H
                            clear H
                            have H := H1
                            clear H1
                            have H' := Aside0.mk H
                            clear H
                            go_wp2
                            go_meet
                            case rel => exact ⟨_, (false), (by first | rfl | (simp; done) | (simp [*]; done)), H', ⟨by have := HK1.out; have := HJ18.out; first | omega | exact Nat.le_refl _⟩, ⟨by (try simp only [hl7_1]); (with_reducible repeat (first | apply Kd.R_alloc | apply Kd.R_drewN | apply Kd.R_drew)); exact HO_7.out⟩, ⟨by (try simp only [hl7_1]); (with_reducible repeat (first | refine blk_drewN ?_ _ | refine blk_drew ?_ | refine blk_alloc ?_ _)); exact BK101.out⟩, ⟨by repeat (first | (with_reducible first | exact HB.out | apply below_alloc | apply pw_below_drewN | apply below_drew1 | refine below_set ?_ GE101.out) | exact HB.out)⟩⟩
                        case rest =>
                          clear HC28
                          try clear c1
                          try clear p1
                          try clear q1
                          try clear hx1
                          try clear c2
                          try clear p2
                          try clear c3
                          try clear c4
                          try clear c5
                          try clear p6
                          try clear c7
                          try clear p11
                          try clear q11
                          try clear hx11
                          try clear c13
                          try clear c14
                          try clear c15
                          try clear c16
                          try clear c17
                          try clear c18
                          try clear c20
                          try clear c20b0
                          try clear c21
                          try clear c22
                          try clear c22b0
                          try clear c22b1
                          try clear c22b2
                          try clear c23
                          try clear c23b0
                          try clear c24
                          try clear c24b0
                          try clear c25
                          try clear c25b0
                          try clear c25b1
                          try clear c31
                          try clear c33
                          try clear c33b0
                          try clear c34
                          try clear c34b0
                          try clear hx111_0
                          try clear hx114_0
                          try clear p111
                          try clear p114
                          try clear p2
                          try clear p6
                          try clear q111
                          try clear q114
                          obtain ⟨kq, x74_27, rfl, HA, HJ27, HO_7, BK101, HB⟩ := hcut
                          cases kq with
                          | zero => exact absurd HA.out (by simp [hostlerlaw11_GuardKeeps.j2])
                          | succ kj27 =>
                            have H := HA.out
                            clear HA
                            simp only [hostlerlaw11_GuardKeeps.j2] at H
                            have HC35 := Aside0.mk H
                            clear H
                            go_upto_if 74 with (fail)
                            go_cut [11] (fun v11 wc => ∃ (kq : Nat) (x11_34 : Int), v11 = .int .i64 x11_34 ∧ Aside0 (hostlerlaw11_GuardKeeps.j3 kq l1 x7_1 (wrap64 (1 + (wrap64 (Int.tmod (IntKind.u64.wrap (a2_0)) 8)))) t109 t110 x11_34 x12_1 (wrap64 (Int.tmod (IntKind.u64.wrap (rd l1 x12_1)) (IntKind.u64.wrap ((x7_1.length : Int))))) t112 t113 = some r) ∧ Aside0 (kq ≤ kj27) ∧ Aside0 (Kd.R (Kd.int .i64) 3 wc w.heap.size (fun _ => True) (.slice Ao17 x7_1.length co17) x7_1) ∧ Aside0 (wc.heap[gb101]? = some (.cells #[.int .i64 a2_0, .int .i64 a2_1] 23 (0, 0))) ∧ Aside0 (Below w.heap.size w wc))
                            case first =>
                              have H := HC35.out
                              clear HC35
                              by_cases c36 : x74_27 = true
                              · subst c36
                                have H1 : (hostlerlaw11_GuardKeeps.j3 kj27 l1 x7_1 (wrap64 (1 + (wrap64 (Int.tmod (IntKind.u64.wrap (a2_0)) 8)))) t109 t110 (wrap64 (x11_1 + 1)) x12_1 (wrap64 (Int.tmod (IntKind.u64.wrap (rd l1 x12_1)) (IntKind.u64.wrap ((x7_1.length : Int))))) t112 t113) = some r := by rw [if_pos rfl] at H; exact H
                                clear H
                                have H := H1
                                clear H1
                                have H' := Aside0.mk H
                                clear H
                                go_wp2
                                go_meet
                                case rel => exact ⟨_, (wrap64 (x11_1 + 1)), (by first | rfl | (simp; done) | (simp [*]; done)), H', ⟨by have := HK1.out; have := HJ18.out; have := HJ27.out; first | omega | exact Nat.le_refl _⟩, ⟨by (try simp only [hl7_1]); (with_reducible repeat (first | apply Kd.R_alloc | apply Kd.R_drewN | apply Kd.R_drew)); exact HO_7.out⟩, ⟨by (try simp only [hl7_1]); (with_reducible repeat (first | refine blk_drewN ?_ _ | refine blk_drew ?_ | refine blk_alloc ?_ _)); exact BK101.out⟩, ⟨by repeat (first | (with_reducible first | exact HB.out | apply below_alloc | apply pw_below_drewN | apply below_drew1 | refine below_set ?_ GE101.out) | exact HB.out)⟩⟩
                              · replace c36 := Bool.eq_false_iff.mpr c36
                                subst c36
                                have H1 : (hostlerlaw11_GuardKeeps.j3 kj27 l1 x7_1 (wrap64 (1 + (wrap64 (Int.tmod (IntKind.u64.wrap (a2_0)) 8)))) t109 t110 x11_1 x12_1 (wrap64 (Int.tmod (IntKind.u64.wrap (rd l1 x12_1)) (IntKind.u64.wrap ((x7_1.length : Int))))) t112 t113) = some r := by rw [if_neg (show ¬ (false = true) by decide)] at H; exact H
                                clear H
                                have H := H1
                                clear H1
                                have H' := Aside0.mk H
                                clear H
                                go_wp2
                                go_meet
                                case rel => exact ⟨_, (x11_1), (by first | rfl | (simp; done) | (simp [*]; done)), H', ⟨by have := HK1.out; have := HJ18.out; have := HJ27.out; first | omega | exact Nat.le_refl _⟩, ⟨by (try simp only [hl7_1]); (with_reducible repeat (first | apply Kd.R_alloc | apply Kd.R_drewN | apply Kd.R_drew)); exact HO_7.out⟩, ⟨by (try simp only [hl7_1]); (with_reducible repeat (first | refine blk_drewN ?_ _ | refine blk_drew ?_ | refine blk_alloc ?_ _)); exact BK101.out⟩, ⟨by repeat (first | (with_reducible first | exact HB.out | apply below_alloc | apply pw_below_drewN | apply below_drew1 | refine below_set ?_ GE101.out) | exact HB.out)⟩⟩
                            case rest =>
                              clear HC35
                              try clear c1
                              try clear p1
                              try clear q1
                              try clear hx1
                              try clear c2
                              try clear p2
                              try clear c3
                              try clear c4
                              try clear c5
                              try clear p6
                              try clear c7
                              try clear p11
                              try clear q11
                              try clear hx11
                              try clear c13
                              try clear c14
                              try clear c15
                              try clear c16
                              try clear c17
                              try clear c18
                              try clear c20
                              try clear c20b0
                              try clear c21
                              try clear c22
                              try clear c22b0
                              try clear c22b1
                              try clear c22b2
                              try clear c23
                              try clear c23b0
                              try clear c24
                              try clear c24b0
                              try clear c25
                              try clear c25b0
                              try clear c25b1
                              try clear c31
                              try clear c33
                              try clear c33b0
                              try clear c34
                              try clear c34b0
                              try clear c36
                              try clear hx111_0
                              try clear hx114_0
                              try clear p1
                              try clear p11
                              try clear p111
                              try clear p114
                              try clear p2
                              try clear p6
                              try clear q1
                              try clear q11
                              try clear q111
                              try clear q114
                              obtain ⟨kq, x11_34, rfl, HA, HJ34, HO_7, BK101, HB⟩ := hcut
                              cases kq with
                              | zero => exact absurd HA.out (by simp [hostlerlaw11_GuardKeeps.j3])
                              | succ kj34 =>
                                have H := HA.out
                                clear HA
                                simp only [hostlerlaw11_GuardKeeps.j3] at H
                                have HC37 := Aside0.mk H
                                clear H
                                go_upto_if 77 with (fail)
                                go_cut [] (fun wc => ∃ (kq : Nat) (x7_36 : List Int), Aside0 (hostlerlaw11_GuardKeeps.j4 kq l1 x7_36 (wrap64 (1 + (wrap64 (Int.tmod (IntKind.u64.wrap (a2_0)) 8)))) t109 t110 x11_34 x12_1 (wrap64 (Int.tmod (IntKind.u64.wrap (rd l1 x12_1)) (IntKind.u64.wrap ((x7_1.length : Int))))) t112 t113 = some r) ∧ Aside0 (kq ≤ kj34) ∧ Aside0 (Kd.R (Kd.int .i64) 3 wc w.heap.size (fun _ => True) (.slice Ao17 x7_1.length co17) x7_36) ∧ Aside0 (wc.heap[gb101]? = some (.cells #[.int .i64 a2_0, .int .i64 a2_1] 23 (0, 0))) ∧ Aside0 (Below w.heap.size w wc))
                                case first =>
                                  have H := HC37.out
                                  clear HC37
                                  by_cases c38 : t113 = true
                                  · subst c38
                                    have H1 : (if 0 ≤ (wrap64 (Int.tmod (IntKind.u64.wrap (rd l1 x12_1)) (IntKind.u64.wrap ((x7_1.length : Int))))) then (if (wrap64 (Int.tmod (IntKind.u64.wrap (rd l1 x12_1)) (IntKind.u64.wrap ((x7_1.length : Int))))) < (x7_1.length : Int) then (hostlerlaw11_GuardKeeps.j4 kj34 l1 (x7_1.set ((wrap64 (Int.tmod (IntKind.u64.wrap (rd l1 x12_1)) (IntKind.u64.wrap ((x7_1.length : Int))))) : Int).toNat 1) (wrap64 (1 + (wrap64 (Int.tmod (IntKind.u64.wrap (a2_0)) 8)))) t109 t110 x11_34 x12_1 (wrap64 (Int.tmod (IntKind.u64.wrap (rd l1 x12_1)) (IntKind.u64.wrap ((x7_1.length : Int))))) t112 true) else (none)) else (none)) = some r := by rw [if_pos rfl] at H; exact H
                                    clear H
                                    have H := H1
                                    clear H1
                                    obtain ⟨ji39, hji39⟩ : ∃ j_ : Int, (wrap64 (Int.tmod (IntKind.u64.wrap (rd l1 x12_1)) (IntKind.u64.wrap ((x7_1.length : Int))))) = j_ := ⟨_, rfl⟩
                                    replace H : (if 0 ≤ (ji39) then (if (ji39) < (x7_1.length : Int) then (hostlerlaw11_GuardKeeps.j4 kj34 l1 (x7_1.set ((ji39) : Int).toNat 1) (wrap64 (1 + (wrap64 (Int.tmod (IntKind.u64.wrap (a2_0)) 8)))) t109 t110 x11_34 x12_1 (ji39) t112 true) else (none)) else (none)) = some r := by first | (rw [hji39] at H; exact H) | (simp only [hji39] at H ⊢; exact H)
                                    have hji39w : (IntKind.i64.wrap (Int.tmod (IntKind.u64.wrap (rd l1 x12_1)) (IntKind.u64.wrap ((x7_1.length : Int))))) = ji39 := (i64_w _).trans hji39
                                    by_cases c40 : 0 ≤ (ji39)
                                    · rw [if_pos c40] at H
                                      have c40b0 : decide (0 ≤ (ji39)) = true := decide_eq_true c40
                                      clear c40
                                      (first | rw [c40b0] | (simp only [i64_w, i32_w]; rw [c40b0]) | skip)
                                      by_cases c41 : (ji39) < (x7_1.length : Int)
                                      · rw [if_pos c41] at H
                                        have c41b0 : decide ((ji39) < (x7_1.length : Int)) = true := decide_eq_true c41
                                        clear c41
                                        obtain ⟨y115, hy115⟩ : ∃ y_ : List Int, y_ = (x7_1.set ((ji39) : Int).toNat 1) := ⟨_, rfl⟩
                                        replace H : (hostlerlaw11_GuardKeeps.j4 kj34 l1 y115 (wrap64 (1 + (wrap64 (Int.tmod (IntKind.u64.wrap (a2_0)) 8)))) t109 t110 x11_34 x12_1 (ji39) t112 true) = some r := by first | (rw [hy115]; with_reducible exact H) | (have H2_ := (Option.bind_some _ _).symm.trans H; rw [hy115]; with_reducible exact H2_) | (have H2_ := (Option.bind_some _ _).symm.trans H; with_reducible exact H2_) | with_reducible exact H | (rw [hy115]; exact H) | exact H
                                        have Ny115 := Aside0.mk hy115
                                        clear hy115
                                        have H' := Aside0.mk H
                                        clear H
                                        have p42 : 0 ≤ ((ji39) : Int) := of_decide_eq_true (by first | (with_reducible assumption) | assumption)
                                        have q42 : ((ji39) : Int) < ((x7_1.length : Int) : Int) := of_decide_eq_true (by first | (with_reducible assumption) | assumption)
                                        obtain ⟨go42, co42, eo42, gb42, gl42, cl42, HG42⟩ := Kd.R_form HO_7.out (by omega)
                                        (first | cases eo42 | (injection eo42 with ea_ en_ ec_; (first | subst ea_ | (injection ea_ with ea_; subst ea_)); subst ec_; clear en_))
                                        have GB42 := Aside0.mk gb42
                                        have GG42 := Aside0.mk HG42
                                        clear gb42 gl42 HG42
                                        obtain ⟨hx42_0, hf42_0⟩ := Kd.R_celln 0 HO_7.out ((ji39) : Int) p42 q42
                                        replace p42 := eq_true p42
                                        replace q42 := eq_true q42
                                        have HP43 := Kd.R_putg HO_7.out ((ji39) : Int) 1
                                        go_wp2_with (first | ((with_reducible refine gate_store (t := 3) (p := 80) rfl ?_); refine store_event (t := 3) (p := 80) (v := ?vo_w44) (w1 := (wc.setCell ⟨go42, ((ji39) : Int).toNat, none⟩ (.int .i64 1))) ?hg ?ho ?hn ?hr ?_; (case ho => rfl); (case hg => rfl); (case hn => rfl); (case hr => first | (go_simp; done) | (go_simp; rfl)); intro w44 hw; have hg : wc.grownBy w44 (some go42) := (by rw [hw]; exact HP43.2); have hp_ : Kd.R (Kd.int .i64) 3 w44 w.heap.size (fun _ => True) (.slice (some ⟨go42, 0, none⟩) x7_1.length co17) y115 := (by rw [hw, Ny115.out]; exact HP43.1); clear HP43; have n0_ := Aside0.mk (hp_); have n1_ := Aside0.mk (blk_grown (g := gb101) (o := .cells #[.int .i64 a2_0, .int .i64 a2_1] 23 (0, 0)) (by (with_reducible repeat (first | refine blk_drewN ?_ _ | refine blk_drew ?_ | refine blk_alloc ?_ _)); exact BK101.out) hg (Kd.R_ne HO_7.out BK101.out (by decide))); have n2_ := Aside0.mk ((by rw [hw]; exact below_set (HB.out) GB42.out : Below w.heap.size w w44)); clear HO_7; clear BK101; clear HB; have HO_7 := n0_; have BK101 := n1_; have HB := n2_; clear n0_ n1_ n2_; clear hg hw hp_))
                                        go_meet
                                        case rel => exact ⟨_, (y115), (by first | exact H' | (simp only [hji39]; exact H')), ⟨by have := HK1.out; have := HJ18.out; have := HJ27.out; have := HJ34.out; first | omega | exact Nat.le_refl _⟩, ⟨by (try simp only [hl7_1]); (with_reducible repeat (first | apply Kd.R_alloc | apply Kd.R_drewN | apply Kd.R_drew)); exact HO_7.out⟩, ⟨by (try simp only [hl7_1]); (with_reducible repeat (first | refine blk_drewN ?_ _ | refine blk_drew ?_ | refine blk_alloc ?_ _)); exact BK101.out⟩, ⟨by repeat (first | (with_reducible first | exact HB.out | apply below_alloc | apply pw_below_drewN | apply below_drew1 | refine below_set ?_ GE101.out) | exact HB.out)⟩⟩
                                      · rw [if_neg c41] at H
                                        exact absurd H (by simp)
                                    · rw [if_neg c40] at H
                                      exact absurd H (by simp)
                                  · replace c38 := Bool.eq_false_iff.mpr c38
                                    subst c38
                                    have H1 : (hostlerlaw11_GuardKeeps.j4 kj34 l1 x7_1 (wrap64 (1 + (wrap64 (Int.tmod (IntKind.u64.wrap (a2_0)) 8)))) t109 t110 x11_34 x12_1 (wrap64 (Int.tmod (IntKind.u64.wrap (rd l1 x12_1)) (IntKind.u64.wrap ((x7_1.length : Int))))) t112 false) = some r := by rw [if_neg (show ¬ (false = true) by decide)] at H; exact H
                                    clear H
                                    have H := H1
                                    clear H1
                                    have H' := Aside0.mk H
                                    clear H
                                    go_wp2
                                    go_meet
                                    case rel => exact ⟨_, (x7_1), H', ⟨by have := HK1.out; have := HJ18.out; have := HJ27.out; have := HJ34.out; first | omega | exact Nat.le_refl _⟩, ⟨by (try simp only [hl7_1]); (with_reducible repeat (first | apply Kd.R_alloc | apply Kd.R_drewN | apply Kd.R_drew)); exact HO_7.out⟩, ⟨by (try simp only [hl7_1]); (with_reducible repeat (first | refine blk_drewN ?_ _ | refine blk_drew ?_ | refine blk_alloc ?_ _)); exact BK101.out⟩, ⟨by repeat (first | (with_reducible first | exact HB.out | apply below_alloc | apply pw_below_drewN | apply below_drew1 | refine below_set ?_ GE101.out) | exact HB.out)⟩⟩
                                case rest =>
                                  clear HC37
                                  try clear c1
                                  try clear p1
                                  try clear q1
                                  try clear hx1
                                  try clear c2
                                  try clear p2
                                  try clear c3
                                  try clear c4
                                  try clear p4
                                  try clear q4
                                  try clear hx4
                                  try clear hf4
                                  try clear c5
                                  try clear p6
                                  try clear c7
                                  try clear p11
                                  try clear q11
                                  try clear hx11
                                  try clear c13
                                  try clear c14
                                  try clear c15
                                  try clear c16
                                  try clear c17
                                  try clear c18
                                  try clear c20
                                  try clear c20b0
                                  try clear c21
                                  try clear c22
                                  try clear c22b0
                                  try clear c22b1
                                  try clear c22b2
                                  try clear c23
                                  try clear c23b0
                                  try clear c24
                                  try clear c24b0
                                  try clear c25
                                  try clear c25b0
                                  try clear c25b1
                                  try clear c31
                                  try clear c33
                                  try clear c33b0
                                  try clear c34
                                  try clear c34b0
                                  try clear c36
                                  try clear c38
                                  try clear c40
                                  try clear c40b0
                                  try clear c41
                                  try clear c41b0
                                  try clear p42
                                  try clear q42
                                  try clear hx42
                                  try clear hf42
                                  try clear hx111_0
                                  try clear hx114_0
                                  try clear hx42_0
                                  try clear p1
                                  try clear p11
                                  try clear p111
                                  try clear p114
                                  try clear p2
                                  try clear p42
                                  try clear p6
                                  try clear q1
                                  try clear q11
                                  try clear q111
                                  try clear q114
                                  try clear q42
                                  obtain ⟨kq, x7_36, HA, HJ36, HO_7, BK101, HB⟩ := hcut
                                  have hl7_36 := (Kd.R_reads' HO_7.out).1
                                  rw [hl7_36] at HO_7
                                  (try simp only [hl7_36])
                                  (try simp only [hl7_36] at BK101)
                                  cases kq with
                                  | zero => exact absurd HA.out (by simp [hostlerlaw11_GuardKeeps.j4])
                                  | succ kj36 =>
                                    have H := HA.out
                                    clear HA
                                    simp only [hostlerlaw11_GuardKeeps.j4] at H
                                    replace H := Option.bind_eq_some_iff.mp H
                                    obtain ⟨t116, A450, H⟩ := H
                                    replace H : ((guard_Fell.f t112 t116 t109).bind fun t117 => (if t117 = true then (none) else (if t116 > t112 then (none) else (if t113 = true then (hostlerlaw11_GuardKeeps.l0 kj36 l1 x7_36 (wrap64 (1 + (wrap64 (Int.tmod (IntKind.u64.wrap (a2_0)) 8)))) t109 t110 x11_34 (wrap64 (x12_1 + 1))) else (if 0 ≤ (wrap64 (Int.tmod (IntKind.u64.wrap (rd l1 x12_1)) (IntKind.u64.wrap ((x7_1.length : Int))))) then (if (wrap64 (Int.tmod (IntKind.u64.wrap (rd l1 x12_1)) (IntKind.u64.wrap ((x7_1.length : Int))))) < (x7_36.length : Int) then (if (rd x7_36 (wrap64 (Int.tmod (IntKind.u64.wrap (rd l1 x12_1)) (IntKind.u64.wrap ((x7_1.length : Int)))))) = 0 then (hostlerlaw11_GuardKeeps.l0 kj36 l1 x7_36 (wrap64 (1 + (wrap64 (Int.tmod (IntKind.u64.wrap (a2_0)) 8)))) t109 t110 x11_34 (wrap64 (x12_1 + 1))) else (none)) else (none)) else (none)))))) = some r := H
                                    have A45 := Aside0.mk A450
                                    clear A450
                                    replace H := Option.bind_eq_some_iff.mp H
                                    obtain ⟨t117, A460, H⟩ := H
                                    replace H : (if t117 = true then (none) else (if t116 > t112 then (none) else (if t113 = true then (hostlerlaw11_GuardKeeps.l0 kj36 l1 x7_36 (wrap64 (1 + (wrap64 (Int.tmod (IntKind.u64.wrap (a2_0)) 8)))) t109 t110 x11_34 (wrap64 (x12_1 + 1))) else (if 0 ≤ (wrap64 (Int.tmod (IntKind.u64.wrap (rd l1 x12_1)) (IntKind.u64.wrap ((x7_1.length : Int))))) then (if (wrap64 (Int.tmod (IntKind.u64.wrap (rd l1 x12_1)) (IntKind.u64.wrap ((x7_1.length : Int))))) < (x7_36.length : Int) then (if (rd x7_36 (wrap64 (Int.tmod (IntKind.u64.wrap (rd l1 x12_1)) (IntKind.u64.wrap ((x7_1.length : Int)))))) = 0 then (hostlerlaw11_GuardKeeps.l0 kj36 l1 x7_36 (wrap64 (1 + (wrap64 (Int.tmod (IntKind.u64.wrap (a2_0)) 8)))) t109 t110 x11_34 (wrap64 (x12_1 + 1))) else (none)) else (none)) else (none))))) = some r := H
                                    have A46 := Aside0.mk A460
                                    clear A460
                                    by_cases c47 : t117 = true
                                    · subst c47
                                      have H1 : (none) = some r := by rw [if_pos rfl] at H; exact H
                                      clear H
                                      have H := H1
                                      clear H1
                                      exact absurd H (by simp)
                                    · replace c47 := Bool.eq_false_iff.mpr c47
                                      subst c47
                                      have H1 : (if t116 > t112 then (none) else (if t113 = true then (hostlerlaw11_GuardKeeps.l0 kj36 l1 x7_36 (wrap64 (1 + (wrap64 (Int.tmod (IntKind.u64.wrap (a2_0)) 8)))) t109 t110 x11_34 (wrap64 (x12_1 + 1))) else (if 0 ≤ (wrap64 (Int.tmod (IntKind.u64.wrap (rd l1 x12_1)) (IntKind.u64.wrap ((x7_1.length : Int))))) then (if (wrap64 (Int.tmod (IntKind.u64.wrap (rd l1 x12_1)) (IntKind.u64.wrap ((x7_1.length : Int))))) < (x7_36.length : Int) then (if (rd x7_36 (wrap64 (Int.tmod (IntKind.u64.wrap (rd l1 x12_1)) (IntKind.u64.wrap ((x7_1.length : Int)))))) = 0 then (hostlerlaw11_GuardKeeps.l0 kj36 l1 x7_36 (wrap64 (1 + (wrap64 (Int.tmod (IntKind.u64.wrap (a2_0)) 8)))) t109 t110 x11_34 (wrap64 (x12_1 + 1))) else (none)) else (none)) else (none)))) = some r := by rw [if_neg (show ¬ (false = true) by decide)] at H; exact H
                                      clear H
                                      have H := H1
                                      clear H1
                                      by_cases c48 : t116 > t112
                                      · rw [if_pos c48] at H
                                        exact absurd H (by simp)
                                      · rw [if_neg c48] at H
                                        have c48b0 : decide (t112 < t116) = false := decide_eq_false c48
                                        clear c48
                                        by_cases c49 : t113 = true
                                        · subst c49
                                          have H1 : (hostlerlaw11_GuardKeeps.l0 kj36 l1 x7_36 (wrap64 (1 + (wrap64 (Int.tmod (IntKind.u64.wrap (a2_0)) 8)))) t109 t110 x11_34 (wrap64 (x12_1 + 1))) = some r := by rw [if_pos rfl] at H; exact H
                                          clear H
                                          have H := H1
                                          clear H1
                                          have H' := Aside0.mk H
                                          clear H
                                          go_wp2_with (first | ((with_reducible refine gate_callee (f := 16) rfl ?_); refine goesL_ (some 83) rfl rfl Try.func16 (by kernel_rfl) rfl #[.slice Ao17 x7_36.length co17, .int .i64 (wrap64 (1 + (wrap64 (Int.tmod (IntKind.u64.wrap (a2_0)) 8))))] rfl (by (try simp only [List.map_toArray, List.map_cons, List.map_nil]); first | done | rfl | (simp only [List.length_drop, List.length_take]; rfl)) ?_; (with_reducible refine (guard_Capacity.calls kj36 _ _ x7_36 (wrap64 (1 + (wrap64 (Int.tmod (IntKind.u64.wrap (a2_0)) 8)))) t116 _ ?side1 ?side2 A45.out).mono ?_); (case side1 => repeat (first | exact (Kd.R_reads' HO_7.out).2.2 | (with_reducible refine Kd.C_alloc ?_ _) | (with_reducible refine Kd.C_drewN ?_ _) | (with_reducible refine Kd.C_drew ?_))); (case side2 => exact (Kd.R_reads' HO_7.out).2.1); rintro e w50 ⟨rfl, hb⟩; refine ⟨_, rfl, ?_⟩; have n0_ := Aside0.mk (Kd.R_below (by (with_reducible repeat (first | apply Kd.R_alloc | apply Kd.R_drewN | apply Kd.R_drew)); exact HO_7.out) hb); have n1_ := Aside0.mk (blk_below (g := gb101) (o := .cells #[.int .i64 a2_0, .int .i64 a2_1] 23 (0, 0)) (by (with_reducible repeat (first | refine blk_drewN ?_ _ | refine blk_drew ?_ | refine blk_alloc ?_ _)); exact BK101.out) hb); have n2_ := Aside0.mk (below_step (by repeat (first | (with_reducible first | exact HB.out | apply below_alloc | apply pw_below_drewN | apply below_drew1 | refine below_set ?_ GE101.out) | exact HB.out)) hb); clear HO_7; clear BK101; clear HB; have HO_7 := n0_; have BK101 := n1_; have HB := n2_; clear n0_ n1_ n2_; (try clear hb); (try clear hb2); (try clear hk); (try clear hi)) | ((with_reducible refine gate_callee (f := 19) rfl ?_); refine goesL_ (some 87) rfl rfl Try.func19 (by kernel_rfl) rfl #[.int .i64 t112, .int .i64 t116, .int .i64 t109] rfl (by (try simp only [List.map_toArray, List.map_cons, List.map_nil]); first | done | rfl | (simp only [List.length_drop, List.length_take]; rfl)) ?_; (with_reducible refine (guard_Fell.calls t112 t116 t109 false _ A46.out).mono ?_); rintro e w' ⟨rfl, ⟨nd, rfl⟩⟩; refine ⟨_, rfl, ?_⟩))
                                          (try simp only [← hl7_1, ← hl7_36])
                                          go_roundg kj36
                                          case measure => have := HK1.out; have := HJ18.out; have := HJ27.out; have := HJ34.out; have := HJ36.out; omega
                                          case rel => exact ⟨(x7_36), (x11_34), (wrap64 (x12_1 + 1)), (by first | rfl | (simp; done) | (simp [*]; done)), (by first | rfl | (simp; done) | (simp [*]; done)), H', ⟨by have := HK1.out; have := HJ18.out; have := HJ27.out; have := HJ34.out; have := HJ36.out; omega⟩, ⟨by (try simp only [hl7_1]); (try simp only [hl7_36]); (with_reducible repeat (first | apply Kd.R_alloc | apply Kd.R_drewN | apply Kd.R_drew)); exact HO_7.out⟩, ⟨by (try simp only [hl7_1]); (try simp only [hl7_36]); (with_reducible repeat (first | refine blk_drewN ?_ _ | refine blk_drew ?_ | refine blk_alloc ?_ _)); exact BK101.out⟩, ⟨by repeat (first | (with_reducible first | exact HB.out | apply below_alloc | apply pw_below_drewN | apply below_drew1 | refine below_set ?_ GE101.out) | exact HB.out)⟩⟩
                                        · replace c49 := Bool.eq_false_iff.mpr c49
                                          subst c49
                                          have H1 : (if 0 ≤ (wrap64 (Int.tmod (IntKind.u64.wrap (rd l1 x12_1)) (IntKind.u64.wrap ((x7_1.length : Int))))) then (if (wrap64 (Int.tmod (IntKind.u64.wrap (rd l1 x12_1)) (IntKind.u64.wrap ((x7_1.length : Int))))) < (x7_36.length : Int) then (if (rd x7_36 (wrap64 (Int.tmod (IntKind.u64.wrap (rd l1 x12_1)) (IntKind.u64.wrap ((x7_1.length : Int)))))) = 0 then (hostlerlaw11_GuardKeeps.l0 kj36 l1 x7_36 (wrap64 (1 + (wrap64 (Int.tmod (IntKind.u64.wrap (a2_0)) 8)))) t109 t110 x11_34 (wrap64 (x12_1 + 1))) else (none)) else (none)) else (none)) = some r := by rw [if_neg (show ¬ (false = true) by decide)] at H; exact H
                                          clear H
                                          have H := H1
                                          clear H1
                                          obtain ⟨ji51, hji51⟩ : ∃ j_ : Int, (wrap64 (Int.tmod (IntKind.u64.wrap (rd l1 x12_1)) (IntKind.u64.wrap ((x7_1.length : Int))))) = j_ := ⟨_, rfl⟩
                                          replace H : (if 0 ≤ (ji51) then (if (ji51) < (x7_36.length : Int) then (if (rd x7_36 (ji51)) = 0 then (hostlerlaw11_GuardKeeps.l0 kj36 l1 x7_36 (wrap64 (1 + (wrap64 (Int.tmod (IntKind.u64.wrap (a2_0)) 8)))) t109 t110 x11_34 (wrap64 (x12_1 + 1))) else (none)) else (none)) else (none)) = some r := by first | (rw [hji51] at H; exact H) | (simp only [hji51] at H ⊢; exact H)
                                          (try rw [hji51] at A45)
                                          (try rw [hji51] at A46)
                                          have hji51w : (IntKind.i64.wrap (Int.tmod (IntKind.u64.wrap (rd l1 x12_1)) (IntKind.u64.wrap ((x7_1.length : Int))))) = ji51 := (i64_w _).trans hji51
                                          have hji51y : (wrap64 (Int.tmod (IntKind.u64.wrap (rd l1 x12_1)) (IntKind.u64.wrap ((x7_36.length : Int))))) = ji51 := by rw [show x7_36.length = x7_1.length from by omega]; exact hji51
                                          by_cases c52 : 0 ≤ (ji51)
                                          · rw [if_pos c52] at H
                                            have c52b0 : decide (0 ≤ (ji51)) = true := decide_eq_true c52
                                            clear c52
                                            by_cases c53 : (ji51) < (x7_36.length : Int)
                                            · rw [if_pos c53] at H
                                              have c53b0 : decide ((ji51) < (x7_36.length : Int)) = true := decide_eq_true c53
                                              clear c53
                                              by_cases c54 : (rd x7_36 (ji51)) = 0
                                              · rw [if_pos c54] at H
                                                have c54b0 : ((rd x7_36 (ji51)) == 0) = true := beq_iff_eq.mpr c54
                                                have c54b1 : ((rd x7_36 (ji51)) != 0) = false := bne_eq_false_iff_eq.mpr c54
                                                clear c54
                                                have H' := Aside0.mk H
                                                clear H
                                                rw [hji51y]
                                                go_wp2_with (first | ((with_reducible refine gate_callee (f := 16) rfl ?_); refine goesL_ (some 83) rfl rfl Try.func16 (by kernel_rfl) rfl #[.slice Ao17 x7_36.length co17, .int .i64 (wrap64 (1 + (wrap64 (Int.tmod (IntKind.u64.wrap (a2_0)) 8))))] rfl (by (try simp only [List.map_toArray, List.map_cons, List.map_nil]); first | done | rfl | (simp only [List.length_drop, List.length_take]; rfl)) ?_; (with_reducible refine (guard_Capacity.calls kj36 _ _ x7_36 (wrap64 (1 + (wrap64 (Int.tmod (IntKind.u64.wrap (a2_0)) 8)))) t116 _ ?side1 ?side2 A45.out).mono ?_); (case side1 => repeat (first | exact (Kd.R_reads' HO_7.out).2.2 | (with_reducible refine Kd.C_alloc ?_ _) | (with_reducible refine Kd.C_drewN ?_ _) | (with_reducible refine Kd.C_drew ?_))); (case side2 => exact (Kd.R_reads' HO_7.out).2.1); rintro e w55 ⟨rfl, hb⟩; refine ⟨_, rfl, ?_⟩; have n0_ := Aside0.mk (Kd.R_below (by (with_reducible repeat (first | apply Kd.R_alloc | apply Kd.R_drewN | apply Kd.R_drew)); exact HO_7.out) hb); have n1_ := Aside0.mk (blk_below (g := gb101) (o := .cells #[.int .i64 a2_0, .int .i64 a2_1] 23 (0, 0)) (by (with_reducible repeat (first | refine blk_drewN ?_ _ | refine blk_drew ?_ | refine blk_alloc ?_ _)); exact BK101.out) hb); have n2_ := Aside0.mk (below_step (by repeat (first | (with_reducible first | exact HB.out | apply below_alloc | apply pw_below_drewN | apply below_drew1 | refine below_set ?_ GE101.out) | exact HB.out)) hb); clear HO_7; clear BK101; clear HB; have HO_7 := n0_; have BK101 := n1_; have HB := n2_; clear n0_ n1_ n2_; (try clear hb); (try clear hb2); (try clear hk); (try clear hi)) | ((with_reducible refine gate_callee (f := 19) rfl ?_); refine goesL_ (some 87) rfl rfl Try.func19 (by kernel_rfl) rfl #[.int .i64 t112, .int .i64 t116, .int .i64 t109] rfl (by (try simp only [List.map_toArray, List.map_cons, List.map_nil]); first | done | rfl | (simp only [List.length_drop, List.length_take]; rfl)) ?_; (with_reducible refine (guard_Fell.calls t112 t116 t109 false _ A46.out).mono ?_); rintro e w' ⟨rfl, ⟨nd, rfl⟩⟩; refine ⟨_, rfl, ?_⟩; have p118 : 0 ≤ ((ji51) : Int) := of_decide_eq_true (by first | (with_reducible assumption) | assumption); have q118 : (ji51) < (x7_36.length : Int) := of_decide_eq_true (by first | (with_reducible assumption) | assumption); obtain ⟨ad118, e118, hx118_0⟩ := Kd.at_int (Kd.R_reads' HO_7.out).2.2 (ji51) p118 q118; cases e118; replace p118 := eq_true p118; replace q118 := eq_true q118))
                                                (try simp only [← hl7_1, ← hl7_36])
                                                go_roundg kj36
                                                case measure => have := HK1.out; have := HJ18.out; have := HJ27.out; have := HJ34.out; have := HJ36.out; omega
                                                case rel => exact ⟨(x7_36), (x11_34), (wrap64 (x12_1 + 1)), (by first | rfl | (simp; done) | (simp [*]; done)), (by first | rfl | (simp; done) | (simp [*]; done)), (by first | exact H' | (simp only [hji51]; exact H')), ⟨by have := HK1.out; have := HJ18.out; have := HJ27.out; have := HJ34.out; have := HJ36.out; omega⟩, ⟨by (try simp only [hl7_1]); (try simp only [hl7_36]); (with_reducible repeat (first | apply Kd.R_alloc | apply Kd.R_drewN | apply Kd.R_drew)); exact HO_7.out⟩, ⟨by (try simp only [hl7_1]); (try simp only [hl7_36]); (with_reducible repeat (first | refine blk_drewN ?_ _ | refine blk_drew ?_ | refine blk_alloc ?_ _)); exact BK101.out⟩, ⟨by repeat (first | (with_reducible first | exact HB.out | apply below_alloc | apply pw_below_drewN | apply below_drew1 | refine below_set ?_ GE101.out) | exact HB.out)⟩⟩
                                              · rw [if_neg c54] at H
                                                exact absurd H (by simp)
                                            · rw [if_neg c53] at H
                                              exact absurd H (by simp)
                                          · rw [if_neg c52] at H
                                            exact absurd H (by simp)
                    · rw [if_neg c24] at H
                      exact absurd H (by simp)
                  · rw [if_neg c23] at H
                    exact absurd H (by simp)
              · replace c21 := Bool.eq_false_iff.mpr c21
                subst c21
                have H1 : (some (decide (x11_1 ≤ t110))) = some r := by rw [if_neg (show ¬ (false = true) by decide)] at H; exact H
                clear H
                have H := H1
                clear H1
                obtain rfl := Option.some.inj H
                go_wp2
                go_ret
                exact ⟨by first | rfl | (simp [errW_none, errW_some] <;> rfl) | (simp [*, errW_none, errW_some] <;> rfl), by repeat (first | (with_reducible first | exact HB.out | apply below_alloc | apply pw_below_drewN | apply below_drew1 | refine below_set ?_ GE101.out) | exact HB.out)⟩
    · rw [if_neg c7] at H
      exact absurd H (by simp)
  · replace c5 := Bool.eq_false_iff.mpr c5
    subst c5
    have H1 : (none) = some r := by rw [if_neg (show ¬ (false = true) by decide)] at H; exact H
    clear H
    have H := H1
    clear H1
    exact absurd H (by simp)

/-- THE ONE PURE STATEMENT of hostlerlaw11_GuardKeeps: yours. -/
def hostlerlaw11_GuardKeeps.Pure : Prop := ∀ (l0 : List Int) (l1 : List Int) (a2_0 : Int) (a2_1 : Int), l0.length ≤ maxLen → l0.length * 8 ≤ 140737488351232 → (∀ x ∈ l0, (Lit.int .i64 x).wf = true) → l1.length ≤ maxLen → l1.length * 8 ≤ 140737488351232 → (∀ x ∈ l1, (Lit.int .i64 x).wf = true) → (Lit.int .i64 a2_0).wf = true → (Lit.int .i64 a2_1).wf = true → ∃ k, hostlerlaw11_GuardKeeps.f k l0 l1 a2_0 a2_1 = some true
theorem hostlerlaw11_GuardKeeps.walk (P : hostlerlaw11_GuardKeeps.Pure) (a0 : Option Addr) (len0 cap0 : Nat) (z0 : List Int) (a1 : Option Addr) (len1 cap1 : Nat) (z1 : List Int) (a2_0 : Int) (a2_1 : Int) (w : World) (w0 : (a0 = none ∧ len0 = 0 ∧ cap0 = 0 ∧ z0 = []) ∨ ∃ x, a0 = some x ∧ len0 ≤ cap0 ∧ cap0 ≤ maxLen ∧ z0.length = cap0 ∧ (∀ i, i < z0.length → w.cell? (x.add i) = some (.int .i64 (z0.getD i 0))) ∧ ∀ n ∈ z0, (Lit.int .i64 n).wf = true) (y0 : len0 * 8 ≤ 140737488351232) (w1 : (a1 = none ∧ len1 = 0 ∧ cap1 = 0 ∧ z1 = []) ∨ ∃ x, a1 = some x ∧ len1 ≤ cap1 ∧ cap1 ≤ maxLen ∧ z1.length = cap1 ∧ (∀ i, i < z1.length → w.cell? (x.add i) = some (.int .i64 (z1.getD i 0))) ∧ ∀ n ∈ z1, (Lit.int .i64 n).wf = true) (y1 : len1 * 8 ≤ 140737488351232) (w2_0 : (Lit.int .i64 a2_0).wf = true) (w2_1 : (Lit.int .i64 a2_1).wf = true) :
    Calls Try.prog 4 #[.slice a0 len0 cap0, .slice a1 len1 cap1, .agg #[.int .i64 a2_0, .int .i64 a2_1]] w fun e w' => e = .returned (.bool true) ∧ Below w.heap.size w w' := by
  obtain ⟨l0, rfl, hr0, hm0, hw0, hc0⟩ := ReadsInt.ofRowC w0
  obtain ⟨l1, rfl, hr1, hm1, hw1, hc1⟩ := ReadsInt.ofRowC w1
  obtain ⟨k, h⟩ := P l0 l1 a2_0 a2_1 hm0 y0 hw0 hm1 y1 hw1 w2_0 w2_1
  refine (hostlerlaw11_GuardKeeps.calls k _ _ l0 _ _ l1 a2_0 a2_1 true w (Kd.C_of_reads (d := (0 : Int)) (h1 := fun _ => rfl) hr0) hc0 (Kd.C_of_reads (d := (0 : Int)) (h1 := fun _ => rfl) hr1) hc1 h).mono ?_
  rintro e w' ⟨rfl, hd⟩
  exact ⟨rfl, hd⟩

end Go.Proofs.Ythlhjgbmcehpdaa.PC
