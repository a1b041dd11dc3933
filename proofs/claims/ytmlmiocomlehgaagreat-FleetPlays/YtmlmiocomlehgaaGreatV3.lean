/-
  Contracts of functions, proved by walking them, and plain facts, several texts in one. Conditions: none.
-/
import Derived.Test.YtmlmiocomlehgaaGreatV2
import Derived.LaidEqlPtr
import Derived.Maps.OwnSet
import Derived.Maps.OwnOps
import Derived.Maps.Ext
set_option linter.unusedVariables false
set_option linter.unusedSimpArgs false
set_option linter.unusedSectionVars false
set_option maxHeartbeats 16000000
set_option maxRecDepth 100000
section
namespace Go.Proofs.YtmlmiocomlehgaaGreat.PR
open Go.RowKit Go.Proofs.YtmlmiocomlehgaaGreat.PA Go.Proofs.YtmlmiocomlehgaaGreatW.PrintWords Go.Proofs.YtmlmiocomlehgaaGreatW.PrintLast Go.Proofs.YtmlmiocomlehgaaGreatW.PrintMore
section
attribute [local go_sem] zt1 zv1 zd2 zb2 zn1 zl1 z32 z52   -- for this text's walks alone
mutual
def hostlerref10_Next.j0 : Nat → Int → Int → Int → Bool → Option (Int × Bool)
 | 0, _, _, _, _ => none
 | k + 1, x0, x1, x6, x15 => if x15 = true then (hostlerref10_Next.j1 k x0 x1 1) else (hostlerref10_Next.j1 k x0 x1 x6)
def hostlerref10_Next.j1 : Nat → Int → Int → Int → Option (Int × Bool)
 | 0, _, _, _ => none
 | k + 1, x0, x1, x6 => if x1 = 2 then (some (2, true)) else (if x6 < 0 then (some (x0, false)) else (some (x6, true)))
def hostlerref10_Next.j2 : Nat → Int → Int → Int → Bool → Option (Int × Bool)
 | 0, _, _, _, _ => none
 | k + 1, x0, x1, x6, x25 => if x25 = true then (hostlerref10_Next.j3 k x0 x1 0) else (hostlerref10_Next.j3 k x0 x1 x6)
def hostlerref10_Next.j3 : Nat → Int → Int → Int → Option (Int × Bool)
 | 0, _, _, _ => none
 | k + 1, x0, x1, x6 => if x1 = 4 then (some (3, true)) else (if x6 < 0 then (some (x0, false)) else (some (x6, true)))
def hostlerref10_Next.j4 : Nat → Int → Int → Int → Bool → Option (Int × Bool)
 | 0, _, _, _, _ => none
 | k + 1, x0, x1, x6, x35 => if x35 = true then (hostlerref10_Next.j5 k x0 x1 1) else (hostlerref10_Next.j5 k x0 x1 x6)
def hostlerref10_Next.j5 : Nat → Int → Int → Int → Option (Int × Bool)
 | 0, _, _, _ => none
 | k + 1, x0, x1, x6 => if x1 = 3 then (some (0, true)) else (if x6 < 0 then (some (x0, false)) else (some (x6, true)))
def hostlerref10_Next.j6 : Nat → Int → Int → Bool → Option (Int × Bool)
 | 0, _, _, _ => none
 | k + 1, x0, x6, x45 => if x45 = true then (some (0, true)) else (if x6 < 0 then (some (x0, false)) else (some (x6, true)))
end
def hostlerref10_Next.f (k : Nat) (a0 : Int) (a1 : Int) : Option (Int × Bool) := if a0 = 0 then (if a1 = 0 then (hostlerref10_Next.j0 k a0 a1 (-1) true) else (hostlerref10_Next.j0 k a0 a1 (-1) (a1 == 5))) else (if a0 = 1 then (if a1 = 1 then (hostlerref10_Next.j2 k a0 a1 (-1) true) else (hostlerref10_Next.j2 k a0 a1 (-1) (a1 == 6))) else (if a0 = 2 then (if a1 = 0 then (hostlerref10_Next.j4 k a0 a1 (-1) true) else (hostlerref10_Next.j4 k a0 a1 (-1) (a1 == 5))) else (if a0 = 3 then (if a1 = 1 then (hostlerref10_Next.j6 k a0 (-1) true) else (hostlerref10_Next.j6 k a0 (-1) (a1 == 6))) else (some (a0, false)))))
theorem hostlerref10_Next.calls (k : Nat) (a0 : Int) (a1 : Int) (r1 : Int) (r2 : Bool) (w : World) (h : hostlerref10_Next.f k a0 a1 = some (r1, r2)) :
  Calls Tryz.prog 62 #[.int .i64 a0, .int .i64 a1] w fun e w' => e = .returned (.tuple #[.int .i64 r1, .bool r2]) ∧ Drawn0 w w' := by
 have H : (if a0 = 0 then (if a1 = 0 then (hostlerref10_Next.j0 k a0 a1 (-1) true) else (hostlerref10_Next.j0 k a0 a1 (-1) (a1 == 5))) else (if a0 = 1 then (if a1 = 1 then (hostlerref10_Next.j2 k a0 a1 (-1) true) else (hostlerref10_Next.j2 k a0 a1 (-1) (a1 == 6))) else (if a0 = 2 then (if a1 = 0 then (hostlerref10_Next.j4 k a0 a1 (-1) true) else (hostlerref10_Next.j4 k a0 a1 (-1) (a1 == 5))) else (if a0 = 3 then (if a1 = 1 then (hostlerref10_Next.j6 k a0 (-1) true) else (hostlerref10_Next.j6 k a0 (-1) (a1 == 6))) else (some (a0, false)))))) = some (r1, r2) := h
 clear h
 by_cases c3 : a0 = 0
 ·rw [if_pos c3] at H
  have c3b0 : (a0 == 0) = true := beq_iff_eq.mpr c3
  have c3b1 : (a0 != 0) = false := bne_eq_false_iff_eq.mpr c3
  clear c3
  have HC4 := as0 H
  clear H
  go_enter Tryz.func62, Tryz.ntmps62
  go_upto_region 4 with (fail)
  go_cut [15] (fun v15 wc => ∃ (kq : Nat) (x15_3 : Bool), v15 = .bool x15_3 ∧ Aside0 (hostlerref10_Next.j0 kq a0 a1 (-1) x15_3 = some (r1, r2)) ∧ Aside0 (kq ≤ k) ∧ Drawn0 w wc)
  case first =>
   have H := HC4.out
   clear HC4
   by_cases c5 : a1 = 0
   ·rw [if_pos c5] at H
    have c5b0 : (a1 == 0) = true := beq_iff_eq.mpr c5
    have c5b1 : (a1 != 0) = false := bne_eq_false_iff_eq.mpr c5
    clear c5
    (first | rw [c5b0] | (simp only [ze0, zd0]; rw [c5b0]) | skip)
    have H' := as0 H
    clear H
    go_wp2
    go_meet
    case rel => exact ⟨_, (true), (by first | rfl | (simp; done) | (simp [*]; done)), H', ⟨by first | omega | exact Nat.le_refl _⟩, by repeat (first | exact Drawn0.refl _ | apply Drawn0.step)⟩
   ·rw [if_neg c5] at H
    have c5b0 : (a1 == 0) = false := beq_eq_false_iff_ne.mpr c5
    have c5b1 : (a1 != 0) = true := bne_iff_ne.mpr c5
    (first | rw [c5b0] | (simp only [ze0, zd0]; rw [c5b0]) | skip)
    have H' := as0 H
    clear H
    go_wp2
    go_meet
    case rel => exact ⟨_, ((a1 == 5)), (by first | rfl | (simp; done) | (simp [*]; done)), H', ⟨by first | omega | exact Nat.le_refl _⟩, by repeat (first | exact Drawn0.refl _ | apply Drawn0.step)⟩
  case rest =>
   clear HC4
   try clear p2
   try clear c3
   try clear c3b0
   try clear c3b1
   try clear c5
   try clear c5b0
   try clear c5b1
   obtain ⟨kq, x15_3, rfl, HA, HJ3, ⟨mc3, rfl⟩⟩ := hcut
   cases kq with
   | zero => exact absurd HA.out (by simp [hostlerref10_Next.j0])
   | succ kj3 =>
    have H := HA.out
    clear HA
    simp only [hostlerref10_Next.j0] at H
    have HC6 := as0 H
    clear H
    go_upto_if 15 with (fail)
    go_cut [6] (fun v6 wc => ∃ (kq : Nat) (x6_5 : Int), v6 = .int .i64 x6_5 ∧ Aside0 (hostlerref10_Next.j1 kq a0 a1 x6_5 = some (r1, r2)) ∧ Aside0 (kq ≤ kj3) ∧ Drawn0 w wc)
    case first =>
     have H := HC6.out
     clear HC6
     by_cases c7 : x15_3 = true
     ·subst c7
      have H1 : (hostlerref10_Next.j1 kj3 a0 a1 1) = some (r1, r2) := by rw [if_pos rfl] at H; exact H
      clear H
      have H := H1
      clear H1
      have H' := as0 H
      clear H
      go_wp2
      go_meet
      case rel => exact ⟨_, (1), (by first | rfl | (simp; done) | (simp [*]; done)), H', ⟨by have := HJ3.out; first | omega | exact Nat.le_refl _⟩, by repeat (first | exact Drawn0.refl _ | apply Drawn0.step)⟩
     ·replace c7 := Bool.eq_false_iff.mpr c7
      subst c7
      have H1 : (hostlerref10_Next.j1 kj3 a0 a1 (-1)) = some (r1, r2) := by rw [if_neg (show ¬ (false = true) by decide)] at H; exact H
      clear H
      have H := H1
      clear H1
      have H' := as0 H
      clear H
      go_wp2
      go_meet
      case rel => exact ⟨_, ((-1)), (by first | rfl | (simp; done) | (simp [*]; done)), H', ⟨by have := HJ3.out; first | omega | exact Nat.le_refl _⟩, by repeat (first | exact Drawn0.refl _ | apply Drawn0.step)⟩
    case rest =>
     clear HC6
     try clear p2
     try clear c3
     try clear c3b0
     try clear c3b1
     try clear c5
     try clear c5b0
     try clear c5b1
     try clear c6
     try clear c7
     try clear p2
     obtain ⟨kq, x6_5, rfl, HA, HJ5, ⟨mc5, rfl⟩⟩ := hcut
     cases kq with
     | zero => exact absurd HA.out (by simp [hostlerref10_Next.j1])
     | succ kj5 =>
      have H := HA.out
      clear HA
      simp only [hostlerref10_Next.j1] at H
      by_cases c8 : a1 = 2
      ·rw [if_pos c8] at H
       have c8b0 : (a1 == 2) = true := beq_iff_eq.mpr c8
       have c8b1 : (a1 != 2) = false := bne_eq_false_iff_eq.mpr c8
       clear c8
       simp only [Option.some.injEq, Prod.mk.injEq] at H
       obtain ⟨rfl, rfl⟩ := H
       go_wp2
       go_ret2
       exact ⟨by first | rfl | (simp; done) | (simp [*]; done), by repeat (first | exact Drawn0.refl _ | apply Drawn0.step)⟩
      ·rw [if_neg c8] at H
       have c8b0 : (a1 == 2) = false := beq_eq_false_iff_ne.mpr c8
       have c8b1 : (a1 != 2) = true := bne_iff_ne.mpr c8
       by_cases c9 : x6_5 < 0
       ·rw [if_pos c9] at H
        have c9b0 : decide (x6_5 < 0) = true := decide_eq_true c9
        clear c9
        simp only [Option.some.injEq, Prod.mk.injEq] at H
        obtain ⟨rfl, rfl⟩ := H
        go_wp2
        go_ret2
        exact ⟨by first | rfl | (simp; done) | (simp [*]; done), by repeat (first | exact Drawn0.refl _ | apply Drawn0.step)⟩
       ·rw [if_neg c9] at H
        have c9b0 : decide (x6_5 < 0) = false := decide_eq_false c9
        clear c9
        simp only [Option.some.injEq, Prod.mk.injEq] at H
        obtain ⟨rfl, rfl⟩ := H
        go_wp2
        go_ret2
        exact ⟨by first | rfl | (simp; done) | (simp [*]; done), by repeat (first | exact Drawn0.refl _ | apply Drawn0.step)⟩
 ·rw [if_neg c3] at H
  have c3b0 : (a0 == 0) = false := beq_eq_false_iff_ne.mpr c3
  have c3b1 : (a0 != 0) = true := bne_iff_ne.mpr c3
  by_cases c10 : a0 = 1
  ·rw [if_pos c10] at H
   have c10b0 : (a0 == 1) = true := beq_iff_eq.mpr c10
   have c10b1 : (a0 != 1) = false := bne_eq_false_iff_eq.mpr c10
   clear c10
   have HC11 := as0 H
   clear H
   go_enter Tryz.func62, Tryz.ntmps62
   go_upto_region 9 with (fail)
   go_cut [25] (fun v25 wc => ∃ (kq : Nat) (x25_10 : Bool), v25 = .bool x25_10 ∧ Aside0 (hostlerref10_Next.j2 kq a0 a1 (-1) x25_10 = some (r1, r2)) ∧ Aside0 (kq ≤ k) ∧ Drawn0 w wc)
   case first =>
    have H := HC11.out
    clear HC11
    by_cases c12 : a1 = 1
    ·rw [if_pos c12] at H
     have c12b0 : (a1 == 1) = true := beq_iff_eq.mpr c12
     have c12b1 : (a1 != 1) = false := bne_eq_false_iff_eq.mpr c12
     clear c12
     (first | rw [c12b0] | (simp only [ze0, zd0]; rw [c12b0]) | skip)
     have H' := as0 H
     clear H
     go_wp2
     go_meet
     case rel => exact ⟨_, (true), (by first | rfl | (simp; done) | (simp [*]; done)), H', ⟨by first | omega | exact Nat.le_refl _⟩, by repeat (first | exact Drawn0.refl _ | apply Drawn0.step)⟩
    ·rw [if_neg c12] at H
     have c12b0 : (a1 == 1) = false := beq_eq_false_iff_ne.mpr c12
     have c12b1 : (a1 != 1) = true := bne_iff_ne.mpr c12
     (first | rw [c12b0] | (simp only [ze0, zd0]; rw [c12b0]) | skip)
     have H' := as0 H
     clear H
     go_wp2
     go_meet
     case rel => exact ⟨_, ((a1 == 6)), (by first | rfl | (simp; done) | (simp [*]; done)), H', ⟨by first | omega | exact Nat.le_refl _⟩, by repeat (first | exact Drawn0.refl _ | apply Drawn0.step)⟩
   case rest =>
    clear HC11
    try clear c1
    try clear p2
    try clear c3
    try clear c3b0
    try clear c3b1
    try clear c5
    try clear c5b0
    try clear c5b1
    try clear c6
    try clear c7
    try clear c8
    try clear c8b0
    try clear c8b1
    try clear c9
    try clear c9b0
    try clear c10
    try clear c10b0
    try clear c10b1
    try clear c12
    try clear c12b0
    try clear c12b1
    try clear p2
    obtain ⟨kq, x25_10, rfl, HA, HJ10, ⟨mc10, rfl⟩⟩ := hcut
    cases kq with
    | zero => exact absurd HA.out (by simp [hostlerref10_Next.j2])
    | succ kj10 =>
     have H := HA.out
     clear HA
     simp only [hostlerref10_Next.j2] at H
     have HC13 := as0 H
     clear H
     go_upto_if 25 with (fail)
     go_cut [6] (fun v6 wc => ∃ (kq : Nat) (x6_12 : Int), v6 = .int .i64 x6_12 ∧ Aside0 (hostlerref10_Next.j3 kq a0 a1 x6_12 = some (r1, r2)) ∧ Aside0 (kq ≤ kj10) ∧ Drawn0 w wc)
     case first =>
      have H := HC13.out
      clear HC13
      by_cases c14 : x25_10 = true
      ·subst c14
       have H1 : (hostlerref10_Next.j3 kj10 a0 a1 0) = some (r1, r2) := by rw [if_pos rfl] at H; exact H
       clear H
       have H := H1
       clear H1
       have H' := as0 H
       clear H
       go_wp2
       go_meet
       case rel => exact ⟨_, (0), (by first | rfl | (simp; done) | (simp [*]; done)), H', ⟨by have := HJ10.out; first | omega | exact Nat.le_refl _⟩, by repeat (first | exact Drawn0.refl _ | apply Drawn0.step)⟩
      ·replace c14 := Bool.eq_false_iff.mpr c14
       subst c14
       have H1 : (hostlerref10_Next.j3 kj10 a0 a1 (-1)) = some (r1, r2) := by rw [if_neg (show ¬ (false = true) by decide)] at H; exact H
       clear H
       have H := H1
       clear H1
       have H' := as0 H
       clear H
       go_wp2
       go_meet
       case rel => exact ⟨_, ((-1)), (by first | rfl | (simp; done) | (simp [*]; done)), H', ⟨by have := HJ10.out; first | omega | exact Nat.le_refl _⟩, by repeat (first | exact Drawn0.refl _ | apply Drawn0.step)⟩
     case rest =>
      clear HC13
      try clear c1
      try clear p2
      try clear c3
      try clear c3b0
      try clear c3b1
      try clear c5
      try clear c5b0
      try clear c5b1
      try clear c6
      try clear c7
      try clear c8
      try clear c8b0
      try clear c8b1
      try clear c9
      try clear c9b0
      try clear c10
      try clear c10b0
      try clear c10b1
      try clear c12
      try clear c12b0
      try clear c12b1
      try clear c14
      try clear p2
      obtain ⟨kq, x6_12, rfl, HA, HJ12, ⟨mc12, rfl⟩⟩ := hcut
      cases kq with
      | zero => exact absurd HA.out (by simp [hostlerref10_Next.j3])
      | succ kj12 =>
       have H := HA.out
       clear HA
       simp only [hostlerref10_Next.j3] at H
       by_cases c15 : a1 = 4
       ·rw [if_pos c15] at H
        have c15b0 : (a1 == 4) = true := beq_iff_eq.mpr c15
        have c15b1 : (a1 != 4) = false := bne_eq_false_iff_eq.mpr c15
        clear c15
        simp only [Option.some.injEq, Prod.mk.injEq] at H
        obtain ⟨rfl, rfl⟩ := H
        go_wp2
        go_ret2
        exact ⟨by first | rfl | (simp; done) | (simp [*]; done), by repeat (first | exact Drawn0.refl _ | apply Drawn0.step)⟩
       ·rw [if_neg c15] at H
        have c15b0 : (a1 == 4) = false := beq_eq_false_iff_ne.mpr c15
        have c15b1 : (a1 != 4) = true := bne_iff_ne.mpr c15
        by_cases c16 : x6_12 < 0
        ·rw [if_pos c16] at H
         have c16b0 : decide (x6_12 < 0) = true := decide_eq_true c16
         clear c16
         simp only [Option.some.injEq, Prod.mk.injEq] at H
         obtain ⟨rfl, rfl⟩ := H
         go_wp2
         go_ret2
         exact ⟨by first | rfl | (simp; done) | (simp [*]; done), by repeat (first | exact Drawn0.refl _ | apply Drawn0.step)⟩
        ·rw [if_neg c16] at H
         have c16b0 : decide (x6_12 < 0) = false := decide_eq_false c16
         clear c16
         simp only [Option.some.injEq, Prod.mk.injEq] at H
         obtain ⟨rfl, rfl⟩ := H
         go_wp2
         go_ret2
         exact ⟨by first | rfl | (simp; done) | (simp [*]; done), by repeat (first | exact Drawn0.refl _ | apply Drawn0.step)⟩
  ·rw [if_neg c10] at H
   have c10b0 : (a0 == 1) = false := beq_eq_false_iff_ne.mpr c10
   have c10b1 : (a0 != 1) = true := bne_iff_ne.mpr c10
   by_cases c17 : a0 = 2
   ·rw [if_pos c17] at H
    have c17b0 : (a0 == 2) = true := beq_iff_eq.mpr c17
    have c17b1 : (a0 != 2) = false := bne_eq_false_iff_eq.mpr c17
    clear c17
    have HC18 := as0 H
    clear H
    go_enter Tryz.func62, Tryz.ntmps62
    go_upto_region 14 with (fail)
    go_cut [35] (fun v35 wc => ∃ (kq : Nat) (x35_17 : Bool), v35 = .bool x35_17 ∧ Aside0 (hostlerref10_Next.j4 kq a0 a1 (-1) x35_17 = some (r1, r2)) ∧ Aside0 (kq ≤ k) ∧ Drawn0 w wc)
    case first =>
     have H := HC18.out
     clear HC18
     by_cases c19 : a1 = 0
     ·rw [if_pos c19] at H
      have c19b0 : (a1 == 0) = true := beq_iff_eq.mpr c19
      have c19b1 : (a1 != 0) = false := bne_eq_false_iff_eq.mpr c19
      clear c19
      (first | rw [c19b0] | (simp only [ze0, zd0]; rw [c19b0]) | skip)
      have H' := as0 H
      clear H
      go_wp2
      go_meet
      case rel => exact ⟨_, (true), (by first | rfl | (simp; done) | (simp [*]; done)), H', ⟨by first | omega | exact Nat.le_refl _⟩, by repeat (first | exact Drawn0.refl _ | apply Drawn0.step)⟩
     ·rw [if_neg c19] at H
      have c19b0 : (a1 == 0) = false := beq_eq_false_iff_ne.mpr c19
      have c19b1 : (a1 != 0) = true := bne_iff_ne.mpr c19
      (first | rw [c19b0] | (simp only [ze0, zd0]; rw [c19b0]) | skip)
      have H' := as0 H
      clear H
      go_wp2
      go_meet
      case rel => exact ⟨_, ((a1 == 5)), (by first | rfl | (simp; done) | (simp [*]; done)), H', ⟨by first | omega | exact Nat.le_refl _⟩, by repeat (first | exact Drawn0.refl _ | apply Drawn0.step)⟩
    case rest =>
     clear HC18
     try clear c1
     try clear p2
     try clear c3
     try clear c3b0
     try clear c3b1
     try clear c5
     try clear c5b0
     try clear c5b1
     try clear c6
     try clear c7
     try clear c8
     try clear c8b0
     try clear c8b1
     try clear c9
     try clear c9b0
     try clear c10
     try clear c10b0
     try clear c10b1
     try clear c12
     try clear c12b0
     try clear c12b1
     try clear c14
     try clear c15
     try clear c15b0
     try clear c15b1
     try clear c16
     try clear c16b0
     try clear c17
     try clear c17b0
     try clear c17b1
     try clear c19
     try clear c19b0
     try clear c19b1
     try clear p2
     obtain ⟨kq, x35_17, rfl, HA, HJ17, ⟨mc17, rfl⟩⟩ := hcut
     cases kq with
     | zero => exact absurd HA.out (by simp [hostlerref10_Next.j4])
     | succ kj17 =>
      have H := HA.out
      clear HA
      simp only [hostlerref10_Next.j4] at H
      have HC20 := as0 H
      clear H
      go_upto_if 35 with (fail)
      go_cut [6] (fun v6 wc => ∃ (kq : Nat) (x6_19 : Int), v6 = .int .i64 x6_19 ∧ Aside0 (hostlerref10_Next.j5 kq a0 a1 x6_19 = some (r1, r2)) ∧ Aside0 (kq ≤ kj17) ∧ Drawn0 w wc)
      case first =>
       have H := HC20.out
       clear HC20
       by_cases c21 : x35_17 = true
       ·subst c21
        have H1 : (hostlerref10_Next.j5 kj17 a0 a1 1) = some (r1, r2) := by rw [if_pos rfl] at H; exact H
        clear H
        have H := H1
        clear H1
        have H' := as0 H
        clear H
        go_wp2
        go_meet
        case rel => exact ⟨_, (1), (by first | rfl | (simp; done) | (simp [*]; done)), H', ⟨by have := HJ17.out; first | omega | exact Nat.le_refl _⟩, by repeat (first | exact Drawn0.refl _ | apply Drawn0.step)⟩
       ·replace c21 := Bool.eq_false_iff.mpr c21
        subst c21
        have H1 : (hostlerref10_Next.j5 kj17 a0 a1 (-1)) = some (r1, r2) := by rw [if_neg (show ¬ (false = true) by decide)] at H; exact H
        clear H
        have H := H1
        clear H1
        have H' := as0 H
        clear H
        go_wp2
        go_meet
        case rel => exact ⟨_, ((-1)), (by first | rfl | (simp; done) | (simp [*]; done)), H', ⟨by have := HJ17.out; first | omega | exact Nat.le_refl _⟩, by repeat (first | exact Drawn0.refl _ | apply Drawn0.step)⟩
      case rest =>
       clear HC20
       try clear c1
       try clear c2
       try clear p2
       try clear c3
       try clear c3b0
       try clear c3b1
       try clear c5
       try clear c5b0
       try clear c5b1
       try clear c6
       try clear c7
       try clear c8
       try clear c8b0
       try clear c8b1
       try clear c9
       try clear c9b0
       try clear c10
       try clear c10b0
       try clear c10b1
       try clear c12
       try clear c12b0
       try clear c12b1
       try clear c14
       try clear c15
       try clear c15b0
       try clear c15b1
       try clear c16
       try clear c16b0
       try clear c17
       try clear c17b0
       try clear c17b1
       try clear c19
       try clear c19b0
       try clear c19b1
       try clear c21
       try clear p2
       obtain ⟨kq, x6_19, rfl, HA, HJ19, ⟨mc19, rfl⟩⟩ := hcut
       cases kq with
       | zero => exact absurd HA.out (by simp [hostlerref10_Next.j5])
       | succ kj19 =>
        have H := HA.out
        clear HA
        simp only [hostlerref10_Next.j5] at H
        by_cases c22 : a1 = 3
        ·rw [if_pos c22] at H
         have c22b0 : (a1 == 3) = true := beq_iff_eq.mpr c22
         have c22b1 : (a1 != 3) = false := bne_eq_false_iff_eq.mpr c22
         clear c22
         simp only [Option.some.injEq, Prod.mk.injEq] at H
         obtain ⟨rfl, rfl⟩ := H
         go_wp2
         go_ret2
         exact ⟨by first | rfl | (simp; done) | (simp [*]; done), by repeat (first | exact Drawn0.refl _ | apply Drawn0.step)⟩
        ·rw [if_neg c22] at H
         have c22b0 : (a1 == 3) = false := beq_eq_false_iff_ne.mpr c22
         have c22b1 : (a1 != 3) = true := bne_iff_ne.mpr c22
         by_cases c23 : x6_19 < 0
         ·rw [if_pos c23] at H
          have c23b0 : decide (x6_19 < 0) = true := decide_eq_true c23
          clear c23
          simp only [Option.some.injEq, Prod.mk.injEq] at H
          obtain ⟨rfl, rfl⟩ := H
          go_wp2
          go_ret2
          exact ⟨by first | rfl | (simp; done) | (simp [*]; done), by repeat (first | exact Drawn0.refl _ | apply Drawn0.step)⟩
         ·rw [if_neg c23] at H
          have c23b0 : decide (x6_19 < 0) = false := decide_eq_false c23
          clear c23
          simp only [Option.some.injEq, Prod.mk.injEq] at H
          obtain ⟨rfl, rfl⟩ := H
          go_wp2
          go_ret2
          exact ⟨by first | rfl | (simp; done) | (simp [*]; done), by repeat (first | exact Drawn0.refl _ | apply Drawn0.step)⟩
   ·rw [if_neg c17] at H
    have c17b0 : (a0 == 2) = false := beq_eq_false_iff_ne.mpr c17
    have c17b1 : (a0 != 2) = true := bne_iff_ne.mpr c17
    by_cases c24 : a0 = 3
    ·rw [if_pos c24] at H
     have c24b0 : (a0 == 3) = true := beq_iff_eq.mpr c24
     have c24b1 : (a0 != 3) = false := bne_eq_false_iff_eq.mpr c24
     clear c24
     have HC25 := as0 H
     clear H
     go_enter Tryz.func62, Tryz.ntmps62
     go_upto_region 19 with (fail)
     go_cut [45] (fun v45 wc => ∃ (kq : Nat) (x45_24 : Bool), v45 = .bool x45_24 ∧ Aside0 (hostlerref10_Next.j6 kq a0 (-1) x45_24 = some (r1, r2)) ∧ Aside0 (kq ≤ k) ∧ Drawn0 w wc)
     case first =>
      have H := HC25.out
      clear HC25
      by_cases c26 : a1 = 1
      ·rw [if_pos c26] at H
       have c26b0 : (a1 == 1) = true := beq_iff_eq.mpr c26
       have c26b1 : (a1 != 1) = false := bne_eq_false_iff_eq.mpr c26
       clear c26
       (first | rw [c26b0] | (simp only [ze0, zd0]; rw [c26b0]) | skip)
       have H' := as0 H
       clear H
       go_wp2
       go_meet
       case rel => exact ⟨_, (true), (by first | rfl | (simp; done) | (simp [*]; done)), H', ⟨by first | omega | exact Nat.le_refl _⟩, by repeat (first | exact Drawn0.refl _ | apply Drawn0.step)⟩
      ·rw [if_neg c26] at H
       have c26b0 : (a1 == 1) = false := beq_eq_false_iff_ne.mpr c26
       have c26b1 : (a1 != 1) = true := bne_iff_ne.mpr c26
       (first | rw [c26b0] | (simp only [ze0, zd0]; rw [c26b0]) | skip)
       have H' := as0 H
       clear H
       go_wp2
       go_meet
       case rel => exact ⟨_, ((a1 == 6)), (by first | rfl | (simp; done) | (simp [*]; done)), H', ⟨by first | omega | exact Nat.le_refl _⟩, by repeat (first | exact Drawn0.refl _ | apply Drawn0.step)⟩
     case rest =>
      clear HC25
      try clear c1
      try clear c2
      try clear p2
      try clear c3
      try clear c3b0
      try clear c3b1
      try clear c5
      try clear c5b0
      try clear c5b1
      try clear c6
      try clear c7
      try clear c8
      try clear c8b0
      try clear c8b1
      try clear c9
      try clear c9b0
      try clear c10
      try clear c10b0
      try clear c10b1
      try clear c12
      try clear c12b0
      try clear c12b1
      try clear c14
      try clear c15
      try clear c15b0
      try clear c15b1
      try clear c16
      try clear c16b0
      try clear c17
      try clear c17b0
      try clear c17b1
      try clear c19
      try clear c19b0
      try clear c19b1
      try clear c21
      try clear c22
      try clear c22b0
      try clear c22b1
      try clear c23
      try clear c23b0
      try clear c24
      try clear c24b0
      try clear c24b1
      try clear c26
      try clear c26b0
      try clear c26b1
      try clear p2
      obtain ⟨kq, x45_24, rfl, HA, HJ24, ⟨mc24, rfl⟩⟩ := hcut
      cases kq with
      | zero => exact absurd HA.out (by simp [hostlerref10_Next.j6])
      | succ kj24 =>
       have H := HA.out
       clear HA
       simp only [hostlerref10_Next.j6] at H
       by_cases c27 : x45_24 = true
       ·subst c27
        have H1 : (some (0, true)) = some (r1, r2) := by rw [if_pos rfl] at H; exact H
        clear H
        have H := H1
        clear H1
        simp only [Option.some.injEq, Prod.mk.injEq] at H
        obtain ⟨rfl, rfl⟩ := H
        go_wp2
        go_ret2
        exact ⟨by first | rfl | (simp; done) | (simp [*]; done), by repeat (first | exact Drawn0.refl _ | apply Drawn0.step)⟩
       ·replace c27 := Bool.eq_false_iff.mpr c27
        subst c27
        have H1 : (if (-1) < 0 then (some (a0, false)) else (some ((-1), true))) = some (r1, r2) := by rw [if_neg (show ¬ (false = true) by decide)] at H; exact H
        clear H
        have H := H1
        clear H1
        by_cases c28 : (-1) < 0
        ·rw [if_pos c28] at H
         have c28b0 : decide ((-1) < 0) = true := decide_eq_true c28
         clear c28
         simp only [Option.some.injEq, Prod.mk.injEq] at H
         obtain ⟨rfl, rfl⟩ := H
         go_wp2
         go_ret2
         exact ⟨by first | rfl | (simp; done) | (simp [*]; done), by repeat (first | exact Drawn0.refl _ | apply Drawn0.step)⟩
        ·exact absurd (by decide) c28
    ·rw [if_neg c24] at H
     have c24b0 : (a0 == 3) = false := beq_eq_false_iff_ne.mpr c24
     have c24b1 : (a0 != 3) = true := bne_iff_ne.mpr c24
     simp only [Option.some.injEq, Prod.mk.injEq] at H
     obtain ⟨rfl, rfl⟩ := H
     go_enter Tryz.func62, Tryz.ntmps62
     go_wp2
     go_ret2
     exact ⟨by first | rfl | (simp; done) | (simp [*]; done), by repeat (first | exact Drawn0.refl _ | apply Drawn0.step)⟩
end
section
attribute [local go_sem] zt1 zv1 zd2 zb2 zn1 zl1 z32 z52   -- for this text's walks alone
def hostlerref11_Capacity.l0 : Nat → List Int → Int → Int → Int → Option (Int)
 | 0, _, _, _, _ => none
 | k + 1, x0, x1, x5, x6 => if x6 < (x0.length : Int) then (if 0 ≤ x6 then (if (rd x0 x6) = 0 then (if x1 > 0 then (hostlerref11_Capacity.l0 k x0 x1 (wrap64 (x5 + x1)) (wrap64 (x6 + 1))) else (hostlerref11_Capacity.l0 k x0 x1 x5 (wrap64 (x6 + 1)))) else (hostlerref11_Capacity.l0 k x0 x1 x5 (wrap64 (x6 + 1)))) else (none)) else (some x5)
def hostlerref11_Capacity.f (k : Nat) (l0 : List Int) (a1 : Int) : Option (Int) := hostlerref11_Capacity.l0 k l0 a1 0 0
theorem hostlerref11_Capacity.calls (k : Nat) (A0 : Option Addr) (c0 : Nat) (l0 : List Int) (a1 : Int) (r : Int) (w : World) (hr0 : Kd.C (Kd.int .i64) w A0 l0.length l0) (hc0 : l0.length ≤ c0) (h : hostlerref11_Capacity.f k l0 a1 = some r) :
  Calls Tryz.prog 69 #[.slice A0 l0.length c0, .int .i64 a1] w fun e w' => e = .returned (.int .i64 r) ∧ Drawn0 w w' := by
 have HR0 := as0 hr0
 have HC0 := as0 hc0
 clear hr0 hc0
 have H : (hostlerref11_Capacity.l0 k l0 a1 0 0) = some r := h
 clear h
 have H' := as0 H
 clear H
 go_enter Tryz.func69, Tryz.ntmps69
 go_wp2
 go_loopg [5, 6] k (fun kq v5 v6 w' => ∃ (x5_1 : Int) (x6_1 : Int), v5 = .int .i64 x5_1 ∧ v6 = .int .i64 x6_1 ∧ Aside0 (hostlerref11_Capacity.l0 kq l0 a1 x5_1 x6_1 = some r) ∧ Aside0 (kq ≤ k) ∧ Drawn0 w w')
 case atStart => exact ⟨(0), (0), (by first | rfl | (simp; done) | (simp [*]; done)), (by first | rfl | (simp; done) | (simp [*]; done)), H', ⟨Nat.le_refl _⟩, by repeat (first | exact Drawn0.refl _ | apply Drawn0.step)⟩
 case round =>
  clear H'
  try clear p2
  obtain ⟨x5_1, x6_1, rfl, rfl, HA, HK1, ⟨m1, rfl⟩⟩ := hrel
  cases gk with
  | zero => exact absurd HA.out (by simp [hostlerref11_Capacity.l0])
  | succ k1 =>
   have H := HA.out
   clear HA
   simp only [hostlerref11_Capacity.l0] at H
   by_cases c3 : x6_1 < (l0.length : Int)
   ·rw [if_pos c3] at H
    have c3b0 : decide (x6_1 < (l0.length : Int)) = true := decide_eq_true c3
    clear c3
    by_cases c4 : 0 ≤ x6_1
    ·rw [if_pos c4] at H
     have c4b0 : decide (0 ≤ x6_1) = true := decide_eq_true c4
     clear c4
     by_cases c5 : (rd l0 x6_1) = 0
     ·rw [if_pos c5] at H
      have c5b0 : ((rd l0 x6_1) == 0) = true := beq_iff_eq.mpr c5
      have c5b1 : ((rd l0 x6_1) != 0) = false := bne_eq_false_iff_eq.mpr c5
      clear c5
      by_cases c6 : a1 > 0
      ·rw [if_pos c6] at H
       have c6b0 : decide (0 < a1) = true := decide_eq_true c6
       clear c6
       have H' := as0 H
       clear H
       have p142 : 0 ≤ (x6_1 : Int) := of_decide_eq_true (by first | (with_reducible assumption) | assumption)
       have q142 : x6_1 < (l0.length : Int) := of_decide_eq_true (by first | (with_reducible assumption) | assumption)
       obtain ⟨ad142, e142, hx142_0⟩ := Kd.at_int HR0.out x6_1 p142 q142
       cases e142
       replace p142 := eq_true p142
       replace q142 := eq_true q142
       go_wp2
       go_roundg k1
       case measure => have := HK1.out; omega
       case rel => exact ⟨(wrap64 (x5_1 + a1)), (wrap64 (x6_1 + 1)), (by first | rfl | (simp; done) | (simp [*]; done)), (by first | rfl | (simp; done) | (simp [*]; done)), H', ⟨by have := HK1.out; omega⟩, by repeat (first | exact Drawn0.refl _ | apply Drawn0.step)⟩
      ·rw [if_neg c6] at H
       have c6b0 : decide (0 < a1) = false := decide_eq_false c6
       clear c6
       have H' := as0 H
       clear H
       have p142 : 0 ≤ (x6_1 : Int) := of_decide_eq_true (by first | (with_reducible assumption) | assumption)
       have q142 : x6_1 < (l0.length : Int) := of_decide_eq_true (by first | (with_reducible assumption) | assumption)
       obtain ⟨ad142, e142, hx142_0⟩ := Kd.at_int HR0.out x6_1 p142 q142
       cases e142
       replace p142 := eq_true p142
       replace q142 := eq_true q142
       go_wp2
       go_roundg k1
       case measure => have := HK1.out; omega
       case rel => exact ⟨(x5_1), (wrap64 (x6_1 + 1)), (by first | rfl | (simp; done) | (simp [*]; done)), (by first | rfl | (simp; done) | (simp [*]; done)), H', ⟨by have := HK1.out; omega⟩, by repeat (first | exact Drawn0.refl _ | apply Drawn0.step)⟩
     ·rw [if_neg c5] at H
      have c5b0 : ((rd l0 x6_1) == 0) = false := beq_eq_false_iff_ne.mpr c5
      have c5b1 : ((rd l0 x6_1) != 0) = true := bne_iff_ne.mpr c5
      have H' := as0 H
      clear H
      have p142 : 0 ≤ (x6_1 : Int) := of_decide_eq_true (by first | (with_reducible assumption) | assumption)
      have q142 : x6_1 < (l0.length : Int) := of_decide_eq_true (by first | (with_reducible assumption) | assumption)
      obtain ⟨ad142, e142, hx142_0⟩ := Kd.at_int HR0.out x6_1 p142 q142
      cases e142
      replace p142 := eq_true p142
      replace q142 := eq_true q142
      go_wp2
      go_roundg k1
      case measure => have := HK1.out; omega
      case rel => exact ⟨(x5_1), (wrap64 (x6_1 + 1)), (by first | rfl | (simp; done) | (simp [*]; done)), (by first | rfl | (simp; done) | (simp [*]; done)), H', ⟨by have := HK1.out; omega⟩, by repeat (first | exact Drawn0.refl _ | apply Drawn0.step)⟩
    ·rw [if_neg c4] at H
     exact absurd H (by simp)
   ·rw [if_neg c3] at H
    have c3b0 : decide (x6_1 < (l0.length : Int)) = false := decide_eq_false c3
    clear c3
    obtain rfl := Option.some.inj H
    go_wp2
    go_ret
    exact ⟨by first | rfl | (simp; done) | (simp [*]; done), by repeat (first | exact Drawn0.refl _ | apply Drawn0.step)⟩
def hostlerref11_Without.l0 : Nat → List Int → Int → Int → List Int → Int → Option (Int)
 | 0, _, _, _, _, _ => none
 | k + 1, x0, x1, x2, x7, x8 => if x8 < (x0.length : Int) then (if x8 = x1 then (hostlerref11_Without.l0 k x0 x1 x2 x7 (wrap64 (x8 + 1))) else (if 0 ≤ x8 then (if x7.length < 17592186044416 then (hostlerref11_Without.l0 k x0 x1 x2 (x7 ++ [rd x0 x8]) (wrap64 (x8 + 1))) else (none)) else (none))) else ((hostlerref11_Capacity.f k x7 x2).bind fun t147 => (some t147))
def hostlerref11_Without.f (k : Nat) (l0 : List Int) (a1 : Int) (a2 : Int) : Option (Int) := hostlerref11_Without.l0 k l0 a1 a2 ([] : List Int) 0
theorem hostlerref11_Without.calls (k : Nat) (A0 : Option Addr) (c0 : Nat) (l0 : List Int) (a1 : Int) (a2 : Int) (r : Int) (w : World) (hr0 : Kd.C (Kd.int .i64) w A0 l0.length l0) (hc0 : l0.length ≤ c0) (h : hostlerref11_Without.f k l0 a1 a2 = some r) :
  Calls Tryz.prog 110 #[.slice A0 l0.length c0, .int .i64 a1, .int .i64 a2] w fun e w' => e = .returned (.int .i64 r) ∧ Below w.heap.size w w' := by
 have HR0 := as0 hr0
 have HC0 := as0 hc0
 clear hr0 hc0
 have HB := as0 (Below.refl w.heap.size w)
 have H : (hostlerref11_Without.l0 k l0 a1 a2 ([] : List Int) 0) = some r := h
 clear h
 have H' := as0 H
 clear H
 go_enter Tryz.func110, Tryz.ntmps110
 go_wp2
 go_loopg [7, 8] k (fun kq v7 v8 w' => ∃ (x7_1 : List Int) (x8_1 : Int), v8 = .int .i64 x8_1 ∧ Aside0 (hostlerref11_Without.l0 kq l0 a1 a2 x7_1 x8_1 = some r) ∧ Aside0 (kq ≤ k) ∧ Aside0 (Kd.R (Kd.int .i64) 3 w' w.heap.size (fun _ => True) v7 x7_1) ∧ Aside0 (Below w.heap.size w w'))
 case atStart => exact ⟨(([] : List Int)), (0), (by first | rfl | (simp; done) | (simp [*]; done)), H', ⟨Nat.le_refl _⟩, ⟨by first | exact Kd.R_nil _ _ _ _ _ | exact Kd.N_nil _ _ _ _ _ | exact Kd.V_nil _ _ _ _ _ | exact Kd.Q_nil _ _ _ _ _ | exact Kd.S_nil _ _ _ _ _⟩, ⟨by repeat (first | (with_reducible first | exact HB.out | apply z80 | apply z90 | apply z50) | exact HB.out)⟩⟩
 case round =>
  clear H'
  try clear c1
  try clear p2
  obtain ⟨x7_1, x8_1, rfl, HA, HK1, HO_7, HB⟩ := hrel
  cases gk with
  | zero => exact absurd HA.out (by simp [hostlerref11_Without.l0])
  | succ k1 =>
   have H := HA.out
   clear HA
   simp only [hostlerref11_Without.l0] at H
   by_cases c4 : x8_1 < (l0.length : Int)
   ·rw [if_pos c4] at H
    have c4b0 : decide (x8_1 < (l0.length : Int)) = true := decide_eq_true c4
    clear c4
    by_cases c5 : x8_1 = a1
    ·rw [if_pos c5] at H
     have c5b0 : (x8_1 == a1) = true := beq_iff_eq.mpr c5
     have c5b1 : (x8_1 != a1) = false := bne_eq_false_iff_eq.mpr c5
     clear c5
     have H' := as0 H
     clear H
     go_wp2
     go_roundg k1
     case measure => have := HK1.out; omega
     case rel => exact ⟨(x7_1), (wrap64 (x8_1 + 1)), (by first | rfl | (simp; done) | (simp [*]; done)), H', ⟨by have := HK1.out; omega⟩, ⟨by (with_reducible repeat (first | apply Kd.R_alloc | apply Kd.R_drewN | apply Kd.R_drew)); exact HO_7.out⟩, ⟨by repeat (first | (with_reducible first | exact HB.out | apply z80 | apply z90 | apply z50) | exact HB.out)⟩⟩
    ·rw [if_neg c5] at H
     have c5b0 : (x8_1 == a1) = false := beq_eq_false_iff_ne.mpr c5
     have c5b1 : (x8_1 != a1) = true := bne_iff_ne.mpr c5
     by_cases c6 : 0 ≤ x8_1
     ·rw [if_pos c6] at H
      have c6b0 : decide (0 ≤ x8_1) = true := decide_eq_true c6
      clear c6
      by_cases c7 : x7_1.length < 17592186044416
      ·rw [if_pos c7] at H
       have LMc7 := as0 c7
       clear c7
       obtain ⟨y144, hy144⟩ : ∃ y_ : List Int, y_ = (x7_1 ++ [rd l0 x8_1]) := ⟨_, rfl⟩
       replace H : (hostlerref11_Without.l0 k1 l0 a1 a2 y144 (wrap64 (x8_1 + 1))) = some r := by first | (rw [hy144]; with_reducible exact H) | (have H2_ := (Option.bind_some _ _).symm.trans H; rw [hy144]; with_reducible exact H2_) | (have H2_ := (Option.bind_some _ _).symm.trans H; with_reducible exact H2_) | with_reducible exact H | (rw [hy144]; exact H) | exact H
       have Ny144 := as0 hy144
       clear hy144
       have H' := as0 H
       clear H
       have p143 : 0 ≤ (x8_1 : Int) := of_decide_eq_true (by first | (with_reducible assumption) | assumption)
       have q143 : x8_1 < (l0.length : Int) := of_decide_eq_true (by first | (with_reducible assumption) | assumption)
       obtain ⟨ad143, e143, hx143_0⟩ := Kd.at_int HR0.out x8_1 p143 q143
       cases e143
       replace hx143_0 := (HB.out.cell (World.block_lt_of_cell? w _ hx143_0)).trans hx143_0
       replace p143 := eq_true p143
       replace q143 := eq_true q143
       go_wp2_with (first | ((with_reducible refine zm0 (b := .append) (xs := #[.tmp 18, .tmp 23]) rfl ?_); at_builtin; refine Kd.R_append (Kd.int .i64) (w0 := w) w.heap.size rfl (.tmp 18) (.tmp 23) 28 3 (.int .i64 0) 8 rfl Tryz.underlying28 z76 rfl (by decide) (by omega) u7 x7_1 (rd l0 x8_1) [.int .i64 (rd l0 x8_1)] (fun _ => True) (fun _ => False) rfl rfl ?aP (fun _ hk => hk.elim) ?aF ?aO ?aB ?aS ?aL ?_; (case aP => exact rfl); (case aB => exact (by repeat (first | (with_reducible first | exact HB.out | apply z80 | apply z90 | apply z50) | exact HB.out))); (case aF => exact (fun _ _ => trivial)); (case aO => exact (by (with_reducible repeat (first | apply Kd.R_alloc | apply Kd.R_drewN | apply Kd.R_drew)); exact HO_7.out)); (case aS => exact (zt0 (by repeat (first | (with_reducible first | exact HB.out | apply z80 | apply z90 | apply z50) | exact HB.out)))); (case aL => have := LMc7.out; omega); intro v145 w8 ho hb hg hat; rw [← Ny144.out] at ho; have n0_ := as0 (hb); have n1_ := as0 (ho); clear HB; clear HO_7; have HB := n0_; have HO146 := n1_; clear n0_ n1_; clear ho hb hg hat))
       go_roundg k1
       case measure => have := HK1.out; omega
       case rel => exact ⟨(y144), (wrap64 (x8_1 + 1)), (by first | rfl | (simp; done) | (simp [*]; done)), H', ⟨by have := HK1.out; omega⟩, ⟨by (with_reducible repeat (first | apply Kd.R_alloc | apply Kd.R_drewN | apply Kd.R_drew)); exact HO146.out⟩, ⟨by repeat (first | (with_reducible first | exact HB.out | apply z80 | apply z90 | apply z50) | exact HB.out)⟩⟩
      ·rw [if_neg c7] at H
       exact absurd H (by simp)
     ·rw [if_neg c6] at H
      exact absurd H (by simp)
   ·rw [if_neg c4] at H
    have c4b0 : decide (x8_1 < (l0.length : Int)) = false := decide_eq_false c4
    clear c4
    replace H := Option.bind_eq_some_iff.mp H
    obtain ⟨t147, A90, H⟩ := H
    replace H : (some t147) = some r := H
    have A9 := as0 A90
    clear A90
    obtain rfl := Option.some.inj H
    obtain ⟨Ao10, co10, eo10⟩ := Kd.R_slice HO_7.out
    subst eo10
    go_wp2_with (first | ((with_reducible refine zy0 (f := 69) rfl ?_); refine zx1 (some 27) rfl rfl Tryz.func69 (by kernel_rfl) rfl #[.slice Ao10 x7_1.length co10, .int .i64 a2] rfl (by (try simp only [List.map_toArray, List.map_cons, List.map_nil]); first | done | rfl | (simp only [List.length_drop, List.length_take]; rfl)) ?_; (with_reducible refine (hostlerref11_Capacity.calls k1 _ _ x7_1 a2 t147 _ ?side1 ?side2 A9.out).mono ?_); (case side1 => repeat (first | exact (Kd.R_reads' HO_7.out).2.2 | (with_reducible refine Kd.C_alloc ?_ _) | (with_reducible refine Kd.C_drewN ?_ _) | (with_reducible refine Kd.C_drew ?_))); (case side2 => exact (Kd.R_reads' HO_7.out).2.1); rintro e w' ⟨rfl, ⟨nd, rfl⟩⟩; refine ⟨_, rfl, ?_⟩))
    go_ret
    exact ⟨by first | rfl | (simp only [Int.ofNat_lt]; rfl) | (simp [errW_none, errW_some] <;> rfl) | (simp [*, errW_none, errW_some] <;> rfl), by repeat (first | (with_reducible first | exact HB.out | apply z80 | apply z90 | apply z50) | exact HB.out)⟩
def hostlerref11_May.f (k : Nat) (l0 : List Int) (a1 : Int) (a2 : Int) (a3 : Int) : Option (Bool) := if a1 < 0 then (some false) else (if a1 ≥ (l0.length : Int) then (some false) else (if 0 ≤ a1 then (if a1 < (l0.length : Int) then (if (rd l0 a1) = 0 then ((hostlerref11_Without.f k l0 a1 a2).bind fun t149 => (some (decide (t149 ≥ a3)))) else (some true)) else (none)) else (none)))
theorem hostlerref11_May.calls (k : Nat) (A0 : Option Addr) (c0 : Nat) (l0 : List Int) (a1 : Int) (a2 : Int) (a3 : Int) (r : Bool) (w : World) (hr0 : Kd.C (Kd.int .i64) w A0 l0.length l0) (hc0 : l0.length ≤ c0) (h : hostlerref11_May.f k l0 a1 a2 a3 = some r) :
  Calls Tryz.prog 91 #[.slice A0 l0.length c0, .int .i64 a1, .int .i64 a2, .int .i64 a3] w fun e w' => e = .returned (.bool r) ∧ Below w.heap.size w w' := by
 have HR0 := as0 hr0
 have HC0 := as0 hc0
 clear hr0 hc0
 have HB := as0 (Below.refl w.heap.size w)
 have H : (if a1 < 0 then (some false) else (if a1 ≥ (l0.length : Int) then (some false) else (if 0 ≤ a1 then (if a1 < (l0.length : Int) then (if (rd l0 a1) = 0 then ((hostlerref11_Without.f k l0 a1 a2).bind fun t149 => (some (decide (t149 ≥ a3)))) else (some true)) else (none)) else (none)))) = some r := h
 clear h
 by_cases c5 : a1 < 0
 ·rw [if_pos c5] at H
  have c5b0 : decide (a1 < 0) = true := decide_eq_true c5
  clear c5
  obtain rfl := Option.some.inj H
  go_enter Tryz.func91, Tryz.ntmps91
  go_wp2
  go_ret
  exact ⟨by first | rfl | (simp only [Int.ofNat_lt]; rfl) | (simp [errW_none, errW_some] <;> rfl) | (simp [*, errW_none, errW_some] <;> rfl), by repeat (first | (with_reducible first | exact HB.out | apply z80 | apply z90 | apply z50) | exact HB.out)⟩
 ·rw [if_neg c5] at H
  have c5b0 : decide (a1 < 0) = false := decide_eq_false c5
  clear c5
  by_cases c6 : a1 ≥ (l0.length : Int)
  ·rw [if_pos c6] at H
   have c6b0 : decide ((l0.length : Int) ≤ a1) = true := decide_eq_true c6
   clear c6
   obtain rfl := Option.some.inj H
   go_enter Tryz.func91, Tryz.ntmps91
   go_wp2
   go_ret
   exact ⟨by first | rfl | (simp only [Int.ofNat_lt]; rfl) | (simp [errW_none, errW_some] <;> rfl) | (simp [*, errW_none, errW_some] <;> rfl), by repeat (first | (with_reducible first | exact HB.out | apply z80 | apply z90 | apply z50) | exact HB.out)⟩
  ·rw [if_neg c6] at H
   have c6b0 : decide ((l0.length : Int) ≤ a1) = false := decide_eq_false c6
   clear c6
   by_cases c7 : 0 ≤ a1
   ·rw [if_pos c7] at H
    have c7b0 : decide (0 ≤ a1) = true := decide_eq_true c7
    clear c7
    by_cases c8 : a1 < (l0.length : Int)
    ·rw [if_pos c8] at H
     have c8b0 : decide (a1 < (l0.length : Int)) = true := decide_eq_true c8
     clear c8
     by_cases c9 : (rd l0 a1) = 0
     ·rw [if_pos c9] at H
      have c9b0 : ((rd l0 a1) == 0) = true := beq_iff_eq.mpr c9
      have c9b1 : ((rd l0 a1) != 0) = false := bne_eq_false_iff_eq.mpr c9
      clear c9
      replace H := Option.bind_eq_some_iff.mp H
      obtain ⟨t149, A100, H⟩ := H
      replace H : (some (decide (t149 ≥ a3))) = some r := H
      have A10 := as0 A100
      clear A100
      obtain rfl := Option.some.inj H
      have p148 : 0 ≤ (a1 : Int) := of_decide_eq_true (by first | (with_reducible assumption) | assumption)
      have q148 : a1 < (l0.length : Int) := of_decide_eq_true (by first | (with_reducible assumption) | assumption)
      obtain ⟨ad148, e148, hx148_0⟩ := Kd.at_int HR0.out a1 p148 q148
      cases e148
      replace p148 := eq_true p148
      replace q148 := eq_true q148
      go_enter Tryz.func91, Tryz.ntmps91
      go_wp2_with (first | (go_at_call 110; (with_reducible refine (hostlerref11_Without.calls k _ _ l0 a1 a2 t149 _ ?side1 ?side2 A10.out).mono ?_); (case side1 => repeat (first | exact HR0.out | (with_reducible refine Kd.C_alloc ?_ _) | (with_reducible refine Kd.C_drewN ?_ _) | (with_reducible refine Kd.C_drew ?_))); (case side2 => exact HC0.out); rintro e w11 ⟨rfl, hb⟩; have n0_ := as0 (z10 (by repeat (first | (with_reducible first | exact HB.out | apply z80 | apply z90 | apply z50) | exact HB.out)) hb); clear HB; have HB := n0_; clear n0_; (try clear hb); (try clear hb2); (try clear hk); (try clear hi)))
      go_ret
      exact ⟨by first | rfl | (simp only [Int.ofNat_lt]; rfl) | (simp [errW_none, errW_some] <;> rfl) | (simp [*, errW_none, errW_some] <;> rfl), by repeat (first | (with_reducible first | exact HB.out | apply z80 | apply z90 | apply z50) | exact HB.out)⟩
     ·rw [if_neg c9] at H
      have c9b0 : ((rd l0 a1) == 0) = false := beq_eq_false_iff_ne.mpr c9
      have c9b1 : ((rd l0 a1) != 0) = true := bne_iff_ne.mpr c9
      obtain rfl := Option.some.inj H
      have p148 : 0 ≤ (a1 : Int) := of_decide_eq_true (by first | (with_reducible assumption) | assumption)
      have q148 : a1 < (l0.length : Int) := of_decide_eq_true (by first | (with_reducible assumption) | assumption)
      obtain ⟨ad148, e148, hx148_0⟩ := Kd.at_int HR0.out a1 p148 q148
      cases e148
      replace p148 := eq_true p148
      replace q148 := eq_true q148
      go_enter Tryz.func91, Tryz.ntmps91
      go_wp2
      go_ret
      exact ⟨by first | rfl | (simp only [Int.ofNat_lt]; rfl) | (simp [errW_none, errW_some] <;> rfl) | (simp [*, errW_none, errW_some] <;> rfl), by repeat (first | (with_reducible first | exact HB.out | apply z80 | apply z90 | apply z50) | exact HB.out)⟩
    ·rw [if_neg c8] at H
     exact absurd H (by simp)
   ·rw [if_neg c7] at H
    exact absurd H (by simp)
end
end Go.Proofs.YtmlmiocomlehgaaGreat.PR
end
section
namespace Go.Proofs.YtmlmiocomlehgaaGreat.Man
open Go.RowKit Go.Proofs.YtmlmiocomlehgaaGreatW.PrintWords Go.Proofs.YtmlmiocomlehgaaGreatW.PrintLast Go.Proofs.YtmlmiocomlehgaaGreatW.PrintMore Go.Proofs.YtmlmiocomlehgaaGreat.PA Go.Proofs.YtmlmiocomlehgaaGreat.PF Go.Proofs.YtmlmiocomlehgaaGreat.Hid
section
variable {w0 w : World} {g gd : Nat} {v : Value} {ps : List Nat} {s : FS}
theorem infoHP : (Tryz.prog.info? 80).map (fun i => (i.zero, i.size, i.bytes)) = some (some (.pointer none), 1, 8) := by kernel_rfl
theorem zr9 (w : World) : Kd.R kP 80 (w.alloc (.cells #[] 80)) w.heap.size (fun _ => True) (.slice (some ⟨w.heap.size, 0, none⟩) ([] : List Nat).length 0) [] :=
 ⟨fun _ _ => trivial, [], World.ownsRow_lit (base := w.heap.size) (e := 80) (size := 1) w #[] 0 (Nat.le_refl _) (by decide) (by simp), Reps.none _ _⟩
theorem zk9 (w : World) : Calls Tryz.prog 43 #[.slice none 0 0] w fun e w' => e = .returned (.slice none 0 0) ∧ w = w' := by
 have heq := fun (w : World) (a : Option Addr) (n c n' c' : Nat) => Lib.run_eql_slice_nil (P := Tryz.prog) w 54 80 a n c n' c' Tryz.underlying54
 go_enter Tryz.func43, Tryz.ntmps43
 go_wp2
 go_ret
 exact ⟨rfl, rfl⟩
theorem zh7 (b : Nat) (n : Nat) (xs : List Nat) (w : World) (base : Nat) (hR : Kd.R kP 80 w base (fun _ => True) (.slice (some ⟨b, 0, none⟩) xs.length n) xs) (hl : xs.length ≤ 1000000000) : Calls Tryz.prog 43 #[.slice (some ⟨b, 0, none⟩) xs.length n] w fun e w' => ∃ v', e = .returned v' ∧ Kd.R kP 80 w' w.heap.size (fun _ => True) v' xs ∧ Below w.heap.size w w' := by
 have HC := as0 (Kd.C_below (Kd.R_reads' hR).2.2 (z80 (Below.refl _ w) (.cells #[] 80)))
 have HO := as0 (zr9 w)
 clear hR
 have heq := fun (w : World) (a : Option Addr) (n c n' c' : Nat) => Lib.run_eql_slice_nil (P := Tryz.prog) w 54 80 a n c n' c' Tryz.underlying54
 go_enter Tryz.func43, Tryz.ntmps43
 go_wp2_with (at_builtin; refine Kd.R_append_rows kP (w0 := w) w.heap.size rfl (.tmp 5) (.tmp 6) 54 80 (.pointer none) 8 rfl Tryz.underlying54 infoHP rfl (by decide) (by omega) _ [] xs _ _ _ (fun _ => True) (fun _ => False) rfl rfl ?aO ?aR (fun _ _ h => h) (fun _ h => h.elim) ?aF ?aB ?aS ?aL ?_; (case aO => exact HO.out); (case aR => exact HC.out); (case aF => exact fun _ _ => trivial); (case aB => exact z80 (Below.refl _ w) _); (case aS => simp); (case aL => simp; omega); intro v1 w1 ho hb hg hat; simp only [List.nil_append] at ho)
 go_ret
 exact ⟨_, rfl, ho, hb⟩
theorem zk5 (v : Value) (xs : List Nat) (w : World) (base : Nat) (hR : Kd.R kP 80 w base (fun _ => True) v xs) (hl : xs.length ≤ 1000000000) : Calls Tryz.prog 43 #[v] w fun e w' => ∃ v', e = .returned v' ∧ Kd.R kP 80 w' w.heap.size (fun _ => True) v' xs ∧ Below w.heap.size w w' := by
 have hR2 := hR
 obtain ⟨_, inner, hown, _⟩ := hR2
 rcases hown.2 with ⟨hv, h0⟩ | ⟨b, cap, cur, hv, _⟩
 ·subst hv
  have : xs = [] := List.eq_nil_of_length_eq_zero (by simpa using h0)
  subst this
  refine (zk9 w).mono ?_
  rintro e w' ⟨rfl, rfl⟩
  exact ⟨_, rfl, Kd.R_nil _ _ _ _ _, Below.refl _ _⟩
 ·subst hv
  exact zh7 b _ xs w base hR hl
theorem infoH : ∃ j, Tryz.prog.info? 82 = some j ∧ j.size = 3 := by
 have h : (Tryz.prog.info? 82).map (·.size) = some 3 := by kernel_rfl
 cases h2 : Tryz.prog.info? 82 with
 | none => rw [h2] at h; cases h
 | some j => rw [h2] at h; exact ⟨j, rfl, Option.some.inj h⟩
theorem z59 {W : World} {x D : Nat} (hD : W.heap[D]? = some (.cells #[ptr x] 80 (0, 0))) :
  Calls Tryz.prog 86 #[ptr x, ptr D] W fun e w' => e = .returned (.bool true) ∧ Below W.heap.size W w' := by
 have h2 : W.cell? ⟨D, 0, none⟩ = some (ptr x) := (z60 hD 0).trans rfl
 obtain ⟨j, hj, hs⟩ := infoH
 have h3 := run_eql_ptr_same (P := Tryz.prog) W (tp := 80) (te := 82) ⟨x, 0, none⟩ (by kernel_rfl) hj
 clear hj hs
 clear hD
 go_enter Tryz.func86, Tryz.ntmps86
 go_wp2
 go_ret
 exact ⟨rfl, Below.refl _ _⟩
theorem zy7 {W : World} {x y D : Nat} {hx hy : HV} (hD : W.heap[D]? = some (.cells #[ptr y] 80 (0, 0))) (hn : x ≠ y) (h4 : W.heap[x]? = some (hcell hx)) (h5 : W.heap[y]? = some (hcell hy)) :
  Calls Tryz.prog 86 #[ptr x, ptr D] W fun e w' => e = .returned (.bool false) ∧ Below W.heap.size W w' := by
 have h2 : W.cell? ⟨D, 0, none⟩ = some (ptr y) := (z60 hD 0).trans rfl
 obtain ⟨j, hj, hs⟩ := infoH
 have h3 := run_eql_ptr_other (P := Tryz.prog) W (tp := 80) (te := 82) (a := ⟨x, 0, none⟩) (b := ⟨y, 0, none⟩) (by kernel_rfl) hj (by omega) (by intro e; injection e with e; exact hn e) h4 h5
 clear hj hs hD h4 h5 hn
 go_enter Tryz.func86, Tryz.ntmps86
 go_wp2
 go_ret
 exact ⟨rfl, Below.refl _ _⟩
theorem z1d {W : World} {x y D : Nat} {hx hy : HV} (hD : W.heap[D]? = some (.cells #[ptr y] 80 (0, 0))) (h4 : W.heap[x]? = some (hcell hx)) (h5 : W.heap[y]? = some (hcell hy)) :
  Calls Tryz.prog 86 #[ptr x, ptr D] W fun e w' => e = .returned (.bool (decide (x = y))) ∧ Below W.heap.size W w' := by
 by_cases c : x = y
 ·subst c
  rw [decide_eq_true rfl]
  exact z59 hD
 ·rw [decide_eq_false c]
  exact zy7 hD c h4 h5
theorem zu9 {ps : List Nat} (hn : ps.Nodup) {i p : Nat} (hp : ps[i]? = some p) : keptP (fun x => decide (x = p)) ps = ps.eraseIdx i := by
 unfold keptP
 have hlt : i < ps.length := (List.getElem?_eq_some_iff.1 hp).1
 have he : ps[i] = p := (List.getElem?_eq_some_iff.1 hp).2
 rw [List.eraseIdx_eq_take_drop_succ]
 have hsplit : ps = ps.take i ++ p :: ps.drop (i + 1) := by
  rw [← he, ← List.drop_eq_getElem_cons hlt, List.take_append_drop]
 rw [hsplit] at hn
 obtain ⟨h1, h2, h3⟩ := List.nodup_append.1 hn
 obtain ⟨h4, h5⟩ := List.nodup_cons.1 h2
 have e1 : ∀ x ∈ ps.take i, (!decide (x = p)) = true := fun x hx => by
  have := h3 x hx p (by simp)
  simp [this]
 have e2 : ∀ x ∈ ps.drop (i + 1), (!decide (x = p)) = true := fun x hx => by
  have : x ≠ p := by rintro rfl; exact h4 hx
  simp [this]
 conv => lhs; rw [hsplit]
 rw [List.filter_append, List.filter_eq_self.2 e1, List.filter_cons, if_neg (by simp), List.filter_eq_self.2 e2]
theorem zt4 {i p : Nat} (hl : ps.length ≤ 1000000000) (hI : IsX w0 w g gd v ps s) (hB : Below w0.heap.size w0 w) (hp : ps[i]? = some p) :
  Calls Tryz.prog 57 #[ptr g, ptr p] w fun e w' => e = .returned (.tuple #[]) ∧ (∃ v', SX w0 w w' g gd v' (ps.eraseIdx i) { s with hs := s.hs.eraseIdx i }) ∧ ∀ k, k < w.heap.size → k ≠ g → w'.heap[k]? = w.heap[k]? := by
 have HI := as0 hI
 have HB := as0 hB
 obtain ⟨A, n, hv⟩ := Kd.R_slice hI.row
 subst hv
 have h1 : w.cell? ⟨g, 3, none⟩ = some (.slice A ps.length n) := (z60 hI.blk 3).trans rfl
 have hgl : g < w.heap.size := z70 hI.blk
 have HCL := as0 (fun (o : Obj) => zk5 (.slice A ps.length n) ps (w.alloc o) w0.heap.size (Kd.R_alloc hI.row o) hl)
 have HK := as0 (zu9 hI.nd hp)
 clear hI hB
 obtain ⟨W1, hW1⟩ : ∃ W1, W1 = w.alloc (.cells #[ptr p] 80) := ⟨_, rfl⟩
 have HB1 : Aside0 (Below w.heap.size w W1) := ⟨by rw [hW1]; exact z80 (Below.refl _ w) _⟩
 have HD1 : Aside0 (W1.heap[w.heap.size]? = some (.cells #[ptr p] 80 (0, 0))) := ⟨by rw [hW1]; exact heap_alloc_new w _⟩
 have HS1 : Aside0 (W1.heap.size = w.heap.size + 1) := ⟨by rw [hW1]; simp⟩
 have h11 : W1.cell? ⟨g, 3, none⟩ = some (.slice A ps.length n) := (HB1.out.cell (p := ⟨g, 3, none⟩) hgl).trans h1
 have hg1l : g < W1.heap.size := by rw [HS1.out]; omega
 go_enter Tryz.func57, Tryz.ntmps57
 go_wp2_with (first
  | (go_at_call 43; refine (HCL.out _).mono ?_; rintro e w2 ⟨v2, rfl, hR2, hb2⟩; rw [← hW1] at hR2 hb2; have HR2 := as0 hR2; have HB2 := as0 hb2; clear hR2 hb2)
  | (go_at_call 85; refine (delP_any (fun x => decide (x = p)) w.heap.size ps v2 W1.heap.size HR2.out (fun W hg x hx => by
    obtain ⟨k, hk, hkx⟩ := List.mem_iff_getElem.1 hx
    have hlt : k < s.hs.length := by rw [← HI.out.len]; exact hk
    have hlt2 : i < s.hs.length := by rw [← HI.out.len]; exact (List.getElem?_eq_some_iff.1 hp).1
    have q1 := (HI.out.hb k x s.hs[k] (by rw [← hkx]; exact List.getElem?_eq_getElem hk) (List.getElem?_eq_getElem hlt)).2
    have q2 := (HI.out.hb i p s.hs[i] hp (List.getElem?_eq_getElem hlt2)).2
    have hmv : ∀ z : Nat, z < W1.heap.size → W.heap[z]? = W1.heap[z]? := fun z hz => (hg.block z (Nat.lt_of_lt_of_le hz HB2.out.size) (fun e => by have := Kd.R_base HR2.out _ e.symm; omega)).trans (HB2.out.block z hz)
    have hmw : ∀ {z : Nat} {o : Obj}, w.heap[z]? = some o → W.heap[z]? = some o := fun hz => (hmv _ (Nat.lt_of_lt_of_le (z70 hz) HB1.out.size)).trans ((HB1.out.block _ (z70 hz)).trans hz)
    exact z1d ((hmv _ (by have := HS1.out; omega)).trans HD1.out) (hmw q1) (hmw q2))).mono ?_; rintro e w3 ⟨v3, rfl, hR3, hg3⟩; (
    have hb3 : Below w.heap.size w w3 := (HB1.out.trans (HB2.out.mono HB1.out.size)).grown hg3 (Nat.le_trans HB1.out.size HB2.out.size) (fun k hk => Nat.le_trans HB1.out.size (Kd.R_base HR2.out k hk));
    obtain ⟨A3, n3, rfl⟩ := Kd.R_slice hR3; have HR3 := as0 hR3; have HB3 := as0 hb3; have HG3 := as0 ((hb3.block g hgl).trans HI.out.blk); have h13 : w3.cell? ⟨g, 3, none⟩ = some (.slice A ps.length n) := (hb3.cell (p := ⟨g, 3, none⟩) hgl).trans h1; have hf3 : w3.frozen? ⟨g, 3, none⟩ = false := z40 HG3.out 3; have hg3l : g < w3.heap.size := z70 HG3.out; clear hR3 hg3 hb3)))
 have HFIN : Aside0 (SX w0 w (w3.setCell ⟨g, 3, none⟩ (.slice A3 (keptP (fun x => decide (x = p)) ps).length n3)) g gd (.slice A3 (keptP (fun x => decide (x = p)) ps).length n3) (ps.eraseIdx i) { s with hs := s.hs.eraseIdx i }) := ⟨by
  have hI3 := HI.out.below HB3.out
  have hfar : ∀ k, k ≠ g → (w3.setCell ⟨g, 3, none⟩ (.slice A3 (keptP (fun x => decide (x = p)) ps).length n3)).heap[k]? = w3.heap[k]? := fun k hk => Below.heap_setCell w3 ⟨g, 3, none⟩ _ k hk
  have hty : ∀ {k : Nat} {cs : Array Value} {t : TypeId} {fr : Nat × Nat}, w3.heap[k]? = some (.cells cs t fr) → t ≠ 56 → k ≠ g := by
   rintro k cs t fr hk ht rfl
   rw [hI3.blk] at hk
   injection hk with hk
   injection hk with _ hk
   exact ht hk.symm
  refine ⟨⟨by simpa using zz0 hI3.blk 3 _, hI3.ge, ?_, ?_, ?_, ?_, fun i' p' x' hp' hx' => ?_, ?_⟩, zc0 (z10 HB.out HB3.out) hI3.ge, (KeptH.of_below HB3.out).setCell (p := ⟨g, 3, none⟩) (.cells hI3.blk (by decide)) _⟩
  ·exact hI3.dr.step (fun k hk => hfar k (by rintro rfl; exact z01 hI3.blk (by decide) hk))
  ·rw [← HK.out]
   exact Kd.R_set (Kd.R_lower HR3.out (Nat.le_trans HB.out.size HB1.out.size)) hI3.blk (by simp [kP, Kd.scalar]) 3 _
  ·exact List.Nodup.eraseIdx _ hI3.nd
  ·simp only [List.length_eraseIdx, hI3.len]
  ·rw [List.getElem?_eraseIdx] at hp' hx'
   by_cases c : i' < i
   ·rw [if_pos c] at hp' hx'
    obtain ⟨q1, q2⟩ := hI3.hb i' p' x' hp' hx'
    exact ⟨q1, (hfar p' (hty q2 (by decide))).trans q2⟩
   ·rw [if_neg c] at hp' hx'
    obtain ⟨q1, q2⟩ := hI3.hb (i' + 1) p' x' hp' hx'
    exact ⟨q1, (hfar p' (hty q2 (by decide))).trans q2⟩
  ·show ((s.hs.eraseIdx i).map (·.nm)).Nodup
   exact ((List.eraseIdx_sublist s.hs i).map _).nodup hI3.names⟩
 have HOTH : Aside0 (∀ k, k < w.heap.size → k ≠ g → (w3.setCell ⟨g, 3, none⟩ (.slice A3 (keptP (fun x => decide (x = p)) ps).length n3)).heap[k]? = w.heap[k]?) := ⟨fun k hk hne => (Below.heap_setCell w3 ⟨g, 3, none⟩ _ k hne).trans (HB3.out.block k hk)⟩
 clear HI HR3 HB3
 refine bodyPost_end (results_none rfl _ _ _) rfl ?_
 exact ⟨rfl, ⟨_, HFIN.out⟩, HOTH.out⟩
theorem away_raw {i p : Nat} (hl : ps.length ≤ 1000000000) (hI : IsX w0 w g gd v ps s) (hB : Below w0.heap.size w0 w) (hp : ps[i]? = some p) :
  Calls Tryz.prog 57 #[ptr g, ptr p] w fun e w' => e = .returned (.tuple #[]) ∧ ∃ v', SX w0 w w' g gd v' (ps.eraseIdx i) { s with hs := s.hs.eraseIdx i } := by
 refine (zt4 hl hI hB hp).mono ?_
 rintro e w' ⟨rfl, h, _⟩
 exact ⟨rfl, h⟩
end
section
variable {w0 w : World} {g gd : Nat} {v : Value} {ps : List Nat} {s : FS}
def nextS (st ev : Int) : Int := if toS st ev = -1 then st else toS st ev
def nextB (st ev : Int) : Bool := !decide (toS st ev = -1)
theorem next_raw (st ev : Int) (w : World) : Calls Tryz.prog 77 #[.int .i64 st, .int .i64 ev] w fun e w' => e = .returned (.tuple #[.int .i64 (nextS st ev), .bool (nextB st ev)]) ∧ Below w.heap.size w w' := by
 refine state_Next.calls st ev _ _ w ?_
 unfold state_Next.f nextS nextB
 by_cases c : toS st ev = -1
 ·simp [c]
 ·simp [c]
theorem z71 {i p : Nat} {x : HV} (ev : Int) (hI : IsX w0 w g gd v ps s) (hB : Below w0.heap.size w0 w) (hp : ps[i]? = some p) (hx : s.hs[i]? = some x) (f : Value) :
  Calls Tryz.prog 47 #[f, ptr p, .int .i64 ev] w fun e w' => e = .returned (.bool (nextB x.st ev)) ∧ SX w0 w w' g gd v ps { s with hs := s.hs.set i ⟨x.nm, nextS x.st ev, x.lv⟩ } := by
 have hcell_ := (hI.hb i p x hp hx).2
 have h1 : w.cell? ⟨p, 1, none⟩ = some (.int .i64 x.st) := (z60 hcell_ 1).trans rfl
 have hN := fun w => next_raw x.st ev w
 generalize hns : nextS x.st ev = n at hN
 generalize nextB x.st ev = b at hN
 have HN := as0 hN
 have HI := as0 (fun W (hb : Below w.heap.size w W) => hI.below hb)
 have HB := as0 hB
 have HP := as0 hp
 have HX := as0 hx
 clear hN hI hB hp hx hcell_
 go_enter Tryz.func47, Tryz.ntmps47
 go_wp2_with (go_at_call 77; refine (HN.out _).mono ?_; rintro e w1 ⟨rfl, hb1⟩; (
  have hI1 := HI.out _ hb1; have HB1 := as0 hb1; have hc1 := (hI1.hb i p x HP.out HX.out).2; have h11 : w1.cell? ⟨p, 1, none⟩ = some (.int .i64 x.st) := (z60 hc1 1).trans rfl; have hf1 : w1.frozen? ⟨p, 1, none⟩ = false := z40 hc1 1; have hl1 : p < w1.heap.size := z70 hc1;
  have HFIN := as0 (IsX.turn (y := ⟨x.nm, n, x.lv⟩) (j := 1) (u := .int .i64 n) hI1 (z10 HB.out hb1) HP.out HX.out rfl (by simpa using zz0 hc1 1 _)); clear hI1 hb1 hc1))
 go_ret
 exact ⟨rfl, SX.trans (KeptH.of_below HB1.out) HFIN.out⟩
end
end Go.Proofs.YtmlmiocomlehgaaGreat.Man
end
section
namespace Go.Proofs.YtmlmiocomlehgaaGreat.Man
open Go.RowKit Go.Proofs.YtmlmiocomlehgaaGreatW.PrintWords Go.Proofs.YtmlmiocomlehgaaGreatW.PrintLast Go.Proofs.YtmlmiocomlehgaaGreatW.PrintMore Go.Proofs.YtmlmiocomlehgaaGreat.PA Go.Proofs.YtmlmiocomlehgaaGreat.PF Go.Proofs.YtmlmiocomlehgaaGreat.Hid Go.Proofs.YtmlmiocomlehgaaGreat.Na
section
variable {w0 w : World} {g gd : Nat} {v : Value} {ps : List Nat} {s : FS}
theorem z76 : (Tryz.prog.info? 3).map (fun i => (i.zero, i.size, i.bytes)) = some (some (.int .i64 0), 1, 8) := by kernel_rfl
theorem IsX.cell0 (h : IsX w0 w g gd v ps s) : w.cell? ⟨g, 0, none⟩ = some (ptr gd) := (z60 h.blk 0).trans rfl
theorem IsX.cell1 (h : IsX w0 w g gd v ps s) : w.cell? ⟨g, 1, none⟩ = some (.int .i64 s.each) := (z60 h.blk 1).trans rfl
theorem IsX.cell2 (h : IsX w0 w g gd v ps s) : w.cell? ⟨g, 2, none⟩ = some (.int .i64 s.guard) := (z60 h.blk 2).trans rfl
theorem IsX.cell3 (h : IsX w0 w g gd v ps s) : ∃ A n, v = .slice A ps.length n ∧ ps.length ≤ n ∧ kP.C w A ps.length ps ∧ w.cell? ⟨g, 3, none⟩ = some (.slice A ps.length n) := by
 obtain ⟨A, n, rfl⟩ := Kd.R_slice h.row
 obtain ⟨_, hn, hC⟩ := Kd.R_reads' h.row
 exact ⟨A, n, rfl, hn, hC, (z60 h.blk 3).trans rfl⟩
theorem IsX.hst (h : IsX w0 w g gd v ps s) {i p : Nat} {x : HV} (hp : ps[i]? = some p) (hx : s.hs[i]? = some x) : w.cell? ⟨p, 0, none⟩ = some (.string x.nm) ∧ w.cell? ⟨p, 1, none⟩ = some (.int .i64 x.st) ∧ w.cell? ⟨p, 2, none⟩ = some (.bool x.lv) := by
 have h2 := (h.hb i p x hp hx).2
 exact ⟨(z60 h2 0).trans rfl, (z60 h2 1).trans rfl, (z60 h2 2).trans rfl⟩
theorem zd3 (h : IsX w0 w g gd v ps s) (nm : ByteArray) : (posH s.hs nm = -1 ∧ findV ps s.hs nm = .pointer none ∧ ∀ x ∈ s.hs, x.nm ≠ nm) ∨ ∃ (i p : Nat) (x : HV), posH s.hs nm = (i : Int) ∧ findV ps s.hs nm = ptr p ∧ ps[i]? = some p ∧ s.hs[i]? = some x ∧ x.nm = nm := by
 rcases za3 s.hs nm with ⟨h1, h2⟩ | ⟨i, x, h1, h2, h3⟩
 ·exact .inl ⟨h1, by unfold findV; rw [h1]; rfl, h2⟩
 ·have hlt : i < ps.length := by rw [h.len]; exact (List.getElem?_eq_some_iff.1 h2).1
  refine .inr ⟨i, ps[i], x, h1, ?_, List.getElem?_eq_getElem hlt, h2, h3⟩
  unfold findV
  rw [h1, if_neg (by omega)]
  simp [List.getD, hlt]
def lookH (hs : List HV) (nm : ByteArray) : Option HV := if posH hs nm < 0 then none else hs[(posH hs nm).toNat]?
theorem zj2 {hs : List HV} {nm : ByteArray} (h : posH hs nm = -1) : lookH hs nm = none := by unfold lookH; rw [h]; rfl
theorem zo1 {hs : List HV} {nm : ByteArray} {i : Nat} {x : HV} (h : posH hs nm = (i : Int)) (hx : hs[i]? = some x) : lookH hs nm = some x := by
 unfold lookH
 rw [h, if_neg (by omega)]
 simpa using hx
theorem zbb (hI : IsX w0 w g gd v ps s) : Calls Tryz.prog 54 #[ptr g] w fun e w' => e = .returned (ptr gd) ∧ w' = w := by
 have h0 := hI.cell0
 have hgl : g < w.heap.size := z70 hI.blk
 clear hI
 go_enter Tryz.func54, Tryz.ntmps54
 go_wp2
 go_ret
 exact ⟨rfl, rfl⟩
theorem z19 (nm : ByteArray) (hl : s.ds.row.length ≤ 1000000000) (hI : IsX w0 w g gd v ps s) :
  Calls Tryz.prog 14 #[ptr g, .string nm] w fun e w' => e = .returned (.int .i64 (idxOf (namesOf s.ds.row false) nm 0)) ∧ Below w.heap.size w w' := by
 have HR := as0 (zbb hI)
 have HA := as0 (zh6 nm (by omega) hI.dr)
 clear hI
 generalize idxOf (namesOf s.ds.row false) nm 0 = r at HA
 go_enter Tryz.func14, Tryz.ntmps14
 go_wp2_with (first
  | (go_at_call 54; refine HR.out.mono ?_; rintro e w1 ⟨rfl, rfl⟩)
  | (go_at_call 55; refine HA.out.mono ?_; rintro e w2 ⟨rfl, hb2⟩))
 go_ret
 exact ⟨rfl, hb2⟩
theorem fdue_raw (now : Int) (hl : s.ds.row.length ≤ 1000000000) (hI : IsX w0 w g gd v ps s) :
  Calls Tryz.prog 36 #[ptr g, .int .i64 now] w fun e w' => ∃ v1_ : Value, e = .returned v1_ ∧ Kd.R Kd.string 9 w' w.heap.size (fun _ => True) v1_ (dueOf s.ds now) ∧ Below w.heap.size w w' := by
 have HR := as0 (zbb hI)
 have HA := as0 (due_raw now (by omega) hI.dr)
 clear hI
 generalize dueOf s.ds now = r at HA
 go_enter Tryz.func36, Tryz.ntmps36
 go_wp2_with (first
  | (go_at_call 54; refine HR.out.mono ?_; rintro e w1 ⟨rfl, rfl⟩)
  | (go_at_call 70; refine HA.out.mono ?_; rintro e w2 ⟨v2, rfl, hR2, hb2⟩))
 go_ret
 exact ⟨_, rfl, hR2, hb2⟩
def stateV (s : FS) (nm : ByteArray) : Int × Bool := match lookH s.hs nm with | some x => (x.st, true) | none => (0, false)
def leavesV (s : FS) (nm : ByteArray) : Bool := match lookH s.hs nm with | some x => x.lv | none => false
theorem z0d (nm : ByteArray) (hI : IsX w0 w g gd v ps s) : Calls Tryz.prog 39 #[ptr g, .string nm] w fun e w' => e = .returned (.tuple #[.int .i64 (stateV s nm).1, .bool (stateV s nm).2]) ∧ Below w.heap.size w w' := by
 have HF := as0 (zo2 nm hI)
 have HI := as0 (fun W (hb : Below w.heap.size w W) => hI.below hb)
 rcases zd3 hI nm with ⟨h1, h2, _⟩ | ⟨i, p, x, h1, h2, h3, h4, _⟩
 ·unfold stateV
  rw [zj2 h1]
  rw [h2] at HF
  clear hI h1 h2
  go_enter Tryz.func39, Tryz.ntmps39
  go_wp2_with (go_at_call 46; refine HF.out.mono ?_; rintro e w1 ⟨rfl, hb1⟩)
  go_ret2
  exact ⟨rfl, hb1⟩
 ·unfold stateV
  rw [zo1 h1 h4]
  rw [h2] at HF
  have HC := as0 (fun W (hb : Below w.heap.size w W) => (HI.out W hb).hst h3 h4)
  clear hI h1 h2 h3 h4
  go_enter Tryz.func39, Tryz.ntmps39
  go_wp2_with (go_at_call 46; refine HF.out.mono ?_; rintro e w1 ⟨rfl, hb1⟩; obtain ⟨q0, q1, q2⟩ := HC.out _ hb1)
  go_ret2
  exact ⟨rfl, hb1⟩
theorem zga (nm : ByteArray) (hI : IsX w0 w g gd v ps s) : Calls Tryz.prog 40 #[ptr g, .string nm] w fun e w' => e = .returned (.bool (leavesV s nm)) ∧ Below w.heap.size w w' := by
 have HF := as0 (zo2 nm hI)
 have HI := as0 (fun W (hb : Below w.heap.size w W) => hI.below hb)
 rcases zd3 hI nm with ⟨h1, h2, _⟩ | ⟨i, p, x, h1, h2, h3, h4, _⟩
 ·unfold leavesV
  rw [zj2 h1]
  rw [h2] at HF
  clear hI h1 h2
  go_enter Tryz.func40, Tryz.ntmps40
  go_wp2_with (go_at_call 46; refine HF.out.mono ?_; rintro e w1 ⟨rfl, hb1⟩)
  go_ret
  exact ⟨rfl, hb1⟩
 ·unfold leavesV
  rw [zo1 h1 h4]
  rw [h2] at HF
  have HC := as0 (fun W (hb : Below w.heap.size w W) => (HI.out W hb).hst h3 h4)
  clear hI h1 h2 h3 h4
  go_enter Tryz.func40, Tryz.ntmps40
  go_wp2_with (go_at_call 46; refine HF.out.mono ?_; rintro e w1 ⟨rfl, hb1⟩; obtain ⟨q0, q1, q2⟩ := HC.out _ hb1)
  go_ret
  exact ⟨rfl, hb1⟩
def knownE (s : FS) (nm : ByteArray) : Int := if nameB nm = true then (if posH s.hs nm < 0 then 5 else 0) else 11
def knownV (ps : List Nat) (s : FS) (nm : ByteArray) : Value := if nameB nm = true then findV ps s.hs nm else .pointer none
theorem ze3 (nm : ByteArray) (hI : IsX w0 w g gd v ps s) : Calls Tryz.prog 49 #[ptr g, .string nm] w fun e w' => e = .returned (.tuple #[knownV ps s nm, .int .i64 (knownE s nm)]) ∧ Below w.heap.size w w' := by
 have HF := as0 (zo2 nm hI)
 have HN := as0 (fun W => z22 nm W)
 unfold knownV knownE
 rcases zd3 hI nm with ⟨h1, h2, _⟩ | ⟨i, p, x, h1, h2, _⟩
 ·rw [h1, h2]
  rw [h2] at HF
  clear hI h1 h2
  cases hn : nameB nm with
  | false =>
   rw [hn] at HN
   clear hn
   go_enter Tryz.func49, Tryz.ntmps49
   go_wp2_with (first
    | (go_at_call 46; refine HF.out.mono ?_; rintro e w1 ⟨rfl, hb1⟩)
    | (go_at_call 74; refine (HN.out _).mono ?_; rintro e w2 ⟨rfl, hb2⟩))
   go_ret2
   exact ⟨rfl, z10 hb1 hb2⟩
  | true =>
   rw [hn] at HN
   clear hn
   go_enter Tryz.func49, Tryz.ntmps49
   go_wp2_with (first
    | (go_at_call 46; refine HF.out.mono ?_; rintro e w1 ⟨rfl, hb1⟩)
    | (go_at_call 74; refine (HN.out _).mono ?_; rintro e w2 ⟨rfl, hb2⟩))
   go_ret2
   exact ⟨rfl, z10 hb1 hb2⟩
 ·rw [h1, h2, if_neg (show ¬ (i : Int) < 0 by omega)]
  rw [h2] at HF
  clear hI h1 h2
  cases hn : nameB nm with
  | false =>
   rw [hn] at HN
   clear hn
   go_enter Tryz.func49, Tryz.ntmps49
   go_wp2_with (first
    | (go_at_call 46; refine HF.out.mono ?_; rintro e w1 ⟨rfl, hb1⟩)
    | (go_at_call 74; refine (HN.out _).mono ?_; rintro e w2 ⟨rfl, hb2⟩))
   go_ret2
   exact ⟨rfl, z10 hb1 hb2⟩
  | true =>
   rw [hn] at HN
   clear hn
   go_enter Tryz.func49, Tryz.ntmps49
   go_wp2_with (first
    | (go_at_call 46; refine HF.out.mono ?_; rintro e w1 ⟨rfl, hb1⟩)
    | (go_at_call 74; refine (HN.out _).mono ?_; rintro e w2 ⟨rfl, hb2⟩))
   go_ret2
   exact ⟨rfl, z10 hb1 hb2⟩
theorem zz3 (hl : s.hs.length ≤ 1000000000) (hI : IsX w0 w g gd v ps s) :
  Calls Tryz.prog 34 #[ptr g] w fun e w' => ∃ v1_ : Value, e = .returned v1_ ∧ Kd.R (Kd.int .i64) 3 w' w.heap.size (fun _ => True) v1_ (s.hs.map (·.st)) ∧ Below w.heap.size w w' := by
 have HI := as0 hI
 obtain ⟨A, n, rfl, hn, hC, h3⟩ := hI.cell3
 have hgl : g < w.heap.size := z70 hI.blk
 have hpl := hI.len
 have hlen : ps.length ≤ 9223372036854775807 := hC.2.1
 have HC := as0 hC
 clear hI hC
 go_enter Tryz.func34, Tryz.ntmps34
 go_wp2
 go_loopw [3, 14] (fun v3 v14 wr => ∃ k : Nat, k ≤ ps.length ∧ v14 = .int .i64 k ∧ Aside0 (Kd.R (Kd.int .i64) 3 wr w.heap.size (fun _ => True) v3 ((s.hs.take k).map (·.st))) ∧ Aside0 (Below w.heap.size w wr)) (fun _ v14 _ => ps.length - (intOf v14).toNat)
 case atStart => exact ⟨0, Nat.zero_le _, rfl, ⟨Kd.R_nil _ _ _ _ _⟩, ⟨Below.refl _ _⟩⟩
 case round =>
  obtain ⟨k, hk, rfl, HO, HB⟩ := hrel
  by_cases hlt : k < ps.length
  ·obtain ⟨p, hp⟩ : ∃ p, ps[k]? = some p := ⟨_, List.getElem?_eq_getElem hlt⟩
   obtain ⟨x, hx⟩ : ∃ x, s.hs[k]? = some x := ⟨_, List.getElem?_eq_getElem (by omega)⟩
   obtain ⟨ad, rfl, hx0⟩ := rdP (Kd.C_below HC.out HB.out) k p hp
   have h0k : (0 : Int) ≤ (k : Int) := by omega
   have hkl : (k : Int) < (ps.length : Int) := by omega
   obtain ⟨q0, q1, q2⟩ := (HI.out.below HB.out).hst hp hx
   have HX : Aside0 ((s.hs.take (k + 1)).map (·.st) = (s.hs.take k).map (·.st) ++ [x.st]) := ⟨by rw [List.take_add_one, hx]; simp⟩
   have HL : Aside0 (((s.hs.take k).map (·.st)).length ≤ 1000000000) := ⟨by simp; omega⟩
   generalize (s.hs.take k).map (·.st) = xs at HO HX HL
   clear hp hx
   go_wp2_with ((with_reducible refine zm0 (b := .append) (xs := #[.tmp 18, .tmp 23]) rfl ?_); (try (refine z41 (by rfl) ?_; dsimp only)); at_builtin; refine Kd.R_append (Kd.int .i64) (w0 := w) w.heap.size rfl (.tmp 18) (.tmp 23) 28 3 (.int .i64 0) 8 rfl Tryz.underlying28 z76 rfl (by decide) (by omega) _ xs x.st [.int .i64 x.st] (fun _ => True) (fun _ => False) rfl ?aX ?aP (fun _ h => h.elim) (fun _ _ => trivial) ?aO ?aB ?aS ?aL ?_; (case aX => (show Value.slice (some ⟨wr.heap.size, 0, none⟩) 1 1 = _; simp)); (case aP => exact rfl); (case aO => exact HO.out); (case aB => exact HB.out); (case aS => exact HB.out.size); (case aL => have := HL.out; omega); intro v1 w1 ho hb hg hat; have HO1 := as0 ho; have HB2 := as0 hb; clear ho hb hg hat)
   exact ⟨⟨k + 1, by omega, by rw [show ((k : Int) + 1) = ((k + 1 : Nat) : Int) by omega], ⟨by rw [HX.out]; exact HO1.out⟩, HB2⟩, by simp [intOf]; omega⟩
  ·have hke : k = ps.length := by omega
   subst hke
   rw [hpl, List.take_length] at HO
   clear hk
   go_wp2
   go_ret
   exact ⟨_, rfl, HO.out, HB.out⟩
theorem zf9 (hl : s.hs.length ≤ 1000000000) (hI : IsX w0 w g gd v ps s) :
  Calls Tryz.prog 32 #[ptr g] w fun e w' => ∃ v1_ : Value, e = .returned v1_ ∧ Kd.R Kd.string 9 w' w.heap.size (fun _ => True) v1_ (s.hs.map (·.nm)) ∧ Below w.heap.size w w' := by
 have HI := as0 hI
 obtain ⟨A, n, rfl, hn, hC, h3⟩ := hI.cell3
 have hgl : g < w.heap.size := z70 hI.blk
 have hpl := hI.len
 have hlen : ps.length ≤ 9223372036854775807 := hC.2.1
 have HC := as0 hC
 clear hI hC
 go_enter Tryz.func32, Tryz.ntmps32
 go_wp2
 go_loopw [3, 14] (fun v3 v14 wr => ∃ k : Nat, k ≤ ps.length ∧ v14 = .int .i64 k ∧ Aside0 (Kd.R Kd.string 9 wr w.heap.size (fun _ => True) v3 ((s.hs.take k).map (·.nm))) ∧ Aside0 (Below w.heap.size w wr)) (fun _ v14 _ => ps.length - (intOf v14).toNat)
 case atStart => exact ⟨0, Nat.zero_le _, rfl, ⟨Kd.R_nil _ _ _ _ _⟩, ⟨Below.refl _ _⟩⟩
 case round =>
  obtain ⟨k, hk, rfl, HO, HB⟩ := hrel
  by_cases hlt : k < ps.length
  ·obtain ⟨p, hp⟩ : ∃ p, ps[k]? = some p := ⟨_, List.getElem?_eq_getElem hlt⟩
   obtain ⟨x, hx⟩ : ∃ x, s.hs[k]? = some x := ⟨_, List.getElem?_eq_getElem (by omega)⟩
   obtain ⟨ad, rfl, hx0⟩ := rdP (Kd.C_below HC.out HB.out) k p hp
   have h0k : (0 : Int) ≤ (k : Int) := by omega
   have hkl : (k : Int) < (ps.length : Int) := by omega
   obtain ⟨q0, q1, q2⟩ := (HI.out.below HB.out).hst hp hx
   have HX : Aside0 ((s.hs.take (k + 1)).map (·.nm) = (s.hs.take k).map (·.nm) ++ [x.nm]) := ⟨by rw [List.take_add_one, hx]; simp⟩
   have HL : Aside0 (((s.hs.take k).map (·.nm)).length ≤ 1000000000) := ⟨by simp; omega⟩
   generalize (s.hs.take k).map (·.nm) = xs at HO HX HL
   clear hp hx
   go_wp2_with ((with_reducible refine zm0 (b := .append) (xs := #[.tmp 18, .tmp 23]) rfl ?_); (try (refine z41 (by rfl) ?_; dsimp only)); at_builtin; refine Kd.R_append Kd.string (w0 := w) w.heap.size rfl (.tmp 18) (.tmp 23) 27 9 (.string ⟨#[]⟩) 16 rfl Tryz.underlying27 z53 rfl (by decide) (by omega) _ xs x.nm [.string x.nm] (fun _ => True) (fun _ => False) rfl ?aX ?aP (fun _ h => h.elim) (fun _ _ => trivial) ?aO ?aB ?aS ?aL ?_; (case aX => (show Value.slice (some ⟨wr.heap.size, 0, none⟩) 1 1 = _; simp)); (case aP => exact rfl); (case aO => exact HO.out); (case aB => exact HB.out); (case aS => exact HB.out.size); (case aL => have := HL.out; omega); intro v1 w1 ho hb hg hat; have HO1 := as0 ho; have HB2 := as0 hb; clear ho hb hg hat)
   exact ⟨⟨k + 1, by omega, by rw [show ((k : Int) + 1) = ((k + 1 : Nat) : Int) by omega], ⟨by rw [HX.out]; exact HO1.out⟩, HB2⟩, by simp [intOf]; omega⟩
  ·have hke : k = ps.length := by omega
   subst hke
   rw [hpl, List.take_length] at HO
   clear hk
   go_wp2
   go_ret
   exact ⟨_, rfl, HO.out, HB.out⟩
end
section
variable {w0 w : World} {g gd : Nat} {v : Value} {ps : List Nat} {s : FS}
def actN (hs : List HV) : Nat := (hs.filter (fun h => decide (h.st = 0))).length
def pos0 (e : Int) : Int := if 0 ≤ e then e else 0
def capV (s : FS) : Int := wrap64 ((actN s.hs : Int) * pos0 s.each)
theorem mx0 (e : Int) : mx e 0 = pos0 e := by unfold mx pos0; (repeat' split) <;> omega
def actI (l : List Int) : Nat := (l.filter (fun x => decide (x = 0))).length
theorem actI_map (hs : List HV) : actI (hs.map (·.st)) = actN hs := by
 unfold actI actN
 rw [List.filter_map, List.length_map]
 rfl
theorem zf8 (xs : List Int) (hm : xs.length ≤ 1000000000) (d : Nat) : ∀ (k j a : Nat), j ≤ xs.length → xs.length - j = d → d < k → a ≤ j → guard_active.l0 k (a : Int) xs (xs.length : Int) (j : Int) = some ((a + actI (xs.drop j) : Nat) : Int) := by
 induction d with
 | zero =>
  intro k j a hj hd hk ha
  obtain ⟨k, rfl⟩ : ∃ m, k = m + 1 := ⟨k - 1, by omega⟩
  simp only [guard_active.l0]
  rw [if_neg (by omega), List.drop_eq_nil_of_le (by omega)]
  simp [actI]
 | succ d ih =>
  intro k j a hj hd hk ha
  obtain ⟨k, rfl⟩ : ∃ m, k = m + 1 := ⟨k - 1, by omega⟩
  have hlt : j < xs.length := by omega
  simp only [guard_active.l0]
  rw [if_pos (by omega), if_pos (by omega), if_pos (by omega), List.drop_eq_getElem_cons hlt]
  have e : rd xs (j : Int) = xs[j] := by simp [rd, List.getD, hlt]
  rw [e]
  have hw : wrap64 ((j : Int) + 1) = ((j + 1 : Nat) : Int) := by unfold wrap64; omega
  have hw2 : wrap64 ((a : Int) + 1) = ((a + 1 : Nat) : Int) := by unfold wrap64; omega
  rw [hw, hw2]
  by_cases c : xs[j] = 0
  ·rw [if_pos c, ih k (j + 1) (a + 1) (by omega) (by omega) (by omega) (by omega)]
   generalize xs.drop (j + 1) = r
   simp [actI, c]
   omega
  ·rw [if_neg c, ih k (j + 1) a (by omega) (by omega) (by omega) (by omega)]
   generalize xs.drop (j + 1) = r
   simp [actI, c]
theorem zz7 (xs : List Int) (hm : xs.length ≤ 1000000000) : guard_active.f (xs.length + 1) xs = some (actI xs : Int) := by
 have := zf8 xs hm xs.length (xs.length + 1) 0 0 (by omega) (by omega) (by omega) (by omega)
 simpa [guard_active.f] using this
theorem zl3 (xs : List Int) (e : Int) (hm : xs.length ≤ 1000000000) : guard_Capacity.f (xs.length + 1) xs e = some (wrap64 ((actI xs : Int) * pos0 e)) := by
 unfold guard_Capacity.f
 rw [zz7 xs hm, mx0]
 rfl
def mayI (xs : List Int) (i e gu : Int) : Bool :=
 if i < 0 ∨ (xs.length : Int) ≤ i then false
 else if xs.getD i.toNat 0 = 0 then decide (gu ≤ wrap64 (wrap64 ((actI xs : Int) * pos0 e) - pos0 e)) else true
theorem may_some (xs : List Int) (i e gu : Int) (hm : xs.length ≤ 1000000000) : guard_May.f (xs.length + 1) xs i e gu = some (mayI xs i e gu) := by
 unfold guard_May.f guard_Without.f mayI
 rw [zl3 xs e hm, mx0]
 by_cases h1 : i < 0
 ·rw [if_pos h1, if_pos (.inl h1)]
 ·by_cases h2 : (xs.length : Int) ≤ i
  ·rw [if_neg h1, if_pos h2, if_pos (.inr h2)]
  ·have e1 : rd xs i = xs.getD i.toNat 0 := rfl
   rw [if_neg h1, if_neg h2, if_neg (show ¬ (i < 0 ∨ (xs.length : Int) ≤ i) by omega), if_pos (show (0 : Int) ≤ i by omega), if_pos (show i < (xs.length : Int) by omega), e1]
   by_cases c : xs.getD i.toNat 0 = 0
   ·rw [if_pos c, if_pos c]
    simp only [Option.bind_some]
    rw [if_pos (show i ≥ 0 by omega), if_pos (show i < (xs.length : Int) by omega), if_pos (show (0 : Int) ≤ i by omega), if_pos c]
    rfl
   ·rw [if_neg c, if_neg c]
def mayS (s : FS) (nm : ByteArray) : Bool := mayI (s.hs.map (·.st)) (posH s.hs nm) s.each s.guard
theorem z17 (hl : s.hs.length ≤ 1000000000) (hI : IsX w0 w g gd v ps s) :
  Calls Tryz.prog 15 #[ptr g] w fun e w' => e = .returned (.int .i64 (capV s)) ∧ Below w.heap.size w w' := by
 have HI := as0 (fun W (hb : Below w.heap.size w W) => hI.below hb)
 have HC := as0 (zl3 (s.hs.map (·.st)) s.each (by simpa using hl))
 have hcap : wrap64 ((actI (s.hs.map (·.st)) : Int) * pos0 s.each) = capV s := by rw [actI_map]; rfl
 rw [hcap] at HC
 have HS := as0 (fun W (hb : Below w.heap.size w W) => zz3 hl (HI.out W hb))
 generalize s.hs.map (·.st) = xs at HS HC
 generalize capV s = c at HC
 clear hI hcap
 go_enter Tryz.func15, Tryz.ntmps15
 go_wp2
 have q0 := HI.out _ (z50 (Below.refl _ w))
 have q1 := q0.cell1
 have hgl : g < w.drew.heap.size := z70 q0.blk
 clear q0
 go_region_with (first
  | (go_at_call 34; refine (HS.out _ (z50 (Below.refl _ w))).mono ?_; rintro e w1 ⟨v1, rfl, hR1, hb1⟩; obtain ⟨A1, n1, rfl⟩ := Kd.R_slice hR1; have HR1 := as0 (Kd.R_reads' hR1); have HB1 := as0 (z10 (z50 (Below.refl _ w)) hb1); have q11 := (HI.out _ HB1.out).cell1; have hgl1 : g < w1.heap.size := z70 (HI.out _ HB1.out).blk; clear hR1 hb1)
  | (go_at_call 56; refine (guard_Capacity.calls (xs.length + 1) A1 n1 xs s.each _ _ HR1.out.2.2 HR1.out.2.1 HC.out).mono ?_; rintro e w2 ⟨rfl, hb2⟩; have HB2 := as0 (z10 HB1.out hb2); clear hb2))
 all_goals go_wp2
 all_goals go_ret
 all_goals exact ⟨rfl, HB2.out⟩
theorem zs7 (nm : ByteArray) (hl : s.hs.length ≤ 1000000000) (hI : IsX w0 w g gd v ps s) :
  Calls Tryz.prog 52 #[ptr g, .string nm] w fun e w' => e = .returned (.bool (mayS s nm)) ∧ Below w.heap.size w w' := by
 have HI := as0 (fun W (hb : Below w.heap.size w W) => hI.below hb)
 have HC := as0 (may_some (s.hs.map (·.st)) (posH s.hs nm) s.each s.guard (by simpa using hl))
 have HS := as0 (fun W (hb : Below w.heap.size w W) => zz3 hl (HI.out W hb))
 have HA := as0 (fun W (hb : Below w.heap.size w W) => at_raw nm (HI.out W hb))
 unfold mayS
 generalize s.hs.map (·.st) = xs at HS HC
 generalize posH s.hs nm = i at HC HA
 generalize mayI xs i s.each s.guard = c at HC
 clear hI
 go_enter Tryz.func52, Tryz.ntmps52
 go_wp2
 have q0 := HI.out _ (z50 (Below.refl _ w))
 have q1 := q0.cell1
 have q2 := q0.cell2
 have hgl : g < w.drew.heap.size := z70 q0.blk
 clear q0
 go_region_with (first
  | (go_at_call 34; refine (HS.out _ (z50 (Below.refl _ w))).mono ?_; rintro e w1 ⟨v1, rfl, hR1, hb1⟩; obtain ⟨A1, n1, rfl⟩ := Kd.R_slice hR1; have HR1 := as0 (Kd.R_reads' hR1); have HB1 := as0 (z10 (z50 (Below.refl _ w)) hb1); have q11 := (HI.out _ HB1.out).cell1; have q12 := (HI.out _ HB1.out).cell2; have hgl1 : g < w1.heap.size := z70 (HI.out _ HB1.out).blk; clear hR1 hb1)
  | (go_at_call 76; refine (HA.out _ HB1.out).mono ?_; rintro e w2 ⟨rfl, hb2⟩; have HC2 := as0 (Kd.C_below HR1.out.2.2 hb2); have HB2 := as0 (z10 HB1.out hb2); have q21 := (HI.out _ HB2.out).cell1; have q22 := (HI.out _ HB2.out).cell2; have hgl2 : g < w2.heap.size := z70 (HI.out _ HB2.out).blk; clear hb2)
  | (go_at_call 82; refine (guard_May.calls (xs.length + 1) A1 n1 xs i s.each s.guard _ _ HC2.out HR1.out.2.1 HC.out).mono ?_; rintro e w3 ⟨rfl, hb3⟩; have HB3 := as0 (z10 HB2.out hb3); clear hb3))
 all_goals go_wp2
 all_goals go_ret
 all_goals exact ⟨rfl, HB3.out⟩
end
section
variable {w0 w : World} {g gd : Nat} {v : Value} {ps : List Nat} {s : FS}
def endF (d : DS) (nm : ByteArray) : DS := ⟨endRow d.row nm⟩
def askF (d : DS) (nm : ByteArray) : Int × DS := if nameB nm = true then (if placeOf d.row nm 0 < 0 then (if (namesOf d.row false).length < 16 then (0, ⟨d.row ++ [⟨nm, 0, false⟩]⟩) else (7, d)) else (6, d)) else (11, d)
def beginF (d : DS) (nm : ByteArray) (dl : Int) : Int × DS := if nameB nm = true then (if placeOf d.row nm 0 < 0 then (0, ⟨d.row ++ [⟨nm, mn (mx dl 0) 1099511627776, true⟩]⟩) else if (rd_T110 d.row (placeOf d.row nm 0)).f2 = true then (6, d) else (0, ⟨endRow d.row nm ++ [⟨nm, mn (mx dl 0) 1099511627776, true⟩]⟩)) else (11, d)
theorem endX (nm : ByteArray) (hl : s.ds.row.length ≤ 1000000000) (hI : IsX w0 w g gd v ps s) (hB : Below w0.heap.size w0 w) :
  Calls Tryz.prog 48 #[ptr gd, .string nm] w fun e w' => e = .returned (.bool (decide (0 ≤ placeOf s.ds.row nm 0))) ∧ SX w0 w w' g gd v ps { s with ds := endF s.ds nm } := by
 refine (drains_Drains_End.calls gd s.ds nm _ (endF s.ds nm) w0 w hI.dr hB (if_pos hl)).mono ?_
 rintro e w' ⟨rfl, h1, h2, h3⟩
 exact ⟨rfl, hI.drains h1 h2 h3⟩
theorem askX (nm : ByteArray) (hl : s.ds.row.length ≤ 1000000000) (hI : IsX w0 w g gd v ps s) (hB : Below w0.heap.size w0 w) :
  Calls Tryz.prog 50 #[ptr gd, .string nm] w fun e w' => e = .returned (.int .i64 (askF s.ds nm).1) ∧ SX w0 w w' g gd v ps { s with ds := (askF s.ds nm).2 } := by
 refine (drains_Drains_Ask.calls gd s.ds nm (askF s.ds nm).1 (askF s.ds nm).2 w0 w hI.dr hB (by
  unfold drains_Drains_Ask.f askF
  rw [if_pos hl]
  (repeat' split) <;> rfl)).mono ?_
 rintro e w' ⟨rfl, h1, h2, h3⟩
 exact ⟨rfl, hI.drains h1 h2 h3⟩
theorem zl8 (nm : ByteArray) (dl : Int) (hl : s.ds.row.length ≤ 1000000000) (hI : IsX w0 w g gd v ps s) (hB : Below w0.heap.size w0 w) :
  Calls Tryz.prog 53 #[ptr gd, .string nm, .int .i64 dl] w fun e w' => e = .returned (.int .i64 (beginF s.ds nm dl).1) ∧ SX w0 w w' g gd v ps { s with ds := (beginF s.ds nm dl).2 } := by
 refine (drains_Drains_Begin.calls gd s.ds nm dl (beginF s.ds nm dl).1 (beginF s.ds nm dl).2 w0 w hI.dr hB (by
  unfold drains_Drains_Begin.f beginF
  rw [if_pos hl]
  (repeat' split) <;> rfl)).mono ?_
 rintro e w' ⟨rfl, h1, h2, h3⟩
 exact ⟨rfl, hI.drains h1 h2 h3⟩
theorem za4 (nm : ByteArray) (hl : s.ds.row.length ≤ 1000000000) (hI : IsX w0 w g gd v ps s) :
  Calls Tryz.prog 55 #[ptr gd, .string nm] w fun e w' => e = .returned (.int .i64 (idxOf (namesOf s.ds.row false) nm 0)) ∧ Below w.heap.size w w' := zh6 nm (by omega) hI.dr
theorem zq2 (hI : IsX w0 w g gd v ps s) (nm : ByteArray) : knownE s nm = 11 ∨ knownE s nm = 5 ∨ ∃ (i p : Nat) (x : HV), knownE s nm = 0 ∧ knownV ps s nm = ptr p ∧ ps[i]? = some p ∧ s.hs[i]? = some x ∧ x.nm = nm ∧ posH s.hs nm = (i : Int) ∧ lookH s.hs nm = some x := by
 unfold knownE knownV
 by_cases c : nameB nm = true
 ·rw [if_pos c, if_pos c]
  rcases zd3 hI nm with ⟨h1, h2, _⟩ | ⟨i, p, x, h1, h2, h3, h4, h5⟩
  ·rw [h1]
   exact .inr (.inl rfl)
  ·rw [if_neg (by omega)]
   exact .inr (.inr ⟨i, p, x, rfl, h2, h3, h4, h5, h1, zo1 h1 h4⟩)
 ·rw [if_neg c]
  exact .inl rfl
def setH (hs : List HV) (nm : ByteArray) (y : HV) : List HV := hs.set (posH hs nm).toNat y
def delH (hs : List HV) (nm : ByteArray) : List HV := hs.eraseIdx (posH hs nm).toNat
def evH (x : HV) (ev : Int) : HV := ⟨x.nm, nextS x.st ev, x.lv⟩
theorem z91 {hs : List HV} {nm : ByteArray} {i : Nat} (h : posH hs nm = (i : Int)) (y : HV) : setH hs nm y = hs.set i y := by unfold setH; rw [h]; rfl
theorem zb3 {hs : List HV} {nm : ByteArray} {i : Nat} (h : posH hs nm = (i : Int)) : delH hs nm = hs.eraseIdx i := by unfold delH; rw [h]; rfl
def drainF (s : FS) (nm : ByteArray) : Int × FS := if knownE s nm = 0 then (match lookH s.hs nm with
 | some x => if x.st = 1 ∨ x.st = 3 then (8, s) else ((askF s.ds nm).1, { s with ds := (askF s.ds nm).2 })
 | none => (0, s)) else (knownE s nm, s)
def undrainF (s : FS) (nm : ByteArray) : Int × FS := if knownE s nm = 0 then (match lookH s.hs nm with
 | some x => if x.lv = true then (8, s) else if idxOf (namesOf s.ds.row false) nm 0 < 0 then (if nextB x.st 1 = true then (0, { s with hs := setH s.hs nm (evH x 1), ds := endF s.ds nm }) else (8, s)) else (0, { s with ds := endF s.ds nm })
 | none => (0, s)) else (knownE s nm, s)
def forceF (s : FS) (nm : ByteArray) (now : Int) : Int × FS := if knownE s nm = 0 then (match lookH s.hs nm with
 | some x => if x.st = 3 then (8, s) else ((beginF (endF s.ds nm) nm now).1, { s with hs := setH s.hs nm (evH x 0), ds := (beginF (endF s.ds nm) nm now).2 })
 | none => (0, s)) else (knownE s nm, s)
def ejectF (s : FS) (nm : ByteArray) : Int × FS := if knownE s nm = 0 then (match lookH s.hs nm with
 | some x => if x.st = 0 then (if mayS s nm = true then (0, { s with hs := setH s.hs nm (evH x 2) }) else (9, s)) else (8, s)
 | none => (0, s)) else (knownE s nm, s)
def probeF (s : FS) (nm : ByteArray) : Bool × FS := match lookH s.hs nm with
 | some x => (nextB x.st 3, { s with hs := setH s.hs nm (evH x 3) })
 | none => (false, s)
def emptyF (s : FS) (nm : ByteArray) : Bool × FS := match lookH s.hs nm with
 | some x => if nextB x.st 4 = true then (true, { s with hs := if x.lv = true then delH s.hs nm else setH s.hs nm (evH x 4), ds := endF s.ds nm }) else (false, { s with hs := setH s.hs nm (evH x 4) })
 | none => (false, s)
theorem ze1 (row : List S110) (nm : ByteArray) : (endRow row nm).length ≤ row.length := by
 unfold endRow
 split
 ·exact Nat.le_refl _
 ·rw [List.length_eraseIdx]
  split <;> omega
theorem z35 {st ev : Int} (h : nextB st ev = false) : nextS st ev = st := by
 unfold nextB at h
 unfold nextS
 rw [if_pos (by simpa using h)]
theorem ev_no {x : HV} {ev : Int} (h : nextB x.st ev = false) : evH x ev = x := by unfold evH; rw [z35 h]
theorem zra {hs : List HV} {i : Nat} {x : HV} (hx : hs[i]? = some x) : hs.set i x = hs := zf4 hx
theorem zyb (nm : ByteArray) (hl : s.ds.row.length ≤ 1000000000) (hI : IsX w0 w g gd v ps s) (hB : Below w0.heap.size w0 w) :
  Calls Tryz.prog 12 #[ptr g, .string nm] w fun e w' => e = .returned (.int .i64 (drainF s nm).1) ∧ St w0 w w' g (drainF s nm).2 := by
 have HI0 := as0 hI
 have HB0 := as0 hB
 have HK0 := as0 (KeptH.refl TG w)
 have HKN := as0 (ze3 nm hI)
 unfold drainF
 rcases zq2 hI nm with h | h | ⟨i, p, x, h, hv, hp, hx, hn, hpos, hlook⟩
 ·rw [h, if_neg (by decide)]
  rw [h] at HKN
  generalize knownV ps s nm = kv at HKN
  clear hI hB h
  go_enter Tryz.func12, Tryz.ntmps12
  go_wp2_with (first
   | (go_at_call 49; refine (HKN.out).mono ?_; rintro e w1 ⟨rfl, hb1⟩; have HI1 := as0 (HI0.out.below hb1); have HB1 := as0 (z10 HB0.out hb1); have HK1 := as0 (HK0.out.below hb1); clear hb1; have c01 := HI1.out.cell0; have hgl1 : g < w1.heap.size := z70 HI1.out.blk))
  go_ret
  exact ⟨rfl, SX.st ⟨HI1.out, HB1.out, HK1.out⟩⟩
 ·rw [h, if_neg (by decide)]
  rw [h] at HKN
  generalize knownV ps s nm = kv at HKN
  clear hI hB h
  go_enter Tryz.func12, Tryz.ntmps12
  go_wp2_with (first
   | (go_at_call 49; refine (HKN.out).mono ?_; rintro e w1 ⟨rfl, hb1⟩; have HI1 := as0 (HI0.out.below hb1); have HB1 := as0 (z10 HB0.out hb1); have HK1 := as0 (HK0.out.below hb1); clear hb1; have c01 := HI1.out.cell0; have hgl1 : g < w1.heap.size := z70 HI1.out.blk))
  go_ret
  exact ⟨rfl, SX.st ⟨HI1.out, HB1.out, HK1.out⟩⟩
 ·rw [h, if_pos rfl]
  simp only [hlook]
  rw [hv, h] at HKN
  have HP := as0 hp
  have HX := as0 hx
  have hilt : i < s.hs.length := (List.getElem?_eq_some_iff.1 hx).1
  clear hI hB h hv hp hx hlook
  by_cases c1 : x.st = 1
  ·rw [if_pos (.inl c1)]
   have c1b : (x.st == 1) = true := by rw [beq_iff_eq]; exact c1
   go_enter Tryz.func12, Tryz.ntmps12
   go_wp2_with (first
    | (go_at_call 49; refine (HKN.out).mono ?_; rintro e w1 ⟨rfl, hb1⟩; have HI1 := as0 (HI0.out.below hb1); have HB1 := as0 (z10 HB0.out hb1); have HK1 := as0 (HK0.out.below hb1); clear hb1; obtain ⟨qa1, qb1, qc1⟩ := HI1.out.hst HP.out HX.out; have c01 := HI1.out.cell0; have hgl1 : g < w1.heap.size := z70 HI1.out.blk))
   go_ret
   exact ⟨rfl, SX.st ⟨HI1.out, HB1.out, HK1.out⟩⟩
  by_cases c3 : x.st = 3
  ·rw [if_pos (.inr c3)]
   have c1b : (x.st == 1) = false := by rw [beq_eq_false_iff_ne]; exact c1
   have c3b : (x.st == 3) = true := by rw [beq_iff_eq]; exact c3
   go_enter Tryz.func12, Tryz.ntmps12
   go_wp2_with (first
    | (go_at_call 49; refine (HKN.out).mono ?_; rintro e w1 ⟨rfl, hb1⟩; have HI1 := as0 (HI0.out.below hb1); have HB1 := as0 (z10 HB0.out hb1); have HK1 := as0 (HK0.out.below hb1); clear hb1; obtain ⟨qa1, qb1, qc1⟩ := HI1.out.hst HP.out HX.out; have c01 := HI1.out.cell0; have hgl1 : g < w1.heap.size := z70 HI1.out.blk))
   go_ret
   exact ⟨rfl, SX.st ⟨HI1.out, HB1.out, HK1.out⟩⟩
  rw [if_neg (by omega)]
  have c1b : (x.st == 1) = false := by rw [beq_eq_false_iff_ne]; exact c1
  have c3b : (x.st == 3) = false := by rw [beq_eq_false_iff_ne]; exact c3
  go_enter Tryz.func12, Tryz.ntmps12
  go_wp2_with (first
   | (go_at_call 49; refine (HKN.out).mono ?_; rintro e w1 ⟨rfl, hb1⟩; have HI1 := as0 (HI0.out.below hb1); have HB1 := as0 (z10 HB0.out hb1); have HK1 := as0 (HK0.out.below hb1); clear hb1; obtain ⟨qa1, qb1, qc1⟩ := HI1.out.hst HP.out HX.out; have c01 := HI1.out.cell0; have hgl1 : g < w1.heap.size := z70 HI1.out.blk)
   | (go_at_call 50; refine (askX nm hl HI1.out HB1.out).mono ?_; rintro e w2 ⟨rfl, hs2⟩; have HI2 := as0 hs2.1; have HB2 := as0 hs2.2.1; have HK2 := as0 (HK1.out.trans hs2.2.2); clear hs2; obtain ⟨qa2, qb2, qc2⟩ := HI2.out.hst HP.out HX.out; have c02 := HI2.out.cell0; have hgl2 : g < w2.heap.size := z70 HI2.out.blk))
  go_ret
  exact ⟨rfl, SX.st ⟨HI2.out, HB2.out, HK2.out⟩⟩
theorem zi7 (nm : ByteArray) (hl : s.ds.row.length ≤ 1000000000) (hI : IsX w0 w g gd v ps s) (hB : Below w0.heap.size w0 w) :
  Calls Tryz.prog 18 #[ptr g, .string nm] w fun e w' => e = .returned (.int .i64 (undrainF s nm).1) ∧ St w0 w w' g (undrainF s nm).2 := by
 have HI0 := as0 hI
 have HB0 := as0 hB
 have HK0 := as0 (KeptH.refl TG w)
 have HKN := as0 (ze3 nm hI)
 unfold undrainF
 rcases zq2 hI nm with h | h | ⟨i, p, x, h, hv, hp, hx, hn, hpos, hlook⟩
 ·rw [h, if_neg (by decide)]
  rw [h] at HKN
  generalize knownV ps s nm = kv at HKN
  clear hI hB h
  go_enter Tryz.func18, Tryz.ntmps18
  go_wp2_with (first
   | (go_at_call 49; refine (HKN.out).mono ?_; rintro e w1 ⟨rfl, hb1⟩; have HI1 := as0 (HI0.out.below hb1); have HB1 := as0 (z10 HB0.out hb1); have HK1 := as0 (HK0.out.below hb1); clear hb1; have c01 := HI1.out.cell0; have hgl1 : g < w1.heap.size := z70 HI1.out.blk))
  go_ret
  exact ⟨rfl, SX.st ⟨HI1.out, HB1.out, HK1.out⟩⟩
 ·rw [h, if_neg (by decide)]
  rw [h] at HKN
  generalize knownV ps s nm = kv at HKN
  clear hI hB h
  go_enter Tryz.func18, Tryz.ntmps18
  go_wp2_with (first
   | (go_at_call 49; refine (HKN.out).mono ?_; rintro e w1 ⟨rfl, hb1⟩; have HI1 := as0 (HI0.out.below hb1); have HB1 := as0 (z10 HB0.out hb1); have HK1 := as0 (HK0.out.below hb1); clear hb1; have c01 := HI1.out.cell0; have hgl1 : g < w1.heap.size := z70 HI1.out.blk))
  go_ret
  exact ⟨rfl, SX.st ⟨HI1.out, HB1.out, HK1.out⟩⟩
 ·rw [h, if_pos rfl]
  simp only [hlook]
  rw [hv, h] at HKN
  have HP := as0 hp
  have HX := as0 hx
  have hilt : i < s.hs.length := (List.getElem?_eq_some_iff.1 hx).1
  clear hI hB h hv hp hx hlook
  cases hlv : x.lv with
  | true =>
   rw [if_pos rfl]
   go_enter Tryz.func18, Tryz.ntmps18
   go_wp2_with (first
    | (go_at_call 49; refine (HKN.out).mono ?_; rintro e w1 ⟨rfl, hb1⟩; have HI1 := as0 (HI0.out.below hb1); have HB1 := as0 (z10 HB0.out hb1); have HK1 := as0 (HK0.out.below hb1); clear hb1; obtain ⟨qa1, qb1, qc1⟩ := HI1.out.hst HP.out HX.out; have c01 := HI1.out.cell0; have hgl1 : g < w1.heap.size := z70 HI1.out.blk; rw [hlv] at qc1))
   go_ret
   exact ⟨rfl, SX.st ⟨HI1.out, HB1.out, HK1.out⟩⟩
  | false =>
   rw [if_neg (by decide)]
   by_cases ca : idxOf (namesOf s.ds.row false) nm 0 < 0
   ·rw [if_pos ca]
    have HA := as0 (fun W (h : IsX w0 W g gd v ps s) => za4 nm hl h)
    generalize idxOf (namesOf s.ds.row false) nm 0 = ia at HA ca
    have cab : decide (ia < 0) = true := decide_eq_true ca
    cases hb : nextB x.st 1 with
    | true =>
     rw [if_pos rfl, z91 hpos]
     have hbb : (nextB x.st 1) = true := hb
     go_enter Tryz.func18, Tryz.ntmps18
     go_wp2_with (first
      | (go_at_call 49; refine (HKN.out).mono ?_; rintro e w1 ⟨rfl, hb1⟩; have HI1 := as0 (HI0.out.below hb1); have HB1 := as0 (z10 HB0.out hb1); have HK1 := as0 (HK0.out.below hb1); clear hb1; obtain ⟨qa1, qb1, qc1⟩ := HI1.out.hst HP.out HX.out; have c01 := HI1.out.cell0; have hgl1 : g < w1.heap.size := z70 HI1.out.blk; rw [hlv] at qc1)
      | (go_at_call 55; refine (HA.out _ HI1.out).mono ?_; rintro e w2 ⟨rfl, hb2⟩; have HI2 := as0 (HI1.out.below hb2); have HB2 := as0 (z10 HB1.out hb2); have HK2 := as0 (HK1.out.below hb2); clear hb2; obtain ⟨qa2, qb2, qc2⟩ := HI2.out.hst HP.out HX.out; have c02 := HI2.out.cell0; have hgl2 : g < w2.heap.size := z70 HI2.out.blk; rw [hlv] at qc2)
      | (go_at_call 47; refine (z71 1 HI2.out HB2.out HP.out HX.out _).mono ?_; rintro e w3 ⟨rfl, hs3⟩; have HI3 := as0 hs3.1; have HB3 := as0 hs3.2.1; have HK3 := as0 (HK2.out.trans hs3.2.2); clear hs3; have HX3 := as0 (List.getElem?_set_self (a := evH x 1) hilt); obtain ⟨qa3, qb3, qc3⟩ := HI3.out.hst HP.out HX3.out; have c03 := HI3.out.cell0; have hgl3 : g < w3.heap.size := z70 HI3.out.blk)
      | (go_at_call 48; refine (endX nm (s := { s with hs := s.hs.set i (evH x 1) }) hl HI3.out HB3.out).mono ?_; rintro e w4 ⟨rfl, hs4⟩; have HI4 := as0 hs4.1; have HB4 := as0 hs4.2.1; have HK4 := as0 (HK3.out.trans hs4.2.2); clear hs4; obtain ⟨qa4, qb4, qc4⟩ := HI4.out.hst HP.out HX3.out; have c04 := HI4.out.cell0; have hgl4 : g < w4.heap.size := z70 HI4.out.blk))
     go_ret
     exact ⟨rfl, SX.st ⟨HI4.out, HB4.out, HK4.out⟩⟩
    | false =>
     rw [if_neg (by decide)]
     have hev := ev_no hb
     have hset := zra HX.out
     go_enter Tryz.func18, Tryz.ntmps18
     go_wp2_with (first
      | (go_at_call 49; refine (HKN.out).mono ?_; rintro e w1 ⟨rfl, hb1⟩; have HI1 := as0 (HI0.out.below hb1); have HB1 := as0 (z10 HB0.out hb1); have HK1 := as0 (HK0.out.below hb1); clear hb1; obtain ⟨qa1, qb1, qc1⟩ := HI1.out.hst HP.out HX.out; have c01 := HI1.out.cell0; have hgl1 : g < w1.heap.size := z70 HI1.out.blk; rw [hlv] at qc1)
      | (go_at_call 55; refine (HA.out _ HI1.out).mono ?_; rintro e w2 ⟨rfl, hb2⟩; have HI2 := as0 (HI1.out.below hb2); have HB2 := as0 (z10 HB1.out hb2); have HK2 := as0 (HK1.out.below hb2); clear hb2; obtain ⟨qa2, qb2, qc2⟩ := HI2.out.hst HP.out HX.out; have c02 := HI2.out.cell0; have hgl2 : g < w2.heap.size := z70 HI2.out.blk; rw [hlv] at qc2)
      | (go_at_call 47; refine (z71 1 HI2.out HB2.out HP.out HX.out _).mono ?_; rintro e w3 ⟨rfl, hs3⟩; have HI3 := as0 hs3.1; have HB3 := as0 hs3.2.1; have HK3 := as0 (HK2.out.trans hs3.2.2); clear hs3; have HX3 := as0 (List.getElem?_set_self (a := evH x 1) hilt); obtain ⟨qa3, qb3, qc3⟩ := HI3.out.hst HP.out HX3.out; have c03 := HI3.out.cell0; have hgl3 : g < w3.heap.size := z70 HI3.out.blk))
     go_ret
     rw [show (⟨x.nm, nextS x.st 1, x.lv⟩ : HV) = x from hev, hset] at HI3
     exact ⟨rfl, SX.st ⟨HI3.out, HB3.out, HK3.out⟩⟩
   ·rw [if_neg ca]
    have HA := as0 (fun W (h : IsX w0 W g gd v ps s) => za4 nm hl h)
    generalize idxOf (namesOf s.ds.row false) nm 0 = ia at HA ca
    have cab : decide (ia < 0) = false := decide_eq_false ca
    go_enter Tryz.func18, Tryz.ntmps18
    go_wp2_with (first
     | (go_at_call 49; refine (HKN.out).mono ?_; rintro e w1 ⟨rfl, hb1⟩; have HI1 := as0 (HI0.out.below hb1); have HB1 := as0 (z10 HB0.out hb1); have HK1 := as0 (HK0.out.below hb1); clear hb1; obtain ⟨qa1, qb1, qc1⟩ := HI1.out.hst HP.out HX.out; have c01 := HI1.out.cell0; have hgl1 : g < w1.heap.size := z70 HI1.out.blk; rw [hlv] at qc1)
     | (go_at_call 55; refine (HA.out _ HI1.out).mono ?_; rintro e w2 ⟨rfl, hb2⟩; have HI2 := as0 (HI1.out.below hb2); have HB2 := as0 (z10 HB1.out hb2); have HK2 := as0 (HK1.out.below hb2); clear hb2; obtain ⟨qa2, qb2, qc2⟩ := HI2.out.hst HP.out HX.out; have c02 := HI2.out.cell0; have hgl2 : g < w2.heap.size := z70 HI2.out.blk; rw [hlv] at qc2)
     | (go_at_call 48; refine (endX nm hl HI2.out HB2.out).mono ?_; rintro e w3 ⟨rfl, hs3⟩; have HI3 := as0 hs3.1; have HB3 := as0 hs3.2.1; have HK3 := as0 (HK2.out.trans hs3.2.2); clear hs3; obtain ⟨qa3, qb3, qc3⟩ := HI3.out.hst HP.out HX.out; have c03 := HI3.out.cell0; have hgl3 : g < w3.heap.size := z70 HI3.out.blk))
    go_ret
    exact ⟨rfl, SX.st ⟨HI3.out, HB3.out, HK3.out⟩⟩
theorem zta (nm : ByteArray) (now : Int) (hl : s.ds.row.length ≤ 1000000000) (hI : IsX w0 w g gd v ps s) (hB : Below w0.heap.size w0 w) :
  Calls Tryz.prog 19 #[ptr g, .string nm, .int .i64 now] w fun e w' => e = .returned (.int .i64 (forceF s nm now).1) ∧ St w0 w w' g (forceF s nm now).2 := by
 have HI0 := as0 hI
 have HB0 := as0 hB
 have HK0 := as0 (KeptH.refl TG w)
 have HKN := as0 (ze3 nm hI)
 unfold forceF
 rcases zq2 hI nm with h | h | ⟨i, p, x, h, hv, hp, hx, hn, hpos, hlook⟩
 ·rw [h, if_neg (by decide)]
  rw [h] at HKN
  generalize knownV ps s nm = kv at HKN
  clear hI hB h
  go_enter Tryz.func19, Tryz.ntmps19
  go_wp2_with (first
   | (go_at_call 49; refine (HKN.out).mono ?_; rintro e w1 ⟨rfl, hb1⟩; have HI1 := as0 (HI0.out.below hb1); have HB1 := as0 (z10 HB0.out hb1); have HK1 := as0 (HK0.out.below hb1); clear hb1; have c01 := HI1.out.cell0; have hgl1 : g < w1.heap.size := z70 HI1.out.blk))
  go_ret
  exact ⟨rfl, SX.st ⟨HI1.out, HB1.out, HK1.out⟩⟩
 ·rw [h, if_neg (by decide)]
  rw [h] at HKN
  generalize knownV ps s nm = kv at HKN
  clear hI hB h
  go_enter Tryz.func19, Tryz.ntmps19
  go_wp2_with (first
   | (go_at_call 49; refine (HKN.out).mono ?_; rintro e w1 ⟨rfl, hb1⟩; have HI1 := as0 (HI0.out.below hb1); have HB1 := as0 (z10 HB0.out hb1); have HK1 := as0 (HK0.out.below hb1); clear hb1; have c01 := HI1.out.cell0; have hgl1 : g < w1.heap.size := z70 HI1.out.blk))
  go_ret
  exact ⟨rfl, SX.st ⟨HI1.out, HB1.out, HK1.out⟩⟩
 ·rw [h, if_pos rfl]
  simp only [hlook]
  rw [hv, h] at HKN
  have HP := as0 hp
  have HX := as0 hx
  have hilt : i < s.hs.length := (List.getElem?_eq_some_iff.1 hx).1
  clear hI hB h hv hp hx hlook
  by_cases c3 : x.st = 3
  ·rw [if_pos c3]
   have c3b : (x.st == 3) = true := by rw [beq_iff_eq]; exact c3
   go_enter Tryz.func19, Tryz.ntmps19
   go_wp2_with (first
    | (go_at_call 49; refine (HKN.out).mono ?_; rintro e w1 ⟨rfl, hb1⟩; have HI1 := as0 (HI0.out.below hb1); have HB1 := as0 (z10 HB0.out hb1); have HK1 := as0 (HK0.out.below hb1); clear hb1; obtain ⟨qa1, qb1, qc1⟩ := HI1.out.hst HP.out HX.out; have c01 := HI1.out.cell0; have hgl1 : g < w1.heap.size := z70 HI1.out.blk))
   go_ret
   exact ⟨rfl, SX.st ⟨HI1.out, HB1.out, HK1.out⟩⟩
  rw [if_neg c3, z91 hpos]
  have c3b : (x.st == 3) = false := by rw [beq_eq_false_iff_ne]; exact c3
  have hl2 : (endF s.ds nm).row.length ≤ 1000000000 := Nat.le_trans (ze1 s.ds.row nm) hl
  go_enter Tryz.func19, Tryz.ntmps19
  go_wp2_with (first
   | (go_at_call 49; refine (HKN.out).mono ?_; rintro e w1 ⟨rfl, hb1⟩; have HI1 := as0 (HI0.out.below hb1); have HB1 := as0 (z10 HB0.out hb1); have HK1 := as0 (HK0.out.below hb1); clear hb1; obtain ⟨qa1, qb1, qc1⟩ := HI1.out.hst HP.out HX.out; have c01 := HI1.out.cell0; have hgl1 : g < w1.heap.size := z70 HI1.out.blk)
   | (go_at_call 47; refine (z71 0 HI1.out HB1.out HP.out HX.out _).mono ?_; rintro e w2 ⟨rfl, hs2⟩; have HI2 := as0 hs2.1; have HB2 := as0 hs2.2.1; have HK2 := as0 (HK1.out.trans hs2.2.2); clear hs2; have HX2 := as0 (List.getElem?_set_self (a := evH x 0) hilt); obtain ⟨qa2, qb2, qc2⟩ := HI2.out.hst HP.out HX2.out; have c02 := HI2.out.cell0; have hgl2 : g < w2.heap.size := z70 HI2.out.blk)
   | (go_at_call 48; refine (endX nm (s := { s with hs := s.hs.set i (evH x 0) }) hl HI2.out HB2.out).mono ?_; rintro e w3 ⟨rfl, hs3⟩; have HI3 := as0 hs3.1; have HB3 := as0 hs3.2.1; have HK3 := as0 (HK2.out.trans hs3.2.2); clear hs3; obtain ⟨qa3, qb3, qc3⟩ := HI3.out.hst HP.out HX2.out; have c03 := HI3.out.cell0; have hgl3 : g < w3.heap.size := z70 HI3.out.blk)
   | (go_at_call 53; refine (zl8 nm now (s := { s with hs := s.hs.set i (evH x 0), ds := endF s.ds nm }) hl2 HI3.out HB3.out).mono ?_; rintro e w4 ⟨rfl, hs4⟩; have HI4 := as0 hs4.1; have HB4 := as0 hs4.2.1; have HK4 := as0 (HK3.out.trans hs4.2.2); clear hs4; obtain ⟨qa4, qb4, qc4⟩ := HI4.out.hst HP.out HX2.out; have c04 := HI4.out.cell0; have hgl4 : g < w4.heap.size := z70 HI4.out.blk))
  go_ret
  exact ⟨rfl, SX.st ⟨HI4.out, HB4.out, HK4.out⟩⟩
theorem z3b (nm : ByteArray) (hh : s.hs.length ≤ 1000000000) (hI : IsX w0 w g gd v ps s) (hB : Below w0.heap.size w0 w) :
  Calls Tryz.prog 20 #[ptr g, .string nm] w fun e w' => e = .returned (.int .i64 (ejectF s nm).1) ∧ St w0 w w' g (ejectF s nm).2 := by
 have HI0 := as0 hI
 have HB0 := as0 hB
 have HK0 := as0 (KeptH.refl TG w)
 have HKN := as0 (ze3 nm hI)
 unfold ejectF
 rcases zq2 hI nm with h | h | ⟨i, p, x, h, hv, hp, hx, hn, hpos, hlook⟩
 ·rw [h, if_neg (by decide)]
  rw [h] at HKN
  generalize knownV ps s nm = kv at HKN
  clear hI hB h
  go_enter Tryz.func20, Tryz.ntmps20
  go_wp2_with (first
   | (go_at_call 49; refine (HKN.out).mono ?_; rintro e w1 ⟨rfl, hb1⟩; have HI1 := as0 (HI0.out.below hb1); have HB1 := as0 (z10 HB0.out hb1); have HK1 := as0 (HK0.out.below hb1); clear hb1; have c01 := HI1.out.cell0; have hgl1 : g < w1.heap.size := z70 HI1.out.blk))
  go_ret
  exact ⟨rfl, SX.st ⟨HI1.out, HB1.out, HK1.out⟩⟩
 ·rw [h, if_neg (by decide)]
  rw [h] at HKN
  generalize knownV ps s nm = kv at HKN
  clear hI hB h
  go_enter Tryz.func20, Tryz.ntmps20
  go_wp2_with (first
   | (go_at_call 49; refine (HKN.out).mono ?_; rintro e w1 ⟨rfl, hb1⟩; have HI1 := as0 (HI0.out.below hb1); have HB1 := as0 (z10 HB0.out hb1); have HK1 := as0 (HK0.out.below hb1); clear hb1; have c01 := HI1.out.cell0; have hgl1 : g < w1.heap.size := z70 HI1.out.blk))
  go_ret
  exact ⟨rfl, SX.st ⟨HI1.out, HB1.out, HK1.out⟩⟩
 ·rw [h, if_pos rfl]
  simp only [hlook]
  rw [hv, h] at HKN
  have HP := as0 hp
  have HX := as0 hx
  have hilt : i < s.hs.length := (List.getElem?_eq_some_iff.1 hx).1
  clear hI hB h hv hp hx hlook
  by_cases c0 : x.st = 0
  ·rw [if_pos c0]
   have c0b : (x.st == 0) = true := by rw [beq_iff_eq]; exact c0
   have HM := as0 (fun W (h : IsX w0 W g gd v ps s) => zs7 nm hh h)
   cases hm : mayS s nm with
   | true =>
    rw [if_pos rfl, z91 hpos]
    rw [hm] at HM
    go_enter Tryz.func20, Tryz.ntmps20
    go_wp2_with (first
     | (go_at_call 49; refine (HKN.out).mono ?_; rintro e w1 ⟨rfl, hb1⟩; have HI1 := as0 (HI0.out.below hb1); have HB1 := as0 (z10 HB0.out hb1); have HK1 := as0 (HK0.out.below hb1); clear hb1; obtain ⟨qa1, qb1, qc1⟩ := HI1.out.hst HP.out HX.out; have c01 := HI1.out.cell0; have hgl1 : g < w1.heap.size := z70 HI1.out.blk)
     | (go_at_call 52; refine (HM.out _ HI1.out).mono ?_; rintro e w2 ⟨rfl, hb2⟩; have HI2 := as0 (HI1.out.below hb2); have HB2 := as0 (z10 HB1.out hb2); have HK2 := as0 (HK1.out.below hb2); clear hb2; obtain ⟨qa2, qb2, qc2⟩ := HI2.out.hst HP.out HX.out; have c02 := HI2.out.cell0; have hgl2 : g < w2.heap.size := z70 HI2.out.blk)
     | (go_at_call 47; refine (z71 2 HI2.out HB2.out HP.out HX.out _).mono ?_; rintro e w3 ⟨rfl, hs3⟩; have HI3 := as0 hs3.1; have HB3 := as0 hs3.2.1; have HK3 := as0 (HK2.out.trans hs3.2.2); clear hs3; have HX3 := as0 (List.getElem?_set_self (a := evH x 2) hilt); obtain ⟨qa3, qb3, qc3⟩ := HI3.out.hst HP.out HX3.out; have c03 := HI3.out.cell0; have hgl3 : g < w3.heap.size := z70 HI3.out.blk))
    go_ret
    exact ⟨rfl, SX.st ⟨HI3.out, HB3.out, HK3.out⟩⟩
   | false =>
    rw [if_neg (by decide)]
    rw [hm] at HM
    go_enter Tryz.func20, Tryz.ntmps20
    go_wp2_with (first
     | (go_at_call 49; refine (HKN.out).mono ?_; rintro e w1 ⟨rfl, hb1⟩; have HI1 := as0 (HI0.out.below hb1); have HB1 := as0 (z10 HB0.out hb1); have HK1 := as0 (HK0.out.below hb1); clear hb1; obtain ⟨qa1, qb1, qc1⟩ := HI1.out.hst HP.out HX.out; have c01 := HI1.out.cell0; have hgl1 : g < w1.heap.size := z70 HI1.out.blk)
     | (go_at_call 52; refine (HM.out _ HI1.out).mono ?_; rintro e w2 ⟨rfl, hb2⟩; have HI2 := as0 (HI1.out.below hb2); have HB2 := as0 (z10 HB1.out hb2); have HK2 := as0 (HK1.out.below hb2); clear hb2; obtain ⟨qa2, qb2, qc2⟩ := HI2.out.hst HP.out HX.out; have c02 := HI2.out.cell0; have hgl2 : g < w2.heap.size := z70 HI2.out.blk))
    go_ret
    exact ⟨rfl, SX.st ⟨HI2.out, HB2.out, HK2.out⟩⟩
  ·rw [if_neg c0]
   have c0b : (x.st == 0) = false := by rw [beq_eq_false_iff_ne]; exact c0
   go_enter Tryz.func20, Tryz.ntmps20
   go_wp2_with (first
    | (go_at_call 49; refine (HKN.out).mono ?_; rintro e w1 ⟨rfl, hb1⟩; have HI1 := as0 (HI0.out.below hb1); have HB1 := as0 (z10 HB0.out hb1); have HK1 := as0 (HK0.out.below hb1); clear hb1; obtain ⟨qa1, qb1, qc1⟩ := HI1.out.hst HP.out HX.out; have c01 := HI1.out.cell0; have hgl1 : g < w1.heap.size := z70 HI1.out.blk))
   go_ret
   exact ⟨rfl, SX.st ⟨HI1.out, HB1.out, HK1.out⟩⟩
theorem zpa (nm : ByteArray) (hI : IsX w0 w g gd v ps s) (hB : Below w0.heap.size w0 w) :
  Calls Tryz.prog 21 #[ptr g, .string nm] w fun e w' => e = .returned (.bool (probeF s nm).1) ∧ St w0 w w' g (probeF s nm).2 := by
 have HI0 := as0 hI
 have HB0 := as0 hB
 have HK0 := as0 (KeptH.refl TG w)
 have HF := as0 (zo2 nm hI)
 unfold probeF
 rcases zd3 hI nm with ⟨h1, h2, _⟩ | ⟨i, p, x, h1, h2, hp, hx, _⟩
 ·rw [zj2 h1]
  rw [h2] at HF
  clear hI hB h1 h2
  go_enter Tryz.func21, Tryz.ntmps21
  go_wp2_with (first
   | (go_at_call 46; refine (HF.out).mono ?_; rintro e w1 ⟨rfl, hb1⟩; have HI1 := as0 (HI0.out.below hb1); have HB1 := as0 (z10 HB0.out hb1); have HK1 := as0 (HK0.out.below hb1); clear hb1; have c01 := HI1.out.cell0; have hgl1 : g < w1.heap.size := z70 HI1.out.blk))
  go_ret
  exact ⟨rfl, SX.st ⟨HI1.out, HB1.out, HK1.out⟩⟩
 ·rw [zo1 h1 hx]
  simp only [z91 h1]
  rw [h2] at HF
  have HP := as0 hp
  have HX := as0 hx
  have hilt : i < s.hs.length := (List.getElem?_eq_some_iff.1 hx).1
  clear hI hB h1 h2 hp hx
  go_enter Tryz.func21, Tryz.ntmps21
  go_wp2_with (first
   | (go_at_call 46; refine (HF.out).mono ?_; rintro e w1 ⟨rfl, hb1⟩; have HI1 := as0 (HI0.out.below hb1); have HB1 := as0 (z10 HB0.out hb1); have HK1 := as0 (HK0.out.below hb1); clear hb1; obtain ⟨qa1, qb1, qc1⟩ := HI1.out.hst HP.out HX.out; have c01 := HI1.out.cell0; have hgl1 : g < w1.heap.size := z70 HI1.out.blk)
   | (go_at_call 47; refine (z71 3 HI1.out HB1.out HP.out HX.out _).mono ?_; rintro e w2 ⟨rfl, hs2⟩; have HI2 := as0 hs2.1; have HB2 := as0 hs2.2.1; have HK2 := as0 (HK1.out.trans hs2.2.2); clear hs2; have HX2 := as0 (List.getElem?_set_self (a := evH x 3) hilt); obtain ⟨qa2, qb2, qc2⟩ := HI2.out.hst HP.out HX2.out; have c02 := HI2.out.cell0; have hgl2 : g < w2.heap.size := z70 HI2.out.blk))
  go_ret
  exact ⟨rfl, SX.st ⟨HI2.out, HB2.out, HK2.out⟩⟩
theorem z6c (nm : ByteArray) (hl : s.ds.row.length ≤ 1000000000) (hh : s.hs.length ≤ 1000000000) (hI : IsX w0 w g gd v ps s) (hB : Below w0.heap.size w0 w) :
  Calls Tryz.prog 22 #[ptr g, .string nm] w fun e w' => e = .returned (.bool (emptyF s nm).1) ∧ St w0 w w' g (emptyF s nm).2 := by
 have HI0 := as0 hI
 have HB0 := as0 hB
 have HK0 := as0 (KeptH.refl TG w)
 have HF := as0 (zo2 nm hI)
 unfold emptyF
 rcases zd3 hI nm with ⟨h1, h2, _⟩ | ⟨i, p, x, h1, h2, hp, hx, _⟩
 ·rw [zj2 h1]
  rw [h2] at HF
  clear hI hB h1 h2
  go_enter Tryz.func22, Tryz.ntmps22
  go_wp2_with (first
   | (go_at_call 46; refine (HF.out).mono ?_; rintro e w1 ⟨rfl, hb1⟩; have HI1 := as0 (HI0.out.below hb1); have HB1 := as0 (z10 HB0.out hb1); have HK1 := as0 (HK0.out.below hb1); clear hb1; have c01 := HI1.out.cell0; have hgl1 : g < w1.heap.size := z70 HI1.out.blk))
  go_ret
  exact ⟨rfl, SX.st ⟨HI1.out, HB1.out, HK1.out⟩⟩
 ·rw [zo1 h1 hx]
  simp only [z91 h1, zb3 h1]
  rw [h2] at HF
  have hpl : ps.length ≤ 1000000000 := by rw [hI.len]; exact hh
  have HP := as0 hp
  have HX := as0 hx
  have hilt : i < s.hs.length := (List.getElem?_eq_some_iff.1 hx).1
  clear hI hB h1 h2 hp hx
  cases hb : nextB x.st 4 with
  | false =>
   rw [if_neg (by decide)]
   go_enter Tryz.func22, Tryz.ntmps22
   go_wp2_with (first
    | (go_at_call 46; refine (HF.out).mono ?_; rintro e w1 ⟨rfl, hb1⟩; have HI1 := as0 (HI0.out.below hb1); have HB1 := as0 (z10 HB0.out hb1); have HK1 := as0 (HK0.out.below hb1); clear hb1; obtain ⟨qa1, qb1, qc1⟩ := HI1.out.hst HP.out HX.out; have c01 := HI1.out.cell0; have hgl1 : g < w1.heap.size := z70 HI1.out.blk)
    | (go_at_call 47; refine (z71 4 HI1.out HB1.out HP.out HX.out _).mono ?_; rintro e w2 ⟨rfl, hs2⟩; have HI2 := as0 hs2.1; have HB2 := as0 hs2.2.1; have HK2 := as0 (HK1.out.trans hs2.2.2); clear hs2; have HX2 := as0 (List.getElem?_set_self (a := evH x 4) hilt); obtain ⟨qa2, qb2, qc2⟩ := HI2.out.hst HP.out HX2.out; have c02 := HI2.out.cell0; have hgl2 : g < w2.heap.size := z70 HI2.out.blk))
   go_ret
   exact ⟨rfl, SX.st ⟨HI2.out, HB2.out, HK2.out⟩⟩
  | true =>
   rw [if_pos rfl]
   have hbb : nextB x.st 4 = true := hb
   cases hlv : x.lv with
   | true =>
    rw [if_pos rfl]
    have hera : ∀ y : HV, (s.hs.set i y).eraseIdx i = s.hs.eraseIdx i := fun y => List.eraseIdx_set_eq
    go_enter Tryz.func22, Tryz.ntmps22
    go_wp2_with (first
     | (go_at_call 46; refine (HF.out).mono ?_; rintro e w1 ⟨rfl, hb1⟩; have HI1 := as0 (HI0.out.below hb1); have HB1 := as0 (z10 HB0.out hb1); have HK1 := as0 (HK0.out.below hb1); clear hb1; obtain ⟨qa1, qb1, qc1⟩ := HI1.out.hst HP.out HX.out; have c01 := HI1.out.cell0; have hgl1 : g < w1.heap.size := z70 HI1.out.blk)
     | (go_at_call 47; refine (z71 4 HI1.out HB1.out HP.out HX.out _).mono ?_; rintro e w2 ⟨rfl, hs2⟩; have HI2 := as0 hs2.1; have HB2 := as0 hs2.2.1; have HK2 := as0 (HK1.out.trans hs2.2.2); clear hs2; have HX2 := as0 (List.getElem?_set_self (a := evH x 4) hilt); obtain ⟨qa2, qb2, qc2⟩ := HI2.out.hst HP.out HX2.out; have c02 := HI2.out.cell0; have hgl2 : g < w2.heap.size := z70 HI2.out.blk)
     | (go_at_call 48; refine (endX nm (s := { s with hs := s.hs.set i (evH x 4) }) hl HI2.out HB2.out).mono ?_; rintro e w3 ⟨rfl, hs3⟩; have HI3 := as0 hs3.1; have HB3 := as0 hs3.2.1; have HK3 := as0 (HK2.out.trans hs3.2.2); clear hs3; obtain ⟨qa3, qb3, qc3⟩ := HI3.out.hst HP.out HX2.out; have c03 := HI3.out.cell0; have hgl3 : g < w3.heap.size := z70 HI3.out.blk; rw [show (evH x 4).lv = true from hlv] at qc3)
     | (go_at_call 57; refine (away_raw hpl HI3.out HB3.out HP.out).mono ?_; rintro e w4 ⟨rfl, v4, hs4⟩; have HI4 := as0 hs4.1; have HB4 := as0 hs4.2.1; have HK4 := as0 (HK3.out.trans hs4.2.2); clear hs4))
    go_ret
    have hfin := HI4.out
    simp only [hera] at hfin
    exact ⟨rfl, SX.st ⟨hfin, HB4.out, HK4.out⟩⟩
   | false =>
    rw [if_neg (by decide)]
    go_enter Tryz.func22, Tryz.ntmps22
    go_wp2_with (first
     | (go_at_call 46; refine (HF.out).mono ?_; rintro e w1 ⟨rfl, hb1⟩; have HI1 := as0 (HI0.out.below hb1); have HB1 := as0 (z10 HB0.out hb1); have HK1 := as0 (HK0.out.below hb1); clear hb1; obtain ⟨qa1, qb1, qc1⟩ := HI1.out.hst HP.out HX.out; have c01 := HI1.out.cell0; have hgl1 : g < w1.heap.size := z70 HI1.out.blk)
     | (go_at_call 47; refine (z71 4 HI1.out HB1.out HP.out HX.out _).mono ?_; rintro e w2 ⟨rfl, hs2⟩; have HI2 := as0 hs2.1; have HB2 := as0 hs2.2.1; have HK2 := as0 (HK1.out.trans hs2.2.2); clear hs2; have HX2 := as0 (List.getElem?_set_self (a := evH x 4) hilt); obtain ⟨qa2, qb2, qc2⟩ := HI2.out.hst HP.out HX2.out; have c02 := HI2.out.cell0; have hgl2 : g < w2.heap.size := z70 HI2.out.blk)
     | (go_at_call 48; refine (endX nm (s := { s with hs := s.hs.set i (evH x 4) }) hl HI2.out HB2.out).mono ?_; rintro e w3 ⟨rfl, hs3⟩; have HI3 := as0 hs3.1; have HB3 := as0 hs3.2.1; have HK3 := as0 (HK2.out.trans hs3.2.2); clear hs3; obtain ⟨qa3, qb3, qc3⟩ := HI3.out.hst HP.out HX2.out; have c03 := HI3.out.cell0; have hgl3 : g < w3.heap.size := z70 HI3.out.blk; rw [show (evH x 4).lv = false from hlv] at qc3))
    go_ret
    exact ⟨rfl, SX.st ⟨HI3.out, HB3.out, HK3.out⟩⟩
end
section
variable {w0 w : World} {g gd : Nat} {v : Value} {ps : List Nat} {s : FS}
def leaveD (d : DS) (nm : ByteArray) : DS := if 0 ≤ idxOf (namesOf d.row false) nm 0 then endF d nm else d
def leaveF (s : FS) (x : HV) (dl : Int) : FS :=
 if x.st = 3 then { s with hs := delH s.hs x.nm, ds := leaveD s.ds x.nm }
 else if nextB x.st 5 = true then { s with hs := setH s.hs x.nm ⟨x.nm, nextS x.st 5, true⟩, ds := (beginF (leaveD s.ds x.nm) x.nm dl).2 }
 else { s with hs := setH s.hs x.nm ⟨x.nm, x.st, true⟩, ds := leaveD s.ds x.nm }
def leaveP (x : HV) (i : Nat) (ps : List Nat) : List Nat := if x.st = 3 then ps.eraseIdx i else ps
theorem z1a (d : DS) (nm : ByteArray) : (leaveD d nm).row.length ≤ d.row.length := by
 unfold leaveD
 split
 ·exact ze1 _ _
 ·exact Nat.le_refl _
theorem zc4 {α : Type} (l : List α) (i : Nat) (a : α) : (l.set i a).eraseIdx i = l.eraseIdx i := List.eraseIdx_set_eq
section
variable {i p : Nat} {x : HV} (dl : Int) (hl : s.ds.row.length ≤ 1000000000) (hh : s.hs.length ≤ 1000000000) (hI : IsX w0 w g gd v ps s) (hB : Below w0.heap.size w0 w) (hp : ps[i]? = some p) (hx : s.hs[i]? = some x)
include hl hh hI hB hp hx
theorem leave_3a (ca :  0 ≤ idxOf (namesOf s.ds.row false) x.nm 0) (c3 : x.st = 3) :
  Calls Tryz.prog 45 #[ptr g, ptr p, .int .i64 dl] w fun e w' => e = .returned (.tuple #[]) ∧ ∃ v', SX w0 w w' g gd v' (ps.eraseIdx i) { s with hs := s.hs.eraseIdx i, ds := endF s.ds x.nm } ∧ w'.cell? ⟨p, 0, none⟩ = some (.string x.nm) := by
  have HI0 := as0 hI
  have HB0 := as0 hB
  have HK0 := as0 (KeptH.refl TG w)
  have HP := as0 hp
  have HX := as0 hx
  have hilt : i < s.hs.length := (List.getElem?_eq_some_iff.1 hx).1
  have hpsl : ps.length ≤ 1000000000 := by rw [hI.len]; exact hh
  have hl2 : (endF s.ds x.nm).row.length ≤ 1000000000 := Nat.le_trans (ze1 s.ds.row x.nm) hl
  have HA := as0 (fun W (h : IsX w0 W g gd v ps s) => za4 x.nm hl h)
  generalize idxOf (namesOf s.ds.row false) x.nm 0 = ia at HA ca
  have cab : decide (0 ≤ ia) = true := decide_eq_true ca
  have c3b : (x.st == 3) = true := by rw [beq_iff_eq]; exact c3
  clear hI hB hp hx
  go_enter Tryz.func45, Tryz.ntmps45
  go_wp2
  have HI1 := as0 (HI0.out.below (z50 (Below.refl _ w)))
  have HB1 := as0 (z50 HB0.out)
  have HK1 := as0 (HK0.out.below (z50 (Below.refl _ w)))
  obtain ⟨qa1, qb1, qc1⟩ := HI1.out.hst HP.out HX.out; have qf1 : w.drew.frozen? ⟨p, 2, none⟩ = false := z40 (HI1.out.hb i p _ HP.out HX.out).2 2; have hpl1 : p < w.drew.heap.size := z70 (HI1.out.hb i p _ HP.out HX.out).2; have c01 := HI1.out.cell0; have hgl1 : g < w.drew.heap.size := z70 HI1.out.blk
  go_region_with (go_at_call 55; refine (HA.out _ HI1.out).mono ?_; rintro e w2 ⟨rfl, hb⟩; have HI2 := as0 (HI1.out.below hb); have HB2 := as0 (z10 HB1.out hb); have HK2 := as0 (HK1.out.below hb); clear hb; obtain ⟨qa2, qb2, qc2⟩ := HI2.out.hst HP.out HX.out; have qf2 : w2.frozen? ⟨p, 2, none⟩ = false := z40 (HI2.out.hb i p _ HP.out HX.out).2 2; have hpl2 : p < w2.heap.size := z70 (HI2.out.hb i p _ HP.out HX.out).2; have c02 := HI2.out.cell0; have hgl2 : g < w2.heap.size := z70 HI2.out.blk)
  all_goals
   go_wp2
   have HI3 := as0 (HI2.out.below (z50 (Below.refl _ w2)))
   have HB3 := as0 (z50 HB2.out)
   have HK3 := as0 (HK2.out.below (z50 (Below.refl _ w2)))
   obtain ⟨qa3, qb3, qc3⟩ := HI3.out.hst HP.out HX.out; have qf3 : w2.drew.frozen? ⟨p, 2, none⟩ = false := z40 (HI3.out.hb i p _ HP.out HX.out).2 2; have hpl3 : p < w2.drew.heap.size := z70 (HI3.out.hb i p _ HP.out HX.out).2; have c03 := HI3.out.cell0; have hgl3 : g < w2.drew.heap.size := z70 HI3.out.blk
   go_region_with (go_at_call 48; refine (endX x.nm hl HI3.out HB3.out).mono ?_; rintro e w4 ⟨rfl, hs⟩; have HI4 := as0 hs.1; have HB4 := as0 hs.2.1; have HK4 := as0 (HK3.out.trans hs.2.2); clear hs; obtain ⟨qa4, qb4, qc4⟩ := HI4.out.hst HP.out HX.out; have qf4 : w4.frozen? ⟨p, 2, none⟩ = false := z40 (HI4.out.hb i p _ HP.out HX.out).2 2; have hpl4 : p < w4.heap.size := z70 (HI4.out.hb i p _ HP.out HX.out).2; have c04 := HI4.out.cell0; have hgl4 : g < w4.heap.size := z70 HI4.out.blk)
   all_goals
    have HT := IsX.turn (y := ⟨x.nm, x.st, true⟩) (j := 2) (u := .bool true) HI4.out HB4.out HP.out HX.out rfl (by simpa using zz0 (HI4.out.hb i p _ HP.out HX.out).2 2 _)
    obtain ⟨w5, hw5⟩ : ∃ W, W = w4.setCell ⟨p, 2, none⟩ (.bool true) := ⟨_, rfl⟩
    rw [← hw5] at HT
    have HI5 := as0 HT.1
    have HB5 := as0 HT.2.1
    have HK5 := as0 (HK4.out.trans HT.2.2)
    clear HT
    have HX5 := as0 (List.getElem?_set_self (a := (⟨x.nm, x.st, true⟩ : HV)) hilt)
    obtain ⟨qa5, qb5, qc5⟩ := HI5.out.hst HP.out HX5.out
    have qf5 : w5.frozen? ⟨p, 2, none⟩ = false := z40 (HI5.out.hb i p _ HP.out HX5.out).2 2
    have hpl5 : p < w5.heap.size := z70 (HI5.out.hb i p _ HP.out HX5.out).2
    have c05 := HI5.out.cell0
    have hgl5 : g < w5.heap.size := z70 HI5.out.blk
    have hilt2 : i < (s.hs.set i ⟨x.nm, x.st, true⟩).length := by rw [List.length_set]; exact hilt
    clear qa1 qb1 qc1 qf1 hpl1 c01 hgl1
    go_wp2_with (first
     | (go_at_call 57; rw [← hw5]; refine (zt4 hpsl HI5.out HB5.out HP.out).mono ?_; rintro e w6 ⟨rfl, ⟨v6, hs⟩, hoth⟩; have HNM : Aside0 (w6.cell? ⟨p, 0, none⟩ = some (.string x.nm)) := ⟨(World.cell?_of_block (hoth p hpl5 (fun e => by have h1 := (HI5.out.hb i p _ HP.out HX5.out).2; rw [e, HI5.out.blk] at h1; injection h1 with h1; injection h1 with _ h1 _; exact absurd h1 (by decide)))).trans qa5⟩; clear hoth; have HI6 := as0 hs.1; have HB6 := as0 hs.2.1; have HK6 := as0 (HK5.out.trans hs.2.2); clear hs))
    refine bodyPost_end (results_none rfl _ _ _) rfl ?_
    have hfin := HI6.out
    simp only [zc4] at hfin
    exact ⟨rfl, _, ⟨hfin, HB6.out, HK6.out⟩, HNM.out⟩
theorem z6a (ca :  0 ≤ idxOf (namesOf s.ds.row false) x.nm 0) (c3 : x.st ≠ 3) (cn : nextB x.st 5 = true) :
  Calls Tryz.prog 45 #[ptr g, ptr p, .int .i64 dl] w fun e w' => e = .returned (.tuple #[]) ∧ ∃ v', SX w0 w w' g gd v' ps { s with hs := s.hs.set i ⟨x.nm, nextS x.st 5, true⟩, ds := (beginF (endF s.ds x.nm) x.nm dl).2 } ∧ w'.cell? ⟨p, 0, none⟩ = some (.string x.nm) := by
  have HI0 := as0 hI
  have HB0 := as0 hB
  have HK0 := as0 (KeptH.refl TG w)
  have HP := as0 hp
  have HX := as0 hx
  have hilt : i < s.hs.length := (List.getElem?_eq_some_iff.1 hx).1
  have hpsl : ps.length ≤ 1000000000 := by rw [hI.len]; exact hh
  have hl2 : (endF s.ds x.nm).row.length ≤ 1000000000 := Nat.le_trans (ze1 s.ds.row x.nm) hl
  have HA := as0 (fun W (h : IsX w0 W g gd v ps s) => za4 x.nm hl h)
  generalize idxOf (namesOf s.ds.row false) x.nm 0 = ia at HA ca
  have cab : decide (0 ≤ ia) = true := decide_eq_true ca
  have c3b : (x.st == 3) = false := by rw [beq_eq_false_iff_ne]; exact c3
  clear hI hB hp hx
  go_enter Tryz.func45, Tryz.ntmps45
  go_wp2
  have HI1 := as0 (HI0.out.below (z50 (Below.refl _ w)))
  have HB1 := as0 (z50 HB0.out)
  have HK1 := as0 (HK0.out.below (z50 (Below.refl _ w)))
  obtain ⟨qa1, qb1, qc1⟩ := HI1.out.hst HP.out HX.out; have qf1 : w.drew.frozen? ⟨p, 2, none⟩ = false := z40 (HI1.out.hb i p _ HP.out HX.out).2 2; have hpl1 : p < w.drew.heap.size := z70 (HI1.out.hb i p _ HP.out HX.out).2; have c01 := HI1.out.cell0; have hgl1 : g < w.drew.heap.size := z70 HI1.out.blk
  go_region_with (go_at_call 55; refine (HA.out _ HI1.out).mono ?_; rintro e w2 ⟨rfl, hb⟩; have HI2 := as0 (HI1.out.below hb); have HB2 := as0 (z10 HB1.out hb); have HK2 := as0 (HK1.out.below hb); clear hb; obtain ⟨qa2, qb2, qc2⟩ := HI2.out.hst HP.out HX.out; have qf2 : w2.frozen? ⟨p, 2, none⟩ = false := z40 (HI2.out.hb i p _ HP.out HX.out).2 2; have hpl2 : p < w2.heap.size := z70 (HI2.out.hb i p _ HP.out HX.out).2; have c02 := HI2.out.cell0; have hgl2 : g < w2.heap.size := z70 HI2.out.blk)
  all_goals
   go_wp2
   have HI3 := as0 (HI2.out.below (z50 (Below.refl _ w2)))
   have HB3 := as0 (z50 HB2.out)
   have HK3 := as0 (HK2.out.below (z50 (Below.refl _ w2)))
   obtain ⟨qa3, qb3, qc3⟩ := HI3.out.hst HP.out HX.out; have qf3 : w2.drew.frozen? ⟨p, 2, none⟩ = false := z40 (HI3.out.hb i p _ HP.out HX.out).2 2; have hpl3 : p < w2.drew.heap.size := z70 (HI3.out.hb i p _ HP.out HX.out).2; have c03 := HI3.out.cell0; have hgl3 : g < w2.drew.heap.size := z70 HI3.out.blk
   go_region_with (go_at_call 48; refine (endX x.nm hl HI3.out HB3.out).mono ?_; rintro e w4 ⟨rfl, hs⟩; have HI4 := as0 hs.1; have HB4 := as0 hs.2.1; have HK4 := as0 (HK3.out.trans hs.2.2); clear hs; obtain ⟨qa4, qb4, qc4⟩ := HI4.out.hst HP.out HX.out; have qf4 : w4.frozen? ⟨p, 2, none⟩ = false := z40 (HI4.out.hb i p _ HP.out HX.out).2 2; have hpl4 : p < w4.heap.size := z70 (HI4.out.hb i p _ HP.out HX.out).2; have c04 := HI4.out.cell0; have hgl4 : g < w4.heap.size := z70 HI4.out.blk)
   all_goals
    have HT := IsX.turn (y := ⟨x.nm, x.st, true⟩) (j := 2) (u := .bool true) HI4.out HB4.out HP.out HX.out rfl (by simpa using zz0 (HI4.out.hb i p _ HP.out HX.out).2 2 _)
    obtain ⟨w5, hw5⟩ : ∃ W, W = w4.setCell ⟨p, 2, none⟩ (.bool true) := ⟨_, rfl⟩
    rw [← hw5] at HT
    have HI5 := as0 HT.1
    have HB5 := as0 HT.2.1
    have HK5 := as0 (HK4.out.trans HT.2.2)
    clear HT
    have HX5 := as0 (List.getElem?_set_self (a := (⟨x.nm, x.st, true⟩ : HV)) hilt)
    obtain ⟨qa5, qb5, qc5⟩ := HI5.out.hst HP.out HX5.out
    have qf5 : w5.frozen? ⟨p, 2, none⟩ = false := z40 (HI5.out.hb i p _ HP.out HX5.out).2 2
    have hpl5 : p < w5.heap.size := z70 (HI5.out.hb i p _ HP.out HX5.out).2
    have c05 := HI5.out.cell0
    have hgl5 : g < w5.heap.size := z70 HI5.out.blk
    have hilt2 : i < (s.hs.set i ⟨x.nm, x.st, true⟩).length := by rw [List.length_set]; exact hilt
    clear qa1 qb1 qc1 qf1 hpl1 c01 hgl1
    go_wp2_with (first
     | (go_at_call 47; rw [← hw5]; refine (z71 5 HI5.out HB5.out HP.out HX5.out _).mono ?_; rintro e w6 ⟨rfl, hs⟩; have HI6 := as0 hs.1; have HB6 := as0 hs.2.1; have HK6 := as0 (HK5.out.trans hs.2.2); clear hs; have HX6 := as0 (List.getElem?_set_self (a := (⟨x.nm, nextS x.st 5, true⟩ : HV)) hilt2); obtain ⟨qa6, qb6, qc6⟩ := HI6.out.hst HP.out HX6.out; have qf6 : w6.frozen? ⟨p, 2, none⟩ = false := z40 (HI6.out.hb i p _ HP.out HX6.out).2 2; have hpl6 : p < w6.heap.size := z70 (HI6.out.hb i p _ HP.out HX6.out).2; have c06 := HI6.out.cell0; have hgl6 : g < w6.heap.size := z70 HI6.out.blk))
    have HI7 := as0 (HI6.out.below (z50 (Below.refl _ w6)))
    have HB7 := as0 (z50 HB6.out)
    have HK7 := as0 (HK6.out.below (z50 (Below.refl _ w6)))
    obtain ⟨qa7, qb7, qc7⟩ := HI7.out.hst HP.out HX6.out; have qf7 : w6.drew.frozen? ⟨p, 2, none⟩ = false := z40 (HI7.out.hb i p _ HP.out HX6.out).2 2; have hpl7 : p < w6.drew.heap.size := z70 (HI7.out.hb i p _ HP.out HX6.out).2; have c07 := HI7.out.cell0; have hgl7 : g < w6.drew.heap.size := z70 HI7.out.blk
    go_region_with (go_at_call 53; refine (zl8 (s := { s with hs := (s.hs.set i ⟨x.nm, x.st, true⟩).set i ⟨x.nm, nextS x.st 5, true⟩, ds := endF s.ds x.nm }) x.nm dl hl2 HI7.out HB7.out).mono ?_; rintro e w8 ⟨rfl, hs⟩; have HI8 := as0 hs.1; have HB8 := as0 hs.2.1; have HK8 := as0 (HK7.out.trans hs.2.2); clear hs; skip)
    all_goals
     go_wp2
     refine bodyPost_end (results_none rfl _ _ _) rfl ?_
     have hfin := HI8.out
     simp only [List.set_set] at hfin
     exact ⟨rfl, _, ⟨hfin, HB8.out, HK8.out⟩, (HI8.out.hst HP.out HX6.out).1⟩
theorem z4b (ca :  0 ≤ idxOf (namesOf s.ds.row false) x.nm 0) (c3 : x.st ≠ 3) (cn : nextB x.st 5 = false) :
  Calls Tryz.prog 45 #[ptr g, ptr p, .int .i64 dl] w fun e w' => e = .returned (.tuple #[]) ∧ ∃ v', SX w0 w w' g gd v' ps { s with hs := s.hs.set i ⟨x.nm, x.st, true⟩, ds := endF s.ds x.nm } ∧ w'.cell? ⟨p, 0, none⟩ = some (.string x.nm) := by
  have HI0 := as0 hI
  have HB0 := as0 hB
  have HK0 := as0 (KeptH.refl TG w)
  have HP := as0 hp
  have HX := as0 hx
  have hilt : i < s.hs.length := (List.getElem?_eq_some_iff.1 hx).1
  have hpsl : ps.length ≤ 1000000000 := by rw [hI.len]; exact hh
  have hl2 : (endF s.ds x.nm).row.length ≤ 1000000000 := Nat.le_trans (ze1 s.ds.row x.nm) hl
  have HA := as0 (fun W (h : IsX w0 W g gd v ps s) => za4 x.nm hl h)
  generalize idxOf (namesOf s.ds.row false) x.nm 0 = ia at HA ca
  have cab : decide (0 ≤ ia) = true := decide_eq_true ca
  have c3b : (x.st == 3) = false := by rw [beq_eq_false_iff_ne]; exact c3
  have hno := z35 cn
  clear hI hB hp hx
  go_enter Tryz.func45, Tryz.ntmps45
  go_wp2
  have HI1 := as0 (HI0.out.below (z50 (Below.refl _ w)))
  have HB1 := as0 (z50 HB0.out)
  have HK1 := as0 (HK0.out.below (z50 (Below.refl _ w)))
  obtain ⟨qa1, qb1, qc1⟩ := HI1.out.hst HP.out HX.out; have qf1 : w.drew.frozen? ⟨p, 2, none⟩ = false := z40 (HI1.out.hb i p _ HP.out HX.out).2 2; have hpl1 : p < w.drew.heap.size := z70 (HI1.out.hb i p _ HP.out HX.out).2; have c01 := HI1.out.cell0; have hgl1 : g < w.drew.heap.size := z70 HI1.out.blk
  go_region_with (go_at_call 55; refine (HA.out _ HI1.out).mono ?_; rintro e w2 ⟨rfl, hb⟩; have HI2 := as0 (HI1.out.below hb); have HB2 := as0 (z10 HB1.out hb); have HK2 := as0 (HK1.out.below hb); clear hb; obtain ⟨qa2, qb2, qc2⟩ := HI2.out.hst HP.out HX.out; have qf2 : w2.frozen? ⟨p, 2, none⟩ = false := z40 (HI2.out.hb i p _ HP.out HX.out).2 2; have hpl2 : p < w2.heap.size := z70 (HI2.out.hb i p _ HP.out HX.out).2; have c02 := HI2.out.cell0; have hgl2 : g < w2.heap.size := z70 HI2.out.blk)
  all_goals
   go_wp2
   have HI3 := as0 (HI2.out.below (z50 (Below.refl _ w2)))
   have HB3 := as0 (z50 HB2.out)
   have HK3 := as0 (HK2.out.below (z50 (Below.refl _ w2)))
   obtain ⟨qa3, qb3, qc3⟩ := HI3.out.hst HP.out HX.out; have qf3 : w2.drew.frozen? ⟨p, 2, none⟩ = false := z40 (HI3.out.hb i p _ HP.out HX.out).2 2; have hpl3 : p < w2.drew.heap.size := z70 (HI3.out.hb i p _ HP.out HX.out).2; have c03 := HI3.out.cell0; have hgl3 : g < w2.drew.heap.size := z70 HI3.out.blk
   go_region_with (go_at_call 48; refine (endX x.nm hl HI3.out HB3.out).mono ?_; rintro e w4 ⟨rfl, hs⟩; have HI4 := as0 hs.1; have HB4 := as0 hs.2.1; have HK4 := as0 (HK3.out.trans hs.2.2); clear hs; obtain ⟨qa4, qb4, qc4⟩ := HI4.out.hst HP.out HX.out; have qf4 : w4.frozen? ⟨p, 2, none⟩ = false := z40 (HI4.out.hb i p _ HP.out HX.out).2 2; have hpl4 : p < w4.heap.size := z70 (HI4.out.hb i p _ HP.out HX.out).2; have c04 := HI4.out.cell0; have hgl4 : g < w4.heap.size := z70 HI4.out.blk)
   all_goals
    have HT := IsX.turn (y := ⟨x.nm, x.st, true⟩) (j := 2) (u := .bool true) HI4.out HB4.out HP.out HX.out rfl (by simpa using zz0 (HI4.out.hb i p _ HP.out HX.out).2 2 _)
    obtain ⟨w5, hw5⟩ : ∃ W, W = w4.setCell ⟨p, 2, none⟩ (.bool true) := ⟨_, rfl⟩
    rw [← hw5] at HT
    have HI5 := as0 HT.1
    have HB5 := as0 HT.2.1
    have HK5 := as0 (HK4.out.trans HT.2.2)
    clear HT
    have HX5 := as0 (List.getElem?_set_self (a := (⟨x.nm, x.st, true⟩ : HV)) hilt)
    obtain ⟨qa5, qb5, qc5⟩ := HI5.out.hst HP.out HX5.out
    have qf5 : w5.frozen? ⟨p, 2, none⟩ = false := z40 (HI5.out.hb i p _ HP.out HX5.out).2 2
    have hpl5 : p < w5.heap.size := z70 (HI5.out.hb i p _ HP.out HX5.out).2
    have c05 := HI5.out.cell0
    have hgl5 : g < w5.heap.size := z70 HI5.out.blk
    have hilt2 : i < (s.hs.set i ⟨x.nm, x.st, true⟩).length := by rw [List.length_set]; exact hilt
    clear qa1 qb1 qc1 qf1 hpl1 c01 hgl1
    go_wp2_with (first
     | (go_at_call 47; rw [← hw5]; refine (z71 5 HI5.out HB5.out HP.out HX5.out _).mono ?_; rintro e w6 ⟨rfl, hs⟩; have HI6 := as0 hs.1; have HB6 := as0 hs.2.1; have HK6 := as0 (HK5.out.trans hs.2.2); clear hs; have HX6 := as0 (List.getElem?_set_self (a := (⟨x.nm, nextS x.st 5, true⟩ : HV)) hilt2); obtain ⟨qa6, qb6, qc6⟩ := HI6.out.hst HP.out HX6.out; have qf6 : w6.frozen? ⟨p, 2, none⟩ = false := z40 (HI6.out.hb i p _ HP.out HX6.out).2 2; have hpl6 : p < w6.heap.size := z70 (HI6.out.hb i p _ HP.out HX6.out).2; have c06 := HI6.out.cell0; have hgl6 : g < w6.heap.size := z70 HI6.out.blk))
    refine bodyPost_end (results_none rfl _ _ _) rfl ?_
    have hfin := HI6.out
    simp only [List.set_set, hno] at hfin
    exact ⟨rfl, _, ⟨hfin, HB6.out, HK6.out⟩, qa6⟩
theorem leave_3n (ca : ¬ 0 ≤ idxOf (namesOf s.ds.row false) x.nm 0) (c3 : x.st = 3) :
  Calls Tryz.prog 45 #[ptr g, ptr p, .int .i64 dl] w fun e w' => e = .returned (.tuple #[]) ∧ ∃ v', SX w0 w w' g gd v' (ps.eraseIdx i) { s with hs := s.hs.eraseIdx i, ds := s.ds } ∧ w'.cell? ⟨p, 0, none⟩ = some (.string x.nm) := by
  have HI0 := as0 hI
  have HB0 := as0 hB
  have HK0 := as0 (KeptH.refl TG w)
  have HP := as0 hp
  have HX := as0 hx
  have hilt : i < s.hs.length := (List.getElem?_eq_some_iff.1 hx).1
  have hpsl : ps.length ≤ 1000000000 := by rw [hI.len]; exact hh
  have hl2 : (endF s.ds x.nm).row.length ≤ 1000000000 := Nat.le_trans (ze1 s.ds.row x.nm) hl
  have HA := as0 (fun W (h : IsX w0 W g gd v ps s) => za4 x.nm hl h)
  generalize idxOf (namesOf s.ds.row false) x.nm 0 = ia at HA ca
  have cab : decide (0 ≤ ia) = false := decide_eq_false ca
  have c3b : (x.st == 3) = true := by rw [beq_iff_eq]; exact c3
  clear hI hB hp hx
  go_enter Tryz.func45, Tryz.ntmps45
  go_wp2
  have HI1 := as0 (HI0.out.below (z50 (Below.refl _ w)))
  have HB1 := as0 (z50 HB0.out)
  have HK1 := as0 (HK0.out.below (z50 (Below.refl _ w)))
  obtain ⟨qa1, qb1, qc1⟩ := HI1.out.hst HP.out HX.out; have qf1 : w.drew.frozen? ⟨p, 2, none⟩ = false := z40 (HI1.out.hb i p _ HP.out HX.out).2 2; have hpl1 : p < w.drew.heap.size := z70 (HI1.out.hb i p _ HP.out HX.out).2; have c01 := HI1.out.cell0; have hgl1 : g < w.drew.heap.size := z70 HI1.out.blk
  go_region_with (go_at_call 55; refine (HA.out _ HI1.out).mono ?_; rintro e w2 ⟨rfl, hb⟩; have HI2 := as0 (HI1.out.below hb); have HB2 := as0 (z10 HB1.out hb); have HK2 := as0 (HK1.out.below hb); clear hb; obtain ⟨qa2, qb2, qc2⟩ := HI2.out.hst HP.out HX.out; have qf2 : w2.frozen? ⟨p, 2, none⟩ = false := z40 (HI2.out.hb i p _ HP.out HX.out).2 2; have hpl2 : p < w2.heap.size := z70 (HI2.out.hb i p _ HP.out HX.out).2; have c02 := HI2.out.cell0; have hgl2 : g < w2.heap.size := z70 HI2.out.blk)
  all_goals
   have HT := IsX.turn (y := ⟨x.nm, x.st, true⟩) (j := 2) (u := .bool true) HI2.out HB2.out HP.out HX.out rfl (by simpa using zz0 (HI2.out.hb i p _ HP.out HX.out).2 2 _)
   obtain ⟨w5, hw5⟩ : ∃ W, W = w2.setCell ⟨p, 2, none⟩ (.bool true) := ⟨_, rfl⟩
   rw [← hw5] at HT
   have HI5 := as0 HT.1
   have HB5 := as0 HT.2.1
   have HK5 := as0 (HK2.out.trans HT.2.2)
   clear HT
   have HX5 := as0 (List.getElem?_set_self (a := (⟨x.nm, x.st, true⟩ : HV)) hilt)
   obtain ⟨qa5, qb5, qc5⟩ := HI5.out.hst HP.out HX5.out
   have qf5 : w5.frozen? ⟨p, 2, none⟩ = false := z40 (HI5.out.hb i p _ HP.out HX5.out).2 2
   have hpl5 : p < w5.heap.size := z70 (HI5.out.hb i p _ HP.out HX5.out).2
   have c05 := HI5.out.cell0
   have hgl5 : g < w5.heap.size := z70 HI5.out.blk
   have hilt2 : i < (s.hs.set i ⟨x.nm, x.st, true⟩).length := by rw [List.length_set]; exact hilt
   clear qa1 qb1 qc1 qf1 hpl1 c01 hgl1
   go_wp2_with (first
    | (go_at_call 57; rw [← hw5]; refine (zt4 hpsl HI5.out HB5.out HP.out).mono ?_; rintro e w6 ⟨rfl, ⟨v6, hs⟩, hoth⟩; have HNM : Aside0 (w6.cell? ⟨p, 0, none⟩ = some (.string x.nm)) := ⟨(World.cell?_of_block (hoth p hpl5 (fun e => by have h1 := (HI5.out.hb i p _ HP.out HX5.out).2; rw [e, HI5.out.blk] at h1; injection h1 with h1; injection h1 with _ h1 _; exact absurd h1 (by decide)))).trans qa5⟩; clear hoth; have HI6 := as0 hs.1; have HB6 := as0 hs.2.1; have HK6 := as0 (HK5.out.trans hs.2.2); clear hs))
   refine bodyPost_end (results_none rfl _ _ _) rfl ?_
   have hfin := HI6.out
   simp only [zc4] at hfin
   exact ⟨rfl, _, ⟨hfin, HB6.out, HK6.out⟩, HNM.out⟩
theorem z9a (ca : ¬ 0 ≤ idxOf (namesOf s.ds.row false) x.nm 0) (c3 : x.st ≠ 3) (cn : nextB x.st 5 = true) :
  Calls Tryz.prog 45 #[ptr g, ptr p, .int .i64 dl] w fun e w' => e = .returned (.tuple #[]) ∧ ∃ v', SX w0 w w' g gd v' ps { s with hs := s.hs.set i ⟨x.nm, nextS x.st 5, true⟩, ds := (beginF (s.ds) x.nm dl).2 } ∧ w'.cell? ⟨p, 0, none⟩ = some (.string x.nm) := by
  have HI0 := as0 hI
  have HB0 := as0 hB
  have HK0 := as0 (KeptH.refl TG w)
  have HP := as0 hp
  have HX := as0 hx
  have hilt : i < s.hs.length := (List.getElem?_eq_some_iff.1 hx).1
  have hpsl : ps.length ≤ 1000000000 := by rw [hI.len]; exact hh
  have hl2 : (endF s.ds x.nm).row.length ≤ 1000000000 := Nat.le_trans (ze1 s.ds.row x.nm) hl
  have HA := as0 (fun W (h : IsX w0 W g gd v ps s) => za4 x.nm hl h)
  generalize idxOf (namesOf s.ds.row false) x.nm 0 = ia at HA ca
  have cab : decide (0 ≤ ia) = false := decide_eq_false ca
  have c3b : (x.st == 3) = false := by rw [beq_eq_false_iff_ne]; exact c3
  clear hI hB hp hx
  go_enter Tryz.func45, Tryz.ntmps45
  go_wp2
  have HI1 := as0 (HI0.out.below (z50 (Below.refl _ w)))
  have HB1 := as0 (z50 HB0.out)
  have HK1 := as0 (HK0.out.below (z50 (Below.refl _ w)))
  obtain ⟨qa1, qb1, qc1⟩ := HI1.out.hst HP.out HX.out; have qf1 : w.drew.frozen? ⟨p, 2, none⟩ = false := z40 (HI1.out.hb i p _ HP.out HX.out).2 2; have hpl1 : p < w.drew.heap.size := z70 (HI1.out.hb i p _ HP.out HX.out).2; have c01 := HI1.out.cell0; have hgl1 : g < w.drew.heap.size := z70 HI1.out.blk
  go_region_with (go_at_call 55; refine (HA.out _ HI1.out).mono ?_; rintro e w2 ⟨rfl, hb⟩; have HI2 := as0 (HI1.out.below hb); have HB2 := as0 (z10 HB1.out hb); have HK2 := as0 (HK1.out.below hb); clear hb; obtain ⟨qa2, qb2, qc2⟩ := HI2.out.hst HP.out HX.out; have qf2 : w2.frozen? ⟨p, 2, none⟩ = false := z40 (HI2.out.hb i p _ HP.out HX.out).2 2; have hpl2 : p < w2.heap.size := z70 (HI2.out.hb i p _ HP.out HX.out).2; have c02 := HI2.out.cell0; have hgl2 : g < w2.heap.size := z70 HI2.out.blk)
  all_goals
   have HT := IsX.turn (y := ⟨x.nm, x.st, true⟩) (j := 2) (u := .bool true) HI2.out HB2.out HP.out HX.out rfl (by simpa using zz0 (HI2.out.hb i p _ HP.out HX.out).2 2 _)
   obtain ⟨w5, hw5⟩ : ∃ W, W = w2.setCell ⟨p, 2, none⟩ (.bool true) := ⟨_, rfl⟩
   rw [← hw5] at HT
   have HI5 := as0 HT.1
   have HB5 := as0 HT.2.1
   have HK5 := as0 (HK2.out.trans HT.2.2)
   clear HT
   have HX5 := as0 (List.getElem?_set_self (a := (⟨x.nm, x.st, true⟩ : HV)) hilt)
   obtain ⟨qa5, qb5, qc5⟩ := HI5.out.hst HP.out HX5.out
   have qf5 : w5.frozen? ⟨p, 2, none⟩ = false := z40 (HI5.out.hb i p _ HP.out HX5.out).2 2
   have hpl5 : p < w5.heap.size := z70 (HI5.out.hb i p _ HP.out HX5.out).2
   have c05 := HI5.out.cell0
   have hgl5 : g < w5.heap.size := z70 HI5.out.blk
   have hilt2 : i < (s.hs.set i ⟨x.nm, x.st, true⟩).length := by rw [List.length_set]; exact hilt
   clear qa1 qb1 qc1 qf1 hpl1 c01 hgl1
   go_wp2_with (first
    | (go_at_call 47; rw [← hw5]; refine (z71 5 HI5.out HB5.out HP.out HX5.out _).mono ?_; rintro e w6 ⟨rfl, hs⟩; have HI6 := as0 hs.1; have HB6 := as0 hs.2.1; have HK6 := as0 (HK5.out.trans hs.2.2); clear hs; have HX6 := as0 (List.getElem?_set_self (a := (⟨x.nm, nextS x.st 5, true⟩ : HV)) hilt2); obtain ⟨qa6, qb6, qc6⟩ := HI6.out.hst HP.out HX6.out; have qf6 : w6.frozen? ⟨p, 2, none⟩ = false := z40 (HI6.out.hb i p _ HP.out HX6.out).2 2; have hpl6 : p < w6.heap.size := z70 (HI6.out.hb i p _ HP.out HX6.out).2; have c06 := HI6.out.cell0; have hgl6 : g < w6.heap.size := z70 HI6.out.blk))
   have HI7 := as0 (HI6.out.below (z50 (Below.refl _ w6)))
   have HB7 := as0 (z50 HB6.out)
   have HK7 := as0 (HK6.out.below (z50 (Below.refl _ w6)))
   obtain ⟨qa7, qb7, qc7⟩ := HI7.out.hst HP.out HX6.out; have qf7 : w6.drew.frozen? ⟨p, 2, none⟩ = false := z40 (HI7.out.hb i p _ HP.out HX6.out).2 2; have hpl7 : p < w6.drew.heap.size := z70 (HI7.out.hb i p _ HP.out HX6.out).2; have c07 := HI7.out.cell0; have hgl7 : g < w6.drew.heap.size := z70 HI7.out.blk
   go_region_with (go_at_call 53; refine (zl8 (s := { s with hs := (s.hs.set i ⟨x.nm, x.st, true⟩).set i ⟨x.nm, nextS x.st 5, true⟩, ds := s.ds }) x.nm dl hl HI7.out HB7.out).mono ?_; rintro e w8 ⟨rfl, hs⟩; have HI8 := as0 hs.1; have HB8 := as0 hs.2.1; have HK8 := as0 (HK7.out.trans hs.2.2); clear hs; skip)
   all_goals
    go_wp2
    refine bodyPost_end (results_none rfl _ _ _) rfl ?_
    have hfin := HI8.out
    simp only [List.set_set] at hfin
    exact ⟨rfl, _, ⟨hfin, HB8.out, HK8.out⟩, (HI8.out.hst HP.out HX6.out).1⟩
theorem zdb (ca : ¬ 0 ≤ idxOf (namesOf s.ds.row false) x.nm 0) (c3 : x.st ≠ 3) (cn : nextB x.st 5 = false) :
  Calls Tryz.prog 45 #[ptr g, ptr p, .int .i64 dl] w fun e w' => e = .returned (.tuple #[]) ∧ ∃ v', SX w0 w w' g gd v' ps { s with hs := s.hs.set i ⟨x.nm, x.st, true⟩, ds := s.ds } ∧ w'.cell? ⟨p, 0, none⟩ = some (.string x.nm) := by
  have HI0 := as0 hI
  have HB0 := as0 hB
  have HK0 := as0 (KeptH.refl TG w)
  have HP := as0 hp
  have HX := as0 hx
  have hilt : i < s.hs.length := (List.getElem?_eq_some_iff.1 hx).1
  have hpsl : ps.length ≤ 1000000000 := by rw [hI.len]; exact hh
  have hl2 : (endF s.ds x.nm).row.length ≤ 1000000000 := Nat.le_trans (ze1 s.ds.row x.nm) hl
  have HA := as0 (fun W (h : IsX w0 W g gd v ps s) => za4 x.nm hl h)
  generalize idxOf (namesOf s.ds.row false) x.nm 0 = ia at HA ca
  have cab : decide (0 ≤ ia) = false := decide_eq_false ca
  have c3b : (x.st == 3) = false := by rw [beq_eq_false_iff_ne]; exact c3
  have hno := z35 cn
  clear hI hB hp hx
  go_enter Tryz.func45, Tryz.ntmps45
  go_wp2
  have HI1 := as0 (HI0.out.below (z50 (Below.refl _ w)))
  have HB1 := as0 (z50 HB0.out)
  have HK1 := as0 (HK0.out.below (z50 (Below.refl _ w)))
  obtain ⟨qa1, qb1, qc1⟩ := HI1.out.hst HP.out HX.out; have qf1 : w.drew.frozen? ⟨p, 2, none⟩ = false := z40 (HI1.out.hb i p _ HP.out HX.out).2 2; have hpl1 : p < w.drew.heap.size := z70 (HI1.out.hb i p _ HP.out HX.out).2; have c01 := HI1.out.cell0; have hgl1 : g < w.drew.heap.size := z70 HI1.out.blk
  go_region_with (go_at_call 55; refine (HA.out _ HI1.out).mono ?_; rintro e w2 ⟨rfl, hb⟩; have HI2 := as0 (HI1.out.below hb); have HB2 := as0 (z10 HB1.out hb); have HK2 := as0 (HK1.out.below hb); clear hb; obtain ⟨qa2, qb2, qc2⟩ := HI2.out.hst HP.out HX.out; have qf2 : w2.frozen? ⟨p, 2, none⟩ = false := z40 (HI2.out.hb i p _ HP.out HX.out).2 2; have hpl2 : p < w2.heap.size := z70 (HI2.out.hb i p _ HP.out HX.out).2; have c02 := HI2.out.cell0; have hgl2 : g < w2.heap.size := z70 HI2.out.blk)
  all_goals
   have HT := IsX.turn (y := ⟨x.nm, x.st, true⟩) (j := 2) (u := .bool true) HI2.out HB2.out HP.out HX.out rfl (by simpa using zz0 (HI2.out.hb i p _ HP.out HX.out).2 2 _)
   obtain ⟨w5, hw5⟩ : ∃ W, W = w2.setCell ⟨p, 2, none⟩ (.bool true) := ⟨_, rfl⟩
   rw [← hw5] at HT
   have HI5 := as0 HT.1
   have HB5 := as0 HT.2.1
   have HK5 := as0 (HK2.out.trans HT.2.2)
   clear HT
   have HX5 := as0 (List.getElem?_set_self (a := (⟨x.nm, x.st, true⟩ : HV)) hilt)
   obtain ⟨qa5, qb5, qc5⟩ := HI5.out.hst HP.out HX5.out
   have qf5 : w5.frozen? ⟨p, 2, none⟩ = false := z40 (HI5.out.hb i p _ HP.out HX5.out).2 2
   have hpl5 : p < w5.heap.size := z70 (HI5.out.hb i p _ HP.out HX5.out).2
   have c05 := HI5.out.cell0
   have hgl5 : g < w5.heap.size := z70 HI5.out.blk
   have hilt2 : i < (s.hs.set i ⟨x.nm, x.st, true⟩).length := by rw [List.length_set]; exact hilt
   clear qa1 qb1 qc1 qf1 hpl1 c01 hgl1
   go_wp2_with (first
    | (go_at_call 47; rw [← hw5]; refine (z71 5 HI5.out HB5.out HP.out HX5.out _).mono ?_; rintro e w6 ⟨rfl, hs⟩; have HI6 := as0 hs.1; have HB6 := as0 hs.2.1; have HK6 := as0 (HK5.out.trans hs.2.2); clear hs; have HX6 := as0 (List.getElem?_set_self (a := (⟨x.nm, nextS x.st 5, true⟩ : HV)) hilt2); obtain ⟨qa6, qb6, qc6⟩ := HI6.out.hst HP.out HX6.out; have qf6 : w6.frozen? ⟨p, 2, none⟩ = false := z40 (HI6.out.hb i p _ HP.out HX6.out).2 2; have hpl6 : p < w6.heap.size := z70 (HI6.out.hb i p _ HP.out HX6.out).2; have c06 := HI6.out.cell0; have hgl6 : g < w6.heap.size := z70 HI6.out.blk))
   refine bodyPost_end (results_none rfl _ _ _) rfl ?_
   have hfin := HI6.out
   simp only [List.set_set, hno] at hfin
   exact ⟨rfl, _, ⟨hfin, HB6.out, HK6.out⟩, qa6⟩
theorem z2d : Calls Tryz.prog 45 #[ptr g, ptr p, .int .i64 dl] w fun e w' => e = .returned (.tuple #[]) ∧ ∃ v', SX w0 w w' g gd v' (leaveP x i ps) (leaveF s x dl) ∧ w'.cell? ⟨p, 0, none⟩ = some (.string x.nm) := by
 have hpos := zp4 hI.names hx
 unfold leaveP leaveF leaveD
 rw [zb3 hpos, z91 hpos, z91 hpos]
 by_cases ca : 0 ≤ idxOf (namesOf s.ds.row false) x.nm 0
 ·rw [if_pos ca]
  by_cases c3 : x.st = 3
  ·rw [if_pos c3, if_pos c3]
   exact leave_3a dl hl hh hI hB hp hx ca c3
  ·rw [if_neg c3, if_neg c3]
   cases cn : nextB x.st 5 with
   | true =>
    rw [if_pos rfl]
    exact z6a dl hl hh hI hB hp hx ca c3 cn
   | false =>
    rw [if_neg (by decide)]
    exact z4b dl hl hh hI hB hp hx ca c3 cn
 ·rw [if_neg ca]
  by_cases c3 : x.st = 3
  ·rw [if_pos c3, if_pos c3]
   exact leave_3n dl hl hh hI hB hp hx ca c3
  ·rw [if_neg c3, if_neg c3]
   cases cn : nextB x.st 5 with
   | true =>
    rw [if_pos rfl]
    exact z9a dl hl hh hI hB hp hx ca c3 cn
   | false =>
    rw [if_neg (by decide)]
    exact zdb dl hl hh hI hB hp hx ca c3 cn
end
end
section
variable {w0 w : World} {g gd : Nat} {v : Value} {ps : List Nat} {s : FS}
theorem z82 {T : List Nat} {w w1 : World} {α : Type} {d : Kd α} {e base : Nat} {v : Value} {xs : List α} (h : d.R e w base (fun _ => True) v xs) (hk : KeptH T w w1) (ht : ∀ q, q ∈ e :: d.E → q ∉ T) : d.R e w1 base (fun _ => True) v xs :=
 Kd.R_mono (Ko.R_keep (Ko.R_apart h ht) hk (fun _ h => h.2)) (fun _ _ => trivial)
theorem zf6 : ∀ q, q ∈ 9 :: Kd.string.E → q ∉ TG := by
 intro q hq
 have : q = 9 := by simpa [Kd.string, Kd.scalar] using hq
 subst this
 decide
theorem zl6 {w4 w5 : World} {v5 : Value} {xs : List ByteArray} (hz : w0.heap.size ≤ w.heap.size) (hI : IsX w0 w4 g gd v ps s) (hB : Below w0.heap.size w0 w4) (hk : KeptH TG w w4) (hR : Kd.R Kd.string 9 w4 w.heap.size (fun _ => True) v5 xs) (hg : w4.grownBy w5 v5.ownBlock) :
  IsX w0 w5 g gd v ps s ∧ Below w0.heap.size w0 w5 ∧ KeptH TG w w5 :=
 ⟨hI.step (fun k h => hg.block k h.lt (Ko.R_ne (T := TF) hR (by decide) k h)), hB.grown hg hB.size (fun k h => Nat.le_trans hz (Kd.R_base hR k h)), hk.grown hg (fun k h => .inr (Kd.R_base hR k h))⟩
def admit1 (s : FS) (nm : ByteArray) (dl : Int) : FS :=
 { s with hs := (match lookH s.hs nm with | some x => setH s.hs nm (evH x 0) | none => s.hs), ds := (beginF (endF s.ds nm) nm dl).2 }
def admitL (dl : Int) : List ByteArray → FS → FS × List ByteArray
 | [], s => (s, [])
 | nm :: l, s => if mayS s nm = true then ((admitL dl l (admit1 s nm dl)).1, nm :: (admitL dl l (admit1 s nm dl)).2) else (s, [])
def admitF (s : FS) (dl : Int) : List ByteArray × FS := ((admitL dl (namesOf s.ds.row false) s).2, (admitL dl (namesOf s.ds.row false) s).1)
structure DOk (d : DS) (b : Nat) : Prop where
 inv : Inv d b
 ne : NoEmpty d
theorem DOk.mono {d : DS} {b c : Nat} (h : DOk d b) (hc : b ≤ c) : DOk d c := ⟨h.inv.mono hc, h.ne⟩
theorem endF_len {d : DS} {nm : ByteArray} (h : nm ∈ d.row.map (·.f0)) : (endF d nm).row.length + 1 = d.row.length := by
 unfold endF endRow
 have hp : ¬ placeOf d.row nm 0 < 0 := fun e => (zb1 nm d.row 0 (by omega)).1 e h
 rw [if_neg hp]
 obtain ⟨i, hi, hlt, _⟩ := zm3 nm d.row 0 (by omega) (by omega)
 show (d.row.eraseIdx _).length + 1 = _
 rw [hi, List.length_eraseIdx, if_pos (by simpa using hlt)]
 omega
theorem zs2 {d : DS} {b : Nat} (h : DOk d b) (nm : ByteArray) : DOk (endF d nm) b ∧ nm ∉ (endF d nm).row.map (·.f0) ∧ ∀ u, namesOf (endF d nm).row u = (namesOf d.row u).filter (fun x => !decide (x = nm)) := by
 obtain ⟨h1, h2⟩ := zq7 h.inv nm
 refine ⟨⟨h1, h.ne.end_ nm⟩, h2, fun u => ?_⟩
 unfold endF
 rw [zf3 nm d.row h.inv.1]
 exact zo4 d.row nm u
theorem zw6 {d : DS} {b : Nat} (h : DOk d b) {nm : ByteArray} (hn : nm ∉ d.row.map (·.f0)) (dl : Int) :
  DOk (beginF d nm dl).2 (b + 1) ∧ (beginF d nm dl).2.row.length ≤ d.row.length + 1 ∧ namesOf (beginF d nm dl).2.row false = namesOf d.row false := by
 unfold beginF
 by_cases c : nameB nm = true
 ·rw [if_pos c, if_pos ((zb1 nm d.row 0 (by omega)).2 hn)]
  refine ⟨⟨z93 h.inv _ hn (fun h => by cases h), h.ne.add _ (ze4 c)⟩, by simp, ?_⟩
  rw [z12]
  simp [namesOf]
 ·rw [if_neg c]
  exact ⟨h.mono (by omega), Nat.le_succ _, rfl⟩
theorem z86 {s : FS} {b : Nat} (h : DOk s.ds b) {nm : ByteArray} {l : List ByteArray} (hw : namesOf s.ds.row false = nm :: l) (dl : Int) :
  DOk (admit1 s nm dl).ds (admit1 s nm dl).ds.row.length ∧ (admit1 s nm dl).ds.row.length ≤ s.ds.row.length ∧ namesOf (admit1 s nm dl).ds.row false = l := by
 have hm : nm ∈ s.ds.row.map (·.f0) := (zi2 s.ds.row nm).2 (.inl (by rw [hw]; simp))
 obtain ⟨h1, h2, h3⟩ := zs2 h nm
 obtain ⟨h4, h5, h6⟩ := zw6 h1 h2 dl
 have h7 := endF_len hm
 refine ⟨⟨⟨h4.inv.1, Nat.le_refl _, h4.inv.2.2⟩, h4.ne⟩, Nat.le_trans h5 (by omega), ?_⟩
 show namesOf (beginF (endF s.ds nm) nm dl).2.row false = l
 rw [h6, h3, hw]
 have hnd : (nm :: l).Nodup := by rw [← hw]; exact zk7 h.inv false
 rw [List.filter_cons, if_neg (by simp), List.filter_eq_self]
 intro x hx
 have : x ≠ nm := by rintro rfl; exact (List.nodup_cons.1 hnd).1 hx
 simp [this]
theorem zm8 (s : FS) (nm : ByteArray) (dl : Int) : (admit1 s nm dl).hs.length = s.hs.length := by
 unfold admit1
 dsimp only
 split
 ·simp [setH]
 ·rfl
theorem zz5 {row : List S110} {nm : ByteArray} {l : List ByteArray} (h : namesOf row false = nm :: l) : ∃ x, headOf row = some x ∧ x.f0 = nm := by
 rcases z34 row with ⟨_, h2⟩ | ⟨x, l', h1, _, _, h4⟩
 ·rw [h2] at h; cases h
 ·rw [h4] at h
  injection h with h _
  exact ⟨x, h1, h⟩
theorem zp9 {b : Nat} {nm : ByteArray} {l : List ByteArray} (hb : b ≤ 1000000000) (hh : s.hs.length ≤ 1000000000) (hd : DOk s.ds b) (hI : IsX w0 w g gd v ps s) (hB : Below w0.heap.size w0 w) (hw : namesOf s.ds.row false = nm :: l) (hm : mayS s nm = true) :
  Calls Tryz.prog 51 #[ptr gd, .func (.func 52) #[ptr g] #[]] w fun e w' => e = .returned (.tuple #[.string nm, .bool true]) ∧ SX w0 w w' g gd v ps { s with ds := endF s.ds nm } := by
 obtain ⟨x, hx, rfl⟩ := zz5 hw
 have hn : headName s.ds.row true = x.f0 := by unfold headName; rw [hx]; rfl
 have hmem : x.f0 ∈ s.ds.row.map (·.f0) := (zi2 s.ds.row x.f0).2 (.inl (by rw [hw]; simp))
 have hp : decide (0 ≤ placeOf s.ds.row x.f0 0) = true := by
  have : ¬ placeOf s.ds.row x.f0 0 < 0 := fun e => (zb1 x.f0 s.ds.row 0 (by omega)).1 e hmem
  exact decide_eq_true (by omega)
 refine (z67 g true hI.dr hB (Nat.le_trans hd.inv.2.1 hb) (fun y hy W hWb => by
  rw [hx] at hy
  injection hy with hy
  subst hy
  have := zs7 x.f0 hh (hI.below hWb)
  rw [hm] at this
  exact this)).mono ?_
 rintro e w' ⟨rfl, h1, h2, h3⟩
 rw [hn, hp]
 rw [hn] at h1
 exact ⟨rfl, hI.drains h1 h2 h3⟩
theorem znc {b : Nat} (hb : b ≤ 1000000000) (hh : s.hs.length ≤ 1000000000) (hd : DOk s.ds b) (hI : IsX w0 w g gd v ps s) (hB : Below w0.heap.size w0 w) (hno : ∀ nm l, namesOf s.ds.row false = nm :: l → mayS s nm = false) :
  Calls Tryz.prog 51 #[ptr gd, .func (.func 52) #[ptr g] #[]] w fun e w' => e = .returned (.tuple #[.string ⟨#[]⟩, .bool false]) ∧ SX w0 w w' g gd v ps s := by
 have hn : headName s.ds.row false = ⟨#[]⟩ := by
  unfold headName
  cases headOf s.ds.row <;> rfl
 have hne : (⟨#[]⟩ : ByteArray) ∉ s.ds.row.map (·.f0) := fun h => by
  obtain ⟨x, hx, e⟩ := List.mem_map.1 h
  exact hd.ne x hx e
 have hp := (zb1 ⟨#[]⟩ s.ds.row 0 (by omega)).2 hne
 have hp2 : decide (0 ≤ placeOf s.ds.row ⟨#[]⟩ 0) = false := decide_eq_false (by omega)
 refine (z67 g false hI.dr hB (Nat.le_trans hd.inv.2.1 hb) (fun y hy W hWb => by
  rcases z34 s.ds.row with ⟨h1, _⟩ | ⟨x, l', h1, _, _, h4⟩
  ·rw [h1] at hy; cases hy
  ·rw [h1] at hy
   injection hy with hy
   subst hy
   have := zs7 x.f0 hh (hI.below hWb)
   rw [hno _ _ h4] at this
   exact this)).mono ?_
 rintro e w' ⟨rfl, h1, h2, h3⟩
 rw [hn, hp2]
 rw [hn] at h1
 have he : (⟨endRow s.ds.row ⟨#[]⟩⟩ : DS) = s.ds := by unfold endRow; rw [if_pos hp]
 rw [he] at h1
 exact ⟨rfl, hI.drains h1 h2 h3⟩
theorem z07 {nm : ByteArray} (h : mayS s nm = true) : ∃ (i : Nat) (x : HV), posH s.hs nm = (i : Int) ∧ s.hs[i]? = some x ∧ x.nm = nm := by
 rcases za3 s.hs nm with ⟨h1, _⟩ | h1
 ·unfold mayS mayI at h
  rw [h1, if_pos (.inl (by omega))] at h
  cases h
 ·exact h1
theorem zoa (dl : Int) (b : Nat) (hb : b ≤ 1000000000) (hh : s.hs.length ≤ 1000000000) (hd : DOk s.ds b) (hI : IsX w0 w g gd v ps s) (hB : Below w0.heap.size w0 w) :
  Calls Tryz.prog 13 #[ptr g, .int .i64 dl] w fun e w' => ∃ v1_ : Value, e = .returned v1_ ∧ Kd.R Kd.string 9 w' w.heap.size (fun _ => True) v1_ (admitF s dl).1 ∧ St w0 w w' g (admitF s dl).2 := by
 obtain ⟨RES, hres⟩ : ∃ R, R = admitL dl (namesOf s.ds.row false) s := ⟨_, rfl⟩
 unfold admitF
 rw [← hres]
 have HI0 := as0 hI
 have HB0 := as0 hB
 have HD0 := as0 hd
 have hhs := hh
 have HRES : Aside0 (∃ r, admitL dl (namesOf s.ds.row false) s = (RES.1, r) ∧ RES.2 = [] ++ r) := ⟨⟨RES.2, by rw [← hres], rfl⟩⟩
 have hlen : s.ds.row.length ≤ 1000000000 := Nat.le_trans hd.inv.2.1 hb
 have hwl : (namesOf s.ds.row false).length ≤ 16 := hd.inv.2.2
 have HS0 : Aside0 (DOk s.ds s.ds.row.length) := ⟨⟨⟨hd.inv.1, Nat.le_refl _, hd.inv.2.2⟩, hd.ne⟩⟩
 have HW0 : Aside0 (w0.heap.size ≤ w.heap.size) := ⟨hB.size⟩
 clear hI hB hd hres hb HD0
 go_enter Tryz.func13, Tryz.ntmps13
 go_wp2
 go_loopg [5] 17 (fun gf v5 wr => ∃ (s1 : FS) (acc : List ByteArray), Aside0 (∃ r, admitL dl (namesOf s1.ds.row false) s1 = (RES.1, r) ∧ RES.2 = acc ++ r) ∧ (namesOf s1.ds.row false).length < gf ∧ acc.length + gf ≤ 17 ∧ s1.hs.length = s.hs.length ∧ s1.ds.row.length ≤ s.ds.row.length ∧ Aside0 (DOk s1.ds s1.ds.row.length) ∧ Aside0 (IsX w0 wr g gd v ps s1) ∧ Aside0 (Below w0.heap.size w0 wr) ∧ Aside0 (KeptH TG w wr) ∧ Aside0 (w.heap.size ≤ wr.heap.size) ∧ Aside0 (Kd.R Kd.string 9 wr w.heap.size (fun _ => True) v5 acc))
 case atStart => exact ⟨s, [], HRES, by omega, by simp, rfl, Nat.le_refl _, HS0, HI0, HB0, ⟨KeptH.refl _ _⟩, ⟨Nat.le_refl _⟩, ⟨Kd.R_nil _ _ _ _ _⟩⟩
 case round =>
  obtain ⟨s1, acc, HR, hgf, hacc, hh1, hl1, HD, HI0, HB0, HK0, HZ0, HO0⟩ := hrel
  have hhX : s1.hs.length ≤ 1000000000 := by omega
  have hlX : s1.ds.row.length ≤ 1000000000 := by omega
  have c00 := HI0.out.cell0
  have hgl0 : g < wr.heap.size := z70 HI0.out.blk
  have hend : (∀ nm l, namesOf s1.ds.row false = nm :: l → mayS s1 nm = false) ∨ ∃ nm l, namesOf s1.ds.row false = nm :: l ∧ mayS s1 nm = true := by
   cases hw : namesOf s1.ds.row false with
   | nil => exact .inl (fun nm l h => by cases h)
   | cons nm l =>
    cases hm : mayS s1 nm with
    | true => exact .inr ⟨nm, l, rfl, hm⟩
    | false => exact .inl (fun nm' l' h => by injection h with h _; rw [← h]; exact hm)
  rcases hend with hno | ⟨nm, l, hw, hm⟩
  ·have HFX := as0 (znc hlX hhX HD.out HI0.out HB0.out hno)
   have hr : s1 = RES.1 ∧ RES.2 = acc := by
    obtain ⟨r, h1, h2⟩ := HR.out
    have h3 : admitL dl (namesOf s1.ds.row false) s1 = (s1, []) := by
     cases hw : namesOf s1.ds.row false with
     | nil => rfl
     | cons nm l => unfold admitL; rw [hno nm l hw, if_neg (by decide)]
    rw [h3] at h1
    obtain ⟨h4, h5⟩ := Prod.mk.inj h1
    rw [← h5] at h2
    exact ⟨h4, by simpa using h2⟩
   obtain ⟨hr1, hr2⟩ := hr
   have HR1 := as0 hr1
   have HR2 := as0 hr2
   obtain ⟨A5, n5, rfl⟩ := Kd.R_slice HO0.out
   clear hno hr1 hr2 HR HD
   go_wp2_with (go_at_call 51; refine HFX.out.mono ?_; rintro e w1 ⟨rfl, hs⟩; have HS := as0 hs; clear hs)
   go_ret
   refine ⟨_, rfl, ?_, ?_⟩
   ·rw [HR2.out]
    exact z82 HO0.out HS.out.2.2 zf6
   ·rw [← HR1.out]
    exact SX.st ⟨HS.out.1, HS.out.2.1, HK0.out.trans HS.out.2.2⟩
  ·have HFX := as0 (zp9 hlX hhX HD.out HI0.out HB0.out hw hm)
   obtain ⟨i, x, hpos, hx, hxn⟩ := z07 hm
   have hilt : i < s1.hs.length := (List.getElem?_eq_some_iff.1 hx).1
   have hilp : i < ps.length := by rw [HI0.out.len]; exact hilt
   obtain ⟨p, hp⟩ : ∃ p, ps[i]? = some p := ⟨_, List.getElem?_eq_getElem hilp⟩
   have hfv : findV ps s1.hs nm = ptr p := by
    unfold findV
    rw [hpos, if_neg (by omega)]
    simp [List.getD, hp]
   have HX := as0 hx
   have HP := as0 hp
   have HSTEP := as0 (z86 HD.out hw dl)
   have hA1 : admit1 s1 nm dl = { s1 with hs := s1.hs.set i (evH x 0), ds := (beginF (endF s1.ds nm) nm dl).2 } := by
    unfold admit1
    rw [zo1 hpos hx]
    simp only [z91 hpos]
   have HA1 := as0 hA1
   have HR2 : Aside0 (∃ r, admitL dl (namesOf (admit1 s1 nm dl).ds.row false) (admit1 s1 nm dl) = (RES.1, r) ∧ RES.2 = (acc ++ [nm]) ++ r) := ⟨by
    obtain ⟨r, h1, h2⟩ := HR.out
    rw [hw] at h1
    unfold admitL at h1
    rw [hm, if_pos rfl] at h1
    obtain ⟨h4, h5⟩ := Prod.mk.inj h1
    rw [HSTEP.out.2.2]
    refine ⟨(admitL dl l (admit1 s1 nm dl)).2, by rw [← h4], ?_⟩
    rw [h2, ← h5]
    simp⟩
   have HFI := as0 (fun W (h : IsX w0 W g gd v ps { s1 with ds := endF s1.ds nm }) => zo2 nm h)
   have hfv2 : findV ps ({ s1 with ds := endF s1.ds nm } : FS).hs nm = ptr p := hfv
   rw [hfv2] at HFI
   have hlE : (endF s1.ds nm).row.length ≤ 1000000000 := Nat.le_trans (ze1 s1.ds.row nm) hlX
   have HW := as0 hw
   have HLW : Aside0 (l.length + 1 < gk) := ⟨by rw [hw] at hgf; simpa using hgf⟩
   have HZ : Aside0 (w.heap.size ≤ wr.heap.size) := HZ0
   have hacc2 : acc.length ≤ 17 := by omega
   clear hpos hx hxn hp hfv hfv2 hA1 hm HR hilp HRES HS0
   go_wp2_with (first
    | (go_at_call 51; refine HFX.out.mono ?_; rintro e w1 ⟨rfl, hs1⟩; have HI1 := as0 hs1.1; have HB1 := as0 hs1.2.1; have HK1 := as0 (HK0.out.trans hs1.2.2); have HO1 := as0 (z82 HO0.out hs1.2.2 zf6); have HZ1 := as0 (Nat.le_trans HZ0.out hs1.2.2.1.1); clear hs1; have c01 := HI1.out.cell0; have hgl1 : g < w1.heap.size := z70 HI1.out.blk)
    | (go_at_call 46; refine (HFI.out _ HI1.out).mono ?_; rintro e w2 ⟨rfl, hb2⟩; have HI2 := as0 (HI1.out.below hb2); have HB2 := as0 (z10 HB1.out hb2); have HK2 := as0 (HK1.out.below hb2); have HO2 := as0 (Kd.R_below HO1.out hb2); have HZ2 := as0 (Nat.le_trans HZ1.out hb2.size); clear hb2; have c02 := HI2.out.cell0; have hgl2 : g < w2.heap.size := z70 HI2.out.blk)
    | (go_at_call 47; refine (z71 0 HI2.out HB2.out HP.out HX.out _).mono ?_; rintro e w3 ⟨rfl, hs3⟩; have HI3 := as0 hs3.1; have HB3 := as0 hs3.2.1; have HK3 := as0 (HK2.out.trans hs3.2.2); have HO3 := as0 (z82 HO2.out hs3.2.2 zf6); have HZ3 := as0 (Nat.le_trans HZ2.out hs3.2.2.1.1); clear hs3; have c03 := HI3.out.cell0; have hgl3 : g < w3.heap.size := z70 HI3.out.blk)
    | (go_at_call 53; refine (zl8 (s := { s1 with hs := s1.hs.set i (evH x 0), ds := endF s1.ds nm }) nm dl hlE HI3.out HB3.out).mono ?_; rintro e w4 ⟨rfl, hs4⟩; have HI4 := as0 hs4.1; have HB4 := as0 hs4.2.1; have HK4 := as0 (HK3.out.trans hs4.2.2); have HO4 := as0 (z82 HO3.out hs4.2.2 zf6); have HZ4 := as0 (Nat.le_trans HZ3.out hs4.2.2.1.1); clear hs4)
    | ((with_reducible refine zm0 (b := .append) (xs := #[.tmp 34, .tmp 36]) rfl ?_); (try (refine z41 (by rfl) ?_; dsimp only)); at_builtin; refine Kd.R_append Kd.string (w0 := w4) w.heap.size rfl (.tmp 34) (.tmp 36) 27 9 (.string ⟨#[]⟩) 16 rfl Tryz.underlying27 z53 rfl (by decide) (by omega) _ acc nm [.string nm] (fun _ => True) (fun _ => False) rfl ?aX ?aP (fun _ h => h.elim) (fun _ _ => trivial) ?aO ?aB ?aS ?aL ?_; (case aX => (show Value.slice (some ⟨w4.heap.size, 0, none⟩) 1 1 = _; simp)); (case aP => exact rfl); (case aO => exact HO4.out); (case aB => exact Below.refl _ _ |>.mono HZ4.out); (case aS => exact HZ4.out); (case aL => have := hacc2; omega); intro v5 w5 ho hb hg hat; have HO5 := as0 ho; have HG5 := as0 hg; clear ho hb hg hat))
   have hfin := zl6 HW0.out HI4.out HB4.out HK4.out HO4.out HG5.out
   have HF1 := as0 hfin.1
   have HF2 := as0 hfin.2.1
   have HF3 := as0 hfin.2.2
   have HF4 : Aside0 (w.heap.size ≤ w5.heap.size) := ⟨Nat.le_trans HZ4.out HG5.out.size⟩
   clear hfin
   obtain ⟨g', rfl⟩ : ∃ g', gk = g' + 1 := ⟨gk - 1, by omega⟩
   have hA2 := HA1.out
   go_roundg g'
   case measure => omega
   case rel =>
    refine ⟨admit1 s1 nm dl, acc ++ [nm], HR2, ?_, ?_, ?_, ?_, ⟨HSTEP.out.1⟩, ?_, HF2, HF3, HF4, HO5⟩
    ·rw [HSTEP.out.2.2]
     have := HLW.out
     omega
    ·simp
     omega
    ·rw [zm8, hh1]
    ·exact Nat.le_trans HSTEP.out.2.1 hl1
    ·rw [hA2]
     exact HF1
end
end Go.Proofs.YtmlmiocomlehgaaGreat.Man
end
section
namespace Go.Proofs.YtmlmiocomlehgaaGreat.Man
open Go Go.RowKit Go.Maps Go.Proofs.YtmlmiocomlehgaaGreatW.PrintWords Go.Proofs.YtmlmiocomlehgaaGreatW.PrintLast Go.Proofs.YtmlmiocomlehgaaGreatW.PrintMore Go.Proofs.YtmlmiocomlehgaaGreat.PA Go.Proofs.YtmlmiocomlehgaaGreat.PF Go.Proofs.YtmlmiocomlehgaaGreat.Hid Go.Proofs.YtmlmiocomlehgaaGreat.Na
section
variable {w0 w : World}
abbrev kl (x : ByteArray) : Lit := .string x.data.toList
def memB (x : ByteArray) (l : List ByteArray) : Bool := l.any (fun y => decide (y = x))
theorem zo3 {x : ByteArray} {l : List ByteArray} : memB x l = true ↔ x ∈ l := by
 unfold memB
 rw [List.any_eq_true]
 constructor
 ·rintro ⟨y, hy, h⟩
  rw [← of_decide_eq_true h]
  exact hy
 ·intro h
  exact ⟨x, h, by simp⟩
theorem z66 {x : ByteArray} {l : List ByteArray} : memB x l = false ↔ x ∉ l := by rw [← Bool.not_eq_true, zo3]
def nodupB : List ByteArray → Bool
 | [] => true
 | x :: l => !memB x l && nodupB l
theorem zk2 : ∀ {l : List ByteArray}, nodupB l = true ↔ l.Nodup
 | [] => by simp [nodupB]
 | x :: l => by
  rw [nodupB, Bool.and_eq_true, zk2, List.nodup_cons, Bool.not_eq_true', z66]
def SetS (W : World) (b : Nat) (l : List ByteArray) : Prop := ∃ D : DataW Unit, W.ownsMap Tryz.prog 9 (plainElem (H := Unit) Tryz.prog 4) b l.length D ∧ (∀ x, Maps.has D (kl x) = memB x l) ∧ Maps.size D ≤ l.length ∧ (Maps.size D = l.length ↔ l.Nodup)
theorem SetS.made (W : World) : SetS (W.alloc (.map #[] 0)) W.heap.size [] := ⟨_, World.ownsMap_made W Tryz.prog 9 _, fun x => by simp [Maps.has_eq, memB], Nat.le_refl _, by simp [Maps.size_eq]⟩
theorem kl_inj {x y : ByteArray} (h : kl x = kl y) : x = y := by
 injection h with h
 exact ByteArray.ext (Array.toList_inj.mp h)
theorem SetS.put {W : World} {b : Nat} {l : List ByteArray} (h : SetS W b l) {x : ByteArray} (hx : x.size ≤ maxLen) (hn : l.length < maxLen) :
  ∃ W', (Instr.mapUpdate 106 (.map (some b)) (.string x) (.bool true)).run Tryz.prog W = .ok () W' ∧ SetS W' b (l ++ [x]) ∧ W.grownBy W' (some b) := by
 obtain ⟨D, ho, hh, h1, h2⟩ := h
 have K := string_keyed (P := Tryz.prog) (k := 9) Tryz.underlying9
 obtain ⟨W', hrun, ho', hg⟩ := ho.update K Tryz.underlying106 hn (key := .string x) (val := .bool true) (kl := kl x) (by unfold keyOf mapKey; rw [Tryz.underlying9]; dsimp only; rw [if_pos hx]) (plainElem_bool Tryz.underlying4 true)
 refine ⟨W', hrun, ⟨_, by simpa using ho', fun y => ?_, ?_⟩, hg⟩
 ·by_cases e : y = x
  ·subst e
   rw [Maps.has_put_same ho.isMap (by trivial)]
   exact (zo3.2 (by simp)).symm
  ·rw [Maps.has_put_other (fun h => e (kl_inj h)), hh]
   unfold memB
   rw [List.any_append]
   simp [show ¬ x = y from fun h => e h.symm]
 ·rw [Maps.size_put (ho.tidy K), hh]
  by_cases c : x ∈ l
  ·rw [zo3.2 c, if_pos rfl]
   simp only [List.length_append, List.length_singleton]
   refine ⟨by omega, ⟨fun h => by omega, fun h => ?_⟩⟩
   rw [List.nodup_append] at h
   exact absurd rfl (h.2.2 x c x (by simp))
  ·rw [z66.2 c, if_neg (by decide)]
   simp only [List.length_append, List.length_singleton]
   refine ⟨by omega, ⟨fun h => ?_, fun h => ?_⟩⟩
   ·rw [List.nodup_append]
    refine ⟨h2.1 (by omega), by simp, fun y hy z hz => ?_⟩
    rw [List.mem_singleton.1 hz]
    rintro rfl
    exact c hy
   ·rw [List.nodup_append] at h
    have := h2.2 h.1
    omega
theorem SetS.len {W : World} {b : Nat} {l : List ByteArray} (h : SetS W b l) (ty : TypeId) : ∃ n : Nat, (Builtin.len_ #[106] ty #[.map (some b)]).run Tryz.prog W = .ok (.int .i64 (n : Int)) W ∧ n ≤ l.length ∧ (n = l.length ↔ l.Nodup) := by
 obtain ⟨D, ho, hh, h1, h2⟩ := h
 exact ⟨_, ho.len Tryz.underlying106 ty, h1, h2⟩
theorem z89 (x : ByteArray) (w : World) : Calls Tryz.prog 73 #[.string x] w fun e w' => e = .returned (.bool (!nameB x)) ∧ Below w.heap.size w w' := by
 have HN := as0 (fun W => z22 x W)
 generalize nameB x = b at HN
 go_enter Tryz.func73, Tryz.ntmps73
 go_wp2_with (go_at_call 74; refine (HN.out _).mono ?_; rintro e w1 ⟨rfl, hb1⟩)
 go_ret
 exact ⟨rfl, hb1⟩
def badAt (xs : List ByteArray) (k : Nat) : Bool := !nameB (xs.getD k ByteArray.empty)
theorem z1b (xs : List ByteArray) (A : Option Addr) (n : Nat) (hC : Kd.C Kd.string w A xs.length xs) (hn : xs.length ≤ n) :
  Calls Tryz.prog 98 #[.slice A xs.length n, .func (.func 73) #[] #[]] w fun e w' => e = .returned (.int .i64 (fstP (badAt xs) xs.length 0)) ∧ Below w.heap.size w w' := by
 have HC := as0 hC
 have HDD := as0 z89
 have hlen : xs.length ≤ 9223372036854775807 := hC.2.1
 obtain ⟨RES, hres⟩ : ∃ R, R = fstP (badAt xs) xs.length 0 := ⟨_, rfl⟩
 rw [← hres]
 have HRES := as0 hres.symm
 clear hC hres
 go_enter Tryz.func98, Tryz.ntmps98
 go_wp2
 go_loopw [8] (fun v8 wr => ∃ k : Nat, k ≤ xs.length ∧ v8 = .int .i64 k ∧ Aside0 (fstP (badAt xs) (xs.length - k) k = RES) ∧ Aside0 (Below w.heap.size w wr)) (fun v8 _ => xs.length - (intOf v8).toNat)
 case atStart => exact ⟨0, Nat.zero_le _, rfl, HRES, ⟨Below.refl _ _⟩⟩
 case round =>
  obtain ⟨k, hk, rfl, HF, HB⟩ := hrel
  by_cases hlt : k < xs.length
  ·obtain ⟨ad, rfl, hx0⟩ := Kd.at_string (Kd.C_below HC.out HB.out) (k : Int) (by omega) (by omega)
   obtain ⟨x, hxe⟩ : ∃ x, x = rdOf ByteArray.empty xs (k : Int) := ⟨_, rfl⟩
   rw [← hxe, Int.toNat_natCast] at hx0
   have hbad : badAt xs k = !nameB x := by rw [hxe]; rfl
   have hF := HF.out
   rw [show xs.length - k = (xs.length - (k + 1)) + 1 by omega, fstP, hbad] at hF
   have h0k : (0 : Int) ≤ (k : Int) := by omega
   have hkl : (k : Int) < (xs.length : Int) := by omega
   clear hxe hbad HF
   cases hd : (!nameB x) with
   | true =>
    rw [hd, if_pos rfl] at hF
    subst hF
    go_wp2_with (go_at_call 73; refine (HDD.out x _).mono ?_; rintro e w2 ⟨rfl, hb2⟩; rw [hd])
    go_ret
    exact ⟨rfl, z10 HB.out hb2⟩
   | false =>
    rw [hd, if_neg (by decide)] at hF
    have HF := as0 hF
    clear hF
    go_wp2_with (go_at_call 73; refine (HDD.out x _).mono ?_; rintro e w2 ⟨rfl, hb2⟩; rw [hd])
    exact ⟨⟨k + 1, by omega, by rw [show ((k : Int) + 1) = ((k + 1 : Nat) : Int) by omega], HF, ⟨z10 HB.out hb2⟩⟩, by simp [intOf]; omega⟩
  ·have hke : k = xs.length := by omega
   subst hke
   have hF := HF.out
   rw [Nat.sub_self] at hF
   have hF2 : -1 = RES := hF
   subst hF2
   clear hk HF hF
   go_wp2
   go_ret
   exact ⟨rfl, HB.out⟩
theorem zsb (xs : List ByteArray) (A : Option Addr) (n : Nat) (hC : Kd.C Kd.string w A xs.length xs) (hn : xs.length ≤ n) :
  Calls Tryz.prog 72 #[.slice A xs.length n, .func (.func 73) #[] #[]] w fun e w' => e = .returned (.bool (decide (0 ≤ fstP (badAt xs) xs.length 0))) ∧ Below w.heap.size w w' := by
 have HI := as0 (z1b xs A n hC hn)
 clear hC hn
 generalize fstP (badAt xs) xs.length 0 = i at HI
 go_enter Tryz.func72, Tryz.ntmps72
 go_wp2_with (go_at_call 98; refine HI.out.mono ?_; rintro e w1 ⟨rfl, hb1⟩)
 go_ret
 exact ⟨rfl, hb1⟩
def checkE (l : List ByteArray) : Int := if 16 < l.length then 13 else if l.all nameB = false then 11 else if nodupB l = true then 0 else 6
theorem fst_all (l : List ByteArray) : decide (0 ≤ fstP (badAt l) l.length 0) = !l.all nameB := by
 have key : ∀ (n j : Nat), j + n = l.length → decide (0 ≤ fstP (badAt l) n j) = !(l.drop j).all nameB := by
  intro n
  induction n with
  | zero =>
   intro j hj
   rw [List.drop_eq_nil_of_le (by omega)]
   rfl
  | succ n ih =>
   intro j hj
   have hlt : j < l.length := by omega
   rw [fstP, List.drop_eq_getElem_cons hlt, List.all_cons]
   have e : badAt l j = !nameB l[j] := by simp [badAt, List.getD, hlt]
   rw [e]
   cases nameB l[j] with
   | true => simpa using ih (j + 1) (by omega)
   | false => simp
 simpa using key l.length 0 (by omega)
theorem zs3 (xs : List ByteArray) (A : Option Addr) (n : Nat) (hs : ∀ x ∈ xs, x.size ≤ maxLen) (hC : Kd.C Kd.string w A xs.length xs) (hn : xs.length ≤ n) :
  Calls Tryz.prog 42 #[.slice A xs.length n] w fun e w' => e = .returned (.int .i64 (checkE xs)) ∧ Below w.heap.size w w' := by
 have HC := as0 hC
 have HS := as0 hs
 have hlen : xs.length ≤ 9223372036854775807 := hC.2.1
 have HCF := as0 (fun W (hb : Below w.heap.size w W) => zsb (w := W) xs A n (Kd.C_below hC hb) hn)
 rw [fst_all] at HCF
 obtain ⟨E, hE⟩ : ∃ E, E = checkE xs := ⟨_, rfl⟩
 rw [← hE]
 have HE := as0 hE
 clear hC hs hE
 have hmm := @run_makeMap Tryz.prog
 have HM : Aside0 (SetS (w.alloc (.map #[] 0)) w.heap.size (xs.take 0)) := ⟨SetS.made w⟩
 go_enter Tryz.func42, Tryz.ntmps42
 go_wp2
 go_loopw [9] (fun v9 wr => ∃ k : Nat, k ≤ xs.length ∧ v9 = .int .i64 k ∧ Aside0 (SetS wr w.heap.size (xs.take k)) ∧ Aside0 (Below w.heap.size w wr)) (fun v9 _ => xs.length - (intOf v9).toNat)
 case atStart => exact ⟨0, Nat.zero_le _, rfl, HM, ⟨z80 (Below.refl _ _) _⟩⟩
 case round =>
  obtain ⟨k, hk, rfl, HO, HB⟩ := hrel
  by_cases hlt : k < xs.length
  ·obtain ⟨ad, rfl, hx0⟩ := Kd.at_string (Kd.C_below HC.out HB.out) (k : Int) (by omega) (by omega)
   obtain ⟨x, hxe⟩ : ∃ x, x = rdOf ByteArray.empty xs (k : Int) := ⟨_, rfl⟩
   rw [← hxe, Int.toNat_natCast] at hx0
   have hxg : xs[k] = x := by rw [hxe]; simp [rdOf, List.getD, hlt]
   have hts : xs.take (k + 1) = xs.take k ++ [x] := by rw [List.take_succ_eq_append_getElem hlt, hxg]
   obtain ⟨W', hrun, hS', hg'⟩ := HO.out.put (x := x) (HS.out x (by rw [← hxg]; exact List.getElem_mem hlt)) (by simp; unfold maxLen; omega)
   have HS' : Aside0 (SetS W' w.heap.size (xs.take (k + 1))) := ⟨by rw [hts]; exact hS'⟩
   have HB' := as0 (HB.out.grown hg' (Nat.le_trans HB.out.size (Nat.le_refl _)) (fun b hb => by injection hb with hb; omega))
   have h0k : (0 : Int) ≤ (k : Int) := by omega
   have hkl : (k : Int) < (xs.length : Int) := by omega
   clear hxe hxg hts hS' hg'
   go_wp2
   exact ⟨⟨k + 1, by omega, by rw [show ((k : Int) + 1) = ((k + 1 : Nat) : Int) by omega], HS', HB'⟩, by simp [intOf]; omega⟩
  ·have hke : k = xs.length := by omega
   subst hke
   rw [List.take_length] at HO
   clear hk
   have hE := HE.out
   unfold checkE at hE
   clear HE
   by_cases c1 : 16 < xs.length
   ·rw [if_pos c1] at hE
    subst hE
    have c1b : decide ((16 : Int) < (xs.length : Int)) = true := decide_eq_true (by omega)
    have c1d : decide (16 < xs.length) = true := decide_eq_true c1
    go_wp2
    go_ret
    exact ⟨rfl, HB.out⟩
   ·rw [if_neg c1] at hE
    have c1b : decide ((16 : Int) < (xs.length : Int)) = false := decide_eq_false (by omega)
    have c1d : decide (16 < xs.length) = false := decide_eq_false c1
    have HL := as0 (fun W (hb : Below wr.heap.size wr W) => (show SetS W w.heap.size xs from by
     obtain ⟨D, ho, r⟩ := HO.out
     exact ⟨D, ho.kept (row := none) ⟨hb.os, hb.tape, hb.output, hb.size, fun k hk _ => hb.block k hk⟩ (by simp), r⟩))
    cases c2 : xs.all nameB with
    | false =>
     rw [c2, if_pos rfl] at hE
     subst hE
     rw [c2] at HCF
     go_wp2_with (go_at_call 72; refine (HCF.out _ HB.out).mono ?_; rintro e w2 ⟨rfl, hb2⟩)
     go_ret
     exact ⟨rfl, z10 HB.out hb2⟩
    | true =>
     rw [c2, if_neg (by decide)] at hE
     rw [c2] at HCF
     by_cases c3 : xs.Nodup
     ·rw [if_pos (zk2.2 c3)] at hE
      subst hE
      go_wp2_with (go_at_call 72; refine (HCF.out _ HB.out).mono ?_; rintro e w2 ⟨rfl, hb2⟩; obtain ⟨m, hm, _, hm2⟩ := (HL.out _ hb2).len 3; have hm3 : m = xs.length := hm2.2 c3; have hm4 : decide ((m : Int) < (xs.length : Int)) = false := decide_eq_false (by omega); have hm5 : decide (m < xs.length) = false := decide_eq_false (by omega); have HB2 := as0 hb2; clear hm2 hm3 hb2)
      go_ret
      exact ⟨rfl, z10 HB.out HB2.out⟩
     ·rw [if_neg (fun h => c3 (zk2.1 h))] at hE
      subst hE
      go_wp2_with (go_at_call 72; refine (HCF.out _ HB.out).mono ?_; rintro e w2 ⟨rfl, hb2⟩; obtain ⟨m, hm, hm1, hm2⟩ := (HL.out _ hb2).len 3; have hm3 : m ≠ xs.length := fun e => c3 (hm2.1 e); have hm4 : decide ((m : Int) < (xs.length : Int)) = true := decide_eq_true (by omega); have hm5 : decide (m < xs.length) = true := decide_eq_true (by omega); have HB2 := as0 hb2; clear hm1 hm2 hm3 hb2)
      go_ret
      exact ⟨rfl, z10 HB.out HB2.out⟩
end
end Go.Proofs.YtmlmiocomlehgaaGreat.Man
end
section
namespace Go.Proofs.YtmlmiocomlehgaaGreat.Man
open Go.RowKit Go.Proofs.YtmlmiocomlehgaaGreatW.PrintWords Go.Proofs.YtmlmiocomlehgaaGreatW.PrintLast Go.Proofs.YtmlmiocomlehgaaGreatW.PrintMore Go.Proofs.YtmlmiocomlehgaaGreat.PA Go.Proofs.YtmlmiocomlehgaaGreat.PF Go.Proofs.YtmlmiocomlehgaaGreat.Hid Go.Proofs.YtmlmiocomlehgaaGreat.Na
section
variable {w0 w : World} {g gd : Nat} {v : Value} {ps : List Nat} {s : FS}
def leftL (l : List ByteArray) (dl : Int) : List HV → FS → FS × List ByteArray
 | [], s => (s, [])
 | x :: r, s => if (x.lv || memB x.nm l) = true then leftL l dl r s else ((leftL l dl r (leaveF s x dl)).1, x.nm :: (leftL l dl r (leaveF s x dl)).2)
def cameL : List ByteArray → FS → FS × List ByteArray
 | [], s => (s, [])
 | nm :: r, s => match lookH s.hs nm with
  | none => ((cameL r { s with hs := s.hs ++ [⟨nm, 0, false⟩] }).1, nm :: (cameL r { s with hs := s.hs ++ [⟨nm, 0, false⟩] }).2)
  | some x => if x.lv = true then ((cameL r { s with hs := setH s.hs nm ⟨x.nm, nextS x.st 6, false⟩, ds := endF s.ds nm }).1, nm :: (cameL r { s with hs := setH s.hs nm ⟨x.nm, nextS x.st 6, false⟩, ds := endF s.ds nm }).2) else cameL r s
def resolveF (s : FS) (l : List ByteArray) (dl : Int) : (List ByteArray × List ByteArray × Int) × FS :=
 if checkE l = 0 then (((cameL l (leftL l dl s.hs s).1).2, (leftL l dl s.hs s).2, 0), (cameL l (leftL l dl s.hs s).1).1) else (([], [], checkE l), s)
theorem zo9 (d : DS) (nm : ByteArray) (dl : Int) : (beginF d nm dl).2.row.length ≤ d.row.length + 1 := by
 unfold beginF
 have := ze1 d.row nm
 (repeat' split) <;> simp <;> omega
theorem zf5 (s : FS) (x : HV) (dl : Int) : (leaveF s x dl).ds.row.length ≤ s.ds.row.length + 1 ∧ (leaveF s x dl).hs.length ≤ s.hs.length := by
 have h1 := z1a s.ds x.nm
 have h2 := zo9 (leaveD s.ds x.nm) x.nm dl
 unfold leaveF
 split
 ·exact ⟨Nat.le_trans h1 (Nat.le_succ _), by simp [delH, List.length_eraseIdx]; split <;> omega⟩
 ·split
  ·exact ⟨by show (beginF _ _ _).2.row.length ≤ _; omega, by simp [setH]⟩
  ·exact ⟨Nat.le_trans h1 (Nat.le_succ _), by simp [setH]⟩
theorem zt6 (l : List ByteArray) : checkE l = 13 ∨ checkE l = 11 ∨ checkE l = 6 ∨ checkE l = 0 := by
 unfold checkE
 (repeat' split) <;> simp
theorem zl7 (x : ByteArray) : ∀ (l : List ByteArray) (j : Int), 0 ≤ j → (0 ≤ idxOf l x j ↔ x ∈ l)
 | [], j, hj => by simp [idxOf]
 | y :: l, j, hj => by
  rw [idxOf]
  by_cases c : x = y
  ·subst c
   rw [if_pos rfl]
   simp [hj]
  ·rw [if_neg (fun h => c (z72.1 h)), zl7 x l (j + 1) (by omega)]
   simp [c]
theorem z46 (x : ByteArray) (l : List ByteArray) (hm : l.length ≤ 9223372036854775807) : slices_Contains_string_string.f (l.length + 1) l x = some (memB x l) := by
 unfold slices_Contains_string_string.f
 rw [zj8 x l hm]
 simp only [Option.bind_some]
 congr 1
 by_cases c : x ∈ l
 ·rw [zo3.2 c, decide_eq_true ((zl7 x l 0 (by omega)).2 c)]
 ·rw [z66.2 c, decide_eq_false (fun h => c ((zl7 x l 0 (by omega)).1 h))]
theorem z57 (x : ByteArray) (l : List ByteArray) (A : Option Addr) (c : Nat) (w : World) (hC : Kd.C Kd.string w A l.length l) (hc : l.length ≤ c) :
  Calls Tryz.prog 44 #[.slice A l.length c, .string x] w fun e w' => e = .returned (.bool (memB x l)) ∧ Below w.heap.size w w' := by
 refine (slices_Contains_string_string.calls (l.length + 1) A c l x _ w hC hc (z46 x l hC.2.1)).mono ?_
 rintro e w' ⟨rfl, h⟩
 exact ⟨rfl, Drawn0.below h⟩
theorem zz8 {α β : Type} {ps : List α} {hs : List β} {i j : Nat} {p : α} {x : β} (hij : j ≠ i) (hp : ps[j]? = some p) (hx : hs[j]? = some x) : ∃ k : Nat, (ps.eraseIdx i)[k]? = some p ∧ (hs.eraseIdx i)[k]? = some x := by
 by_cases c : j < i
 ·exact ⟨j, by rw [List.getElem?_eraseIdx, if_pos c]; exact hp, by rw [List.getElem?_eraseIdx, if_pos c]; exact hx⟩
 ·refine ⟨j - 1, ?_, ?_⟩
  ·rw [List.getElem?_eraseIdx, if_neg (by omega), show j - 1 + 1 = j by omega]
   exact hp
  ·rw [List.getElem?_eraseIdx, if_neg (by omega), show j - 1 + 1 = j by omega]
   exact hx
theorem zca {s : FS} {x y : HV} {dl : Int} {i j p q : Nat} (hn : ps.Nodup) (hpos : posH s.hs x.nm = (i : Int)) (hp : ps[i]? = some p) (hq : ps[j]? = some q) (hy : s.hs[j]? = some y) (hne : q ≠ p) :
  ∃ k : Nat, (leaveP x i ps)[k]? = some q ∧ (leaveF s x dl).hs[k]? = some y := by
 have hij : j ≠ i := by
  rintro rfl
  rw [hp] at hq
  injection hq with hq
  exact hne hq.symm
 unfold leaveP leaveF
 by_cases c : x.st = 3
 ·rw [if_pos c, if_pos c]
  show ∃ k : Nat, _ ∧ (delH s.hs x.nm)[k]? = some y
  rw [zb3 hpos]
  exact zz8 hij hq hy
 ·rw [if_neg c, if_neg c]
  refine ⟨j, hq, ?_⟩
  split
  ·show (setH s.hs x.nm _)[j]? = some y
   rw [z91 hpos, List.getElem?_set_ne (Ne.symm hij)]
   exact hy
  ·show (setH s.hs x.nm _)[j]? = some y
   rw [z91 hpos, List.getElem?_set_ne (Ne.symm hij)]
   exact hy
theorem IsX.push {w5 : World} {nm : ByteArray} {v' : Value} {p : Nat} (h : IsX w0 w g gd v ps s) (hB : Below w0.heap.size w0 w) (hnm : ∀ x ∈ s.hs, x.nm ≠ nm)
  (hp0 : w.heap.size ≤ p) (hsz : w.heap.size ≤ w5.heap.size) (hpc : w5.heap[p]? = some (hcell ⟨nm, 0, false⟩)) (hg : ∀ k, k < w.heap.size → some k ≠ v.ownBlock → w5.heap[k]? = w.heap[k]?) (hos : w5.os = w.os ∧ w5.tape = w.tape ∧ w5.output = w.output)
  (hR : kP.R 80 w5 w0.heap.size (fun _ => True) v' (ps ++ [p])) :
  IsX w0 (w5.setCell ⟨g, 3, none⟩ v') g gd v' (ps ++ [p]) { s with hs := s.hs ++ [⟨nm, 0, false⟩] } ∧ Below w0.heap.size w0 (w5.setCell ⟨g, 3, none⟩ v') ∧ KeptH TF w (w5.setCell ⟨g, 3, none⟩ v') := by
 have hty : ∀ {k : Nat} {cs : Array Value} {t : TypeId} {fr : Nat × Nat}, w.heap[k]? = some (.cells cs t fr) → t ≠ 80 → w5.heap[k]? = some (.cells cs t fr) := by
  intro k cs t fr hk ht
  refine (hg k (z70 hk) (fun e => ?_)).trans hk
  obtain ⟨cs', hk'⟩ := Kd.R_typed h.row k e.symm
  rw [hk] at hk'
  injection hk' with hk'
  injection hk' with _ hk' _
  exact ht hk'
 have hgb := hty h.blk (by decide)
 have hfar : ∀ k, k ≠ g → (w5.setCell ⟨g, 3, none⟩ v').heap[k]? = w5.heap[k]? := fun k hk => Below.heap_setCell w5 ⟨g, 3, none⟩ _ k hk
 have hng : ∀ {k : Nat} {cs : Array Value} {t : TypeId} {fr : Nat × Nat}, w5.heap[k]? = some (.cells cs t fr) → t ≠ 56 → k ≠ g := by
  rintro k cs t fr hk ht rfl
  rw [hgb] at hk
  injection hk with hk
  injection hk with _ hk _
  exact ht hk.symm
 refine ⟨⟨by simpa using zz0 hgb 3 _, h.ge, ?_, ?_, ?_, by simp [h.len], fun i q x hq hx => ?_, ?_⟩, ?_, ?_⟩
 ·refine h.dr.step (fun k hk => (hfar k (by rintro rfl; exact z01 h.blk (by decide) hk)).trans ?_)
  refine hg k hk.lt (fun e => ?_)
  obtain ⟨cs', hk'⟩ := Kd.R_typed h.row k e.symm
  exact z01 hk' (by decide) hk
 ·exact Kd.R_set hR hgb (by simp [kP, Kd.scalar]) 3 _
 ·rw [List.nodup_append]
  refine ⟨h.nd, by simp, fun a ha b hb => ?_⟩
  rw [List.mem_singleton.1 hb]
  rintro rfl
  obtain ⟨i, hi, e⟩ := List.mem_iff_getElem.1 ha
  have hlt : i < s.hs.length := by rw [← h.len]; exact hi
  have := z70 (h.hb i a s.hs[i] (by rw [← e]; exact List.getElem?_eq_getElem hi) (List.getElem?_eq_getElem hlt)).2
  omega
 ·by_cases c : i < ps.length
  ·rw [List.getElem?_append_left c] at hq
   rw [List.getElem?_append_left (by rw [← h.len]; exact c)] at hx
   obtain ⟨h1, h2⟩ := h.hb i q x hq hx
   have h3 := hty h2 (by decide)
   exact ⟨h1, (hfar q (hng h3 (by decide))).trans h3⟩
  ·rw [List.getElem?_append_right (by omega)] at hq
   rw [List.getElem?_append_right (by rw [← h.len]; omega)] at hx
   have e1 : i - ps.length = 0 := by
    have := (List.getElem?_eq_some_iff.1 hq).1
    simp at this
    omega
   rw [e1] at hq
   rw [show i - s.hs.length = 0 by rw [← h.len]; exact e1] at hx
   simp only [List.getElem?_cons_zero, Option.some.injEq] at hq hx
   subst hq
   subst hx
   exact ⟨Nat.le_trans hB.size hp0, (hfar p (hng hpc (by decide))).trans hpc⟩
 ·simp only [List.map_append, List.map_cons, List.map_nil]
  rw [List.nodup_append]
  refine ⟨h.names, by simp, fun a ha b hb => ?_⟩
  rw [List.mem_singleton.1 hb]
  obtain ⟨x, hx, rfl⟩ := List.mem_map.1 ha
  exact hnm x hx
 ·refine zc0 ⟨hos.1.trans hB.os, hos.2.1.trans hB.tape, hos.2.2.trans hB.output, Nat.le_trans hB.size hsz, fun k hk => (hg k (Nat.lt_of_lt_of_le hk hB.size) (fun e => by have := Kd.R_base h.row k e.symm; omega)).trans (hB.block k hk)⟩ h.ge
 ·have hk5 : KeptH TF w w5 := by
   refine KeptH.grown (W := w) (row := v.ownBlock) (KeptH.refl _ _) ⟨hos.1, hos.2.1, hos.2.2, hsz, fun k hk hn => hg k hk hn⟩ (fun k hk => .inl ?_)
   obtain ⟨cs', hk'⟩ := Kd.R_typed h.row k hk
   exact .cells hk' (by decide)
  exact hk5.setCell (p := ⟨g, 3, none⟩) (.cells hgb (by decide)) _
end
section
variable {w0 w : World} {g gd : Nat} {v : Value} {ps : List Nat} {s : FS}
theorem zd9 {T : List Nat} {w w1 : World} {base : Nat} {v : Value} {xs : List Nat} (h : Kd.R kP 80 w base (fun _ => True) v xs) (hk : KeptH T w w1) (ht : 80 ∉ T) : Kd.R kP 80 w1 base (fun _ => True) v xs :=
  z82 h hk (fun q hq => by
  have : q = 80 := by simpa [kP, Kd.scalar] using hq
  subst this
  exact ht)
theorem z65 {T : List Nat} {w w1 : World} {α : Type} {d : Kd α} {e base : Nat} {ok : Nat → Prop} {v : Value} {xs : List α} (h : d.R e w base ok v xs) (hk : KeptH T w w1) (ht : ∀ q, q ∈ e :: d.E → q ∉ T) : d.R e w1 base ok v xs :=
 Kd.R_mono (Ko.R_keep (Ko.R_apart h ht) hk (fun _ h => h.2)) (fun _ h => h.1)
theorem host_ne9 : ∀ q, q ∈ 80 :: kP.E → q ≠ 9 := by
 intro q hq
 have : q = 80 := by simpa [kP, Kd.scalar] using hq
 subst this
 decide
theorem zs6 : ∀ q, q ∈ 9 :: Kd.string.E → q ∉ TF := by
 intro q hq
 have : q = 9 := by simpa [Kd.string, Kd.scalar] using hq
 subst this
 decide
theorem zi5 {w4 w5 : World} {v5 : Value} {xs : List ByteArray} (hz : w0.heap.size ≤ w.heap.size) (hI : IsX w0 w4 g gd v ps s) (hB : Below w0.heap.size w0 w4) (hk : KeptH TF w w4) (hR : Kd.R Kd.string 9 w4 w.heap.size (fun _ => True) v5 xs) (hg : w4.grownBy w5 v5.ownBlock) :
  IsX w0 w5 g gd v ps s ∧ Below w0.heap.size w0 w5 ∧ KeptH TF w w5 :=
 ⟨hI.step (fun k h => hg.block k h.lt (Ko.R_ne (T := TF) hR (by decide) k h)), hB.grown hg hB.size (fun k h => Nat.le_trans hz (Kd.R_base hR k h)), hk.grown hg (fun k h => .inr (Kd.R_base hR k h))⟩
section
variable (l : List ByteArray) (A : Option Addr) (n : Nat) (dl : Int) (hn : l.length ≤ n) (hs : ∀ x ∈ l, x.size ≤ maxLen) (hC : ∀ W, KeptH TF w W → Below w0.heap.size w0 W → Kd.C Kd.string W A l.length l) (hI : IsX w0 w g gd v ps s) (hB : Below w0.heap.size w0 w)
include hn hs hC hI hB
theorem za9 (hE : checkE l = 13) :
  Calls Tryz.prog 11 #[ptr g, .slice A l.length n, .int .i64 dl] w fun e w' => e = .returned (.tuple #[.slice none 0 0, .slice none 0 0, .int .i64 13]) ∧ St w0 w w' g s := by
 have HCK := as0 (zs3 (w := w) l A n hs (hC w (KeptH.refl _ _) hB) hn)
 rw [hE] at HCK
 have HI := as0 hI
 have HB := as0 hB
 have hgl : g < w.heap.size := z70 hI.blk
 clear hE hC hs hI hB
 go_enter Tryz.func11, Tryz.ntmps11
 go_wp2
 go_step3
 go_wp2_with (go_at_call 42; refine HCK.out.mono ?_; rintro e w1 ⟨rfl, hb1⟩)
 dsimp only [Exit.noGoto]
 refine bodyPost_ret (results_tmp3 rfl _ _ _) rfl ?_
 exact ⟨rfl, St.of_below ⟨_, _, _, HI.out⟩ HB.out hb1⟩
theorem zba (hE : checkE l = 11) :
  Calls Tryz.prog 11 #[ptr g, .slice A l.length n, .int .i64 dl] w fun e w' => e = .returned (.tuple #[.slice none 0 0, .slice none 0 0, .int .i64 11]) ∧ St w0 w w' g s := by
 have HCK := as0 (zs3 (w := w) l A n hs (hC w (KeptH.refl _ _) hB) hn)
 rw [hE] at HCK
 have HI := as0 hI
 have HB := as0 hB
 have hgl : g < w.heap.size := z70 hI.blk
 clear hE hC hs hI hB
 go_enter Tryz.func11, Tryz.ntmps11
 go_wp2
 go_step3
 go_wp2_with (go_at_call 42; refine HCK.out.mono ?_; rintro e w1 ⟨rfl, hb1⟩)
 dsimp only [Exit.noGoto]
 refine bodyPost_ret (results_tmp3 rfl _ _ _) rfl ?_
 exact ⟨rfl, St.of_below ⟨_, _, _, HI.out⟩ HB.out hb1⟩
theorem zvb (hE : checkE l = 6) :
  Calls Tryz.prog 11 #[ptr g, .slice A l.length n, .int .i64 dl] w fun e w' => e = .returned (.tuple #[.slice none 0 0, .slice none 0 0, .int .i64 6]) ∧ St w0 w w' g s := by
 have HCK := as0 (zs3 (w := w) l A n hs (hC w (KeptH.refl _ _) hB) hn)
 rw [hE] at HCK
 have HI := as0 hI
 have HB := as0 hB
 have hgl : g < w.heap.size := z70 hI.blk
 clear hE hC hs hI hB
 go_enter Tryz.func11, Tryz.ntmps11
 go_wp2
 go_step3
 go_wp2_with (go_at_call 42; refine HCK.out.mono ?_; rintro e w1 ⟨rfl, hb1⟩)
 dsimp only [Exit.noGoto]
 refine bodyPost_ret (results_tmp3 rfl _ _ _) rfl ?_
 exact ⟨rfl, St.of_below ⟨_, _, _, HI.out⟩ HB.out hb1⟩
theorem z69 (hE : checkE l = 0) (hl : s.ds.row.length ≤ 400000000) (hh : s.hs.length ≤ 400000000) (hln : l.length ≤ 16) :
  Calls Tryz.prog 11 #[ptr g, .slice A l.length n, .int .i64 dl] w fun e w' => ∃ v1 v2 : Value, e = .returned (.tuple #[v1, v2, .int .i64 0]) ∧ Kd.R Kd.string 9 w' w.heap.size (fun _ => True) v1 (cameL l (leftL l dl s.hs s).1).2 ∧ Kd.R Kd.string 9 w' w.heap.size (fun _ => True) v2 (leftL l dl s.hs s).2 ∧ St w0 w w' g (cameL l (leftL l dl s.hs s).1).1 := by
 have HCK := as0 (zs3 (w := w) l A n hs (hC w (KeptH.refl _ _) hB) hn)
 rw [hE] at HCK
 have HI0 := as0 hI
 have HB0 := as0 hB
 have HC := as0 hC
 have hgl : g < w.heap.size := z70 hI.blk
 have hW0 : w0.heap.size ≤ w.heap.size := hB.size
 have HPL : Aside0 (ps.length = s.hs.length) := ⟨hI.len⟩
 have hplb : ps.length ≤ 400000000 := by have := hI.len; omega
 have HND := as0 hI.nd
 have hlm : l.length ≤ 9223372036854775807 := (hC w (KeptH.refl _ _) hB).2.1
 obtain ⟨RES, hres⟩ : ∃ R, R = leftL l dl s.hs s := ⟨_, rfl⟩
 rw [← hres]
 obtain ⟨RES2, hres2⟩ : ∃ R, R = cameL l RES.1 := ⟨_, rfl⟩
 rw [← hres2]
 have HRES2 := as0 hres2
 have HR0 : Aside0 (∃ r, leftL l dl (s.hs.drop 0) s = (RES.1, r) ∧ RES.2 = [] ++ r) := ⟨⟨RES.2, by rw [List.drop_zero, ← hres], rfl⟩⟩
 clear hE hC hs hI hB hres hres2
 go_enter Tryz.func11, Tryz.ntmps11
 go_wp2
 go_step3
 go_wp2_with (first | (go_at_call 42; refine HCK.out.mono ?_; rintro e w1 ⟨rfl, hb1⟩; have HI1 := as0 (HI0.out.below hb1); have HB1 := as0 (z10 HB0.out hb1); have HK1 := as0 (KeptH.of_below (T := TG) hb1); have HZ1 := as0 hb1.size; clear hb1; have HCL := as0 (zk5 v ps w1 w0.heap.size HI1.out.row (by omega)); have c31 : w1.cell? ⟨g, 3, none⟩ = some v := (z60 HI1.out.blk 3).trans rfl; have hgl1 : g < w1.heap.size := z70 HI1.out.blk))
 go_step3
 go_wp2_with (go_at_call 43; refine HCL.out.mono ?_; rintro e w2 ⟨v2, rfl, hR2, hb2⟩; obtain ⟨A2, n2, rfl⟩ := Kd.R_slice hR2; have HR2 := as0 (Kd.R_lower hR2 HZ1.out); have HI2 := as0 (HI1.out.below hb2); have HB2 := as0 (z10 HB1.out hb2); have HK2 := as0 (HK1.out.below hb2); have HZ2 := as0 (Nat.le_trans HZ1.out hb2.size); clear hb2 hR2)
 clear c31 hgl1
 have HSTAY0 : Aside0 (∀ (j q : Nat) (y : HV), 0 ≤ j → ps[j]? = some q → s.hs[j]? = some y → ∃ i : Nat, ps[i]? = some q ∧ s.hs[i]? = some y) := ⟨fun j q y _ h1 h2 => ⟨j, h1, h2⟩⟩
 go_loopw [11, 30] (fun v11 v30 wr => ∃ (k : Nat) (s1 : FS) (v1 : Value) (ps1 : List Nat) (acc : List ByteArray), k ≤ ps.length ∧ v30 = .int .i64 k ∧ Aside0 (∃ r, leftL l dl (s.hs.drop k) s1 = (RES.1, r) ∧ RES.2 = acc ++ r) ∧ acc.length ≤ k ∧ s1.hs.length ≤ s.hs.length ∧ s1.ds.row.length ≤ s.ds.row.length + k ∧ Aside0 (∀ (j q : Nat) (y : HV), k ≤ j → ps[j]? = some q → s.hs[j]? = some y → ∃ i : Nat, ps1[i]? = some q ∧ s1.hs[i]? = some y) ∧ Aside0 (IsX w0 wr g gd v1 ps1 s1) ∧ Aside0 (Below w0.heap.size w0 wr) ∧ Aside0 (KeptH TG w wr) ∧ Aside0 (w.heap.size ≤ wr.heap.size) ∧ Aside0 (Kd.R kP 80 wr w.heap.size (fun _ => True) (.slice A2 ps.length n2) ps) ∧ Aside0 (Kd.R Kd.string 9 wr w.heap.size (fun _ => True) v11 acc)) (fun _ v30 _ => ps.length - (intOf v30).toNat)
 case atStart => exact ⟨0, s, v, ps, [], Nat.zero_le _, rfl, HR0, Nat.le_refl _, Nat.le_refl _, Nat.le_refl _, HSTAY0, HI2, HB2, HK2, HZ2, HR2, ⟨Kd.R_nil _ _ _ _ _⟩⟩
 case round =>
  obtain ⟨k, s1, v1, ps1, acc, hk, rfl, HR, hacc, hh1, hl1, HST, HI0, HB0, HK0, HZ0, HCL0, HO0⟩ := hrel
  clear HSTAY0 HI2 HB2 HK2 HZ2 HR2 HI1 HB1 HK1 HZ1 HCL HCK HR0
  by_cases hlt : k < ps.length
  ·clear HRES2
   obtain ⟨p, hp⟩ : ∃ p, ps[k]? = some p := ⟨_, List.getElem?_eq_getElem hlt⟩
   obtain ⟨x, hx⟩ : ∃ x, s.hs[k]? = some x := ⟨_, List.getElem?_eq_getElem (by have := HPL.out; omega)⟩
   obtain ⟨i, hp1, hx1⟩ := HST.out k p x (Nat.le_refl _) hp hx
   obtain ⟨ad, had, hx0⟩ := rdP (Kd.R_reads' HCL0.out).2.2 k p hp
   subst had
   have h0k : (0 : Int) ≤ (k : Int) := by omega
   have hkl : (k : Int) < (ps.length : Int) := by omega
   obtain ⟨q0, q1, q2⟩ := HI0.out.hst hp1 hx1
   have hdrop : s.hs.drop k = x :: s.hs.drop (k + 1) := by
    have hlt2 : k < s.hs.length := by have := HPL.out; omega
    have e := (List.getElem?_eq_some_iff.1 hx).2
    rw [List.drop_eq_getElem_cons hlt2, e]
   have hR := HR.out
   rw [hdrop] at hR
   unfold leftL at hR
   have HP1 := as0 hp1
   have HX1 := as0 hx1
   have HP := as0 hp
   have HCT := as0 (fun W (h : KeptH TG w W) (hb : Below w0.heap.size w0 W) => z57 x.nm l A n W (HC.out W (KeptH.mono tg_tf h) hb) hn)
   clear hdrop hp hx HR
   have stayK : Aside0 (∀ (j q : Nat) (y : HV), k + 1 ≤ j → ps[j]? = some q → s.hs[j]? = some y → ∃ i : Nat, ps1[i]? = some q ∧ s1.hs[i]? = some y) := ⟨fun j q y hj => HST.out j q y (by omega)⟩
   cases hlv : x.lv with
   | true =>
    rw [hlv, Bool.true_or, if_pos rfl] at hR
    rw [hlv] at q2
    have HR := as0 hR
    clear hR hp1 hx1
    go_wp2
    go_roundw
    case measure => simp [intOf]; omega
    case rel => exact ⟨k + 1, s1, v1, ps1, acc, by omega, by rw [show ((k : Int) + 1) = ((k + 1 : Nat) : Int) by omega], HR, by omega, hh1, by omega, stayK, HI0, HB0, HK0, HZ0, HCL0, HO0⟩
   | false =>
    rw [hlv, Bool.false_or] at hR
    rw [hlv] at q2
    cases hmb : memB x.nm l with
    | true =>
     rw [hmb, if_pos rfl] at hR
     rw [hmb] at HCT
     have HR := as0 hR
     clear hR hp1 hx1
     go_wp2_with (go_at_call 44; refine (HCT.out _ HK0.out HB0.out).mono ?_; rintro e w3 ⟨rfl, hb3⟩; have HI3 := as0 (HI0.out.below hb3); have HB3 := as0 (z10 HB0.out hb3); have HK3 := as0 (HK0.out.below hb3); have HZ3 := as0 (Nat.le_trans HZ0.out hb3.size); have HC3 := as0 (Kd.R_below HCL0.out hb3); have HO3 := as0 (Kd.R_below HO0.out hb3); clear hb3)
     go_roundw
     case measure => simp [intOf]; omega
     case rel => exact ⟨k + 1, s1, v1, ps1, acc, by omega, by rw [show ((k : Int) + 1) = ((k + 1 : Nat) : Int) by omega], HR, by omega, hh1, by omega, stayK, HI3, HB3, HK3, HZ3, HC3, HO3⟩
    | false =>
     rw [hmb, if_neg (by decide)] at hR
     rw [hmb] at HCT
     have hpos := zp4 HI0.out.names hx1
     have hlen1 := zf5 s1 x dl
     have HR : Aside0 (∃ r, leftL l dl (s.hs.drop (k + 1)) (leaveF s1 x dl) = (RES.1, r) ∧ RES.2 = (acc ++ [x.nm]) ++ r) := ⟨by
      obtain ⟨r, h1, h2⟩ := hR
      obtain ⟨h4, h5⟩ := Prod.mk.inj h1
      refine ⟨(leftL l dl (s.hs.drop (k + 1)) (leaveF s1 x dl)).2, by rw [← h4], ?_⟩
      rw [h2, ← h5]
      simp⟩
     have stayL : Aside0 (∀ (j q : Nat) (y : HV), k + 1 ≤ j → ps[j]? = some q → s.hs[j]? = some y → ∃ i2 : Nat, (leaveP x i ps1)[i2]? = some q ∧ (leaveF s1 x dl).hs[i2]? = some y) := ⟨fun j q y hj h1 h2 => by
      obtain ⟨i2, h3, h4⟩ := stayK.out j q y hj h1 h2
      refine zca HI0.out.nd hpos hp1 h3 h4 ?_
      rintro rfl
      have := (List.getElem?_inj (List.getElem?_eq_some_iff.1 h1).1 HND.out).1 (h1.trans HP.out.symm)
      omega⟩
     have hl2 : s1.ds.row.length ≤ 1000000000 := by omega
     have hh2 : s1.hs.length ≤ 1000000000 := by omega
     have hacc2 : acc.length ≤ 400000000 := by omega
     have hl3 : (leaveF s1 x dl).ds.row.length ≤ s.ds.row.length + (k + 1) := by omega
     have hh3 : (leaveF s1 x dl).hs.length ≤ s.hs.length := by omega
     clear hR hp1 hx1 hpos hlen1 HST
     go_wp2_with (first
      | (go_at_call 44; refine (HCT.out _ HK0.out HB0.out).mono ?_; rintro e w3 ⟨rfl, hb3⟩; have HI3 := as0 (HI0.out.below hb3); have HB3 := as0 (z10 HB0.out hb3); have HK3 := as0 (HK0.out.below hb3); have HZ3 := as0 (Nat.le_trans HZ0.out hb3.size); have HC3 := as0 (Kd.R_below HCL0.out hb3); have HO3 := as0 (Kd.R_below HO0.out hb3); clear hb3)
      | (go_at_call 45; refine (z2d dl hl2 hh2 HI3.out HB3.out HP1.out HX1.out).mono ?_; rintro e w4 ⟨rfl, v4, hs4, hs4n⟩; have HI4 := as0 hs4.1; have HB4 := as0 hs4.2.1; have HK4 := as0 (HK3.out.trans hs4.2.2); have HZ4 := as0 (Nat.le_trans HZ3.out hs4.2.2.1.1); have HC4 := as0 (zd9 HC3.out hs4.2.2 (by decide)); have HO4 := as0 (z82 HO3.out hs4.2.2 zf6); have q04 := hs4n; clear hs4 hs4n)
      | ((with_reducible refine zm0 (b := .append) (xs := #[.tmp 50, .tmp 55]) rfl ?_); (try (refine z41 (by rfl) ?_; dsimp only)); at_builtin; refine Kd.R_append Kd.string (w0 := w4) w.heap.size rfl (.tmp 50) (.tmp 55) 27 9 (.string ⟨#[]⟩) 16 rfl Tryz.underlying27 z53 rfl (by decide) (by omega) _ acc x.nm [.string x.nm] (fun _ => True) (fun _ => False) rfl ?aX ?aP (fun _ h => h.elim) (fun _ _ => trivial) ?aO ?aB ?aS ?aL ?_; (case aX => (show Value.slice (some ⟨w4.heap.size, 0, none⟩) 1 1 = _; simp)); (case aP => exact rfl); (case aO => exact HO4.out); (case aB => exact Below.refl _ _ |>.mono HZ4.out); (case aS => exact HZ4.out); (case aL => have := hacc2; omega); intro v5 w5 ho hb hg hat; have HO5 := as0 ho; have HG5 := as0 hg; clear ho hb hg hat))
     have hfin := zl6 hW0 HI4.out HB4.out HK4.out HO4.out HG5.out
     have HF1 := as0 hfin.1
     have HF2 := as0 hfin.2.1
     have HF3 := as0 hfin.2.2
     have HF4 : Aside0 (w.heap.size ≤ w5.heap.size) := ⟨Nat.le_trans HZ4.out HG5.out.size⟩
     have HF5 := as0 (Kd.R_over HC4.out HO4.out host_ne9 HG5.out)
     clear hfin
     go_roundw
     case measure => simp [intOf]; omega
     case rel => exact ⟨k + 1, leaveF s1 x dl, v4, leaveP x i ps1, acc ++ [x.nm], by omega, by rw [show ((k : Int) + 1) = ((k + 1 : Nat) : Int) by omega], HR, by simp; omega, hh3, hl3, stayL, HF1, HF2, HF3, HF4, HF5, HO5⟩
  ·have hke : k = ps.length := by omega
   subst hke
   have hr : s1 = RES.1 ∧ RES.2 = acc := by
    obtain ⟨r, h1, h2⟩ := HR.out
    rw [HPL.out, List.drop_length] at h1
    obtain ⟨h3, h4⟩ := Prod.mk.inj h1
    rw [← h4] at h2
    exact ⟨h3, by simpa using h2⟩
   obtain ⟨hr1, hr2⟩ := hr
   have hl4 : s1.ds.row.length ≤ 800000000 := by omega
   have hh4 : s1.hs.length ≤ 400000000 := by omega
   have HR2 : Aside0 (∃ r, cameL (l.drop 0) s1 = (RES2.1, r) ∧ RES2.2 = [] ++ r) := ⟨⟨RES2.2, by rw [List.drop_zero, hr1, ← HRES2.out], rfl⟩⟩
   have HL := as0 hr2
   have HKF := as0 (KeptH.mono tg_tf HK0.out)
   obtain ⟨A11, n11, rfl⟩ := Kd.R_slice HO0.out
   have HO11 : Aside0 (Kd.R Kd.string 9 wr w.heap.size (fun k => True ∧ some k ≠ (Value.slice none 0 0).ownBlock) (.slice A11 acc.length n11) acc) := ⟨Kd.R_apart_nil HO0.out⟩
   clear hk hlt HR hr1 hr2 HRES2 HST HCL0 HND hh1 hl1 hacc HK0
   go_wp2
   go_step3
   go_wp2
   go_loopw [10, 60] (fun v10 v60 wq => ∃ (m : Nat) (s2 : FS) (v2 : Value) (ps2 : List Nat) (acc2 : List ByteArray), m ≤ l.length ∧ v60 = .int .i64 m ∧ Aside0 (∃ r, cameL (l.drop m) s2 = (RES2.1, r) ∧ RES2.2 = acc2 ++ r) ∧ acc2.length ≤ m ∧ s2.hs.length ≤ s1.hs.length + m ∧ s2.ds.row.length ≤ s1.ds.row.length ∧ Aside0 (IsX w0 wq g gd v2 ps2 s2) ∧ Aside0 (Below w0.heap.size w0 wq) ∧ Aside0 (KeptH TF w wq) ∧ Aside0 (w.heap.size ≤ wq.heap.size) ∧ Aside0 (Kd.R Kd.string 9 wq w.heap.size (fun k => True ∧ some k ≠ v10.ownBlock) (.slice A11 acc.length n11) acc) ∧ Aside0 (Kd.R Kd.string 9 wq w.heap.size (fun _ => True) v10 acc2)) (fun _ v60 _ => l.length - (intOf v60).toNat)
   case atStart => exact ⟨0, s1, v1, ps1, [], Nat.zero_le _, rfl, HR2, Nat.le_refl _, Nat.le_refl _, Nat.le_refl _, HI0, HB0, HKF, HZ0, HO11, ⟨Kd.R_nil _ _ _ _ _⟩⟩
   case round =>
    obtain ⟨m, s2, v2, ps2, acc2, hm, rfl, HR, hacc2, hh5, hl5, HI0, HB0, HK0, HZ0, HO0, HC0⟩ := hrel
    by_cases hlt : m < l.length
    ·obtain ⟨ad, had, hx0⟩ := Kd.at_string (HC.out _ HK0.out HB0.out) (m : Int) (by omega) (by omega)
     obtain ⟨nm, hnm⟩ : ∃ nm, nm = rdOf ByteArray.empty l (m : Int) := ⟨_, rfl⟩
     rw [← hnm, Int.toNat_natCast] at hx0
     have hxg : l[m] = nm := by rw [hnm]; simp [rdOf, List.getD, hlt]
     have hdrop : l.drop m = nm :: l.drop (m + 1) := by rw [List.drop_eq_getElem_cons hlt, hxg]
     have hR := HR.out
     rw [hdrop] at hR
     unfold cameL at hR
     subst had
     have h0k : (0 : Int) ≤ (m : Int) := by omega
     have hkl : (m : Int) < (l.length : Int) := by omega
     have hccl : acc2.length ≤ 16 := by omega
     have HF := as0 (zo2 nm HI0.out)
     clear hnm hxg hdrop HR
     rcases zd3 HI0.out nm with ⟨h1, h2, h3⟩ | ⟨i, p, x, h1, h2, hp, hx, hxn⟩
     ·rw [zj2 h1] at hR
      rw [h2] at HF
      have HR : Aside0 (∃ r, cameL (l.drop (m + 1)) { s2 with hs := s2.hs ++ [⟨nm, 0, false⟩] } = (RES2.1, r) ∧ RES2.2 = (acc2 ++ [nm]) ++ r) := ⟨by
       obtain ⟨r, e1, e2⟩ := hR
       obtain ⟨e4, e5⟩ := Prod.mk.inj e1
       refine ⟨(cameL (l.drop (m + 1)) { s2 with hs := s2.hs ++ [⟨nm, 0, false⟩] }).2, by rw [← e4], ?_⟩
       rw [e2, ← e5]
       simp⟩
      have HN3 := as0 h3
      clear hR h1 h2 h3
      go_wp2_with (first
       | (go_at_call 46; refine HF.out.mono ?_; rintro e wf ⟨rfl, hbf⟩; have HIf := as0 (HI0.out.below hbf); have HBf := as0 (z10 HB0.out hbf); have HKf := as0 (HK0.out.below hbf); have HZf := as0 (Nat.le_trans HZ0.out hbf.size); have HOf := as0 (Kd.R_below HO0.out hbf); have HCf := as0 (Kd.R_below HC0.out hbf); clear hbf; have c3f : wf.cell? ⟨g, 3, none⟩ = some v2 := (z60 HIf.out.blk 3).trans rfl; have hglf : g < wf.heap.size := z70 HIf.out.blk; have hpl2 : ps2.length ≤ 900000000 := by (have := HIf.out.len; omega))
       | ((with_reducible refine zm0 (b := .append) (xs := #[.tmp 86, .tmp 90]) rfl ?_); (try (refine z41 (by rfl) ?_; dsimp only)); at_builtin; refine Kd.R_append kP (w0 := w0) w0.heap.size rfl (.tmp 86) (.tmp 90) 54 80 (.pointer none) 8 rfl Tryz.underlying54 infoHP rfl (by decide) (by omega) _ ps2 wf.heap.size [ptr wf.heap.size] (fun _ => True) (fun _ => False) rfl ?aX ?aP (fun _ h => h.elim) (fun _ _ => trivial) ?aO ?aB ?aS ?aL ?_; (case aX => (show Value.slice (some ⟨wf.heap.size + 1, 0, none⟩) 1 1 = _; simp)); (case aP => exact rfl); (case aO => exact Kd.R_alloc HIf.out.row _); (case aB => exact z80 HBf.out _); (case aS => have := HBf.out.size; simp; omega); (case aL => have := hpl2; omega); intro v5 w5 ho hb hg hat; obtain ⟨A5, n5, rfl⟩ := Kd.R_slice ho; rw [show (ps2 ++ [wf.heap.size]).length = ps2.length + 1 by simp] at ho; (
         have hpush := IsX.push (w5 := w5) (nm := nm) (v' := .slice A5 (ps2.length + 1) n5) (p := wf.heap.size) HIf.out HBf.out HN3.out (Nat.le_refl _) (by have := hg.size; simp at this; omega) ((hg.block wf.heap.size (by simp) (fun e => by have := Kd.R_lt HIf.out.row _ e.symm; omega)).trans (heap_alloc_new wf _)) (fun k hk hne => (hg.block k (by simp; omega) hne).trans (Below.heap_alloc _ _ _ hk)) ⟨hg.os, hg.tape, hg.output⟩ ho;
         have HGB5 : Aside0 (w5.heap[g]? = some (.cells #[ptr gd, .int .i64 s2.each, .int .i64 s2.guard, v2] 56 (0, 0))) := ⟨(hg.block g (by simp; omega) (Kd.R_ne HIf.out.row HIf.out.blk (by decide))).trans ((Below.heap_alloc _ _ _ hglf).trans HIf.out.blk)⟩; have c35 : w5.cell? ⟨g, 3, none⟩ = some v2 := (z60 HGB5.out 3).trans rfl; have hf5 : w5.frozen? ⟨g, 3, none⟩ = false := z40 HGB5.out 3; have hgl5 : g < w5.heap.size := z70 HGB5.out; have HPU := as0 hpush; clear hpush ho hb hg hat))
       | ((with_reducible refine zm0 (b := .append) (xs := #[.tmp 100, .tmp 102]) rfl ?_); (try (refine z41 (by rfl) ?_; dsimp only)); at_builtin; refine Kd.R_append Kd.string (w0 := w5.setCell ⟨g, 3, none⟩ (.slice A5 (ps2.length + 1) n5)) w.heap.size rfl (.tmp 100) (.tmp 102) 27 9 (.string ⟨#[]⟩) 16 rfl Tryz.underlying27 z53 rfl (by decide) (by omega) _ acc2 nm [.string nm] (fun _ => True) (fun _ => False) rfl ?aX ?aP (fun _ h => h.elim) (fun _ _ => trivial) ?aO ?aB ?aS ?aL ?_; (case aX => (show Value.slice (some ⟨w5.heap.size, 0, none⟩) 1 1 = _; simp)); (case aP => exact rfl); (case aO => exact z82 HCf.out HPU.out.2.2 zs6); (case aB => exact Below.refl _ _ |>.mono (Nat.le_trans HZf.out HPU.out.2.2.1.1)); (case aS => exact Nat.le_trans HZf.out HPU.out.2.2.1.1); (case aL => have := hccl; omega); intro v7 w7 ho hb hg hat; have HO7 := as0 ho; have HG7 := as0 hg; have HAT := as0 hat; clear ho hb hg hat))
      obtain ⟨hI6, hB6, hk6⟩ := HPU.out
      have hfin := zi5 hW0 hI6 hB6 (HKf.out.trans hk6) (z82 HCf.out hk6 zs6) HG7.out
      have HF1 := as0 hfin.1
      have HF2 := as0 hfin.2.1
      have HF3 := as0 hfin.2.2
      have HF4 : Aside0 (w.heap.size ≤ w7.heap.size) := ⟨Nat.le_trans (Nat.le_trans HZf.out hk6.1.1) HG7.out.size⟩
      have HF5 : Aside0 (Kd.R Kd.string 9 w7 w.heap.size (fun k => True ∧ some k ≠ v7.ownBlock) (.slice A11 acc.length n11) acc) := ⟨Kd.R_after (ok := fun _ => True) (z65 HOf.out hk6 zs6) HG7.out HAT.out⟩
      clear hfin hI6 hB6 hk6
      go_roundw
      case measure => simp [intOf]; omega
      case rel => exact ⟨m + 1, _, _, _, acc2 ++ [nm], by omega, by rw [show ((m : Int) + 1) = ((m + 1 : Nat) : Int) by omega], HR, by simp; omega, by simp; omega, hl5, HF1, HF2, HF3, HF4, HF5, HO7⟩
     ·subst hxn
      rw [zo1 h1 hx] at hR
      rw [h2] at HF
      have HP := as0 hp
      have HX := as0 hx
      cases hlv : x.lv with
      | false =>
       have HLV := as0 hlv
       simp only [hlv, Bool.false_eq_true, if_false] at hR
       have HR := as0 hR
       clear hR h1 h2 hp hx
       go_wp2_with ((go_at_call 46; refine HF.out.mono ?_; rintro e wf ⟨rfl, hbf⟩; have HIf := as0 (HI0.out.below hbf); have HBf := as0 (z10 HB0.out hbf); have HKf := as0 (HK0.out.below hbf); have HZf := as0 (Nat.le_trans HZ0.out hbf.size); have HOf := as0 (Kd.R_below HO0.out hbf); have HCf := as0 (Kd.R_below HC0.out hbf); clear hbf; obtain ⟨qaf, qbf, qcf⟩ := HIf.out.hst HP.out HX.out; rw [HLV.out] at qcf; have qff : wf.frozen? ⟨p, 2, none⟩ = false := z40 (HIf.out.hb i p _ HP.out HX.out).2 2; have hplf : p < wf.heap.size := z70 (HIf.out.hb i p _ HP.out HX.out).2; have c0f := HIf.out.cell0; have hglf : g < wf.heap.size := z70 HIf.out.blk))
       go_roundw
       case measure => simp [intOf]; omega
       case rel => exact ⟨m + 1, s2, v2, ps2, acc2, by omega, by rw [show ((m : Int) + 1) = ((m + 1 : Nat) : Int) by omega], HR, by omega, by omega, hl5, HIf, HBf, HKf, HZf, HOf, HCf⟩
      | true =>
       have HLV := as0 hlv
       simp only [hlv, if_true] at hR
       rw [z91 h1] at hR
       have HR : Aside0 (∃ r, cameL (l.drop (m + 1)) { s2 with hs := s2.hs.set i ⟨x.nm, nextS x.st 6, false⟩, ds := endF s2.ds x.nm } = (RES2.1, r) ∧ RES2.2 = (acc2 ++ [x.nm]) ++ r) := ⟨by
        obtain ⟨r, e1, e2⟩ := hR
        obtain ⟨e4, e5⟩ := Prod.mk.inj e1
        refine ⟨(cameL (l.drop (m + 1)) { s2 with hs := s2.hs.set i ⟨x.nm, nextS x.st 6, false⟩, ds := endF s2.ds x.nm }).2, by rw [← e4], ?_⟩
        rw [e2, ← e5]
        simp⟩
       have hilt : i < s2.hs.length := (List.getElem?_eq_some_iff.1 hx).1
       have hl6 : s2.ds.row.length ≤ 1000000000 := by omega
       have hl7 : (endF s2.ds x.nm).row.length ≤ s1.ds.row.length := Nat.le_trans (ze1 s2.ds.row x.nm) hl5
       have HX5 := as0 (List.getElem?_set_self (a := (⟨x.nm, x.st, false⟩ : HV)) hilt)
       clear hR h1 h2 hp hx
       go_wp2_with (first
        | (go_at_call 46; refine HF.out.mono ?_; rintro e wf ⟨rfl, hbf⟩; have HIf := as0 (HI0.out.below hbf); have HBf := as0 (z10 HB0.out hbf); have HKf := as0 (HK0.out.below hbf); have HZf := as0 (Nat.le_trans HZ0.out hbf.size); have HOf := as0 (Kd.R_below HO0.out hbf); have HCf := as0 (Kd.R_below HC0.out hbf); clear hbf; obtain ⟨qaf, qbf, qcf⟩ := HIf.out.hst HP.out HX.out; rw [HLV.out] at qcf; have qff : wf.frozen? ⟨p, 2, none⟩ = false := z40 (HIf.out.hb i p _ HP.out HX.out).2 2; have hplf : p < wf.heap.size := z70 (HIf.out.hb i p _ HP.out HX.out).2; have c0f := HIf.out.cell0; have hglf : g < wf.heap.size := z70 HIf.out.blk)
        | (go_at_call 47; have HT := IsX.turn (y := ⟨x.nm, x.st, false⟩) (j := 2) (u := .bool false) HIf.out HBf.out HP.out HX.out rfl (by simpa using zz0 (HIf.out.hb i p _ HP.out HX.out).2 2 _); refine (z71 6 HT.1 HT.2.1 HP.out HX5.out _).mono ?_; rintro e w6 ⟨rfl, hs6⟩; have HI6 := as0 hs6.1; have HB6 := as0 hs6.2.1; have HKS6 := as0 (HT.2.2.trans hs6.2.2); clear HT hs6; have c06 := HI6.out.cell0; have hgl6 : g < w6.heap.size := z70 HI6.out.blk)
        | (go_at_call 48; refine (endX (s := { s2 with hs := (s2.hs.set i ⟨x.nm, x.st, false⟩).set i ⟨x.nm, nextS x.st 6, false⟩ }) x.nm hl6 HI6.out HB6.out).mono ?_; rintro e w7 ⟨rfl, hs7⟩; have HI7 := as0 hs7.1; have HB7 := as0 hs7.2.1; have HKS7 := as0 (KeptH.mono tg_tf (HKS6.out.trans hs7.2.2)); have HZ7 := as0 (Nat.le_trans HZf.out HKS7.out.1.1); have HC7 := as0 (z82 HCf.out HKS7.out zs6); clear hs7)
        | ((with_reducible refine zm0 (b := .append) (xs := #[.tmp 100, .tmp 102]) rfl ?_); (try (refine z41 (by rfl) ?_; dsimp only)); at_builtin; refine Kd.R_append Kd.string (w0 := w7) w.heap.size rfl (.tmp 100) (.tmp 102) 27 9 (.string ⟨#[]⟩) 16 rfl Tryz.underlying27 z53 rfl (by decide) (by omega) _ acc2 x.nm [.string x.nm] (fun _ => True) (fun _ => False) rfl ?aX ?aP (fun _ h => h.elim) (fun _ _ => trivial) ?aO ?aB ?aS ?aL ?_; (case aX => (show Value.slice (some ⟨w7.heap.size, 0, none⟩) 1 1 = _; simp)); (case aP => exact rfl); (case aO => exact HC7.out); (case aB => exact Below.refl _ _ |>.mono HZ7.out); (case aS => exact HZ7.out); (case aL => have := hccl; omega); intro v9 w9 ho hb hg hat; have HO9 := as0 ho; have HG9 := as0 hg; have HAT := as0 hat; clear ho hb hg hat))
       have hI7 := HI7.out
       simp only [List.set_set] at hI7
       have hfin := zi5 hW0 hI7 HB7.out (HKf.out.trans HKS7.out) HC7.out HG9.out
       have HF1 := as0 hfin.1
       have HF2 := as0 hfin.2.1
       have HF3 := as0 hfin.2.2
       have HF4 : Aside0 (w.heap.size ≤ w9.heap.size) := ⟨Nat.le_trans HZ7.out HG9.out.size⟩
       have HF5 : Aside0 (Kd.R Kd.string 9 w9 w.heap.size (fun k => True ∧ some k ≠ v9.ownBlock) (.slice A11 acc.length n11) acc) := ⟨Kd.R_after (ok := fun _ => True) (z65 HOf.out HKS7.out zs6) HG9.out HAT.out⟩
       clear hfin hI7
       go_roundw
       case measure => simp [intOf]; omega
       case rel => exact ⟨m + 1, _, _, _, acc2 ++ [x.nm], by omega, by rw [show ((m : Int) + 1) = ((m + 1 : Nat) : Int) by omega], HR, by simp; omega, by simp; omega, hl7, HF1, HF2, HF3, HF4, HF5, HO9⟩
    ·have hke : m = l.length := by omega
     subst hke
     have hr : s2 = RES2.1 ∧ RES2.2 = acc2 := by
      obtain ⟨r, h1, h2⟩ := HR.out
      rw [List.drop_length] at h1
      obtain ⟨h3, h4⟩ := Prod.mk.inj h1
      rw [← h4] at h2
      exact ⟨h3, by simpa using h2⟩
     obtain ⟨hr1, hr2⟩ := hr
     have HR1 := as0 hr1
     have HR2b := as0 hr2
     obtain ⟨A10, n10, rfl⟩ := Kd.R_slice HC0.out
     clear hr1 hr2 HR
     go_wp2
     dsimp only [Exit.noGoto]
     refine bodyPost_ret (results_tmp3 rfl _ _ _) rfl ?_
     refine ⟨_, _, rfl, ?_, ?_, ?_⟩
     ·rw [HR2b.out]
      exact HC0.out
     ·rw [HL.out]
      exact Kd.R_mono HO0.out (fun _ _ => trivial)
     ·rw [← HR1.out]
      exact ⟨⟨_, _, _, HI0.out⟩, HB0.out, HK0.out⟩
end
end
section
variable {w0 w : World} {g : Nat} {s : FS}
theorem zu8 (each guard : Int) (w0 w : World) (hB : Below w0.heap.size w0 w) :
  Calls Tryz.prog 5 #[.int .i64 each, .int .i64 guard] w fun e w' => ∃ g : Nat, e = .returned (ptr g) ∧ IsF w0 w' g ⟨each, guard, [], ⟨[]⟩⟩ ∧ Below w0.heap.size w0 w' ∧ Below w.heap.size w w' := by
 have HN := as0 (drains_DNew.calls ⟨[]⟩ w0 w hB rfl)
 clear hB
 go_enter Tryz.func5, Tryz.ntmps5
 go_wp2_with (go_at_call 16; refine HN.out.mono ?_; rintro e w1 ⟨gd, rfl, hd, hb1, hb2⟩; have HD := as0 hd; have HB1 := as0 hb1; have HB2 := as0 hb2; clear hd hb1 hb2)
 go_ret
 refine ⟨_, rfl, ⟨gd, .slice none 0 0, [], ⟨heap_alloc_new w1 _, HB1.out.size, HD.out.below (z80 (Below.refl _ _) _), Kd.R_nil _ _ _ _ _, List.nodup_nil, rfl, fun i p h hp hx => by simp at hp, List.nodup_nil⟩⟩, z80 HB1.out _, z80 HB2.out _⟩
end
section
variable {w0 w : World} {g : Nat} {s : FS}
theorem askD_ok {d : DS} {b : Nat} (h : DOk d b) (hb : b ≤ 1000000000) (nm : ByteArray) : DOk (askF d nm).2 (b + 1) := by
 obtain ⟨r, s', hf, hi⟩ := inv_ask h.inv hb nm
 have hn := NoEmpty.ask h.ne hf
 have hl : d.row.length ≤ 1000000000 := Nat.le_trans h.inv.2.1 hb
 have he : drains_Drains_Ask.f d nm = some ((askF d nm).1, (askF d nm).2) := by
  unfold drains_Drains_Ask.f askF
  rw [if_pos hl]
  (repeat' split) <;> rfl
 rw [he] at hf
 injection hf with hf
 injection hf with _ hf
 subst hf
 exact ⟨hi, hn⟩
theorem zi8 {d : DS} {b : Nat} (h : DOk d b) (hb : b ≤ 1000000000) (nm : ByteArray) (dl : Int) : DOk (beginF d nm dl).2 (b + 1) := by
 obtain ⟨r, s', hf, hi⟩ := zxb h.inv hb nm dl
 have hn := NoEmpty.begin_ h.ne hf
 have hl : d.row.length ≤ 1000000000 := Nat.le_trans h.inv.2.1 hb
 have he : drains_Drains_Begin.f d nm dl = some ((beginF d nm dl).1, (beginF d nm dl).2) := by
  unfold drains_Drains_Begin.f beginF
  rw [if_pos hl]
  (repeat' split) <;> rfl
 rw [he] at hf
 injection hf with hf
 injection hf with _ hf
 subst hf
 exact ⟨hi, hn⟩
theorem zp2 (hs : List HV) (nm : ByteArray) (y : HV) : (setH hs nm y).length = hs.length := by simp [setH]
theorem delH_len (hs : List HV) (nm : ByteArray) : (delH hs nm).length ≤ hs.length := by
 unfold delH
 rw [List.length_eraseIdx]
 split <;> omega
structure FInv (s : FS) (n : Nat) : Prop where
 hh : s.hs.length ≤ 16 * n
 ok : DOk s.ds (2000 * n)
theorem FInv.new (each guard : Int) : FInv ⟨each, guard, [], ⟨[]⟩⟩ 0 := ⟨Nat.le_refl _, ⟨⟨List.nodup_nil, Nat.le_refl _, Nat.zero_le _⟩, fun x hx => by cases hx⟩⟩
theorem FInv.of {s' : FS} {n : Nat} (h : FInv s n) (h1 : s'.hs.length ≤ s.hs.length) (h2 : DOk s'.ds (2000 * n + 2)) : FInv s' (n + 1) := ⟨by have := h.hh; omega, h2.mono (by omega)⟩
theorem FInv.next {n : Nat} (h : FInv s n) : FInv s (n + 1) := h.of (Nat.le_refl _) (h.ok.mono (by omega))
theorem FInv.hb {n : Nat} (h : FInv s n) (hn : n ≤ 100) : s.hs.length ≤ 1000000000 := by have := h.hh; omega
theorem FInv.db {n : Nat} (h : FInv s n) (hn : n ≤ 100) : s.ds.row.length ≤ 1000000000 := by have := h.ok.inv.2.1; omega
theorem FInv.drain {n : Nat} (h : FInv s n) (hn : n ≤ 100) (nm : ByteArray) : FInv (drainF s nm).2 (n + 1) := by
 have h1 := (askD_ok h.ok (by omega) nm).mono (c := 2000 * n + 2) (by omega)
 unfold drainF
 (repeat' split) <;> first | exact h.next | exact h.of (Nat.le_refl _) h1
theorem FInv.undrain {n : Nat} (h : FInv s n) (nm : ByteArray) : FInv (undrainF s nm).2 (n + 1) := by
 have h1 := (zs2 h.ok nm).1.mono (c := 2000 * n + 2) (by omega)
 unfold undrainF
 (repeat' split) <;> first | exact h.next | exact h.of (Nat.le_refl _) h1 | exact h.of (Nat.le_of_eq (zp2 _ _ _)) h1
theorem FInv.force {n : Nat} (h : FInv s n) (hn : n ≤ 100) (nm : ByteArray) (now : Int) : FInv (forceF s nm now).2 (n + 1) := by
 have h1 := (zi8 (zs2 h.ok nm).1 (by omega) nm now).mono (c := 2000 * n + 2) (by omega)
 unfold forceF
 (repeat' split) <;> first | exact h.next | exact h.of (Nat.le_of_eq (zp2 _ _ _)) h1
theorem FInv.eject {n : Nat} (h : FInv s n) (nm : ByteArray) : FInv (ejectF s nm).2 (n + 1) := by
 have h1 := h.ok.mono (c := 2000 * n + 2) (by omega)
 unfold ejectF
 (repeat' split) <;> first | exact h.next | exact h.of (Nat.le_of_eq (zp2 _ _ _)) h1
theorem FInv.probe {n : Nat} (h : FInv s n) (nm : ByteArray) : FInv (probeF s nm).2 (n + 1) := by
 have h1 := h.ok.mono (c := 2000 * n + 2) (by omega)
 unfold probeF
 (repeat' split) <;> first | exact h.next | exact h.of (Nat.le_of_eq (zp2 _ _ _)) h1
theorem FInv.empty {n : Nat} (h : FInv s n) (nm : ByteArray) : FInv (emptyF s nm).2 (n + 1) := by
 have h0 := h.ok.mono (c := 2000 * n + 2) (by omega)
 have h1 := (zs2 h.ok nm).1.mono (c := 2000 * n + 2) (by omega)
 unfold emptyF
 split
 ·split
  ·refine h.of ?_ h1
   dsimp only
   split
   ·exact delH_len _ _
   ·exact Nat.le_of_eq (zp2 _ _ _)
  ·exact h.of (Nat.le_of_eq (zp2 _ _ _)) h0
 ·exact h.next
theorem zt8 {b : Nat} (h : DOk s.ds b) (hb : b ≤ 1000000000) (x : HV) (dl : Int) : DOk (leaveF s x dl).ds (b + 1) ∧ (leaveF s x dl).hs.length ≤ s.hs.length := by
 refine ⟨?_, (zf5 s x dl).2⟩
 have h1 : DOk (leaveD s.ds x.nm) b := by
  unfold leaveD
  split
  ·exact (zs2 h x.nm).1
  ·exact h
 have h2 := zi8 h1 hb x.nm dl
 unfold leaveF
 (repeat' split) <;> first | exact h1.mono (by omega) | exact h2
theorem zm7 (l : List ByteArray) (dl : Int) : ∀ (hs : List HV) (s : FS) (b : Nat), DOk s.ds b → b + hs.length ≤ 1000000000 → DOk (leftL l dl hs s).1.ds (b + hs.length) ∧ (leftL l dl hs s).1.hs.length ≤ s.hs.length
 | [], s, b, h, _ => ⟨h, Nat.le_refl _⟩
 | x :: hs, s, b, h, hb => by
  have hb' : b + (hs.length + 1) ≤ 1000000000 := hb
  unfold leftL
  split
  ·obtain ⟨h1, h2⟩ := zm7 l dl hs s b h (by omega)
   exact ⟨h1.mono (by simp), h2⟩
  ·obtain ⟨h3, h4⟩ := zt8 h (by omega) x dl
   obtain ⟨h1, h2⟩ := zm7 l dl hs (leaveF s x dl) (b + 1) h3 (by omega)
   exact ⟨h1.mono (by simp; omega), Nat.le_trans h2 h4⟩
theorem zm5 : ∀ (l : List ByteArray) (s : FS) (b : Nat), DOk s.ds b → DOk (cameL l s).1.ds b ∧ (cameL l s).1.hs.length ≤ s.hs.length + l.length
 | [], s, b, h => ⟨h, Nat.le_refl _⟩
 | nm :: l, s, b, h => by
  unfold cameL
  split
  ·obtain ⟨h1, h2⟩ := zm5 l { s with hs := s.hs ++ [⟨nm, 0, false⟩] } b h
   refine ⟨h1, ?_⟩
   simp at h2 ⊢
   omega
  ·rename_i x hx
   split
   ·obtain ⟨h1, h2⟩ := zm5 l { s with hs := setH s.hs nm ⟨x.nm, nextS x.st 6, false⟩, ds := endF s.ds nm } b (zs2 h nm).1
    refine ⟨h1, ?_⟩
    rw [zp2] at h2
    simp at h2 ⊢
    omega
   ·obtain ⟨h1, h2⟩ := zm5 l s b h
    exact ⟨h1, by simp; omega⟩
theorem zl4 {l : List ByteArray} (h : checkE l = 0) : l.length ≤ 16 := by
 unfold checkE at h
 by_cases c : 16 < l.length
 ·rw [if_pos c] at h
  cases h
 ·omega
theorem FInv.resolve {n : Nat} (h : FInv s n) (hn : n ≤ 100) (l : List ByteArray) (dl : Int) : FInv (resolveF s l dl).2 (n + 1) := by
 unfold resolveF
 have h0 := h.hh
 split
 ·rename_i hc
  obtain ⟨h1, h2⟩ := zm7 l dl s.hs s _ h.ok (by omega)
  obtain ⟨h3, h4⟩ := zm5 l (leftL l dl s.hs s).1 _ h1
  have := zl4 hc
  exact ⟨by show (cameL _ _).1.hs.length ≤ _; omega, h3.mono (by omega)⟩
 ·exact h.next
theorem zz6 (dl : Int) : ∀ (l : List ByteArray) (s : FS) (b : Nat), DOk s.ds b → namesOf s.ds.row false = l → DOk (admitL dl l s).1.ds b ∧ (admitL dl l s).1.hs.length = s.hs.length
 | [], s, b, h, _ => ⟨h, rfl⟩
 | nm :: l, s, b, h, hw => by
  unfold admitL
  split
  ·obtain ⟨h1, h2, h3⟩ := z86 h hw dl
   obtain ⟨h4, h5⟩ := zz6 dl l (admit1 s nm dl) b (h1.mono (Nat.le_trans h2 h.inv.2.1)) h3
   exact ⟨h4, h5.trans (zm8 s nm dl)⟩
  ·exact ⟨h, rfl⟩
theorem FInv.admit {n : Nat} (h : FInv s n) (dl : Int) : FInv (admitF s dl).2 (n + 1) := by
 obtain ⟨h1, h2⟩ := zz6 dl _ s _ h.ok rfl
 exact h.of (Nat.le_of_eq h2) (h1.mono (by omega))
section
variable {n : Nat} (hn : n ≤ 100) (hv : FInv s n) (hF : IsF w0 w g s) (hB : Below w0.heap.size w0 w)
include hn hv hF hB
theorem zr4 (nm : ByteArray) : Calls Tryz.prog 12 #[ptr g, .string nm] w fun e w' => e = .returned (.int .i64 (drainF s nm).1) ∧ St w0 w w' g (drainF s nm).2 := by
 obtain ⟨gd, v, ps, hI⟩ := hF
 exact zyb nm (hv.db hn) hI hB
theorem za8 (nm : ByteArray) : Calls Tryz.prog 18 #[ptr g, .string nm] w fun e w' => e = .returned (.int .i64 (undrainF s nm).1) ∧ St w0 w w' g (undrainF s nm).2 := by
 obtain ⟨gd, v, ps, hI⟩ := hF
 exact zi7 nm (hv.db hn) hI hB
theorem zwc (nm : ByteArray) (now : Int) : Calls Tryz.prog 19 #[ptr g, .string nm, .int .i64 now] w fun e w' => e = .returned (.int .i64 (forceF s nm now).1) ∧ St w0 w w' g (forceF s nm now).2 := by
 obtain ⟨gd, v, ps, hI⟩ := hF
 exact zta nm now (hv.db hn) hI hB
theorem z1c (nm : ByteArray) : Calls Tryz.prog 20 #[ptr g, .string nm] w fun e w' => e = .returned (.int .i64 (ejectF s nm).1) ∧ St w0 w w' g (ejectF s nm).2 := by
 obtain ⟨gd, v, ps, hI⟩ := hF
 exact z3b nm (hv.hb hn) hI hB
theorem z4d (nm : ByteArray) : Calls Tryz.prog 21 #[ptr g, .string nm] w fun e w' => e = .returned (.bool (probeF s nm).1) ∧ St w0 w w' g (probeF s nm).2 := by
 obtain ⟨gd, v, ps, hI⟩ := hF
 exact zpa nm hI hB
theorem zob (nm : ByteArray) : Calls Tryz.prog 22 #[ptr g, .string nm] w fun e w' => e = .returned (.bool (emptyF s nm).1) ∧ St w0 w w' g (emptyF s nm).2 := by
 obtain ⟨gd, v, ps, hI⟩ := hF
 exact z6c nm (hv.db hn) (hv.hb hn) hI hB
theorem zu6 (dl : Int) : Calls Tryz.prog 13 #[ptr g, .int .i64 dl] w fun e w' => ∃ v1_ : Value, e = .returned v1_ ∧ Kd.R Kd.string 9 w' w.heap.size (fun _ => True) v1_ (admitF s dl).1 ∧ St w0 w w' g (admitF s dl).2 := by
 obtain ⟨gd, v, ps, hI⟩ := hF
 exact zoa dl (2000 * n) (by omega) (hv.hb hn) hv.ok hI hB
theorem zb4 (l : List ByteArray) (A : Option Addr) (c : Nat) (dl : Int) (hc : l.length ≤ c) (hs : ∀ x ∈ l, x.size ≤ maxLen) (hC : ∀ W, KeptH TF w W → Below w0.heap.size w0 W → Kd.C Kd.string W A l.length l) :
  Calls Tryz.prog 11 #[ptr g, .slice A l.length c, .int .i64 dl] w fun e w' => ∃ v1 v2 : Value, e = .returned (.tuple #[v1, v2, .int .i64 (resolveF s l dl).1.2.2]) ∧ Kd.R Kd.string 9 w' w.heap.size (fun _ => True) v1 (resolveF s l dl).1.1 ∧ Kd.R Kd.string 9 w' w.heap.size (fun _ => True) v2 (resolveF s l dl).1.2.1 ∧ St w0 w w' g (resolveF s l dl).2 := by
 obtain ⟨gd, v, ps, hI⟩ := hF
 have h0 := hv.hh
 have h1 := hv.ok.inv.2.1
 unfold resolveF
 rcases zt6 l with h | h | h | h
 ·rw [h, if_neg (by decide)]
  refine (za9 l A c dl hc hs hC hI hB h).mono ?_
  rintro e w' ⟨rfl, h2⟩
  exact ⟨_, _, rfl, Kd.R_nil _ _ _ _ _, Kd.R_nil _ _ _ _ _, h2⟩
 ·rw [h, if_neg (by decide)]
  refine (zba l A c dl hc hs hC hI hB h).mono ?_
  rintro e w' ⟨rfl, h2⟩
  exact ⟨_, _, rfl, Kd.R_nil _ _ _ _ _, Kd.R_nil _ _ _ _ _, h2⟩
 ·rw [h, if_neg (by decide)]
  refine (zvb l A c dl hc hs hC hI hB h).mono ?_
  rintro e w' ⟨rfl, h2⟩
  exact ⟨_, _, rfl, Kd.R_nil _ _ _ _ _, Kd.R_nil _ _ _ _ _, h2⟩
 ·rw [h, if_pos rfl]
  refine (z69 l A c dl hc hs hC hI hB h (by omega) (by omega) (zl4 h)).mono ?_
  rintro e w' ⟨v1, v2, rfl, h2, h3, h4⟩
  exact ⟨v1, v2, rfl, h2, h3, h4⟩
theorem z38 (l : List ByteArray) (A : Option Addr) (c : Nat) (dl : Int) (hc : l.length ≤ c) (hs : ∀ x ∈ l, x.size ≤ maxLen) (hC : ∀ W, KeptH TF w W → Kd.C Kd.string W A l.length l) :
  Calls Tryz.prog 11 #[ptr g, .slice A l.length c, .int .i64 dl] w fun e w' => ∃ v1 v2 : Value, e = .returned (.tuple #[v1, v2, .int .i64 (resolveF s l dl).1.2.2]) ∧ Kd.R Kd.string 9 w' w.heap.size (fun _ => True) v1 (resolveF s l dl).1.1 ∧ Kd.R Kd.string 9 w' w.heap.size (fun _ => True) v2 (resolveF s l dl).1.2.1 ∧ St w0 w w' g (resolveF s l dl).2 :=
 zb4 hn hv hF hB l A c dl hc hs (fun W h _ => hC W h)
omit hB
theorem due_any (now : Int) : Calls Tryz.prog 36 #[ptr g, .int .i64 now] w fun e w' => ∃ v1_ : Value, e = .returned v1_ ∧ Kd.R Kd.string 9 w' w.heap.size (fun _ => True) v1_ (dueOf s.ds now) ∧ Below w.heap.size w w' := by
 obtain ⟨gd, v, ps, hI⟩ := hF
 exact fdue_raw now (hv.db hn) hI
theorem z47 (nm : ByteArray) : Calls Tryz.prog 14 #[ptr g, .string nm] w fun e w' => e = .returned (.int .i64 (idxOf (namesOf s.ds.row false) nm 0)) ∧ Below w.heap.size w w' := by
 obtain ⟨gd, v, ps, hI⟩ := hF
 exact z19 nm (hv.db hn) hI
theorem z9b : Calls Tryz.prog 32 #[ptr g] w fun e w' => ∃ v1_ : Value, e = .returned v1_ ∧ Kd.R Kd.string 9 w' w.heap.size (fun _ => True) v1_ (s.hs.map (·.nm)) ∧ Below w.heap.size w w' := by
 obtain ⟨gd, v, ps, hI⟩ := hF
 exact zf9 (hv.hb hn) hI
theorem zt9 : Calls Tryz.prog 34 #[ptr g] w fun e w' => ∃ v1_ : Value, e = .returned v1_ ∧ Kd.R (Kd.int .i64) 3 w' w.heap.size (fun _ => True) v1_ (s.hs.map (·.st)) ∧ Below w.heap.size w w' := by
 obtain ⟨gd, v, ps, hI⟩ := hF
 exact zz3 (hv.hb hn) hI
theorem z94 : Calls Tryz.prog 15 #[ptr g] w fun e w' => e = .returned (.int .i64 (capV s)) ∧ Below w.heap.size w w' := by
 obtain ⟨gd, v, ps, hI⟩ := hF
 exact z17 (hv.hb hn) hI
omit hn hv
theorem zec (nm : ByteArray) : Calls Tryz.prog 39 #[ptr g, .string nm] w fun e w' => e = .returned (.tuple #[.int .i64 (stateV s nm).1, .bool (stateV s nm).2]) ∧ Below w.heap.size w w' := by
 obtain ⟨gd, v, ps, hI⟩ := hF
 exact z0d nm hI
theorem ze9 (nm : ByteArray) : Calls Tryz.prog 40 #[ptr g, .string nm] w fun e w' => e = .returned (.bool (leavesV s nm)) ∧ Below w.heap.size w w' := by
 obtain ⟨gd, v, ps, hI⟩ := hF
 exact zga nm hI
end
end
section
variable {w0 w : World} {g : Nat} {s : FS}
theorem addr0 (a : Addr) : a.add 0 = a := by simp [Addr.add]
theorem two_C {W : World} {b : Nat} {x y : ByteArray} (h : W.heap[b]? = some (.cells #[.string x, .string y] 9 (0, 0))) : Kd.C Kd.string W (some ⟨b, 0, none⟩) 2 [x, y] := by
 refine ⟨rfl, by decide, fun _ => ⟨_, rfl, fun j p hp => ⟨[.string p], rfl, rfl, fun i u hu => ?_⟩⟩⟩
 have hi : i = 0 := by
  have := (List.getElem?_eq_some_iff.1 hu).1
  simp at this
  omega
 subst hi
 simp at hu
 subst hu
 show W.cell? ((⟨b, 0, none⟩ : Addr).add (j * 1 + 0)) = _
 rw [zp3]
 match j, hp with
 | 0, hp =>
  simp at hp
  subst hp
  exact (z60 h 0).trans rfl
 | 1, hp =>
  simp at hp
  subst hp
  exact (z60 h 1).trans rfl
 | j + 2, hp => simp at hp
def tA : ByteArray := ⟨#[97]⟩
def tB : ByteArray := ⟨#[98]⟩
def l0 : FS := ⟨2, 2, [], ⟨[]⟩⟩
def l1 : FS := ⟨2, 2, [⟨tA, 0, false⟩, ⟨tB, 0, false⟩], ⟨[]⟩⟩
def l2 : FS := ⟨2, 2, [⟨tA, 0, false⟩, ⟨tB, 0, false⟩], ⟨[⟨tA, 0, false⟩]⟩⟩
def l3 : FS := ⟨2, 2, [⟨tA, 0, false⟩, ⟨tB, 0, false⟩], ⟨[⟨tA, 0, false⟩, ⟨tB, 0, false⟩]⟩⟩
def l4 : FS := ⟨2, 2, [⟨tA, 1, false⟩, ⟨tB, 0, false⟩], ⟨[⟨tB, 0, false⟩, ⟨tA, 10, true⟩]⟩⟩
theorem e1 : resolveF l0 [tA, tB] 0 = (([tA, tB], [], 0), l1) := by kernel_rfl
theorem e2 : drainF l1 tA = (0, l2) := by kernel_rfl
theorem e3 : drainF l2 tB = (0, l3) := by kernel_rfl
theorem e4 : admitF l3 10 = ([tA], l4) := by kernel_rfl
theorem e5 : idxOf (namesOf l4.ds.row false) tB 0 = 0 := by kernel_rfl
theorem e6 : capV l4 = 2 := by kernel_rfl
theorem v0 : FInv l0 0 := FInv.new 2 2
theorem v1 : FInv l1 1 := by have := v0.resolve (by decide) [tA, tB] 0; rwa [e1] at this
theorem v2 : FInv l2 2 := by have := v1.drain (by decide) tA; rwa [e2] at this
theorem v3 : FInv l3 3 := by have := v2.drain (by decide) tB; rwa [e3] at this
theorem v4 : FInv l4 4 := by have := v3.admit 10; rwa [e4] at this
theorem zuc (w : World) : Calls Tryz.prog 4 #[] w fun e w' => e = .returned (.bool true) ∧ Below w.heap.size w w' := by
 have HN := as0 (zu8 2 2 w w (Below.refl _ _))
 have H1 := as0 (fun (g : Nat) (W : World) (hI : IsF w W g l0) (hB : Below w.heap.size w W) (b : Nat) (hb : W.heap[b]? = some (.cells #[.string tA, .string tB] 9 (0, 0))) =>
  z38 (n := 0) (by decide) v0 hI hB [tA, tB] (some ⟨b, 0, none⟩) 2 0 (Nat.le_refl _) (by intro x hx; simp at hx; rcases hx with rfl | rfl <;> decide) (fun W' hk => two_C (Ko.blkc hk hb (by decide))))
 have H2 := as0 (fun (g : Nat) (W : World) (hI : IsF w W g l1) (hB : Below w.heap.size w W) => zr4 (n := 1) (by decide) v1 hI hB tA)
 have H3 := as0 (fun (g : Nat) (W : World) (hI : IsF w W g l2) (hB : Below w.heap.size w W) => zr4 (n := 2) (by decide) v2 hI hB tB)
 have H4 := as0 (fun (g : Nat) (W : World) (hI : IsF w W g l3) (hB : Below w.heap.size w W) => zu6 (n := 3) (by decide) v3 hI hB 10)
 have H5 := as0 (fun (g : Nat) (W : World) (hI : IsF w W g l4) => z47 (n := 4) (by decide) v4 hI tB)
 have H6 := as0 (fun (g : Nat) (W : World) (hI : IsF w W g l4) => z94 (n := 4) (by decide) v4 hI)
 rw [e1] at H1
 rw [e2] at H2
 rw [e3] at H3
 rw [e4] at H4
 rw [e5] at H5
 rw [e6] at H6
 go_enter Tryz.func4, Tryz.ntmps4
 go_wp2_with (first
  | (go_at_call 5; refine HN.out.mono ?_; rintro e wa ⟨g, rfl, hi, hb, _⟩; have KA := as0 (hi.below (z80 (Below.refl _ _) (.cells #[.string tA, .string tB] 9))); have BA := as0 (z80 hb (.cells #[.string tA, .string tB] 9)); clear hi hb HN)
  | (go_at_call 11; refine (H1.out g _ KA.out BA.out wa.heap.size (heap_alloc_new wa _)).mono ?_; rintro e wb ⟨v1, v2, rfl, hr1, hr2, hi, hb, _⟩; obtain ⟨A1, n1, rfl⟩ := Kd.R_slice hr1; obtain ⟨A2, n2, rfl⟩ := Kd.R_slice hr2; have KB := as0 hi; have BB := as0 hb; clear hi hb H1 KA BA hr1 hr2)
  | (go_at_call 12; refine (H2.out g wb KB.out BB.out).mono ?_; rintro e wc ⟨rfl, hi, hb, _⟩; have KC := as0 hi; have BC := as0 hb; clear hi hb H2 KB BB)
  | (go_at_call 12; refine (H3.out g wc KC.out BC.out).mono ?_; rintro e wd ⟨rfl, hi, hb, _⟩; have KD := as0 hi; have BD := as0 hb; clear hi hb H3 KC BC)
  | (go_at_call 13; refine (H4.out g wd KD.out BD.out).mono ?_; rintro e we ⟨v4, rfl, hr4, hi, hb, _⟩; obtain ⟨A4, n4, rfl⟩ := Kd.R_slice hr4; obtain ⟨ad4, had4, hx4⟩ := Kd.at_string (Kd.R_reads' hr4).2.2 0 (by decide) (by decide); subst had4; rw [show rdOf ByteArray.empty [tA] 0 = tA from rfl, show (0 : Int).toNat = 0 from rfl] at hx4; have hx4b : we.cell? ad4 = some (.string ⟨#[97]⟩) := (congrArg we.cell? (addr0 ad4)).symm.trans hx4; clear hx4; have KE := as0 hi; have BE := as0 hb; clear hi hb H4 KD BD hr4)
  | (go_at_call 14; refine (H5.out g we KE.out).mono ?_; rintro e wf ⟨rfl, hb⟩; have KF := as0 (KE.out.below hb); have BF := as0 (z10 BE.out hb); clear hb H5 KE BE)
  | (go_at_call 15; refine (H6.out g wf KF.out).mono ?_; rintro e wg ⟨rfl, hb⟩; have BG := as0 (z10 BF.out hb); clear hb H6 KF BF))
 go_ret
 exact ⟨rfl, BG.out⟩
end
end Go.Proofs.YtmlmiocomlehgaaGreat.Man
end
section
namespace Go.Proofs.YtmlmiocomlehgaaGreat.Nil
open Go.RowKit Go.Proofs.YtmlmiocomlehgaaGreatW.PrintWords Go.Proofs.YtmlmiocomlehgaaGreatW.PrintLast Go.Proofs.YtmlmiocomlehgaaGreatW.PrintMore Go.Proofs.YtmlmiocomlehgaaGreat.PA Go.Proofs.YtmlmiocomlehgaaGreat.PF Go.Proofs.YtmlmiocomlehgaaGreat.Hid Go.Proofs.YtmlmiocomlehgaaGreat.Man
section
def kindOf (k : Int) : Int := wrap64 (Int.tmod (IntKind.u64.wrap k) 8)
theorem mod_n (x : Int) (m : Nat) (h0 : 0 < m) (h9 : m ≤ 1000) : ∃ n : Nat, wrap64 (Int.tmod (IntKind.u64.wrap x) (m : Int)) = (n : Int) ∧ n < m := by
 have hw : 0 ≤ IntKind.u64.wrap x := by
  unfold IntKind.wrap
  simp [IntKind.bits, IntKind.signed]
  omega
 have h1 : 0 ≤ Int.tmod (IntKind.u64.wrap x) (m : Int) := Int.tmod_nonneg _ hw
 have h2 : Int.tmod (IntKind.u64.wrap x) (m : Int) < m := Int.tmod_lt_of_pos _ (by omega)
 exact ⟨(Int.tmod (IntKind.u64.wrap x) (m : Int)).toNat, by unfold wrap64; omega, by omega⟩
theorem zd5 (k : Int) : kindOf k = 0 ∨ kindOf k = 1 ∨ kindOf k = 2 ∨ kindOf k = 3 ∨ kindOf k = 4 ∨ kindOf k = 5 ∨ kindOf k = 6 ∨ kindOf k = 7 := by
 obtain ⟨n, h, hn⟩ := mod_n k 8 (by decide) (by decide)
 have h' : kindOf k = (n : Int) := h
 rw [h']
 omega
abbrev stV (k n : Int) (nm : ByteArray) (A : Option Addr) (m c : Nat) : Value := .agg #[.int .i64 k, .int .i64 n, .string nm, .slice A m c]
theorem zd1 (k n : Int) (nm : ByteArray) (A : Option Addr) (m c : Nat) (w : World) : Calls Tryz.prog 17 #[stV k n nm A m c] w fun e w' => e = .returned (.int .i64 (kindOf k)) ∧ Below w.heap.size w w' := by
 unfold kindOf
 go_enter Tryz.func17, Tryz.ntmps17
 go_wp2
 go_ret
 exact ⟨rfl, z80 (Below.refl _ _) _⟩
end
end Go.Proofs.YtmlmiocomlehgaaGreat.Nil
end
section
namespace Go.Proofs.YtmlmiocomlehgaaGreat.Man
open Go.RowKit Go.Proofs.YtmlmiocomlehgaaGreatW.PrintWords Go.Proofs.YtmlmiocomlehgaaGreatW.PrintLast Go.Proofs.YtmlmiocomlehgaaGreatW.PrintMore Go.Proofs.YtmlmiocomlehgaaGreat.PA Go.Proofs.YtmlmiocomlehgaaGreat.PR Go.Proofs.YtmlmiocomlehgaaGreat.PF Go.Proofs.YtmlmiocomlehgaaGreat.Na Go.Proofs.YtmlmiocomlehgaaGreat.Hid
section
structure RF where
 each : Int
 guard : Int
 N : List ByteArray
 S : List Int
 L : List Bool
 d : Rf
abbrev RdB (b : Nat → Prop) (W : World) (v : Value) (xs : List Bool) : Prop := Rd Value.bool (fun _ => rfl) 4 b W v xs
def FR (b : Nat → Prop) (W : World) (vs : Value) (r : RF) : Prop := ∃ v0 v1 v2 v3 v4 v5 : Value, vs = .agg #[.int .i64 r.each, .int .i64 r.guard, v0, v1, v2, v3, v4, v5] ∧ RdS b W v0 r.N ∧ RdI b W v1 r.S ∧ RdB b W v2 r.L ∧ RdS b W v3 r.d.w ∧ RdS b W v4 r.d.u ∧ RdI b W v5 r.d.a
theorem FR.below {b : Nat → Prop} {W W1 : World} {vs : Value} {r : RF} (h : FR b W vs r) (hb : Below W.heap.size W W1) : FR b W1 vs r := by
 obtain ⟨v0, v1, v2, v3, v4, v5, e, h0, h1, h2, h3, h4, h5⟩ := h
 exact ⟨v0, v1, v2, v3, v4, v5, e, h0.below hb, h1.below hb, h2.below hb, h3.below hb, h4.below hb, h5.below hb⟩
theorem Rd.slice {α : Type} {enc : α → Value} {h1 : ∀ x, (enc x).oneCell' = true} {e : Nat} {b : Nat → Prop} {W : World} {v : Value} {xs : List α} (h : Rd enc h1 e b W v xs) : ∃ A c, v = .slice A xs.length c := by
 obtain ⟨A, c, hv, _⟩ := h
 exact ⟨A, c, hv⟩
theorem Rd.far {α : Type} {enc : α → Value} {h1 : ∀ x, (enc x).oneCell' = true} {e g t : Nat} {b : Nat → Prop} {W W1 : World} {v : Value} {xs : List α} {cs : Array Value} (h : Rd enc h1 e b W v xs) (hg : W.heap[g]? = some (.cells cs t (0, 0))) (ht : e ≠ t) (hk : ∀ k, k ≠ g → W1.heap[k]? = W.heap[k]?) : Rd enc h1 e b W1 v xs :=
 h.step (fun k cells hc _ => hk k (by
  rintro rfl
  rw [hg] at hc
  injection hc with hc
  injection hc with _ hc _
  exact ht hc.symm))
abbrev set8 (W : World) (g : Nat) (a0 a1 a2 a3 a4 a5 a6 a7 : Value) : World := (((((((W.setCell ⟨g, 0, none⟩ a0).setCell ⟨g, 1, none⟩ a1).setCell ⟨g, 2, none⟩ a2).setCell ⟨g, 3, none⟩ a3).setCell ⟨g, 4, none⟩ a4).setCell ⟨g, 5, none⟩ a5).setCell ⟨g, 6, none⟩ a6).setCell ⟨g, 7, none⟩ a7
theorem z30 {W : World} {g k : Nat} {a0 a1 a2 a3 a4 a5 a6 a7 : Value} (h : k ≠ g) : (set8 W g a0 a1 a2 a3 a4 a5 a6 a7).heap[k]? = W.heap[k]? :=
 (Below.heap_setCell _ ⟨g, 7, none⟩ _ k h).trans ((Below.heap_setCell _ ⟨g, 6, none⟩ _ k h).trans ((Below.heap_setCell _ ⟨g, 5, none⟩ _ k h).trans ((Below.heap_setCell _ ⟨g, 4, none⟩ _ k h).trans ((Below.heap_setCell _ ⟨g, 3, none⟩ _ k h).trans ((Below.heap_setCell _ ⟨g, 2, none⟩ _ k h).trans ((Below.heap_setCell _ ⟨g, 1, none⟩ _ k h).trans (Below.heap_setCell _ ⟨g, 0, none⟩ _ k h)))))))
theorem zi0 {W : World} {g t : Nat} {c0 c1 c2 c3 c4 c5 c6 c7 a0 a1 a2 a3 a4 a5 a6 a7 : Value} (h : W.heap[g]? = some (.cells #[c0, c1, c2, c3, c4, c5, c6, c7] t (0, 0))) : (set8 W g a0 a1 a2 a3 a4 a5 a6 a7).heap[g]? = some (.cells #[a0, a1, a2, a3, a4, a5, a6, a7] t (0, 0)) := by
 simpa using zz0 (zz0 (zz0 (zz0 (zz0 (zz0 (zz0 (zz0 h 0 a0) 1 a1) 2 a2) 3 a3) 4 a4) 5 a5) 6 a6) 7 a7
theorem zb0 {w0 W : World} {g : Nat} {a0 a1 a2 a3 a4 a5 a6 a7 : Value} (h : Below w0.heap.size w0 W) (hg : w0.heap.size ≤ g) : Below w0.heap.size w0 (set8 W g a0 a1 a2 a3 a4 a5 a6 a7) :=
 zc0 (zc0 (zc0 (zc0 (zc0 (zc0 (zc0 (zc0 h hg) hg) hg) hg) hg) hg) hg) hg
abbrev set3 (W : World) (g : Nat) (a5 a6 a7 : Value) : World := ((W.setCell ⟨g, 5, none⟩ a5).setCell ⟨g, 6, none⟩ a6).setCell ⟨g, 7, none⟩ a7
theorem z42 {W : World} {g k : Nat} {a5 a6 a7 : Value} (h : k ≠ g) : (set3 W g a5 a6 a7).heap[k]? = W.heap[k]? :=
 (Below.heap_setCell _ ⟨g, 7, none⟩ _ k h).trans ((Below.heap_setCell _ ⟨g, 6, none⟩ _ k h).trans (Below.heap_setCell _ ⟨g, 5, none⟩ _ k h))
theorem zv7 {W : World} {g t : Nat} {c0 c1 c2 c3 c4 c5 c6 c7 a5 a6 a7 : Value} (h : W.heap[g]? = some (.cells #[c0, c1, c2, c3, c4, c5, c6, c7] t (0, 0))) : (set3 W g a5 a6 a7).heap[g]? = some (.cells #[c0, c1, c2, c3, c4, a5, a6, a7] t (0, 0)) := by
 simpa using zz0 (zz0 (zz0 h 5 a5) 6 a6) 7 a7
theorem z54 {w0 W : World} {g : Nat} {a5 a6 a7 : Value} (h : Below w0.heap.size w0 W) (hg : w0.heap.size ≤ g) : Below w0.heap.size w0 (set3 W g a5 a6 a7) := zc0 (zc0 (zc0 h hg) hg) hg
theorem z11 {P : Program} {fn : Func} {p : Tmp} {ty : TypeId} (h : fn.results = #[.cell p ty]) (tmps : Array Value) (w : World) (g : Nat) (t : TypeId) (cs : Array Value) (fr : Nat × Nat) (d : TypeDesc)
  (hp : tmps.getD p undef = .pointer (some ⟨g, 0, none⟩)) (hg : w.heap[g]? = some (.cells cs t fr))
  (hu : P.underlying ty = some d) (hd : (match d with | .struct _ | .array _ _ => true | _ => false) = true) (hi : (P.info? ty).map (·.size) = some cs.size) :
  (results fn tmps).run P w = .ok (.agg cs) w := by
 have hp' : tmps[p]?.getD undef = .pointer (some ⟨g, 0, none⟩) := by simpa using hp
 simp [results, h, hp', asAddr, run_loadVar_row w g t ty cs fr d hg hu hd hi]
theorem zzb {w w1 : World} {o1 o2 : Obj} (h : Below ((w.alloc o1).alloc o2).heap.size ((w.alloc o1).alloc o2) w1) : w1.heap[w.heap.size]? = some o1 ∧ w1.heap[w.heap.size + 1]? = some o2 := by
 refine ⟨(h.block w.heap.size (by simp; omega)).trans ((Below.heap_alloc (w.alloc o1) _ _ (by simp)).trans (heap_alloc_new w o1)), (h.block (w.heap.size + 1) (by simp)).trans ?_⟩
 have := heap_alloc_new (w.alloc o1) o2
 simpa using this
section
variable {b : Nat → Prop} {w : World}
theorem rend_raw (nm : ByteArray) (r : RF) {vs : Value} (h : FR b w vs r) (hb : FrB b w.heap.size) (hl0 : r.d.w.length ≤ 1000000) (hl1 : r.d.u.length ≤ 1000000) (he : r.d.u.length = r.d.a.length) :
  Calls Tryz.prog 63 #[vs, .string nm] w fun e w' => ∃ vs', e = .returned vs' ∧ FR b w' vs' { r with d := (refEnd r.d nm).2 } ∧ Below w.heap.size w w' := by
 obtain ⟨v0, v1, v2, v3, v4, v5, rfl, h0, h1, h2, h3, h4, h5⟩ := h
 have HE := as0 (fun (W : World) (hW : Below w.heap.size w W) => ref_end (b := b) (w := W) nm r.d (h3.below hW) (h4.below hW) (h5.below hW) (zf1 hb hW.size) hl0 hl1 he)
 have H0 := as0 h0
 have H1 := as0 h1
 have H2 := as0 h2
 obtain ⟨A0, c0, rfl⟩ := h0.slice
 obtain ⟨A1, c1, rfl⟩ := h1.slice
 obtain ⟨A2, c2, rfl⟩ := h2.slice
 obtain ⟨A3, c3, rfl⟩ := h3.slice
 obtain ⟨A4, c4, rfl⟩ := h4.slice
 obtain ⟨A5, c5, rfl⟩ := h5.slice
 obtain ⟨rd, hrd⟩ : ∃ q, q = refEnd r.d nm := ⟨_, rfl⟩
 rw [← hrd] at HE ⊢
 have HB0 := as0 (z80 (z80 (Below.refl _ w) (.cells #[.int .i64 r.each, .int .i64 r.guard, .slice A0 r.N.length c0, .slice A1 r.S.length c1, .slice A2 r.L.length c2, .slice A3 r.d.w.length c3, .slice A4 r.d.u.length c4, .slice A5 r.d.a.length c5] 33)) (.cells #[.int .i64 0, .int .i64 0, .slice none 0 0, .slice none 0 0, .slice none 0 0, .slice none 0 0, .slice none 0 0, .slice none 0 0] 33))
 have HBB := as0 hb
 clear h0 h1 h2 h3 h4 h5 hrd he hl0 hl1 hb
 go_enter Tryz.func63, Tryz.ntmps63
 go_upto_region 3 with (go_at_call 88; refine (HE.out _ HB0.out).mono ?_; rintro e w1 ⟨vd, rfl, ⟨u0, u1, u2, rfl, k0, k1, k2, hbk⟩⟩; obtain ⟨B0, d0, rfl⟩ := k0.slice; obtain ⟨B1, d1, rfl⟩ := k1.slice; obtain ⟨B2, d2, rfl⟩ := k2.slice; have HK0 := as0 k0; have HK1 := as0 k1; have HK2 := as0 k2; have HBw := as0 (z10 HB0.out hbk); obtain ⟨bs, bn⟩ := zzb hbk; have x5 := z60 bs 5; have x6 := z60 bs 6; have x7 := z60 bs 7; have f5 := z40 bs 5; have f6 := z40 bs 6; have f7 := z40 bs 7; have sl := z70 bs; have BS := as0 bs; have BN := as0 bn; clear bs bn k0 k1 k2 hbk)
 obtain ⟨w5, hw5⟩ : ∃ W, W = (set3 w1 w.heap.size (.slice B0 rd.2.w.length d0) (.slice B1 rd.2.u.length d1) (.slice B2 rd.2.a.length d2)).alloc (.cells #[.slice B0 rd.2.w.length d0, .slice B1 rd.2.u.length d1, .slice B2 rd.2.a.length d2] 31) := ⟨_, rfl⟩
 have hne : w.heap.size + 1 ≠ w.heap.size := by omega
 have bs5 := zj0 (zv7 (a5 := .slice B0 rd.2.w.length d0) (a6 := .slice B1 rd.2.u.length d1) (a7 := .slice B2 rd.2.a.length d2) BS.out) (.cells #[.slice B0 rd.2.w.length d0, .slice B1 rd.2.u.length d1, .slice B2 rd.2.a.length d2] 31)
 have bn5 := zj0 ((z42 (a5 := .slice B0 rd.2.w.length d0) (a6 := .slice B1 rd.2.u.length d1) (a7 := .slice B2 rd.2.a.length d2) hne).trans BN.out) (.cells #[.slice B0 rd.2.w.length d0, .slice B1 rd.2.u.length d1, .slice B2 rd.2.a.length d2] 31)
 rw [← hw5] at bs5 bn5
 have BS5 := as0 bs5
 have BN5 := as0 bn5
 clear bs5 bn5
 have mv : ∀ {α : Type} {enc : α → Value} {h1 : ∀ x, (enc x).oneCell' = true} {e : Nat} {b : Nat → Prop} {v : Value} {xs : List α}, e ≠ 33 → Rd enc h1 e b w1 v xs → Rd enc h1 e b w5 v xs := fun he h => by
  rw [hw5]
  exact (h.far BS.out he (fun k hk => z42 hk)).below (z80 (Below.refl _ _) _)
 have R0 := as0 (mv (by decide) (H0.out.below HBw.out))
 have R1 := as0 (mv (by decide) (H1.out.below HBw.out))
 have R2 := as0 (mv (by decide) (H2.out.below HBw.out))
 have R3 := as0 (mv (by decide) HK0.out)
 have R4 := as0 (mv (by decide) HK1.out)
 have R5 := as0 (mv (by decide) HK2.out)
 have HB5 : Aside0 (Below w.heap.size w w5) := ⟨by rw [hw5]; exact z80 (z54 HBw.out (Nat.le_refl _)) _⟩
 have x0 := z60 BS5.out 0
 have x1 := z60 BS5.out 1
 have x2 := z60 BS5.out 2
 have x3 := z60 BS5.out 3
 have x4 := z60 BS5.out 4
 have y5 := z60 BS5.out 5
 have y6 := z60 BS5.out 6
 have y7 := z60 BS5.out 7
 have n0 := z40 BN5.out 0
 have n1 := z40 BN5.out 1
 have n2 := z40 BN5.out 2
 have n3 := z40 BN5.out 3
 have n4 := z40 BN5.out 4
 have n5 := z40 BN5.out 5
 have n6 := z40 BN5.out 6
 have n7 := z40 BN5.out 7
 have m0 := z60 BN5.out 0
 have m1 := z60 BN5.out 1
 have m2 := z60 BN5.out 2
 have m3 := z60 BN5.out 3
 have m4 := z60 BN5.out 4
 have m5 := z60 BN5.out 5
 have m6 := z60 BN5.out 6
 have m7 := z60 BN5.out 7
 have nl := z70 BN5.out
 have sl5 := z70 BS5.out
 rw [← hw5]
 clear x5 x6 x7 f5 f6 f7 sl mv hw5
 go_wp2
 refine bodyPost_ret (z11 (p := 4) rfl _ _ (w.heap.size + 1) 33 _ (0, 0) _ rfl (zi0 BN5.out) Tryz.underlying33 rfl (by kernel_rfl)) rfl ?_
 exact ⟨_, rfl, ⟨_, _, _, _, _, _, rfl, R0.out.far BN5.out (by decide) (fun k hk => z30 hk), R1.out.far BN5.out (by decide) (fun k hk => z30 hk), R2.out.far BN5.out (by decide) (fun k hk => z30 hk), R3.out.far BN5.out (by decide) (fun k hk => z30 hk), R4.out.far BN5.out (by decide) (fun k hk => z30 hk), R5.out.far BN5.out (by decide) (fun k hk => z30 hk)⟩, zb0 HB5.out (by omega)⟩
theorem zc9 (nm : ByteArray) (dl : Int) (hs : nm.size ≤ 100) (r : RF) {vs : Value} (h : FR b w vs r) (hb : FrB b w.heap.size) (hl0 : r.d.w.length ≤ 1000000) (hl1 : r.d.u.length ≤ 1000000) (hl2 : r.d.a.length ≤ 1000000) :
  Calls Tryz.prog 67 #[vs, .string nm, .int .i64 dl] w fun e w' => ∃ vs', e = .returned vs' ∧ FR b w' vs' { r with d := (refBegin r.d nm dl).2 } ∧ Below w.heap.size w w' := by
 obtain ⟨v0, v1, v2, v3, v4, v5, rfl, h0, h1, h2, h3, h4, h5⟩ := h
 have HE := as0 (fun (W : World) (hW : Below w.heap.size w W) => zpc (b := b) (w := W) nm dl hs r.d (h3.below hW) (h4.below hW) (h5.below hW) (zf1 hb hW.size) hl0 hl1 hl2)
 have H0 := as0 h0
 have H1 := as0 h1
 have H2 := as0 h2
 obtain ⟨A0, c0, rfl⟩ := h0.slice
 obtain ⟨A1, c1, rfl⟩ := h1.slice
 obtain ⟨A2, c2, rfl⟩ := h2.slice
 obtain ⟨A3, c3, rfl⟩ := h3.slice
 obtain ⟨A4, c4, rfl⟩ := h4.slice
 obtain ⟨A5, c5, rfl⟩ := h5.slice
 obtain ⟨rd, hrd⟩ : ∃ q, q = refBegin r.d nm dl := ⟨_, rfl⟩
 rw [← hrd] at HE ⊢
 have HB0 := as0 (z80 (z80 (Below.refl _ w) (.cells #[.int .i64 r.each, .int .i64 r.guard, .slice A0 r.N.length c0, .slice A1 r.S.length c1, .slice A2 r.L.length c2, .slice A3 r.d.w.length c3, .slice A4 r.d.u.length c4, .slice A5 r.d.a.length c5] 33)) (.cells #[.int .i64 0, .int .i64 0, .slice none 0 0, .slice none 0 0, .slice none 0 0, .slice none 0 0, .slice none 0 0, .slice none 0 0] 33))
 have HBB := as0 hb
 clear h0 h1 h2 h3 h4 h5 hrd hl2 hl0 hl1 hb
 go_enter Tryz.func67, Tryz.ntmps67
 go_upto_region 3 with (go_at_call 90; refine (HE.out _ HB0.out).mono ?_; rintro e w1 ⟨vd, rfl, ⟨u0, u1, u2, rfl, k0, k1, k2, hbk⟩⟩; obtain ⟨B0, d0, rfl⟩ := k0.slice; obtain ⟨B1, d1, rfl⟩ := k1.slice; obtain ⟨B2, d2, rfl⟩ := k2.slice; have HK0 := as0 k0; have HK1 := as0 k1; have HK2 := as0 k2; have HBw := as0 (z10 HB0.out hbk); obtain ⟨bs, bn⟩ := zzb hbk; have x5 := z60 bs 5; have x6 := z60 bs 6; have x7 := z60 bs 7; have f5 := z40 bs 5; have f6 := z40 bs 6; have f7 := z40 bs 7; have sl := z70 bs; have BS := as0 bs; have BN := as0 bn; clear bs bn k0 k1 k2 hbk)
 obtain ⟨w5, hw5⟩ : ∃ W, W = (set3 w1 w.heap.size (.slice B0 rd.2.w.length d0) (.slice B1 rd.2.u.length d1) (.slice B2 rd.2.a.length d2)).alloc (.cells #[.slice B0 rd.2.w.length d0, .slice B1 rd.2.u.length d1, .slice B2 rd.2.a.length d2] 31) := ⟨_, rfl⟩
 have hne : w.heap.size + 1 ≠ w.heap.size := by omega
 have bs5 := zj0 (zv7 (a5 := .slice B0 rd.2.w.length d0) (a6 := .slice B1 rd.2.u.length d1) (a7 := .slice B2 rd.2.a.length d2) BS.out) (.cells #[.slice B0 rd.2.w.length d0, .slice B1 rd.2.u.length d1, .slice B2 rd.2.a.length d2] 31)
 have bn5 := zj0 ((z42 (a5 := .slice B0 rd.2.w.length d0) (a6 := .slice B1 rd.2.u.length d1) (a7 := .slice B2 rd.2.a.length d2) hne).trans BN.out) (.cells #[.slice B0 rd.2.w.length d0, .slice B1 rd.2.u.length d1, .slice B2 rd.2.a.length d2] 31)
 rw [← hw5] at bs5 bn5
 have BS5 := as0 bs5
 have BN5 := as0 bn5
 clear bs5 bn5
 have mv : ∀ {α : Type} {enc : α → Value} {h1 : ∀ x, (enc x).oneCell' = true} {e : Nat} {b : Nat → Prop} {v : Value} {xs : List α}, e ≠ 33 → Rd enc h1 e b w1 v xs → Rd enc h1 e b w5 v xs := fun he h => by
  rw [hw5]
  exact (h.far BS.out he (fun k hk => z42 hk)).below (z80 (Below.refl _ _) _)
 have R0 := as0 (mv (by decide) (H0.out.below HBw.out))
 have R1 := as0 (mv (by decide) (H1.out.below HBw.out))
 have R2 := as0 (mv (by decide) (H2.out.below HBw.out))
 have R3 := as0 (mv (by decide) HK0.out)
 have R4 := as0 (mv (by decide) HK1.out)
 have R5 := as0 (mv (by decide) HK2.out)
 have HB5 : Aside0 (Below w.heap.size w w5) := ⟨by rw [hw5]; exact z80 (z54 HBw.out (Nat.le_refl _)) _⟩
 have x0 := z60 BS5.out 0
 have x1 := z60 BS5.out 1
 have x2 := z60 BS5.out 2
 have x3 := z60 BS5.out 3
 have x4 := z60 BS5.out 4
 have y5 := z60 BS5.out 5
 have y6 := z60 BS5.out 6
 have y7 := z60 BS5.out 7
 have n0 := z40 BN5.out 0
 have n1 := z40 BN5.out 1
 have n2 := z40 BN5.out 2
 have n3 := z40 BN5.out 3
 have n4 := z40 BN5.out 4
 have n5 := z40 BN5.out 5
 have n6 := z40 BN5.out 6
 have n7 := z40 BN5.out 7
 have m0 := z60 BN5.out 0
 have m1 := z60 BN5.out 1
 have m2 := z60 BN5.out 2
 have m3 := z60 BN5.out 3
 have m4 := z60 BN5.out 4
 have m5 := z60 BN5.out 5
 have m6 := z60 BN5.out 6
 have m7 := z60 BN5.out 7
 have nl := z70 BN5.out
 have sl5 := z70 BS5.out
 rw [← hw5]
 clear x5 x6 x7 f5 f6 f7 sl mv hw5
 go_wp2
 refine bodyPost_ret (z11 (p := 6) rfl _ _ (w.heap.size + 1) 33 _ (0, 0) _ rfl (zi0 BN5.out) Tryz.underlying33 rfl (by kernel_rfl)) rfl ?_
 exact ⟨_, rfl, ⟨_, _, _, _, _, _, rfl, R0.out.far BN5.out (by decide) (fun k hk => z30 hk), R1.out.far BN5.out (by decide) (fun k hk => z30 hk), R2.out.far BN5.out (by decide) (fun k hk => z30 hk), R3.out.far BN5.out (by decide) (fun k hk => z30 hk), R4.out.far BN5.out (by decide) (fun k hk => z30 hk), R5.out.far BN5.out (by decide) (fun k hk => z30 hk)⟩, zb0 HB5.out (by omega)⟩
end
end
section
theorem info4 : (Tryz.prog.info? 4).map (fun i => (i.zero, i.size, i.bytes)) = some (some (.bool false), 1, 1) := by kernel_rfl
theorem zna {α : Type} {enc : α → Value} {h1 : ∀ x, (enc x).oneCell' = true} {e b : Nat} {ok : Nat → Prop} {W : World} {v : Value} {xs : List α} (h : (Kd.scalar enc h1).R e W b ok v xs) (hl : 0 < xs.length) : ∃ g cap, v = .slice (some ⟨g, 0, none⟩) xs.length cap ∧ b ≤ g ∧ ∃ cells : Array Value, W.heap[g]? = some (.cells cells e (0, 0)) := by
 obtain ⟨_, inner, hown, _⟩ := h
 rcases hown.2 with hA | ⟨g, cap, cur, hv, hb, hh, _⟩
 ·have h2 := hA.2
  omega
 ·exact ⟨g, cap, hv, hb, cur, hh⟩
theorem two_blkg {w w1 : World} {o1 o2 : Obj} {row : Option Nat} (hr : row = none) (h : ((w.alloc o1).alloc o2).grownBy w1 row) : w1.heap[w.heap.size]? = some o1 ∧ w1.heap[w.heap.size + 1]? = some o2 := by
 subst hr
 refine ⟨(h.block w.heap.size (by simp; omega) (by simp)).trans ((Below.heap_alloc (w.alloc o1) _ _ (by simp)).trans (heap_alloc_new w o1)), (h.block (w.heap.size + 1) (by simp) (by simp)).trans ?_⟩
 have := heap_alloc_new (w.alloc o1) o2
 simpa using this
theorem zx0 {α : Type} {enc : α → Value} {h1 : ∀ x, (enc x).oneCell' = true} {e t : Nat} (h : e ≠ t) : ∀ q, q ∈ e :: (Kd.scalar enc h1).E → q ≠ t := by
 intro q hq
 have : q = e := by simpa [Kd.scalar] using hq
 rw [this]
 exact h
theorem zw3 {W : World} {a c t1 t2 : Nat} {x y : Array Value} (h1 : W.heap[a]? = some (.cells x t1 (0, 0))) (h2 : W.heap[c]? = some (.cells y t2 (0, 0))) (h : t1 ≠ t2) : a ≠ c := by
 rintro rfl
 rw [h1] at h2
 injection h2 with h2
 injection h2 with _ h2 _
 exact h h2
theorem z56 {w w1 : World} (h : w.grownBy w1 (Value.slice none 0 0).ownBlock) : Below w.heap.size w w1 := ⟨h.os, h.tape, h.output, h.size, fun k hk => h.block k hk (by simp [Value.ownBlock])⟩
section
variable {b : Nat → Prop} {w : World}
theorem rput_raw (i : Nat) (st : Int) (lv : Bool) (r : RF) {vs : Value} (h : FR b w vs r) (hb : FrB b w.heap.size) (hi : i < r.S.length) (hi2 : i < r.L.length) (hl : r.S.length ≤ 1000000) (hl2 : r.L.length ≤ 1000000) :
  Calls Tryz.prog 64 #[vs, .int .i64 (i : Int), .int .i64 st, .bool lv] w fun e w' => ∃ vs', e = .returned vs' ∧ FR b w' vs' { r with S := r.S.set i st, L := r.L.set i lv } ∧ Below w.heap.size w w' := by
 obtain ⟨v0, v1, v2, v3, v4, v5, rfl, h0, h1, h2, h3, h4, h5⟩ := h
 have H0 := as0 h0
 have H1 := as0 h1
 have H2 := as0 h2
 have H3 := as0 h3
 have H4 := as0 h4
 have H5 := as0 h5
 obtain ⟨A0, c0, rfl⟩ := h0.slice
 obtain ⟨A1, c1, rfl⟩ := h1.slice
 obtain ⟨A2, c2, rfl⟩ := h2.slice
 obtain ⟨A3, c3, rfl⟩ := h3.slice
 obtain ⟨A4, c4, rfl⟩ := h4.slice
 obtain ⟨A5, c5, rfl⟩ := h5.slice
 obtain ⟨sl, hsl⟩ : ∃ q, q = r.S := ⟨_, rfl⟩
 obtain ⟨ll, hll⟩ : ∃ q, q = r.L := ⟨_, rfl⟩
 rw [← hsl] at H1 hi hl ⊢
 rw [← hll] at H2 hi2 hl2 ⊢
 have HBB := as0 hb
 have HLS := as0 hl
 have HLL := as0 hl2
 have HI1 := as0 hi
 have HI2 := as0 hi2
 have hiI : (i : Int) < (sl.length : Int) := by omega
 have hiL : (i : Int) < (ll.length : Int) := by omega
 have hi0 : (0 : Int) ≤ (i : Int) := by omega
 have HB0 := as0 (z80 (z80 (Below.refl _ w) (.cells #[.int .i64 r.each, .int .i64 r.guard, .slice A0 r.N.length c0, .slice A1 sl.length c1, .slice A2 ll.length c2, .slice A3 r.d.w.length c3, .slice A4 r.d.u.length c4, .slice A5 r.d.a.length c5] 33)) (.cells #[.int .i64 0, .int .i64 0, .slice none 0 0, .slice none 0 0, .slice none 0 0, .slice none 0 0, .slice none 0 0, .slice none 0 0] 33))
 clear h0 h1 h2 h3 h4 h5 hsl hll hb hl hl2 hi hi2
 go_enter Tryz.func64, Tryz.ntmps64
 go_upto_region 5 with (first
  | ((with_reducible refine zm0 (b := .append) (xs := #[.tmp 11, .tmp 13]) rfl ?_); (try (refine z41 (by rfl) ?_; dsimp only)); at_builtin; refine Kd.R_append_row (Value.int .i64) (0 : Int) (h1 := fun _ => rfl) (w0 := w) w.heap.size rfl (.tmp 11) (.tmp 13) 28 3 (.int .i64 0) 8 rfl Tryz.underlying28 z76 rfl (by decide) (.slice none 0 0) [] sl A1 sl.length c1 (fun _ => True) rfl rfl (fun _ _ => trivial) (Kd.R_nil _ _ _ _ _) ?aC ?aB ?aS ?aL ?_; (case aC => exact (H1.out.below HB0.out).C); (case aB => exact HB0.out); (case aS => exact HB0.out.size); (case aL => have := HLS.out; simp; omega); intro v6 w1 ho hbk hg hat; rw [List.nil_append] at ho; have HS1 := as0 ho; have HB1 := as0 hbk; have HG1 := as0 hg; obtain ⟨g1, n1, rfl, hge, cells1, hc1⟩ := zna ho (Nat.lt_of_le_of_lt (Nat.zero_le _) HI1.out); obtain ⟨bs, bn⟩ := two_blkg rfl hg; have x4 := z60 bs 4; have bsl := z70 bs; have BS := as0 bs; have BN := as0 bn; clear ho hbk hg hat bs bn)
  | ((with_reducible refine zm0 (b := .append) (xs := #[.tmp 15, .tmp 17]) rfl ?_); (try (refine z41 (by rfl) ?_; dsimp only)); at_builtin; refine Kd.R_append_row Value.bool false (h1 := fun _ => rfl) (w0 := w) w.heap.size rfl (.tmp 15) (.tmp 17) 29 4 (.bool false) 1 rfl Tryz.underlying29 info4 rfl (by decide) (.slice none 0 0) [] ll A2 ll.length c2 (fun _ => True) rfl rfl (fun _ _ => trivial) (Kd.R_nil _ _ _ _ _) ?aC ?aB ?aS ?aL ?_; (case aC => exact (H2.out.below HB1.out).C); (case aB => exact HB1.out); (case aS => exact HB1.out.size); (case aL => have := HLL.out; simp; omega); intro v7 w2 ho hbk hg hat; rw [List.nil_append] at ho; have HL2 := as0 ho; have HB2 := as0 hbk; have hbw := z56 hg; have HS2 := as0 (Kd.R_below HS1.out hbw); obtain ⟨g2, n2, rfl, hge2, cells2, hc2⟩ := zna ho (Nat.lt_of_le_of_lt (Nat.zero_le _) HI2.out); have BS2 := as0 (z20 BS.out hbw); have BN2 := as0 (z20 BN.out hbw); have HC1 := as0 (z20 hc1 hbw); have HC2 := as0 hc2; have HGE := as0 hge; have HGE2 := as0 hge2; clear ho hbk hg hat hbw hge hge2 hc1 hc2 x4 bsl))
 obtain ⟨ad1, e1, hx1⟩ := Kd.at_int (Kd.R_reads' HS2.out).2.2 (i : Int) hi0 hiI
 cases e1
 rw [Int.toNat_natCast, zp3] at hx1
 obtain ⟨ad2, e2, hx2⟩ := Kd.at_bool (Kd.R_reads' HL2.out).2.2 (i : Int) hi0 hiL
 cases e2
 rw [Int.toNat_natCast, zp3] at hx2
 have hf1 := z40 HC1.out i
 have hf2 := z40 HC2.out i
 have hl1 := z70 HC1.out
 have hl2 := z70 HC2.out
 have hng : g2 ≠ g1 := zw3 HC2.out HC1.out (by decide)
 have hng' : g1 ≠ g2 := hng.symm
 go_upto_region 7 with fail
 obtain ⟨w4, hw4⟩ : ∃ W, W = (w2.setCell ⟨g1, i, none⟩ (.int .i64 st)).setCell ⟨g2, i, none⟩ (.bool lv) := ⟨_, rfl⟩
 have hp1 := (Kd.R_put HS2.out (i : Int) st).1
 rw [Int.toNat_natCast] at hp1
 have hp2 := Kd.R_set HL2.out HC1.out (zx0 (by decide)) i (.int .i64 st)
 have hc2' := (Below.heap_setCell w2 ⟨g1, i, none⟩ (.int .i64 st) g2 hng).trans HC2.out
 have hq1 := Kd.R_set hp1 hc2' (zx0 (by decide)) i (.bool lv)
 have hq2 := (Kd.R_put hp2 (i : Int) lv).1
 rw [Int.toNat_natCast] at hq2
 have hb4 : Below w.heap.size w ((w2.setCell ⟨g1, i, none⟩ (.int .i64 st)).setCell ⟨g2, i, none⟩ (.bool lv)) := zc0 (zc0 HB2.out HGE.out) HGE2.out
 have hs4 := (Below.heap_setCell (w2.setCell ⟨g1, i, none⟩ (.int .i64 st)) ⟨g2, i, none⟩ (.bool lv) w.heap.size (zw3 BS2.out HC2.out (by decide))).trans ((Below.heap_setCell w2 ⟨g1, i, none⟩ (.int .i64 st) w.heap.size (zw3 BS2.out HC1.out (by decide))).trans BS2.out)
 have hn4 := (Below.heap_setCell (w2.setCell ⟨g1, i, none⟩ (.int .i64 st)) ⟨g2, i, none⟩ (.bool lv) (w.heap.size + 1) (zw3 BN2.out HC2.out (by decide))).trans ((Below.heap_setCell w2 ⟨g1, i, none⟩ (.int .i64 st) (w.heap.size + 1) (zw3 BN2.out HC1.out (by decide))).trans BN2.out)
 rw [← hw4] at hq1 hq2 hb4 hs4 hn4 ⊢
 have HQ1 := as0 hq1
 have HQ2 := as0 hq2
 have HB4 := as0 hb4
 have HS4 := as0 hs4
 have HN4 := as0 hn4
 have s3 := z60 hs4 3
 have s4 := z60 hs4 4
 have t3 := z40 hs4 3
 have t4 := z40 hs4 4
 have tl := z70 hs4
 clear hp1 hp2 hc2' hq1 hq2 hb4 hs4 hn4 hw4 hx1 hx2 hf1 hf2 hl1 hl2 hng hng'
 go_upto_region 9 with fail
 obtain ⟨w5, hw5⟩ : ∃ W, W = (w4.setCell ⟨w.heap.size, 3, none⟩ (.slice (some ⟨g1, 0, none⟩) sl.length n1)).setCell ⟨w.heap.size, 4, none⟩ (.slice (some ⟨g2, 0, none⟩) ll.length n2) := ⟨_, rfl⟩
 have far5 : ∀ k, k ≠ w.heap.size → ((w4.setCell ⟨w.heap.size, 3, none⟩ (.slice (some ⟨g1, 0, none⟩) sl.length n1)).setCell ⟨w.heap.size, 4, none⟩ (.slice (some ⟨g2, 0, none⟩) ll.length n2)).heap[k]? = w4.heap[k]? := fun k hk => (Below.heap_setCell _ ⟨w.heap.size, 4, none⟩ _ k hk).trans (Below.heap_setCell _ ⟨w.heap.size, 3, none⟩ _ k hk)
 have hne : w.heap.size + 1 ≠ w.heap.size := by omega
 have bn5 := (far5 _ hne).trans HN4.out
 have bs5 := zz0 (zz0 HS4.out 3 (.slice (some ⟨g1, 0, none⟩) sl.length n1)) 4 (.slice (some ⟨g2, 0, none⟩) ll.length n2)
 have hb5 : Below w.heap.size w ((w4.setCell ⟨w.heap.size, 3, none⟩ (.slice (some ⟨g1, 0, none⟩) sl.length n1)).setCell ⟨w.heap.size, 4, none⟩ (.slice (some ⟨g2, 0, none⟩) ll.length n2)) := zc0 (zc0 HB4.out (Nat.le_refl _)) (Nat.le_refl _)
 have r1 := (Rd.of_R HQ1.out).far HS4.out (by decide) far5
 have r2 := (Rd.of_R HQ2.out).far HS4.out (by decide) far5
 rw [← hw5] at bn5 bs5 hb5 r1 r2 ⊢
 have BN5 := as0 bn5
 have HB5 := as0 hb5
 have R1 := as0 (r1.lower HBB.out)
 have R2 := as0 (r2.lower HBB.out)
 have bs6 : w5.heap[w.heap.size]? = some (.cells #[.int .i64 r.each, .int .i64 r.guard, .slice A0 r.N.length c0, .slice (some ⟨g1, 0, none⟩) sl.length n1, .slice (some ⟨g2, 0, none⟩) ll.length n2, .slice A3 r.d.w.length c3, .slice A4 r.d.u.length c4, .slice A5 r.d.a.length c5] 33 (0, 0)) := by simpa using bs5
 have x0 := z60 bs6 0
 have x1 := z60 bs6 1
 have x2 := z60 bs6 2
 have x3 := z60 bs6 3
 have x4 := z60 bs6 4
 have x5 := z60 bs6 5
 have x6 := z60 bs6 6
 have x7 := z60 bs6 7
 have sl6 := z70 bs6
 have n0_ := z40 bn5 0
 have m0 := z60 bn5 0
 have n1_ := z40 bn5 1
 have m1 := z60 bn5 1
 have n2_ := z40 bn5 2
 have m2 := z60 bn5 2
 have n3_ := z40 bn5 3
 have m3 := z60 bn5 3
 have n4_ := z40 bn5 4
 have m4 := z60 bn5 4
 have n5_ := z40 bn5 5
 have m5 := z60 bn5 5
 have n6_ := z40 bn5 6
 have m6 := z60 bn5 6
 have n7_ := z40 bn5 7
 have m7 := z60 bn5 7
 have nl := z70 bn5
 clear bs5 bs6 bn5 hb5 r1 r2 far5 s3 s4 t3 t4 tl hw5
 go_wp2
 refine bodyPost_ret (z11 (p := 8) rfl _ _ (w.heap.size + 1) 33 _ (0, 0) _ rfl (zi0 BN5.out) Tryz.underlying33 rfl (by kernel_rfl)) rfl ?_
 exact ⟨_, rfl, ⟨_, _, _, _, _, _, rfl, (H0.out.below HB5.out).far BN5.out (by decide) (fun k hk => z30 hk), R1.out.far BN5.out (by decide) (fun k hk => z30 hk), R2.out.far BN5.out (by decide) (fun k hk => z30 hk), (H3.out.below HB5.out).far BN5.out (by decide) (fun k hk => z30 hk), (H4.out.below HB5.out).far BN5.out (by decide) (fun k hk => z30 hk), (H5.out.below HB5.out).far BN5.out (by decide) (fun k hk => z30 hk)⟩, zb0 HB5.out (by omega)⟩
end
end
section
section
variable {b : Nat → Prop} {W W1 w : World} {r : RF} {vs : Value}
theorem FR.form (h : FR b W vs r) : ∃ A0 c0 A1 c1 A2 c2 A3 c3 A4 c4 A5 c5, vs = .agg #[.int .i64 r.each, .int .i64 r.guard, .slice A0 r.N.length c0, .slice A1 r.S.length c1, .slice A2 r.L.length c2, .slice A3 r.d.w.length c3, .slice A4 r.d.u.length c4, .slice A5 r.d.a.length c5] := by
 obtain ⟨v0, v1, v2, v3, v4, v5, rfl, h0, h1, h2, h3, h4, h5⟩ := h
 obtain ⟨A0, c0, rfl⟩ := h0.slice
 obtain ⟨A1, c1, rfl⟩ := h1.slice
 obtain ⟨A2, c2, rfl⟩ := h2.slice
 obtain ⟨A3, c3, rfl⟩ := h3.slice
 obtain ⟨A4, c4, rfl⟩ := h4.slice
 obtain ⟨A5, c5, rfl⟩ := h5.slice
 exact ⟨_, _, _, _, _, _, _, _, _, _, _, _, rfl⟩
theorem FR.get {e g v0 v1 v2 v3 v4 v5 : Value} (h : FR b W (.agg #[e, g, v0, v1, v2, v3, v4, v5]) r) : RdS b W v0 r.N ∧ RdI b W v1 r.S ∧ RdB b W v2 r.L ∧ RdS b W v3 r.d.w ∧ RdS b W v4 r.d.u ∧ RdI b W v5 r.d.a := by
 obtain ⟨x0, x1, x2, x3, x4, x5, he, h0, h1, h2, h3, h4, h5⟩ := h
 injection he with he
 injection he with he
 simp only [List.cons.injEq] at he
 obtain ⟨_, _, rfl, rfl, rfl, rfl, rfl, rfl, _⟩ := he
 exact ⟨h0, h1, h2, h3, h4, h5⟩
theorem FR.lower {b' : Nat → Prop} (h : FR b W vs r) (hb : ∀ k, b k → b' k) : FR b' W vs r := by
 obtain ⟨v0, v1, v2, v3, v4, v5, e, h0, h1, h2, h3, h4, h5⟩ := h
 exact ⟨v0, v1, v2, v3, v4, v5, e, h0.lower hb, h1.lower hb, h2.lower hb, h3.lower hb, h4.lower hb, h5.lower hb⟩
theorem FR.far {g t : Nat} {cs : Array Value} (h : FR b W vs r) (hg : W.heap[g]? = some (.cells cs t (0, 0))) (ht : t ≠ 9) (ht3 : t ≠ 3) (ht4 : t ≠ 4) (hk : ∀ k, k ≠ g → W1.heap[k]? = W.heap[k]?) : FR b W1 vs r := by
 obtain ⟨v0, v1, v2, v3, v4, v5, e, h0, h1, h2, h3, h4, h5⟩ := h
 exact ⟨v0, v1, v2, v3, v4, v5, e, h0.far hg ht.symm hk, h1.far hg ht3.symm hk, h2.far hg ht4.symm hk, h3.far hg ht.symm hk, h4.far hg ht.symm hk, h5.far hg ht3.symm hk⟩
theorem Rd.at {α : Type} {enc : α → Value} {h1 : ∀ x, (enc x).oneCell' = true} {e n c : Nat} {b : Nat → Prop} {W : World} {A : Option Addr} {xs : List α} {k : Nat} {x : α} (h : Rd enc h1 e b W (.slice A n c) xs) (hk : xs[k]? = some x) : ∃ ad, A = some ad ∧ W.cell? (ad.add k) = some (enc x) := by
 obtain ⟨hk1, hk2⟩ := List.getElem?_eq_some_iff.1 hk
 have hC := h.C
 obtain ⟨ad, hae, hcell⟩ := hC.2.2 (Nat.lt_of_le_of_lt (Nat.zero_le _) hk1)
 refine ⟨ad, hae, ?_⟩
 obtain ⟨cs, hcs1, hK, hcc⟩ := hcell k x hk
 obtain rfl : cs = [enc x] := hK
 have := hcc 0 (enc x) rfl
 simpa [Kd.scalar] using this
theorem zy3 {g t : Nat} {c0 c1 c2 c3 c4 c5 c6 c7 : Value} (h : W.heap[g]? = some (.cells #[c0, c1, c2, c3, c4, c5, c6, c7] t (0, 0))) :
  W.cell? ⟨g, 0, none⟩ = some c0 ∧ W.cell? ⟨g, 1, none⟩ = some c1 ∧ W.cell? ⟨g, 2, none⟩ = some c2 ∧ W.cell? ⟨g, 3, none⟩ = some c3 ∧ W.cell? ⟨g, 4, none⟩ = some c4 ∧ W.cell? ⟨g, 5, none⟩ = some c5 ∧ W.cell? ⟨g, 6, none⟩ = some c6 ∧ W.cell? ⟨g, 7, none⟩ = some c7 :=
 ⟨(z60 h 0).trans rfl, (z60 h 1).trans rfl, (z60 h 2).trans rfl, (z60 h 3).trans rfl, (z60 h 4).trans rfl, (z60 h 5).trans rfl, (z60 h 6).trans rfl, (z60 h 7).trans rfl⟩
theorem b8frozen {g t : Nat} {cs : Array Value} (h : W.heap[g]? = some (.cells cs t (0, 0))) :
  W.frozen? ⟨g, 0, none⟩ = false ∧ W.frozen? ⟨g, 1, none⟩ = false ∧ W.frozen? ⟨g, 2, none⟩ = false ∧ W.frozen? ⟨g, 3, none⟩ = false ∧ W.frozen? ⟨g, 4, none⟩ = false ∧ W.frozen? ⟨g, 5, none⟩ = false ∧ W.frozen? ⟨g, 6, none⟩ = false ∧ W.frozen? ⟨g, 7, none⟩ = false :=
 ⟨z40 h 0, z40 h 1, z40 h 2, z40 h 3, z40 h 4, z40 h 5, z40 h 6, z40 h 7⟩
end
end
end Go.Proofs.YtmlmiocomlehgaaGreat.Man
end
