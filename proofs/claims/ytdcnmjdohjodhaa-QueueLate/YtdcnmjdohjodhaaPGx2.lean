/-
  Contracts of the program's functions and the Lean functions that they compute, laid by a program of this session out of the translation. Conditions: none.
-/
import Derived.Test.YtdcnmjdohjodhaaPGx0
import Derived.Test.YtdcnmjdohjodhaaPGx1
namespace Go.Proofs.Ytdcnmjdohjodhaa.PG
open Go.RowKit Go.Proofs.Ytdcnmjdohjodhaa.PE Go.Proofs.Ytdcnmjdohjodhaa.PA Go.Proofs.Ytdcnmjdohjodhaa.PF Go.Proofs.Ytdcnmjdohjodhaa.Hid Go.Proofs.Ytdcnmjdohjodhaa.Man Go.Proofs.YtdcnmjdohjodhaaW.PrintWords Go.Proofs.YtdcnmjdohjodhaaW.PrintLast Go.Proofs.YtdcnmjdohjodhaaW.PrintMore
attribute [local go_sem] max2_int min2_int max_two min_two max_three min_three max_four min_four   -- for this text's walks alone
set_option linter.unusedVariables false
set_option linter.unusedSimpArgs false

/-! ### hostlerlaw12_QueueLate: function 5 -/
mutual
def hostlerlaw12_QueueLate.l0 : Nat → List Int → Int → Int → Int → List Int → Int → QS → Option (Bool)
  | 0, _, _, _, _, _, _, _ => none
  | k + 1, x0, x1, x2, x8, x9, x10, x182000 => if x10 < (x0.length : Int) then (hostlerlaw12_QueueLate.j1 k x0 x1 x2 x8 x9 x10 (decide (x10 < 16)) x182000) else (hostlerlaw12_QueueLate.j1 k x0 x1 x2 x8 x9 x10 false x182000)
def hostlerlaw12_QueueLate.j1 : Nat → List Int → Int → Int → Int → List Int → Int → Bool → QS → Option (Bool)
  | 0, _, _, _, _, _, _, _, _ => none
  | k + 1, x0, x1, x2, x8, x9, x10, x32, x182000 => if x32 = true then (if 0 ≤ x10 then (if x10 < (x0.length : Int) then (if x9.length < 17592186044416 then ((queue_Queue_Push.f x182000 x10 (wrap64 (x8 + (wrap64 (Int.tmod (IntKind.u64.wrap (rd x0 x10)) 9))))).bind fun bt186 => (if bt186.1 = 0 then (hostlerlaw12_QueueLate.l0 k x0 x1 x2 (wrap64 (x8 + (wrap64 (Int.tmod (IntKind.u64.wrap (rd x0 x10)) 9)))) (x9 ++ [wrap64 (x8 + (wrap64 (Int.tmod (IntKind.u64.wrap (rd x0 x10)) 9)))]) (wrap64 (x10 + 1)) bt186.2) else (none))) else (none)) else (none)) else (none)) else ((queue_Queue_Expire.f x182000 (wrap64 (x8 + x2)) x1).bind fun bt188 => (hostlerlaw12_QueueLate.l1 k x1 (wrap64 (x8 + x2)) x9 bt188.1 0 bt188.2))
def hostlerlaw12_QueueLate.l1 : Nat → Int → Int → List Int → List Int → Int → QS → Option (Bool)
  | 0, _, _, _, _, _, _ => none
  | k + 1, x1, x8, x9, x11, x12, x182000 => if x12 < (x9.length : Int) then (if 0 ≤ x12 then (if ((decide ((wrap64 (x8 - (rd x9 x12))) ≥ x1)) != (decide (x12 < (x11.length : Int)))) = true then (none) else (if (wrap64 (x8 - (rd x9 x12))) ≥ x1 then (if x12 < (x11.length : Int) then (if (rd x11 x12) = x12 then (hostlerlaw12_QueueLate.l1 k x1 x8 x9 x11 (wrap64 (x12 + 1)) x182000) else (none)) else (none)) else ((queue_Queue_Place.f x182000 x12).bind fun bt194 => (if bt194.1 = (wrap64 (x12 - (x11.length : Int))) then (hostlerlaw12_QueueLate.l1 k x1 x8 x9 x11 (wrap64 (x12 + 1)) bt194.2) else (none))))) else (none)) else ((queue_Queue_Expire.f x182000 x8 x1).bind fun bt196 => (if (bt196.1.length : Int) = 0 then ((queue_Queue_Len.f bt196.2).bind fun bt200 => (some ((wrap64 (bt200.1 + (x11.length : Int))) == (x9.length : Int)))) else (none)))
end
def hostlerlaw12_QueueLate.f (k : Nat) (l0 : List Int) (a1 : Int) (a2 : Int) : Option (Bool) := (hostlerlaw12_lives.f).bind fun t179 => (if t179 = true then ((queue_New.f 16).bind fun t180 => (hostlerlaw12_QueueLate.l0 k l0 (wrap64 (Int.tmod (IntKind.u64.wrap (a1)) 30)) (wrap64 (Int.tmod (IntKind.u64.wrap (a2)) 30)) 0 ([] : List Int) 0 t180)) else (none))
theorem hostlerlaw12_QueueLate.mono_l : ∀ k, (∀ y0 y1 y2 y3 y4 y5 y6, LeO (hostlerlaw12_QueueLate.l0 k y0 y1 y2 y3 y4 y5 y6) (hostlerlaw12_QueueLate.l0 (k + 1) y0 y1 y2 y3 y4 y5 y6)) ∧ (∀ y0 y1 y2 y3 y4 y5 y6 y7, LeO (hostlerlaw12_QueueLate.j1 k y0 y1 y2 y3 y4 y5 y6 y7) (hostlerlaw12_QueueLate.j1 (k + 1) y0 y1 y2 y3 y4 y5 y6 y7)) ∧ (∀ y0 y1 y2 y3 y4 y5, LeO (hostlerlaw12_QueueLate.l1 k y0 y1 y2 y3 y4 y5) (hostlerlaw12_QueueLate.l1 (k + 1) y0 y1 y2 y3 y4 y5))
  | 0 => ⟨fun _ _ _ _ _ _ _ r h => by simp [hostlerlaw12_QueueLate.l0] at h, fun _ _ _ _ _ _ _ _ r h => by simp [hostlerlaw12_QueueLate.j1] at h, fun _ _ _ _ _ _ r h => by simp [hostlerlaw12_QueueLate.l1] at h⟩
  | k + 1 => by
    obtain ⟨ih0, ih1, ih2⟩ := hostlerlaw12_QueueLate.mono_l k
    refine ⟨?_, ?_, ?_⟩
    · intro y0 y1 y2 y3 y4 y5 y6
      unfold hostlerlaw12_QueueLate.l0
      repeat' first
      | (with_reducible exact ih0 _ _ _ _ _ _ _)
      | (with_reducible exact ih1 _ _ _ _ _ _ _ _)
      | (with_reducible exact ih2 _ _ _ _ _ _)
      | (with_reducible exact LeO.refl _)
      | (with_reducible exact LeO.none _)
      | (with_reducible refine LeO.ite ?_ ?_)
      | (with_reducible refine LeO.bind ?_ (fun _ => ?_))
      | exact ih0 _ _ _ _ _ _ _
      | exact ih1 _ _ _ _ _ _ _ _
      | exact ih2 _ _ _ _ _ _
      | exact LeO.none _
      | refine LeO.ite ?_ ?_
      | refine LeO.bind ?_ (fun _ => ?_)
    · intro y0 y1 y2 y3 y4 y5 y6 y7
      unfold hostlerlaw12_QueueLate.j1
      repeat' first
      | (with_reducible exact ih0 _ _ _ _ _ _ _)
      | (with_reducible exact ih1 _ _ _ _ _ _ _ _)
      | (with_reducible exact ih2 _ _ _ _ _ _)
      | (with_reducible exact LeO.refl _)
      | (with_reducible exact LeO.none _)
      | (with_reducible refine LeO.ite ?_ ?_)
      | (with_reducible refine LeO.bind ?_ (fun _ => ?_))
      | exact ih0 _ _ _ _ _ _ _
      | exact ih1 _ _ _ _ _ _ _ _
      | exact ih2 _ _ _ _ _ _
      | exact LeO.none _
      | refine LeO.ite ?_ ?_
      | refine LeO.bind ?_ (fun _ => ?_)
    · intro y0 y1 y2 y3 y4 y5
      unfold hostlerlaw12_QueueLate.l1
      repeat' first
      | (with_reducible exact ih0 _ _ _ _ _ _ _)
      | (with_reducible exact ih1 _ _ _ _ _ _ _ _)
      | (with_reducible exact ih2 _ _ _ _ _ _)
      | (with_reducible exact LeO.refl _)
      | (with_reducible exact LeO.none _)
      | (with_reducible refine LeO.ite ?_ ?_)
      | (with_reducible refine LeO.bind ?_ (fun _ => ?_))
      | exact ih0 _ _ _ _ _ _ _
      | exact ih1 _ _ _ _ _ _ _ _
      | exact ih2 _ _ _ _ _ _
      | exact LeO.none _
      | refine LeO.ite ?_ ?_
      | refine LeO.bind ?_ (fun _ => ?_)
theorem hostlerlaw12_QueueLate.mono : ∀ a0 a1 a2 k, LeO (hostlerlaw12_QueueLate.f k a0 a1 a2) (hostlerlaw12_QueueLate.f (k + 1) a0 a1 a2) := by
  intro a0 a1 a2 k
  obtain ⟨ih0, ih1, ih2⟩ := hostlerlaw12_QueueLate.mono_l k
  unfold hostlerlaw12_QueueLate.f
  repeat' first
      | (with_reducible exact ih0 _ _ _ _ _ _ _)
      | (with_reducible exact ih1 _ _ _ _ _ _ _ _)
      | (with_reducible exact ih2 _ _ _ _ _ _)
      | (with_reducible exact LeO.refl _)
      | (with_reducible exact LeO.none _)
      | (with_reducible refine LeO.ite ?_ ?_)
      | (with_reducible refine LeO.bind ?_ (fun _ => ?_))
      | exact ih0 _ _ _ _ _ _ _
      | exact ih1 _ _ _ _ _ _ _ _
      | exact ih2 _ _ _ _ _ _
      | exact LeO.none _
      | refine LeO.ite ?_ ?_
      | refine LeO.bind ?_ (fun _ => ?_)
set_option maxHeartbeats 8000000 in
set_option maxRecDepth 100000 in
theorem hostlerlaw12_QueueLate.calls (k : Nat) (A0 : Option Addr) (c0 : Nat) (l0 : List Int) (a1 : Int) (a2 : Int) (r : Bool) (w : World) (hr0 : Kd.C (Kd.int .i64) w A0 l0.length l0) (hc0 : l0.length ≤ c0) (h : hostlerlaw12_QueueLate.f k l0 a1 a2 = some r) :
    Calls Try.prog 5 #[.slice A0 l0.length c0, .int .i64 a1, .int .i64 a2] w fun e w' => e = .returned (.bool r) ∧ Below w.heap.size w w' := by
  have HR0 := Aside0.mk hr0
  have HC0 := Aside0.mk hc0
  clear hr0 hc0
  have HB := Aside0.mk (Below.refl w.heap.size w)
  have H : ((hostlerlaw12_lives.f).bind fun t179 => (if t179 = true then ((queue_New.f 16).bind fun t180 => (hostlerlaw12_QueueLate.l0 k l0 (wrap64 (Int.tmod (IntKind.u64.wrap (a1)) 30)) (wrap64 (Int.tmod (IntKind.u64.wrap (a2)) 30)) 0 ([] : List Int) 0 t180)) else (none))) = some r := h
  clear h
  replace H := Option.bind_eq_some_iff.mp H
  obtain ⟨t179, A40, H⟩ := H
  replace H : (if t179 = true then ((queue_New.f 16).bind fun t180 => (hostlerlaw12_QueueLate.l0 k l0 (wrap64 (Int.tmod (IntKind.u64.wrap (a1)) 30)) (wrap64 (Int.tmod (IntKind.u64.wrap (a2)) 30)) 0 ([] : List Int) 0 t180)) else (none)) = some r := H
  have A4 := Aside0.mk A40
  clear A40
  by_cases c5 : t179 = true
  · subst c5
    have H1 : ((queue_New.f 16).bind fun t180 => (hostlerlaw12_QueueLate.l0 k l0 (wrap64 (Int.tmod (IntKind.u64.wrap (a1)) 30)) (wrap64 (Int.tmod (IntKind.u64.wrap (a2)) 30)) 0 ([] : List Int) 0 t180)) = some r := by rw [if_pos rfl] at H; exact H
    clear H
    have H := H1
    clear H1
    replace H := Option.bind_eq_some_iff.mp H
    obtain ⟨t180, A60, H⟩ := H
    replace H : (hostlerlaw12_QueueLate.l0 k l0 (wrap64 (Int.tmod (IntKind.u64.wrap (a1)) 30)) (wrap64 (Int.tmod (IntKind.u64.wrap (a2)) 30)) 0 ([] : List Int) 0 t180) = some r := H
    have A6 := Aside0.mk A60
    clear A60
    have H' := Aside0.mk H
    clear H
    go_enter Try.func5, Try.ntmps5
    go_wp2_with (first | ((with_reducible refine gate_callee (f := 8) rfl ?_); refine goesL_ (some 14) rfl rfl Try.func8 (by kernel_rfl) rfl #[] rfl (by (try simp only [List.map_toArray, List.map_cons, List.map_nil]); first | done | rfl | (simp only [List.length_drop, List.length_take]; rfl)) ?_; (with_reducible refine (hostlerlaw12_lives.calls  true _ A4.out).mono ?_); rintro e w7 ⟨rfl, hb⟩; refine ⟨_, rfl, ?_⟩; have n0_ := Aside0.mk (below_step (by repeat (first | (with_reducible first | exact HB.out | apply below_alloc | apply pw_below_drewN | apply below_drew1) | exact HB.out)) hb); clear HB; have HB := n0_; clear n0_; (try clear hb); (try clear hb2); (try clear hk); (try clear hi)) | ((with_reducible refine gate_callee (f := 9) rfl ?_); refine goesL_ (some 24) rfl rfl Try.func9 (by kernel_rfl) rfl #[.int .i64 16] rfl (by (try simp only [List.map_toArray, List.map_cons, List.map_nil]); first | done | rfl | (simp only [List.length_drop, List.length_take]; rfl)) ?_; (with_reducible refine (queue_New.calls 16 t180 w _ ?side1 A6.out).mono ?_); (case side1 => repeat (first | (with_reducible first | exact HB.out | apply below_alloc | apply pw_below_drewN | apply below_drew1) | exact HB.out)); rintro e w8 ⟨g181, rfl, hi, hb, hb2⟩; refine ⟨_, rfl, ?_⟩; have n0_ := Aside0.mk (hb); have n1_ := Aside0.mk (hi); clear HB; have HB := n0_; have HI181 := n1_; clear n0_ n1_; (try clear hb); (try clear hb2); (try clear hk); (try clear hi)))
    go_loopg [8, 9, 10] k (fun kq v8 v9 v10 w' => ∃ (x8_1 : Int) (x9_1 : List Int) (x10_1 : Int) (x182000_1 : QS), v8 = .int .i64 x8_1 ∧ v10 = .int .i64 x10_1 ∧ Aside0 (hostlerlaw12_QueueLate.l0 kq l0 (wrap64 (Int.tmod (IntKind.u64.wrap (a1)) 30)) (wrap64 (Int.tmod (IntKind.u64.wrap (a2)) 30)) x8_1 x9_1 x10_1 x182000_1 = some r) ∧ Aside0 (kq ≤ k) ∧ Aside0 (Kd.R (Kd.int .i64) 3 w' w.heap.size (fun _ => True) v9 x9_1) ∧ Aside0 (IsS62 w w' g181 x182000_1) ∧ Aside0 (Below w.heap.size w w'))
    case atStart => exact ⟨(0), (([] : List Int)), (0), (t180), (by first | rfl | (simp; done) | (simp [*]; done)), (by first | rfl | (simp; done) | (simp [*]; done)), H', ⟨Nat.le_refl _⟩, ⟨by first | exact Kd.R_nil _ _ _ _ _ | exact Kd.N_nil _ _ _ _ _ | exact Kd.V_nil _ _ _ _ _ | exact Kd.Q_nil _ _ _ _ _ | exact Kd.S_nil _ _ _ _ _⟩, ⟨by repeat (first | (with_reducible first | exact HI181.out | apply IsS62.alloc | apply IsS62.drewN | apply IsS62.drew | apply IsS62.set_0) | exact HI181.out)⟩, ⟨by repeat (first | (with_reducible first | exact HB.out | apply below_alloc | apply pw_below_drewN | apply below_drew1 | refine below_set ?_ (IsS62.ge HI181.out)) | exact HB.out)⟩⟩
    case round =>
      clear H'
      try clear p2
      try clear c5
      try clear p6
      try clear c8
      obtain ⟨x8_1, x9_1, x10_1, x182000_1, rfl, rfl, HA, HK1, HO_9, HI181, HB⟩ := hrel
      cases gk with
      | zero => exact absurd HA.out (by simp [hostlerlaw12_QueueLate.l0])
      | succ k1 =>
        have H := HA.out
        clear HA
        simp only [hostlerlaw12_QueueLate.l0] at H
        have HC9 := Aside0.mk H
        clear H
        go_upto_region 9 with (fail)
        go_cut [32] (fun v32 wc => ∃ (kq : Nat) (x32_8 : Bool), v32 = .bool x32_8 ∧ Aside0 (hostlerlaw12_QueueLate.j1 kq l0 (wrap64 (Int.tmod (IntKind.u64.wrap (a1)) 30)) (wrap64 (Int.tmod (IntKind.u64.wrap (a2)) 30)) x8_1 x9_1 x10_1 x32_8 x182000_1 = some r) ∧ Aside0 (kq ≤ k1) ∧ Aside0 (Kd.R (Kd.int .i64) 3 wc w.heap.size (fun _ => True) u9 x9_1) ∧ Aside0 (IsS62 w wc g181 x182000_1) ∧ Aside0 (Below w.heap.size w wc))
        case first =>
          have H := HC9.out
          clear HC9
          by_cases c10 : x10_1 < (l0.length : Int)
          · rw [if_pos c10] at H
            have c10b0 : decide (x10_1 < (l0.length : Int)) = true := decide_eq_true c10
            clear c10
            (first | rw [c10b0] | (simp only [i64_w, i32_w]; rw [c10b0]) | skip)
            have H' := Aside0.mk H
            clear H
            go_wp2
            go_meet
            case rel => exact ⟨_, (decide (x10_1 < 16)), (by first | rfl | (simp; done) | (simp [*]; done)), H', ⟨by have := HK1.out; first | omega | exact Nat.le_refl _⟩, ⟨by (with_reducible repeat (first | apply Kd.R_alloc | apply Kd.R_drewN | apply Kd.R_drew)); exact HO_9.out⟩, ⟨by repeat (first | (with_reducible first | exact HI181.out | apply IsS62.alloc | apply IsS62.drewN | apply IsS62.drew | apply IsS62.set_0) | exact HI181.out)⟩, ⟨by repeat (first | (with_reducible first | exact HB.out | apply below_alloc | apply pw_below_drewN | apply below_drew1 | refine below_set ?_ (IsS62.ge HI181.out)) | exact HB.out)⟩⟩
          · rw [if_neg c10] at H
            have c10b0 : decide (x10_1 < (l0.length : Int)) = false := decide_eq_false c10
            clear c10
            (first | rw [c10b0] | (simp only [i64_w, i32_w]; rw [c10b0]) | skip)
            have H' := Aside0.mk H
            clear H
            go_wp2
            go_meet
            case rel => exact ⟨_, (false), (by first | rfl | (simp; done) | (simp [*]; done)), H', ⟨by have := HK1.out; first | omega | exact Nat.le_refl _⟩, ⟨by (with_reducible repeat (first | apply Kd.R_alloc | apply Kd.R_drewN | apply Kd.R_drew)); exact HO_9.out⟩, ⟨by repeat (first | (with_reducible first | exact HI181.out | apply IsS62.alloc | apply IsS62.drewN | apply IsS62.drew | apply IsS62.set_0) | exact HI181.out)⟩, ⟨by repeat (first | (with_reducible first | exact HB.out | apply below_alloc | apply pw_below_drewN | apply below_drew1 | refine below_set ?_ (IsS62.ge HI181.out)) | exact HB.out)⟩⟩
        case rest =>
          clear HC9
          try clear c1
          try clear p2
          try clear c5
          try clear p6
          try clear c8
          try clear c9
          try clear c10
          try clear c10b0
          try clear p2
          try clear p6
          obtain ⟨kq, x32_8, rfl, HA, HJ8, HO_9, HI181, HB⟩ := hcut
          cases kq with
          | zero => exact absurd HA.out (by simp [hostlerlaw12_QueueLate.j1])
          | succ kj8 =>
            have H := HA.out
            clear HA
            simp only [hostlerlaw12_QueueLate.j1] at H
            by_cases c11 : x32_8 = true
            · subst c11
              have H1 : (if 0 ≤ x10_1 then (if x10_1 < (l0.length : Int) then (if x9_1.length < 17592186044416 then ((queue_Queue_Push.f x182000_1 x10_1 (wrap64 (x8_1 + (wrap64 (Int.tmod (IntKind.u64.wrap (rd l0 x10_1)) 9))))).bind fun bt186 => (if bt186.1 = 0 then (hostlerlaw12_QueueLate.l0 kj8 l0 (wrap64 (Int.tmod (IntKind.u64.wrap (a1)) 30)) (wrap64 (Int.tmod (IntKind.u64.wrap (a2)) 30)) (wrap64 (x8_1 + (wrap64 (Int.tmod (IntKind.u64.wrap (rd l0 x10_1)) 9)))) (x9_1 ++ [wrap64 (x8_1 + (wrap64 (Int.tmod (IntKind.u64.wrap (rd l0 x10_1)) 9)))]) (wrap64 (x10_1 + 1)) bt186.2) else (none))) else (none)) else (none)) else (none)) = some r := by rw [if_pos rfl] at H; exact H
              clear H
              have H := H1
              clear H1
              by_cases c12 : 0 ≤ x10_1
              · rw [if_pos c12] at H
                have c12b0 : decide (0 ≤ x10_1) = true := decide_eq_true c12
                clear c12
                by_cases c13 : x10_1 < (l0.length : Int)
                · rw [if_pos c13] at H
                  have c13b0 : decide (x10_1 < (l0.length : Int)) = true := decide_eq_true c13
                  clear c13
                  by_cases c14 : x9_1.length < 17592186044416
                  · rw [if_pos c14] at H
                    have LMc14 := Aside0.mk c14
                    clear c14
                    obtain ⟨y183, hy183⟩ : ∃ y_ : List Int, y_ = (x9_1 ++ [wrap64 (x8_1 + (wrap64 (Int.tmod (IntKind.u64.wrap (rd l0 x10_1)) 9)))]) := ⟨_, rfl⟩
                    replace H : ((queue_Queue_Push.f x182000_1 x10_1 (wrap64 (x8_1 + (wrap64 (Int.tmod (IntKind.u64.wrap (rd l0 x10_1)) 9))))).bind fun bt186 => (if bt186.1 = 0 then (hostlerlaw12_QueueLate.l0 kj8 l0 (wrap64 (Int.tmod (IntKind.u64.wrap (a1)) 30)) (wrap64 (Int.tmod (IntKind.u64.wrap (a2)) 30)) (wrap64 (x8_1 + (wrap64 (Int.tmod (IntKind.u64.wrap (rd l0 x10_1)) 9)))) y183 (wrap64 (x10_1 + 1)) bt186.2) else (none))) = some r := by first | (rw [hy183]; with_reducible exact H) | (have H2_ := (Option.bind_some _ _).symm.trans H; rw [hy183]; with_reducible exact H2_) | (have H2_ := (Option.bind_some _ _).symm.trans H; with_reducible exact H2_) | with_reducible exact H | (rw [hy183]; exact H) | exact H
                    have Ny183 := Aside0.mk hy183
                    clear hy183
                    replace H := Option.bind_eq_some_iff.mp H
                    obtain ⟨⟨t186, t187⟩, A150, H⟩ := H
                    replace H : (if t186 = 0 then (hostlerlaw12_QueueLate.l0 kj8 l0 (wrap64 (Int.tmod (IntKind.u64.wrap (a1)) 30)) (wrap64 (Int.tmod (IntKind.u64.wrap (a2)) 30)) (wrap64 (x8_1 + (wrap64 (Int.tmod (IntKind.u64.wrap (rd l0 x10_1)) 9)))) y183 (wrap64 (x10_1 + 1)) t187) else (none)) = some r := H
                    have A15 := Aside0.mk A150
                    clear A150
                    by_cases c16 : t186 = 0
                    · rw [if_pos c16] at H
                      have c16b0 : (t186 == 0) = true := beq_iff_eq.mpr c16
                      have c16b1 : (t186 != 0) = false := bne_eq_false_iff_eq.mpr c16
                      clear c16
                      have H' := Aside0.mk H
                      clear H
                      have p182 : 0 ≤ (x10_1 : Int) := of_decide_eq_true (by first | (with_reducible assumption) | assumption)
                      have q182 : x10_1 < (l0.length : Int) := of_decide_eq_true (by first | (with_reducible assumption) | assumption)
                      obtain ⟨ad182, e182, hx182_0⟩ := Kd.at_int HR0.out x10_1 p182 q182
                      cases e182
                      replace hx182_0 := (HB.out.cell (World.block_lt_of_cell? w _ hx182_0)).trans hx182_0
                      replace p182 := eq_true p182
                      replace q182 := eq_true q182
                      go_wp2_with (first | ((with_reducible refine gate_builtin (b := .append) (xs := #[.tmp 44, .tmp 46]) rfl ?_); (try (refine gate_guard (by rfl) ?_; dsimp only)); at_builtin; refine Kd.R_append (Kd.int .i64) (w0 := w) w.heap.size rfl (.tmp 44) (.tmp 46) 38 3 (.int .i64 0) 8 rfl Try.underlying38 info3 rfl (by decide) (by omega) u9 x9_1 (wrap64 (x8_1 + (wrap64 (Int.tmod (IntKind.u64.wrap (rd l0 x10_1)) 9)))) [.int .i64 (wrap64 (x8_1 + (wrap64 (Int.tmod (IntKind.u64.wrap (rd l0 x10_1)) 9))))] (fun _ => True) (fun _ => False) rfl rfl ?aP (fun _ hk => hk.elim) ?aF ?aO ?aB ?aS ?aL ?_; (case aP => exact rfl); (case aB => exact (by repeat (first | (with_reducible first | exact HB.out | apply below_alloc | apply pw_below_drewN | apply below_drew1 | refine below_set ?_ (IsS62.ge HI181.out)) | exact HB.out))); (case aF => exact (fun _ _ => trivial)); (case aO => exact (by (with_reducible repeat (first | apply Kd.R_alloc | apply Kd.R_drewN | apply Kd.R_drew)); exact HO_9.out)); (case aS => exact (below_size (by repeat (first | (with_reducible first | exact HB.out | apply below_alloc | apply pw_below_drewN | apply below_drew1 | refine below_set ?_ (IsS62.ge HI181.out)) | exact HB.out)))); (case aL => have := LMc14.out; omega); intro v184 w17 ho hb hg hat; rw [← Ny183.out] at ho; have n0_ := Aside0.mk (IsS62.grown (by repeat (first | (with_reducible first | exact HI181.out | apply IsS62.alloc | apply IsS62.drewN | apply IsS62.drew | apply IsS62.set_0) | exact HI181.out)) hg (IsS62.own_ne HI181.out HO_9.out (by decide))); have n1_ := Aside0.mk (hb); have n2_ := Aside0.mk (ho); clear HI181; clear HB; clear HO_9; have HI181 := n0_; have HB := n1_; have HO185 := n2_; clear n0_ n1_ n2_; clear ho hb hg hat) | ((with_reducible refine gate_callee (f := 10) rfl ?_); refine goesL_ (some 51) rfl rfl Try.func10 (by kernel_rfl) rfl #[.pointer (some ⟨g181, 0, none⟩), .int .i64 x10_1, .int .i64 (wrap64 (x8_1 + (wrap64 (Int.tmod (IntKind.u64.wrap (rd l0 x10_1)) 9))))] rfl (by (try simp only [List.map_toArray, List.map_cons, List.map_nil]); first | done | rfl | (simp only [List.length_drop, List.length_take]; rfl)) ?_; (with_reducible refine (queue_Queue_Push.calls g181 x182000_1 x10_1 (wrap64 (x8_1 + (wrap64 (Int.tmod (IntKind.u64.wrap (rd l0 x10_1)) 9)))) t186 t187 w _ ?side1 ?side2 A15.out).mono ?_); (case side1 => repeat (first | (with_reducible first | exact HI181.out | apply IsS62.alloc | apply IsS62.drewN | apply IsS62.drew | apply IsS62.set_0) | exact HI181.out)); (case side2 => repeat (first | (with_reducible first | exact HB.out | apply below_alloc | apply pw_below_drewN | apply below_drew1 | refine below_set ?_ (IsS62.ge HI181.out)) | exact HB.out)); rintro e w18 ⟨rfl, hi, hb, hk⟩; refine ⟨_, rfl, ?_⟩; have n0_ := Aside0.mk (Kd.R_mono (Ko.R_keep (IsS62.apart (show IsS62 w _ g181 x182000_1 from by repeat (first | (with_reducible first | exact HI181.out | apply IsS62.alloc | apply IsS62.drewN | apply IsS62.drew | apply IsS62.set_0) | exact HI181.out)) (by (with_reducible repeat (first | apply Kd.R_alloc | apply Kd.R_drewN | apply Kd.R_drew)); exact HO185.out) (by decide)) hk (fun _ h => h.2)) (fun _ h => h.1)); have n1_ := Aside0.mk (hb); have n2_ := Aside0.mk (hi); clear HO185; clear HB; clear HI181; have HO185 := n0_; have HB := n1_; have HI181 := n2_; clear n0_ n1_ n2_; (try clear hb); (try clear hb2); (try clear hk); (try clear hi)))
                      go_roundg kj8
                      case measure => have := HK1.out; have := HJ8.out; omega
                      case rel => exact ⟨(wrap64 (x8_1 + (wrap64 (Int.tmod (IntKind.u64.wrap (rd l0 x10_1)) 9)))), (y183), (wrap64 (x10_1 + 1)), (t187), (by first | rfl | (simp; done) | (simp [*]; done)), (by first | rfl | (simp; done) | (simp [*]; done)), H', ⟨by have := HK1.out; have := HJ8.out; omega⟩, ⟨by (with_reducible repeat (first | apply Kd.R_alloc | apply Kd.R_drewN | apply Kd.R_drew)); exact HO185.out⟩, ⟨by repeat (first | (with_reducible first | exact HI181.out | apply IsS62.alloc | apply IsS62.drewN | apply IsS62.drew | apply IsS62.set_0) | exact HI181.out)⟩, ⟨by repeat (first | (with_reducible first | exact HB.out | apply below_alloc | apply pw_below_drewN | apply below_drew1 | refine below_set ?_ (IsS62.ge HI181.out)) | exact HB.out)⟩⟩
                    · rw [if_neg c16] at H
                      exact absurd H (by simp)
                  · rw [if_neg c14] at H
                    exact absurd H (by simp)
                · rw [if_neg c13] at H
                  exact absurd H (by simp)
              · rw [if_neg c12] at H
                exact absurd H (by simp)
            · replace c11 := Bool.eq_false_iff.mpr c11
              subst c11
              have H1 : ((queue_Queue_Expire.f x182000_1 (wrap64 (x8_1 + (wrap64 (Int.tmod (IntKind.u64.wrap (a2)) 30)))) (wrap64 (Int.tmod (IntKind.u64.wrap (a1)) 30))).bind fun bt188 => (hostlerlaw12_QueueLate.l1 kj8 (wrap64 (Int.tmod (IntKind.u64.wrap (a1)) 30)) (wrap64 (x8_1 + (wrap64 (Int.tmod (IntKind.u64.wrap (a2)) 30)))) x9_1 bt188.1 0 bt188.2)) = some r := by rw [if_neg (show ¬ (false = true) by decide)] at H; exact H
              clear H
              have H := H1
              clear H1
              replace H := Option.bind_eq_some_iff.mp H
              obtain ⟨⟨t188, t191⟩, A190, H⟩ := H
              replace H : (hostlerlaw12_QueueLate.l1 kj8 (wrap64 (Int.tmod (IntKind.u64.wrap (a1)) 30)) (wrap64 (x8_1 + (wrap64 (Int.tmod (IntKind.u64.wrap (a2)) 30)))) x9_1 t188 0 t191) = some r := H
              have A19 := Aside0.mk A190
              clear A190
              have H' := Aside0.mk H
              clear H
              go_wp2_with (first | ((with_reducible refine gate_callee (f := 20) rfl ?_); refine goesL_ (some 59) rfl rfl Try.func20 (by kernel_rfl) rfl #[.pointer (some ⟨g181, 0, none⟩), .int .i64 (wrap64 (x8_1 + (wrap64 (Int.tmod (IntKind.u64.wrap (a2)) 30)))), .int .i64 (wrap64 (Int.tmod (IntKind.u64.wrap (a1)) 30))] rfl (by (try simp only [List.map_toArray, List.map_cons, List.map_nil]); first | done | rfl | (simp only [List.length_drop, List.length_take]; rfl)) ?_; (with_reducible refine (queue_Queue_Expire.calls g181 x182000_1 (wrap64 (x8_1 + (wrap64 (Int.tmod (IntKind.u64.wrap (a2)) 30)))) (wrap64 (Int.tmod (IntKind.u64.wrap (a1)) 30)) t188 t191 w _ ?side1 ?side2 A19.out).mono ?_); (case side1 => repeat (first | (with_reducible first | exact HI181.out | apply IsS62.alloc | apply IsS62.drewN | apply IsS62.drew | apply IsS62.set_0) | exact HI181.out)); (case side2 => repeat (first | (with_reducible first | exact HB.out | apply below_alloc | apply pw_below_drewN | apply below_drew1 | refine below_set ?_ (IsS62.ge HI181.out)) | exact HB.out)); rintro e w20 ⟨v189, rfl, ho0, hi, hb, hk⟩; refine ⟨_, rfl, ?_⟩; have n0_ := Aside0.mk (Kd.R_mono (Kd.R_told (Ko.R_oldH (IsS62.apart (show IsS62 w _ g181 x182000_1 from by repeat (first | (with_reducible first | exact HI181.out | apply IsS62.alloc | apply IsS62.drewN | apply IsS62.drew | apply IsS62.set_0) | exact HI181.out)) (by (with_reducible repeat (first | apply Kd.R_alloc | apply Kd.R_drewN | apply Kd.R_drew)); exact HO_9.out) (by decide)) hk) (Kd.R_base ho0)) (fun _ h_ => h_.1)); have n1_ := Aside0.mk (Kd.R_lower (Kd.R_new' ho0 (Kd.R_lt (by (with_reducible repeat (first | apply Kd.R_alloc | apply Kd.R_drewN | apply Kd.R_drew)); exact HO_9.out))) (below_size (by repeat (first | (with_reducible first | exact HB.out | apply below_alloc | apply pw_below_drewN | apply below_drew1 | refine below_set ?_ (IsS62.ge HI181.out)) | exact HB.out)))); have n2_ := Aside0.mk (hb); have n3_ := Aside0.mk (hi); clear HO_9; clear HB; clear HI181; have HO_9 := n0_; have HO190 := n1_; have HB := n2_; have HI181 := n3_; clear n0_ n1_ n2_ n3_; (try clear hb); (try clear hb2); (try clear hk); (try clear hi); (try clear ho0)))
              go_loopg [12] kj8 (fun kq v12 w' => ∃ (x12_3 : Int) (x182000_3 : QS), v12 = .int .i64 x12_3 ∧ Aside0 (hostlerlaw12_QueueLate.l1 kq (wrap64 (Int.tmod (IntKind.u64.wrap (a1)) 30)) (wrap64 (x8_1 + (wrap64 (Int.tmod (IntKind.u64.wrap (a2)) 30)))) x9_1 t188 x12_3 x182000_3 = some r) ∧ Aside0 (kq ≤ kj8) ∧ Aside0 (Kd.R (Kd.int .i64) 3 w' w.heap.size (fun k_ => some k_ ≠ (v189 : Value).ownBlock) u9 x9_1) ∧ Aside0 (Kd.R (Kd.int .i64) 3 w' w.heap.size (fun k_ => some k_ ≠ (u9 : Value).ownBlock) v189 t188) ∧ Aside0 (IsS62 w w' g181 x182000_3) ∧ Aside0 (Below w.heap.size w w'))
              case atStart => exact ⟨(0), (t191), (by first | rfl | (simp; done) | (simp [*]; done)), H', ⟨Nat.le_refl _⟩, ⟨by (with_reducible repeat (first | apply Kd.R_alloc | apply Kd.R_drewN | apply Kd.R_drew)); exact Kd.R_mono HO_9.out (fun _ hk => hk.2)⟩, ⟨by (with_reducible repeat (first | apply Kd.R_alloc | apply Kd.R_drewN | apply Kd.R_drew)); exact Kd.R_mono HO190.out (fun _ hk => hk.2)⟩, ⟨by repeat (first | (with_reducible first | exact HI181.out | apply IsS62.alloc | apply IsS62.drewN | apply IsS62.drew | apply IsS62.set_0) | exact HI181.out)⟩, ⟨by repeat (first | (with_reducible first | exact HB.out | apply below_alloc | apply pw_below_drewN | apply below_drew1 | refine below_set ?_ (IsS62.ge HI181.out)) | exact HB.out)⟩⟩
              case round =>
                clear H'
                try clear c1
                try clear p1
                try clear q1
                try clear hx1
                try clear c2
                try clear p2
                try clear c5
                try clear p6
                try clear c8
                try clear c9
                try clear c10
                try clear c10b0
                try clear c11
                try clear c12
                try clear c12b0
                try clear c13
                try clear c13b0
                try clear c14
                try clear c16
                try clear c16b0
                try clear c16b1
                try clear p18
                try clear q18
                try clear hx18
                try clear c20
                try clear hx182_0
                try clear p182
                try clear p2
                try clear p6
                try clear q182
                obtain ⟨x12_3, x182000_3, rfl, HA, HK3, HO_9, HO_11, HI181, HB⟩ := hrel
                cases gk with
                | zero => exact absurd HA.out (by simp [hostlerlaw12_QueueLate.l1])
                | succ k3 =>
                  have H := HA.out
                  clear HA
                  simp only [hostlerlaw12_QueueLate.l1] at H
                  by_cases c21 : x12_3 < (x9_1.length : Int)
                  · rw [if_pos c21] at H
                    have c21b0 : decide (x12_3 < (x9_1.length : Int)) = true := decide_eq_true c21
                    clear c21
                    by_cases c22 : 0 ≤ x12_3
                    · rw [if_pos c22] at H
                      have c22b0 : decide (0 ≤ x12_3) = true := decide_eq_true c22
                      clear c22
                      by_cases c23 : ((decide ((wrap64 ((wrap64 (x8_1 + (wrap64 (Int.tmod (IntKind.u64.wrap (a2)) 30)))) - (rd x9_1 x12_3))) ≥ (wrap64 (Int.tmod (IntKind.u64.wrap (a1)) 30)))) != (decide (x12_3 < (t188.length : Int)))) = true
                      · rw [if_pos c23] at H
                        exact absurd H (by simp)
                      · rw [if_neg c23] at H
                        have c23b0 : ((decide ((wrap64 ((wrap64 (x8_1 + (wrap64 (Int.tmod (IntKind.u64.wrap (a2)) 30)))) - (rd x9_1 x12_3))) ≥ (wrap64 (Int.tmod (IntKind.u64.wrap (a1)) 30)))) != (decide (x12_3 < (t188.length : Int)))) = false := by simpa using c23
                        (try (have c23b1 : decide ((decide ((wrap64 ((wrap64 (x8_1 + (wrap64 (Int.tmod (IntKind.u64.wrap (a2)) 30)))) - (rd x9_1 x12_3))) ≥ (wrap64 (Int.tmod (IntKind.u64.wrap (a1)) 30)))) = (decide (x12_3 < (t188.length : Int)))) = true := by simpa using c23))
                        (try (have c23b2 : ((decide ((wrap64 ((wrap64 (x8_1 + (wrap64 (Int.tmod (IntKind.u64.wrap (a2)) 30)))) - (rd x9_1 x12_3))) ≥ (wrap64 (Int.tmod (IntKind.u64.wrap (a1)) 30)))) == (decide (x12_3 < (t188.length : Int)))) = true := by simpa using c23))
                        clear c23
                        by_cases c24 : (wrap64 ((wrap64 (x8_1 + (wrap64 (Int.tmod (IntKind.u64.wrap (a2)) 30)))) - (rd x9_1 x12_3))) ≥ (wrap64 (Int.tmod (IntKind.u64.wrap (a1)) 30))
                        · rw [if_pos c24] at H
                          have c24b0 : decide ((wrap64 (Int.tmod (IntKind.u64.wrap (a1)) 30)) ≤ (wrap64 ((wrap64 (x8_1 + (wrap64 (Int.tmod (IntKind.u64.wrap (a2)) 30)))) - (rd x9_1 x12_3)))) = true := decide_eq_true c24
                          (try (have c24b0d : (decide (x12_3 < (t188.length : Int))) = true := by have h_ := c23b0; have e_ : (decide ((wrap64 ((wrap64 (x8_1 + (wrap64 (Int.tmod (IntKind.u64.wrap (a2)) 30)))) - (rd x9_1 x12_3))) ≥ (wrap64 (Int.tmod (IntKind.u64.wrap (a1)) 30)))) = true := c24b0; rw [e_] at h_; revert h_; generalize (decide (x12_3 < (t188.length : Int))) = d_; cases d_ <;> simp))
                          clear c24
                          by_cases c25 : x12_3 < (t188.length : Int)
                          · rw [if_pos c25] at H
                            have c25b0 : decide (x12_3 < (t188.length : Int)) = true := decide_eq_true c25
                            clear c25
                            by_cases c26 : (rd t188 x12_3) = x12_3
                            · rw [if_pos c26] at H
                              have c26b0 : ((rd t188 x12_3) == x12_3) = true := beq_iff_eq.mpr c26
                              have c26b1 : ((rd t188 x12_3) != x12_3) = false := bne_eq_false_iff_eq.mpr c26
                              clear c26
                              have H' := Aside0.mk H
                              clear H
                              obtain ⟨Ao27, co27, eo27⟩ := Kd.R_slice HO_9.out
                              subst eo27
                              have p192 : 0 ≤ (x12_3 : Int) := of_decide_eq_true (by first | (with_reducible assumption) | assumption)
                              have q192 : x12_3 < (x9_1.length : Int) := of_decide_eq_true (by first | (with_reducible assumption) | assumption)
                              obtain ⟨ad192, e192, hx192_0⟩ := Kd.at_int (Kd.R_reads' HO_9.out).2.2 x12_3 p192 q192
                              cases e192
                              replace p192 := eq_true p192
                              replace q192 := eq_true q192
                              obtain ⟨Ao28, co28, eo28⟩ := Kd.R_slice HO_11.out
                              subst eo28
                              have p193 : 0 ≤ (x12_3 : Int) := of_decide_eq_true (by first | (with_reducible assumption) | assumption)
                              have q193 : x12_3 < (t188.length : Int) := of_decide_eq_true (by first | (with_reducible assumption) | assumption)
                              obtain ⟨ad193, e193, hx193_0⟩ := Kd.at_int (Kd.R_reads' HO_11.out).2.2 x12_3 p193 q193
                              cases e193
                              replace p193 := eq_true p193
                              replace q193 := eq_true q193
                              go_wp2
                              go_roundg k3
                              case measure => have := HK1.out; have := HJ8.out; have := HK3.out; omega
                              case rel => exact ⟨(wrap64 (x12_3 + 1)), (x182000_3), (by first | rfl | (simp; done) | (simp [*]; done)), H', ⟨by have := HK1.out; have := HJ8.out; have := HK3.out; omega⟩, ⟨by (with_reducible repeat (first | apply Kd.R_alloc | apply Kd.R_drewN | apply Kd.R_drew)); exact HO_9.out⟩, ⟨by (with_reducible repeat (first | apply Kd.R_alloc | apply Kd.R_drewN | apply Kd.R_drew)); exact HO_11.out⟩, ⟨by repeat (first | (with_reducible first | exact HI181.out | apply IsS62.alloc | apply IsS62.drewN | apply IsS62.drew | apply IsS62.set_0) | exact HI181.out)⟩, ⟨by repeat (first | (with_reducible first | exact HB.out | apply below_alloc | apply pw_below_drewN | apply below_drew1 | refine below_set ?_ (IsS62.ge HI181.out)) | exact HB.out)⟩⟩
                            · rw [if_neg c26] at H
                              exact absurd H (by simp)
                          · rw [if_neg c25] at H
                            exact absurd H (by simp)
                        · rw [if_neg c24] at H
                          have c24b0 : decide ((wrap64 (Int.tmod (IntKind.u64.wrap (a1)) 30)) ≤ (wrap64 ((wrap64 (x8_1 + (wrap64 (Int.tmod (IntKind.u64.wrap (a2)) 30)))) - (rd x9_1 x12_3)))) = false := decide_eq_false c24
                          (try (have c24b0d : (decide (x12_3 < (t188.length : Int))) = false := by have h_ := c23b0; have e_ : (decide ((wrap64 ((wrap64 (x8_1 + (wrap64 (Int.tmod (IntKind.u64.wrap (a2)) 30)))) - (rd x9_1 x12_3))) ≥ (wrap64 (Int.tmod (IntKind.u64.wrap (a1)) 30)))) = false := c24b0; rw [e_] at h_; revert h_; generalize (decide (x12_3 < (t188.length : Int))) = d_; cases d_ <;> simp))
                          clear c24
                          replace H := Option.bind_eq_some_iff.mp H
                          obtain ⟨⟨t194, t195⟩, A290, H⟩ := H
                          replace H : (if t194 = (wrap64 (x12_3 - (t188.length : Int))) then (hostlerlaw12_QueueLate.l1 k3 (wrap64 (Int.tmod (IntKind.u64.wrap (a1)) 30)) (wrap64 (x8_1 + (wrap64 (Int.tmod (IntKind.u64.wrap (a2)) 30)))) x9_1 t188 (wrap64 (x12_3 + 1)) t195) else (none)) = some r := H
                          have A29 := Aside0.mk A290
                          clear A290
                          by_cases c30 : t194 = (wrap64 (x12_3 - (t188.length : Int)))
                          · rw [if_pos c30] at H
                            have c30b0 : (t194 == (wrap64 (x12_3 - (t188.length : Int)))) = true := beq_iff_eq.mpr c30
                            have c30b1 : (t194 != (wrap64 (x12_3 - (t188.length : Int)))) = false := bne_eq_false_iff_eq.mpr c30
                            clear c30
                            have H' := Aside0.mk H
                            clear H
                            obtain ⟨Ao31, co31, eo31⟩ := Kd.R_slice HO_9.out
                            subst eo31
                            have p192 : 0 ≤ (x12_3 : Int) := of_decide_eq_true (by first | (with_reducible assumption) | assumption)
                            have q192 : x12_3 < (x9_1.length : Int) := of_decide_eq_true (by first | (with_reducible assumption) | assumption)
                            obtain ⟨ad192, e192, hx192_0⟩ := Kd.at_int (Kd.R_reads' HO_9.out).2.2 x12_3 p192 q192
                            cases e192
                            replace p192 := eq_true p192
                            replace q192 := eq_true q192
                            obtain ⟨Ao32, co32, eo32⟩ := Kd.R_slice HO_11.out
                            subst eo32
                            go_wp2_with (first | (go_at_call 11; (with_reducible refine (queue_Queue_Place.calls g181 x182000_3 x12_3 t194 t195 w _ ?side1 ?side2 A29.out).mono ?_); (case side1 => repeat (first | (with_reducible first | exact HI181.out | apply IsS62.alloc | apply IsS62.drewN | apply IsS62.drew | apply IsS62.set_0) | exact HI181.out)); (case side2 => repeat (first | (with_reducible first | exact HB.out | apply below_alloc | apply pw_below_drewN | apply below_drew1 | refine below_set ?_ (IsS62.ge HI181.out)) | exact HB.out)); rintro e w33 ⟨rfl, hi, hb, hk⟩; have n0_ := Aside0.mk (Kd.R_mono (Ko.R_keep (IsS62.apart (show IsS62 w _ g181 x182000_3 from by repeat (first | (with_reducible first | exact HI181.out | apply IsS62.alloc | apply IsS62.drewN | apply IsS62.drew | apply IsS62.set_0) | exact HI181.out)) (by (with_reducible repeat (first | apply Kd.R_alloc | apply Kd.R_drewN | apply Kd.R_drew)); exact HO_9.out) (by decide)) hk (fun _ h => h.2)) (fun _ h => h.1)); have n1_ := Aside0.mk (Kd.R_mono (Ko.R_keep (IsS62.apart (show IsS62 w _ g181 x182000_3 from by repeat (first | (with_reducible first | exact HI181.out | apply IsS62.alloc | apply IsS62.drewN | apply IsS62.drew | apply IsS62.set_0) | exact HI181.out)) (by (with_reducible repeat (first | apply Kd.R_alloc | apply Kd.R_drewN | apply Kd.R_drew)); exact HO_11.out) (by decide)) hk (fun _ h => h.2)) (fun _ h => h.1)); have n2_ := Aside0.mk (hb); have n3_ := Aside0.mk (hi); clear HO_9; clear HO_11; clear HB; clear HI181; have HO_9 := n0_; have HO_11 := n1_; have HB := n2_; have HI181 := n3_; clear n0_ n1_ n2_ n3_; (try clear hb); (try clear hb2); (try clear hk); (try clear hi)))
                            go_roundg k3
                            case measure => have := HK1.out; have := HJ8.out; have := HK3.out; omega
                            case rel => exact ⟨(wrap64 (x12_3 + 1)), (t195), (by first | rfl | (simp; done) | (simp [*]; done)), H', ⟨by have := HK1.out; have := HJ8.out; have := HK3.out; omega⟩, ⟨by (with_reducible repeat (first | apply Kd.R_alloc | apply Kd.R_drewN | apply Kd.R_drew)); exact HO_9.out⟩, ⟨by (with_reducible repeat (first | apply Kd.R_alloc | apply Kd.R_drewN | apply Kd.R_drew)); exact HO_11.out⟩, ⟨by repeat (first | (with_reducible first | exact HI181.out | apply IsS62.alloc | apply IsS62.drewN | apply IsS62.drew | apply IsS62.set_0) | exact HI181.out)⟩, ⟨by repeat (first | (with_reducible first | exact HB.out | apply below_alloc | apply pw_below_drewN | apply below_drew1 | refine below_set ?_ (IsS62.ge HI181.out)) | exact HB.out)⟩⟩
                          · rw [if_neg c30] at H
                            exact absurd H (by simp)
                    · rw [if_neg c22] at H
                      exact absurd H (by simp)
                  · rw [if_neg c21] at H
                    have c21b0 : decide (x12_3 < (x9_1.length : Int)) = false := decide_eq_false c21
                    clear c21
                    replace H := Option.bind_eq_some_iff.mp H
                    obtain ⟨⟨t196, t199⟩, A340, H⟩ := H
                    replace H : (if (t196.length : Int) = 0 then ((queue_Queue_Len.f t199).bind fun bt200 => (some ((wrap64 (bt200.1 + (t188.length : Int))) == (x9_1.length : Int)))) else (none)) = some r := H
                    have A34 := Aside0.mk A340
                    clear A340
                    by_cases c35 : (t196.length : Int) = 0
                    · rw [if_pos c35] at H
                      have c35b0 : ((t196.length : Int) == 0) = true := beq_iff_eq.mpr c35
                      have c35b1 : ((t196.length : Int) != 0) = false := bne_eq_false_iff_eq.mpr c35
                      clear c35
                      replace H := Option.bind_eq_some_iff.mp H
                      obtain ⟨⟨t200, t201⟩, A360, H⟩ := H
                      replace H : (some ((wrap64 (t200 + (t188.length : Int))) == (x9_1.length : Int))) = some r := H
                      have A36 := Aside0.mk A360
                      clear A360
                      obtain rfl := Option.some.inj H
                      obtain ⟨Ao37, co37, eo37⟩ := Kd.R_slice HO_9.out
                      subst eo37
                      go_wp2_with (first | ((with_reducible refine gate_callee (f := 20) rfl ?_); refine goesL_ (some 108) rfl rfl Try.func20 (by kernel_rfl) rfl #[.pointer (some ⟨g181, 0, none⟩), .int .i64 (wrap64 (x8_1 + (wrap64 (Int.tmod (IntKind.u64.wrap (a2)) 30)))), .int .i64 (wrap64 (Int.tmod (IntKind.u64.wrap (a1)) 30))] rfl (by (try simp only [List.map_toArray, List.map_cons, List.map_nil]); first | done | rfl | (simp only [List.length_drop, List.length_take]; rfl)) ?_; (with_reducible refine (queue_Queue_Expire.calls g181 x182000_3 (wrap64 (x8_1 + (wrap64 (Int.tmod (IntKind.u64.wrap (a2)) 30)))) (wrap64 (Int.tmod (IntKind.u64.wrap (a1)) 30)) t196 t199 w _ ?side1 ?side2 A34.out).mono ?_); (case side1 => repeat (first | (with_reducible first | exact HI181.out | apply IsS62.alloc | apply IsS62.drewN | apply IsS62.drew | apply IsS62.set_0) | exact HI181.out)); (case side2 => repeat (first | (with_reducible first | exact HB.out | apply below_alloc | apply pw_below_drewN | apply below_drew1 | refine below_set ?_ (IsS62.ge HI181.out)) | exact HB.out)); rintro e w38 ⟨v197, rfl, ho0, hi, hb, hk⟩; refine ⟨_, rfl, ?_⟩; have n0_ := Aside0.mk (Kd.R_mono (Kd.R_told (Ko.R_oldH (IsS62.apart (show IsS62 w _ g181 x182000_3 from by repeat (first | (with_reducible first | exact HI181.out | apply IsS62.alloc | apply IsS62.drewN | apply IsS62.drew | apply IsS62.set_0) | exact HI181.out)) (by (with_reducible repeat (first | apply Kd.R_alloc | apply Kd.R_drewN | apply Kd.R_drew)); exact HO_9.out) (by decide)) hk) (Kd.R_base ho0)) (fun _ h_ => h_.1)); have n1_ := Aside0.mk (Kd.R_mono (Kd.R_told (Ko.R_oldH (IsS62.apart (show IsS62 w _ g181 x182000_3 from by repeat (first | (with_reducible first | exact HI181.out | apply IsS62.alloc | apply IsS62.drewN | apply IsS62.drew | apply IsS62.set_0) | exact HI181.out)) (by (with_reducible repeat (first | apply Kd.R_alloc | apply Kd.R_drewN | apply Kd.R_drew)); exact HO_11.out) (by decide)) hk) (Kd.R_base ho0)) (fun _ h_ => h_.1)); have n2_ := Aside0.mk (Kd.R_lower (Kd.R_new' (Kd.R_new' ho0 (Kd.R_lt (by (with_reducible repeat (first | apply Kd.R_alloc | apply Kd.R_drewN | apply Kd.R_drew)); exact HO_9.out))) (Kd.R_lt (by (with_reducible repeat (first | apply Kd.R_alloc | apply Kd.R_drewN | apply Kd.R_drew)); exact HO_11.out))) (below_size (by repeat (first | (with_reducible first | exact HB.out | apply below_alloc | apply pw_below_drewN | apply below_drew1 | refine below_set ?_ (IsS62.ge HI181.out)) | exact HB.out)))); have n3_ := Aside0.mk (hb); have n4_ := Aside0.mk (hi); clear HO_9; clear HO_11; clear HB; clear HI181; have HO_9 := n0_; have HO_11 := n1_; have HO198 := n2_; have HB := n3_; have HI181 := n4_; clear n0_ n1_ n2_ n3_ n4_; (try clear hb); (try clear hb2); (try clear hk); (try clear hi); (try clear ho0); obtain ⟨Ao39, co39, eo39⟩ := Kd.R_slice HO198.out; subst eo39) | (go_at_call 13; (with_reducible refine (queue_Queue_Len.calls g181 t199 t200 t201 w _ ?side1 ?side2 A36.out).mono ?_); (case side1 => repeat (first | (with_reducible first | exact HI181.out | apply IsS62.alloc | apply IsS62.drewN | apply IsS62.drew | apply IsS62.set_0) | exact HI181.out)); (case side2 => repeat (first | (with_reducible first | exact HB.out | apply below_alloc | apply pw_below_drewN | apply below_drew1 | refine below_set ?_ (IsS62.ge HI181.out)) | exact HB.out)); rintro e w40 ⟨rfl, hi, hb, hk⟩; have n0_ := Aside0.mk (Kd.R_mono (Ko.R_keep (IsS62.apart (show IsS62 w _ g181 t199 from by repeat (first | (with_reducible first | exact HI181.out | apply IsS62.alloc | apply IsS62.drewN | apply IsS62.drew | apply IsS62.set_0) | exact HI181.out)) (by (with_reducible repeat (first | apply Kd.R_alloc | apply Kd.R_drewN | apply Kd.R_drew)); exact HO_9.out) (by decide)) hk (fun _ h => h.2)) (fun _ h => h.1)); have n1_ := Aside0.mk (Kd.R_mono (Ko.R_keep (IsS62.apart (show IsS62 w _ g181 t199 from by repeat (first | (with_reducible first | exact HI181.out | apply IsS62.alloc | apply IsS62.drewN | apply IsS62.drew | apply IsS62.set_0) | exact HI181.out)) (by (with_reducible repeat (first | apply Kd.R_alloc | apply Kd.R_drewN | apply Kd.R_drew)); exact HO_11.out) (by decide)) hk (fun _ h => h.2)) (fun _ h => h.1)); have n2_ := Aside0.mk (Kd.R_mono (Ko.R_keep (IsS62.apart (show IsS62 w _ g181 t199 from by repeat (first | (with_reducible first | exact HI181.out | apply IsS62.alloc | apply IsS62.drewN | apply IsS62.drew | apply IsS62.set_0) | exact HI181.out)) (by (with_reducible repeat (first | apply Kd.R_alloc | apply Kd.R_drewN | apply Kd.R_drew)); exact HO198.out) (by decide)) hk (fun _ h => h.2)) (fun _ h => h.1)); have n3_ := Aside0.mk (hb); have n4_ := Aside0.mk (hi); clear HO_9; clear HO_11; clear HO198; clear HB; clear HI181; have HO_9 := n0_; have HO_11 := n1_; have HO198 := n2_; have HB := n3_; have HI181 := n4_; clear n0_ n1_ n2_ n3_ n4_; (try clear hb); (try clear hb2); (try clear hk); (try clear hi); obtain ⟨Ao41, co41, eo41⟩ := Kd.R_slice HO_11.out; subst eo41))
                      go_ret
                      exact ⟨by first | rfl | (simp only [Int.ofNat_lt]; rfl) | (simp [errW_none, errW_some] <;> rfl) | (simp [*, errW_none, errW_some] <;> rfl), by repeat (first | (with_reducible first | exact HB.out | apply below_alloc | apply pw_below_drewN | apply below_drew1 | refine below_set ?_ (IsS62.ge HI181.out)) | exact HB.out)⟩
                    · rw [if_neg c35] at H
                      exact absurd H (by simp)
  · replace c5 := Bool.eq_false_iff.mpr c5
    subst c5
    have H1 : (none) = some r := by rw [if_neg (show ¬ (false = true) by decide)] at H; exact H
    clear H
    have H := H1
    clear H1
    exact absurd H (by simp)

/-- THE ONE PURE STATEMENT of hostlerlaw12_QueueLate: yours. -/
def hostlerlaw12_QueueLate.Pure : Prop := ∀ (l0 : List Int) (a1 : Int) (a2 : Int), l0.length ≤ maxLen → l0.length * 8 ≤ 140737488351232 → (∀ x ∈ l0, (Lit.int .i64 x).wf = true) → (Lit.int .i64 a1).wf = true → (Lit.int .i64 a2).wf = true → ∃ k, hostlerlaw12_QueueLate.f k l0 a1 a2 = some true
theorem hostlerlaw12_QueueLate.walk (P : hostlerlaw12_QueueLate.Pure) (a0 : Option Addr) (len0 cap0 : Nat) (z0 : List Int) (a1 : Int) (a2 : Int) (w : World) (w0 : (a0 = none ∧ len0 = 0 ∧ cap0 = 0 ∧ z0 = []) ∨ ∃ x, a0 = some x ∧ len0 ≤ cap0 ∧ cap0 ≤ maxLen ∧ z0.length = cap0 ∧ (∀ i, i < z0.length → w.cell? (x.add i) = some (.int .i64 (z0.getD i 0))) ∧ ∀ n ∈ z0, (Lit.int .i64 n).wf = true) (y0 : len0 * 8 ≤ 140737488351232) (w1 : (Lit.int .i64 a1).wf = true) (w2 : (Lit.int .i64 a2).wf = true) :
    Calls Try.prog 5 #[.slice a0 len0 cap0, .int .i64 a1, .int .i64 a2] w fun e w' => e = .returned (.bool true) ∧ Below w.heap.size w w' := by
  obtain ⟨l0, rfl, hr0, hm0, hw0, hc0⟩ := ReadsInt.ofRowC w0
  obtain ⟨k, h⟩ := P l0 a1 a2 hm0 y0 hw0 w1 w2
  refine (hostlerlaw12_QueueLate.calls k _ _ l0 a1 a2 true w (Kd.C_of_reads (d := (0 : Int)) (h1 := fun _ => rfl) hr0) hc0 h).mono ?_
  rintro e w' ⟨rfl, hd⟩
  exact ⟨rfl, hd⟩

-- NOT PRINTED: function 6 (hostlerlaw12_QueuePlays)

-- NOT PRINTED: function 7 (hostlerlaw12_QueueNil)

end Go.Proofs.Ytdcnmjdohjodhaa.PG
