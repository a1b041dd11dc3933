/-
  Contracts of the program's functions and the Lean functions that they compute, laid by a program of this session out of the translation. Conditions: none.
-/
import Derived.Test.YtdcnmjdohjodhaaPHx0
import Derived.Test.YtdcnmjdohjodhaaPHx1
namespace Go.Proofs.Ytdcnmjdohjodhaa.PH
open Go.RowKit Go.Proofs.Ytdcnmjdohjodhaa.PE Go.Proofs.Ytdcnmjdohjodhaa.PA Go.Proofs.Ytdcnmjdohjodhaa.PF Go.Proofs.Ytdcnmjdohjodhaa.Hid Go.Proofs.Ytdcnmjdohjodhaa.Man Go.Proofs.YtdcnmjdohjodhaaW.PrintWords Go.Proofs.YtdcnmjdohjodhaaW.PrintLast Go.Proofs.YtdcnmjdohjodhaaW.PrintMore
attribute [local go_sem] max2_int min2_int max_two min_two max_three min_three max_four min_four   -- for this text's walks alone
set_option linter.unusedVariables false
set_option linter.unusedSimpArgs false

/-! ### hostlerlaw12_QueueRoom: function 4 -/
mutual
def hostlerlaw12_QueueRoom.l0 : Nat → Int → List (S37) → Int → QS → Option (Bool)
  | 0, _, _, _, _ => none
  | k + 1, x0, x1, x6, x119000 => if x6 < (x1.length : Int) then (if 0 ≤ x6 then ((queue_Queue_Ids.f x119000).bind fun bt125 => ((hostlerlaw12_Step_kind.f ((rd_T37 x1 x6).f0) ((rd_T37 x1 x6).f1) ((rd_T37 x1 x6).f2) ((rd_T37 x1 x6).f3)).bind fun t129 => (if t129 = 0 then (hostlerlaw12_QueueRoom.j1 k x0 x1 x6 bt125.1 ([] : List Int) t129 (t129 == 0) bt125.2 ((rd_T37 x1 x6).f0) ((rd_T37 x1 x6).f1) ((rd_T37 x1 x6).f2) ((rd_T37 x1 x6).f3)) else (hostlerlaw12_QueueRoom.j1 k x0 x1 x6 bt125.1 ([] : List Int) t129 (t129 == 1) bt125.2 ((rd_T37 x1 x6).f0) ((rd_T37 x1 x6).f1) ((rd_T37 x1 x6).f2) ((rd_T37 x1 x6).f3))))) else (none)) else (some true)
def hostlerlaw12_QueueRoom.j4 : Nat → Int → List (S37) → Int → List Int → QS → Option (Bool)
  | 0, _, _, _, _, _ => none
  | k + 1, x0, x1, x6, x9, x119000 => (queue_Queue_Ids.f x119000).bind fun bt156 => ((hostlerref01_Same.f k bt156.1 x9).bind fun t160 => (if t160 = true then ((queue_Queue_Len.f bt156.2).bind fun bt161 => ((queue_Queue_Room.f bt161.2).bind fun bt163 => (if (wrap64 (bt161.1 + bt163.1)) = x0 then (hostlerlaw12_QueueRoom.l0 k x0 x1 (wrap64 (x6 + 1)) bt163.2) else (none)))) else (none)))
def hostlerlaw12_QueueRoom.j1 : Nat → Int → List (S37) → Int → List Int → List Int → Int → Bool → QS → Int → Int → Int → Int → Option (Bool)
  | 0, _, _, _, _, _, _, _, _, _, _, _, _ => none
  | k + 1, x0, x1, x6, x8, x9, x35, x36, x119000, x125000, x125001, x125002, x125003 => if x36 = true then (if x9.length + x8.length < 17592186044416 then ((some (x9 ++ x8 : List Int)).bind fun y130 => ((queue_Queue_Push.f x119000 x125001 x125002).bind fun bt133 => (if bt133.1 = 0 then (if y130.length < 17592186044416 then (hostlerlaw12_QueueRoom.j4 k x0 x1 x6 (y130 ++ [x125001]) bt133.2) else (none)) else (hostlerlaw12_QueueRoom.j4 k x0 x1 x6 y130 bt133.2)))) else (none)) else (if x35 = 2 then (hostlerlaw12_QueueRoom.j2 k x0 x1 x6 x8 x9 x35 (x35 == 2) x119000 x125000 x125001 x125002 x125003) else (hostlerlaw12_QueueRoom.j2 k x0 x1 x6 x8 x9 x35 (x35 == 4) x119000 x125000 x125001 x125002 x125003))
def hostlerlaw12_QueueRoom.j2 : Nat → Int → List (S37) → Int → List Int → List Int → Int → Bool → QS → Int → Int → Int → Int → Option (Bool)
  | 0, _, _, _, _, _, _, _, _, _, _, _, _ => none
  | k + 1, x0, x1, x6, x8, x9, x35, x54, x119000, x125000, x125001, x125002, x125003 => if x54 = true then ((queue_Queue_Pop.f x119000).bind fun bt138 => (if (x8.length : Int) > 0 then (if 1 ≤ (x8.length : Int) then ((some (x8.drop 1 : List Int)).bind fun y141 => (if x9.length + y141.length < 17592186044416 then (hostlerlaw12_QueueRoom.j4 k x0 x1 x6 (x9 ++ y141) bt138.2.2) else (none))) else (none)) else (hostlerlaw12_QueueRoom.j4 k x0 x1 x6 x9 bt138.2.2))) else (if x35 = 3 then ((queue_Queue_Place.f x119000 x125001).bind fun bt148 => ((queue_Queue_Remove.f bt148.2 x125001).bind fun bt150 => (if (bt150.1 != (decide (bt148.1 ≥ 0))) = true then (none) else (hostlerlaw12_QueueRoom.l1 k x0 x1 x6 x8 x9 bt148.1 0 bt150.2)))) else (hostlerlaw12_QueueRoom.j4 k x0 x1 x6 x9 x119000))
def hostlerlaw12_QueueRoom.l1 : Nat → Int → List (S37) → Int → List Int → List Int → Int → Int → QS → Option (Bool)
  | 0, _, _, _, _, _, _, _, _ => none
  | k + 1, x0, x1, x6, x8, x9, x10, x11, x119000 => if x11 < (x8.length : Int) then (if x11 = x10 then (hostlerlaw12_QueueRoom.l1 k x0 x1 x6 x8 x9 x10 (wrap64 (x11 + 1)) x119000) else (if 0 ≤ x11 then (if x9.length < 17592186044416 then (hostlerlaw12_QueueRoom.l1 k x0 x1 x6 x8 (x9 ++ [rd x8 x11]) x10 (wrap64 (x11 + 1)) x119000) else (none)) else (none))) else (hostlerlaw12_QueueRoom.j4 k x0 x1 x6 x9 x119000)
end
def hostlerlaw12_QueueRoom.f (k : Nat) (a0 : Int) (l1 : List (S37)) : Option (Bool) := (hostlerlaw12_lives.f).bind fun t116 => (if t116 = true then ((queue_New.f (wrap64 (Int.tmod (IntKind.u64.wrap (a0)) 17))).bind fun t117 => (if 0 ≤ (mn (l1.length : Int) 100) then (if (mn (l1.length : Int) 100) ≤ (l1.length : Int) then (hostlerlaw12_QueueRoom.l0 k (wrap64 (Int.tmod (IntKind.u64.wrap (a0)) 17)) (l1.take ((mn (l1.length : Int) 100) : Int).toNat) 0 t117) else (none)) else (none))) else (none))
theorem hostlerlaw12_QueueRoom.mono_l : ∀ k, (∀ y0 y1 y2 y3, LeO (hostlerlaw12_QueueRoom.l0 k y0 y1 y2 y3) (hostlerlaw12_QueueRoom.l0 (k + 1) y0 y1 y2 y3)) ∧ (∀ y0 y1 y2 y3 y4, LeO (hostlerlaw12_QueueRoom.j4 k y0 y1 y2 y3 y4) (hostlerlaw12_QueueRoom.j4 (k + 1) y0 y1 y2 y3 y4)) ∧ (∀ y0 y1 y2 y3 y4 y5 y6 y7 y8 y9 y10 y11, LeO (hostlerlaw12_QueueRoom.j1 k y0 y1 y2 y3 y4 y5 y6 y7 y8 y9 y10 y11) (hostlerlaw12_QueueRoom.j1 (k + 1) y0 y1 y2 y3 y4 y5 y6 y7 y8 y9 y10 y11)) ∧ (∀ y0 y1 y2 y3 y4 y5 y6 y7 y8 y9 y10 y11, LeO (hostlerlaw12_QueueRoom.j2 k y0 y1 y2 y3 y4 y5 y6 y7 y8 y9 y10 y11) (hostlerlaw12_QueueRoom.j2 (k + 1) y0 y1 y2 y3 y4 y5 y6 y7 y8 y9 y10 y11)) ∧ (∀ y0 y1 y2 y3 y4 y5 y6 y7, LeO (hostlerlaw12_QueueRoom.l1 k y0 y1 y2 y3 y4 y5 y6 y7) (hostlerlaw12_QueueRoom.l1 (k + 1) y0 y1 y2 y3 y4 y5 y6 y7))
  | 0 => ⟨fun _ _ _ _ r h => by simp [hostlerlaw12_QueueRoom.l0] at h, fun _ _ _ _ _ r h => by simp [hostlerlaw12_QueueRoom.j4] at h, fun _ _ _ _ _ _ _ _ _ _ _ _ r h => by simp [hostlerlaw12_QueueRoom.j1] at h, fun _ _ _ _ _ _ _ _ _ _ _ _ r h => by simp [hostlerlaw12_QueueRoom.j2] at h, fun _ _ _ _ _ _ _ _ r h => by simp [hostlerlaw12_QueueRoom.l1] at h⟩
  | k + 1 => by
    obtain ⟨ih0, ih1, ih2, ih3, ih4⟩ := hostlerlaw12_QueueRoom.mono_l k
    refine ⟨?_, ?_, ?_, ?_, ?_⟩
    · intro y0 y1 y2 y3
      unfold hostlerlaw12_QueueRoom.l0
      repeat' first
      | (with_reducible exact ih0 _ _ _ _)
      | (with_reducible exact ih1 _ _ _ _ _)
      | (with_reducible exact ih2 _ _ _ _ _ _ _ _ _ _ _ _)
      | (with_reducible exact ih3 _ _ _ _ _ _ _ _ _ _ _ _)
      | (with_reducible exact ih4 _ _ _ _ _ _ _ _)
      | (with_reducible exact hostlerref01_Same.mono _ _ _)
      | (with_reducible exact LeO.refl _)
      | (with_reducible exact LeO.none _)
      | (with_reducible refine LeO.ite ?_ ?_)
      | (with_reducible refine LeO.bind ?_ (fun _ => ?_))
      | exact ih0 _ _ _ _
      | exact ih1 _ _ _ _ _
      | exact ih2 _ _ _ _ _ _ _ _ _ _ _ _
      | exact ih3 _ _ _ _ _ _ _ _ _ _ _ _
      | exact ih4 _ _ _ _ _ _ _ _
      | exact hostlerref01_Same.mono _ _ _
      | exact LeO.none _
      | refine LeO.ite ?_ ?_
      | refine LeO.bind ?_ (fun _ => ?_)
    · intro y0 y1 y2 y3 y4
      unfold hostlerlaw12_QueueRoom.j4
      repeat' first
      | (with_reducible exact ih0 _ _ _ _)
      | (with_reducible exact ih1 _ _ _ _ _)
      | (with_reducible exact ih2 _ _ _ _ _ _ _ _ _ _ _ _)
      | (with_reducible exact ih3 _ _ _ _ _ _ _ _ _ _ _ _)
      | (with_reducible exact ih4 _ _ _ _ _ _ _ _)
      | (with_reducible exact hostlerref01_Same.mono _ _ _)
      | (with_reducible exact LeO.refl _)
      | (with_reducible exact LeO.none _)
      | (with_reducible refine LeO.ite ?_ ?_)
      | (with_reducible refine LeO.bind ?_ (fun _ => ?_))
      | exact ih0 _ _ _ _
      | exact ih1 _ _ _ _ _
      | exact ih2 _ _ _ _ _ _ _ _ _ _ _ _
      | exact ih3 _ _ _ _ _ _ _ _ _ _ _ _
      | exact ih4 _ _ _ _ _ _ _ _
      | exact hostlerref01_Same.mono _ _ _
      | exact LeO.none _
      | refine LeO.ite ?_ ?_
      | refine LeO.bind ?_ (fun _ => ?_)
    · intro y0 y1 y2 y3 y4 y5 y6 y7 y8 y9 y10 y11
      unfold hostlerlaw12_QueueRoom.j1
      repeat' first
      | (with_reducible exact ih0 _ _ _ _)
      | (with_reducible exact ih1 _ _ _ _ _)
      | (with_reducible exact ih2 _ _ _ _ _ _ _ _ _ _ _ _)
      | (with_reducible exact ih3 _ _ _ _ _ _ _ _ _ _ _ _)
      | (with_reducible exact ih4 _ _ _ _ _ _ _ _)
      | (with_reducible exact hostlerref01_Same.mono _ _ _)
      | (with_reducible exact LeO.refl _)
      | (with_reducible exact LeO.none _)
      | (with_reducible refine LeO.ite ?_ ?_)
      | (with_reducible refine LeO.bind ?_ (fun _ => ?_))
      | exact ih0 _ _ _ _
      | exact ih1 _ _ _ _ _
      | exact ih2 _ _ _ _ _ _ _ _ _ _ _ _
      | exact ih3 _ _ _ _ _ _ _ _ _ _ _ _
      | exact ih4 _ _ _ _ _ _ _ _
      | exact hostlerref01_Same.mono _ _ _
      | exact LeO.none _
      | refine LeO.ite ?_ ?_
      | refine LeO.bind ?_ (fun _ => ?_)
    · intro y0 y1 y2 y3 y4 y5 y6 y7 y8 y9 y10 y11
      unfold hostlerlaw12_QueueRoom.j2
      repeat' first
      | (with_reducible exact ih0 _ _ _ _)
      | (with_reducible exact ih1 _ _ _ _ _)
      | (with_reducible exact ih2 _ _ _ _ _ _ _ _ _ _ _ _)
      | (with_reducible exact ih3 _ _ _ _ _ _ _ _ _ _ _ _)
      | (with_reducible exact ih4 _ _ _ _ _ _ _ _)
      | (with_reducible exact hostlerref01_Same.mono _ _ _)
      | (with_reducible exact LeO.refl _)
      | (with_reducible exact LeO.none _)
      | (with_reducible refine LeO.ite ?_ ?_)
      | (with_reducible refine LeO.bind ?_ (fun _ => ?_))
      | exact ih0 _ _ _ _
      | exact ih1 _ _ _ _ _
      | exact ih2 _ _ _ _ _ _ _ _ _ _ _ _
      | exact ih3 _ _ _ _ _ _ _ _ _ _ _ _
      | exact ih4 _ _ _ _ _ _ _ _
      | exact hostlerref01_Same.mono _ _ _
      | exact LeO.none _
      | refine LeO.ite ?_ ?_
      | refine LeO.bind ?_ (fun _ => ?_)
    · intro y0 y1 y2 y3 y4 y5 y6 y7
      unfold hostlerlaw12_QueueRoom.l1
      repeat' first
      | (with_reducible exact ih0 _ _ _ _)
      | (with_reducible exact ih1 _ _ _ _ _)
      | (with_reducible exact ih2 _ _ _ _ _ _ _ _ _ _ _ _)
      | (with_reducible exact ih3 _ _ _ _ _ _ _ _ _ _ _ _)
      | (with_reducible exact ih4 _ _ _ _ _ _ _ _)
      | (with_reducible exact hostlerref01_Same.mono _ _ _)
      | (with_reducible exact LeO.refl _)
      | (with_reducible exact LeO.none _)
      | (with_reducible refine LeO.ite ?_ ?_)
      | (with_reducible refine LeO.bind ?_ (fun _ => ?_))
      | exact ih0 _ _ _ _
      | exact ih1 _ _ _ _ _
      | exact ih2 _ _ _ _ _ _ _ _ _ _ _ _
      | exact ih3 _ _ _ _ _ _ _ _ _ _ _ _
      | exact ih4 _ _ _ _ _ _ _ _
      | exact hostlerref01_Same.mono _ _ _
      | exact LeO.none _
      | refine LeO.ite ?_ ?_
      | refine LeO.bind ?_ (fun _ => ?_)
theorem hostlerlaw12_QueueRoom.mono : ∀ a0 a1 k, LeO (hostlerlaw12_QueueRoom.f k a0 a1) (hostlerlaw12_QueueRoom.f (k + 1) a0 a1) := by
  intro a0 a1 k
  obtain ⟨ih0, ih1, ih2, ih3, ih4⟩ := hostlerlaw12_QueueRoom.mono_l k
  unfold hostlerlaw12_QueueRoom.f
  repeat' first
      | (with_reducible exact ih0 _ _ _ _)
      | (with_reducible exact ih1 _ _ _ _ _)
      | (with_reducible exact ih2 _ _ _ _ _ _ _ _ _ _ _ _)
      | (with_reducible exact ih3 _ _ _ _ _ _ _ _ _ _ _ _)
      | (with_reducible exact ih4 _ _ _ _ _ _ _ _)
      | (with_reducible exact hostlerref01_Same.mono _ _ _)
      | (with_reducible exact LeO.refl _)
      | (with_reducible exact LeO.none _)
      | (with_reducible refine LeO.ite ?_ ?_)
      | (with_reducible refine LeO.bind ?_ (fun _ => ?_))
      | exact ih0 _ _ _ _
      | exact ih1 _ _ _ _ _
      | exact ih2 _ _ _ _ _ _ _ _ _ _ _ _
      | exact ih3 _ _ _ _ _ _ _ _ _ _ _ _
      | exact ih4 _ _ _ _ _ _ _ _
      | exact hostlerref01_Same.mono _ _ _
      | exact LeO.none _
      | refine LeO.ite ?_ ?_
      | refine LeO.bind ?_ (fun _ => ?_)
set_option maxHeartbeats 8000000 in
set_option maxRecDepth 100000 in
theorem hostlerlaw12_QueueRoom.calls (k : Nat) (a0 : Int) (A1 : Option Addr) (c1 : Nat) (l1 : List (S37)) (r : Bool) (w : World) (hr1 : Kd.C k37 w A1 l1.length l1) (hc1 : l1.length ≤ c1) (h : hostlerlaw12_QueueRoom.f k a0 l1 = some r) :
    Calls Try.prog 4 #[.int .i64 a0, .slice A1 l1.length c1] w fun e w' => e = .returned (.bool r) ∧ Below w.heap.size w w' := by
  have hu37 := Try.underlying37
  have HR1 := Aside0.mk hr1
  have HC1 := Aside0.mk hc1
  clear hr1 hc1
  have HB := Aside0.mk (Below.refl w.heap.size w)
  have H : ((hostlerlaw12_lives.f).bind fun t116 => (if t116 = true then ((queue_New.f (wrap64 (Int.tmod (IntKind.u64.wrap (a0)) 17))).bind fun t117 => (if 0 ≤ (mn (l1.length : Int) 100) then (if (mn (l1.length : Int) 100) ≤ (l1.length : Int) then (hostlerlaw12_QueueRoom.l0 k (wrap64 (Int.tmod (IntKind.u64.wrap (a0)) 17)) (l1.take ((mn (l1.length : Int) 100) : Int).toNat) 0 t117) else (none)) else (none))) else (none))) = some r := h
  clear h
  replace H := Option.bind_eq_some_iff.mp H
  obtain ⟨t116, A30, H⟩ := H
  replace H : (if t116 = true then ((queue_New.f (wrap64 (Int.tmod (IntKind.u64.wrap (a0)) 17))).bind fun t117 => (if 0 ≤ (mn (l1.length : Int) 100) then (if (mn (l1.length : Int) 100) ≤ (l1.length : Int) then (hostlerlaw12_QueueRoom.l0 k (wrap64 (Int.tmod (IntKind.u64.wrap (a0)) 17)) (l1.take ((mn (l1.length : Int) 100) : Int).toNat) 0 t117) else (none)) else (none))) else (none)) = some r := H
  have A3 := Aside0.mk A30
  clear A30
  by_cases c4 : t116 = true
  · subst c4
    have H1 : ((queue_New.f (wrap64 (Int.tmod (IntKind.u64.wrap (a0)) 17))).bind fun t117 => (if 0 ≤ (mn (l1.length : Int) 100) then (if (mn (l1.length : Int) 100) ≤ (l1.length : Int) then (hostlerlaw12_QueueRoom.l0 k (wrap64 (Int.tmod (IntKind.u64.wrap (a0)) 17)) (l1.take ((mn (l1.length : Int) 100) : Int).toNat) 0 t117) else (none)) else (none))) = some r := by rw [if_pos rfl] at H; exact H
    clear H
    have H := H1
    clear H1
    replace H := Option.bind_eq_some_iff.mp H
    obtain ⟨t117, A50, H⟩ := H
    replace H : (if 0 ≤ (mn (l1.length : Int) 100) then (if (mn (l1.length : Int) 100) ≤ (l1.length : Int) then (hostlerlaw12_QueueRoom.l0 k (wrap64 (Int.tmod (IntKind.u64.wrap (a0)) 17)) (l1.take ((mn (l1.length : Int) 100) : Int).toNat) 0 t117) else (none)) else (none)) = some r := H
    have A5 := Aside0.mk A50
    clear A50
    by_cases c6 : 0 ≤ (mn (l1.length : Int) 100)
    · rw [if_pos c6] at H
      have c6b0 := eq_true c6
      have c6b1 : decide (0 ≤ (mn (l1.length : Int) 100)) = true := decide_eq_true c6
      clear c6
      by_cases c7 : (mn (l1.length : Int) 100) ≤ (l1.length : Int)
      · rw [if_pos c7] at H
        have c7b0 := eq_true c7
        have c7b1 : decide ((mn (l1.length : Int) 100) ≤ (l1.length : Int)) = true := decide_eq_true c7
        clear c7
        obtain ⟨y119, hy119⟩ : ∃ y_ : List (S37), y_ = (l1.take ((mn (l1.length : Int) 100) : Int).toNat) := ⟨_, rfl⟩
        replace H : (hostlerlaw12_QueueRoom.l0 k (wrap64 (Int.tmod (IntKind.u64.wrap (a0)) 17)) y119 0 t117) = some r := by first | (rw [hy119]; with_reducible exact H) | (have H2_ := (Option.bind_some _ _).symm.trans H; rw [hy119]; with_reducible exact H2_) | (have H2_ := (Option.bind_some _ _).symm.trans H; with_reducible exact H2_) | with_reducible exact H | (rw [hy119]; exact H) | exact H
        have Ny119 := Aside0.mk hy119
        clear hy119
        have H' := Aside0.mk H
        clear H
        go_enter Try.func4, Try.ntmps4
        go_wp2_with (first | (go_at_call 14; refine (early_raw _ _ _ _ _ _ (by assumption) (by first | assumption | rfl) (Aside0.out (by assumption))).mono ?_; rintro e w' ⟨rfl, rfl⟩) | ((with_reducible refine gate_callee (f := 8) rfl ?_); refine goesL_ (some 12) rfl rfl Try.func8 (by kernel_rfl) rfl #[] rfl (by (try simp only [List.map_toArray, List.map_cons, List.map_nil]); first | done | rfl | (simp only [List.length_drop, List.length_take]; rfl)) ?_; (with_reducible refine (hostlerlaw12_lives.calls  true _ A3.out).mono ?_); rintro e w8 ⟨rfl, hb⟩; refine ⟨_, rfl, ?_⟩; have n0_ := Aside0.mk (below_step (by repeat (first | (with_reducible first | exact HB.out | apply below_alloc | apply pw_below_drewN | apply below_drew1) | exact HB.out)) hb); clear HB; have HB := n0_; clear n0_; (try clear hb); (try clear hb2); (try clear hk); (try clear hi)) | ((with_reducible refine gate_callee (f := 9) rfl ?_); refine goesL_ (some 19) rfl rfl Try.func9 (by kernel_rfl) rfl #[.int .i64 (wrap64 (Int.tmod (IntKind.u64.wrap (a0)) 17))] rfl (by (try simp only [List.map_toArray, List.map_cons, List.map_nil]); first | done | rfl | (simp only [List.length_drop, List.length_take]; rfl)) ?_; (with_reducible refine (queue_New.calls (wrap64 (Int.tmod (IntKind.u64.wrap (a0)) 17)) t117 w _ ?side1 A5.out).mono ?_); (case side1 => repeat (first | (with_reducible first | exact HB.out | apply below_alloc | apply pw_below_drewN | apply below_drew1) | exact HB.out)); rintro e w9 ⟨g118, rfl, hi, hb, hb2⟩; refine ⟨_, rfl, ?_⟩; have n0_ := Aside0.mk (hb); have n1_ := Aside0.mk (hi); clear HB; have HB := n0_; have HI118 := n1_; clear n0_ n1_; (try clear hb); (try clear hb2); (try clear hk); (try clear hi); have q10 : ((mn (l1.length : Int) 100) : Int) ≤ ((l1.length : Int) : Int) := of_decide_eq_true (by first | (with_reducible assumption) | assumption); obtain ⟨i010, hi010, _, hsz10, _⟩ := info_parts info37; have hroom10 : l1.length ≤ c1 := HC1.out; have hC10 : Kd.C k37 _ A1 l1.length l1 := HR1.out; have hcut10 := cut_to (P := Try.prog) 34 37 .i64 Try.underlying34 hi010 A1 l1.length c1 (mn (l1.length : Int) 100) (of_decide_eq_true (by first | (with_reducible assumption) | assumption)) q10 hroom10; have hr10 := Kd.C_take (m := ((mn (l1.length : Int) 100) : Int).toNat) hC10 (by omega); have hy10 : y119.length = ((mn (l1.length : Int) 100) : Int).toNat := (by rw [Ny119.out, List.length_take]; omega); rw [← Ny119.out] at hr10; rw [← hy10] at hcut10; have HR122 := Aside0.mk hr10; have HC122 := Aside0.mk (show y119.length ≤ c1 from by omega); clear hr10 hC10 hroom10 hi010 hsz10; have KY10 := Aside0.mk hy10; clear hy10; replace q10 := eq_true q10))
        go_loopg [6] k (fun kq v6 w' => ∃ (x6_1 : Int) (x119000_1 : QS), v6 = .int .i64 x6_1 ∧ Aside0 (hostlerlaw12_QueueRoom.l0 kq (wrap64 (Int.tmod (IntKind.u64.wrap (a0)) 17)) y119 x6_1 x119000_1 = some r) ∧ Aside0 (kq ≤ k) ∧ Aside0 (IsS62 w w' g118 x119000_1) ∧ Aside0 (Below w.heap.size w w'))
        case atStart => exact ⟨(0), (t117), (by first | rfl | (simp; done) | (simp [*]; done)), H', ⟨Nat.le_refl _⟩, ⟨by repeat (first | (with_reducible first | exact HI118.out | apply IsS62.alloc | apply IsS62.drewN | apply IsS62.drew | apply IsS62.set_0) | exact HI118.out)⟩, ⟨by repeat (first | (with_reducible first | exact HB.out | apply below_alloc | apply pw_below_drewN | apply below_drew1 | refine below_set ?_ (IsS62.ge HI118.out)) | exact HB.out)⟩⟩
        case round =>
          clear H'
          try clear c1
          try clear q1
          try clear p2
          try clear c4
          try clear c6
          try clear c6b0
          try clear c6b1
          try clear p6
          try clear c7
          try clear c7b0
          try clear c7b1
          try clear c8
          try clear c9
          try clear q10
          try clear q10
          obtain ⟨x6_1, x119000_1, rfl, HA, HK1, HI118, HB⟩ := hrel
          cases gk with
          | zero => exact absurd HA.out (by simp [hostlerlaw12_QueueRoom.l0])
          | succ k1 =>
            have H := HA.out
            clear HA
            simp only [hostlerlaw12_QueueRoom.l0] at H
            by_cases c11 : x6_1 < (y119.length : Int)
            · rw [if_pos c11] at H
              have c11b0 : decide (x6_1 < (y119.length : Int)) = true := decide_eq_true c11
              clear c11
              by_cases c12 : 0 ≤ x6_1
              · rw [if_pos c12] at H
                have c12b0 : decide (0 ≤ x6_1) = true := decide_eq_true c12
                clear c12
                replace H := Option.bind_eq_some_iff.mp H
                obtain ⟨⟨t125, t128⟩, A130, H⟩ := H
                replace H : ((hostlerlaw12_Step_kind.f ((rd_T37 y119 x6_1).f0) ((rd_T37 y119 x6_1).f1) ((rd_T37 y119 x6_1).f2) ((rd_T37 y119 x6_1).f3)).bind fun t129 => (if t129 = 0 then (hostlerlaw12_QueueRoom.j1 k1 (wrap64 (Int.tmod (IntKind.u64.wrap (a0)) 17)) y119 x6_1 t125 ([] : List Int) t129 (t129 == 0) t128 ((rd_T37 y119 x6_1).f0) ((rd_T37 y119 x6_1).f1) ((rd_T37 y119 x6_1).f2) ((rd_T37 y119 x6_1).f3)) else (hostlerlaw12_QueueRoom.j1 k1 (wrap64 (Int.tmod (IntKind.u64.wrap (a0)) 17)) y119 x6_1 t125 ([] : List Int) t129 (t129 == 1) t128 ((rd_T37 y119 x6_1).f0) ((rd_T37 y119 x6_1).f1) ((rd_T37 y119 x6_1).f2) ((rd_T37 y119 x6_1).f3)))) = some r := H
                have A13 := Aside0.mk A130
                clear A130
                replace H := Option.bind_eq_some_iff.mp H
                obtain ⟨t129, A140, H⟩ := H
                replace H : (if t129 = 0 then (hostlerlaw12_QueueRoom.j1 k1 (wrap64 (Int.tmod (IntKind.u64.wrap (a0)) 17)) y119 x6_1 t125 ([] : List Int) t129 (t129 == 0) t128 ((rd_T37 y119 x6_1).f0) ((rd_T37 y119 x6_1).f1) ((rd_T37 y119 x6_1).f2) ((rd_T37 y119 x6_1).f3)) else (hostlerlaw12_QueueRoom.j1 k1 (wrap64 (Int.tmod (IntKind.u64.wrap (a0)) 17)) y119 x6_1 t125 ([] : List Int) t129 (t129 == 1) t128 ((rd_T37 y119 x6_1).f0) ((rd_T37 y119 x6_1).f1) ((rd_T37 y119 x6_1).f2) ((rd_T37 y119 x6_1).f3))) = some r := H
                have A14 := Aside0.mk A140
                clear A140
                have HC15 := Aside0.mk H
                clear H
                have p123 : 0 ≤ (x6_1 : Int) := of_decide_eq_true (by first | (with_reducible assumption) | assumption)
                have q123 : x6_1 < (y119.length : Int) := of_decide_eq_true (by first | (with_reducible assumption) | assumption)
                obtain ⟨ad123, e123, hx123_0, hx123_1, hx123_2, hx123_3⟩ := at_T37 HR122.out x6_1 p123 q123
                cases e123
                replace hx123_0 := (HB.out.cell (World.block_lt_of_cell? w _ hx123_0)).trans hx123_0
                replace hx123_1 := (HB.out.cell (World.block_lt_of_cell? w _ hx123_1)).trans hx123_1
                replace hx123_2 := (HB.out.cell (World.block_lt_of_cell? w _ hx123_2)).trans hx123_2
                replace hx123_3 := (HB.out.cell (World.block_lt_of_cell? w _ hx123_3)).trans hx123_3
                replace p123 := eq_true p123
                replace q123 := eq_true q123
                go_upto_block 2 with (first | ((with_reducible refine gate_dst (N := 7) rfl ?_); refine box_event ?hg (N := 7) ?hd (cs := #[.int .i64 0, .int .i64 0, .int .i64 0, .int .i64 0]) (t := 37) ?hr ?_; (case hd => rfl); (case hg => rfl); (case hr => first | (go_simp; done) | (go_simp; rfl)); intro gb124 hg w16 hbox hb; have n0_ := Aside0.mk (IsS62.below (by repeat (first | (with_reducible first | exact HI118.out | apply IsS62.alloc | apply IsS62.drewN | apply IsS62.drew | apply IsS62.set_0) | exact HI118.out)) hb); have n1_ := Aside0.mk (below_step (by repeat (first | (with_reducible first | exact HB.out | apply below_alloc | apply pw_below_drewN | apply below_drew1 | refine below_set ?_ (IsS62.ge HI118.out)) | exact HB.out)) hb); have n2_ := Aside0.mk (hbox); have n3_ := Aside0.mk ((by rw [hg]; exact (below_size (by repeat (first | (with_reducible first | exact HB.out | apply below_alloc | apply pw_below_drewN | apply below_drew1 | refine below_set ?_ (IsS62.ge HI118.out)) | exact HB.out))) : w.heap.size ≤ gb124)); have n4_ := Aside0.mk ((by rw [hg]; exact (below_size (by repeat (first | (with_reducible first | exact HB.out | apply below_alloc | apply pw_below_drewN | apply below_drew1 | refine below_set ?_ (IsS62.ge HI118.out)) | exact HB.out))) : w.heap.size ≤ gb124)); have n5_ := Aside0.mk ((by rw [hg]; exact Nat.ne_of_lt (IsS62.lt (show IsS62 w _ g118 x119000_1 from by repeat (first | (with_reducible first | exact HI118.out | apply IsS62.alloc | apply IsS62.drewN | apply IsS62.drew | apply IsS62.set_0) | exact HI118.out))) : g118 ≠ gb124)); have n6_ := Aside0.mk ((by rw [hg]; exact Nat.ne_of_gt (IsS62.lt (show IsS62 w _ g118 x119000_1 from by repeat (first | (with_reducible first | exact HI118.out | apply IsS62.alloc | apply IsS62.drewN | apply IsS62.drew | apply IsS62.set_0) | exact HI118.out))) : gb124 ≠ g118)); clear HI118; clear HB; have HI118 := n0_; have HB := n1_; have BK124 := n2_; have GW124 := n3_; have GE124 := n4_; have NB118_124 := n5_; have NB124_118 := n6_; clear n0_ n1_ n2_ n3_ n4_ n5_ n6_; clear hb hbox hg; have hnb17 := NB124_118.out; have hnc17 := NB118_124.out; have hcz18_0 : w16.cell? ⟨gb124, 0, none⟩ = some (.int .i64 0) := (blk_cell BK124.out 0).trans rfl; have hcz18_1 : w16.cell? ⟨gb124, 1, none⟩ = some (.int .i64 0) := (blk_cell BK124.out 1).trans rfl; have hcz18_2 : w16.cell? ⟨gb124, 2, none⟩ = some (.int .i64 0) := (blk_cell BK124.out 2).trans rfl; have hcz18_3 : w16.cell? ⟨gb124, 3, none⟩ = some (.int .i64 0) := (blk_cell BK124.out 3).trans rfl; have hfz18_0 := blk_frozen BK124.out 0; have hfz18_1 := blk_frozen BK124.out 1; have hfz18_2 := blk_frozen BK124.out 2; have hfz18_3 := blk_frozen BK124.out 3) | ((with_reducible refine gate_callee (f := 15) rfl ?_); refine goesL_ (some 33) rfl rfl Try.func15 (by kernel_rfl) rfl #[.pointer (some ⟨g118, 0, none⟩)] rfl (by (try simp only [List.map_toArray, List.map_cons, List.map_nil]); first | done | rfl | (simp only [List.length_drop, List.length_take]; rfl)) ?_; (with_reducible refine (queue_Queue_Ids.calls g118 x119000_1 t125 t128 w _ ?side1 ?side2 A13.out).mono ?_); (case side1 => repeat (first | (with_reducible first | exact HI118.out | apply IsS62.alloc | apply IsS62.drewN | apply IsS62.drew | apply IsS62.set_0 | refine IsS62.far ?_ (by repeat (first | exact Hid.vis_cells BK124.out (by decide) | apply Hid.vis_set | apply Hid.vis_alloc | apply Hid.vis_drewN | apply Hid.vis_drew)) _) | exact HI118.out)); (case side2 => repeat (first | (with_reducible first | exact HB.out | apply below_alloc | apply pw_below_drewN | apply below_drew1 | refine below_set ?_ (IsS62.ge HI118.out) | refine below_set ?_ GE124.out) | exact HB.out)); rintro e w19 ⟨v126, rfl, ho0, hi, hb, hk⟩; refine ⟨_, rfl, ?_⟩; have n0_ := Aside0.mk (Ko.blkc (g := gb124) (cs := #[.int .i64 ((rd_T37 y119 x6_1).f0), .int .i64 ((rd_T37 y119 x6_1).f1), .int .i64 ((rd_T37 y119 x6_1).f2), .int .i64 ((rd_T37 y119 x6_1).f3)]) (t := 37) hk (by (with_reducible repeat (first | refine blk_drewN ?_ _ | refine blk_drew ?_ | refine blk_alloc ?_ _)); refine blk_put (cs := #[.int .i64 ((rd_T37 y119 x6_1).f0), .int .i64 ((rd_T37 y119 x6_1).f1), .int .i64 ((rd_T37 y119 x6_1).f2), .int .i64 0]) ?_ 3 _ rfl; (with_reducible repeat (first | refine blk_drewN ?_ _ | refine blk_drew ?_ | refine blk_alloc ?_ _)); refine blk_put (cs := #[.int .i64 ((rd_T37 y119 x6_1).f0), .int .i64 ((rd_T37 y119 x6_1).f1), .int .i64 0, .int .i64 0]) ?_ 2 _ rfl; (with_reducible repeat (first | refine blk_drewN ?_ _ | refine blk_drew ?_ | refine blk_alloc ?_ _)); refine blk_put (cs := #[.int .i64 ((rd_T37 y119 x6_1).f0), .int .i64 0, .int .i64 0, .int .i64 0]) ?_ 1 _ rfl; (with_reducible repeat (first | refine blk_drewN ?_ _ | refine blk_drew ?_ | refine blk_alloc ?_ _)); refine blk_put (cs := #[.int .i64 0, .int .i64 0, .int .i64 0, .int .i64 0]) ?_ 0 _ rfl; (with_reducible repeat (first | refine blk_drewN ?_ _ | refine blk_drew ?_ | refine blk_alloc ?_ _)); exact BK124.out) (by decide)); have n1_ := Aside0.mk (Kd.R_lower ho0 (below_size (by repeat (first | (with_reducible first | exact HB.out | apply below_alloc | apply pw_below_drewN | apply below_drew1 | refine below_set ?_ (IsS62.ge HI118.out) | refine below_set ?_ GE124.out) | exact HB.out)))); have n2_ := Aside0.mk (hb); have n3_ := Aside0.mk (hi); clear BK124; clear HB; clear HI118; have BK124 := n0_; have HO127 := n1_; have HB := n2_; have HI118 := n3_; clear n0_ n1_ n2_ n3_; (try clear hb); (try clear hb2); (try clear hk); (try clear hi); (try clear ho0); have hcz20_0 : w19.cell? ⟨gb124, 0, none⟩ = some (.int .i64 ((rd_T37 y119 x6_1).f0)) := (blk_cell BK124.out 0).trans rfl; have hcz20_1 : w19.cell? ⟨gb124, 1, none⟩ = some (.int .i64 ((rd_T37 y119 x6_1).f1)) := (blk_cell BK124.out 1).trans rfl; have hcz20_2 : w19.cell? ⟨gb124, 2, none⟩ = some (.int .i64 ((rd_T37 y119 x6_1).f2)) := (blk_cell BK124.out 2).trans rfl; have hcz20_3 : w19.cell? ⟨gb124, 3, none⟩ = some (.int .i64 ((rd_T37 y119 x6_1).f3)) := (blk_cell BK124.out 3).trans rfl; have hfz20_0 := blk_frozen BK124.out 0; have hfz20_1 := blk_frozen BK124.out 1; have hfz20_2 := blk_frozen BK124.out 2; have hfz20_3 := blk_frozen BK124.out 3) | ((with_reducible refine gate_callee (f := 16) rfl ?_); refine goesL_ (some 35) rfl rfl Try.func16 (by kernel_rfl) rfl #[.agg #[.int .i64 ((rd_T37 y119 x6_1).f0), .int .i64 ((rd_T37 y119 x6_1).f1), .int .i64 ((rd_T37 y119 x6_1).f2), .int .i64 ((rd_T37 y119 x6_1).f3)]] rfl (by (try simp only [List.map_toArray, List.map_cons, List.map_nil]); first | done | rfl | (simp only [List.length_drop, List.length_take]; rfl)) ?_; (with_reducible refine (hostlerlaw12_Step_kind.calls ((rd_T37 y119 x6_1).f0) ((rd_T37 y119 x6_1).f1) ((rd_T37 y119 x6_1).f2) ((rd_T37 y119 x6_1).f3) t129 _ A14.out).mono ?_); rintro e w21 ⟨rfl, hb⟩; refine ⟨_, rfl, ?_⟩; have n0_ := Aside0.mk (Kd.R_below (by (with_reducible repeat (first | apply Kd.R_alloc | apply Kd.R_drewN | apply Kd.R_drew)); exact HO127.out) hb); have n1_ := Aside0.mk (IsS62.below (by repeat (first | (with_reducible first | exact HI118.out | apply IsS62.alloc | apply IsS62.drewN | apply IsS62.drew | apply IsS62.set_0 | refine IsS62.far ?_ (by repeat (first | exact Hid.vis_cells BK124.out (by decide) | apply Hid.vis_set | apply Hid.vis_alloc | apply Hid.vis_drewN | apply Hid.vis_drew)) _) | exact HI118.out)) hb); have n2_ := Aside0.mk (blk_below (g := gb124) (o := .cells #[.int .i64 ((rd_T37 y119 x6_1).f0), .int .i64 ((rd_T37 y119 x6_1).f1), .int .i64 ((rd_T37 y119 x6_1).f2), .int .i64 ((rd_T37 y119 x6_1).f3)] 37 (0, 0)) (by (with_reducible repeat (first | refine blk_drewN ?_ _ | refine blk_drew ?_ | refine blk_alloc ?_ _)); exact BK124.out) hb); have n3_ := Aside0.mk (below_step (by repeat (first | (with_reducible first | exact HB.out | apply below_alloc | apply pw_below_drewN | apply below_drew1 | refine below_set ?_ (IsS62.ge HI118.out) | refine below_set ?_ GE124.out) | exact HB.out)) hb); clear HO127; clear HI118; clear BK124; clear HB; have HO127 := n0_; have HI118 := n1_; have BK124 := n2_; have HB := n3_; clear n0_ n1_ n2_ n3_; (try clear hb); (try clear hb2); (try clear hk); (try clear hi)))
                (try simp only [Act.put, List.setIfInBounds_toArray, List.set_cons_zero, List.set_cons_succ])
                go_cut [9] (fun v9 wc => ∃ (kq : Nat) (x9_14 : List Int) (x119000_14 : QS), Aside0 (hostlerlaw12_QueueRoom.j4 kq (wrap64 (Int.tmod (IntKind.u64.wrap (a0)) 17)) y119 x6_1 x9_14 x119000_14 = some r) ∧ Aside0 (kq ≤ k1) ∧ Aside0 (Kd.R (Kd.int .i64) 3 wc w.heap.size (fun _ => True) v9 x9_14) ∧ Aside0 (wc.heap[gb124]? = some (.cells #[.int .i64 ((rd_T37 y119 x6_1).f0), .int .i64 ((rd_T37 y119 x6_1).f1), .int .i64 ((rd_T37 y119 x6_1).f2), .int .i64 ((rd_T37 y119 x6_1).f3)] 37 (0, 0))) ∧ Aside0 (IsS62 w wc g118 x119000_14) ∧ Aside0 (Below w.heap.size w wc))
                case first =>
                  have H := HC15.out
                  clear HC15
                  have HC22 := Aside0.mk H
                  clear H
                  go_upto_if 36 with (fail)
                  go_cut [36] (fun v36 wc => ∃ (kq : Nat) (x36_21 : Bool), v36 = .bool x36_21 ∧ Aside0 (hostlerlaw12_QueueRoom.j1 kq (wrap64 (Int.tmod (IntKind.u64.wrap (a0)) 17)) y119 x6_1 t125 ([] : List Int) t129 x36_21 t128 ((rd_T37 y119 x6_1).f0) ((rd_T37 y119 x6_1).f1) ((rd_T37 y119 x6_1).f2) ((rd_T37 y119 x6_1).f3) = some r) ∧ Aside0 (kq ≤ k1) ∧ Aside0 (Kd.R (Kd.int .i64) 3 wc w.heap.size (fun k_ => some k_ ≠ ((.slice none 0 0) : Value).ownBlock) v126 t125) ∧ Aside0 (Kd.R (Kd.int .i64) 3 wc w.heap.size (fun k_ => some k_ ≠ (v126 : Value).ownBlock) (.slice none 0 0) ([] : List Int)) ∧ Aside0 (wc.heap[gb124]? = some (.cells #[.int .i64 ((rd_T37 y119 x6_1).f0), .int .i64 ((rd_T37 y119 x6_1).f1), .int .i64 ((rd_T37 y119 x6_1).f2), .int .i64 ((rd_T37 y119 x6_1).f3)] 37 (0, 0))) ∧ Aside0 (IsS62 w wc g118 t128) ∧ Aside0 (Below w.heap.size w wc))
                  case first =>
                    have H := HC22.out
                    clear HC22
                    by_cases c23 : t129 = 0
                    · rw [if_pos c23] at H
                      have c23b0 : (t129 == 0) = true := beq_iff_eq.mpr c23
                      have c23b1 : (t129 != 0) = false := bne_eq_false_iff_eq.mpr c23
                      clear c23
                      (first | rw [c23b0] | (simp only [i64_w, i32_w]; rw [c23b0]) | skip)
                      have H' := Aside0.mk H
                      clear H
                      go_wp2
                      go_meet
                      case rel => exact ⟨_, ((t129 == 0)), (by first | rfl | (simp; done) | (simp [*]; done)), H', ⟨by have := HK1.out; first | omega | exact Nat.le_refl _⟩, ⟨by (with_reducible repeat (first | apply Kd.R_alloc | apply Kd.R_drewN | apply Kd.R_drew)); exact Kd.R_mono HO127.out (fun _ hk => (by simp [Value.ownBlock]))⟩, ⟨by first | exact Kd.R_nil _ _ _ _ _ | exact Kd.N_nil _ _ _ _ _ | exact Kd.V_nil _ _ _ _ _ | exact Kd.Q_nil _ _ _ _ _ | exact Kd.S_nil _ _ _ _ _⟩, ⟨by (with_reducible repeat (first | refine blk_drewN ?_ _ | refine blk_drew ?_ | refine blk_alloc ?_ _)); exact BK124.out⟩, ⟨by repeat (first | (with_reducible first | exact HI118.out | apply IsS62.alloc | apply IsS62.drewN | apply IsS62.drew | apply IsS62.set_0 | refine IsS62.far ?_ (by repeat (first | exact Hid.vis_cells BK124.out (by decide) | apply Hid.vis_set | apply Hid.vis_alloc | apply Hid.vis_drewN | apply Hid.vis_drew)) _) | exact HI118.out)⟩, ⟨by repeat (first | (with_reducible first | exact HB.out | apply below_alloc | apply pw_below_drewN | apply below_drew1 | refine below_set ?_ (IsS62.ge HI118.out) | refine below_set ?_ GE124.out) | exact HB.out)⟩⟩
                    · rw [if_neg c23] at H
                      have c23b0 : (t129 == 0) = false := beq_eq_false_iff_ne.mpr c23
                      have c23b1 : (t129 != 0) = true := bne_iff_ne.mpr c23
                      (first | rw [c23b0] | (simp only [i64_w, i32_w]; rw [c23b0]) | skip)
                      have H' := Aside0.mk H
                      clear H
                      go_wp2
                      go_meet
                      case rel => exact ⟨_, ((t129 == 1)), (by first | rfl | (simp; done) | (simp [*]; done)), H', ⟨by have := HK1.out; first | omega | exact Nat.le_refl _⟩, ⟨by (with_reducible repeat (first | apply Kd.R_alloc | apply Kd.R_drewN | apply Kd.R_drew)); exact Kd.R_mono HO127.out (fun _ hk => (by simp [Value.ownBlock]))⟩, ⟨by first | exact Kd.R_nil _ _ _ _ _ | exact Kd.N_nil _ _ _ _ _ | exact Kd.V_nil _ _ _ _ _ | exact Kd.Q_nil _ _ _ _ _ | exact Kd.S_nil _ _ _ _ _⟩, ⟨by (with_reducible repeat (first | refine blk_drewN ?_ _ | refine blk_drew ?_ | refine blk_alloc ?_ _)); exact BK124.out⟩, ⟨by repeat (first | (with_reducible first | exact HI118.out | apply IsS62.alloc | apply IsS62.drewN | apply IsS62.drew | apply IsS62.set_0 | refine IsS62.far ?_ (by repeat (first | exact Hid.vis_cells BK124.out (by decide) | apply Hid.vis_set | apply Hid.vis_alloc | apply Hid.vis_drewN | apply Hid.vis_drew)) _) | exact HI118.out)⟩, ⟨by repeat (first | (with_reducible first | exact HB.out | apply below_alloc | apply pw_below_drewN | apply below_drew1 | refine below_set ?_ (IsS62.ge HI118.out) | refine below_set ?_ GE124.out) | exact HB.out)⟩⟩
                  case rest =>
                    clear HC22
                    try clear c1
                    try clear p1
                    try clear q1
                    try clear hx1
                    try clear c2
                    try clear p2
                    try clear c4
                    try clear c6
                    try clear c6b0
                    try clear c6b1
                    try clear p6
                    try clear c7
                    try clear c7b0
                    try clear c7b1
                    try clear c8
                    try clear c9
                    try clear q10
                    try clear c11
                    try clear c11b0
                    try clear c12
                    try clear c12b0
                    try clear p12
                    try clear q12
                    try clear hx12
                    try clear c15
                    try clear c16
                    try clear c17
                    try clear c23
                    try clear c23b0
                    try clear c23b1
                    try clear hcz18_0
                    try clear hcz18_1
                    try clear hcz18_2
                    try clear hcz18_3
                    try clear hcz20_0
                    try clear hcz20_1
                    try clear hcz20_2
                    try clear hcz20_3
                    try clear hfz18_0
                    try clear hfz18_1
                    try clear hfz18_2
                    try clear hfz18_3
                    try clear hfz20_0
                    try clear hfz20_1
                    try clear hfz20_2
                    try clear hfz20_3
                    try clear hx123_0
                    try clear hx123_1
                    try clear hx123_2
                    try clear hx123_3
                    try clear p123
                    try clear p2
                    try clear p6
                    try clear q1
                    try clear q10
                    try clear q123
                    obtain ⟨kq, x36_21, rfl, HA, HJ21, HO_8, HO_9, BK124, HI118, HB⟩ := hcut
                    cases kq with
                    | zero => exact absurd HA.out (by simp [hostlerlaw12_QueueRoom.j1])
                    | succ kj21 =>
                      have H := HA.out
                      clear HA
                      simp only [hostlerlaw12_QueueRoom.j1] at H
                      by_cases c24 : x36_21 = true
                      · subst c24
                        have H1 : (if ([] : List Int).length + t125.length < 17592186044416 then ((some (([] : List Int) ++ t125 : List Int)).bind fun y130 => ((queue_Queue_Push.f t128 ((rd_T37 y119 x6_1).f1) ((rd_T37 y119 x6_1).f2)).bind fun bt133 => (if bt133.1 = 0 then (if y130.length < 17592186044416 then (hostlerlaw12_QueueRoom.j4 kj21 (wrap64 (Int.tmod (IntKind.u64.wrap (a0)) 17)) y119 x6_1 (y130 ++ [((rd_T37 y119 x6_1).f1)]) bt133.2) else (none)) else (hostlerlaw12_QueueRoom.j4 kj21 (wrap64 (Int.tmod (IntKind.u64.wrap (a0)) 17)) y119 x6_1 y130 bt133.2)))) else (none)) = some r := by rw [if_pos rfl] at H; exact H
                        clear H
                        have H := H1
                        clear H1
                        by_cases c25 : ([] : List Int).length + t125.length < 17592186044416
                        · rw [if_pos c25] at H
                          have LMc25 := Aside0.mk c25
                          clear c25
                          obtain ⟨y130, hy130⟩ : ∃ y_ : List Int, y_ = (([] : List Int) ++ t125) := ⟨_, rfl⟩
                          replace H : ((queue_Queue_Push.f t128 ((rd_T37 y119 x6_1).f1) ((rd_T37 y119 x6_1).f2)).bind fun bt133 => (if bt133.1 = 0 then (if y130.length < 17592186044416 then (hostlerlaw12_QueueRoom.j4 kj21 (wrap64 (Int.tmod (IntKind.u64.wrap (a0)) 17)) y119 x6_1 (y130 ++ [((rd_T37 y119 x6_1).f1)]) bt133.2) else (none)) else (hostlerlaw12_QueueRoom.j4 kj21 (wrap64 (Int.tmod (IntKind.u64.wrap (a0)) 17)) y119 x6_1 y130 bt133.2))) = some r := by first | (rw [hy130]; with_reducible exact H) | (have H2_ := (Option.bind_some _ _).symm.trans H; rw [hy130]; with_reducible exact H2_) | (have H2_ := (Option.bind_some _ _).symm.trans H; with_reducible exact H2_) | with_reducible exact H | (rw [hy130]; exact H) | exact H
                          have Ny130 := Aside0.mk hy130
                          clear hy130
                          replace H := Option.bind_eq_some_iff.mp H
                          obtain ⟨⟨t133, t134⟩, A260, H⟩ := H
                          replace H : (if t133 = 0 then (if y130.length < 17592186044416 then (hostlerlaw12_QueueRoom.j4 kj21 (wrap64 (Int.tmod (IntKind.u64.wrap (a0)) 17)) y119 x6_1 (y130 ++ [((rd_T37 y119 x6_1).f1)]) t134) else (none)) else (hostlerlaw12_QueueRoom.j4 kj21 (wrap64 (Int.tmod (IntKind.u64.wrap (a0)) 17)) y119 x6_1 y130 t134)) = some r := H
                          have A26 := Aside0.mk A260
                          clear A260
                          by_cases c27 : t133 = 0
                          · rw [if_pos c27] at H
                            have c27b0 : (t133 == 0) = true := beq_iff_eq.mpr c27
                            have c27b1 : (t133 != 0) = false := bne_eq_false_iff_eq.mpr c27
                            clear c27
                            by_cases c28 : y130.length < 17592186044416
                            · rw [if_pos c28] at H
                              have LMc28 := Aside0.mk c28
                              clear c28
                              obtain ⟨y135, hy135⟩ : ∃ y_ : List Int, y_ = (y130 ++ [((rd_T37 y119 x6_1).f1)]) := ⟨_, rfl⟩
                              replace H : (hostlerlaw12_QueueRoom.j4 kj21 (wrap64 (Int.tmod (IntKind.u64.wrap (a0)) 17)) y119 x6_1 y135 t134) = some r := by first | (rw [hy135]; with_reducible exact H) | (have H2_ := (Option.bind_some _ _).symm.trans H; rw [hy135]; with_reducible exact H2_) | (have H2_ := (Option.bind_some _ _).symm.trans H; with_reducible exact H2_) | with_reducible exact H | (rw [hy135]; exact H) | exact H
                              have Ny135 := Aside0.mk hy135
                              clear hy135
                              have H' := Aside0.mk H
                              clear H
                              obtain ⟨Ao30, co30, eo30⟩ := Kd.R_slice HO_8.out
                              subst eo30
                              go_wp2_with (first | ((with_reducible refine gate_builtin (b := .append) (xs := #[.tmp 39, .tmp 40]) rfl ?_); at_builtin; refine Kd.R_append_rows (Kd.int .i64) (w0 := w) w.heap.size rfl (.tmp 39) (.tmp 40) 38 3 (.int .i64 0) 8 rfl Try.underlying38 info3 rfl (by decide) (by omega) (.slice none 0 0) ([] : List Int) t125 _ _ _ (fun k_ => some k_ ≠ (.slice Ao30 t125.length co30 : Value).ownBlock) (fun _ => False) rfl rfl ?aO ?aR (fun _ _ h => h) (fun _ h => h.elim) ?aF ?aB ?aS ?aL ?_; (case aR => repeat (first | exact (Kd.R_reads' HO_8.out).2.2 | (with_reducible refine Kd.C_alloc ?_ _) | (with_reducible refine Kd.C_drewN ?_ _) | (with_reducible refine Kd.C_drew ?_))); (case aB => exact (by repeat (first | (with_reducible first | exact HB.out | apply below_alloc | apply pw_below_drewN | apply below_drew1 | refine below_set ?_ (IsS62.ge HI118.out) | refine below_set ?_ GE124.out) | exact HB.out))); (case aF => exact (fun k_ hk => Kd.fresh' (Kd.R_lt (by (with_reducible repeat (first | apply Kd.R_alloc | apply Kd.R_drewN | apply Kd.R_drew)); exact HO_8.out)) k_ hk)); (case aO => exact (by (with_reducible repeat (first | apply Kd.R_alloc | apply Kd.R_drewN | apply Kd.R_drew)); exact HO_9.out)); (case aS => exact (below_size (by repeat (first | (with_reducible first | exact HB.out | apply below_alloc | apply pw_below_drewN | apply below_drew1 | refine below_set ?_ (IsS62.ge HI118.out) | refine below_set ?_ GE124.out) | exact HB.out)))); (case aL => have := LMc25.out; omega); intro v131 w29 ho hb hg hat; rw [← Ny130.out] at ho; have n0_ := Aside0.mk (Kd.R_after (ok := (fun _ => True)) (by (with_reducible repeat (first | apply Kd.R_alloc | apply Kd.R_drewN | apply Kd.R_drew)); exact Kd.R_mono HO_8.out (fun _ hk => ⟨trivial, hk⟩)) hg hat); have n1_ := Aside0.mk (blk_grown (g := gb124) (o := .cells #[.int .i64 ((rd_T37 y119 x6_1).f0), .int .i64 ((rd_T37 y119 x6_1).f1), .int .i64 ((rd_T37 y119 x6_1).f2), .int .i64 ((rd_T37 y119 x6_1).f3)] 37 (0, 0)) (by (with_reducible repeat (first | refine blk_drewN ?_ _ | refine blk_drew ?_ | refine blk_alloc ?_ _)); exact BK124.out) hg (Kd.R_ne HO_9.out BK124.out (by decide))); have n2_ := Aside0.mk (IsS62.grown (by repeat (first | (with_reducible first | exact HI118.out | apply IsS62.alloc | apply IsS62.drewN | apply IsS62.drew | apply IsS62.set_0 | refine IsS62.far ?_ (by repeat (first | exact Hid.vis_cells BK124.out (by decide) | apply Hid.vis_set | apply Hid.vis_alloc | apply Hid.vis_drewN | apply Hid.vis_drew)) _) | exact HI118.out)) hg (IsS62.own_ne HI118.out HO_9.out (by decide))); have n3_ := Aside0.mk (hb); have n4_ := Aside0.mk (ho); clear HO_8; clear BK124; clear HI118; clear HB; clear HO_9; have HO_8 := n0_; have BK124 := n1_; have HI118 := n2_; have HB := n3_; have HO132 := n4_; clear n0_ n1_ n2_ n3_ n4_; clear ho hb hg hat; have hnb31 := NB124_118.out; have hnc31 := NB118_124.out; have hcz32_0 : w29.cell? ⟨gb124, 0, none⟩ = some (.int .i64 ((rd_T37 y119 x6_1).f0)) := (blk_cell BK124.out 0).trans rfl; have hcz32_1 : w29.cell? ⟨gb124, 1, none⟩ = some (.int .i64 ((rd_T37 y119 x6_1).f1)) := (blk_cell BK124.out 1).trans rfl; have hcz32_2 : w29.cell? ⟨gb124, 2, none⟩ = some (.int .i64 ((rd_T37 y119 x6_1).f2)) := (blk_cell BK124.out 2).trans rfl; have hcz32_3 : w29.cell? ⟨gb124, 3, none⟩ = some (.int .i64 ((rd_T37 y119 x6_1).f3)) := (blk_cell BK124.out 3).trans rfl; have hfz32_0 := blk_frozen BK124.out 0; have hfz32_1 := blk_frozen BK124.out 1; have hfz32_2 := blk_frozen BK124.out 2; have hfz32_3 := blk_frozen BK124.out 3) | ((with_reducible refine gate_callee (f := 10) rfl ?_); refine goesL_ (some 47) rfl rfl Try.func10 (by kernel_rfl) rfl #[.pointer (some ⟨g118, 0, none⟩), .int .i64 ((rd_T37 y119 x6_1).f1), .int .i64 ((rd_T37 y119 x6_1).f2)] rfl (by (try simp only [List.map_toArray, List.map_cons, List.map_nil]); first | done | rfl | (simp only [List.length_drop, List.length_take]; rfl)) ?_; (with_reducible refine (queue_Queue_Push.calls g118 t128 ((rd_T37 y119 x6_1).f1) ((rd_T37 y119 x6_1).f2) t133 t134 w _ ?side1 ?side2 A26.out).mono ?_); (case side1 => repeat (first | (with_reducible first | exact HI118.out | apply IsS62.alloc | apply IsS62.drewN | apply IsS62.drew | apply IsS62.set_0 | refine IsS62.far ?_ (by repeat (first | exact Hid.vis_cells BK124.out (by decide) | apply Hid.vis_set | apply Hid.vis_alloc | apply Hid.vis_drewN | apply Hid.vis_drew)) _) | exact HI118.out)); (case side2 => repeat (first | (with_reducible first | exact HB.out | apply below_alloc | apply pw_below_drewN | apply below_drew1 | refine below_set ?_ (IsS62.ge HI118.out) | refine below_set ?_ GE124.out) | exact HB.out)); rintro e w33 ⟨rfl, hi, hb, hk⟩; refine ⟨_, rfl, ?_⟩; have n0_ := Aside0.mk (Kd.R_mono (Ko.R_keep (IsS62.apart (show IsS62 w _ g118 t128 from by repeat (first | (with_reducible first | exact HI118.out | apply IsS62.alloc | apply IsS62.drewN | apply IsS62.drew | apply IsS62.set_0 | refine IsS62.far ?_ (by repeat (first | exact Hid.vis_cells BK124.out (by decide) | apply Hid.vis_set | apply Hid.vis_alloc | apply Hid.vis_drewN | apply Hid.vis_drew)) _) | exact HI118.out)) (by (with_reducible repeat (first | apply Kd.R_alloc | apply Kd.R_drewN | apply Kd.R_drew)); exact HO_8.out) (by decide)) hk (fun _ h => h.2)) (fun _ h => h.1)); have n1_ := Aside0.mk (Ko.blkc (g := gb124) (cs := #[.int .i64 ((rd_T37 y119 x6_1).f0), .int .i64 ((rd_T37 y119 x6_1).f1), .int .i64 ((rd_T37 y119 x6_1).f2), .int .i64 ((rd_T37 y119 x6_1).f3)]) (t := 37) hk (by (with_reducible repeat (first | refine blk_drewN ?_ _ | refine blk_drew ?_ | refine blk_alloc ?_ _)); exact BK124.out) (by decide)); have n2_ := Aside0.mk (Kd.R_mono (Ko.R_keep (IsS62.apart (show IsS62 w _ g118 t128 from by repeat (first | (with_reducible first | exact HI118.out | apply IsS62.alloc | apply IsS62.drewN | apply IsS62.drew | apply IsS62.set_0 | refine IsS62.far ?_ (by repeat (first | exact Hid.vis_cells BK124.out (by decide) | apply Hid.vis_set | apply Hid.vis_alloc | apply Hid.vis_drewN | apply Hid.vis_drew)) _) | exact HI118.out)) (by (with_reducible repeat (first | apply Kd.R_alloc | apply Kd.R_drewN | apply Kd.R_drew)); exact HO132.out) (by decide)) hk (fun _ h => h.2)) (fun _ h => h.1)); have n3_ := Aside0.mk (hb); have n4_ := Aside0.mk (hi); clear HO_8; clear BK124; clear HO132; clear HB; clear HI118; have HO_8 := n0_; have BK124 := n1_; have HO132 := n2_; have HB := n3_; have HI118 := n4_; clear n0_ n1_ n2_ n3_ n4_; (try clear hb); (try clear hb2); (try clear hk); (try clear hi); have hcz34_0 : w33.cell? ⟨gb124, 0, none⟩ = some (.int .i64 ((rd_T37 y119 x6_1).f0)) := (blk_cell BK124.out 0).trans rfl; have hcz34_1 : w33.cell? ⟨gb124, 1, none⟩ = some (.int .i64 ((rd_T37 y119 x6_1).f1)) := (blk_cell BK124.out 1).trans rfl; have hcz34_2 : w33.cell? ⟨gb124, 2, none⟩ = some (.int .i64 ((rd_T37 y119 x6_1).f2)) := (blk_cell BK124.out 2).trans rfl; have hcz34_3 : w33.cell? ⟨gb124, 3, none⟩ = some (.int .i64 ((rd_T37 y119 x6_1).f3)) := (blk_cell BK124.out 3).trans rfl; have hfz34_0 := blk_frozen BK124.out 0; have hfz34_1 := blk_frozen BK124.out 1; have hfz34_2 := blk_frozen BK124.out 2; have hfz34_3 := blk_frozen BK124.out 3) | ((with_reducible refine gate_builtin (b := .append) (xs := #[.tmp 49, .tmp 52]) rfl ?_); at_builtin; refine Kd.R_append (Kd.int .i64) (w0 := w) w.heap.size rfl (.tmp 49) (.tmp 52) 38 3 (.int .i64 0) 8 rfl Try.underlying38 info3 rfl (by decide) (by omega) v131 y130 ((rd_T37 y119 x6_1).f1) [.int .i64 ((rd_T37 y119 x6_1).f1)] (fun k_ => some k_ ≠ (.slice Ao30 t125.length co30 : Value).ownBlock) (fun _ => False) rfl rfl ?aP (fun _ hk => hk.elim) ?aF ?aO ?aB ?aS ?aL ?_; (case aP => exact rfl); (case aB => exact (by repeat (first | (with_reducible first | exact HB.out | apply below_alloc | apply pw_below_drewN | apply below_drew1 | refine below_set ?_ (IsS62.ge HI118.out) | refine below_set ?_ GE124.out) | exact HB.out))); (case aF => exact (fun k_ hk => Kd.fresh' (Kd.R_lt (by (with_reducible repeat (first | apply Kd.R_alloc | apply Kd.R_drewN | apply Kd.R_drew)); exact HO_8.out)) k_ hk)); (case aO => exact (by (with_reducible repeat (first | apply Kd.R_alloc | apply Kd.R_drewN | apply Kd.R_drew)); exact HO132.out)); (case aS => exact (below_size (by repeat (first | (with_reducible first | exact HB.out | apply below_alloc | apply pw_below_drewN | apply below_drew1 | refine below_set ?_ (IsS62.ge HI118.out) | refine below_set ?_ GE124.out) | exact HB.out)))); (case aL => have := LMc28.out; omega); intro v136 w35 ho hb hg hat; rw [← Ny135.out] at ho; have n0_ := Aside0.mk (Kd.R_after (ok := (fun _ => True)) (by (with_reducible repeat (first | apply Kd.R_alloc | apply Kd.R_drewN | apply Kd.R_drew)); exact HO_8.out) hg hat); have n1_ := Aside0.mk (blk_grown (g := gb124) (o := .cells #[.int .i64 ((rd_T37 y119 x6_1).f0), .int .i64 ((rd_T37 y119 x6_1).f1), .int .i64 ((rd_T37 y119 x6_1).f2), .int .i64 ((rd_T37 y119 x6_1).f3)] 37 (0, 0)) (by (with_reducible repeat (first | refine blk_drewN ?_ _ | refine blk_drew ?_ | refine blk_alloc ?_ _)); exact BK124.out) hg (Kd.R_ne HO132.out BK124.out (by decide))); have n2_ := Aside0.mk (IsS62.grown (by repeat (first | (with_reducible first | exact HI118.out | apply IsS62.alloc | apply IsS62.drewN | apply IsS62.drew | apply IsS62.set_0 | refine IsS62.far ?_ (by repeat (first | exact Hid.vis_cells BK124.out (by decide) | apply Hid.vis_set | apply Hid.vis_alloc | apply Hid.vis_drewN | apply Hid.vis_drew)) _) | exact HI118.out)) hg (IsS62.own_ne HI118.out HO132.out (by decide))); have n3_ := Aside0.mk (hb); have n4_ := Aside0.mk (ho); clear HO_8; clear BK124; clear HI118; clear HB; clear HO132; have HO_8 := n0_; have BK124 := n1_; have HI118 := n2_; have HB := n3_; have HO137 := n4_; clear n0_ n1_ n2_ n3_ n4_; clear ho hb hg hat))
                              go_meet
                              case rel => exact ⟨_, (y135), (t134), H', ⟨by have := HK1.out; have := HJ21.out; first | omega | exact Nat.le_refl _⟩, ⟨by (with_reducible repeat (first | apply Kd.R_alloc | apply Kd.R_drewN | apply Kd.R_drew)); exact Kd.R_mono HO137.out (fun _ hk => trivial)⟩, ⟨by (with_reducible repeat (first | refine blk_drewN ?_ _ | refine blk_drew ?_ | refine blk_alloc ?_ _)); exact BK124.out⟩, ⟨by repeat (first | (with_reducible first | exact HI118.out | apply IsS62.alloc | apply IsS62.drewN | apply IsS62.drew | apply IsS62.set_0 | refine IsS62.far ?_ (by repeat (first | exact Hid.vis_cells BK124.out (by decide) | apply Hid.vis_set | apply Hid.vis_alloc | apply Hid.vis_drewN | apply Hid.vis_drew)) _) | exact HI118.out)⟩, ⟨by repeat (first | (with_reducible first | exact HB.out | apply below_alloc | apply pw_below_drewN | apply below_drew1 | refine below_set ?_ (IsS62.ge HI118.out) | refine below_set ?_ GE124.out) | exact HB.out)⟩⟩
                            · rw [if_neg c28] at H
                              exact absurd H (by simp)
                          · rw [if_neg c27] at H
                            have c27b0 : (t133 == 0) = false := beq_eq_false_iff_ne.mpr c27
                            have c27b1 : (t133 != 0) = true := bne_iff_ne.mpr c27
                            have H' := Aside0.mk H
                            clear H
                            obtain ⟨Ao37, co37, eo37⟩ := Kd.R_slice HO_8.out
                            subst eo37
                            go_wp2_with (first | ((with_reducible refine gate_builtin (b := .append) (xs := #[.tmp 39, .tmp 40]) rfl ?_); at_builtin; refine Kd.R_append_rows (Kd.int .i64) (w0 := w) w.heap.size rfl (.tmp 39) (.tmp 40) 38 3 (.int .i64 0) 8 rfl Try.underlying38 info3 rfl (by decide) (by omega) (.slice none 0 0) ([] : List Int) t125 _ _ _ (fun k_ => some k_ ≠ (.slice Ao37 t125.length co37 : Value).ownBlock) (fun _ => False) rfl rfl ?aO ?aR (fun _ _ h => h) (fun _ h => h.elim) ?aF ?aB ?aS ?aL ?_; (case aR => repeat (first | exact (Kd.R_reads' HO_8.out).2.2 | (with_reducible refine Kd.C_alloc ?_ _) | (with_reducible refine Kd.C_drewN ?_ _) | (with_reducible refine Kd.C_drew ?_))); (case aB => exact (by repeat (first | (with_reducible first | exact HB.out | apply below_alloc | apply pw_below_drewN | apply below_drew1 | refine below_set ?_ (IsS62.ge HI118.out) | refine below_set ?_ GE124.out) | exact HB.out))); (case aF => exact (fun k_ hk => Kd.fresh' (Kd.R_lt (by (with_reducible repeat (first | apply Kd.R_alloc | apply Kd.R_drewN | apply Kd.R_drew)); exact HO_8.out)) k_ hk)); (case aO => exact (by (with_reducible repeat (first | apply Kd.R_alloc | apply Kd.R_drewN | apply Kd.R_drew)); exact HO_9.out)); (case aS => exact (below_size (by repeat (first | (with_reducible first | exact HB.out | apply below_alloc | apply pw_below_drewN | apply below_drew1 | refine below_set ?_ (IsS62.ge HI118.out) | refine below_set ?_ GE124.out) | exact HB.out)))); (case aL => have := LMc25.out; omega); intro v131 w36 ho hb hg hat; rw [← Ny130.out] at ho; have n0_ := Aside0.mk (Kd.R_after (ok := (fun _ => True)) (by (with_reducible repeat (first | apply Kd.R_alloc | apply Kd.R_drewN | apply Kd.R_drew)); exact Kd.R_mono HO_8.out (fun _ hk => ⟨trivial, hk⟩)) hg hat); have n1_ := Aside0.mk (blk_grown (g := gb124) (o := .cells #[.int .i64 ((rd_T37 y119 x6_1).f0), .int .i64 ((rd_T37 y119 x6_1).f1), .int .i64 ((rd_T37 y119 x6_1).f2), .int .i64 ((rd_T37 y119 x6_1).f3)] 37 (0, 0)) (by (with_reducible repeat (first | refine blk_drewN ?_ _ | refine blk_drew ?_ | refine blk_alloc ?_ _)); exact BK124.out) hg (Kd.R_ne HO_9.out BK124.out (by decide))); have n2_ := Aside0.mk (IsS62.grown (by repeat (first | (with_reducible first | exact HI118.out | apply IsS62.alloc | apply IsS62.drewN | apply IsS62.drew | apply IsS62.set_0 | refine IsS62.far ?_ (by repeat (first | exact Hid.vis_cells BK124.out (by decide) | apply Hid.vis_set | apply Hid.vis_alloc | apply Hid.vis_drewN | apply Hid.vis_drew)) _) | exact HI118.out)) hg (IsS62.own_ne HI118.out HO_9.out (by decide))); have n3_ := Aside0.mk (hb); have n4_ := Aside0.mk (ho); clear HO_8; clear BK124; clear HI118; clear HB; clear HO_9; have HO_8 := n0_; have BK124 := n1_; have HI118 := n2_; have HB := n3_; have HO132 := n4_; clear n0_ n1_ n2_ n3_ n4_; clear ho hb hg hat; have hnb38 := NB124_118.out; have hnc38 := NB118_124.out; have hcz39_0 : w36.cell? ⟨gb124, 0, none⟩ = some (.int .i64 ((rd_T37 y119 x6_1).f0)) := (blk_cell BK124.out 0).trans rfl; have hcz39_1 : w36.cell? ⟨gb124, 1, none⟩ = some (.int .i64 ((rd_T37 y119 x6_1).f1)) := (blk_cell BK124.out 1).trans rfl; have hcz39_2 : w36.cell? ⟨gb124, 2, none⟩ = some (.int .i64 ((rd_T37 y119 x6_1).f2)) := (blk_cell BK124.out 2).trans rfl; have hcz39_3 : w36.cell? ⟨gb124, 3, none⟩ = some (.int .i64 ((rd_T37 y119 x6_1).f3)) := (blk_cell BK124.out 3).trans rfl; have hfz39_0 := blk_frozen BK124.out 0; have hfz39_1 := blk_frozen BK124.out 1; have hfz39_2 := blk_frozen BK124.out 2; have hfz39_3 := blk_frozen BK124.out 3) | ((with_reducible refine gate_callee (f := 10) rfl ?_); refine goesL_ (some 47) rfl rfl Try.func10 (by kernel_rfl) rfl #[.pointer (some ⟨g118, 0, none⟩), .int .i64 ((rd_T37 y119 x6_1).f1), .int .i64 ((rd_T37 y119 x6_1).f2)] rfl (by (try simp only [List.map_toArray, List.map_cons, List.map_nil]); first | done | rfl | (simp only [List.length_drop, List.length_take]; rfl)) ?_; (with_reducible refine (queue_Queue_Push.calls g118 t128 ((rd_T37 y119 x6_1).f1) ((rd_T37 y119 x6_1).f2) t133 t134 w _ ?side1 ?side2 A26.out).mono ?_); (case side1 => repeat (first | (with_reducible first | exact HI118.out | apply IsS62.alloc | apply IsS62.drewN | apply IsS62.drew | apply IsS62.set_0 | refine IsS62.far ?_ (by repeat (first | exact Hid.vis_cells BK124.out (by decide) | apply Hid.vis_set | apply Hid.vis_alloc | apply Hid.vis_drewN | apply Hid.vis_drew)) _) | exact HI118.out)); (case side2 => repeat (first | (with_reducible first | exact HB.out | apply below_alloc | apply pw_below_drewN | apply below_drew1 | refine below_set ?_ (IsS62.ge HI118.out) | refine below_set ?_ GE124.out) | exact HB.out)); rintro e w40 ⟨rfl, hi, hb, hk⟩; refine ⟨_, rfl, ?_⟩; have n0_ := Aside0.mk (Kd.R_mono (Ko.R_keep (IsS62.apart (show IsS62 w _ g118 t128 from by repeat (first | (with_reducible first | exact HI118.out | apply IsS62.alloc | apply IsS62.drewN | apply IsS62.drew | apply IsS62.set_0 | refine IsS62.far ?_ (by repeat (first | exact Hid.vis_cells BK124.out (by decide) | apply Hid.vis_set | apply Hid.vis_alloc | apply Hid.vis_drewN | apply Hid.vis_drew)) _) | exact HI118.out)) (by (with_reducible repeat (first | apply Kd.R_alloc | apply Kd.R_drewN | apply Kd.R_drew)); exact HO_8.out) (by decide)) hk (fun _ h => h.2)) (fun _ h => h.1)); have n1_ := Aside0.mk (Ko.blkc (g := gb124) (cs := #[.int .i64 ((rd_T37 y119 x6_1).f0), .int .i64 ((rd_T37 y119 x6_1).f1), .int .i64 ((rd_T37 y119 x6_1).f2), .int .i64 ((rd_T37 y119 x6_1).f3)]) (t := 37) hk (by (with_reducible repeat (first | refine blk_drewN ?_ _ | refine blk_drew ?_ | refine blk_alloc ?_ _)); exact BK124.out) (by decide)); have n2_ := Aside0.mk (Kd.R_mono (Ko.R_keep (IsS62.apart (show IsS62 w _ g118 t128 from by repeat (first | (with_reducible first | exact HI118.out | apply IsS62.alloc | apply IsS62.drewN | apply IsS62.drew | apply IsS62.set_0 | refine IsS62.far ?_ (by repeat (first | exact Hid.vis_cells BK124.out (by decide) | apply Hid.vis_set | apply Hid.vis_alloc | apply Hid.vis_drewN | apply Hid.vis_drew)) _) | exact HI118.out)) (by (with_reducible repeat (first | apply Kd.R_alloc | apply Kd.R_drewN | apply Kd.R_drew)); exact HO132.out) (by decide)) hk (fun _ h => h.2)) (fun _ h => h.1)); have n3_ := Aside0.mk (hb); have n4_ := Aside0.mk (hi); clear HO_8; clear BK124; clear HO132; clear HB; clear HI118; have HO_8 := n0_; have BK124 := n1_; have HO132 := n2_; have HB := n3_; have HI118 := n4_; clear n0_ n1_ n2_ n3_ n4_; (try clear hb); (try clear hb2); (try clear hk); (try clear hi)))
                            go_meet
                            case rel => exact ⟨_, (y130), (t134), H', ⟨by have := HK1.out; have := HJ21.out; first | omega | exact Nat.le_refl _⟩, ⟨by (with_reducible repeat (first | apply Kd.R_alloc | apply Kd.R_drewN | apply Kd.R_drew)); exact Kd.R_mono HO132.out (fun _ hk => trivial)⟩, ⟨by (with_reducible repeat (first | refine blk_drewN ?_ _ | refine blk_drew ?_ | refine blk_alloc ?_ _)); exact BK124.out⟩, ⟨by repeat (first | (with_reducible first | exact HI118.out | apply IsS62.alloc | apply IsS62.drewN | apply IsS62.drew | apply IsS62.set_0 | refine IsS62.far ?_ (by repeat (first | exact Hid.vis_cells BK124.out (by decide) | apply Hid.vis_set | apply Hid.vis_alloc | apply Hid.vis_drewN | apply Hid.vis_drew)) _) | exact HI118.out)⟩, ⟨by repeat (first | (with_reducible first | exact HB.out | apply below_alloc | apply pw_below_drewN | apply below_drew1 | refine below_set ?_ (IsS62.ge HI118.out) | refine below_set ?_ GE124.out) | exact HB.out)⟩⟩
                        · rw [if_neg c25] at H
                          exact absurd H (by simp)
                      · replace c24 := Bool.eq_false_iff.mpr c24
                        subst c24
                        have H1 : (if t129 = 2 then (hostlerlaw12_QueueRoom.j2 kj21 (wrap64 (Int.tmod (IntKind.u64.wrap (a0)) 17)) y119 x6_1 t125 ([] : List Int) t129 (t129 == 2) t128 ((rd_T37 y119 x6_1).f0) ((rd_T37 y119 x6_1).f1) ((rd_T37 y119 x6_1).f2) ((rd_T37 y119 x6_1).f3)) else (hostlerlaw12_QueueRoom.j2 kj21 (wrap64 (Int.tmod (IntKind.u64.wrap (a0)) 17)) y119 x6_1 t125 ([] : List Int) t129 (t129 == 4) t128 ((rd_T37 y119 x6_1).f0) ((rd_T37 y119 x6_1).f1) ((rd_T37 y119 x6_1).f2) ((rd_T37 y119 x6_1).f3))) = some r := by rw [if_neg (show ¬ (false = true) by decide)] at H; exact H
                        clear H
                        have H := H1
                        clear H1
                        have HC41 := Aside0.mk H
                        clear H
                        go_upto_if 54 with (fail)
                        go_cut [54] (fun v54 wc => ∃ (kq : Nat) (x54_40 : Bool), v54 = .bool x54_40 ∧ Aside0 (hostlerlaw12_QueueRoom.j2 kq (wrap64 (Int.tmod (IntKind.u64.wrap (a0)) 17)) y119 x6_1 t125 ([] : List Int) t129 x54_40 t128 ((rd_T37 y119 x6_1).f0) ((rd_T37 y119 x6_1).f1) ((rd_T37 y119 x6_1).f2) ((rd_T37 y119 x6_1).f3) = some r) ∧ Aside0 (kq ≤ kj21) ∧ Aside0 (Kd.R (Kd.int .i64) 3 wc w.heap.size (fun k_ => some k_ ≠ ((.slice none 0 0) : Value).ownBlock) v126 t125) ∧ Aside0 (Kd.R (Kd.int .i64) 3 wc w.heap.size (fun k_ => some k_ ≠ (v126 : Value).ownBlock) (.slice none 0 0) ([] : List Int)) ∧ Aside0 (wc.heap[gb124]? = some (.cells #[.int .i64 ((rd_T37 y119 x6_1).f0), .int .i64 ((rd_T37 y119 x6_1).f1), .int .i64 ((rd_T37 y119 x6_1).f2), .int .i64 ((rd_T37 y119 x6_1).f3)] 37 (0, 0))) ∧ Aside0 (IsS62 w wc g118 t128) ∧ Aside0 (Below w.heap.size w wc))
                        case first =>
                          have H := HC41.out
                          clear HC41
                          by_cases c42 : t129 = 2
                          · rw [if_pos c42] at H
                            have c42b0 : (t129 == 2) = true := beq_iff_eq.mpr c42
                            have c42b1 : (t129 != 2) = false := bne_eq_false_iff_eq.mpr c42
                            clear c42
                            (first | rw [c42b0] | (simp only [i64_w, i32_w]; rw [c42b0]) | skip)
                            have H' := Aside0.mk H
                            clear H
                            go_wp2
                            go_meet
                            case rel => exact ⟨_, ((t129 == 2)), (by first | rfl | (simp; done) | (simp [*]; done)), H', ⟨by have := HK1.out; have := HJ21.out; first | omega | exact Nat.le_refl _⟩, ⟨by (with_reducible repeat (first | apply Kd.R_alloc | apply Kd.R_drewN | apply Kd.R_drew)); exact HO_8.out⟩, ⟨by (with_reducible repeat (first | apply Kd.R_alloc | apply Kd.R_drewN | apply Kd.R_drew)); exact HO_9.out⟩, ⟨by (with_reducible repeat (first | refine blk_drewN ?_ _ | refine blk_drew ?_ | refine blk_alloc ?_ _)); exact BK124.out⟩, ⟨by repeat (first | (with_reducible first | exact HI118.out | apply IsS62.alloc | apply IsS62.drewN | apply IsS62.drew | apply IsS62.set_0 | refine IsS62.far ?_ (by repeat (first | exact Hid.vis_cells BK124.out (by decide) | apply Hid.vis_set | apply Hid.vis_alloc | apply Hid.vis_drewN | apply Hid.vis_drew)) _) | exact HI118.out)⟩, ⟨by repeat (first | (with_reducible first | exact HB.out | apply below_alloc | apply pw_below_drewN | apply below_drew1 | refine below_set ?_ (IsS62.ge HI118.out) | refine below_set ?_ GE124.out) | exact HB.out)⟩⟩
                          · rw [if_neg c42] at H
                            have c42b0 : (t129 == 2) = false := beq_eq_false_iff_ne.mpr c42
                            have c42b1 : (t129 != 2) = true := bne_iff_ne.mpr c42
                            (first | rw [c42b0] | (simp only [i64_w, i32_w]; rw [c42b0]) | skip)
                            have H' := Aside0.mk H
                            clear H
                            go_wp2
                            go_meet
                            case rel => exact ⟨_, ((t129 == 4)), (by first | rfl | (simp; done) | (simp [*]; done)), H', ⟨by have := HK1.out; have := HJ21.out; first | omega | exact Nat.le_refl _⟩, ⟨by (with_reducible repeat (first | apply Kd.R_alloc | apply Kd.R_drewN | apply Kd.R_drew)); exact HO_8.out⟩, ⟨by (with_reducible repeat (first | apply Kd.R_alloc | apply Kd.R_drewN | apply Kd.R_drew)); exact HO_9.out⟩, ⟨by (with_reducible repeat (first | refine blk_drewN ?_ _ | refine blk_drew ?_ | refine blk_alloc ?_ _)); exact BK124.out⟩, ⟨by repeat (first | (with_reducible first | exact HI118.out | apply IsS62.alloc | apply IsS62.drewN | apply IsS62.drew | apply IsS62.set_0 | refine IsS62.far ?_ (by repeat (first | exact Hid.vis_cells BK124.out (by decide) | apply Hid.vis_set | apply Hid.vis_alloc | apply Hid.vis_drewN | apply Hid.vis_drew)) _) | exact HI118.out)⟩, ⟨by repeat (first | (with_reducible first | exact HB.out | apply below_alloc | apply pw_below_drewN | apply below_drew1 | refine below_set ?_ (IsS62.ge HI118.out) | refine below_set ?_ GE124.out) | exact HB.out)⟩⟩
                        case rest =>
                          clear HC41
                          try clear c1
                          try clear p1
                          try clear q1
                          try clear hx1
                          try clear c2
                          try clear p2
                          try clear c3
                          try clear c4
                          try clear c6
                          try clear c6b0
                          try clear c6b1
                          try clear p6
                          try clear c7
                          try clear c7b0
                          try clear c7b1
                          try clear c8
                          try clear c9
                          try clear c10
                          try clear q10
                          try clear c11
                          try clear c11b0
                          try clear c12
                          try clear c12b0
                          try clear p12
                          try clear q12
                          try clear hx12
                          try clear c15
                          try clear c16
                          try clear c17
                          try clear c23
                          try clear c23b0
                          try clear c23b1
                          try clear c24
                          try clear c25
                          try clear c27
                          try clear c27b0
                          try clear c27b1
                          try clear c28
                          try clear c31
                          try clear c38
                          try clear c42
                          try clear c42b0
                          try clear c42b1
                          try clear hcz18_0
                          try clear hcz18_1
                          try clear hcz18_2
                          try clear hcz18_3
                          try clear hcz20_0
                          try clear hcz20_1
                          try clear hcz20_2
                          try clear hcz20_3
                          try clear hcz32_0
                          try clear hcz32_1
                          try clear hcz32_2
                          try clear hcz32_3
                          try clear hcz34_0
                          try clear hcz34_1
                          try clear hcz34_2
                          try clear hcz34_3
                          try clear hcz39_0
                          try clear hcz39_1
                          try clear hcz39_2
                          try clear hcz39_3
                          try clear hfz18_0
                          try clear hfz18_1
                          try clear hfz18_2
                          try clear hfz18_3
                          try clear hfz20_0
                          try clear hfz20_1
                          try clear hfz20_2
                          try clear hfz20_3
                          try clear hfz32_0
                          try clear hfz32_1
                          try clear hfz32_2
                          try clear hfz32_3
                          try clear hfz34_0
                          try clear hfz34_1
                          try clear hfz34_2
                          try clear hfz34_3
                          try clear hfz39_0
                          try clear hfz39_1
                          try clear hfz39_2
                          try clear hfz39_3
                          try clear hx123_0
                          try clear hx123_1
                          try clear hx123_2
                          try clear hx123_3
                          try clear p1
                          try clear p12
                          try clear p123
                          try clear p2
                          try clear p6
                          try clear q1
                          try clear q10
                          try clear q12
                          try clear q123
                          obtain ⟨kq, x54_40, rfl, HA, HJ40, HO_8, HO_9, BK124, HI118, HB⟩ := hcut
                          cases kq with
                          | zero => exact absurd HA.out (by simp [hostlerlaw12_QueueRoom.j2])
                          | succ kj40 =>
                            have H := HA.out
                            clear HA
                            simp only [hostlerlaw12_QueueRoom.j2] at H
                            by_cases c43 : x54_40 = true
                            · subst c43
                              have H1 : ((queue_Queue_Pop.f t128).bind fun bt138 => (if (t125.length : Int) > 0 then (if 1 ≤ (t125.length : Int) then ((some (t125.drop 1 : List Int)).bind fun y141 => (if ([] : List Int).length + y141.length < 17592186044416 then (hostlerlaw12_QueueRoom.j4 kj40 (wrap64 (Int.tmod (IntKind.u64.wrap (a0)) 17)) y119 x6_1 (([] : List Int) ++ y141) bt138.2.2) else (none))) else (none)) else (hostlerlaw12_QueueRoom.j4 kj40 (wrap64 (Int.tmod (IntKind.u64.wrap (a0)) 17)) y119 x6_1 ([] : List Int) bt138.2.2))) = some r := by rw [if_pos rfl] at H; exact H
                              clear H
                              have H := H1
                              clear H1
                              replace H := Option.bind_eq_some_iff.mp H
                              obtain ⟨⟨t138, t139, t140⟩, A440, H⟩ := H
                              replace H : (if (t125.length : Int) > 0 then (if 1 ≤ (t125.length : Int) then ((some (t125.drop 1 : List Int)).bind fun y141 => (if ([] : List Int).length + y141.length < 17592186044416 then (hostlerlaw12_QueueRoom.j4 kj40 (wrap64 (Int.tmod (IntKind.u64.wrap (a0)) 17)) y119 x6_1 (([] : List Int) ++ y141) t140) else (none))) else (none)) else (hostlerlaw12_QueueRoom.j4 kj40 (wrap64 (Int.tmod (IntKind.u64.wrap (a0)) 17)) y119 x6_1 ([] : List Int) t140)) = some r := H
                              have A44 := Aside0.mk A440
                              clear A440
                              by_cases c45 : (t125.length : Int) > 0
                              · rw [if_pos c45] at H
                                have c45b0 : decide (0 < (t125.length : Int)) = true := decide_eq_true c45
                                have c45b1 : decide (0 < t125.length) = true := decide_eq_true (by omega)
                                clear c45
                                by_cases c46 : 1 ≤ (t125.length : Int)
                                · rw [if_pos c46] at H
                                  have c46b0 := eq_true c46
                                  have c46b1 : decide (1 ≤ (t125.length : Int)) = true := decide_eq_true c46
                                  clear c46
                                  obtain ⟨y141, hy141⟩ : ∃ y_ : List Int, y_ = (t125.drop 1) := ⟨_, rfl⟩
                                  replace H : (if ([] : List Int).length + y141.length < 17592186044416 then (hostlerlaw12_QueueRoom.j4 kj40 (wrap64 (Int.tmod (IntKind.u64.wrap (a0)) 17)) y119 x6_1 (([] : List Int) ++ y141) t140) else (none)) = some r := by first | (rw [hy141]; with_reducible exact H) | (have H2_ := (Option.bind_some _ _).symm.trans H; rw [hy141]; with_reducible exact H2_) | (have H2_ := (Option.bind_some _ _).symm.trans H; with_reducible exact H2_) | with_reducible exact H | (rw [hy141]; exact H) | exact H
                                  have Ny141 := Aside0.mk hy141
                                  clear hy141
                                  by_cases c47 : ([] : List Int).length + y141.length < 17592186044416
                                  · rw [if_pos c47] at H
                                    have LMc47 := Aside0.mk c47
                                    clear c47
                                    obtain ⟨y145, hy145⟩ : ∃ y_ : List Int, y_ = (([] : List Int) ++ y141) := ⟨_, rfl⟩
                                    replace H : (hostlerlaw12_QueueRoom.j4 kj40 (wrap64 (Int.tmod (IntKind.u64.wrap (a0)) 17)) y119 x6_1 y145 t140) = some r := by first | (rw [hy145]; with_reducible exact H) | (have H2_ := (Option.bind_some _ _).symm.trans H; rw [hy145]; with_reducible exact H2_) | (have H2_ := (Option.bind_some _ _).symm.trans H; with_reducible exact H2_) | with_reducible exact H | (rw [hy145]; exact H) | exact H
                                    have Ny145 := Aside0.mk hy145
                                    clear hy145
                                    have H' := Aside0.mk H
                                    clear H
                                    go_wp2_with (first | (go_at_call 14; refine (early_raw _ _ _ _ _ _ (by assumption) (by first | assumption | rfl) (Aside0.out (by assumption))).mono ?_; rintro e w' ⟨rfl, rfl⟩) | ((with_reducible refine gate_callee (f := 12) rfl ?_); refine goesL_ (some 58) rfl rfl Try.func12 (by kernel_rfl) rfl #[.pointer (some ⟨g118, 0, none⟩)] rfl (by (try simp only [List.map_toArray, List.map_cons, List.map_nil]); first | done | rfl | (simp only [List.length_drop, List.length_take]; rfl)) ?_; (with_reducible refine (queue_Queue_Pop.calls g118 t128 t138 t139 t140 w _ ?side1 ?side2 A44.out).mono ?_); (case side1 => repeat (first | (with_reducible first | exact HI118.out | apply IsS62.alloc | apply IsS62.drewN | apply IsS62.drew | apply IsS62.set_0 | refine IsS62.far ?_ (by repeat (first | exact Hid.vis_cells BK124.out (by decide) | apply Hid.vis_set | apply Hid.vis_alloc | apply Hid.vis_drewN | apply Hid.vis_drew)) _) | exact HI118.out)); (case side2 => repeat (first | (with_reducible first | exact HB.out | apply below_alloc | apply pw_below_drewN | apply below_drew1 | refine below_set ?_ (IsS62.ge HI118.out) | refine below_set ?_ GE124.out) | exact HB.out)); rintro e w48 ⟨rfl, hi, hb, hk⟩; refine ⟨_, rfl, ?_⟩; have n0_ := Aside0.mk (Kd.R_mono (Ko.R_keep (IsS62.apart (show IsS62 w _ g118 t128 from by repeat (first | (with_reducible first | exact HI118.out | apply IsS62.alloc | apply IsS62.drewN | apply IsS62.drew | apply IsS62.set_0 | refine IsS62.far ?_ (by repeat (first | exact Hid.vis_cells BK124.out (by decide) | apply Hid.vis_set | apply Hid.vis_alloc | apply Hid.vis_drewN | apply Hid.vis_drew)) _) | exact HI118.out)) (by (with_reducible repeat (first | apply Kd.R_alloc | apply Kd.R_drewN | apply Kd.R_drew)); exact HO_8.out) (by decide)) hk (fun _ h => h.2)) (fun _ h => h.1)); have n1_ := Aside0.mk (Kd.R_mono (Ko.R_keep (IsS62.apart (show IsS62 w _ g118 t128 from by repeat (first | (with_reducible first | exact HI118.out | apply IsS62.alloc | apply IsS62.drewN | apply IsS62.drew | apply IsS62.set_0 | refine IsS62.far ?_ (by repeat (first | exact Hid.vis_cells BK124.out (by decide) | apply Hid.vis_set | apply Hid.vis_alloc | apply Hid.vis_drewN | apply Hid.vis_drew)) _) | exact HI118.out)) (by (with_reducible repeat (first | apply Kd.R_alloc | apply Kd.R_drewN | apply Kd.R_drew)); exact HO_9.out) (by decide)) hk (fun _ h => h.2)) (fun _ h => h.1)); have n2_ := Aside0.mk (Ko.blkc (g := gb124) (cs := #[.int .i64 ((rd_T37 y119 x6_1).f0), .int .i64 ((rd_T37 y119 x6_1).f1), .int .i64 ((rd_T37 y119 x6_1).f2), .int .i64 ((rd_T37 y119 x6_1).f3)]) (t := 37) hk (by (with_reducible repeat (first | refine blk_drewN ?_ _ | refine blk_drew ?_ | refine blk_alloc ?_ _)); exact BK124.out) (by decide)); have n3_ := Aside0.mk (hb); have n4_ := Aside0.mk (hi); clear HO_8; clear HO_9; clear BK124; clear HB; clear HI118; have HO_8 := n0_; have HO_9 := n1_; have BK124 := n2_; have HB := n3_; have HI118 := n4_; clear n0_ n1_ n2_ n3_ n4_; (try clear hb); (try clear hb2); (try clear hk); (try clear hi); obtain ⟨Ao49, co49, eo49⟩ := Kd.R_slice HO_8.out; subst eo49; have q50 : (1 : Int) ≤ ((t125.length : Int) : Int) := of_decide_eq_true (by first | (with_reducible assumption) | assumption); obtain ⟨i050, hi050, _, hsz50, _⟩ := info_parts info3; have hroom50 : t125.length ≤ co49 := (Kd.R_reads' HO_8.out).2.1; have hC50 : Kd.C (Kd.int .i64) _ Ao49 t125.length t125 := (Kd.R_reads' HO_8.out).2.2; have hcut50 := cut_from (P := Try.prog) 38 3 .i64 Try.underlying38 hi050 1 hsz50 Ao49 t125.length co49 1 (by omega) q50; have hr50 := Kd.C_drop (m := (1 : Int).toNat) (c := co49) hC50 (by omega) hroom50; obtain ⟨A50, hA50⟩ : ∃ A1, A1 = (if co49 = (1 : Int).toNat then Ao49 else (Ao49 : Option Addr).map (·.add ((1 : Int).toNat * 1))) := ⟨_, rfl⟩; obtain ⟨c50, hc50⟩ : ∃ c1, c1 = co49 - (1 : Int).toNat := ⟨_, rfl⟩; have hy50 : y141.length = t125.length - (1 : Int).toNat := (by rw [Ny141.out, List.length_drop] <;> omega); rw [show (t125).drop (1 : Int).toNat = y141 from Ny141.out.symm] at hr50; replace hr50 : Kd.C (Kd.int .i64) _ A50 y141.length y141 := (by rw [hA50]; exact hr50); rw [← hy50, ← hA50, ← hc50] at hcut50; have HR144 := Aside0.mk hr50; have HC144 := Aside0.mk (show y141.length ≤ c50 from by rw [hy50, hc50]; exact Nat.sub_le_sub_right hroom50 _); clear hr50 hC50 hroom50 hi050 hsz50 hc50; have KY50 := Aside0.mk hy50; have KA50 := Aside0.mk hA50; clear hy50 hA50; have KL50 := Aside0.mk (show 1 ≤ t125.length from by omega); replace q50 := eq_true q50) | ((with_reducible refine gate_builtin (b := .append) (xs := #[.tmp 62, .tmp 64]) rfl ?_); at_builtin; refine Kd.R_append_rows (Kd.int .i64) (w0 := w) w.heap.size rfl (.tmp 62) (.tmp 64) 38 3 (.int .i64 0) 8 rfl Try.underlying38 info3 rfl (by decide) (by omega) (.slice none 0 0) ([] : List Int) y141 _ _ _ (fun k_ => some k_ ≠ (.slice Ao49 t125.length co49 : Value).ownBlock) (fun _ => False) rfl rfl ?aO ?aR (fun _ _ h => h) (fun _ h => h.elim) ?aF ?aB ?aS ?aL ?_; (case aR => repeat (first | exact (by repeat (first | (with_reducible exact HR144.out) | (with_reducible refine Kd.C_alloc ?_ _) | (with_reducible refine Kd.C_drewN ?_ _) | (with_reducible refine Kd.C_drew ?_) | exact HR144.out)) | (with_reducible refine Kd.C_alloc ?_ _) | (with_reducible refine Kd.C_drewN ?_ _) | (with_reducible refine Kd.C_drew ?_))); (case aB => exact (by repeat (first | (with_reducible first | exact HB.out | apply below_alloc | apply pw_below_drewN | apply below_drew1 | refine below_set ?_ (IsS62.ge HI118.out) | refine below_set ?_ GE124.out) | exact HB.out))); (case aF => exact (fun k_ hk => Kd.fresh' (Kd.R_lt (by (with_reducible repeat (first | apply Kd.R_alloc | apply Kd.R_drewN | apply Kd.R_drew)); exact HO_8.out)) k_ hk)); (case aO => exact (by (with_reducible repeat (first | apply Kd.R_alloc | apply Kd.R_drewN | apply Kd.R_drew)); exact HO_9.out)); (case aS => exact (below_size (by repeat (first | (with_reducible first | exact HB.out | apply below_alloc | apply pw_below_drewN | apply below_drew1 | refine below_set ?_ (IsS62.ge HI118.out) | refine below_set ?_ GE124.out) | exact HB.out)))); (case aL => have := LMc47.out; omega); intro v146 w51 ho hb hg hat; rw [← Ny145.out] at ho; have n0_ := Aside0.mk (Kd.R_after (ok := (fun _ => True)) (by (with_reducible repeat (first | apply Kd.R_alloc | apply Kd.R_drewN | apply Kd.R_drew)); exact Kd.R_mono HO_8.out (fun _ hk => ⟨trivial, hk⟩)) hg hat); have n1_ := Aside0.mk (blk_grown (g := gb124) (o := .cells #[.int .i64 ((rd_T37 y119 x6_1).f0), .int .i64 ((rd_T37 y119 x6_1).f1), .int .i64 ((rd_T37 y119 x6_1).f2), .int .i64 ((rd_T37 y119 x6_1).f3)] 37 (0, 0)) (by (with_reducible repeat (first | refine blk_drewN ?_ _ | refine blk_drew ?_ | refine blk_alloc ?_ _)); exact BK124.out) hg (Kd.R_ne HO_9.out BK124.out (by decide))); have n2_ := Aside0.mk (IsS62.grown (by repeat (first | (with_reducible first | exact HI118.out | apply IsS62.alloc | apply IsS62.drewN | apply IsS62.drew | apply IsS62.set_0 | refine IsS62.far ?_ (by repeat (first | exact Hid.vis_cells BK124.out (by decide) | apply Hid.vis_set | apply Hid.vis_alloc | apply Hid.vis_drewN | apply Hid.vis_drew)) _) | exact HI118.out)) hg (IsS62.own_ne HI118.out HO_9.out (by decide))); have n3_ := Aside0.mk (hb); have n4_ := Aside0.mk ((show Kd.C (Kd.int .i64) w51 A50 y141.length y141 from by rw [Ny141.out, KA50.out]; exact Kd.C_drop (m := 1) (c := co49) ((Kd.R_reads' (Kd.R_after (ok := (fun _ => True)) (by (with_reducible repeat (first | apply Kd.R_alloc | apply Kd.R_drewN | apply Kd.R_drew)); exact Kd.R_mono HO_8.out (fun _ hk => ⟨trivial, hk⟩)) hg hat)).2.2) KL50.out ((Kd.R_reads' (Kd.R_after (ok := (fun _ => True)) (by (with_reducible repeat (first | apply Kd.R_alloc | apply Kd.R_drewN | apply Kd.R_drew)); exact Kd.R_mono HO_8.out (fun _ hk => ⟨trivial, hk⟩)) hg hat)).2.1))); have n5_ := Aside0.mk (ho); clear HO_8; clear BK124; clear HI118; clear HB; clear HR144; clear HO_9; have HO_8 := n0_; have BK124 := n1_; have HI118 := n2_; have HB := n3_; have HR144 := n4_; have HO147 := n5_; clear n0_ n1_ n2_ n3_ n4_ n5_; clear ho hb hg hat))
                                    go_meet
                                    case rel => exact ⟨_, (y145), (t140), H', ⟨by have := HK1.out; have := HJ21.out; have := HJ40.out; first | omega | exact Nat.le_refl _⟩, ⟨by (with_reducible repeat (first | apply Kd.R_alloc | apply Kd.R_drewN | apply Kd.R_drew)); exact Kd.R_mono HO147.out (fun _ hk => trivial)⟩, ⟨by (with_reducible repeat (first | refine blk_drewN ?_ _ | refine blk_drew ?_ | refine blk_alloc ?_ _)); exact BK124.out⟩, ⟨by repeat (first | (with_reducible first | exact HI118.out | apply IsS62.alloc | apply IsS62.drewN | apply IsS62.drew | apply IsS62.set_0 | refine IsS62.far ?_ (by repeat (first | exact Hid.vis_cells BK124.out (by decide) | apply Hid.vis_set | apply Hid.vis_alloc | apply Hid.vis_drewN | apply Hid.vis_drew)) _) | exact HI118.out)⟩, ⟨by repeat (first | (with_reducible first | exact HB.out | apply below_alloc | apply pw_below_drewN | apply below_drew1 | refine below_set ?_ (IsS62.ge HI118.out) | refine below_set ?_ GE124.out) | exact HB.out)⟩⟩
                                  · rw [if_neg c47] at H
                                    exact absurd H (by simp)
                                · rw [if_neg c46] at H
                                  exact absurd H (by simp)
                              · rw [if_neg c45] at H
                                have c45b0 : decide (0 < (t125.length : Int)) = false := decide_eq_false c45
                                have c45b1 : decide (0 < t125.length) = false := decide_eq_false (by omega)
                                clear c45
                                have H' := Aside0.mk H
                                clear H
                                go_wp2_with (first | (go_at_call 14; refine (early_raw _ _ _ _ _ _ (by assumption) (by first | assumption | rfl) (Aside0.out (by assumption))).mono ?_; rintro e w' ⟨rfl, rfl⟩) | ((with_reducible refine gate_callee (f := 12) rfl ?_); refine goesL_ (some 58) rfl rfl Try.func12 (by kernel_rfl) rfl #[.pointer (some ⟨g118, 0, none⟩)] rfl (by (try simp only [List.map_toArray, List.map_cons, List.map_nil]); first | done | rfl | (simp only [List.length_drop, List.length_take]; rfl)) ?_; (with_reducible refine (queue_Queue_Pop.calls g118 t128 t138 t139 t140 w _ ?side1 ?side2 A44.out).mono ?_); (case side1 => repeat (first | (with_reducible first | exact HI118.out | apply IsS62.alloc | apply IsS62.drewN | apply IsS62.drew | apply IsS62.set_0 | refine IsS62.far ?_ (by repeat (first | exact Hid.vis_cells BK124.out (by decide) | apply Hid.vis_set | apply Hid.vis_alloc | apply Hid.vis_drewN | apply Hid.vis_drew)) _) | exact HI118.out)); (case side2 => repeat (first | (with_reducible first | exact HB.out | apply below_alloc | apply pw_below_drewN | apply below_drew1 | refine below_set ?_ (IsS62.ge HI118.out) | refine below_set ?_ GE124.out) | exact HB.out)); rintro e w52 ⟨rfl, hi, hb, hk⟩; refine ⟨_, rfl, ?_⟩; have n0_ := Aside0.mk (Kd.R_mono (Ko.R_keep (IsS62.apart (show IsS62 w _ g118 t128 from by repeat (first | (with_reducible first | exact HI118.out | apply IsS62.alloc | apply IsS62.drewN | apply IsS62.drew | apply IsS62.set_0 | refine IsS62.far ?_ (by repeat (first | exact Hid.vis_cells BK124.out (by decide) | apply Hid.vis_set | apply Hid.vis_alloc | apply Hid.vis_drewN | apply Hid.vis_drew)) _) | exact HI118.out)) (by (with_reducible repeat (first | apply Kd.R_alloc | apply Kd.R_drewN | apply Kd.R_drew)); exact HO_8.out) (by decide)) hk (fun _ h => h.2)) (fun _ h => h.1)); have n1_ := Aside0.mk (Kd.R_mono (Ko.R_keep (IsS62.apart (show IsS62 w _ g118 t128 from by repeat (first | (with_reducible first | exact HI118.out | apply IsS62.alloc | apply IsS62.drewN | apply IsS62.drew | apply IsS62.set_0 | refine IsS62.far ?_ (by repeat (first | exact Hid.vis_cells BK124.out (by decide) | apply Hid.vis_set | apply Hid.vis_alloc | apply Hid.vis_drewN | apply Hid.vis_drew)) _) | exact HI118.out)) (by (with_reducible repeat (first | apply Kd.R_alloc | apply Kd.R_drewN | apply Kd.R_drew)); exact HO_9.out) (by decide)) hk (fun _ h => h.2)) (fun _ h => h.1)); have n2_ := Aside0.mk (Ko.blkc (g := gb124) (cs := #[.int .i64 ((rd_T37 y119 x6_1).f0), .int .i64 ((rd_T37 y119 x6_1).f1), .int .i64 ((rd_T37 y119 x6_1).f2), .int .i64 ((rd_T37 y119 x6_1).f3)]) (t := 37) hk (by (with_reducible repeat (first | refine blk_drewN ?_ _ | refine blk_drew ?_ | refine blk_alloc ?_ _)); exact BK124.out) (by decide)); have n3_ := Aside0.mk (hb); have n4_ := Aside0.mk (hi); clear HO_8; clear HO_9; clear BK124; clear HB; clear HI118; have HO_8 := n0_; have HO_9 := n1_; have BK124 := n2_; have HB := n3_; have HI118 := n4_; clear n0_ n1_ n2_ n3_ n4_; (try clear hb); (try clear hb2); (try clear hk); (try clear hi); obtain ⟨Ao53, co53, eo53⟩ := Kd.R_slice HO_8.out; subst eo53))
                                go_meet
                                case rel => exact ⟨_, (([] : List Int)), (t140), H', ⟨by have := HK1.out; have := HJ21.out; have := HJ40.out; first | omega | exact Nat.le_refl _⟩, ⟨by (with_reducible repeat (first | apply Kd.R_alloc | apply Kd.R_drewN | apply Kd.R_drew)); exact Kd.R_mono HO_9.out (fun _ hk => trivial)⟩, ⟨by (with_reducible repeat (first | refine blk_drewN ?_ _ | refine blk_drew ?_ | refine blk_alloc ?_ _)); exact BK124.out⟩, ⟨by repeat (first | (with_reducible first | exact HI118.out | apply IsS62.alloc | apply IsS62.drewN | apply IsS62.drew | apply IsS62.set_0 | refine IsS62.far ?_ (by repeat (first | exact Hid.vis_cells BK124.out (by decide) | apply Hid.vis_set | apply Hid.vis_alloc | apply Hid.vis_drewN | apply Hid.vis_drew)) _) | exact HI118.out)⟩, ⟨by repeat (first | (with_reducible first | exact HB.out | apply below_alloc | apply pw_below_drewN | apply below_drew1 | refine below_set ?_ (IsS62.ge HI118.out) | refine below_set ?_ GE124.out) | exact HB.out)⟩⟩
                            · replace c43 := Bool.eq_false_iff.mpr c43
                              subst c43
                              have H1 : (if t129 = 3 then ((queue_Queue_Place.f t128 ((rd_T37 y119 x6_1).f1)).bind fun bt148 => ((queue_Queue_Remove.f bt148.2 ((rd_T37 y119 x6_1).f1)).bind fun bt150 => (if (bt150.1 != (decide (bt148.1 ≥ 0))) = true then (none) else (hostlerlaw12_QueueRoom.l1 kj40 (wrap64 (Int.tmod (IntKind.u64.wrap (a0)) 17)) y119 x6_1 t125 ([] : List Int) bt148.1 0 bt150.2)))) else (hostlerlaw12_QueueRoom.j4 kj40 (wrap64 (Int.tmod (IntKind.u64.wrap (a0)) 17)) y119 x6_1 ([] : List Int) t128)) = some r := by rw [if_neg (show ¬ (false = true) by decide)] at H; exact H
                              clear H
                              have H := H1
                              clear H1
                              by_cases c54 : t129 = 3
                              · rw [if_pos c54] at H
                                have c54b0 : (t129 == 3) = true := beq_iff_eq.mpr c54
                                have c54b1 : (t129 != 3) = false := bne_eq_false_iff_eq.mpr c54
                                clear c54
                                replace H := Option.bind_eq_some_iff.mp H
                                obtain ⟨⟨t148, t149⟩, A550, H⟩ := H
                                replace H : ((queue_Queue_Remove.f t149 ((rd_T37 y119 x6_1).f1)).bind fun bt150 => (if (bt150.1 != (decide (t148 ≥ 0))) = true then (none) else (hostlerlaw12_QueueRoom.l1 kj40 (wrap64 (Int.tmod (IntKind.u64.wrap (a0)) 17)) y119 x6_1 t125 ([] : List Int) t148 0 bt150.2))) = some r := H
                                have A55 := Aside0.mk A550
                                clear A550
                                replace H := Option.bind_eq_some_iff.mp H
                                obtain ⟨⟨t150, t151⟩, A560, H⟩ := H
                                replace H : (if (t150 != (decide (t148 ≥ 0))) = true then (none) else (hostlerlaw12_QueueRoom.l1 kj40 (wrap64 (Int.tmod (IntKind.u64.wrap (a0)) 17)) y119 x6_1 t125 ([] : List Int) t148 0 t151)) = some r := H
                                have A56 := Aside0.mk A560
                                clear A560
                                by_cases c57 : (t150 != (decide (t148 ≥ 0))) = true
                                · rw [if_pos c57] at H
                                  exact absurd H (by simp)
                                · rw [if_neg c57] at H
                                  have c57b0 : (t150 != (decide (t148 ≥ 0))) = false := by simpa using c57
                                  (try (have c57b1 : decide (t150 = (decide (t148 ≥ 0))) = true := by simpa using c57))
                                  (try (have c57b2 : (t150 == (decide (t148 ≥ 0))) = true := by simpa using c57))
                                  clear c57
                                  have H' := Aside0.mk H
                                  clear H
                                  have hnb58 := NB124_118.out
                                  have hnc58 := NB118_124.out
                                  have hcz59_0 : wc.cell? ⟨gb124, 0, none⟩ = some (.int .i64 ((rd_T37 y119 x6_1).f0)) := (blk_cell BK124.out 0).trans rfl
                                  have hcz59_1 : wc.cell? ⟨gb124, 1, none⟩ = some (.int .i64 ((rd_T37 y119 x6_1).f1)) := (blk_cell BK124.out 1).trans rfl
                                  have hcz59_2 : wc.cell? ⟨gb124, 2, none⟩ = some (.int .i64 ((rd_T37 y119 x6_1).f2)) := (blk_cell BK124.out 2).trans rfl
                                  have hcz59_3 : wc.cell? ⟨gb124, 3, none⟩ = some (.int .i64 ((rd_T37 y119 x6_1).f3)) := (blk_cell BK124.out 3).trans rfl
                                  have hfz59_0 := blk_frozen BK124.out 0
                                  have hfz59_1 := blk_frozen BK124.out 1
                                  have hfz59_2 := blk_frozen BK124.out 2
                                  have hfz59_3 := blk_frozen BK124.out 3
                                  go_wp2_with (first | (go_at_call 14; refine (early_raw _ _ _ _ _ _ (by assumption) (by first | assumption | rfl) (Aside0.out (by assumption))).mono ?_; rintro e w' ⟨rfl, rfl⟩) | ((with_reducible refine gate_callee (f := 11) rfl ?_); refine goesL_ (some 71) rfl rfl Try.func11 (by kernel_rfl) rfl #[.pointer (some ⟨g118, 0, none⟩), .int .i64 ((rd_T37 y119 x6_1).f1)] rfl (by (try simp only [List.map_toArray, List.map_cons, List.map_nil]); first | done | rfl | (simp only [List.length_drop, List.length_take]; rfl)) ?_; (with_reducible refine (queue_Queue_Place.calls g118 t128 ((rd_T37 y119 x6_1).f1) t148 t149 w _ ?side1 ?side2 A55.out).mono ?_); (case side1 => repeat (first | (with_reducible first | exact HI118.out | apply IsS62.alloc | apply IsS62.drewN | apply IsS62.drew | apply IsS62.set_0 | refine IsS62.far ?_ (by repeat (first | exact Hid.vis_cells BK124.out (by decide) | apply Hid.vis_set | apply Hid.vis_alloc | apply Hid.vis_drewN | apply Hid.vis_drew)) _) | exact HI118.out)); (case side2 => repeat (first | (with_reducible first | exact HB.out | apply below_alloc | apply pw_below_drewN | apply below_drew1 | refine below_set ?_ (IsS62.ge HI118.out) | refine below_set ?_ GE124.out) | exact HB.out)); rintro e w60 ⟨rfl, hi, hb, hk⟩; refine ⟨_, rfl, ?_⟩; have n0_ := Aside0.mk (Kd.R_mono (Ko.R_keep (IsS62.apart (show IsS62 w _ g118 t128 from by repeat (first | (with_reducible first | exact HI118.out | apply IsS62.alloc | apply IsS62.drewN | apply IsS62.drew | apply IsS62.set_0 | refine IsS62.far ?_ (by repeat (first | exact Hid.vis_cells BK124.out (by decide) | apply Hid.vis_set | apply Hid.vis_alloc | apply Hid.vis_drewN | apply Hid.vis_drew)) _) | exact HI118.out)) (by (with_reducible repeat (first | apply Kd.R_alloc | apply Kd.R_drewN | apply Kd.R_drew)); exact HO_8.out) (by decide)) hk (fun _ h => h.2)) (fun _ h => h.1)); have n1_ := Aside0.mk (Kd.R_mono (Ko.R_keep (IsS62.apart (show IsS62 w _ g118 t128 from by repeat (first | (with_reducible first | exact HI118.out | apply IsS62.alloc | apply IsS62.drewN | apply IsS62.drew | apply IsS62.set_0 | refine IsS62.far ?_ (by repeat (first | exact Hid.vis_cells BK124.out (by decide) | apply Hid.vis_set | apply Hid.vis_alloc | apply Hid.vis_drewN | apply Hid.vis_drew)) _) | exact HI118.out)) (by (with_reducible repeat (first | apply Kd.R_alloc | apply Kd.R_drewN | apply Kd.R_drew)); exact HO_9.out) (by decide)) hk (fun _ h => h.2)) (fun _ h => h.1)); have n2_ := Aside0.mk (Ko.blkc (g := gb124) (cs := #[.int .i64 ((rd_T37 y119 x6_1).f0), .int .i64 ((rd_T37 y119 x6_1).f1), .int .i64 ((rd_T37 y119 x6_1).f2), .int .i64 ((rd_T37 y119 x6_1).f3)]) (t := 37) hk (by (with_reducible repeat (first | refine blk_drewN ?_ _ | refine blk_drew ?_ | refine blk_alloc ?_ _)); exact BK124.out) (by decide)); have n3_ := Aside0.mk (hb); have n4_ := Aside0.mk (hi); clear HO_8; clear HO_9; clear BK124; clear HB; clear HI118; have HO_8 := n0_; have HO_9 := n1_; have BK124 := n2_; have HB := n3_; have HI118 := n4_; clear n0_ n1_ n2_ n3_ n4_; (try clear hb); (try clear hb2); (try clear hk); (try clear hi); have hcz61_0 : w60.cell? ⟨gb124, 0, none⟩ = some (.int .i64 ((rd_T37 y119 x6_1).f0)) := (blk_cell BK124.out 0).trans rfl; have hcz61_1 : w60.cell? ⟨gb124, 1, none⟩ = some (.int .i64 ((rd_T37 y119 x6_1).f1)) := (blk_cell BK124.out 1).trans rfl; have hcz61_2 : w60.cell? ⟨gb124, 2, none⟩ = some (.int .i64 ((rd_T37 y119 x6_1).f2)) := (blk_cell BK124.out 2).trans rfl; have hcz61_3 : w60.cell? ⟨gb124, 3, none⟩ = some (.int .i64 ((rd_T37 y119 x6_1).f3)) := (blk_cell BK124.out 3).trans rfl; have hfz61_0 := blk_frozen BK124.out 0; have hfz61_1 := blk_frozen BK124.out 1; have hfz61_2 := blk_frozen BK124.out 2; have hfz61_3 := blk_frozen BK124.out 3) | ((with_reducible refine gate_callee (f := 17) rfl ?_); refine goesL_ (some 75) rfl rfl Try.func17 (by kernel_rfl) rfl #[.pointer (some ⟨g118, 0, none⟩), .int .i64 ((rd_T37 y119 x6_1).f1)] rfl (by (try simp only [List.map_toArray, List.map_cons, List.map_nil]); first | done | rfl | (simp only [List.length_drop, List.length_take]; rfl)) ?_; (with_reducible refine (queue_Queue_Remove.calls g118 t149 ((rd_T37 y119 x6_1).f1) t150 t151 w _ ?side1 ?side2 A56.out).mono ?_); (case side1 => repeat (first | (with_reducible first | exact HI118.out | apply IsS62.alloc | apply IsS62.drewN | apply IsS62.drew | apply IsS62.set_0 | refine IsS62.far ?_ (by repeat (first | exact Hid.vis_cells BK124.out (by decide) | apply Hid.vis_set | apply Hid.vis_alloc | apply Hid.vis_drewN | apply Hid.vis_drew)) _) | exact HI118.out)); (case side2 => repeat (first | (with_reducible first | exact HB.out | apply below_alloc | apply pw_below_drewN | apply below_drew1 | refine below_set ?_ (IsS62.ge HI118.out) | refine below_set ?_ GE124.out) | exact HB.out)); rintro e w62 ⟨rfl, hi, hb, hk⟩; refine ⟨_, rfl, ?_⟩; have n0_ := Aside0.mk (Kd.R_mono (Ko.R_keep (IsS62.apart (show IsS62 w _ g118 t149 from by repeat (first | (with_reducible first | exact HI118.out | apply IsS62.alloc | apply IsS62.drewN | apply IsS62.drew | apply IsS62.set_0 | refine IsS62.far ?_ (by repeat (first | exact Hid.vis_cells BK124.out (by decide) | apply Hid.vis_set | apply Hid.vis_alloc | apply Hid.vis_drewN | apply Hid.vis_drew)) _) | exact HI118.out)) (by (with_reducible repeat (first | apply Kd.R_alloc | apply Kd.R_drewN | apply Kd.R_drew)); exact HO_8.out) (by decide)) hk (fun _ h => h.2)) (fun _ h => h.1)); have n1_ := Aside0.mk (Kd.R_mono (Ko.R_keep (IsS62.apart (show IsS62 w _ g118 t149 from by repeat (first | (with_reducible first | exact HI118.out | apply IsS62.alloc | apply IsS62.drewN | apply IsS62.drew | apply IsS62.set_0 | refine IsS62.far ?_ (by repeat (first | exact Hid.vis_cells BK124.out (by decide) | apply Hid.vis_set | apply Hid.vis_alloc | apply Hid.vis_drewN | apply Hid.vis_drew)) _) | exact HI118.out)) (by (with_reducible repeat (first | apply Kd.R_alloc | apply Kd.R_drewN | apply Kd.R_drew)); exact HO_9.out) (by decide)) hk (fun _ h => h.2)) (fun _ h => h.1)); have n2_ := Aside0.mk (Ko.blkc (g := gb124) (cs := #[.int .i64 ((rd_T37 y119 x6_1).f0), .int .i64 ((rd_T37 y119 x6_1).f1), .int .i64 ((rd_T37 y119 x6_1).f2), .int .i64 ((rd_T37 y119 x6_1).f3)]) (t := 37) hk (by (with_reducible repeat (first | refine blk_drewN ?_ _ | refine blk_drew ?_ | refine blk_alloc ?_ _)); exact BK124.out) (by decide)); have n3_ := Aside0.mk (hb); have n4_ := Aside0.mk (hi); clear HO_8; clear HO_9; clear BK124; clear HB; clear HI118; have HO_8 := n0_; have HO_9 := n1_; have BK124 := n2_; have HB := n3_; have HI118 := n4_; clear n0_ n1_ n2_ n3_ n4_; (try clear hb); (try clear hb2); (try clear hk); (try clear hi)))
                                  go_loopg [9, 11] kj40 (fun kq v9 v11 w' => ∃ (x9_4 : List Int) (x11_4 : Int), v11 = .int .i64 x11_4 ∧ Aside0 (hostlerlaw12_QueueRoom.l1 kq (wrap64 (Int.tmod (IntKind.u64.wrap (a0)) 17)) y119 x6_1 t125 x9_4 t148 x11_4 t151 = some r) ∧ Aside0 (kq ≤ kj40) ∧ Aside0 (Kd.R (Kd.int .i64) 3 w' w.heap.size (fun k_ => some k_ ≠ (v9 : Value).ownBlock) v126 t125) ∧ Aside0 (Kd.R (Kd.int .i64) 3 w' w.heap.size (fun k_ => some k_ ≠ (v126 : Value).ownBlock) v9 x9_4) ∧ Aside0 (w'.heap[gb124]? = some (.cells #[.int .i64 ((rd_T37 y119 x6_1).f0), .int .i64 ((rd_T37 y119 x6_1).f1), .int .i64 ((rd_T37 y119 x6_1).f2), .int .i64 ((rd_T37 y119 x6_1).f3)] 37 (0, 0))) ∧ Aside0 (IsS62 w w' g118 t151) ∧ Aside0 (Below w.heap.size w w'))
                                  case atStart => exact ⟨(([] : List Int)), (0), (by first | rfl | (simp; done) | (simp [*]; done)), H', ⟨Nat.le_refl _⟩, ⟨by (with_reducible repeat (first | apply Kd.R_alloc | apply Kd.R_drewN | apply Kd.R_drew)); exact HO_8.out⟩, ⟨by (with_reducible repeat (first | apply Kd.R_alloc | apply Kd.R_drewN | apply Kd.R_drew)); exact HO_9.out⟩, ⟨by (with_reducible repeat (first | refine blk_drewN ?_ _ | refine blk_drew ?_ | refine blk_alloc ?_ _)); exact BK124.out⟩, ⟨by repeat (first | (with_reducible first | exact HI118.out | apply IsS62.alloc | apply IsS62.drewN | apply IsS62.drew | apply IsS62.set_0 | refine IsS62.far ?_ (by repeat (first | exact Hid.vis_cells BK124.out (by decide) | apply Hid.vis_set | apply Hid.vis_alloc | apply Hid.vis_drewN | apply Hid.vis_drew)) _) | exact HI118.out)⟩, ⟨by repeat (first | (with_reducible first | exact HB.out | apply below_alloc | apply pw_below_drewN | apply below_drew1 | refine below_set ?_ (IsS62.ge HI118.out) | refine below_set ?_ GE124.out) | exact HB.out)⟩⟩
                                  case round =>
                                    clear H'
                                    try clear c1
                                    try clear p1
                                    try clear q1
                                    try clear hx1
                                    try clear c2
                                    try clear p2
                                    try clear c3
                                    try clear c4
                                    try clear c5
                                    try clear q5
                                    try clear c6
                                    try clear c6b0
                                    try clear c6b1
                                    try clear p6
                                    try clear c7
                                    try clear c7b0
                                    try clear c7b1
                                    try clear c8
                                    try clear c9
                                    try clear c10
                                    try clear q10
                                    try clear c11
                                    try clear c11b0
                                    try clear c12
                                    try clear c12b0
                                    try clear p12
                                    try clear q12
                                    try clear hx12
                                    try clear c15
                                    try clear c16
                                    try clear c17
                                    try clear c23
                                    try clear c23b0
                                    try clear c23b1
                                    try clear c24
                                    try clear c25
                                    try clear c27
                                    try clear c27b0
                                    try clear c27b1
                                    try clear c28
                                    try clear c31
                                    try clear c38
                                    try clear c42
                                    try clear c42b0
                                    try clear c42b1
                                    try clear c43
                                    try clear c45
                                    try clear c45b0
                                    try clear c45b1
                                    try clear c46
                                    try clear c46b0
                                    try clear c46b1
                                    try clear c47
                                    try clear c50
                                    try clear q50
                                    try clear c54
                                    try clear c54b0
                                    try clear c54b1
                                    try clear c57
                                    try clear c57b0
                                    try clear c57b1
                                    try clear c57b2
                                    try clear c58
                                    try clear hcz18_0
                                    try clear hcz18_1
                                    try clear hcz18_2
                                    try clear hcz18_3
                                    try clear hcz20_0
                                    try clear hcz20_1
                                    try clear hcz20_2
                                    try clear hcz20_3
                                    try clear hcz32_0
                                    try clear hcz32_1
                                    try clear hcz32_2
                                    try clear hcz32_3
                                    try clear hcz34_0
                                    try clear hcz34_1
                                    try clear hcz34_2
                                    try clear hcz34_3
                                    try clear hcz39_0
                                    try clear hcz39_1
                                    try clear hcz39_2
                                    try clear hcz39_3
                                    try clear hcz59_0
                                    try clear hcz59_1
                                    try clear hcz59_2
                                    try clear hcz59_3
                                    try clear hcz61_0
                                    try clear hcz61_1
                                    try clear hcz61_2
                                    try clear hcz61_3
                                    try clear hfz18_0
                                    try clear hfz18_1
                                    try clear hfz18_2
                                    try clear hfz18_3
                                    try clear hfz20_0
                                    try clear hfz20_1
                                    try clear hfz20_2
                                    try clear hfz20_3
                                    try clear hfz32_0
                                    try clear hfz32_1
                                    try clear hfz32_2
                                    try clear hfz32_3
                                    try clear hfz34_0
                                    try clear hfz34_1
                                    try clear hfz34_2
                                    try clear hfz34_3
                                    try clear hfz39_0
                                    try clear hfz39_1
                                    try clear hfz39_2
                                    try clear hfz39_3
                                    try clear hfz59_0
                                    try clear hfz59_1
                                    try clear hfz59_2
                                    try clear hfz59_3
                                    try clear hfz61_0
                                    try clear hfz61_1
                                    try clear hfz61_2
                                    try clear hfz61_3
                                    try clear hx123_0
                                    try clear hx123_1
                                    try clear hx123_2
                                    try clear hx123_3
                                    try clear p1
                                    try clear p12
                                    try clear p123
                                    try clear p2
                                    try clear p6
                                    try clear q1
                                    try clear q10
                                    try clear q12
                                    try clear q123
                                    try clear q50
                                    obtain ⟨x9_4, x11_4, rfl, HA, HK4, HO_8, HO_9, BK124, HI118, HB⟩ := hrel
                                    cases gk with
                                    | zero => exact absurd HA.out (by simp [hostlerlaw12_QueueRoom.l1])
                                    | succ k4 =>
                                      have H := HA.out
                                      clear HA
                                      simp only [hostlerlaw12_QueueRoom.l1] at H
                                      by_cases c63 : x11_4 < (t125.length : Int)
                                      · rw [if_pos c63] at H
                                        have c63b0 : decide (x11_4 < (t125.length : Int)) = true := decide_eq_true c63
                                        clear c63
                                        by_cases c64 : x11_4 = t148
                                        · rw [if_pos c64] at H
                                          have c64b0 : (x11_4 == t148) = true := beq_iff_eq.mpr c64
                                          have c64b1 : (x11_4 != t148) = false := bne_eq_false_iff_eq.mpr c64
                                          clear c64
                                          have H' := Aside0.mk H
                                          clear H
                                          obtain ⟨Ao65, co65, eo65⟩ := Kd.R_slice HO_8.out
                                          subst eo65
                                          go_wp2
                                          go_roundg k4
                                          case measure => have := HK1.out; have := HJ21.out; have := HJ40.out; have := HK4.out; omega
                                          case rel => exact ⟨(x9_4), (wrap64 (x11_4 + 1)), (by first | rfl | (simp; done) | (simp [*]; done)), H', ⟨by have := HK1.out; have := HJ21.out; have := HJ40.out; have := HK4.out; omega⟩, ⟨by (with_reducible repeat (first | apply Kd.R_alloc | apply Kd.R_drewN | apply Kd.R_drew)); exact HO_8.out⟩, ⟨by (with_reducible repeat (first | apply Kd.R_alloc | apply Kd.R_drewN | apply Kd.R_drew)); exact HO_9.out⟩, ⟨by (with_reducible repeat (first | refine blk_drewN ?_ _ | refine blk_drew ?_ | refine blk_alloc ?_ _)); exact BK124.out⟩, ⟨by repeat (first | (with_reducible first | exact HI118.out | apply IsS62.alloc | apply IsS62.drewN | apply IsS62.drew | apply IsS62.set_0 | refine IsS62.far ?_ (by repeat (first | exact Hid.vis_cells BK124.out (by decide) | apply Hid.vis_set | apply Hid.vis_alloc | apply Hid.vis_drewN | apply Hid.vis_drew)) _) | exact HI118.out)⟩, ⟨by repeat (first | (with_reducible first | exact HB.out | apply below_alloc | apply pw_below_drewN | apply below_drew1 | refine below_set ?_ (IsS62.ge HI118.out) | refine below_set ?_ GE124.out) | exact HB.out)⟩⟩
                                        · rw [if_neg c64] at H
                                          have c64b0 : (x11_4 == t148) = false := beq_eq_false_iff_ne.mpr c64
                                          have c64b1 : (x11_4 != t148) = true := bne_iff_ne.mpr c64
                                          by_cases c66 : 0 ≤ x11_4
                                          · rw [if_pos c66] at H
                                            have c66b0 : decide (0 ≤ x11_4) = true := decide_eq_true c66
                                            clear c66
                                            by_cases c67 : x9_4.length < 17592186044416
                                            · rw [if_pos c67] at H
                                              have LMc67 := Aside0.mk c67
                                              clear c67
                                              obtain ⟨y153, hy153⟩ : ∃ y_ : List Int, y_ = (x9_4 ++ [rd t125 x11_4]) := ⟨_, rfl⟩
                                              replace H : (hostlerlaw12_QueueRoom.l1 k4 (wrap64 (Int.tmod (IntKind.u64.wrap (a0)) 17)) y119 x6_1 t125 y153 t148 (wrap64 (x11_4 + 1)) t151) = some r := by first | (rw [hy153]; with_reducible exact H) | (have H2_ := (Option.bind_some _ _).symm.trans H; rw [hy153]; with_reducible exact H2_) | (have H2_ := (Option.bind_some _ _).symm.trans H; with_reducible exact H2_) | with_reducible exact H | (rw [hy153]; exact H) | exact H
                                              have Ny153 := Aside0.mk hy153
                                              clear hy153
                                              have H' := Aside0.mk H
                                              clear H
                                              obtain ⟨Ao68, co68, eo68⟩ := Kd.R_slice HO_8.out
                                              subst eo68
                                              have p152 : 0 ≤ (x11_4 : Int) := of_decide_eq_true (by first | (with_reducible assumption) | assumption)
                                              have q152 : x11_4 < (t125.length : Int) := of_decide_eq_true (by first | (with_reducible assumption) | assumption)
                                              obtain ⟨ad152, e152, hx152_0⟩ := Kd.at_int (Kd.R_reads' HO_8.out).2.2 x11_4 p152 q152
                                              cases e152
                                              replace p152 := eq_true p152
                                              replace q152 := eq_true q152
                                              go_wp2_with (first | ((with_reducible refine gate_builtin (b := .append) (xs := #[.tmp 88, .tmp 93]) rfl ?_); at_builtin; refine Kd.R_append (Kd.int .i64) (w0 := w) w.heap.size rfl (.tmp 88) (.tmp 93) 38 3 (.int .i64 0) 8 rfl Try.underlying38 info3 rfl (by decide) (by omega) u9 x9_4 (rd t125 x11_4) [.int .i64 (rd t125 x11_4)] (fun k_ => some k_ ≠ (.slice (some ad152) t125.length co68 : Value).ownBlock) (fun _ => False) rfl rfl ?aP (fun _ hk => hk.elim) ?aF ?aO ?aB ?aS ?aL ?_; (case aP => exact rfl); (case aB => exact (by repeat (first | (with_reducible first | exact HB.out | apply below_alloc | apply pw_below_drewN | apply below_drew1 | refine below_set ?_ (IsS62.ge HI118.out) | refine below_set ?_ GE124.out) | exact HB.out))); (case aF => exact (fun k_ hk => Kd.fresh' (Kd.R_lt (by (with_reducible repeat (first | apply Kd.R_alloc | apply Kd.R_drewN | apply Kd.R_drew)); exact HO_8.out)) k_ hk)); (case aO => exact (by (with_reducible repeat (first | apply Kd.R_alloc | apply Kd.R_drewN | apply Kd.R_drew)); exact HO_9.out)); (case aS => exact (below_size (by repeat (first | (with_reducible first | exact HB.out | apply below_alloc | apply pw_below_drewN | apply below_drew1 | refine below_set ?_ (IsS62.ge HI118.out) | refine below_set ?_ GE124.out) | exact HB.out)))); (case aL => have := LMc67.out; omega); intro v154 w69 ho hb hg hat; rw [← Ny153.out] at ho; have n0_ := Aside0.mk (Kd.R_after (ok := (fun _ => True)) (by (with_reducible repeat (first | apply Kd.R_alloc | apply Kd.R_drewN | apply Kd.R_drew)); exact Kd.R_mono HO_8.out (fun _ hk => ⟨trivial, hk⟩)) hg hat); have n1_ := Aside0.mk (blk_grown (g := gb124) (o := .cells #[.int .i64 ((rd_T37 y119 x6_1).f0), .int .i64 ((rd_T37 y119 x6_1).f1), .int .i64 ((rd_T37 y119 x6_1).f2), .int .i64 ((rd_T37 y119 x6_1).f3)] 37 (0, 0)) (by (with_reducible repeat (first | refine blk_drewN ?_ _ | refine blk_drew ?_ | refine blk_alloc ?_ _)); exact BK124.out) hg (Kd.R_ne HO_9.out BK124.out (by decide))); have n2_ := Aside0.mk (IsS62.grown (by repeat (first | (with_reducible first | exact HI118.out | apply IsS62.alloc | apply IsS62.drewN | apply IsS62.drew | apply IsS62.set_0 | refine IsS62.far ?_ (by repeat (first | exact Hid.vis_cells BK124.out (by decide) | apply Hid.vis_set | apply Hid.vis_alloc | apply Hid.vis_drewN | apply Hid.vis_drew)) _) | exact HI118.out)) hg (IsS62.own_ne HI118.out HO_9.out (by decide))); have n3_ := Aside0.mk (hb); have n4_ := Aside0.mk (ho); clear HO_8; clear BK124; clear HI118; clear HB; clear HO_9; have HO_8 := n0_; have BK124 := n1_; have HI118 := n2_; have HB := n3_; have HO155 := n4_; clear n0_ n1_ n2_ n3_ n4_; clear ho hb hg hat))
                                              go_roundg k4
                                              case measure => have := HK1.out; have := HJ21.out; have := HJ40.out; have := HK4.out; omega
                                              case rel => exact ⟨(y153), (wrap64 (x11_4 + 1)), (by first | rfl | (simp; done) | (simp [*]; done)), H', ⟨by have := HK1.out; have := HJ21.out; have := HJ40.out; have := HK4.out; omega⟩, ⟨by (with_reducible repeat (first | apply Kd.R_alloc | apply Kd.R_drewN | apply Kd.R_drew)); exact Kd.R_mono HO_8.out (fun _ hk => hk.2)⟩, ⟨by (with_reducible repeat (first | apply Kd.R_alloc | apply Kd.R_drewN | apply Kd.R_drew)); exact HO155.out⟩, ⟨by (with_reducible repeat (first | refine blk_drewN ?_ _ | refine blk_drew ?_ | refine blk_alloc ?_ _)); exact BK124.out⟩, ⟨by repeat (first | (with_reducible first | exact HI118.out | apply IsS62.alloc | apply IsS62.drewN | apply IsS62.drew | apply IsS62.set_0 | refine IsS62.far ?_ (by repeat (first | exact Hid.vis_cells BK124.out (by decide) | apply Hid.vis_set | apply Hid.vis_alloc | apply Hid.vis_drewN | apply Hid.vis_drew)) _) | exact HI118.out)⟩, ⟨by repeat (first | (with_reducible first | exact HB.out | apply below_alloc | apply pw_below_drewN | apply below_drew1 | refine below_set ?_ (IsS62.ge HI118.out) | refine below_set ?_ GE124.out) | exact HB.out)⟩⟩
                                            · rw [if_neg c67] at H
                                              exact absurd H (by simp)
                                          · rw [if_neg c66] at H
                                            exact absurd H (by simp)
                                      · rw [if_neg c63] at H
                                        have c63b0 : decide (x11_4 < (t125.length : Int)) = false := decide_eq_false c63
                                        clear c63
                                        have H' := Aside0.mk H
                                        clear H
                                        obtain ⟨Ao70, co70, eo70⟩ := Kd.R_slice HO_8.out
                                        subst eo70
                                        go_wp2
                                        go_meet
                                        case rel => exact ⟨_, (x9_4), (t151), H', ⟨by have := HK1.out; have := HJ21.out; have := HJ40.out; have := HK4.out; first | omega | exact Nat.le_refl _⟩, ⟨by (with_reducible repeat (first | apply Kd.R_alloc | apply Kd.R_drewN | apply Kd.R_drew)); exact Kd.R_mono HO_9.out (fun _ hk => trivial)⟩, ⟨by (with_reducible repeat (first | refine blk_drewN ?_ _ | refine blk_drew ?_ | refine blk_alloc ?_ _)); exact BK124.out⟩, ⟨by repeat (first | (with_reducible first | exact HI118.out | apply IsS62.alloc | apply IsS62.drewN | apply IsS62.drew | apply IsS62.set_0 | refine IsS62.far ?_ (by repeat (first | exact Hid.vis_cells BK124.out (by decide) | apply Hid.vis_set | apply Hid.vis_alloc | apply Hid.vis_drewN | apply Hid.vis_drew)) _) | exact HI118.out)⟩, ⟨by repeat (first | (with_reducible first | exact HB.out | apply below_alloc | apply pw_below_drewN | apply below_drew1 | refine below_set ?_ (IsS62.ge HI118.out) | refine below_set ?_ GE124.out) | exact HB.out)⟩⟩
                              · rw [if_neg c54] at H
                                have c54b0 : (t129 == 3) = false := beq_eq_false_iff_ne.mpr c54
                                have c54b1 : (t129 != 3) = true := bne_iff_ne.mpr c54
                                have H' := Aside0.mk H
                                clear H
                                go_wp2
                                go_meet
                                case rel => exact ⟨_, (([] : List Int)), (t128), H', ⟨by have := HK1.out; have := HJ21.out; have := HJ40.out; first | omega | exact Nat.le_refl _⟩, ⟨by (with_reducible repeat (first | apply Kd.R_alloc | apply Kd.R_drewN | apply Kd.R_drew)); exact Kd.R_mono HO_9.out (fun _ hk => trivial)⟩, ⟨by (with_reducible repeat (first | refine blk_drewN ?_ _ | refine blk_drew ?_ | refine blk_alloc ?_ _)); exact BK124.out⟩, ⟨by repeat (first | (with_reducible first | exact HI118.out | apply IsS62.alloc | apply IsS62.drewN | apply IsS62.drew | apply IsS62.set_0 | refine IsS62.far ?_ (by repeat (first | exact Hid.vis_cells BK124.out (by decide) | apply Hid.vis_set | apply Hid.vis_alloc | apply Hid.vis_drewN | apply Hid.vis_drew)) _) | exact HI118.out)⟩, ⟨by repeat (first | (with_reducible first | exact HB.out | apply below_alloc | apply pw_below_drewN | apply below_drew1 | refine below_set ?_ (IsS62.ge HI118.out) | refine below_set ?_ GE124.out) | exact HB.out)⟩⟩
                case rest =>
                  clear HC15
                  try clear c1
                  try clear p1
                  try clear q1
                  try clear hx1
                  try clear c2
                  try clear p2
                  try clear c3
                  try clear c4
                  try clear c5
                  try clear q5
                  try clear c6
                  try clear c6b0
                  try clear c6b1
                  try clear p6
                  try clear c7
                  try clear c7b0
                  try clear c7b1
                  try clear c8
                  try clear c9
                  try clear c10
                  try clear q10
                  try clear c11
                  try clear c11b0
                  try clear c12
                  try clear c12b0
                  try clear p12
                  try clear q12
                  try clear hx12
                  try clear c15
                  try clear p15
                  try clear q15
                  try clear hx15
                  try clear c16
                  try clear c17
                  try clear c23
                  try clear c23b0
                  try clear c23b1
                  try clear c24
                  try clear c25
                  try clear c27
                  try clear c27b0
                  try clear c27b1
                  try clear c28
                  try clear c31
                  try clear c38
                  try clear c42
                  try clear c42b0
                  try clear c42b1
                  try clear c43
                  try clear c45
                  try clear c45b0
                  try clear c45b1
                  try clear c46
                  try clear c46b0
                  try clear c46b1
                  try clear c47
                  try clear c50
                  try clear q50
                  try clear c54
                  try clear c54b0
                  try clear c54b1
                  try clear c57
                  try clear c57b0
                  try clear c57b1
                  try clear c57b2
                  try clear c58
                  try clear c63
                  try clear c63b0
                  try clear c64
                  try clear c64b0
                  try clear c64b1
                  try clear p64
                  try clear c66
                  try clear c66b0
                  try clear c67
                  try clear hcz18_0
                  try clear hcz18_1
                  try clear hcz18_2
                  try clear hcz18_3
                  try clear hcz20_0
                  try clear hcz20_1
                  try clear hcz20_2
                  try clear hcz20_3
                  try clear hcz32_0
                  try clear hcz32_1
                  try clear hcz32_2
                  try clear hcz32_3
                  try clear hcz34_0
                  try clear hcz34_1
                  try clear hcz34_2
                  try clear hcz34_3
                  try clear hcz39_0
                  try clear hcz39_1
                  try clear hcz39_2
                  try clear hcz39_3
                  try clear hcz59_0
                  try clear hcz59_1
                  try clear hcz59_2
                  try clear hcz59_3
                  try clear hcz61_0
                  try clear hcz61_1
                  try clear hcz61_2
                  try clear hcz61_3
                  try clear hfz18_0
                  try clear hfz18_1
                  try clear hfz18_2
                  try clear hfz18_3
                  try clear hfz20_0
                  try clear hfz20_1
                  try clear hfz20_2
                  try clear hfz20_3
                  try clear hfz32_0
                  try clear hfz32_1
                  try clear hfz32_2
                  try clear hfz32_3
                  try clear hfz34_0
                  try clear hfz34_1
                  try clear hfz34_2
                  try clear hfz34_3
                  try clear hfz39_0
                  try clear hfz39_1
                  try clear hfz39_2
                  try clear hfz39_3
                  try clear hfz59_0
                  try clear hfz59_1
                  try clear hfz59_2
                  try clear hfz59_3
                  try clear hfz61_0
                  try clear hfz61_1
                  try clear hfz61_2
                  try clear hfz61_3
                  try clear hx123_0
                  try clear hx123_1
                  try clear hx123_2
                  try clear hx123_3
                  try clear hx152_0
                  try clear p1
                  try clear p12
                  try clear p123
                  try clear p152
                  try clear p2
                  try clear p6
                  try clear q1
                  try clear q10
                  try clear q12
                  try clear q123
                  try clear q152
                  try clear q5
                  try clear q50
                  obtain ⟨kq, x9_14, x119000_14, HA, HJ14, HO_9, BK124, HI118, HB⟩ := hcut
                  cases kq with
                  | zero => exact absurd HA.out (by simp [hostlerlaw12_QueueRoom.j4])
                  | succ kj14 =>
                    have H := HA.out
                    clear HA
                    simp only [hostlerlaw12_QueueRoom.j4] at H
                    replace H := Option.bind_eq_some_iff.mp H
                    obtain ⟨⟨t156, t159⟩, A710, H⟩ := H
                    replace H : ((hostlerref01_Same.f kj14 t156 x9_14).bind fun t160 => (if t160 = true then ((queue_Queue_Len.f t159).bind fun bt161 => ((queue_Queue_Room.f bt161.2).bind fun bt163 => (if (wrap64 (bt161.1 + bt163.1)) = (wrap64 (Int.tmod (IntKind.u64.wrap (a0)) 17)) then (hostlerlaw12_QueueRoom.l0 kj14 (wrap64 (Int.tmod (IntKind.u64.wrap (a0)) 17)) y119 (wrap64 (x6_1 + 1)) bt163.2) else (none)))) else (none))) = some r := H
                    have A71 := Aside0.mk A710
                    clear A710
                    replace H := Option.bind_eq_some_iff.mp H
                    obtain ⟨t160, A720, H⟩ := H
                    replace H : (if t160 = true then ((queue_Queue_Len.f t159).bind fun bt161 => ((queue_Queue_Room.f bt161.2).bind fun bt163 => (if (wrap64 (bt161.1 + bt163.1)) = (wrap64 (Int.tmod (IntKind.u64.wrap (a0)) 17)) then (hostlerlaw12_QueueRoom.l0 kj14 (wrap64 (Int.tmod (IntKind.u64.wrap (a0)) 17)) y119 (wrap64 (x6_1 + 1)) bt163.2) else (none)))) else (none)) = some r := H
                    have A72 := Aside0.mk A720
                    clear A720
                    by_cases c73 : t160 = true
                    · subst c73
                      have H1 : ((queue_Queue_Len.f t159).bind fun bt161 => ((queue_Queue_Room.f bt161.2).bind fun bt163 => (if (wrap64 (bt161.1 + bt163.1)) = (wrap64 (Int.tmod (IntKind.u64.wrap (a0)) 17)) then (hostlerlaw12_QueueRoom.l0 kj14 (wrap64 (Int.tmod (IntKind.u64.wrap (a0)) 17)) y119 (wrap64 (x6_1 + 1)) bt163.2) else (none)))) = some r := by rw [if_pos rfl] at H; exact H
                      clear H
                      have H := H1
                      clear H1
                      replace H := Option.bind_eq_some_iff.mp H
                      obtain ⟨⟨t161, t162⟩, A740, H⟩ := H
                      replace H : ((queue_Queue_Room.f t162).bind fun bt163 => (if (wrap64 (t161 + bt163.1)) = (wrap64 (Int.tmod (IntKind.u64.wrap (a0)) 17)) then (hostlerlaw12_QueueRoom.l0 kj14 (wrap64 (Int.tmod (IntKind.u64.wrap (a0)) 17)) y119 (wrap64 (x6_1 + 1)) bt163.2) else (none))) = some r := H
                      have A74 := Aside0.mk A740
                      clear A740
                      replace H := Option.bind_eq_some_iff.mp H
                      obtain ⟨⟨t163, t164⟩, A750, H⟩ := H
                      replace H : (if (wrap64 (t161 + t163)) = (wrap64 (Int.tmod (IntKind.u64.wrap (a0)) 17)) then (hostlerlaw12_QueueRoom.l0 kj14 (wrap64 (Int.tmod (IntKind.u64.wrap (a0)) 17)) y119 (wrap64 (x6_1 + 1)) t164) else (none)) = some r := H
                      have A75 := Aside0.mk A750
                      clear A750
                      by_cases c76 : (wrap64 (t161 + t163)) = (wrap64 (Int.tmod (IntKind.u64.wrap (a0)) 17))
                      · rw [if_pos c76] at H
                        have c76b0 : ((wrap64 (t161 + t163)) == (wrap64 (Int.tmod (IntKind.u64.wrap (a0)) 17))) = true := beq_iff_eq.mpr c76
                        have c76b1 : ((wrap64 (t161 + t163)) != (wrap64 (Int.tmod (IntKind.u64.wrap (a0)) 17))) = false := bne_eq_false_iff_eq.mpr c76
                        clear c76
                        have H' := Aside0.mk H
                        clear H
                        go_wp2_with (first | ((with_reducible refine gate_callee (f := 15) rfl ?_); refine goesL_ (some 96) rfl rfl Try.func15 (by kernel_rfl) rfl #[.pointer (some ⟨g118, 0, none⟩)] rfl (by (try simp only [List.map_toArray, List.map_cons, List.map_nil]); first | done | rfl | (simp only [List.length_drop, List.length_take]; rfl)) ?_; (with_reducible refine (queue_Queue_Ids.calls g118 x119000_14 t156 t159 w _ ?side1 ?side2 A71.out).mono ?_); (case side1 => repeat (first | (with_reducible first | exact HI118.out | apply IsS62.alloc | apply IsS62.drewN | apply IsS62.drew | apply IsS62.set_0 | refine IsS62.far ?_ (by repeat (first | exact Hid.vis_cells BK124.out (by decide) | apply Hid.vis_set | apply Hid.vis_alloc | apply Hid.vis_drewN | apply Hid.vis_drew)) _) | exact HI118.out)); (case side2 => repeat (first | (with_reducible first | exact HB.out | apply below_alloc | apply pw_below_drewN | apply below_drew1 | refine below_set ?_ (IsS62.ge HI118.out) | refine below_set ?_ GE124.out) | exact HB.out)); rintro e w77 ⟨v157, rfl, ho0, hi, hb, hk⟩; refine ⟨_, rfl, ?_⟩; have n0_ := Aside0.mk (Kd.R_mono (Kd.R_told (Ko.R_oldH (IsS62.apart (show IsS62 w _ g118 x119000_14 from by repeat (first | (with_reducible first | exact HI118.out | apply IsS62.alloc | apply IsS62.drewN | apply IsS62.drew | apply IsS62.set_0 | refine IsS62.far ?_ (by repeat (first | exact Hid.vis_cells BK124.out (by decide) | apply Hid.vis_set | apply Hid.vis_alloc | apply Hid.vis_drewN | apply Hid.vis_drew)) _) | exact HI118.out)) (by (with_reducible repeat (first | apply Kd.R_alloc | apply Kd.R_drewN | apply Kd.R_drew)); exact HO_9.out) (by decide)) hk) (Kd.R_base ho0)) (fun _ h_ => h_.1)); have n1_ := Aside0.mk (Ko.blkc (g := gb124) (cs := #[.int .i64 ((rd_T37 y119 x6_1).f0), .int .i64 ((rd_T37 y119 x6_1).f1), .int .i64 ((rd_T37 y119 x6_1).f2), .int .i64 ((rd_T37 y119 x6_1).f3)]) (t := 37) hk (by (with_reducible repeat (first | refine blk_drewN ?_ _ | refine blk_drew ?_ | refine blk_alloc ?_ _)); exact BK124.out) (by decide)); have n2_ := Aside0.mk (Kd.R_lower (Kd.R_new' ho0 (Kd.R_lt (by (with_reducible repeat (first | apply Kd.R_alloc | apply Kd.R_drewN | apply Kd.R_drew)); exact HO_9.out))) (below_size (by repeat (first | (with_reducible first | exact HB.out | apply below_alloc | apply pw_below_drewN | apply below_drew1 | refine below_set ?_ (IsS62.ge HI118.out) | refine below_set ?_ GE124.out) | exact HB.out)))); have n3_ := Aside0.mk (hb); have n4_ := Aside0.mk (hi); clear HO_9; clear BK124; clear HB; clear HI118; have HO_9 := n0_; have BK124 := n1_; have HO158 := n2_; have HB := n3_; have HI118 := n4_; clear n0_ n1_ n2_ n3_ n4_; (try clear hb); (try clear hb2); (try clear hk); (try clear hi); (try clear ho0); obtain ⟨Ao78, co78, eo78⟩ := Kd.R_slice HO158.out; subst eo78; obtain ⟨Ao79, co79, eo79⟩ := Kd.R_slice HO_9.out; subst eo79) | ((with_reducible refine gate_callee (f := 18) rfl ?_); refine goesL_ (some 98) rfl rfl Try.func18 (by kernel_rfl) rfl #[.slice Ao78 t156.length co78, .slice Ao79 x9_14.length co79] rfl (by (try simp only [List.map_toArray, List.map_cons, List.map_nil]); first | done | rfl | (simp only [List.length_drop, List.length_take]; rfl)) ?_; (with_reducible refine (hostlerref01_Same.calls kj14 _ _ t156 _ _ x9_14 true _ ?side1 ?side2 ?side3 ?side4 A72.out).mono ?_); (case side1 => repeat (first | exact (Kd.R_reads' HO158.out).2.2 | (with_reducible refine Kd.C_alloc ?_ _) | (with_reducible refine Kd.C_drewN ?_ _) | (with_reducible refine Kd.C_drew ?_))); (case side2 => exact (Kd.R_reads' HO158.out).2.1); (case side3 => repeat (first | exact (Kd.R_reads' HO_9.out).2.2 | (with_reducible refine Kd.C_alloc ?_ _) | (with_reducible refine Kd.C_drewN ?_ _) | (with_reducible refine Kd.C_drew ?_))); (case side4 => exact (Kd.R_reads' HO_9.out).2.1); rintro e w' ⟨rfl, ⟨nd, rfl⟩⟩; refine ⟨_, rfl, ?_⟩) | (go_at_call 13; (with_reducible refine (queue_Queue_Len.calls g118 t159 t161 t162 w _ ?side1 ?side2 A74.out).mono ?_); (case side1 => repeat (first | (with_reducible first | exact HI118.out | apply IsS62.alloc | apply IsS62.drewN | apply IsS62.drew | apply IsS62.set_0 | refine IsS62.far ?_ (by repeat (first | exact Hid.vis_cells BK124.out (by decide) | apply Hid.vis_set | apply Hid.vis_alloc | apply Hid.vis_drewN | apply Hid.vis_drew)) _) | exact HI118.out)); (case side2 => repeat (first | (with_reducible first | exact HB.out | apply below_alloc | apply pw_below_drewN | apply below_drew1 | refine below_set ?_ (IsS62.ge HI118.out) | refine below_set ?_ GE124.out) | exact HB.out)); rintro e w80 ⟨rfl, hi, hb, hk⟩; have n0_ := Aside0.mk (Kd.R_mono (Ko.R_keep (IsS62.apart (show IsS62 w _ g118 t159 from by repeat (first | (with_reducible first | exact HI118.out | apply IsS62.alloc | apply IsS62.drewN | apply IsS62.drew | apply IsS62.set_0 | refine IsS62.far ?_ (by repeat (first | exact Hid.vis_cells BK124.out (by decide) | apply Hid.vis_set | apply Hid.vis_alloc | apply Hid.vis_drewN | apply Hid.vis_drew)) _) | exact HI118.out)) (by (with_reducible repeat (first | apply Kd.R_alloc | apply Kd.R_drewN | apply Kd.R_drew)); exact HO_9.out) (by decide)) hk (fun _ h => h.2)) (fun _ h => h.1)); have n1_ := Aside0.mk (Ko.blkc (g := gb124) (cs := #[.int .i64 ((rd_T37 y119 x6_1).f0), .int .i64 ((rd_T37 y119 x6_1).f1), .int .i64 ((rd_T37 y119 x6_1).f2), .int .i64 ((rd_T37 y119 x6_1).f3)]) (t := 37) hk (by (with_reducible repeat (first | refine blk_drewN ?_ _ | refine blk_drew ?_ | refine blk_alloc ?_ _)); exact BK124.out) (by decide)); have n2_ := Aside0.mk (Kd.R_mono (Ko.R_keep (IsS62.apart (show IsS62 w _ g118 t159 from by repeat (first | (with_reducible first | exact HI118.out | apply IsS62.alloc | apply IsS62.drewN | apply IsS62.drew | apply IsS62.set_0 | refine IsS62.far ?_ (by repeat (first | exact Hid.vis_cells BK124.out (by decide) | apply Hid.vis_set | apply Hid.vis_alloc | apply Hid.vis_drewN | apply Hid.vis_drew)) _) | exact HI118.out)) (by (with_reducible repeat (first | apply Kd.R_alloc | apply Kd.R_drewN | apply Kd.R_drew)); exact HO158.out) (by decide)) hk (fun _ h => h.2)) (fun _ h => h.1)); have n3_ := Aside0.mk (hb); have n4_ := Aside0.mk (hi); clear HO_9; clear BK124; clear HO158; clear HB; clear HI118; have HO_9 := n0_; have BK124 := n1_; have HO158 := n2_; have HB := n3_; have HI118 := n4_; clear n0_ n1_ n2_ n3_ n4_; (try clear hb); (try clear hb2); (try clear hk); (try clear hi)) | (go_at_call 19; (with_reducible refine (queue_Queue_Room.calls g118 t162 t163 t164 w _ ?side1 ?side2 A75.out).mono ?_); (case side1 => repeat (first | (with_reducible first | exact HI118.out | apply IsS62.alloc | apply IsS62.drewN | apply IsS62.drew | apply IsS62.set_0 | refine IsS62.far ?_ (by repeat (first | exact Hid.vis_cells BK124.out (by decide) | apply Hid.vis_set | apply Hid.vis_alloc | apply Hid.vis_drewN | apply Hid.vis_drew)) _) | exact HI118.out)); (case side2 => repeat (first | (with_reducible first | exact HB.out | apply below_alloc | apply pw_below_drewN | apply below_drew1 | refine below_set ?_ (IsS62.ge HI118.out) | refine below_set ?_ GE124.out) | exact HB.out)); rintro e w81 ⟨rfl, hi, hb, hk⟩; have n0_ := Aside0.mk (Kd.R_mono (Ko.R_keep (IsS62.apart (show IsS62 w _ g118 t162 from by repeat (first | (with_reducible first | exact HI118.out | apply IsS62.alloc | apply IsS62.drewN | apply IsS62.drew | apply IsS62.set_0 | refine IsS62.far ?_ (by repeat (first | exact Hid.vis_cells BK124.out (by decide) | apply Hid.vis_set | apply Hid.vis_alloc | apply Hid.vis_drewN | apply Hid.vis_drew)) _) | exact HI118.out)) (by (with_reducible repeat (first | apply Kd.R_alloc | apply Kd.R_drewN | apply Kd.R_drew)); exact HO_9.out) (by decide)) hk (fun _ h => h.2)) (fun _ h => h.1)); have n1_ := Aside0.mk (Ko.blkc (g := gb124) (cs := #[.int .i64 ((rd_T37 y119 x6_1).f0), .int .i64 ((rd_T37 y119 x6_1).f1), .int .i64 ((rd_T37 y119 x6_1).f2), .int .i64 ((rd_T37 y119 x6_1).f3)]) (t := 37) hk (by (with_reducible repeat (first | refine blk_drewN ?_ _ | refine blk_drew ?_ | refine blk_alloc ?_ _)); exact BK124.out) (by decide)); have n2_ := Aside0.mk (Kd.R_mono (Ko.R_keep (IsS62.apart (show IsS62 w _ g118 t162 from by repeat (first | (with_reducible first | exact HI118.out | apply IsS62.alloc | apply IsS62.drewN | apply IsS62.drew | apply IsS62.set_0 | refine IsS62.far ?_ (by repeat (first | exact Hid.vis_cells BK124.out (by decide) | apply Hid.vis_set | apply Hid.vis_alloc | apply Hid.vis_drewN | apply Hid.vis_drew)) _) | exact HI118.out)) (by (with_reducible repeat (first | apply Kd.R_alloc | apply Kd.R_drewN | apply Kd.R_drew)); exact HO158.out) (by decide)) hk (fun _ h => h.2)) (fun _ h => h.1)); have n3_ := Aside0.mk (hb); have n4_ := Aside0.mk (hi); clear HO_9; clear BK124; clear HO158; clear HB; clear HI118; have HO_9 := n0_; have BK124 := n1_; have HO158 := n2_; have HB := n3_; have HI118 := n4_; clear n0_ n1_ n2_ n3_ n4_; (try clear hb); (try clear hb2); (try clear hk); (try clear hi)))
                        go_roundg kj14
                        case measure => have := HK1.out; have := HJ14.out; omega
                        case rel => exact ⟨(wrap64 (x6_1 + 1)), (t164), (by first | rfl | (simp; done) | (simp [*]; done)), H', ⟨by have := HK1.out; have := HJ14.out; omega⟩, ⟨by repeat (first | (with_reducible first | exact HI118.out | apply IsS62.alloc | apply IsS62.drewN | apply IsS62.drew | apply IsS62.set_0 | refine IsS62.far ?_ (by repeat (first | exact Hid.vis_cells BK124.out (by decide) | apply Hid.vis_set | apply Hid.vis_alloc | apply Hid.vis_drewN | apply Hid.vis_drew)) _) | exact HI118.out)⟩, ⟨by repeat (first | (with_reducible first | exact HB.out | apply below_alloc | apply pw_below_drewN | apply below_drew1 | refine below_set ?_ (IsS62.ge HI118.out) | refine below_set ?_ GE124.out) | exact HB.out)⟩⟩
                      · rw [if_neg c76] at H
                        exact absurd H (by simp)
                    · replace c73 := Bool.eq_false_iff.mpr c73
                      subst c73
                      have H1 : (none) = some r := by rw [if_neg (show ¬ (false = true) by decide)] at H; exact H
                      clear H
                      have H := H1
                      clear H1
                      exact absurd H (by simp)
              · rw [if_neg c12] at H
                exact absurd H (by simp)
            · rw [if_neg c11] at H
              have c11b0 : decide (x6_1 < (y119.length : Int)) = false := decide_eq_false c11
              clear c11
              obtain rfl := Option.some.inj H
              go_wp2
              go_ret
              exact ⟨by first | rfl | (simp only [Int.ofNat_lt]; rfl) | (simp [errW_none, errW_some] <;> rfl) | (simp [*, errW_none, errW_some] <;> rfl), by repeat (first | (with_reducible first | exact HB.out | apply below_alloc | apply pw_below_drewN | apply below_drew1 | refine below_set ?_ (IsS62.ge HI118.out)) | exact HB.out)⟩
      · rw [if_neg c7] at H
        exact absurd H (by simp)
    · rw [if_neg c6] at H
      exact absurd H (by simp)
  · replace c4 := Bool.eq_false_iff.mpr c4
    subst c4
    have H1 : (none) = some r := by rw [if_neg (show ¬ (false = true) by decide)] at H; exact H
    clear H
    have H := H1
    clear H1
    exact absurd H (by simp)

/-- THE ONE PURE STATEMENT of hostlerlaw12_QueueRoom: yours. -/
def hostlerlaw12_QueueRoom.Pure : Prop := ∀ (a0 : Int) (l1 : List (S37)), (Lit.int .i64 a0).wf = true → l1.length ≤ maxLen → l1.length * 32 ≤ 140737488351232 → (∀ x ∈ l1, ((Lit.int .i64 x.f0).wf = true ∧ (Lit.int .i64 x.f1).wf = true ∧ (Lit.int .i64 x.f2).wf = true ∧ (Lit.int .i64 x.f3).wf = true)) → ∃ k, hostlerlaw12_QueueRoom.f k a0 l1 = some true
theorem hostlerlaw12_QueueRoom.walk (P : hostlerlaw12_QueueRoom.Pure) (a0 : Int) (a1 : Option Addr) (cap1 : Nat) (l1 : List (S37)) (w : World) (w0 : (Lit.int .i64 a0).wf = true) (hr1 : Kd.C k37 w a1 l1.length l1) (hc1 : l1.length ≤ cap1) (hm1 : l1.length ≤ maxLen) (y1 : l1.length * 32 ≤ 140737488351232) (hw1 : ∀ x ∈ l1, ((Lit.int .i64 x.f0).wf = true ∧ (Lit.int .i64 x.f1).wf = true ∧ (Lit.int .i64 x.f2).wf = true ∧ (Lit.int .i64 x.f3).wf = true)) :
    Calls Try.prog 4 #[.int .i64 a0, .slice a1 l1.length cap1] w fun e w' => e = .returned (.bool true) ∧ Below w.heap.size w w' := by
  obtain ⟨k, h⟩ := P a0 l1 w0 hm1 y1 hw1
  refine (hostlerlaw12_QueueRoom.calls k a0 _ _ l1 true w hr1 hc1 h).mono ?_
  rintro e w' ⟨rfl, hd⟩
  exact ⟨rfl, hd⟩

end Go.Proofs.Ytdcnmjdohjodhaa.PH
