/-
  Contracts of the program's functions and the Lean functions that they compute, laid by a program of this session out of the translation. Conditions: none.
-/
import Derived.Test.YtfflhppieogkbaaPCx0
import Derived.Test.YtfflhppieogkbaaPCx1
namespace Go.Proofs.Ytfflhppieogkbaa.PC
open Go.RowKit Go.Proofs.Ytfflhppieogkbaa.PA Go.Proofs.YtfflhppieogkbaaW.PrintWords Go.Proofs.YtfflhppieogkbaaW.PrintLast Go.Proofs.YtfflhppieogkbaaW.PrintMore
attribute [local go_sem] max2_int min2_int max_two min_two max_three min_three max_four min_four   -- for this text's walks alone
set_option linter.unusedVariables false
set_option linter.unusedSimpArgs false

/-! ### hostlerref04_Set: function 26 -/
def hostlerref04_Set.l0 : Nat → Int → Int → Bool → Bool → Int → List Int → List Int → List Int → List Int → Option (List Int × List Int × Bool)
  | 0, _, _, _, _, _, _, _, _, _ => none
  | k + 1, x1, x2, x9, x11, x12, x116000, x116001, x126000, x126001 => if x12 < (x116000.length : Int) then (if x11 = true then (if 0 ≤ x12 then (if x126000.length < 17592186044416 then (if x12 < (x116001.length : Int) then (if x126001.length < 17592186044416 then (hostlerref04_Set.l0 k x1 x2 x9 x11 (wrap64 (x12 + 1)) x116000 x116001 (x126000 ++ [rd x116000 x12]) (x126001 ++ [rd x116001 x12])) else (none)) else (none)) else (none)) else (none)) else (if 0 ≤ x12 then (if x1 < (rd x116000 x12) then (if x126000.length < 17592186044416 then ((some (x126000 ++ [x1] : List Int)).bind fun y135 => ((hostlerref01_Cut.f x2).bind fun t138 => (if x126001.length < 17592186044416 then ((some (x126001 ++ [t138] : List Int)).bind fun y139 => (if y135.length < 17592186044416 then (if x12 < (x116001.length : Int) then (if y139.length < 17592186044416 then (hostlerref04_Set.l0 k x1 x2 x9 true (wrap64 (x12 + 1)) x116000 x116001 (y135 ++ [rd x116000 x12]) (y139 ++ [rd x116001 x12])) else (none)) else (none)) else (none))) else (none)))) else (none)) else (if x126000.length < 17592186044416 then (if x12 < (x116001.length : Int) then (if x126001.length < 17592186044416 then (hostlerref04_Set.l0 k x1 x2 x9 x11 (wrap64 (x12 + 1)) x116000 x116001 (x126000 ++ [rd x116000 x12]) (x126001 ++ [rd x116001 x12])) else (none)) else (none)) else (none))) else (none))) else (if x11 = true then (some (x126000, x126001, x9)) else (if x126000.length < 17592186044416 then ((hostlerref01_Cut.f x2).bind fun t161 => (if x126001.length < 17592186044416 then (some ((x126000 ++ [x1]), (x126001 ++ [t161]), x9)) else (none))) else (none)))
def hostlerref04_Set.f (k : Nat) (l0_0 : List Int) (l0_1 : List Int) (a1 : Int) (a2 : Int) : Option (List Int × List Int × Bool) := (hostlerref04_Cancel.f k l0_0 l0_1 a1).bind fun bt117 => (hostlerref04_Set.l0 k a1 a2 bt117.2.2 false 0 bt117.1 bt117.2.1 ([] : List Int) ([] : List Int))
theorem hostlerref04_Set.mono_l : ∀ k, (∀ y0 y1 y2 y3 y4 y5 y6 y7 y8, LeO (hostlerref04_Set.l0 k y0 y1 y2 y3 y4 y5 y6 y7 y8) (hostlerref04_Set.l0 (k + 1) y0 y1 y2 y3 y4 y5 y6 y7 y8))
  | 0 => fun _ _ _ _ _ _ _ _ _ r h => by simp [hostlerref04_Set.l0] at h
  | k + 1 => by
    have ih0 := hostlerref04_Set.mono_l k
    · intro y0 y1 y2 y3 y4 y5 y6 y7 y8
      unfold hostlerref04_Set.l0
      repeat' first
      | (with_reducible exact ih0 _ _ _ _ _ _ _ _ _)
      | (with_reducible exact hostlerref04_Cancel.mono _ _ _ _)
      | (with_reducible exact LeO.refl _)
      | (with_reducible exact LeO.none _)
      | (with_reducible refine LeO.ite ?_ ?_)
      | (with_reducible refine LeO.bind ?_ (fun _ => ?_))
      | exact ih0 _ _ _ _ _ _ _ _ _
      | exact hostlerref04_Cancel.mono _ _ _ _
      | exact LeO.none _
      | refine LeO.ite ?_ ?_
      | refine LeO.bind ?_ (fun _ => ?_)
theorem hostlerref04_Set.mono : ∀ a0 a1 a2 a3 k, LeO (hostlerref04_Set.f k a0 a1 a2 a3) (hostlerref04_Set.f (k + 1) a0 a1 a2 a3) := by
  intro a0 a1 a2 a3 k
  have ih0 := hostlerref04_Set.mono_l k
  unfold hostlerref04_Set.f
  repeat' first
      | (with_reducible exact ih0 _ _ _ _ _ _ _ _ _)
      | (with_reducible exact hostlerref04_Cancel.mono _ _ _ _)
      | (with_reducible exact LeO.refl _)
      | (with_reducible exact LeO.none _)
      | (with_reducible refine LeO.ite ?_ ?_)
      | (with_reducible refine LeO.bind ?_ (fun _ => ?_))
      | exact ih0 _ _ _ _ _ _ _ _ _
      | exact hostlerref04_Cancel.mono _ _ _ _
      | exact LeO.none _
      | refine LeO.ite ?_ ?_
      | refine LeO.bind ?_ (fun _ => ?_)
def hostlerref04_Set.T10 : Bool × List (List Nat × List Nat) := (true, [([], []), ([0], [0]), ([], []), ([2], [2]), ([3], [3]), ([1, 4, 3], [1, 4]), ([0, 1, 2, 3, 4, 5], []), ([6, 5, 5, 0, 1, 2, 3, 4, 5], [5, 6])])
def hostlerref04_Set.B10 : List Nat := [0, 1, 0, 4, 12, 31, 63, 127]
theorem hostlerref04_Set.tab10 : rtab .any (opsOf Try.f26 10) = hostlerref04_Set.T10 := by kernel_rfl
theorem hostlerref04_Set.bits10 : waitsOk hostlerref04_Set.T10.2 hostlerref04_Set.B10 = true := by kernel_rfl
def hostlerref04_Set.T12 : Bool × List (List Nat × List Nat) := (true, [([], []), ([0], [0]), ([], []), ([2], [2]), ([], []), ([3, 4], [3, 4]), ([5], [5]), ([6], [6]), ([1, 7], [1, 7]), ([0, 1, 2, 3, 4, 5, 6, 7, 8], []), ([9, 8, 8, 0, 1, 2, 3, 4, 5, 6, 7, 8], [8, 9])])
def hostlerref04_Set.B12 : List Nat := [0, 1, 0, 4, 0, 28, 60, 124, 255, 511, 1023]
theorem hostlerref04_Set.tab12 : rtab .any (opsOf Try.f26 12) = hostlerref04_Set.T12 := by kernel_rfl
theorem hostlerref04_Set.bits12 : waitsOk hostlerref04_Set.T12.2 hostlerref04_Set.B12 = true := by kernel_rfl
def hostlerref04_Set.T13 : Bool × List (List Nat × List Nat) := (true, [([], []), ([0], [0]), ([], []), ([2], [2]), ([], []), ([3, 4], [3, 4]), ([5], [5]), ([6], [6]), ([1, 7], [1, 7]), ([0, 1, 2, 3, 4, 5, 6, 7, 8], []), ([9, 8, 8, 0, 1, 2, 3, 4, 5, 6, 7, 8], [8, 9])])
def hostlerref04_Set.B13 : List Nat := [0, 1, 0, 4, 0, 28, 60, 124, 255, 511, 1023]
theorem hostlerref04_Set.tab13 : rtab .any (opsOf Try.f26 13) = hostlerref04_Set.T13 := by kernel_rfl
theorem hostlerref04_Set.bits13 : waitsOk hostlerref04_Set.T13.2 hostlerref04_Set.B13 = true := by kernel_rfl
def hostlerref04_Set.T16 : Bool × List (List Nat × List Nat) := (true, [([], []), ([0], [0]), ([], []), ([2], [2]), ([3], [3]), ([1, 4, 3], [1, 4]), ([0, 1, 2, 3, 4, 5], []), ([6, 5, 5, 0, 1, 2, 3, 4, 5], [5, 6])])
def hostlerref04_Set.B16 : List Nat := [0, 1, 0, 4, 12, 31, 63, 127]
theorem hostlerref04_Set.tab16 : rtab .any (opsOf Try.f26 16) = hostlerref04_Set.T16 := by kernel_rfl
theorem hostlerref04_Set.bits16 : waitsOk hostlerref04_Set.T16.2 hostlerref04_Set.B16 = true := by kernel_rfl
set_option maxHeartbeats 8000000 in
set_option maxRecDepth 100000 in
theorem hostlerref04_Set.calls (k : Nat) (A0_0 : Option Addr) (c0_0 : Nat) (l0_0 : List Int) (A0_1 : Option Addr) (c0_1 : Nat) (l0_1 : List Int) (a1 : Int) (a2 : Int) (r1 : List Int) (r2 : List Int) (r3 : Bool) (w : World) (hr0_0 : Kd.C (Kd.int .i64) w A0_0 l0_0.length l0_0) (hc0_0 : l0_0.length ≤ c0_0) (hr0_1 : Kd.C (Kd.int .i64) w A0_1 l0_1.length l0_1) (hc0_1 : l0_1.length ≤ c0_1) (h : hostlerref04_Set.f k l0_0 l0_1 a1 a2 = some (r1, r2, r3)) :
    Calls Try.prog 26 #[.agg #[.slice A0_0 l0_0.length c0_0, .slice A0_1 l0_1.length c0_1], .int .i64 a1, .int .i64 a2] w fun e w' => ∃ v0_ v1_ : Value, e = .returned (.tuple #[.agg #[v0_, v1_], .bool r3]) ∧ Kd.R (Kd.int .i64) 3 w' w.heap.size (fun k_ => some k_ ≠ (v1_ : Value).ownBlock) v0_ r1 ∧ Kd.R (Kd.int .i64) 3 w' w.heap.size (fun k_ => some k_ ≠ (v0_ : Value).ownBlock) v1_ r2 ∧ Below w.heap.size w w' := by
  have hu46 := Try.underlying46
  have HR0_0 := Aside0.mk hr0_0
  have HC0_0 := Aside0.mk hc0_0
  clear hr0_0 hc0_0
  have HR0_1 := Aside0.mk hr0_1
  have HC0_1 := Aside0.mk hc0_1
  clear hr0_1 hc0_1
  have HB := Aside0.mk (Below.refl w.heap.size w)
  have H : ((hostlerref04_Cancel.f k l0_0 l0_1 a1).bind fun bt117 => (hostlerref04_Set.l0 k a1 a2 bt117.2.2 false 0 bt117.1 bt117.2.1 ([] : List Int) ([] : List Int))) = some (r1, r2, r3) := h
  clear h
  replace H := Option.bind_eq_some_iff.mp H
  obtain ⟨⟨t117, t120, t123⟩, A40, H⟩ := H
  replace H : (hostlerref04_Set.l0 k a1 a2 t123 false 0 t117 t120 ([] : List Int) ([] : List Int)) = some (r1, r2, r3) := H
  have A4 := Aside0.mk A40
  clear A40
  have H' := Aside0.mk H
  clear H
  go_enter Try.func26, Try.ntmps26
  go_wp2_with (first | ((with_reducible refine gate_dst (N := 3) rfl ?_); refine box_event ?hg (N := 3) ?hd (cs := #[.slice A0_0 l0_0.length c0_0, .slice A0_1 l0_1.length c0_1]) (t := 46) ?hr ?_; (case hd => rfl); (case hg => rfl); (case hr => first | (go_simp; done) | (go_simp; rfl)); intro gb115 hg w5 hbox hb; have n0_ := Aside0.mk (below_step (by repeat (first | (with_reducible first | exact HB.out | apply below_alloc | apply pw_below_drewN | apply below_drew1) | exact HB.out)) hb); have n1_ := Aside0.mk (hbox); have n2_ := Aside0.mk ((by rw [hg]; exact (below_size (by repeat (first | (with_reducible first | exact HB.out | apply below_alloc | apply pw_below_drewN | apply below_drew1) | exact HB.out))) : w.heap.size ≤ gb115)); have n3_ := Aside0.mk ((by rw [hg]; exact (below_size (by repeat (first | (with_reducible first | exact HB.out | apply below_alloc | apply pw_below_drewN | apply below_drew1) | exact HB.out))) : w.heap.size ≤ gb115)); clear HB; have HB := n0_; have BK115 := n1_; have GW115 := n2_; have GE115 := n3_; clear n0_ n1_ n2_ n3_; clear hb hbox hg) | ((with_reducible refine gate_dst (N := 6) rfl ?_); refine box_event ?hg (N := 6) ?hd (cs := #[.slice none 0 0, .slice none 0 0]) (t := 46) ?hr ?_; (case hd => rfl); (case hg => rfl); (case hr => first | (go_simp; done) | (go_simp; rfl)); intro gb116 hg w6 hbox hb; have n0_ := Aside0.mk (blk_below (g := gb115) (o := .cells #[.slice A0_0 l0_0.length c0_0, .slice A0_1 l0_1.length c0_1] 46 (0, 0)) (by (with_reducible repeat (first | refine blk_drewN ?_ _ | refine blk_drew ?_ | refine blk_alloc ?_ _)); exact BK115.out) hb); have n1_ := Aside0.mk (below_step (by repeat (first | (with_reducible first | exact HB.out | apply below_alloc | apply pw_below_drewN | apply below_drew1 | refine below_set ?_ GE115.out) | exact HB.out)) hb); have n2_ := Aside0.mk (hbox); have n3_ := Aside0.mk ((by rw [hg]; exact (below_size (by repeat (first | (with_reducible first | exact HB.out | apply below_alloc | apply pw_below_drewN | apply below_drew1 | refine below_set ?_ GE115.out) | exact HB.out))) : w.heap.size ≤ gb116)); have n4_ := Aside0.mk ((by rw [hg]; exact (below_size (by repeat (first | (with_reducible first | exact HB.out | apply below_alloc | apply pw_below_drewN | apply below_drew1 | refine below_set ?_ GE115.out) | exact HB.out))) : w.heap.size ≤ gb116)); have n5_ := Aside0.mk ((by rw [hg]; exact Nat.ne_of_lt (blk_lt (g := gb115) (o := .cells #[.slice A0_0 l0_0.length c0_0, .slice A0_1 l0_1.length c0_1] 46 (0, 0)) (by (with_reducible repeat (first | refine blk_drewN ?_ _ | refine blk_drew ?_ | refine blk_alloc ?_ _)); exact BK115.out)) : gb115 ≠ gb116)); have n6_ := Aside0.mk ((by rw [hg]; exact Nat.ne_of_gt (blk_lt (g := gb115) (o := .cells #[.slice A0_0 l0_0.length c0_0, .slice A0_1 l0_1.length c0_1] 46 (0, 0)) (by (with_reducible repeat (first | refine blk_drewN ?_ _ | refine blk_drew ?_ | refine blk_alloc ?_ _)); exact BK115.out)) : gb116 ≠ gb115)); clear BK115; clear HB; have BK115 := n0_; have HB := n1_; have BK116 := n2_; have GW116 := n3_; have GE116 := n4_; have NB115_116 := n5_; have NB116_115 := n6_; clear n0_ n1_ n2_ n3_ n4_ n5_ n6_; clear hb hbox hg; have hnb7 := NB115_116.out; have hnc7 := NB116_115.out; have hcz8_0 : w6.cell? ⟨gb115, 0, none⟩ = some (.slice A0_0 l0_0.length c0_0) := (blk_cell BK115.out 0).trans rfl; have hcz8_1 : w6.cell? ⟨gb115, 1, none⟩ = some (.slice A0_1 l0_1.length c0_1) := (blk_cell BK115.out 1).trans rfl; have hfz8_0 := blk_frozen BK115.out 0; have hfz8_1 := blk_frozen BK115.out 1) | ((with_reducible refine gate_callee (f := 27) rfl ?_); refine goesL_ (some 16) rfl rfl Try.func27 (by kernel_rfl) rfl #[.agg #[.slice A0_0 l0_0.length c0_0, .slice A0_1 l0_1.length c0_1], .int .i64 a1] rfl (by (try simp only [List.map_toArray, List.map_cons, List.map_nil]); first | done | rfl | (simp only [List.length_drop, List.length_take]; rfl)) ?_; (with_reducible refine (hostlerref04_Cancel.calls k (fun k_ => k_ < w.heap.size) _ _ l0_0 (fun k_ => k_ < w.heap.size) _ _ l0_1 a1 t117 t120 t123 _ ?side1 ?side2 A4.out).mono ?_); (case side1 => exact Kd.V_mk HC0_0.out (Kd.F_below (Kd.C_F (Kd.heap_int .i64) HR0_0.out) (by repeat (first | (with_reducible first | exact HB.out | apply below_alloc | apply pw_below_drewN | apply below_drew1 | refine below_set ?_ GE115.out | refine below_set ?_ GE116.out) | exact HB.out)))); (case side2 => exact Kd.V_mk HC0_1.out (Kd.F_below (Kd.C_F (Kd.heap_int .i64) HR0_1.out) (by repeat (first | (with_reducible first | exact HB.out | apply below_alloc | apply pw_below_drewN | apply below_drew1 | refine below_set ?_ GE115.out | refine below_set ?_ GE116.out) | exact HB.out)))); rintro e w9 ⟨v118, v121, rfl, ho0, ho1, hb⟩; refine ⟨_, rfl, ?_⟩; have n0_ := Aside0.mk (Kd.V_lower (Kd.V_mono (ok' := fun k_ => k_ ≠ gb115 ∧ k_ ≠ gb116) ho0 (fun k_ hk_ => ⟨Or.elim hk_ (fun hs_ => Or.elim hs_ (fun hs_ => fun e_ => Nat.not_le.2 hs_ (by rw [e_]; exact GW115.out)) (fun hs_ => fun e_ => Nat.not_le.2 hs_ (by rw [e_]; exact GW115.out))) (fun hn_ => (Kd.freshB (g := gb115) (o := .cells #[.slice A0_0 l0_0.length c0_0, .slice A0_1 l0_1.length c0_1] 46 (0, 0)) (by (with_reducible repeat (first | refine blk_drewN ?_ _ | refine blk_drew ?_ | refine blk_alloc ?_ _)); exact BK115.out) k_ hn_)), Or.elim hk_ (fun hs_ => Or.elim hs_ (fun hs_ => fun e_ => Nat.not_le.2 hs_ (by rw [e_]; exact GW116.out)) (fun hs_ => fun e_ => Nat.not_le.2 hs_ (by rw [e_]; exact GW116.out))) (fun hn_ => (Kd.freshB (g := gb116) (o := .cells #[.slice none 0 0, .slice none 0 0] 46 (0, 0)) (by (with_reducible repeat (first | refine blk_drewN ?_ _ | refine blk_drew ?_ | refine blk_alloc ?_ _)); exact BK116.out) k_ hn_))⟩)) (below_size (by repeat (first | (with_reducible first | exact HB.out | apply below_alloc | apply pw_below_drewN | apply below_drew1 | refine below_set ?_ GE115.out | refine below_set ?_ GE116.out) | exact HB.out)))); have n1_ := Aside0.mk (Kd.V_lower (Kd.V_mono (ok' := fun k_ => k_ ≠ gb115 ∧ k_ ≠ gb116) ho1 (fun k_ hk_ => ⟨Or.elim hk_ (fun hs_ => Or.elim hs_ (fun hs_ => fun e_ => Nat.not_le.2 hs_ (by rw [e_]; exact GW115.out)) (fun hs_ => fun e_ => Nat.not_le.2 hs_ (by rw [e_]; exact GW115.out))) (fun hn_ => (Kd.freshB (g := gb115) (o := .cells #[.slice A0_0 l0_0.length c0_0, .slice A0_1 l0_1.length c0_1] 46 (0, 0)) (by (with_reducible repeat (first | refine blk_drewN ?_ _ | refine blk_drew ?_ | refine blk_alloc ?_ _)); exact BK115.out) k_ hn_)), Or.elim hk_ (fun hs_ => Or.elim hs_ (fun hs_ => fun e_ => Nat.not_le.2 hs_ (by rw [e_]; exact GW116.out)) (fun hs_ => fun e_ => Nat.not_le.2 hs_ (by rw [e_]; exact GW116.out))) (fun hn_ => (Kd.freshB (g := gb116) (o := .cells #[.slice none 0 0, .slice none 0 0] 46 (0, 0)) (by (with_reducible repeat (first | refine blk_drewN ?_ _ | refine blk_drew ?_ | refine blk_alloc ?_ _)); exact BK116.out) k_ hn_))⟩)) (below_size (by repeat (first | (with_reducible first | exact HB.out | apply below_alloc | apply pw_below_drewN | apply below_drew1 | refine below_set ?_ GE115.out | refine below_set ?_ GE116.out) | exact HB.out)))); have n2_ := Aside0.mk (blk_below (g := gb115) (o := .cells #[.slice A0_0 l0_0.length c0_0, .slice A0_1 l0_1.length c0_1] 46 (0, 0)) (by (with_reducible repeat (first | refine blk_drewN ?_ _ | refine blk_drew ?_ | refine blk_alloc ?_ _)); exact BK115.out) hb); have n3_ := Aside0.mk (blk_below (g := gb116) (o := .cells #[.slice none 0 0, .slice none 0 0] 46 (0, 0)) (by (with_reducible repeat (first | refine blk_drewN ?_ _ | refine blk_drew ?_ | refine blk_alloc ?_ _)); exact BK116.out) hb); have n4_ := Aside0.mk (below_step (by repeat (first | (with_reducible first | exact HB.out | apply below_alloc | apply pw_below_drewN | apply below_drew1 | refine below_set ?_ GE115.out | refine below_set ?_ GE116.out) | exact HB.out)) hb); clear BK115; clear BK116; clear HB; have HO119 := n0_; have HO122 := n1_; have BK115 := n2_; have BK116 := n3_; have HB := n4_; clear n0_ n1_ n2_ n3_ n4_; (try clear hb); (try clear hb2); (try clear hk); (try clear hi); (try clear ho0); (try clear ho1)) | ((with_reducible refine gate_dst (N := 8) rfl ?_); refine box_event ?hg (N := 8) ?hd (cs := #[.slice none 0 0, .slice none 0 0]) (t := 46) ?hr ?_; (case hd => rfl); (case hg => rfl); (case hr => first | (go_simp; done) | (go_simp; rfl)); intro gb124 hg w10 hbox hb; have n0_ := Aside0.mk (Kd.V_below (Kd.V_elderB (by (with_reducible repeat (first | apply Kd.V_alloc | apply Kd.V_drewN | apply Kd.V_drew)); exact HO119.out) gb124 (Nat.le_of_eq hg.symm)) hb); have n1_ := Aside0.mk (Kd.V_below (Kd.V_elderB (by (with_reducible repeat (first | apply Kd.V_alloc | apply Kd.V_drewN | apply Kd.V_drew)); exact HO122.out) gb124 (Nat.le_of_eq hg.symm)) hb); have n2_ := Aside0.mk (blk_below (g := gb115) (o := .cells #[.slice A0_0 l0_0.length c0_0, .slice A0_1 l0_1.length c0_1] 46 (0, 0)) (by (with_reducible repeat (first | refine blk_drewN ?_ _ | refine blk_drew ?_ | refine blk_alloc ?_ _)); exact BK115.out) hb); have n3_ := Aside0.mk (blk_below (g := gb116) (o := .cells #[.slice none 0 0, .slice none 0 0] 46 (0, 0)) (by (with_reducible repeat (first | refine blk_drewN ?_ _ | refine blk_drew ?_ | refine blk_alloc ?_ _)); exact BK116.out) hb); have n4_ := Aside0.mk (below_step (by repeat (first | (with_reducible first | exact HB.out | apply below_alloc | apply pw_below_drewN | apply below_drew1 | refine below_set ?_ GE115.out | refine below_set ?_ GE116.out) | exact HB.out)) hb); have n5_ := Aside0.mk (hbox); have n6_ := Aside0.mk ((by rw [hg]; exact (below_size (by repeat (first | (with_reducible first | exact HB.out | apply below_alloc | apply pw_below_drewN | apply below_drew1 | refine below_set ?_ GE115.out | refine below_set ?_ GE116.out) | exact HB.out))) : w.heap.size ≤ gb124)); have n7_ := Aside0.mk ((by rw [hg]; exact (below_size (by repeat (first | (with_reducible first | exact HB.out | apply below_alloc | apply pw_below_drewN | apply below_drew1 | refine below_set ?_ GE115.out | refine below_set ?_ GE116.out) | exact HB.out))) : w.heap.size ≤ gb124)); have n8_ := Aside0.mk ((by rw [hg]; exact Nat.ne_of_lt (blk_lt (g := gb115) (o := .cells #[.slice A0_0 l0_0.length c0_0, .slice A0_1 l0_1.length c0_1] 46 (0, 0)) (by (with_reducible repeat (first | refine blk_drewN ?_ _ | refine blk_drew ?_ | refine blk_alloc ?_ _)); exact BK115.out)) : gb115 ≠ gb124)); have n9_ := Aside0.mk ((by rw [hg]; exact Nat.ne_of_gt (blk_lt (g := gb115) (o := .cells #[.slice A0_0 l0_0.length c0_0, .slice A0_1 l0_1.length c0_1] 46 (0, 0)) (by (with_reducible repeat (first | refine blk_drewN ?_ _ | refine blk_drew ?_ | refine blk_alloc ?_ _)); exact BK115.out)) : gb124 ≠ gb115)); have n10_ := Aside0.mk ((by rw [hg]; exact Nat.ne_of_lt (blk_lt (g := gb116) (o := .cells #[.slice none 0 0, .slice none 0 0] 46 (0, 0)) (by (with_reducible repeat (first | refine blk_drewN ?_ _ | refine blk_drew ?_ | refine blk_alloc ?_ _)); exact BK116.out)) : gb116 ≠ gb124)); have n11_ := Aside0.mk ((by rw [hg]; exact Nat.ne_of_gt (blk_lt (g := gb116) (o := .cells #[.slice none 0 0, .slice none 0 0] 46 (0, 0)) (by (with_reducible repeat (first | refine blk_drewN ?_ _ | refine blk_drew ?_ | refine blk_alloc ?_ _)); exact BK116.out)) : gb124 ≠ gb116)); clear HO119; clear HO122; clear BK115; clear BK116; clear HB; have HO119 := n0_; have HO122 := n1_; have BK115 := n2_; have BK116 := n3_; have HB := n4_; have BK124 := n5_; have GW124 := n6_; have GE124 := n7_; have NB115_124 := n8_; have NB124_115 := n9_; have NB116_124 := n10_; have NB124_116 := n11_; clear n0_ n1_ n2_ n3_ n4_ n5_ n6_ n7_ n8_ n9_ n10_ n11_; clear hb hbox hg; obtain ⟨Ao11, co11, eo11⟩ := Kd.V_slice HO119.out; subst eo11; have hnb12 := NB124_115.out; have hnc12 := NB115_124.out; have hnb13 := NB124_116.out; have hnc13 := NB116_124.out; have hcz14_0 : w10.cell? ⟨gb124, 0, none⟩ = some (.slice none 0 0) := (blk_cell BK124.out 0).trans rfl; have hcz14_1 : w10.cell? ⟨gb124, 1, none⟩ = some (.slice none 0 0) := (blk_cell BK124.out 1).trans rfl; have hfz14_0 := blk_frozen BK124.out 0; have hfz14_1 := blk_frozen BK124.out 1; obtain ⟨Ao15, co15, eo15⟩ := Kd.V_slice HO122.out; subst eo15; have hcz16_0 : w10.cell? ⟨gb115, 0, none⟩ = some (.slice A0_0 l0_0.length c0_0) := (blk_cell BK115.out 0).trans rfl; have hcz16_1 : w10.cell? ⟨gb115, 1, none⟩ = some (.slice A0_1 l0_1.length c0_1) := (blk_cell BK115.out 1).trans rfl; have hfz16_0 := blk_frozen BK115.out 0; have hfz16_1 := blk_frozen BK115.out 1) | ((with_reducible refine gate_dst (N := 10) rfl ?_); refine box_event ?hg (N := 10) ?hd (cs := #[.slice none 0 0, .slice none 0 0]) (t := 46) ?hr ?_; (case hd => rfl); (case hg => rfl); (case hr => first | (go_simp; done) | (go_simp; rfl)); intro gb125 hg w17 hbox hb; have n0_ := Aside0.mk (Kd.V_below (Kd.V_elderB (by (with_reducible repeat (first | apply Kd.V_alloc | apply Kd.V_drewN | apply Kd.V_drew)); exact (Kd.V_mono (Kd.V_mono (Kd.V_far (p := ⟨gb115, 1, none⟩) (Kd.V_far (p := ⟨gb115, 0, none⟩) (Kd.V_far (p := ⟨gb124, 1, none⟩) (Kd.V_far (p := ⟨gb124, 0, none⟩) (Kd.V_mono (Kd.V_mono HO119.out (fun k_ hk => (⟨hk, hk.2⟩ : _ ∧ k_ ≠ gb124))) (fun k_ hk => (⟨hk, hk.1.1.1⟩ : _ ∧ k_ ≠ gb115))) (fun _ hk => hk.1.2) (.slice Ao11 t117.length co11)) (fun _ hk => hk.1.2) (.slice Ao15 t120.length co15)) (fun _ hk => hk.2) (.slice Ao11 t117.length co11)) (fun _ hk => hk.2) (.slice Ao15 t120.length co15)) (fun _ h_ => h_.1)) (fun _ h_ => h_.1))) gb125 (Nat.le_of_eq hg.symm)) hb); have n1_ := Aside0.mk (Kd.V_below (Kd.V_elderB (by (with_reducible repeat (first | apply Kd.V_alloc | apply Kd.V_drewN | apply Kd.V_drew)); exact (Kd.V_mono (Kd.V_mono (Kd.V_far (p := ⟨gb115, 1, none⟩) (Kd.V_far (p := ⟨gb115, 0, none⟩) (Kd.V_far (p := ⟨gb124, 1, none⟩) (Kd.V_far (p := ⟨gb124, 0, none⟩) (Kd.V_mono (Kd.V_mono HO122.out (fun k_ hk => (⟨hk, hk.2⟩ : _ ∧ k_ ≠ gb124))) (fun k_ hk => (⟨hk, hk.1.1.1⟩ : _ ∧ k_ ≠ gb115))) (fun _ hk => hk.1.2) (.slice Ao11 t117.length co11)) (fun _ hk => hk.1.2) (.slice Ao15 t120.length co15)) (fun _ hk => hk.2) (.slice Ao11 t117.length co11)) (fun _ hk => hk.2) (.slice Ao15 t120.length co15)) (fun _ h_ => h_.1)) (fun _ h_ => h_.1))) gb125 (Nat.le_of_eq hg.symm)) hb); have n2_ := Aside0.mk (blk_below (g := gb115) (o := .cells #[.slice Ao11 t117.length co11, .slice Ao15 t120.length co15] 46 (0, 0)) (by (with_reducible repeat (first | refine blk_drewN ?_ _ | refine blk_drew ?_ | refine blk_alloc ?_ _)); refine blk_put (cs := #[.slice Ao11 t117.length co11, .slice A0_1 l0_1.length c0_1]) ?_ 1 _ rfl; (with_reducible repeat (first | refine blk_drewN ?_ _ | refine blk_drew ?_ | refine blk_alloc ?_ _)); refine blk_put (cs := #[.slice A0_0 l0_0.length c0_0, .slice A0_1 l0_1.length c0_1]) ?_ 0 _ rfl; (with_reducible repeat (first | refine blk_drewN ?_ _ | refine blk_drew ?_ | refine blk_alloc ?_ _)); refine blk_far ?_ NB115_124.out _; (with_reducible repeat (first | refine blk_drewN ?_ _ | refine blk_drew ?_ | refine blk_alloc ?_ _)); refine blk_far ?_ NB115_124.out _; (with_reducible repeat (first | refine blk_drewN ?_ _ | refine blk_drew ?_ | refine blk_alloc ?_ _)); exact BK115.out) hb); have n3_ := Aside0.mk (blk_below (g := gb116) (o := .cells #[.slice none 0 0, .slice none 0 0] 46 (0, 0)) (by (with_reducible repeat (first | refine blk_drewN ?_ _ | refine blk_drew ?_ | refine blk_alloc ?_ _)); refine blk_far ?_ NB116_115.out _; (with_reducible repeat (first | refine blk_drewN ?_ _ | refine blk_drew ?_ | refine blk_alloc ?_ _)); refine blk_far ?_ NB116_115.out _; (with_reducible repeat (first | refine blk_drewN ?_ _ | refine blk_drew ?_ | refine blk_alloc ?_ _)); refine blk_far ?_ NB116_124.out _; (with_reducible repeat (first | refine blk_drewN ?_ _ | refine blk_drew ?_ | refine blk_alloc ?_ _)); refine blk_far ?_ NB116_124.out _; (with_reducible repeat (first | refine blk_drewN ?_ _ | refine blk_drew ?_ | refine blk_alloc ?_ _)); exact BK116.out) hb); have n4_ := Aside0.mk (blk_below (g := gb124) (o := .cells #[.slice Ao11 t117.length co11, .slice Ao15 t120.length co15] 46 (0, 0)) (by (with_reducible repeat (first | refine blk_drewN ?_ _ | refine blk_drew ?_ | refine blk_alloc ?_ _)); refine blk_far ?_ NB124_115.out _; (with_reducible repeat (first | refine blk_drewN ?_ _ | refine blk_drew ?_ | refine blk_alloc ?_ _)); refine blk_far ?_ NB124_115.out _; (with_reducible repeat (first | refine blk_drewN ?_ _ | refine blk_drew ?_ | refine blk_alloc ?_ _)); refine blk_put (cs := #[.slice Ao11 t117.length co11, .slice none 0 0]) ?_ 1 _ rfl; (with_reducible repeat (first | refine blk_drewN ?_ _ | refine blk_drew ?_ | refine blk_alloc ?_ _)); refine blk_put (cs := #[.slice none 0 0, .slice none 0 0]) ?_ 0 _ rfl; (with_reducible repeat (first | refine blk_drewN ?_ _ | refine blk_drew ?_ | refine blk_alloc ?_ _)); exact BK124.out) hb); have n5_ := Aside0.mk (below_step (by repeat (first | (with_reducible first | exact HB.out | apply below_alloc | apply pw_below_drewN | apply below_drew1 | refine below_set ?_ GE115.out | refine below_set ?_ GE116.out | refine below_set ?_ GE124.out) | exact HB.out)) hb); have n6_ := Aside0.mk (hbox); have n7_ := Aside0.mk ((by rw [hg]; exact (below_size (by repeat (first | (with_reducible first | exact HB.out | apply below_alloc | apply pw_below_drewN | apply below_drew1 | refine below_set ?_ GE115.out | refine below_set ?_ GE116.out | refine below_set ?_ GE124.out) | exact HB.out))) : w.heap.size ≤ gb125)); have n8_ := Aside0.mk ((by rw [hg]; exact (below_size (by repeat (first | (with_reducible first | exact HB.out | apply below_alloc | apply pw_below_drewN | apply below_drew1 | refine below_set ?_ GE115.out | refine below_set ?_ GE116.out | refine below_set ?_ GE124.out) | exact HB.out))) : w.heap.size ≤ gb125)); have n9_ := Aside0.mk ((by rw [hg]; exact Nat.ne_of_lt (blk_lt (g := gb115) (o := .cells #[.slice Ao11 t117.length co11, .slice Ao15 t120.length co15] 46 (0, 0)) (by (with_reducible repeat (first | refine blk_drewN ?_ _ | refine blk_drew ?_ | refine blk_alloc ?_ _)); refine blk_put (cs := #[.slice Ao11 t117.length co11, .slice A0_1 l0_1.length c0_1]) ?_ 1 _ rfl; (with_reducible repeat (first | refine blk_drewN ?_ _ | refine blk_drew ?_ | refine blk_alloc ?_ _)); refine blk_put (cs := #[.slice A0_0 l0_0.length c0_0, .slice A0_1 l0_1.length c0_1]) ?_ 0 _ rfl; (with_reducible repeat (first | refine blk_drewN ?_ _ | refine blk_drew ?_ | refine blk_alloc ?_ _)); refine blk_far ?_ NB115_124.out _; (with_reducible repeat (first | refine blk_drewN ?_ _ | refine blk_drew ?_ | refine blk_alloc ?_ _)); refine blk_far ?_ NB115_124.out _; (with_reducible repeat (first | refine blk_drewN ?_ _ | refine blk_drew ?_ | refine blk_alloc ?_ _)); exact BK115.out)) : gb115 ≠ gb125)); have n10_ := Aside0.mk ((by rw [hg]; exact Nat.ne_of_gt (blk_lt (g := gb115) (o := .cells #[.slice Ao11 t117.length co11, .slice Ao15 t120.length co15] 46 (0, 0)) (by (with_reducible repeat (first | refine blk_drewN ?_ _ | refine blk_drew ?_ | refine blk_alloc ?_ _)); refine blk_put (cs := #[.slice Ao11 t117.length co11, .slice A0_1 l0_1.length c0_1]) ?_ 1 _ rfl; (with_reducible repeat (first | refine blk_drewN ?_ _ | refine blk_drew ?_ | refine blk_alloc ?_ _)); refine blk_put (cs := #[.slice A0_0 l0_0.length c0_0, .slice A0_1 l0_1.length c0_1]) ?_ 0 _ rfl; (with_reducible repeat (first | refine blk_drewN ?_ _ | refine blk_drew ?_ | refine blk_alloc ?_ _)); refine blk_far ?_ NB115_124.out _; (with_reducible repeat (first | refine blk_drewN ?_ _ | refine blk_drew ?_ | refine blk_alloc ?_ _)); refine blk_far ?_ NB115_124.out _; (with_reducible repeat (first | refine blk_drewN ?_ _ | refine blk_drew ?_ | refine blk_alloc ?_ _)); exact BK115.out)) : gb125 ≠ gb115)); have n11_ := Aside0.mk ((by rw [hg]; exact Nat.ne_of_lt (blk_lt (g := gb116) (o := .cells #[.slice none 0 0, .slice none 0 0] 46 (0, 0)) (by (with_reducible repeat (first | refine blk_drewN ?_ _ | refine blk_drew ?_ | refine blk_alloc ?_ _)); refine blk_far ?_ NB116_115.out _; (with_reducible repeat (first | refine blk_drewN ?_ _ | refine blk_drew ?_ | refine blk_alloc ?_ _)); refine blk_far ?_ NB116_115.out _; (with_reducible repeat (first | refine blk_drewN ?_ _ | refine blk_drew ?_ | refine blk_alloc ?_ _)); refine blk_far ?_ NB116_124.out _; (with_reducible repeat (first | refine blk_drewN ?_ _ | refine blk_drew ?_ | refine blk_alloc ?_ _)); refine blk_far ?_ NB116_124.out _; (with_reducible repeat (first | refine blk_drewN ?_ _ | refine blk_drew ?_ | refine blk_alloc ?_ _)); exact BK116.out)) : gb116 ≠ gb125)); have n12_ := Aside0.mk ((by rw [hg]; exact Nat.ne_of_gt (blk_lt (g := gb116) (o := .cells #[.slice none 0 0, .slice none 0 0] 46 (0, 0)) (by (with_reducible repeat (first | refine blk_drewN ?_ _ | refine blk_drew ?_ | refine blk_alloc ?_ _)); refine blk_far ?_ NB116_115.out _; (with_reducible repeat (first | refine blk_drewN ?_ _ | refine blk_drew ?_ | refine blk_alloc ?_ _)); refine blk_far ?_ NB116_115.out _; (with_reducible repeat (first | refine blk_drewN ?_ _ | refine blk_drew ?_ | refine blk_alloc ?_ _)); refine blk_far ?_ NB116_124.out _; (with_reducible repeat (first | refine blk_drewN ?_ _ | refine blk_drew ?_ | refine blk_alloc ?_ _)); refine blk_far ?_ NB116_124.out _; (with_reducible repeat (first | refine blk_drewN ?_ _ | refine blk_drew ?_ | refine blk_alloc ?_ _)); exact BK116.out)) : gb125 ≠ gb116)); have n13_ := Aside0.mk ((by rw [hg]; exact Nat.ne_of_lt (blk_lt (g := gb124) (o := .cells #[.slice Ao11 t117.length co11, .slice Ao15 t120.length co15] 46 (0, 0)) (by (with_reducible repeat (first | refine blk_drewN ?_ _ | refine blk_drew ?_ | refine blk_alloc ?_ _)); refine blk_far ?_ NB124_115.out _; (with_reducible repeat (first | refine blk_drewN ?_ _ | refine blk_drew ?_ | refine blk_alloc ?_ _)); refine blk_far ?_ NB124_115.out _; (with_reducible repeat (first | refine blk_drewN ?_ _ | refine blk_drew ?_ | refine blk_alloc ?_ _)); refine blk_put (cs := #[.slice Ao11 t117.length co11, .slice none 0 0]) ?_ 1 _ rfl; (with_reducible repeat (first | refine blk_drewN ?_ _ | refine blk_drew ?_ | refine blk_alloc ?_ _)); refine blk_put (cs := #[.slice none 0 0, .slice none 0 0]) ?_ 0 _ rfl; (with_reducible repeat (first | refine blk_drewN ?_ _ | refine blk_drew ?_ | refine blk_alloc ?_ _)); exact BK124.out)) : gb124 ≠ gb125)); have n14_ := Aside0.mk ((by rw [hg]; exact Nat.ne_of_gt (blk_lt (g := gb124) (o := .cells #[.slice Ao11 t117.length co11, .slice Ao15 t120.length co15] 46 (0, 0)) (by (with_reducible repeat (first | refine blk_drewN ?_ _ | refine blk_drew ?_ | refine blk_alloc ?_ _)); refine blk_far ?_ NB124_115.out _; (with_reducible repeat (first | refine blk_drewN ?_ _ | refine blk_drew ?_ | refine blk_alloc ?_ _)); refine blk_far ?_ NB124_115.out _; (with_reducible repeat (first | refine blk_drewN ?_ _ | refine blk_drew ?_ | refine blk_alloc ?_ _)); refine blk_put (cs := #[.slice Ao11 t117.length co11, .slice none 0 0]) ?_ 1 _ rfl; (with_reducible repeat (first | refine blk_drewN ?_ _ | refine blk_drew ?_ | refine blk_alloc ?_ _)); refine blk_put (cs := #[.slice none 0 0, .slice none 0 0]) ?_ 0 _ rfl; (with_reducible repeat (first | refine blk_drewN ?_ _ | refine blk_drew ?_ | refine blk_alloc ?_ _)); exact BK124.out)) : gb125 ≠ gb124)); clear HO119; clear HO122; clear BK115; clear BK116; clear BK124; clear HB; have HO119 := n0_; have HO122 := n1_; have BK115 := n2_; have BK116 := n3_; have BK124 := n4_; have HB := n5_; have BK125 := n6_; have GW125 := n7_; have GE125 := n8_; have NB115_125 := n9_; have NB125_115 := n10_; have NB116_125 := n11_; have NB125_116 := n12_; have NB124_125 := n13_; have NB125_124 := n14_; clear n0_ n1_ n2_ n3_ n4_ n5_ n6_ n7_ n8_ n9_ n10_ n11_ n12_ n13_ n14_; clear hb hbox hg))
  go_loopg [11, 12] k (fun kq v11 v12 w' => ∃ (x11_1 : Bool) (x12_1 : Int) (x126000_1 : List Int) (x126001_1 : List Int) (u126000 : Value) (u126001 : Value), v11 = .bool x11_1 ∧ v12 = .int .i64 x12_1 ∧ Aside0 (hostlerref04_Set.l0 kq a1 a2 t123 x11_1 x12_1 t117 t120 x126000_1 x126001_1 = some (r1, r2, r3)) ∧ Aside0 (kq ≤ k) ∧ Aside0 (Kd.V (Kd.int .i64) 3 w' w.heap.size (fun k_ => some k_ ≠ (u126000 : Value).ownBlock ∧ some k_ ≠ (u126001 : Value).ownBlock ∧ k_ ≠ gb115 ∧ k_ ≠ gb116 ∧ k_ ≠ gb124 ∧ k_ ≠ gb125) (.slice Ao11 t117.length co11) t117) ∧ Aside0 (Kd.V (Kd.int .i64) 3 w' w.heap.size (fun k_ => some k_ ≠ (u126000 : Value).ownBlock ∧ some k_ ≠ (u126001 : Value).ownBlock ∧ k_ ≠ gb115 ∧ k_ ≠ gb116 ∧ k_ ≠ gb124 ∧ k_ ≠ gb125) (.slice Ao15 t120.length co15) t120) ∧ Aside0 (Kd.V (Kd.int .i64) 3 w' w.heap.size (fun k_ => some k_ ≠ (u126000 : Value).ownBlock ∧ some k_ ≠ (u126001 : Value).ownBlock ∧ k_ ≠ gb115 ∧ k_ ≠ gb116 ∧ k_ ≠ gb124 ∧ k_ ≠ gb125) (.slice Ao11 t117.length co11) t117) ∧ Aside0 (Kd.V (Kd.int .i64) 3 w' w.heap.size (fun k_ => some k_ ≠ (u126000 : Value).ownBlock ∧ some k_ ≠ (u126001 : Value).ownBlock ∧ k_ ≠ gb115 ∧ k_ ≠ gb116 ∧ k_ ≠ gb124 ∧ k_ ≠ gb125) (.slice Ao15 t120.length co15) t120) ∧ Aside0 (Kd.R (Kd.int .i64) 3 w' w.heap.size (fun k_ => some k_ ≠ (u126001 : Value).ownBlock) u126000 x126000_1) ∧ Aside0 (Kd.R (Kd.int .i64) 3 w' w.heap.size (fun k_ => some k_ ≠ (u126000 : Value).ownBlock) u126001 x126001_1) ∧ Aside0 (w'.heap[gb115]? = some (.cells #[(.slice Ao11 t117.length co11), (.slice Ao15 t120.length co15)] 46 (0, 0))) ∧ Aside0 (w'.heap[gb116]? = some (.cells #[(.slice none 0 0), (.slice none 0 0)] 46 (0, 0))) ∧ Aside0 (w'.heap[gb124]? = some (.cells #[(.slice Ao11 t117.length co11), (.slice Ao15 t120.length co15)] 46 (0, 0))) ∧ Aside0 (w'.heap[gb125]? = some (.cells #[u126000, u126001] 46 (0, 0))) ∧ Aside0 (Below w.heap.size w w'))
  case atStart => exact ⟨(false), (0), (([] : List Int)), (([] : List Int)), (.slice none 0 0), (.slice none 0 0), (by first | rfl | (simp; done) | (simp [*]; done)), (by first | rfl | (simp; done) | (simp [*]; done)), H', ⟨Nat.le_refl _⟩, ⟨by (with_reducible repeat (first | apply Kd.V_alloc | apply Kd.V_drewN | apply Kd.V_drew)); exact Kd.V_mono HO119.out (fun _ hk => ⟨(by simp [Value.ownBlock]), ⟨(by simp [Value.ownBlock]), ⟨hk.1.1.1, ⟨hk.1.1.2, ⟨hk.1.2, hk.2⟩⟩⟩⟩⟩)⟩, ⟨by (with_reducible repeat (first | apply Kd.V_alloc | apply Kd.V_drewN | apply Kd.V_drew)); exact Kd.V_mono HO122.out (fun _ hk => ⟨(by simp [Value.ownBlock]), ⟨(by simp [Value.ownBlock]), ⟨hk.1.1.1, ⟨hk.1.1.2, ⟨hk.1.2, hk.2⟩⟩⟩⟩⟩)⟩, ⟨by (with_reducible repeat (first | apply Kd.V_alloc | apply Kd.V_drewN | apply Kd.V_drew)); exact Kd.V_mono HO119.out (fun _ hk => ⟨(by simp [Value.ownBlock]), ⟨(by simp [Value.ownBlock]), ⟨hk.1.1.1, ⟨hk.1.1.2, ⟨hk.1.2, hk.2⟩⟩⟩⟩⟩)⟩, ⟨by (with_reducible repeat (first | apply Kd.V_alloc | apply Kd.V_drewN | apply Kd.V_drew)); exact Kd.V_mono HO122.out (fun _ hk => ⟨(by simp [Value.ownBlock]), ⟨(by simp [Value.ownBlock]), ⟨hk.1.1.1, ⟨hk.1.1.2, ⟨hk.1.2, hk.2⟩⟩⟩⟩⟩)⟩, ⟨by first | exact Kd.R_nil _ _ _ _ _ | exact Kd.N_nil _ _ _ _ _ | exact Kd.V_nil _ _ _ _ _ | exact Kd.Q_nil _ _ _ _ _ | exact Kd.S_nil _ _ _ _ _⟩, ⟨by first | exact Kd.R_nil _ _ _ _ _ | exact Kd.N_nil _ _ _ _ _ | exact Kd.V_nil _ _ _ _ _ | exact Kd.Q_nil _ _ _ _ _ | exact Kd.S_nil _ _ _ _ _⟩, ⟨by (with_reducible repeat (first | refine blk_drewN ?_ _ | refine blk_drew ?_ | refine blk_alloc ?_ _)); exact BK115.out⟩, ⟨by (with_reducible repeat (first | refine blk_drewN ?_ _ | refine blk_drew ?_ | refine blk_alloc ?_ _)); exact BK116.out⟩, ⟨by (with_reducible repeat (first | refine blk_drewN ?_ _ | refine blk_drew ?_ | refine blk_alloc ?_ _)); exact BK124.out⟩, ⟨by (with_reducible repeat (first | refine blk_drewN ?_ _ | refine blk_drew ?_ | refine blk_alloc ?_ _)); exact BK125.out⟩, ⟨by repeat (first | (with_reducible first | exact HB.out | apply below_alloc | apply pw_below_drewN | apply below_drew1 | refine below_set ?_ GE115.out | refine below_set ?_ GE116.out | refine below_set ?_ GE124.out | refine below_set ?_ GE125.out) | exact HB.out)⟩⟩
  case round =>
    clear H'
    try clear c1
    try clear c2
    try clear p2
    try clear c7
    try clear c12
    try clear c13
    try clear hcz14_0
    try clear hcz14_1
    try clear hcz16_0
    try clear hcz16_1
    try clear hcz8_0
    try clear hcz8_1
    try clear hfz14_0
    try clear hfz14_1
    try clear hfz16_0
    try clear hfz16_1
    try clear hfz8_0
    try clear hfz8_1
    obtain ⟨x11_1, x12_1, x126000_1, x126001_1, u126000, u126001, rfl, rfl, HA, HK1, HO_116000, HO_116001, HO_125000, HO_125001, HO_126000, HO_126001, BK115, BK116, BK124, BK125, HB⟩ := hrel
    cases gk with
    | zero => exact absurd HA.out (by simp [hostlerref04_Set.l0])
    | succ k1 =>
      have H := HA.out
      clear HA
      simp only [hostlerref04_Set.l0] at H
      by_cases c18 : x12_1 < (t117.length : Int)
      · rw [if_pos c18] at H
        have c18b0 : decide (x12_1 < (t117.length : Int)) = true := decide_eq_true c18
        clear c18
        by_cases c19 : x11_1 = true
        · subst c19
          have H1 : (if 0 ≤ x12_1 then (if x126000_1.length < 17592186044416 then (if x12_1 < (t120.length : Int) then (if x126001_1.length < 17592186044416 then (hostlerref04_Set.l0 k1 a1 a2 t123 true (wrap64 (x12_1 + 1)) t117 t120 (x126000_1 ++ [rd t117 x12_1]) (x126001_1 ++ [rd t120 x12_1])) else (none)) else (none)) else (none)) else (none)) = some (r1, r2, r3) := by rw [if_pos rfl] at H; exact H
          clear H
          have H := H1
          clear H1
          by_cases c20 : 0 ≤ x12_1
          · rw [if_pos c20] at H
            have c20b0 : decide (0 ≤ x12_1) = true := decide_eq_true c20
            clear c20
            by_cases c21 : x126000_1.length < 17592186044416
            · rw [if_pos c21] at H
              have LMc21 := Aside0.mk c21
              clear c21
              obtain ⟨y127, hy127⟩ : ∃ y_ : List Int, y_ = (x126000_1 ++ [rd t117 x12_1]) := ⟨_, rfl⟩
              replace H : (if x12_1 < (t120.length : Int) then (if x126001_1.length < 17592186044416 then (hostlerref04_Set.l0 k1 a1 a2 t123 true (wrap64 (x12_1 + 1)) t117 t120 y127 (x126001_1 ++ [rd t120 x12_1])) else (none)) else (none)) = some (r1, r2, r3) := by first | (rw [hy127]; with_reducible exact H) | (have H2_ := (Option.bind_some _ _).symm.trans H; rw [hy127]; with_reducible exact H2_) | (have H2_ := (Option.bind_some _ _).symm.trans H; with_reducible exact H2_) | with_reducible exact H | (rw [hy127]; exact H) | exact H
              have Ny127 := Aside0.mk hy127
              clear hy127
              by_cases c22 : x12_1 < (t120.length : Int)
              · rw [if_pos c22] at H
                have c22b0 : decide (x12_1 < (t120.length : Int)) = true := decide_eq_true c22
                clear c22
                by_cases c23 : x126001_1.length < 17592186044416
                · rw [if_pos c23] at H
                  have LMc23 := Aside0.mk c23
                  clear c23
                  obtain ⟨y131, hy131⟩ : ∃ y_ : List Int, y_ = (x126001_1 ++ [rd t120 x12_1]) := ⟨_, rfl⟩
                  replace H : (hostlerref04_Set.l0 k1 a1 a2 t123 true (wrap64 (x12_1 + 1)) t117 t120 y127 y131) = some (r1, r2, r3) := by first | (rw [hy131]; with_reducible exact H) | (have H2_ := (Option.bind_some _ _).symm.trans H; rw [hy131]; with_reducible exact H2_) | (have H2_ := (Option.bind_some _ _).symm.trans H; with_reducible exact H2_) | with_reducible exact H | (rw [hy131]; exact H) | exact H
                  have Ny131 := Aside0.mk hy131
                  clear hy131
                  have H' := Aside0.mk H
                  clear H
                  have hnb24 := NB115_116.out
                  have hnc24 := NB116_115.out
                  have hnb25 := NB115_124.out
                  have hnc25 := NB124_115.out
                  have hnb26 := NB115_125.out
                  have hnc26 := NB125_115.out
                  have hcz27_0 : wr.cell? ⟨gb115, 0, none⟩ = some (.slice Ao11 t117.length co11) := (blk_cell BK115.out 0).trans rfl
                  have hcz27_1 : wr.cell? ⟨gb115, 1, none⟩ = some (.slice Ao15 t120.length co15) := (blk_cell BK115.out 1).trans rfl
                  have hfz27_0 := blk_frozen BK115.out 0
                  have hfz27_1 := blk_frozen BK115.out 1
                  try go_wp2
                  have n0_ := Aside0.mk (Kd.V_drew HO_116000.out)
                  have n1_ := Aside0.mk (Kd.V_drew HO_116001.out)
                  have n2_ := Aside0.mk (Kd.V_drew HO_125000.out)
                  have n3_ := Aside0.mk (Kd.V_drew HO_125001.out)
                  have n4_ := Aside0.mk (Kd.R_drew HO_126000.out)
                  have n5_ := Aside0.mk (Kd.R_drew HO_126001.out)
                  have n6_ := Aside0.mk (blk_drew BK115.out)
                  have n7_ := Aside0.mk (blk_drew BK116.out)
                  have n8_ := Aside0.mk (blk_drew BK124.out)
                  have n9_ := Aside0.mk (blk_drew BK125.out)
                  have n10_ := Aside0.mk (below_drew1 HB.out)
                  clear HO_116000
                  clear HO_116001
                  clear HO_125000
                  clear HO_125001
                  clear HO_126000
                  clear HO_126001
                  clear BK115
                  clear BK116
                  clear BK124
                  clear BK125
                  clear HB
                  have HO_116000 := n0_
                  have HO_116001 := n1_
                  have HO_125000 := n2_
                  have HO_125001 := n3_
                  have HO_126000 := n4_
                  have HO_126001 := n5_
                  have BK115 := n6_
                  have BK116 := n7_
                  have BK124 := n8_
                  have BK125 := n9_
                  have HB := n10_
                  clear n0_ n1_ n2_ n3_ n4_ n5_ n6_ n7_ n8_ n9_ n10_
                  have p126 : 0 ≤ (x12_1 : Int) := of_decide_eq_true (by first | (with_reducible assumption) | assumption)
                  have q126 : x12_1 < (t117.length : Int) := of_decide_eq_true (by first | (with_reducible assumption) | assumption)
                  obtain ⟨ad126, e126, hx126_0⟩ := Kd.at_int (Kd.V_reads' HO_116000.out).2.2 x12_1 p126 q126
                  cases e126
                  replace p126 := eq_true p126
                  replace q126 := eq_true q126
                  refine start_ (n := 11) (S := fun w' => w'.cell? ⟨gb125, 0, none⟩ = some (u126000) ∧ w'.cell? ⟨gb125, 1, none⟩ = some (u126001) ∧ w'.cell? ⟨gb115, 0, none⟩ = some (.slice (some ad126) t117.length co11) ∧ w'.cell? ⟨gb115, 1, none⟩ = some (.slice Ao15 t120.length co15) ∧ w'.cell? (ad126.add (x12_1).toNat) = some (.int .i64 (rd t117 x12_1))) (ds := [8, 10]) #[false, false, false, false, false, false, false, false, false, false, false] (by kernel_rfl) rfl rfl ⟨(blk_cell BK125.out 0).trans rfl, (blk_cell BK125.out 1).trans rfl, (blk_cell BK115.out 0).trans rfl, (blk_cell BK115.out 1).trans rfl, hx126_0⟩ (fun hHeld => ?_); refine with_tabW hostlerref04_Set.tab12 hostlerref04_Set.bits12 (fun HT_ HW_ => ?_)
                  generalize wr.drew = w28 at HO_116000 HO_116001 HO_125000 HO_125001 HO_126000 HO_126001 BK115 BK116 BK124 BK125 HB hx126_0 hHeld ⊢
                  refine pure_ (i := 0) (N := some 51) (v := ?_) (a' := ?_) #[true, false, false, false, false, false, false, false, false, false, false] rfl rfl (any_of HT_.out (by kernel_rfl)) (fun _ _ _ h => h) (Or.inl ⟨by rfl, ?_⟩) ?_ ?_
                  rotate_left
                  · intro w'
                    go_simp
                    with_reducible rfl
                  rotate_left
                  · simp only [Act.put, List.setIfInBounds_toArray, List.set_cons_zero, List.set_cons_succ, i64_w, i32_w]
                    rfl
                  refine pure_ (i := 2) (N := some 53) (v := ?_) (a' := ?_) #[true, false, true, false, false, false, false, false, false, false, false] rfl rfl (any_of HT_.out (by kernel_rfl)) (fun _ _ _ h => h) (Or.inl ⟨by rfl, ?_⟩) ?_ ?_
                  rotate_left
                  · intro w'
                    go_simp
                    with_reducible rfl
                  rotate_left
                  · simp only [Act.put, List.setIfInBounds_toArray, List.set_cons_zero, List.set_cons_succ, i64_w, i32_w]
                    rfl
                  refine pure_ (i := 4) (N := some 55) (v := ?_) (a' := ?_) #[true, false, true, false, true, false, false, false, false, false, false] rfl rfl (any_of HT_.out (by kernel_rfl)) (fun _ _ _ h => h) (Or.inl ⟨by rfl, ?_⟩) ?_ ?_
                  rotate_left
                  · intro w'
                    go_simp
                    with_reducible rfl
                  rotate_left
                  · simp only [Act.put, List.setIfInBounds_toArray, List.set_cons_zero, List.set_cons_succ, i64_w, i32_w]
                    rfl
                  refine take_ (i := 1) (N := some 52) (v := ?_) (a' := ?_) #[true, true, true, false, true, false, false, false, false, false, false] rfl rfl (take_ofW HT_.out HW_.out (by kernel_rfl)) (fun _ _ _ h => h) (Or.inl ⟨by rfl, ?_⟩) hHeld ?_ ?_
                  rotate_left
                  · rintro w' ⟨s0, s1, s2, s3, s4⟩
                    go_simp
                    with_reducible rfl
                  rotate_left
                  · simp only [Act.put, List.setIfInBounds_toArray, List.set_cons_zero, List.set_cons_succ, i64_w, i32_w]
                    rfl
                  refine take_ (i := 3) (N := some 54) (v := ?_) (a' := ?_) #[true, true, true, true, true, false, false, false, false, false, false] rfl rfl (take_ofW HT_.out HW_.out (by kernel_rfl)) (fun _ _ _ h => h) (Or.inl ⟨by rfl, ?_⟩) hHeld ?_ ?_
                  rotate_left
                  · rintro w' ⟨s0, s1, s2, s3, s4⟩
                    go_simp
                    with_reducible rfl
                  rotate_left
                  · simp only [Act.put, List.setIfInBounds_toArray, List.set_cons_zero, List.set_cons_succ, i64_w, i32_w]
                    rfl
                  refine pure_ (i := 5) (N := some 56) (v := ?_) (a' := ?_) #[true, true, true, true, true, true, false, false, false, false, false] rfl rfl (any_of HT_.out (by kernel_rfl)) (fun _ _ _ h => h) (Or.inl ⟨by rfl, ?_⟩) ?_ ?_
                  rotate_left
                  · intro w'
                    go_simp
                    with_reducible rfl
                  rotate_left
                  · simp only [Act.put, List.setIfInBounds_toArray, List.set_cons_zero, List.set_cons_succ, i64_w, i32_w]
                    rfl
                  refine take_ (i := 6) (N := some 57) (v := ?_) (a' := ?_) #[true, true, true, true, true, true, true, false, false, false, false] rfl rfl (take_ofW HT_.out HW_.out (by kernel_rfl)) (fun _ _ _ h => h) (Or.inl ⟨by rfl, ?_⟩) hHeld ?_ ?_
                  rotate_left
                  · rintro w' ⟨s0, s1, s2, s3, s4⟩
                    go_simp
                    with_reducible rfl
                  rotate_left
                  · simp only [Act.put, List.setIfInBounds_toArray, List.set_cons_zero, List.set_cons_succ, i64_w, i32_w]
                    rfl
                  refine one_ (i := 7) (N := some 58) #[true, true, true, true, true, true, true, true, false, false, false] rfl rfl (one_of HT_.out (by kernel_rfl)) (by decide) (fun K hK => ?_)
                  refine value_ (w1 := ?_) (v := ?_) (by rfl) rfl ?_ ?_
                  rotate_left 2
                  · go_simp
                    constructor
                    · rfl
                    · rfl
                  refine hK.out _ _ ⟨(blk_cell (blk_alloc BK125.out _) 0).trans rfl, (blk_cell (blk_alloc BK125.out _) 1).trans rfl, (blk_cell (blk_alloc BK115.out _) 0).trans rfl, (blk_cell (blk_alloc BK115.out _) 1).trans rfl, (World.cell?_alloc_lt _ _ _ (World.block_lt_of_cell? _ _ (hHeld.2.2.2.2))).trans (hHeld.2.2.2.2)⟩ (fun hHeld => ?_)
                  clear hK K
                  refine norm_ (a' := ?_) ?_ ?_
                  rotate_left
                  · show Act.put _ (some 58) _ = _
                    simp only [Act.put, List.setIfInBounds_toArray, List.set_cons_zero, List.set_cons_succ, i64_w, i32_w]
                    rfl
                  refine last_ (i := 8) (N := some 59) #[true, true, true, true, true, true, true, true, true, false, false] rfl rfl (one_of HT_.out (by kernel_rfl)) (by decide) (fun K hK => ?_)
                  refine Kd.R_append_step (Kd.int .i64) (w0 := w) w.heap.size (by rfl) (.tmp 52) (.tmp 58) 27 3 (.int .i64 0) 8 rfl Try.underlying27 info3 rfl (by decide) (by omega) u126000 x126000_1 (rd t117 x12_1) [.int .i64 (rd t117 x12_1)] (fun k_ => some k_ ≠ (u126001 : Value).ownBlock) (fun _ => False) rfl rfl ?aP (fun _ hk => hk.elim) ?aF ?aO ?aB ?aS ?aL ?_
                  (case aP => exact rfl)
                  (case aB => exact (by repeat (first | (with_reducible first | exact HB.out | apply below_alloc | apply pw_below_drewN | apply below_drew1 | refine below_set ?_ GE115.out | refine below_set ?_ GE116.out | refine below_set ?_ GE124.out | refine below_set ?_ GE125.out) | exact HB.out)))
                  (case aF => exact (fun k_ hk => Kd.fresh' (Kd.R_lt (by (with_reducible repeat (first | apply Kd.R_alloc | apply Kd.R_drewN | apply Kd.R_drew)); exact HO_126001.out)) k_ hk))
                  (case aO => exact (by (with_reducible repeat (first | apply Kd.R_alloc | apply Kd.R_drewN | apply Kd.R_drew)); exact HO_126000.out))
                  (case aS => exact (below_size (by repeat (first | (with_reducible first | exact HB.out | apply below_alloc | apply pw_below_drewN | apply below_drew1 | refine below_set ?_ GE115.out | refine below_set ?_ GE116.out | refine below_set ?_ GE124.out | refine below_set ?_ GE125.out) | exact HB.out))))
                  (case aL => have := LMc21.out; omega)
                  intro v128 w29 ho hb hg hat
                  rw [← Ny127.out] at ho
                  have n0_ := Aside0.mk (Kd.V_afterv (ok := (fun k_ => some k_ ≠ (u126001 : Value).ownBlock ∧ k_ ≠ gb115 ∧ k_ ≠ gb116 ∧ k_ ≠ gb124 ∧ k_ ≠ gb125)) (by (with_reducible repeat (first | apply Kd.V_alloc | apply Kd.V_drewN | apply Kd.V_drew)); exact Kd.V_mono HO_116000.out (fun _ hk => ⟨⟨hk.2.1, ⟨hk.2.2.1, ⟨hk.2.2.2.1, ⟨hk.2.2.2.2.1, hk.2.2.2.2.2⟩⟩⟩⟩, hk.1⟩)) hg hat)
                  have n1_ := Aside0.mk (Kd.V_afterv (ok := (fun k_ => some k_ ≠ (u126001 : Value).ownBlock ∧ k_ ≠ gb115 ∧ k_ ≠ gb116 ∧ k_ ≠ gb124 ∧ k_ ≠ gb125)) (by (with_reducible repeat (first | apply Kd.V_alloc | apply Kd.V_drewN | apply Kd.V_drew)); exact Kd.V_mono HO_116001.out (fun _ hk => ⟨⟨hk.2.1, ⟨hk.2.2.1, ⟨hk.2.2.2.1, ⟨hk.2.2.2.2.1, hk.2.2.2.2.2⟩⟩⟩⟩, hk.1⟩)) hg hat)
                  have n2_ := Aside0.mk (Kd.V_afterv (ok := (fun k_ => some k_ ≠ (u126001 : Value).ownBlock ∧ k_ ≠ gb115 ∧ k_ ≠ gb116 ∧ k_ ≠ gb124 ∧ k_ ≠ gb125)) (by (with_reducible repeat (first | apply Kd.V_alloc | apply Kd.V_drewN | apply Kd.V_drew)); exact Kd.V_mono HO_125000.out (fun _ hk => ⟨⟨hk.2.1, ⟨hk.2.2.1, ⟨hk.2.2.2.1, ⟨hk.2.2.2.2.1, hk.2.2.2.2.2⟩⟩⟩⟩, hk.1⟩)) hg hat)
                  have n3_ := Aside0.mk (Kd.V_afterv (ok := (fun k_ => some k_ ≠ (u126001 : Value).ownBlock ∧ k_ ≠ gb115 ∧ k_ ≠ gb116 ∧ k_ ≠ gb124 ∧ k_ ≠ gb125)) (by (with_reducible repeat (first | apply Kd.V_alloc | apply Kd.V_drewN | apply Kd.V_drew)); exact Kd.V_mono HO_125001.out (fun _ hk => ⟨⟨hk.2.1, ⟨hk.2.2.1, ⟨hk.2.2.2.1, ⟨hk.2.2.2.2.1, hk.2.2.2.2.2⟩⟩⟩⟩, hk.1⟩)) hg hat)
                  have n4_ := Aside0.mk (Kd.R_after (ok := (fun _ => True)) (by (with_reducible repeat (first | apply Kd.R_alloc | apply Kd.R_drewN | apply Kd.R_drew)); exact Kd.R_mono HO_126001.out (fun _ hk => ⟨trivial, hk⟩)) hg hat)
                  have n5_ := Aside0.mk (blk_grown (g := gb115) (o := .cells #[.slice (some ad126) t117.length co11, .slice Ao15 t120.length co15] 46 (0, 0)) (by (with_reducible repeat (first | refine blk_drewN ?_ _ | refine blk_drew ?_ | refine blk_alloc ?_ _)); exact BK115.out) hg (Kd.R_ne HO_126000.out BK115.out (by decide)))
                  have n6_ := Aside0.mk (blk_grown (g := gb116) (o := .cells #[.slice none 0 0, .slice none 0 0] 46 (0, 0)) (by (with_reducible repeat (first | refine blk_drewN ?_ _ | refine blk_drew ?_ | refine blk_alloc ?_ _)); exact BK116.out) hg (Kd.R_ne HO_126000.out BK116.out (by decide)))
                  have n7_ := Aside0.mk (blk_grown (g := gb124) (o := .cells #[.slice (some ad126) t117.length co11, .slice Ao15 t120.length co15] 46 (0, 0)) (by (with_reducible repeat (first | refine blk_drewN ?_ _ | refine blk_drew ?_ | refine blk_alloc ?_ _)); exact BK124.out) hg (Kd.R_ne HO_126000.out BK124.out (by decide)))
                  have n8_ := Aside0.mk (blk_grown (g := gb125) (o := .cells #[u126000, u126001] 46 (0, 0)) (by (with_reducible repeat (first | refine blk_drewN ?_ _ | refine blk_drew ?_ | refine blk_alloc ?_ _)); exact BK125.out) hg (Kd.R_ne HO_126000.out BK125.out (by decide)))
                  have n9_ := Aside0.mk (hb)
                  have n10_ := Aside0.mk (ho)
                  clear HO_116000
                  clear HO_116001
                  clear HO_125000
                  clear HO_125001
                  clear HO_126001
                  clear BK115
                  clear BK116
                  clear BK124
                  clear BK125
                  clear HB
                  clear HO_126000
                  have HO_116000 := n0_
                  have HO_116001 := n1_
                  have HO_125000 := n2_
                  have HO_125001 := n3_
                  have HO_126001 := n4_
                  have BK115 := n5_
                  have BK116 := n6_
                  have BK124 := n7_
                  have BK125 := n8_
                  have HB := n9_
                  have HO129 := n10_
                  clear n0_ n1_ n2_ n3_ n4_ n5_ n6_ n7_ n8_ n9_ n10_
                  clear ho hb hg hat
                  obtain ⟨Ao30, co30, eo30⟩ := Kd.R_slice HO129.out
                  (first | subst eo30 | (injection eo30 with f1_ f2_ f3_; have f4_ := f1_.symm; have f5_ := f3_.symm; clear f1_ f2_ f3_; subst f4_; subst f5_))
                  refine hK.out _ _ ?_
                  clear hK K
                  refine norm_ (a' := ?_) ?_ ?_
                  rotate_left
                  · show Act.put _ (some 59) _ = _
                    simp only [Act.put, List.setIfInBounds_toArray, List.set_cons_zero, List.set_cons_succ, i64_w, i32_w]
                    rfl
                  refine pure_ (i := 9) (N := some 60) (v := ?_) (a' := ?_) #[true, true, true, true, true, true, true, true, true, true, false] rfl rfl (any_of HT_.out (by kernel_rfl)) (fun _ _ _ h => h) (Or.inl ⟨by rfl, ?_⟩) ?_ ?_
                  rotate_left
                  · intro w'
                    go_simp
                    with_reducible rfl
                  rotate_left
                  · simp only [Act.put, List.setIfInBounds_toArray, List.set_cons_zero, List.set_cons_succ, i64_w, i32_w]
                    rfl
                  refine last_ (i := 10) (N := none) #[true, true, true, true, true, true, true, true, true, true, true] rfl rfl (one_of HT_.out (by kernel_rfl)) (by decide) (fun K hK => ?_)
                  have hs31 : w29.cell? ⟨gb125, 0, none⟩ = some (u126000) := (blk_cell BK125.out 0).trans rfl
                  have hfs31 := blk_frozen BK125.out 0
                  have hns31_0 := NB115_125.out
                  have hns31_1 := NB116_125.out
                  have hns31_2 := NB124_125.out
                  have hms31_0 := NB125_115.out
                  have hms31_1 := NB125_116.out
                  have hms31_2 := NB125_124.out
                  refine skip_ (w1 := ?_) (by rfl) rfl ?_ ?_
                  rotate_left
                  · go_simp
                    rfl
                  refine hK.out _ _ ?_
                  clear hK K
                  refine done_ (done_of HT_.out (by kernel_rfl)) ?_
                  try go_wp2
                  have n0_ : Aside0 (Kd.V (Kd.int .i64) 3 (w29.setCell ⟨gb125, 0, none⟩ (.slice Ao30 y127.length co30)) w.heap.size (fun k_ => some k_ ≠ (u126001 : Value).ownBlock ∧ some k_ ≠ (.slice Ao30 y127.length co30 : Value).ownBlock ∧ k_ ≠ gb115 ∧ k_ ≠ gb116 ∧ k_ ≠ gb124 ∧ k_ ≠ gb125) (.slice (some ad126) t117.length co11) t117) := ⟨by (with_reducible repeat (first | apply Kd.V_alloc | apply Kd.V_drewN | apply Kd.V_drew)); exact Kd.V_mono (Kd.V_far (p := ⟨gb125, 0, none⟩) (Kd.V_mono HO_116000.out (fun k_ hk => (⟨hk, hk.1.2.2.2.2⟩ : _ ∧ k_ ≠ gb125))) (fun _ hk => hk.2) (.slice Ao30 y127.length co30)) (fun _ hk => ⟨hk.1.1.1, ⟨hk.1.2, ⟨hk.1.1.2.1, ⟨hk.1.1.2.2.1, ⟨hk.1.1.2.2.2.1, hk.1.1.2.2.2.2⟩⟩⟩⟩⟩)⟩
                  have n1_ : Aside0 (Kd.V (Kd.int .i64) 3 (w29.setCell ⟨gb125, 0, none⟩ (.slice Ao30 y127.length co30)) w.heap.size (fun k_ => some k_ ≠ (u126001 : Value).ownBlock ∧ some k_ ≠ (.slice Ao30 y127.length co30 : Value).ownBlock ∧ k_ ≠ gb115 ∧ k_ ≠ gb116 ∧ k_ ≠ gb124 ∧ k_ ≠ gb125) (.slice Ao15 t120.length co15) t120) := ⟨by (with_reducible repeat (first | apply Kd.V_alloc | apply Kd.V_drewN | apply Kd.V_drew)); exact Kd.V_mono (Kd.V_far (p := ⟨gb125, 0, none⟩) (Kd.V_mono HO_116001.out (fun k_ hk => (⟨hk, hk.1.2.2.2.2⟩ : _ ∧ k_ ≠ gb125))) (fun _ hk => hk.2) (.slice Ao30 y127.length co30)) (fun _ hk => ⟨hk.1.1.1, ⟨hk.1.2, ⟨hk.1.1.2.1, ⟨hk.1.1.2.2.1, ⟨hk.1.1.2.2.2.1, hk.1.1.2.2.2.2⟩⟩⟩⟩⟩)⟩
                  have n2_ : Aside0 (Kd.V (Kd.int .i64) 3 (w29.setCell ⟨gb125, 0, none⟩ (.slice Ao30 y127.length co30)) w.heap.size (fun k_ => some k_ ≠ (u126001 : Value).ownBlock ∧ some k_ ≠ (.slice Ao30 y127.length co30 : Value).ownBlock ∧ k_ ≠ gb115 ∧ k_ ≠ gb116 ∧ k_ ≠ gb124 ∧ k_ ≠ gb125) (.slice (some ad126) t117.length co11) t117) := ⟨by (with_reducible repeat (first | apply Kd.V_alloc | apply Kd.V_drewN | apply Kd.V_drew)); exact Kd.V_mono (Kd.V_far (p := ⟨gb125, 0, none⟩) (Kd.V_mono HO_125000.out (fun k_ hk => (⟨hk, hk.1.2.2.2.2⟩ : _ ∧ k_ ≠ gb125))) (fun _ hk => hk.2) (.slice Ao30 y127.length co30)) (fun _ hk => ⟨hk.1.1.1, ⟨hk.1.2, ⟨hk.1.1.2.1, ⟨hk.1.1.2.2.1, ⟨hk.1.1.2.2.2.1, hk.1.1.2.2.2.2⟩⟩⟩⟩⟩)⟩
                  have n3_ : Aside0 (Kd.V (Kd.int .i64) 3 (w29.setCell ⟨gb125, 0, none⟩ (.slice Ao30 y127.length co30)) w.heap.size (fun k_ => some k_ ≠ (u126001 : Value).ownBlock ∧ some k_ ≠ (.slice Ao30 y127.length co30 : Value).ownBlock ∧ k_ ≠ gb115 ∧ k_ ≠ gb116 ∧ k_ ≠ gb124 ∧ k_ ≠ gb125) (.slice Ao15 t120.length co15) t120) := ⟨by (with_reducible repeat (first | apply Kd.V_alloc | apply Kd.V_drewN | apply Kd.V_drew)); exact Kd.V_mono (Kd.V_far (p := ⟨gb125, 0, none⟩) (Kd.V_mono HO_125001.out (fun k_ hk => (⟨hk, hk.1.2.2.2.2⟩ : _ ∧ k_ ≠ gb125))) (fun _ hk => hk.2) (.slice Ao30 y127.length co30)) (fun _ hk => ⟨hk.1.1.1, ⟨hk.1.2, ⟨hk.1.1.2.1, ⟨hk.1.1.2.2.1, ⟨hk.1.1.2.2.2.1, hk.1.1.2.2.2.2⟩⟩⟩⟩⟩)⟩
                  have n4_ : Aside0 (Kd.R (Kd.int .i64) 3 (w29.setCell ⟨gb125, 0, none⟩ (.slice Ao30 y127.length co30)) w.heap.size (fun k_ => some k_ ≠ (.slice Ao30 y127.length co30 : Value).ownBlock) u126001 x126001_1) := ⟨by (with_reducible repeat (first | apply Kd.R_alloc | apply Kd.R_drewN | apply Kd.R_drew)); exact Kd.R_mono (Kd.R_far (p := ⟨gb125, 0, none⟩) (Kd.R_types HO_126001.out BK125.out (by decide)) (fun _ hk => hk.2) (.slice Ao30 y127.length co30)) (fun _ hk => hk.1.2)⟩
                  have n5_ : Aside0 (Kd.R (Kd.int .i64) 3 (w29.setCell ⟨gb125, 0, none⟩ (.slice Ao30 y127.length co30)) w.heap.size (fun k_ => some k_ ≠ (u126001 : Value).ownBlock) (.slice Ao30 y127.length co30) y127) := ⟨by (with_reducible repeat (first | apply Kd.R_alloc | apply Kd.R_drewN | apply Kd.R_drew)); exact Kd.R_mono (Kd.R_far (p := ⟨gb125, 0, none⟩) (Kd.R_types HO129.out BK125.out (by decide)) (fun _ hk => hk.2) (.slice Ao30 y127.length co30)) (fun _ hk => hk.1)⟩
                  have n6_ : Aside0 ((w29.setCell ⟨gb125, 0, none⟩ (.slice Ao30 y127.length co30)).heap[gb115]? = some (.cells #[.slice (some ad126) t117.length co11, .slice Ao15 t120.length co15] 46 (0, 0))) := ⟨by (with_reducible repeat (first | refine blk_drewN ?_ _ | refine blk_drew ?_ | refine blk_alloc ?_ _)); refine blk_far ?_ NB115_125.out _; (with_reducible repeat (first | refine blk_drewN ?_ _ | refine blk_drew ?_ | refine blk_alloc ?_ _)); exact BK115.out⟩
                  have n7_ : Aside0 ((w29.setCell ⟨gb125, 0, none⟩ (.slice Ao30 y127.length co30)).heap[gb116]? = some (.cells #[.slice none 0 0, .slice none 0 0] 46 (0, 0))) := ⟨by (with_reducible repeat (first | refine blk_drewN ?_ _ | refine blk_drew ?_ | refine blk_alloc ?_ _)); refine blk_far ?_ NB116_125.out _; (with_reducible repeat (first | refine blk_drewN ?_ _ | refine blk_drew ?_ | refine blk_alloc ?_ _)); exact BK116.out⟩
                  have n8_ : Aside0 ((w29.setCell ⟨gb125, 0, none⟩ (.slice Ao30 y127.length co30)).heap[gb124]? = some (.cells #[.slice (some ad126) t117.length co11, .slice Ao15 t120.length co15] 46 (0, 0))) := ⟨by (with_reducible repeat (first | refine blk_drewN ?_ _ | refine blk_drew ?_ | refine blk_alloc ?_ _)); refine blk_far ?_ NB124_125.out _; (with_reducible repeat (first | refine blk_drewN ?_ _ | refine blk_drew ?_ | refine blk_alloc ?_ _)); exact BK124.out⟩
                  have n9_ : Aside0 ((w29.setCell ⟨gb125, 0, none⟩ (.slice Ao30 y127.length co30)).heap[gb125]? = some (.cells #[.slice Ao30 y127.length co30, u126001] 46 (0, 0))) := ⟨by (with_reducible repeat (first | refine blk_drewN ?_ _ | refine blk_drew ?_ | refine blk_alloc ?_ _)); refine blk_put (cs := #[u126000, u126001]) ?_ 0 _ rfl; (with_reducible repeat (first | refine blk_drewN ?_ _ | refine blk_drew ?_ | refine blk_alloc ?_ _)); exact BK125.out⟩
                  have n10_ : Aside0 (Below w.heap.size w (w29.setCell ⟨gb125, 0, none⟩ (.slice Ao30 y127.length co30))) := ⟨by repeat (first | (with_reducible first | exact HB.out | apply below_alloc | apply pw_below_drewN | apply below_drew1 | refine below_set ?_ GE115.out | refine below_set ?_ GE116.out | refine below_set ?_ GE124.out | refine below_set ?_ GE125.out) | exact HB.out)⟩
                  (try clear HO_116000)
                  (try clear HO_116001)
                  (try clear HO_125000)
                  (try clear HO_125001)
                  (try clear HO_126001)
                  (try clear HO129)
                  (try clear BK115)
                  (try clear BK116)
                  (try clear BK124)
                  (try clear BK125)
                  (try clear HB)
                  generalize (w29.setCell ⟨gb125, 0, none⟩ (.slice Ao30 y127.length co30)) = w32 at n0_ n1_ n2_ n3_ n4_ n5_ n6_ n7_ n8_ n9_ n10_ ⊢
                  have HO_116000 := n0_
                  have HO_116001 := n1_
                  have HO_125000 := n2_
                  have HO_125001 := n3_
                  have HO_126001 := n4_
                  have HO129 := n5_
                  have BK115 := n6_
                  have BK116 := n7_
                  have BK124 := n8_
                  have BK125 := n9_
                  have HB := n10_
                  clear n0_ n1_ n2_ n3_ n4_ n5_ n6_ n7_ n8_ n9_ n10_
                  have n0_ := Aside0.mk (Kd.V_drew HO_116000.out)
                  have n1_ := Aside0.mk (Kd.V_drew HO_116001.out)
                  have n2_ := Aside0.mk (Kd.V_drew HO_125000.out)
                  have n3_ := Aside0.mk (Kd.V_drew HO_125001.out)
                  have n4_ := Aside0.mk (Kd.R_drew HO_126001.out)
                  have n5_ := Aside0.mk (Kd.R_drew HO129.out)
                  have n6_ := Aside0.mk (blk_drew BK115.out)
                  have n7_ := Aside0.mk (blk_drew BK116.out)
                  have n8_ := Aside0.mk (blk_drew BK124.out)
                  have n9_ := Aside0.mk (blk_drew BK125.out)
                  have n10_ := Aside0.mk (below_drew1 HB.out)
                  clear HO_116000
                  clear HO_116001
                  clear HO_125000
                  clear HO_125001
                  clear HO_126001
                  clear HO129
                  clear BK115
                  clear BK116
                  clear BK124
                  clear BK125
                  clear HB
                  have HO_116000 := n0_
                  have HO_116001 := n1_
                  have HO_125000 := n2_
                  have HO_125001 := n3_
                  have HO_126001 := n4_
                  have HO129 := n5_
                  have BK115 := n6_
                  have BK116 := n7_
                  have BK124 := n8_
                  have BK125 := n9_
                  have HB := n10_
                  clear n0_ n1_ n2_ n3_ n4_ n5_ n6_ n7_ n8_ n9_ n10_
                  have p130 : 0 ≤ (x12_1 : Int) := of_decide_eq_true (by first | (with_reducible assumption) | assumption)
                  have q130 : x12_1 < (t120.length : Int) := of_decide_eq_true (by first | (with_reducible assumption) | assumption)
                  obtain ⟨ad130, e130, hx130_0⟩ := Kd.at_int (Kd.V_reads' HO_116001.out).2.2 x12_1 p130 q130
                  cases e130
                  replace p130 := eq_true p130
                  replace q130 := eq_true q130
                  refine start_ (n := 11) (S := fun w' => w'.cell? ⟨gb125, 0, none⟩ = some (.slice Ao30 y127.length co30) ∧ w'.cell? ⟨gb125, 1, none⟩ = some (u126001) ∧ w'.cell? ⟨gb115, 0, none⟩ = some (.slice (some ad126) t117.length co11) ∧ w'.cell? ⟨gb115, 1, none⟩ = some (.slice (some ad130) t120.length co15) ∧ w'.cell? (ad130.add (x12_1).toNat) = some (.int .i64 (rd t120 x12_1))) (ds := [8, 10]) #[false, false, false, false, false, false, false, false, false, false, false] (by kernel_rfl) rfl rfl ⟨(blk_cell BK125.out 0).trans rfl, (blk_cell BK125.out 1).trans rfl, (blk_cell BK115.out 0).trans rfl, (blk_cell BK115.out 1).trans rfl, hx130_0⟩ (fun hHeld => ?_); refine with_tabW hostlerref04_Set.tab13 hostlerref04_Set.bits13 (fun HT_ HW_ => ?_)
                  generalize w32.drew = w33 at HO_116000 HO_116001 HO_125000 HO_125001 HO_126001 HO129 BK115 BK116 BK124 BK125 HB hx130_0 hHeld ⊢
                  refine pure_ (i := 0) (N := some 61) (v := ?_) (a' := ?_) #[true, false, false, false, false, false, false, false, false, false, false] rfl rfl (any_of HT_.out (by kernel_rfl)) (fun _ _ _ h => h) (Or.inl ⟨by rfl, ?_⟩) ?_ ?_
                  rotate_left
                  · intro w'
                    go_simp
                    with_reducible rfl
                  rotate_left
                  · simp only [Act.put, List.setIfInBounds_toArray, List.set_cons_zero, List.set_cons_succ, i64_w, i32_w]
                    rfl
                  refine pure_ (i := 2) (N := some 63) (v := ?_) (a' := ?_) #[true, false, true, false, false, false, false, false, false, false, false] rfl rfl (any_of HT_.out (by kernel_rfl)) (fun _ _ _ h => h) (Or.inl ⟨by rfl, ?_⟩) ?_ ?_
                  rotate_left
                  · intro w'
                    go_simp
                    with_reducible rfl
                  rotate_left
                  · simp only [Act.put, List.setIfInBounds_toArray, List.set_cons_zero, List.set_cons_succ, i64_w, i32_w]
                    rfl
                  refine pure_ (i := 4) (N := some 65) (v := ?_) (a' := ?_) #[true, false, true, false, true, false, false, false, false, false, false] rfl rfl (any_of HT_.out (by kernel_rfl)) (fun _ _ _ h => h) (Or.inl ⟨by rfl, ?_⟩) ?_ ?_
                  rotate_left
                  · intro w'
                    go_simp
                    with_reducible rfl
                  rotate_left
                  · simp only [Act.put, List.setIfInBounds_toArray, List.set_cons_zero, List.set_cons_succ, i64_w, i32_w]
                    rfl
                  refine take_ (i := 1) (N := some 62) (v := ?_) (a' := ?_) #[true, true, true, false, true, false, false, false, false, false, false] rfl rfl (take_ofW HT_.out HW_.out (by kernel_rfl)) (fun _ _ _ h => h) (Or.inl ⟨by rfl, ?_⟩) hHeld ?_ ?_
                  rotate_left
                  · rintro w' ⟨s0, s1, s2, s3, s4⟩
                    go_simp
                    with_reducible rfl
                  rotate_left
                  · simp only [Act.put, List.setIfInBounds_toArray, List.set_cons_zero, List.set_cons_succ, i64_w, i32_w]
                    rfl
                  refine take_ (i := 3) (N := some 64) (v := ?_) (a' := ?_) #[true, true, true, true, true, false, false, false, false, false, false] rfl rfl (take_ofW HT_.out HW_.out (by kernel_rfl)) (fun _ _ _ h => h) (Or.inl ⟨by rfl, ?_⟩) hHeld ?_ ?_
                  rotate_left
                  · rintro w' ⟨s0, s1, s2, s3, s4⟩
                    go_simp
                    with_reducible rfl
                  rotate_left
                  · simp only [Act.put, List.setIfInBounds_toArray, List.set_cons_zero, List.set_cons_succ, i64_w, i32_w]
                    rfl
                  refine pure_ (i := 5) (N := some 66) (v := ?_) (a' := ?_) #[true, true, true, true, true, true, false, false, false, false, false] rfl rfl (any_of HT_.out (by kernel_rfl)) (fun _ _ _ h => h) (Or.inl ⟨by rfl, ?_⟩) ?_ ?_
                  rotate_left
                  · intro w'
                    go_simp
                    with_reducible rfl
                  rotate_left
                  · simp only [Act.put, List.setIfInBounds_toArray, List.set_cons_zero, List.set_cons_succ, i64_w, i32_w]
                    rfl
                  refine take_ (i := 6) (N := some 67) (v := ?_) (a' := ?_) #[true, true, true, true, true, true, true, false, false, false, false] rfl rfl (take_ofW HT_.out HW_.out (by kernel_rfl)) (fun _ _ _ h => h) (Or.inl ⟨by rfl, ?_⟩) hHeld ?_ ?_
                  rotate_left
                  · rintro w' ⟨s0, s1, s2, s3, s4⟩
                    go_simp
                    with_reducible rfl
                  rotate_left
                  · simp only [Act.put, List.setIfInBounds_toArray, List.set_cons_zero, List.set_cons_succ, i64_w, i32_w]
                    rfl
                  refine one_ (i := 7) (N := some 68) #[true, true, true, true, true, true, true, true, false, false, false] rfl rfl (one_of HT_.out (by kernel_rfl)) (by decide) (fun K hK => ?_)
                  refine value_ (w1 := ?_) (v := ?_) (by rfl) rfl ?_ ?_
                  rotate_left 2
                  · go_simp
                    constructor
                    · rfl
                    · rfl
                  refine hK.out _ _ ⟨(blk_cell (blk_alloc BK125.out _) 0).trans rfl, (blk_cell (blk_alloc BK125.out _) 1).trans rfl, (blk_cell (blk_alloc BK115.out _) 0).trans rfl, (blk_cell (blk_alloc BK115.out _) 1).trans rfl, (World.cell?_alloc_lt _ _ _ (World.block_lt_of_cell? _ _ (hHeld.2.2.2.2))).trans (hHeld.2.2.2.2)⟩ (fun hHeld => ?_)
                  clear hK K
                  refine norm_ (a' := ?_) ?_ ?_
                  rotate_left
                  · show Act.put _ (some 68) _ = _
                    simp only [Act.put, List.setIfInBounds_toArray, List.set_cons_zero, List.set_cons_succ, i64_w, i32_w]
                    rfl
                  refine last_ (i := 8) (N := some 69) #[true, true, true, true, true, true, true, true, true, false, false] rfl rfl (one_of HT_.out (by kernel_rfl)) (by decide) (fun K hK => ?_)
                  refine Kd.R_append_step (Kd.int .i64) (w0 := w) w.heap.size (by rfl) (.tmp 62) (.tmp 68) 27 3 (.int .i64 0) 8 rfl Try.underlying27 info3 rfl (by decide) (by omega) u126001 x126001_1 (rd t120 x12_1) [.int .i64 (rd t120 x12_1)] (fun k_ => some k_ ≠ (.slice Ao30 y127.length co30 : Value).ownBlock) (fun _ => False) rfl rfl ?aP (fun _ hk => hk.elim) ?aF ?aO ?aB ?aS ?aL ?_
                  (case aP => exact rfl)
                  (case aB => exact (by repeat (first | (with_reducible first | exact HB.out | apply below_alloc | apply pw_below_drewN | apply below_drew1 | refine below_set ?_ GE115.out | refine below_set ?_ GE116.out | refine below_set ?_ GE124.out | refine below_set ?_ GE125.out) | exact HB.out)))
                  (case aF => exact (fun k_ hk => Kd.fresh' (Kd.R_lt (by (with_reducible repeat (first | apply Kd.R_alloc | apply Kd.R_drewN | apply Kd.R_drew)); exact HO129.out)) k_ hk))
                  (case aO => exact (by (with_reducible repeat (first | apply Kd.R_alloc | apply Kd.R_drewN | apply Kd.R_drew)); exact HO_126001.out))
                  (case aS => exact (below_size (by repeat (first | (with_reducible first | exact HB.out | apply below_alloc | apply pw_below_drewN | apply below_drew1 | refine below_set ?_ GE115.out | refine below_set ?_ GE116.out | refine below_set ?_ GE124.out | refine below_set ?_ GE125.out) | exact HB.out))))
                  (case aL => have := LMc23.out; omega)
                  intro v132 w34 ho hb hg hat
                  rw [← Ny131.out] at ho
                  have n0_ := Aside0.mk (Kd.V_afterv (ok := (fun k_ => some k_ ≠ (.slice Ao30 y127.length co30 : Value).ownBlock ∧ k_ ≠ gb115 ∧ k_ ≠ gb116 ∧ k_ ≠ gb124 ∧ k_ ≠ gb125)) (by (with_reducible repeat (first | apply Kd.V_alloc | apply Kd.V_drewN | apply Kd.V_drew)); exact Kd.V_mono HO_116000.out (fun _ hk => ⟨⟨hk.2.1, ⟨hk.2.2.1, ⟨hk.2.2.2.1, ⟨hk.2.2.2.2.1, hk.2.2.2.2.2⟩⟩⟩⟩, hk.1⟩)) hg hat)
                  have n1_ := Aside0.mk (Kd.V_afterv (ok := (fun k_ => some k_ ≠ (.slice Ao30 y127.length co30 : Value).ownBlock ∧ k_ ≠ gb115 ∧ k_ ≠ gb116 ∧ k_ ≠ gb124 ∧ k_ ≠ gb125)) (by (with_reducible repeat (first | apply Kd.V_alloc | apply Kd.V_drewN | apply Kd.V_drew)); exact Kd.V_mono HO_116001.out (fun _ hk => ⟨⟨hk.2.1, ⟨hk.2.2.1, ⟨hk.2.2.2.1, ⟨hk.2.2.2.2.1, hk.2.2.2.2.2⟩⟩⟩⟩, hk.1⟩)) hg hat)
                  have n2_ := Aside0.mk (Kd.V_afterv (ok := (fun k_ => some k_ ≠ (.slice Ao30 y127.length co30 : Value).ownBlock ∧ k_ ≠ gb115 ∧ k_ ≠ gb116 ∧ k_ ≠ gb124 ∧ k_ ≠ gb125)) (by (with_reducible repeat (first | apply Kd.V_alloc | apply Kd.V_drewN | apply Kd.V_drew)); exact Kd.V_mono HO_125000.out (fun _ hk => ⟨⟨hk.2.1, ⟨hk.2.2.1, ⟨hk.2.2.2.1, ⟨hk.2.2.2.2.1, hk.2.2.2.2.2⟩⟩⟩⟩, hk.1⟩)) hg hat)
                  have n3_ := Aside0.mk (Kd.V_afterv (ok := (fun k_ => some k_ ≠ (.slice Ao30 y127.length co30 : Value).ownBlock ∧ k_ ≠ gb115 ∧ k_ ≠ gb116 ∧ k_ ≠ gb124 ∧ k_ ≠ gb125)) (by (with_reducible repeat (first | apply Kd.V_alloc | apply Kd.V_drewN | apply Kd.V_drew)); exact Kd.V_mono HO_125001.out (fun _ hk => ⟨⟨hk.2.1, ⟨hk.2.2.1, ⟨hk.2.2.2.1, ⟨hk.2.2.2.2.1, hk.2.2.2.2.2⟩⟩⟩⟩, hk.1⟩)) hg hat)
                  have n4_ := Aside0.mk (blk_grown (g := gb115) (o := .cells #[.slice (some ad126) t117.length co11, .slice (some ad130) t120.length co15] 46 (0, 0)) (by (with_reducible repeat (first | refine blk_drewN ?_ _ | refine blk_drew ?_ | refine blk_alloc ?_ _)); exact BK115.out) hg (Kd.R_ne HO_126001.out BK115.out (by decide)))
                  have n5_ := Aside0.mk (blk_grown (g := gb116) (o := .cells #[.slice none 0 0, .slice none 0 0] 46 (0, 0)) (by (with_reducible repeat (first | refine blk_drewN ?_ _ | refine blk_drew ?_ | refine blk_alloc ?_ _)); exact BK116.out) hg (Kd.R_ne HO_126001.out BK116.out (by decide)))
                  have n6_ := Aside0.mk (blk_grown (g := gb124) (o := .cells #[.slice (some ad126) t117.length co11, .slice (some ad130) t120.length co15] 46 (0, 0)) (by (with_reducible repeat (first | refine blk_drewN ?_ _ | refine blk_drew ?_ | refine blk_alloc ?_ _)); exact BK124.out) hg (Kd.R_ne HO_126001.out BK124.out (by decide)))
                  have n7_ := Aside0.mk (blk_grown (g := gb125) (o := .cells #[.slice Ao30 y127.length co30, u126001] 46 (0, 0)) (by (with_reducible repeat (first | refine blk_drewN ?_ _ | refine blk_drew ?_ | refine blk_alloc ?_ _)); exact BK125.out) hg (Kd.R_ne HO_126001.out BK125.out (by decide)))
                  have n8_ := Aside0.mk (Kd.R_after (ok := (fun _ => True)) (by (with_reducible repeat (first | apply Kd.R_alloc | apply Kd.R_drewN | apply Kd.R_drew)); exact Kd.R_mono HO129.out (fun _ hk => ⟨trivial, hk⟩)) hg hat)
                  have n9_ := Aside0.mk (hb)
                  have n10_ := Aside0.mk (ho)
                  clear HO_116000
                  clear HO_116001
                  clear HO_125000
                  clear HO_125001
                  clear BK115
                  clear BK116
                  clear BK124
                  clear BK125
                  clear HO129
                  clear HB
                  clear HO_126001
                  have HO_116000 := n0_
                  have HO_116001 := n1_
                  have HO_125000 := n2_
                  have HO_125001 := n3_
                  have BK115 := n4_
                  have BK116 := n5_
                  have BK124 := n6_
                  have BK125 := n7_
                  have HO129 := n8_
                  have HB := n9_
                  have HO133 := n10_
                  clear n0_ n1_ n2_ n3_ n4_ n5_ n6_ n7_ n8_ n9_ n10_
                  clear ho hb hg hat
                  obtain ⟨Ao35, co35, eo35⟩ := Kd.R_slice HO133.out
                  (first | subst eo35 | (injection eo35 with f1_ f2_ f3_; have f4_ := f1_.symm; have f5_ := f3_.symm; clear f1_ f2_ f3_; subst f4_; subst f5_))
                  refine hK.out _ _ ?_
                  clear hK K
                  refine norm_ (a' := ?_) ?_ ?_
                  rotate_left
                  · show Act.put _ (some 69) _ = _
                    simp only [Act.put, List.setIfInBounds_toArray, List.set_cons_zero, List.set_cons_succ, i64_w, i32_w]
                    rfl
                  refine pure_ (i := 9) (N := some 70) (v := ?_) (a' := ?_) #[true, true, true, true, true, true, true, true, true, true, false] rfl rfl (any_of HT_.out (by kernel_rfl)) (fun _ _ _ h => h) (Or.inl ⟨by rfl, ?_⟩) ?_ ?_
                  rotate_left
                  · intro w'
                    go_simp
                    with_reducible rfl
                  rotate_left
                  · simp only [Act.put, List.setIfInBounds_toArray, List.set_cons_zero, List.set_cons_succ, i64_w, i32_w]
                    rfl
                  refine last_ (i := 10) (N := none) #[true, true, true, true, true, true, true, true, true, true, true] rfl rfl (one_of HT_.out (by kernel_rfl)) (by decide) (fun K hK => ?_)
                  have hs36 : w34.cell? ⟨gb125, 1, none⟩ = some (u126001) := (blk_cell BK125.out 1).trans rfl
                  have hfs36 := blk_frozen BK125.out 1
                  have hns36_0 := NB115_125.out
                  have hns36_1 := NB116_125.out
                  have hns36_2 := NB124_125.out
                  have hms36_0 := NB125_115.out
                  have hms36_1 := NB125_116.out
                  have hms36_2 := NB125_124.out
                  refine skip_ (w1 := ?_) (by rfl) rfl ?_ ?_
                  rotate_left
                  · go_simp
                    rfl
                  refine hK.out _ _ ?_
                  clear hK K
                  refine done_ (done_of HT_.out (by kernel_rfl)) ?_
                  try go_wp2
                  go_roundg k1
                  case measure => have := HK1.out; omega
                  case rel => exact ⟨(true), (wrap64 (x12_1 + 1)), (y127), (y131), (.slice Ao30 y127.length co30), (.slice Ao35 y131.length co35), (by first | rfl | (simp; done) | (simp [*]; done)), (by first | rfl | (simp; done) | (simp [*]; done)), H', ⟨by have := HK1.out; omega⟩, ⟨by (with_reducible repeat (first | apply Kd.V_alloc | apply Kd.V_drewN | apply Kd.V_drew)); exact Kd.V_mono (Kd.V_far (p := ⟨gb125, 1, none⟩) (Kd.V_mono HO_116000.out (fun k_ hk => (⟨hk, hk.1.2.2.2.2⟩ : _ ∧ k_ ≠ gb125))) (fun _ hk => hk.2) (.slice Ao35 y131.length co35)) (fun _ hk => ⟨hk.1.1.1, ⟨hk.1.2, ⟨hk.1.1.2.1, ⟨hk.1.1.2.2.1, ⟨hk.1.1.2.2.2.1, hk.1.1.2.2.2.2⟩⟩⟩⟩⟩)⟩, ⟨by (with_reducible repeat (first | apply Kd.V_alloc | apply Kd.V_drewN | apply Kd.V_drew)); exact Kd.V_mono (Kd.V_far (p := ⟨gb125, 1, none⟩) (Kd.V_mono HO_116001.out (fun k_ hk => (⟨hk, hk.1.2.2.2.2⟩ : _ ∧ k_ ≠ gb125))) (fun _ hk => hk.2) (.slice Ao35 y131.length co35)) (fun _ hk => ⟨hk.1.1.1, ⟨hk.1.2, ⟨hk.1.1.2.1, ⟨hk.1.1.2.2.1, ⟨hk.1.1.2.2.2.1, hk.1.1.2.2.2.2⟩⟩⟩⟩⟩)⟩, ⟨by (with_reducible repeat (first | apply Kd.V_alloc | apply Kd.V_drewN | apply Kd.V_drew)); exact Kd.V_mono (Kd.V_far (p := ⟨gb125, 1, none⟩) (Kd.V_mono HO_125000.out (fun k_ hk => (⟨hk, hk.1.2.2.2.2⟩ : _ ∧ k_ ≠ gb125))) (fun _ hk => hk.2) (.slice Ao35 y131.length co35)) (fun _ hk => ⟨hk.1.1.1, ⟨hk.1.2, ⟨hk.1.1.2.1, ⟨hk.1.1.2.2.1, ⟨hk.1.1.2.2.2.1, hk.1.1.2.2.2.2⟩⟩⟩⟩⟩)⟩, ⟨by (with_reducible repeat (first | apply Kd.V_alloc | apply Kd.V_drewN | apply Kd.V_drew)); exact Kd.V_mono (Kd.V_far (p := ⟨gb125, 1, none⟩) (Kd.V_mono HO_125001.out (fun k_ hk => (⟨hk, hk.1.2.2.2.2⟩ : _ ∧ k_ ≠ gb125))) (fun _ hk => hk.2) (.slice Ao35 y131.length co35)) (fun _ hk => ⟨hk.1.1.1, ⟨hk.1.2, ⟨hk.1.1.2.1, ⟨hk.1.1.2.2.1, ⟨hk.1.1.2.2.2.1, hk.1.1.2.2.2.2⟩⟩⟩⟩⟩)⟩, ⟨by (with_reducible repeat (first | apply Kd.R_alloc | apply Kd.R_drewN | apply Kd.R_drew)); exact Kd.R_mono (Kd.R_far (p := ⟨gb125, 1, none⟩) (Kd.R_types HO129.out BK125.out (by decide)) (fun _ hk => hk.2) (.slice Ao35 y131.length co35)) (fun _ hk => hk.1.2)⟩, ⟨by (with_reducible repeat (first | apply Kd.R_alloc | apply Kd.R_drewN | apply Kd.R_drew)); exact Kd.R_mono (Kd.R_far (p := ⟨gb125, 1, none⟩) (Kd.R_types HO133.out BK125.out (by decide)) (fun _ hk => hk.2) (.slice Ao35 y131.length co35)) (fun _ hk => hk.1)⟩, ⟨by (with_reducible repeat (first | refine blk_drewN ?_ _ | refine blk_drew ?_ | refine blk_alloc ?_ _)); refine blk_far ?_ NB115_125.out _; (with_reducible repeat (first | refine blk_drewN ?_ _ | refine blk_drew ?_ | refine blk_alloc ?_ _)); exact BK115.out⟩, ⟨by (with_reducible repeat (first | refine blk_drewN ?_ _ | refine blk_drew ?_ | refine blk_alloc ?_ _)); refine blk_far ?_ NB116_125.out _; (with_reducible repeat (first | refine blk_drewN ?_ _ | refine blk_drew ?_ | refine blk_alloc ?_ _)); exact BK116.out⟩, ⟨by (with_reducible repeat (first | refine blk_drewN ?_ _ | refine blk_drew ?_ | refine blk_alloc ?_ _)); refine blk_far ?_ NB124_125.out _; (with_reducible repeat (first | refine blk_drewN ?_ _ | refine blk_drew ?_ | refine blk_alloc ?_ _)); exact BK124.out⟩, ⟨by (with_reducible repeat (first | refine blk_drewN ?_ _ | refine blk_drew ?_ | refine blk_alloc ?_ _)); refine blk_put (cs := #[.slice Ao30 y127.length co30, u126001]) ?_ 1 _ rfl; (with_reducible repeat (first | refine blk_drewN ?_ _ | refine blk_drew ?_ | refine blk_alloc ?_ _)); exact BK125.out⟩, ⟨by repeat (first | (with_reducible first | exact HB.out | apply below_alloc | apply pw_below_drewN | apply below_drew1 | refine below_set ?_ GE115.out | refine below_set ?_ GE116.out | refine below_set ?_ GE124.out | refine below_set ?_ GE125.out) | exact HB.out)⟩⟩
                · rw [if_neg c23] at H
                  exact absurd H (by simp)
              · rw [if_neg c22] at H
                exact absurd H (by simp)
            · rw [if_neg c21] at H
              exact absurd H (by simp)
          · rw [if_neg c20] at H
            exact absurd H (by simp)
        · replace c19 := Bool.eq_false_iff.mpr c19
          subst c19
          have H1 : (if 0 ≤ x12_1 then (if a1 < (rd t117 x12_1) then (if x126000_1.length < 17592186044416 then ((some (x126000_1 ++ [a1] : List Int)).bind fun y135 => ((hostlerref01_Cut.f a2).bind fun t138 => (if x126001_1.length < 17592186044416 then ((some (x126001_1 ++ [t138] : List Int)).bind fun y139 => (if y135.length < 17592186044416 then (if x12_1 < (t120.length : Int) then (if y139.length < 17592186044416 then (hostlerref04_Set.l0 k1 a1 a2 t123 true (wrap64 (x12_1 + 1)) t117 t120 (y135 ++ [rd t117 x12_1]) (y139 ++ [rd t120 x12_1])) else (none)) else (none)) else (none))) else (none)))) else (none)) else (if x126000_1.length < 17592186044416 then (if x12_1 < (t120.length : Int) then (if x126001_1.length < 17592186044416 then (hostlerref04_Set.l0 k1 a1 a2 t123 false (wrap64 (x12_1 + 1)) t117 t120 (x126000_1 ++ [rd t117 x12_1]) (x126001_1 ++ [rd t120 x12_1])) else (none)) else (none)) else (none))) else (none)) = some (r1, r2, r3) := by rw [if_neg (show ¬ (false = true) by decide)] at H; exact H
          clear H
          have H := H1
          clear H1
          by_cases c37 : 0 ≤ x12_1
          · rw [if_pos c37] at H
            have c37b0 : decide (0 ≤ x12_1) = true := decide_eq_true c37
            clear c37
            by_cases c38 : a1 < (rd t117 x12_1)
            · rw [if_pos c38] at H
              have c38b0 : decide (a1 < (rd t117 x12_1)) = true := decide_eq_true c38
              clear c38
              by_cases c39 : x126000_1.length < 17592186044416
              · rw [if_pos c39] at H
                have LMc39 := Aside0.mk c39
                clear c39
                obtain ⟨y135, hy135⟩ : ∃ y_ : List Int, y_ = (x126000_1 ++ [a1]) := ⟨_, rfl⟩
                replace H : ((hostlerref01_Cut.f a2).bind fun t138 => (if x126001_1.length < 17592186044416 then ((some (x126001_1 ++ [t138] : List Int)).bind fun y139 => (if y135.length < 17592186044416 then (if x12_1 < (t120.length : Int) then (if y139.length < 17592186044416 then (hostlerref04_Set.l0 k1 a1 a2 t123 true (wrap64 (x12_1 + 1)) t117 t120 (y135 ++ [rd t117 x12_1]) (y139 ++ [rd t120 x12_1])) else (none)) else (none)) else (none))) else (none))) = some (r1, r2, r3) := by first | (rw [hy135]; with_reducible exact H) | (have H2_ := (Option.bind_some _ _).symm.trans H; rw [hy135]; with_reducible exact H2_) | (have H2_ := (Option.bind_some _ _).symm.trans H; with_reducible exact H2_) | with_reducible exact H | (rw [hy135]; exact H) | exact H
                have Ny135 := Aside0.mk hy135
                clear hy135
                replace H := Option.bind_eq_some_iff.mp H
                obtain ⟨t138, A400, H⟩ := H
                replace H : (if x126001_1.length < 17592186044416 then ((some (x126001_1 ++ [t138] : List Int)).bind fun y139 => (if y135.length < 17592186044416 then (if x12_1 < (t120.length : Int) then (if y139.length < 17592186044416 then (hostlerref04_Set.l0 k1 a1 a2 t123 true (wrap64 (x12_1 + 1)) t117 t120 (y135 ++ [rd t117 x12_1]) (y139 ++ [rd t120 x12_1])) else (none)) else (none)) else (none))) else (none)) = some (r1, r2, r3) := H
                have A40 := Aside0.mk A400
                clear A400
                by_cases c41 : x126001_1.length < 17592186044416
                · rw [if_pos c41] at H
                  have LMc41 := Aside0.mk c41
                  clear c41
                  obtain ⟨y139, hy139⟩ : ∃ y_ : List Int, y_ = (x126001_1 ++ [t138]) := ⟨_, rfl⟩
                  replace H : (if y135.length < 17592186044416 then (if x12_1 < (t120.length : Int) then (if y139.length < 17592186044416 then (hostlerref04_Set.l0 k1 a1 a2 t123 true (wrap64 (x12_1 + 1)) t117 t120 (y135 ++ [rd t117 x12_1]) (y139 ++ [rd t120 x12_1])) else (none)) else (none)) else (none)) = some (r1, r2, r3) := by first | (rw [hy139]; with_reducible exact H) | (have H2_ := (Option.bind_some _ _).symm.trans H; rw [hy139]; with_reducible exact H2_) | (have H2_ := (Option.bind_some _ _).symm.trans H; with_reducible exact H2_) | with_reducible exact H | (rw [hy139]; exact H) | exact H
                  have Ny139 := Aside0.mk hy139
                  clear hy139
                  by_cases c42 : y135.length < 17592186044416
                  · rw [if_pos c42] at H
                    have LMc42 := Aside0.mk c42
                    clear c42
                    obtain ⟨y143, hy143⟩ : ∃ y_ : List Int, y_ = (y135 ++ [rd t117 x12_1]) := ⟨_, rfl⟩
                    replace H : (if x12_1 < (t120.length : Int) then (if y139.length < 17592186044416 then (hostlerref04_Set.l0 k1 a1 a2 t123 true (wrap64 (x12_1 + 1)) t117 t120 y143 (y139 ++ [rd t120 x12_1])) else (none)) else (none)) = some (r1, r2, r3) := by first | (rw [hy143]; with_reducible exact H) | (have H2_ := (Option.bind_some _ _).symm.trans H; rw [hy143]; with_reducible exact H2_) | (have H2_ := (Option.bind_some _ _).symm.trans H; with_reducible exact H2_) | with_reducible exact H | (rw [hy143]; exact H) | exact H
                    have Ny143 := Aside0.mk hy143
                    clear hy143
                    by_cases c43 : x12_1 < (t120.length : Int)
                    · rw [if_pos c43] at H
                      have c43b0 : decide (x12_1 < (t120.length : Int)) = true := decide_eq_true c43
                      clear c43
                      by_cases c44 : y139.length < 17592186044416
                      · rw [if_pos c44] at H
                        have LMc44 := Aside0.mk c44
                        clear c44
                        obtain ⟨y147, hy147⟩ : ∃ y_ : List Int, y_ = (y139 ++ [rd t120 x12_1]) := ⟨_, rfl⟩
                        replace H : (hostlerref04_Set.l0 k1 a1 a2 t123 true (wrap64 (x12_1 + 1)) t117 t120 y143 y147) = some (r1, r2, r3) := by first | (rw [hy147]; with_reducible exact H) | (have H2_ := (Option.bind_some _ _).symm.trans H; rw [hy147]; with_reducible exact H2_) | (have H2_ := (Option.bind_some _ _).symm.trans H; with_reducible exact H2_) | with_reducible exact H | (rw [hy147]; exact H) | exact H
                        have Ny147 := Aside0.mk hy147
                        clear hy147
                        have H' := Aside0.mk H
                        clear H
                        have hnb45 := NB115_116.out
                        have hnc45 := NB116_115.out
                        have hnb46 := NB115_124.out
                        have hnc46 := NB124_115.out
                        have hnb47 := NB115_125.out
                        have hnc47 := NB125_115.out
                        have hcz48_0 : wr.cell? ⟨gb115, 0, none⟩ = some (.slice Ao11 t117.length co11) := (blk_cell BK115.out 0).trans rfl
                        have hcz48_1 : wr.cell? ⟨gb115, 1, none⟩ = some (.slice Ao15 t120.length co15) := (blk_cell BK115.out 1).trans rfl
                        have hfz48_0 := blk_frozen BK115.out 0
                        have hfz48_1 := blk_frozen BK115.out 1
                        have p134 : 0 ≤ (x12_1 : Int) := of_decide_eq_true (by first | (with_reducible assumption) | assumption)
                        have q134 : x12_1 < (t117.length : Int) := of_decide_eq_true (by first | (with_reducible assumption) | assumption)
                        obtain ⟨ad134, e134, hx134_0⟩ := Kd.at_int (Kd.V_reads' HO_116000.out).2.2 x12_1 p134 q134
                        cases e134
                        replace p134 := eq_true p134
                        replace q134 := eq_true q134
                        have hnb49 := NB125_116.out
                        have hnc49 := NB116_125.out
                        have hnb50 := NB125_124.out
                        have hnc50 := NB124_125.out
                        have hcz51_0 : wr.cell? ⟨gb125, 0, none⟩ = some (u126000) := (blk_cell BK125.out 0).trans rfl
                        have hcz51_1 : wr.cell? ⟨gb125, 1, none⟩ = some (u126001) := (blk_cell BK125.out 1).trans rfl
                        have hfz51_0 := blk_frozen BK125.out 0
                        have hfz51_1 := blk_frozen BK125.out 1
                        try go_wp2_with (first | ((with_reducible refine gate_builtin (b := .append) (xs := #[.tmp 39, .tmp 41]) rfl ?_); at_builtin; refine Kd.R_append (Kd.int .i64) (w0 := w) w.heap.size rfl (.tmp 39) (.tmp 41) 27 3 (.int .i64 0) 8 rfl Try.underlying27 info3 rfl (by decide) (by omega) u126000 x126000_1 a1 [.int .i64 a1] (fun k_ => some k_ ≠ (u126001 : Value).ownBlock) (fun _ => False) rfl rfl ?aP (fun _ hk => hk.elim) ?aF ?aO ?aB ?aS ?aL ?_; (case aP => exact rfl); (case aB => exact (by repeat (first | (with_reducible first | exact HB.out | apply below_alloc | apply pw_below_drewN | apply below_drew1 | refine below_set ?_ GE115.out | refine below_set ?_ GE116.out | refine below_set ?_ GE124.out | refine below_set ?_ GE125.out) | exact HB.out))); (case aF => exact (fun k_ hk => Kd.fresh' (Kd.R_lt (by (with_reducible repeat (first | apply Kd.R_alloc | apply Kd.R_drewN | apply Kd.R_drew)); exact HO_126001.out)) k_ hk)); (case aO => exact (by (with_reducible repeat (first | apply Kd.R_alloc | apply Kd.R_drewN | apply Kd.R_drew)); exact HO_126000.out)); (case aS => exact (below_size (by repeat (first | (with_reducible first | exact HB.out | apply below_alloc | apply pw_below_drewN | apply below_drew1 | refine below_set ?_ GE115.out | refine below_set ?_ GE116.out | refine below_set ?_ GE124.out | refine below_set ?_ GE125.out) | exact HB.out)))); (case aL => have := LMc39.out; omega); intro v136 w52 ho hb hg hat; rw [← Ny135.out] at ho; have n0_ := Aside0.mk (Kd.V_afterv (ok := (fun k_ => some k_ ≠ (u126001 : Value).ownBlock ∧ k_ ≠ gb115 ∧ k_ ≠ gb116 ∧ k_ ≠ gb124 ∧ k_ ≠ gb125)) (by (with_reducible repeat (first | apply Kd.V_alloc | apply Kd.V_drewN | apply Kd.V_drew)); exact Kd.V_mono HO_116000.out (fun _ hk => ⟨⟨hk.2.1, ⟨hk.2.2.1, ⟨hk.2.2.2.1, ⟨hk.2.2.2.2.1, hk.2.2.2.2.2⟩⟩⟩⟩, hk.1⟩)) hg hat); have n1_ := Aside0.mk (Kd.V_afterv (ok := (fun k_ => some k_ ≠ (u126001 : Value).ownBlock ∧ k_ ≠ gb115 ∧ k_ ≠ gb116 ∧ k_ ≠ gb124 ∧ k_ ≠ gb125)) (by (with_reducible repeat (first | apply Kd.V_alloc | apply Kd.V_drewN | apply Kd.V_drew)); exact Kd.V_mono HO_116001.out (fun _ hk => ⟨⟨hk.2.1, ⟨hk.2.2.1, ⟨hk.2.2.2.1, ⟨hk.2.2.2.2.1, hk.2.2.2.2.2⟩⟩⟩⟩, hk.1⟩)) hg hat); have n2_ := Aside0.mk (Kd.V_afterv (ok := (fun k_ => some k_ ≠ (u126001 : Value).ownBlock ∧ k_ ≠ gb115 ∧ k_ ≠ gb116 ∧ k_ ≠ gb124 ∧ k_ ≠ gb125)) (by (with_reducible repeat (first | apply Kd.V_alloc | apply Kd.V_drewN | apply Kd.V_drew)); exact Kd.V_mono HO_125000.out (fun _ hk => ⟨⟨hk.2.1, ⟨hk.2.2.1, ⟨hk.2.2.2.1, ⟨hk.2.2.2.2.1, hk.2.2.2.2.2⟩⟩⟩⟩, hk.1⟩)) hg hat); have n3_ := Aside0.mk (Kd.V_afterv (ok := (fun k_ => some k_ ≠ (u126001 : Value).ownBlock ∧ k_ ≠ gb115 ∧ k_ ≠ gb116 ∧ k_ ≠ gb124 ∧ k_ ≠ gb125)) (by (with_reducible repeat (first | apply Kd.V_alloc | apply Kd.V_drewN | apply Kd.V_drew)); exact Kd.V_mono HO_125001.out (fun _ hk => ⟨⟨hk.2.1, ⟨hk.2.2.1, ⟨hk.2.2.2.1, ⟨hk.2.2.2.2.1, hk.2.2.2.2.2⟩⟩⟩⟩, hk.1⟩)) hg hat); have n4_ := Aside0.mk (Kd.R_after (ok := (fun _ => True)) (by (with_reducible repeat (first | apply Kd.R_alloc | apply Kd.R_drewN | apply Kd.R_drew)); exact Kd.R_mono HO_126001.out (fun _ hk => ⟨trivial, hk⟩)) hg hat); have n5_ := Aside0.mk (blk_grown (g := gb115) (o := .cells #[.slice (some ad134) t117.length co11, .slice Ao15 t120.length co15] 46 (0, 0)) (by (with_reducible repeat (first | refine blk_drewN ?_ _ | refine blk_drew ?_ | refine blk_alloc ?_ _)); exact BK115.out) hg (Kd.R_ne HO_126000.out BK115.out (by decide))); have n6_ := Aside0.mk (blk_grown (g := gb116) (o := .cells #[.slice none 0 0, .slice none 0 0] 46 (0, 0)) (by (with_reducible repeat (first | refine blk_drewN ?_ _ | refine blk_drew ?_ | refine blk_alloc ?_ _)); exact BK116.out) hg (Kd.R_ne HO_126000.out BK116.out (by decide))); have n7_ := Aside0.mk (blk_grown (g := gb124) (o := .cells #[.slice (some ad134) t117.length co11, .slice Ao15 t120.length co15] 46 (0, 0)) (by (with_reducible repeat (first | refine blk_drewN ?_ _ | refine blk_drew ?_ | refine blk_alloc ?_ _)); exact BK124.out) hg (Kd.R_ne HO_126000.out BK124.out (by decide))); have n8_ := Aside0.mk (blk_grown (g := gb125) (o := .cells #[u126000, u126001] 46 (0, 0)) (by (with_reducible repeat (first | refine blk_drewN ?_ _ | refine blk_drew ?_ | refine blk_alloc ?_ _)); exact BK125.out) hg (Kd.R_ne HO_126000.out BK125.out (by decide))); have n9_ := Aside0.mk (hb); have n10_ := Aside0.mk (ho); clear HO_116000; clear HO_116001; clear HO_125000; clear HO_125001; clear HO_126001; clear BK115; clear BK116; clear BK124; clear BK125; clear HB; clear HO_126000; have HO_116000 := n0_; have HO_116001 := n1_; have HO_125000 := n2_; have HO_125001 := n3_; have HO_126001 := n4_; have BK115 := n5_; have BK116 := n6_; have BK124 := n7_; have BK125 := n8_; have HB := n9_; have HO137 := n10_; clear n0_ n1_ n2_ n3_ n4_ n5_ n6_ n7_ n8_ n9_ n10_; clear ho hb hg hat; obtain ⟨Ao53, co53, eo53⟩ := Kd.R_slice HO137.out; subst eo53; have hcz54_0 : w52.cell? ⟨gb125, 0, none⟩ = some (u126000) := (blk_cell BK125.out 0).trans rfl; have hcz54_1 : w52.cell? ⟨gb125, 1, none⟩ = some (u126001) := (blk_cell BK125.out 1).trans rfl; have hfz54_0 := blk_frozen BK125.out 0; have hfz54_1 := blk_frozen BK125.out 1))
                        have n0_ : Aside0 (Kd.V (Kd.int .i64) 3 (w52.setCell ⟨gb125, 0, none⟩ (.slice Ao53 y135.length co53)) w.heap.size (fun k_ => some k_ ≠ (u126001 : Value).ownBlock ∧ some k_ ≠ (.slice Ao53 y135.length co53 : Value).ownBlock ∧ k_ ≠ gb115 ∧ k_ ≠ gb116 ∧ k_ ≠ gb124 ∧ k_ ≠ gb125) (.slice (some ad134) t117.length co11) t117) := ⟨by (with_reducible repeat (first | apply Kd.V_alloc | apply Kd.V_drewN | apply Kd.V_drew)); exact Kd.V_mono (Kd.V_far (p := ⟨gb125, 0, none⟩) (Kd.V_mono HO_116000.out (fun k_ hk => (⟨hk, hk.1.2.2.2.2⟩ : _ ∧ k_ ≠ gb125))) (fun _ hk => hk.2) (.slice Ao53 y135.length co53)) (fun _ hk => ⟨hk.1.1.1, ⟨hk.1.2, ⟨hk.1.1.2.1, ⟨hk.1.1.2.2.1, ⟨hk.1.1.2.2.2.1, hk.1.1.2.2.2.2⟩⟩⟩⟩⟩)⟩
                        have n1_ : Aside0 (Kd.V (Kd.int .i64) 3 (w52.setCell ⟨gb125, 0, none⟩ (.slice Ao53 y135.length co53)) w.heap.size (fun k_ => some k_ ≠ (u126001 : Value).ownBlock ∧ some k_ ≠ (.slice Ao53 y135.length co53 : Value).ownBlock ∧ k_ ≠ gb115 ∧ k_ ≠ gb116 ∧ k_ ≠ gb124 ∧ k_ ≠ gb125) (.slice Ao15 t120.length co15) t120) := ⟨by (with_reducible repeat (first | apply Kd.V_alloc | apply Kd.V_drewN | apply Kd.V_drew)); exact Kd.V_mono (Kd.V_far (p := ⟨gb125, 0, none⟩) (Kd.V_mono HO_116001.out (fun k_ hk => (⟨hk, hk.1.2.2.2.2⟩ : _ ∧ k_ ≠ gb125))) (fun _ hk => hk.2) (.slice Ao53 y135.length co53)) (fun _ hk => ⟨hk.1.1.1, ⟨hk.1.2, ⟨hk.1.1.2.1, ⟨hk.1.1.2.2.1, ⟨hk.1.1.2.2.2.1, hk.1.1.2.2.2.2⟩⟩⟩⟩⟩)⟩
                        have n2_ : Aside0 (Kd.V (Kd.int .i64) 3 (w52.setCell ⟨gb125, 0, none⟩ (.slice Ao53 y135.length co53)) w.heap.size (fun k_ => some k_ ≠ (u126001 : Value).ownBlock ∧ some k_ ≠ (.slice Ao53 y135.length co53 : Value).ownBlock ∧ k_ ≠ gb115 ∧ k_ ≠ gb116 ∧ k_ ≠ gb124 ∧ k_ ≠ gb125) (.slice (some ad134) t117.length co11) t117) := ⟨by (with_reducible repeat (first | apply Kd.V_alloc | apply Kd.V_drewN | apply Kd.V_drew)); exact Kd.V_mono (Kd.V_far (p := ⟨gb125, 0, none⟩) (Kd.V_mono HO_125000.out (fun k_ hk => (⟨hk, hk.1.2.2.2.2⟩ : _ ∧ k_ ≠ gb125))) (fun _ hk => hk.2) (.slice Ao53 y135.length co53)) (fun _ hk => ⟨hk.1.1.1, ⟨hk.1.2, ⟨hk.1.1.2.1, ⟨hk.1.1.2.2.1, ⟨hk.1.1.2.2.2.1, hk.1.1.2.2.2.2⟩⟩⟩⟩⟩)⟩
                        have n3_ : Aside0 (Kd.V (Kd.int .i64) 3 (w52.setCell ⟨gb125, 0, none⟩ (.slice Ao53 y135.length co53)) w.heap.size (fun k_ => some k_ ≠ (u126001 : Value).ownBlock ∧ some k_ ≠ (.slice Ao53 y135.length co53 : Value).ownBlock ∧ k_ ≠ gb115 ∧ k_ ≠ gb116 ∧ k_ ≠ gb124 ∧ k_ ≠ gb125) (.slice Ao15 t120.length co15) t120) := ⟨by (with_reducible repeat (first | apply Kd.V_alloc | apply Kd.V_drewN | apply Kd.V_drew)); exact Kd.V_mono (Kd.V_far (p := ⟨gb125, 0, none⟩) (Kd.V_mono HO_125001.out (fun k_ hk => (⟨hk, hk.1.2.2.2.2⟩ : _ ∧ k_ ≠ gb125))) (fun _ hk => hk.2) (.slice Ao53 y135.length co53)) (fun _ hk => ⟨hk.1.1.1, ⟨hk.1.2, ⟨hk.1.1.2.1, ⟨hk.1.1.2.2.1, ⟨hk.1.1.2.2.2.1, hk.1.1.2.2.2.2⟩⟩⟩⟩⟩)⟩
                        have n4_ : Aside0 (Kd.R (Kd.int .i64) 3 (w52.setCell ⟨gb125, 0, none⟩ (.slice Ao53 y135.length co53)) w.heap.size (fun k_ => some k_ ≠ (.slice Ao53 y135.length co53 : Value).ownBlock) u126001 x126001_1) := ⟨by (with_reducible repeat (first | apply Kd.R_alloc | apply Kd.R_drewN | apply Kd.R_drew)); exact Kd.R_mono (Kd.R_far (p := ⟨gb125, 0, none⟩) (Kd.R_types HO_126001.out BK125.out (by decide)) (fun _ hk => hk.2) (.slice Ao53 y135.length co53)) (fun _ hk => hk.1.2)⟩
                        have n5_ : Aside0 (Kd.R (Kd.int .i64) 3 (w52.setCell ⟨gb125, 0, none⟩ (.slice Ao53 y135.length co53)) w.heap.size (fun k_ => some k_ ≠ (u126001 : Value).ownBlock) (.slice Ao53 y135.length co53) y135) := ⟨by (with_reducible repeat (first | apply Kd.R_alloc | apply Kd.R_drewN | apply Kd.R_drew)); exact Kd.R_mono (Kd.R_far (p := ⟨gb125, 0, none⟩) (Kd.R_types HO137.out BK125.out (by decide)) (fun _ hk => hk.2) (.slice Ao53 y135.length co53)) (fun _ hk => hk.1)⟩
                        have n6_ : Aside0 ((w52.setCell ⟨gb125, 0, none⟩ (.slice Ao53 y135.length co53)).heap[gb115]? = some (.cells #[.slice (some ad134) t117.length co11, .slice Ao15 t120.length co15] 46 (0, 0))) := ⟨by (with_reducible repeat (first | refine blk_drewN ?_ _ | refine blk_drew ?_ | refine blk_alloc ?_ _)); refine blk_far ?_ NB115_125.out _; (with_reducible repeat (first | refine blk_drewN ?_ _ | refine blk_drew ?_ | refine blk_alloc ?_ _)); exact BK115.out⟩
                        have n7_ : Aside0 ((w52.setCell ⟨gb125, 0, none⟩ (.slice Ao53 y135.length co53)).heap[gb116]? = some (.cells #[.slice none 0 0, .slice none 0 0] 46 (0, 0))) := ⟨by (with_reducible repeat (first | refine blk_drewN ?_ _ | refine blk_drew ?_ | refine blk_alloc ?_ _)); refine blk_far ?_ NB116_125.out _; (with_reducible repeat (first | refine blk_drewN ?_ _ | refine blk_drew ?_ | refine blk_alloc ?_ _)); exact BK116.out⟩
                        have n8_ : Aside0 ((w52.setCell ⟨gb125, 0, none⟩ (.slice Ao53 y135.length co53)).heap[gb124]? = some (.cells #[.slice (some ad134) t117.length co11, .slice Ao15 t120.length co15] 46 (0, 0))) := ⟨by (with_reducible repeat (first | refine blk_drewN ?_ _ | refine blk_drew ?_ | refine blk_alloc ?_ _)); refine blk_far ?_ NB124_125.out _; (with_reducible repeat (first | refine blk_drewN ?_ _ | refine blk_drew ?_ | refine blk_alloc ?_ _)); exact BK124.out⟩
                        have n9_ : Aside0 ((w52.setCell ⟨gb125, 0, none⟩ (.slice Ao53 y135.length co53)).heap[gb125]? = some (.cells #[.slice Ao53 y135.length co53, u126001] 46 (0, 0))) := ⟨by (with_reducible repeat (first | refine blk_drewN ?_ _ | refine blk_drew ?_ | refine blk_alloc ?_ _)); refine blk_put (cs := #[u126000, u126001]) ?_ 0 _ rfl; (with_reducible repeat (first | refine blk_drewN ?_ _ | refine blk_drew ?_ | refine blk_alloc ?_ _)); exact BK125.out⟩
                        have n10_ : Aside0 (Below w.heap.size w (w52.setCell ⟨gb125, 0, none⟩ (.slice Ao53 y135.length co53))) := ⟨by repeat (first | (with_reducible first | exact HB.out | apply below_alloc | apply pw_below_drewN | apply below_drew1 | refine below_set ?_ GE115.out | refine below_set ?_ GE116.out | refine below_set ?_ GE124.out | refine below_set ?_ GE125.out) | exact HB.out)⟩
                        (try clear HO_116000)
                        (try clear HO_116001)
                        (try clear HO_125000)
                        (try clear HO_125001)
                        (try clear HO_126001)
                        (try clear HO137)
                        (try clear BK115)
                        (try clear BK116)
                        (try clear BK124)
                        (try clear BK125)
                        (try clear HB)
                        generalize (w52.setCell ⟨gb125, 0, none⟩ (.slice Ao53 y135.length co53)) = w55 at n0_ n1_ n2_ n3_ n4_ n5_ n6_ n7_ n8_ n9_ n10_ ⊢
                        have HO_116000 := n0_
                        have HO_116001 := n1_
                        have HO_125000 := n2_
                        have HO_125001 := n3_
                        have HO_126001 := n4_
                        have HO137 := n5_
                        have BK115 := n6_
                        have BK116 := n7_
                        have BK124 := n8_
                        have BK125 := n9_
                        have HB := n10_
                        clear n0_ n1_ n2_ n3_ n4_ n5_ n6_ n7_ n8_ n9_ n10_
                        have n0_ := Aside0.mk (Kd.V_drew HO_116000.out)
                        have n1_ := Aside0.mk (Kd.V_drew HO_116001.out)
                        have n2_ := Aside0.mk (Kd.V_drew HO_125000.out)
                        have n3_ := Aside0.mk (Kd.V_drew HO_125001.out)
                        have n4_ := Aside0.mk (Kd.R_drew HO_126001.out)
                        have n5_ := Aside0.mk (Kd.R_drew HO137.out)
                        have n6_ := Aside0.mk (blk_drew BK115.out)
                        have n7_ := Aside0.mk (blk_drew BK116.out)
                        have n8_ := Aside0.mk (blk_drew BK124.out)
                        have n9_ := Aside0.mk (blk_drew BK125.out)
                        have n10_ := Aside0.mk (below_drew1 HB.out)
                        clear HO_116000
                        clear HO_116001
                        clear HO_125000
                        clear HO_125001
                        clear HO_126001
                        clear HO137
                        clear BK115
                        clear BK116
                        clear BK124
                        clear BK125
                        clear HB
                        have HO_116000 := n0_
                        have HO_116001 := n1_
                        have HO_125000 := n2_
                        have HO_125001 := n3_
                        have HO_126001 := n4_
                        have HO137 := n5_
                        have BK115 := n6_
                        have BK116 := n7_
                        have BK124 := n8_
                        have BK125 := n9_
                        have HB := n10_
                        clear n0_ n1_ n2_ n3_ n4_ n5_ n6_ n7_ n8_ n9_ n10_
                        refine start_ (n := 8) (S := fun w' => w'.cell? ⟨gb125, 0, none⟩ = some (.slice Ao53 y135.length co53) ∧ w'.cell? ⟨gb125, 1, none⟩ = some (u126001)) (ds := [7]) #[false, false, false, false, false, false, false, false] (by kernel_rfl) rfl rfl ⟨(blk_cell BK125.out 0).trans rfl, (blk_cell BK125.out 1).trans rfl⟩ (fun hHeld => ?_); refine with_tabW hostlerref04_Set.tab10 hostlerref04_Set.bits10 (fun HT_ HW_ => ?_)
                        generalize w55.drew = w56 at HO_116000 HO_116001 HO_125000 HO_125001 HO_126001 HO137 BK115 BK116 BK124 BK125 HB hHeld ⊢
                        refine pure_ (i := 0) (N := some 44) (v := ?_) (a' := ?_) #[true, false, false, false, false, false, false, false] rfl rfl (any_of HT_.out (by kernel_rfl)) (fun _ _ _ h => h) (Or.inl ⟨by rfl, ?_⟩) ?_ ?_
                        rotate_left
                        · intro w'
                          go_simp
                          with_reducible rfl
                        rotate_left
                        · simp only [Act.put, List.setIfInBounds_toArray, List.set_cons_zero, List.set_cons_succ, i64_w, i32_w]
                          rfl
                        refine pure_ (i := 2) (N := some 46) (v := ?_) (a' := ?_) #[true, false, true, false, false, false, false, false] rfl rfl (any_of HT_.out (by kernel_rfl)) (fun _ _ _ h => h) (Or.inl ⟨by rfl, ?_⟩) ?_ ?_
                        rotate_left
                        · intro w'
                          go_simp
                          with_reducible rfl
                        rotate_left
                        · simp only [Act.put, List.setIfInBounds_toArray, List.set_cons_zero, List.set_cons_succ, i64_w, i32_w]
                          rfl
                        refine take_ (i := 1) (N := some 45) (v := ?_) (a' := ?_) #[true, true, true, false, false, false, false, false] rfl rfl (take_ofW HT_.out HW_.out (by kernel_rfl)) (fun _ _ _ h => h) (Or.inl ⟨by rfl, ?_⟩) hHeld ?_ ?_
                        rotate_left
                        · rintro w' ⟨s0, s1⟩
                          go_simp
                          with_reducible rfl
                        rotate_left
                        · simp only [Act.put, List.setIfInBounds_toArray, List.set_cons_zero, List.set_cons_succ, i64_w, i32_w]
                          rfl
                        refine one_ (i := 3) (N := some 47) #[true, true, true, true, false, false, false, false] rfl rfl (one_of HT_.out (by kernel_rfl)) (by decide) (fun K hK => ?_)
                        refine goes_ Try.func21 (by kernel_rfl) rfl #[.int .i64 a2] (by rfl) rfl rfl (by (try simp only [List.map_toArray, List.map_cons, List.map_nil]); first | done | rfl | (simp only [List.length_drop, List.length_take]; rfl)) ?_
                        with_reducible refine (hostlerref01_Cut.calls a2 t138 _ A40.out).mono ?_
                        rintro e w' ⟨rfl, ⟨nd, rfl⟩⟩
                        refine ⟨_, rfl, ?_⟩
                        refine hK.out _ _ ⟨(blk_cell BK125.out 0).trans rfl, (blk_cell BK125.out 1).trans rfl⟩ (fun hHeld => ?_)
                        clear hK K
                        refine norm_ (a' := ?_) ?_ ?_
                        rotate_left
                        · show Act.put _ (some 47) _ = _
                          simp only [Act.put, List.setIfInBounds_toArray, List.set_cons_zero, List.set_cons_succ, i64_w, i32_w]
                          rfl
                        refine one_ (i := 4) (N := some 48) #[true, true, true, true, true, false, false, false] rfl rfl (one_of HT_.out (by kernel_rfl)) (by decide) (fun K hK => ?_)
                        refine value_ (w1 := ?_) (v := ?_) (by rfl) rfl ?_ ?_
                        rotate_left 2
                        · go_simp
                          constructor
                          · rfl
                          · rfl
                        refine hK.out _ _ ⟨(blk_cell (blk_alloc BK125.out _) 0).trans rfl, (blk_cell (blk_alloc BK125.out _) 1).trans rfl⟩ (fun hHeld => ?_)
                        clear hK K
                        refine norm_ (a' := ?_) ?_ ?_
                        rotate_left
                        · show Act.put _ (some 48) _ = _
                          simp only [Act.put, List.setIfInBounds_toArray, List.set_cons_zero, List.set_cons_succ, i64_w, i32_w]
                          rfl
                        refine one_ (i := 5) (N := some 49) #[true, true, true, true, true, true, false, false] rfl rfl (one_of HT_.out (by kernel_rfl)) (by decide) (fun K hK => ?_)
                        refine Kd.R_append_step (Kd.int .i64) (w0 := w) w.heap.size (by rfl) (.tmp 45) (.tmp 48) 27 3 (.int .i64 0) 8 rfl Try.underlying27 info3 rfl (by decide) (by omega) u126001 x126001_1 t138 [.int .i64 t138] (fun k_ => some k_ ≠ (.slice Ao53 y135.length co53 : Value).ownBlock) (fun _ => False) rfl rfl ?aP (fun _ hk => hk.elim) ?aF ?aO ?aB ?aS ?aL ?_
                        (case aP => exact rfl)
                        (case aB => exact (by repeat (first | (with_reducible first | exact HB.out | apply below_alloc | apply pw_below_drewN | apply below_drew1 | refine below_set ?_ GE115.out | refine below_set ?_ GE116.out | refine below_set ?_ GE124.out | refine below_set ?_ GE125.out) | exact HB.out)))
                        (case aF => exact (fun k_ hk => Kd.fresh' (Kd.R_lt (by (with_reducible repeat (first | apply Kd.R_alloc | apply Kd.R_drewN | apply Kd.R_drew)); exact HO137.out)) k_ hk))
                        (case aO => exact (by (with_reducible repeat (first | apply Kd.R_alloc | apply Kd.R_drewN | apply Kd.R_drew)); exact HO_126001.out))
                        (case aS => exact (below_size (by repeat (first | (with_reducible first | exact HB.out | apply below_alloc | apply pw_below_drewN | apply below_drew1 | refine below_set ?_ GE115.out | refine below_set ?_ GE116.out | refine below_set ?_ GE124.out | refine below_set ?_ GE125.out) | exact HB.out))))
                        (case aL => have := LMc41.out; omega)
                        intro v140 w57 ho hb hg hat
                        rw [← Ny139.out] at ho
                        have n0_ := Aside0.mk (Kd.V_afterv (ok := (fun k_ => some k_ ≠ (.slice Ao53 y135.length co53 : Value).ownBlock ∧ k_ ≠ gb115 ∧ k_ ≠ gb116 ∧ k_ ≠ gb124 ∧ k_ ≠ gb125)) (by (with_reducible repeat (first | apply Kd.V_alloc | apply Kd.V_drewN | apply Kd.V_drew)); exact Kd.V_mono HO_116000.out (fun _ hk => ⟨⟨hk.2.1, ⟨hk.2.2.1, ⟨hk.2.2.2.1, ⟨hk.2.2.2.2.1, hk.2.2.2.2.2⟩⟩⟩⟩, hk.1⟩)) hg hat)
                        have n1_ := Aside0.mk (Kd.V_afterv (ok := (fun k_ => some k_ ≠ (.slice Ao53 y135.length co53 : Value).ownBlock ∧ k_ ≠ gb115 ∧ k_ ≠ gb116 ∧ k_ ≠ gb124 ∧ k_ ≠ gb125)) (by (with_reducible repeat (first | apply Kd.V_alloc | apply Kd.V_drewN | apply Kd.V_drew)); exact Kd.V_mono HO_116001.out (fun _ hk => ⟨⟨hk.2.1, ⟨hk.2.2.1, ⟨hk.2.2.2.1, ⟨hk.2.2.2.2.1, hk.2.2.2.2.2⟩⟩⟩⟩, hk.1⟩)) hg hat)
                        have n2_ := Aside0.mk (Kd.V_afterv (ok := (fun k_ => some k_ ≠ (.slice Ao53 y135.length co53 : Value).ownBlock ∧ k_ ≠ gb115 ∧ k_ ≠ gb116 ∧ k_ ≠ gb124 ∧ k_ ≠ gb125)) (by (with_reducible repeat (first | apply Kd.V_alloc | apply Kd.V_drewN | apply Kd.V_drew)); exact Kd.V_mono HO_125000.out (fun _ hk => ⟨⟨hk.2.1, ⟨hk.2.2.1, ⟨hk.2.2.2.1, ⟨hk.2.2.2.2.1, hk.2.2.2.2.2⟩⟩⟩⟩, hk.1⟩)) hg hat)
                        have n3_ := Aside0.mk (Kd.V_afterv (ok := (fun k_ => some k_ ≠ (.slice Ao53 y135.length co53 : Value).ownBlock ∧ k_ ≠ gb115 ∧ k_ ≠ gb116 ∧ k_ ≠ gb124 ∧ k_ ≠ gb125)) (by (with_reducible repeat (first | apply Kd.V_alloc | apply Kd.V_drewN | apply Kd.V_drew)); exact Kd.V_mono HO_125001.out (fun _ hk => ⟨⟨hk.2.1, ⟨hk.2.2.1, ⟨hk.2.2.2.1, ⟨hk.2.2.2.2.1, hk.2.2.2.2.2⟩⟩⟩⟩, hk.1⟩)) hg hat)
                        have n4_ := Aside0.mk (blk_grown (g := gb115) (o := .cells #[.slice (some ad134) t117.length co11, .slice Ao15 t120.length co15] 46 (0, 0)) (by (with_reducible repeat (first | refine blk_drewN ?_ _ | refine blk_drew ?_ | refine blk_alloc ?_ _)); exact BK115.out) hg (Kd.R_ne HO_126001.out BK115.out (by decide)))
                        have n5_ := Aside0.mk (blk_grown (g := gb116) (o := .cells #[.slice none 0 0, .slice none 0 0] 46 (0, 0)) (by (with_reducible repeat (first | refine blk_drewN ?_ _ | refine blk_drew ?_ | refine blk_alloc ?_ _)); exact BK116.out) hg (Kd.R_ne HO_126001.out BK116.out (by decide)))
                        have n6_ := Aside0.mk (blk_grown (g := gb124) (o := .cells #[.slice (some ad134) t117.length co11, .slice Ao15 t120.length co15] 46 (0, 0)) (by (with_reducible repeat (first | refine blk_drewN ?_ _ | refine blk_drew ?_ | refine blk_alloc ?_ _)); exact BK124.out) hg (Kd.R_ne HO_126001.out BK124.out (by decide)))
                        have n7_ := Aside0.mk (blk_grown (g := gb125) (o := .cells #[.slice Ao53 y135.length co53, u126001] 46 (0, 0)) (by (with_reducible repeat (first | refine blk_drewN ?_ _ | refine blk_drew ?_ | refine blk_alloc ?_ _)); exact BK125.out) hg (Kd.R_ne HO_126001.out BK125.out (by decide)))
                        have n8_ := Aside0.mk (Kd.R_after (ok := (fun _ => True)) (by (with_reducible repeat (first | apply Kd.R_alloc | apply Kd.R_drewN | apply Kd.R_drew)); exact Kd.R_mono HO137.out (fun _ hk => ⟨trivial, hk⟩)) hg hat)
                        have n9_ := Aside0.mk (hb)
                        have n10_ := Aside0.mk (ho)
                        clear HO_116000
                        clear HO_116001
                        clear HO_125000
                        clear HO_125001
                        clear BK115
                        clear BK116
                        clear BK124
                        clear BK125
                        clear HO137
                        clear HB
                        clear HO_126001
                        have HO_116000 := n0_
                        have HO_116001 := n1_
                        have HO_125000 := n2_
                        have HO_125001 := n3_
                        have BK115 := n4_
                        have BK116 := n5_
                        have BK124 := n6_
                        have BK125 := n7_
                        have HO137 := n8_
                        have HB := n9_
                        have HO141 := n10_
                        clear n0_ n1_ n2_ n3_ n4_ n5_ n6_ n7_ n8_ n9_ n10_
                        clear ho hb hg hat
                        obtain ⟨Ao58, co58, eo58⟩ := Kd.R_slice HO141.out
                        (first | subst eo58 | (injection eo58 with f1_ f2_ f3_; have f4_ := f1_.symm; have f5_ := f3_.symm; clear f1_ f2_ f3_; subst f4_; subst f5_))
                        refine hK.out _ _ ⟨(blk_cell BK125.out 0).trans rfl, (blk_cell BK125.out 1).trans rfl⟩ (fun hHeld => ?_)
                        clear hK K
                        refine norm_ (a' := ?_) ?_ ?_
                        rotate_left
                        · show Act.put _ (some 49) _ = _
                          simp only [Act.put, List.setIfInBounds_toArray, List.set_cons_zero, List.set_cons_succ, i64_w, i32_w]
                          rfl
                        refine pure_ (i := 6) (N := some 50) (v := ?_) (a' := ?_) #[true, true, true, true, true, true, true, false] rfl rfl (any_of HT_.out (by kernel_rfl)) (fun _ _ _ h => h) (Or.inl ⟨by rfl, ?_⟩) ?_ ?_
                        rotate_left
                        · intro w'
                          go_simp
                          with_reducible rfl
                        rotate_left
                        · simp only [Act.put, List.setIfInBounds_toArray, List.set_cons_zero, List.set_cons_succ, i64_w, i32_w]
                          rfl
                        refine last_ (i := 7) (N := none) #[true, true, true, true, true, true, true, true] rfl rfl (one_of HT_.out (by kernel_rfl)) (by decide) (fun K hK => ?_)
                        have hs59 : w57.cell? ⟨gb125, 1, none⟩ = some (u126001) := (blk_cell BK125.out 1).trans rfl
                        have hfs59 := blk_frozen BK125.out 1
                        have hns59_0 := NB115_125.out
                        have hns59_1 := NB116_125.out
                        have hns59_2 := NB124_125.out
                        have hms59_0 := NB125_115.out
                        have hms59_1 := NB125_116.out
                        have hms59_2 := NB125_124.out
                        refine skip_ (w1 := ?_) (by rfl) rfl ?_ ?_
                        rotate_left
                        · go_simp
                          rfl
                        refine hK.out _ _ ?_
                        clear hK K
                        refine done_ (done_of HT_.out (by kernel_rfl)) ?_
                        try go_wp2
                        have n0_ : Aside0 (Kd.V (Kd.int .i64) 3 (w57.setCell ⟨gb125, 1, none⟩ (.slice Ao58 y139.length co58)) w.heap.size (fun k_ => some k_ ≠ (.slice Ao53 y135.length co53 : Value).ownBlock ∧ some k_ ≠ (.slice Ao58 y139.length co58 : Value).ownBlock ∧ k_ ≠ gb115 ∧ k_ ≠ gb116 ∧ k_ ≠ gb124 ∧ k_ ≠ gb125) (.slice (some ad134) t117.length co11) t117) := ⟨by (with_reducible repeat (first | apply Kd.V_alloc | apply Kd.V_drewN | apply Kd.V_drew)); exact Kd.V_mono (Kd.V_far (p := ⟨gb125, 1, none⟩) (Kd.V_mono HO_116000.out (fun k_ hk => (⟨hk, hk.1.2.2.2.2⟩ : _ ∧ k_ ≠ gb125))) (fun _ hk => hk.2) (.slice Ao58 y139.length co58)) (fun _ hk => ⟨hk.1.1.1, ⟨hk.1.2, ⟨hk.1.1.2.1, ⟨hk.1.1.2.2.1, ⟨hk.1.1.2.2.2.1, hk.1.1.2.2.2.2⟩⟩⟩⟩⟩)⟩
                        have n1_ : Aside0 (Kd.V (Kd.int .i64) 3 (w57.setCell ⟨gb125, 1, none⟩ (.slice Ao58 y139.length co58)) w.heap.size (fun k_ => some k_ ≠ (.slice Ao53 y135.length co53 : Value).ownBlock ∧ some k_ ≠ (.slice Ao58 y139.length co58 : Value).ownBlock ∧ k_ ≠ gb115 ∧ k_ ≠ gb116 ∧ k_ ≠ gb124 ∧ k_ ≠ gb125) (.slice Ao15 t120.length co15) t120) := ⟨by (with_reducible repeat (first | apply Kd.V_alloc | apply Kd.V_drewN | apply Kd.V_drew)); exact Kd.V_mono (Kd.V_far (p := ⟨gb125, 1, none⟩) (Kd.V_mono HO_116001.out (fun k_ hk => (⟨hk, hk.1.2.2.2.2⟩ : _ ∧ k_ ≠ gb125))) (fun _ hk => hk.2) (.slice Ao58 y139.length co58)) (fun _ hk => ⟨hk.1.1.1, ⟨hk.1.2, ⟨hk.1.1.2.1, ⟨hk.1.1.2.2.1, ⟨hk.1.1.2.2.2.1, hk.1.1.2.2.2.2⟩⟩⟩⟩⟩)⟩
                        have n2_ : Aside0 (Kd.V (Kd.int .i64) 3 (w57.setCell ⟨gb125, 1, none⟩ (.slice Ao58 y139.length co58)) w.heap.size (fun k_ => some k_ ≠ (.slice Ao53 y135.length co53 : Value).ownBlock ∧ some k_ ≠ (.slice Ao58 y139.length co58 : Value).ownBlock ∧ k_ ≠ gb115 ∧ k_ ≠ gb116 ∧ k_ ≠ gb124 ∧ k_ ≠ gb125) (.slice (some ad134) t117.length co11) t117) := ⟨by (with_reducible repeat (first | apply Kd.V_alloc | apply Kd.V_drewN | apply Kd.V_drew)); exact Kd.V_mono (Kd.V_far (p := ⟨gb125, 1, none⟩) (Kd.V_mono HO_125000.out (fun k_ hk => (⟨hk, hk.1.2.2.2.2⟩ : _ ∧ k_ ≠ gb125))) (fun _ hk => hk.2) (.slice Ao58 y139.length co58)) (fun _ hk => ⟨hk.1.1.1, ⟨hk.1.2, ⟨hk.1.1.2.1, ⟨hk.1.1.2.2.1, ⟨hk.1.1.2.2.2.1, hk.1.1.2.2.2.2⟩⟩⟩⟩⟩)⟩
                        have n3_ : Aside0 (Kd.V (Kd.int .i64) 3 (w57.setCell ⟨gb125, 1, none⟩ (.slice Ao58 y139.length co58)) w.heap.size (fun k_ => some k_ ≠ (.slice Ao53 y135.length co53 : Value).ownBlock ∧ some k_ ≠ (.slice Ao58 y139.length co58 : Value).ownBlock ∧ k_ ≠ gb115 ∧ k_ ≠ gb116 ∧ k_ ≠ gb124 ∧ k_ ≠ gb125) (.slice Ao15 t120.length co15) t120) := ⟨by (with_reducible repeat (first | apply Kd.V_alloc | apply Kd.V_drewN | apply Kd.V_drew)); exact Kd.V_mono (Kd.V_far (p := ⟨gb125, 1, none⟩) (Kd.V_mono HO_125001.out (fun k_ hk => (⟨hk, hk.1.2.2.2.2⟩ : _ ∧ k_ ≠ gb125))) (fun _ hk => hk.2) (.slice Ao58 y139.length co58)) (fun _ hk => ⟨hk.1.1.1, ⟨hk.1.2, ⟨hk.1.1.2.1, ⟨hk.1.1.2.2.1, ⟨hk.1.1.2.2.2.1, hk.1.1.2.2.2.2⟩⟩⟩⟩⟩)⟩
                        have n4_ : Aside0 (Kd.R (Kd.int .i64) 3 (w57.setCell ⟨gb125, 1, none⟩ (.slice Ao58 y139.length co58)) w.heap.size (fun k_ => some k_ ≠ (.slice Ao58 y139.length co58 : Value).ownBlock) (.slice Ao53 y135.length co53) y135) := ⟨by (with_reducible repeat (first | apply Kd.R_alloc | apply Kd.R_drewN | apply Kd.R_drew)); exact Kd.R_mono (Kd.R_far (p := ⟨gb125, 1, none⟩) (Kd.R_types HO137.out BK125.out (by decide)) (fun _ hk => hk.2) (.slice Ao58 y139.length co58)) (fun _ hk => hk.1.2)⟩
                        have n5_ : Aside0 (Kd.R (Kd.int .i64) 3 (w57.setCell ⟨gb125, 1, none⟩ (.slice Ao58 y139.length co58)) w.heap.size (fun k_ => some k_ ≠ (.slice Ao53 y135.length co53 : Value).ownBlock) (.slice Ao58 y139.length co58) y139) := ⟨by (with_reducible repeat (first | apply Kd.R_alloc | apply Kd.R_drewN | apply Kd.R_drew)); exact Kd.R_mono (Kd.R_far (p := ⟨gb125, 1, none⟩) (Kd.R_types HO141.out BK125.out (by decide)) (fun _ hk => hk.2) (.slice Ao58 y139.length co58)) (fun _ hk => hk.1)⟩
                        have n6_ : Aside0 ((w57.setCell ⟨gb125, 1, none⟩ (.slice Ao58 y139.length co58)).heap[gb115]? = some (.cells #[.slice (some ad134) t117.length co11, .slice Ao15 t120.length co15] 46 (0, 0))) := ⟨by (with_reducible repeat (first | refine blk_drewN ?_ _ | refine blk_drew ?_ | refine blk_alloc ?_ _)); refine blk_far ?_ NB115_125.out _; (with_reducible repeat (first | refine blk_drewN ?_ _ | refine blk_drew ?_ | refine blk_alloc ?_ _)); exact BK115.out⟩
                        have n7_ : Aside0 ((w57.setCell ⟨gb125, 1, none⟩ (.slice Ao58 y139.length co58)).heap[gb116]? = some (.cells #[.slice none 0 0, .slice none 0 0] 46 (0, 0))) := ⟨by (with_reducible repeat (first | refine blk_drewN ?_ _ | refine blk_drew ?_ | refine blk_alloc ?_ _)); refine blk_far ?_ NB116_125.out _; (with_reducible repeat (first | refine blk_drewN ?_ _ | refine blk_drew ?_ | refine blk_alloc ?_ _)); exact BK116.out⟩
                        have n8_ : Aside0 ((w57.setCell ⟨gb125, 1, none⟩ (.slice Ao58 y139.length co58)).heap[gb124]? = some (.cells #[.slice (some ad134) t117.length co11, .slice Ao15 t120.length co15] 46 (0, 0))) := ⟨by (with_reducible repeat (first | refine blk_drewN ?_ _ | refine blk_drew ?_ | refine blk_alloc ?_ _)); refine blk_far ?_ NB124_125.out _; (with_reducible repeat (first | refine blk_drewN ?_ _ | refine blk_drew ?_ | refine blk_alloc ?_ _)); exact BK124.out⟩
                        have n9_ : Aside0 ((w57.setCell ⟨gb125, 1, none⟩ (.slice Ao58 y139.length co58)).heap[gb125]? = some (.cells #[.slice Ao53 y135.length co53, .slice Ao58 y139.length co58] 46 (0, 0))) := ⟨by (with_reducible repeat (first | refine blk_drewN ?_ _ | refine blk_drew ?_ | refine blk_alloc ?_ _)); refine blk_put (cs := #[.slice Ao53 y135.length co53, u126001]) ?_ 1 _ rfl; (with_reducible repeat (first | refine blk_drewN ?_ _ | refine blk_drew ?_ | refine blk_alloc ?_ _)); exact BK125.out⟩
                        have n10_ : Aside0 (Below w.heap.size w (w57.setCell ⟨gb125, 1, none⟩ (.slice Ao58 y139.length co58))) := ⟨by repeat (first | (with_reducible first | exact HB.out | apply below_alloc | apply pw_below_drewN | apply below_drew1 | refine below_set ?_ GE115.out | refine below_set ?_ GE116.out | refine below_set ?_ GE124.out | refine below_set ?_ GE125.out) | exact HB.out)⟩
                        (try clear HO_116000)
                        (try clear HO_116001)
                        (try clear HO_125000)
                        (try clear HO_125001)
                        (try clear HO137)
                        (try clear HO141)
                        (try clear BK115)
                        (try clear BK116)
                        (try clear BK124)
                        (try clear BK125)
                        (try clear HB)
                        generalize (w57.setCell ⟨gb125, 1, none⟩ (.slice Ao58 y139.length co58)) = w60 at n0_ n1_ n2_ n3_ n4_ n5_ n6_ n7_ n8_ n9_ n10_ ⊢
                        have HO_116000 := n0_
                        have HO_116001 := n1_
                        have HO_125000 := n2_
                        have HO_125001 := n3_
                        have HO137 := n4_
                        have HO141 := n5_
                        have BK115 := n6_
                        have BK116 := n7_
                        have BK124 := n8_
                        have BK125 := n9_
                        have HB := n10_
                        clear n0_ n1_ n2_ n3_ n4_ n5_ n6_ n7_ n8_ n9_ n10_
                        have n0_ := Aside0.mk (Kd.V_drew HO_116000.out)
                        have n1_ := Aside0.mk (Kd.V_drew HO_116001.out)
                        have n2_ := Aside0.mk (Kd.V_drew HO_125000.out)
                        have n3_ := Aside0.mk (Kd.V_drew HO_125001.out)
                        have n4_ := Aside0.mk (Kd.R_drew HO137.out)
                        have n5_ := Aside0.mk (Kd.R_drew HO141.out)
                        have n6_ := Aside0.mk (blk_drew BK115.out)
                        have n7_ := Aside0.mk (blk_drew BK116.out)
                        have n8_ := Aside0.mk (blk_drew BK124.out)
                        have n9_ := Aside0.mk (blk_drew BK125.out)
                        have n10_ := Aside0.mk (below_drew1 HB.out)
                        clear HO_116000
                        clear HO_116001
                        clear HO_125000
                        clear HO_125001
                        clear HO137
                        clear HO141
                        clear BK115
                        clear BK116
                        clear BK124
                        clear BK125
                        clear HB
                        have HO_116000 := n0_
                        have HO_116001 := n1_
                        have HO_125000 := n2_
                        have HO_125001 := n3_
                        have HO137 := n4_
                        have HO141 := n5_
                        have BK115 := n6_
                        have BK116 := n7_
                        have BK124 := n8_
                        have BK125 := n9_
                        have HB := n10_
                        clear n0_ n1_ n2_ n3_ n4_ n5_ n6_ n7_ n8_ n9_ n10_
                        have p142 : 0 ≤ (x12_1 : Int) := of_decide_eq_true (by first | (with_reducible assumption) | assumption)
                        have q142 : x12_1 < (t117.length : Int) := of_decide_eq_true (by first | (with_reducible assumption) | assumption)
                        obtain ⟨ad142, e142, hx142_0⟩ := Kd.at_int (Kd.V_reads' HO_116000.out).2.2 x12_1 p142 q142
                        obtain rfl : ad134 = ad142 := (by injection e142)
                        replace p142 := eq_true p142
                        replace q142 := eq_true q142
                        refine start_ (n := 11) (S := fun w' => w'.cell? ⟨gb125, 0, none⟩ = some (.slice Ao53 y135.length co53) ∧ w'.cell? ⟨gb125, 1, none⟩ = some (.slice Ao58 y139.length co58) ∧ w'.cell? ⟨gb115, 0, none⟩ = some (.slice (some ad134) t117.length co11) ∧ w'.cell? ⟨gb115, 1, none⟩ = some (.slice Ao15 t120.length co15) ∧ w'.cell? (ad134.add (x12_1).toNat) = some (.int .i64 (rd t117 x12_1))) (ds := [8, 10]) #[false, false, false, false, false, false, false, false, false, false, false] (by kernel_rfl) rfl rfl ⟨(blk_cell BK125.out 0).trans rfl, (blk_cell BK125.out 1).trans rfl, (blk_cell BK115.out 0).trans rfl, (blk_cell BK115.out 1).trans rfl, hx142_0⟩ (fun hHeld => ?_); refine with_tabW hostlerref04_Set.tab12 hostlerref04_Set.bits12 (fun HT_ HW_ => ?_)
                        generalize w60.drew = w61 at HO_116000 HO_116001 HO_125000 HO_125001 HO137 HO141 BK115 BK116 BK124 BK125 HB hx142_0 hHeld ⊢
                        refine pure_ (i := 0) (N := some 51) (v := ?_) (a' := ?_) #[true, false, false, false, false, false, false, false, false, false, false] rfl rfl (any_of HT_.out (by kernel_rfl)) (fun _ _ _ h => h) (Or.inl ⟨by rfl, ?_⟩) ?_ ?_
                        rotate_left
                        · intro w'
                          go_simp
                          with_reducible rfl
                        rotate_left
                        · simp only [Act.put, List.setIfInBounds_toArray, List.set_cons_zero, List.set_cons_succ, i64_w, i32_w]
                          rfl
                        refine pure_ (i := 2) (N := some 53) (v := ?_) (a' := ?_) #[true, false, true, false, false, false, false, false, false, false, false] rfl rfl (any_of HT_.out (by kernel_rfl)) (fun _ _ _ h => h) (Or.inl ⟨by rfl, ?_⟩) ?_ ?_
                        rotate_left
                        · intro w'
                          go_simp
                          with_reducible rfl
                        rotate_left
                        · simp only [Act.put, List.setIfInBounds_toArray, List.set_cons_zero, List.set_cons_succ, i64_w, i32_w]
                          rfl
                        refine pure_ (i := 4) (N := some 55) (v := ?_) (a' := ?_) #[true, false, true, false, true, false, false, false, false, false, false] rfl rfl (any_of HT_.out (by kernel_rfl)) (fun _ _ _ h => h) (Or.inl ⟨by rfl, ?_⟩) ?_ ?_
                        rotate_left
                        · intro w'
                          go_simp
                          with_reducible rfl
                        rotate_left
                        · simp only [Act.put, List.setIfInBounds_toArray, List.set_cons_zero, List.set_cons_succ, i64_w, i32_w]
                          rfl
                        refine take_ (i := 1) (N := some 52) (v := ?_) (a' := ?_) #[true, true, true, false, true, false, false, false, false, false, false] rfl rfl (take_ofW HT_.out HW_.out (by kernel_rfl)) (fun _ _ _ h => h) (Or.inl ⟨by rfl, ?_⟩) hHeld ?_ ?_
                        rotate_left
                        · rintro w' ⟨s0, s1, s2, s3, s4⟩
                          go_simp
                          with_reducible rfl
                        rotate_left
                        · simp only [Act.put, List.setIfInBounds_toArray, List.set_cons_zero, List.set_cons_succ, i64_w, i32_w]
                          rfl
                        refine take_ (i := 3) (N := some 54) (v := ?_) (a' := ?_) #[true, true, true, true, true, false, false, false, false, false, false] rfl rfl (take_ofW HT_.out HW_.out (by kernel_rfl)) (fun _ _ _ h => h) (Or.inl ⟨by rfl, ?_⟩) hHeld ?_ ?_
                        rotate_left
                        · rintro w' ⟨s0, s1, s2, s3, s4⟩
                          go_simp
                          with_reducible rfl
                        rotate_left
                        · simp only [Act.put, List.setIfInBounds_toArray, List.set_cons_zero, List.set_cons_succ, i64_w, i32_w]
                          rfl
                        refine pure_ (i := 5) (N := some 56) (v := ?_) (a' := ?_) #[true, true, true, true, true, true, false, false, false, false, false] rfl rfl (any_of HT_.out (by kernel_rfl)) (fun _ _ _ h => h) (Or.inl ⟨by rfl, ?_⟩) ?_ ?_
                        rotate_left
                        · intro w'
                          go_simp
                          with_reducible rfl
                        rotate_left
                        · simp only [Act.put, List.setIfInBounds_toArray, List.set_cons_zero, List.set_cons_succ, i64_w, i32_w]
                          rfl
                        refine take_ (i := 6) (N := some 57) (v := ?_) (a' := ?_) #[true, true, true, true, true, true, true, false, false, false, false] rfl rfl (take_ofW HT_.out HW_.out (by kernel_rfl)) (fun _ _ _ h => h) (Or.inl ⟨by rfl, ?_⟩) hHeld ?_ ?_
                        rotate_left
                        · rintro w' ⟨s0, s1, s2, s3, s4⟩
                          go_simp
                          with_reducible rfl
                        rotate_left
                        · simp only [Act.put, List.setIfInBounds_toArray, List.set_cons_zero, List.set_cons_succ, i64_w, i32_w]
                          rfl
                        refine one_ (i := 7) (N := some 58) #[true, true, true, true, true, true, true, true, false, false, false] rfl rfl (one_of HT_.out (by kernel_rfl)) (by decide) (fun K hK => ?_)
                        refine value_ (w1 := ?_) (v := ?_) (by rfl) rfl ?_ ?_
                        rotate_left 2
                        · go_simp
                          constructor
                          · rfl
                          · rfl
                        refine hK.out _ _ ⟨(blk_cell (blk_alloc BK125.out _) 0).trans rfl, (blk_cell (blk_alloc BK125.out _) 1).trans rfl, (blk_cell (blk_alloc BK115.out _) 0).trans rfl, (blk_cell (blk_alloc BK115.out _) 1).trans rfl, (World.cell?_alloc_lt _ _ _ (World.block_lt_of_cell? _ _ (hHeld.2.2.2.2))).trans (hHeld.2.2.2.2)⟩ (fun hHeld => ?_)
                        clear hK K
                        refine norm_ (a' := ?_) ?_ ?_
                        rotate_left
                        · show Act.put _ (some 58) _ = _
                          simp only [Act.put, List.setIfInBounds_toArray, List.set_cons_zero, List.set_cons_succ, i64_w, i32_w]
                          rfl
                        refine last_ (i := 8) (N := some 59) #[true, true, true, true, true, true, true, true, true, false, false] rfl rfl (one_of HT_.out (by kernel_rfl)) (by decide) (fun K hK => ?_)
                        refine Kd.R_append_step (Kd.int .i64) (w0 := w) w.heap.size (by rfl) (.tmp 52) (.tmp 58) 27 3 (.int .i64 0) 8 rfl Try.underlying27 info3 rfl (by decide) (by omega) (.slice Ao53 y135.length co53) y135 (rd t117 x12_1) [.int .i64 (rd t117 x12_1)] (fun k_ => some k_ ≠ (.slice Ao58 y139.length co58 : Value).ownBlock) (fun _ => False) rfl rfl ?aP (fun _ hk => hk.elim) ?aF ?aO ?aB ?aS ?aL ?_
                        (case aP => exact rfl)
                        (case aB => exact (by repeat (first | (with_reducible first | exact HB.out | apply below_alloc | apply pw_below_drewN | apply below_drew1 | refine below_set ?_ GE115.out | refine below_set ?_ GE116.out | refine below_set ?_ GE124.out | refine below_set ?_ GE125.out) | exact HB.out)))
                        (case aF => exact (fun k_ hk => Kd.fresh' (Kd.R_lt (by (with_reducible repeat (first | apply Kd.R_alloc | apply Kd.R_drewN | apply Kd.R_drew)); exact HO141.out)) k_ hk))
                        (case aO => exact (by (with_reducible repeat (first | apply Kd.R_alloc | apply Kd.R_drewN | apply Kd.R_drew)); exact HO137.out))
                        (case aS => exact (below_size (by repeat (first | (with_reducible first | exact HB.out | apply below_alloc | apply pw_below_drewN | apply below_drew1 | refine below_set ?_ GE115.out | refine below_set ?_ GE116.out | refine below_set ?_ GE124.out | refine below_set ?_ GE125.out) | exact HB.out))))
                        (case aL => have := LMc42.out; omega)
                        intro v144 w62 ho hb hg hat
                        rw [← Ny143.out] at ho
                        have n0_ := Aside0.mk (Kd.V_afterv (ok := (fun k_ => some k_ ≠ (.slice Ao58 y139.length co58 : Value).ownBlock ∧ k_ ≠ gb115 ∧ k_ ≠ gb116 ∧ k_ ≠ gb124 ∧ k_ ≠ gb125)) (by (with_reducible repeat (first | apply Kd.V_alloc | apply Kd.V_drewN | apply Kd.V_drew)); exact Kd.V_mono HO_116000.out (fun _ hk => ⟨⟨hk.2.1, ⟨hk.2.2.1, ⟨hk.2.2.2.1, ⟨hk.2.2.2.2.1, hk.2.2.2.2.2⟩⟩⟩⟩, hk.1⟩)) hg hat)
                        have n1_ := Aside0.mk (Kd.V_afterv (ok := (fun k_ => some k_ ≠ (.slice Ao58 y139.length co58 : Value).ownBlock ∧ k_ ≠ gb115 ∧ k_ ≠ gb116 ∧ k_ ≠ gb124 ∧ k_ ≠ gb125)) (by (with_reducible repeat (first | apply Kd.V_alloc | apply Kd.V_drewN | apply Kd.V_drew)); exact Kd.V_mono HO_116001.out (fun _ hk => ⟨⟨hk.2.1, ⟨hk.2.2.1, ⟨hk.2.2.2.1, ⟨hk.2.2.2.2.1, hk.2.2.2.2.2⟩⟩⟩⟩, hk.1⟩)) hg hat)
                        have n2_ := Aside0.mk (Kd.V_afterv (ok := (fun k_ => some k_ ≠ (.slice Ao58 y139.length co58 : Value).ownBlock ∧ k_ ≠ gb115 ∧ k_ ≠ gb116 ∧ k_ ≠ gb124 ∧ k_ ≠ gb125)) (by (with_reducible repeat (first | apply Kd.V_alloc | apply Kd.V_drewN | apply Kd.V_drew)); exact Kd.V_mono HO_125000.out (fun _ hk => ⟨⟨hk.2.1, ⟨hk.2.2.1, ⟨hk.2.2.2.1, ⟨hk.2.2.2.2.1, hk.2.2.2.2.2⟩⟩⟩⟩, hk.1⟩)) hg hat)
                        have n3_ := Aside0.mk (Kd.V_afterv (ok := (fun k_ => some k_ ≠ (.slice Ao58 y139.length co58 : Value).ownBlock ∧ k_ ≠ gb115 ∧ k_ ≠ gb116 ∧ k_ ≠ gb124 ∧ k_ ≠ gb125)) (by (with_reducible repeat (first | apply Kd.V_alloc | apply Kd.V_drewN | apply Kd.V_drew)); exact Kd.V_mono HO_125001.out (fun _ hk => ⟨⟨hk.2.1, ⟨hk.2.2.1, ⟨hk.2.2.2.1, ⟨hk.2.2.2.2.1, hk.2.2.2.2.2⟩⟩⟩⟩, hk.1⟩)) hg hat)
                        have n4_ := Aside0.mk (blk_grown (g := gb115) (o := .cells #[.slice (some ad134) t117.length co11, .slice Ao15 t120.length co15] 46 (0, 0)) (by (with_reducible repeat (first | refine blk_drewN ?_ _ | refine blk_drew ?_ | refine blk_alloc ?_ _)); exact BK115.out) hg (Kd.R_ne HO137.out BK115.out (by decide)))
                        have n5_ := Aside0.mk (blk_grown (g := gb116) (o := .cells #[.slice none 0 0, .slice none 0 0] 46 (0, 0)) (by (with_reducible repeat (first | refine blk_drewN ?_ _ | refine blk_drew ?_ | refine blk_alloc ?_ _)); exact BK116.out) hg (Kd.R_ne HO137.out BK116.out (by decide)))
                        have n6_ := Aside0.mk (blk_grown (g := gb124) (o := .cells #[.slice (some ad134) t117.length co11, .slice Ao15 t120.length co15] 46 (0, 0)) (by (with_reducible repeat (first | refine blk_drewN ?_ _ | refine blk_drew ?_ | refine blk_alloc ?_ _)); exact BK124.out) hg (Kd.R_ne HO137.out BK124.out (by decide)))
                        have n7_ := Aside0.mk (blk_grown (g := gb125) (o := .cells #[.slice Ao53 y135.length co53, .slice Ao58 y139.length co58] 46 (0, 0)) (by (with_reducible repeat (first | refine blk_drewN ?_ _ | refine blk_drew ?_ | refine blk_alloc ?_ _)); exact BK125.out) hg (Kd.R_ne HO137.out BK125.out (by decide)))
                        have n8_ := Aside0.mk (Kd.R_after (ok := (fun _ => True)) (by (with_reducible repeat (first | apply Kd.R_alloc | apply Kd.R_drewN | apply Kd.R_drew)); exact Kd.R_mono HO141.out (fun _ hk => ⟨trivial, hk⟩)) hg hat)
                        have n9_ := Aside0.mk (hb)
                        have n10_ := Aside0.mk (ho)
                        clear HO_116000
                        clear HO_116001
                        clear HO_125000
                        clear HO_125001
                        clear BK115
                        clear BK116
                        clear BK124
                        clear BK125
                        clear HO141
                        clear HB
                        clear HO137
                        have HO_116000 := n0_
                        have HO_116001 := n1_
                        have HO_125000 := n2_
                        have HO_125001 := n3_
                        have BK115 := n4_
                        have BK116 := n5_
                        have BK124 := n6_
                        have BK125 := n7_
                        have HO141 := n8_
                        have HB := n9_
                        have HO145 := n10_
                        clear n0_ n1_ n2_ n3_ n4_ n5_ n6_ n7_ n8_ n9_ n10_
                        clear ho hb hg hat
                        obtain ⟨Ao63, co63, eo63⟩ := Kd.R_slice HO145.out
                        (first | subst eo63 | (injection eo63 with f1_ f2_ f3_; have f4_ := f1_.symm; have f5_ := f3_.symm; clear f1_ f2_ f3_; subst f4_; subst f5_))
                        refine hK.out _ _ ?_
                        clear hK K
                        refine norm_ (a' := ?_) ?_ ?_
                        rotate_left
                        · show Act.put _ (some 59) _ = _
                          simp only [Act.put, List.setIfInBounds_toArray, List.set_cons_zero, List.set_cons_succ, i64_w, i32_w]
                          rfl
                        refine pure_ (i := 9) (N := some 60) (v := ?_) (a' := ?_) #[true, true, true, true, true, true, true, true, true, true, false] rfl rfl (any_of HT_.out (by kernel_rfl)) (fun _ _ _ h => h) (Or.inl ⟨by rfl, ?_⟩) ?_ ?_
                        rotate_left
                        · intro w'
                          go_simp
                          with_reducible rfl
                        rotate_left
                        · simp only [Act.put, List.setIfInBounds_toArray, List.set_cons_zero, List.set_cons_succ, i64_w, i32_w]
                          rfl
                        refine last_ (i := 10) (N := none) #[true, true, true, true, true, true, true, true, true, true, true] rfl rfl (one_of HT_.out (by kernel_rfl)) (by decide) (fun K hK => ?_)
                        have hs64 : w62.cell? ⟨gb125, 0, none⟩ = some (.slice Ao53 y135.length co53) := (blk_cell BK125.out 0).trans rfl
                        have hfs64 := blk_frozen BK125.out 0
                        have hns64_0 := NB115_125.out
                        have hns64_1 := NB116_125.out
                        have hns64_2 := NB124_125.out
                        have hms64_0 := NB125_115.out
                        have hms64_1 := NB125_116.out
                        have hms64_2 := NB125_124.out
                        refine skip_ (w1 := ?_) (by rfl) rfl ?_ ?_
                        rotate_left
                        · go_simp
                          rfl
                        refine hK.out _ _ ?_
                        clear hK K
                        refine done_ (done_of HT_.out (by kernel_rfl)) ?_
                        try go_wp2
                        have n0_ : Aside0 (Kd.V (Kd.int .i64) 3 (w62.setCell ⟨gb125, 0, none⟩ (.slice Ao63 y143.length co63)) w.heap.size (fun k_ => some k_ ≠ (.slice Ao58 y139.length co58 : Value).ownBlock ∧ some k_ ≠ (.slice Ao63 y143.length co63 : Value).ownBlock ∧ k_ ≠ gb115 ∧ k_ ≠ gb116 ∧ k_ ≠ gb124 ∧ k_ ≠ gb125) (.slice (some ad134) t117.length co11) t117) := ⟨by (with_reducible repeat (first | apply Kd.V_alloc | apply Kd.V_drewN | apply Kd.V_drew)); exact Kd.V_mono (Kd.V_far (p := ⟨gb125, 0, none⟩) (Kd.V_mono HO_116000.out (fun k_ hk => (⟨hk, hk.1.2.2.2.2⟩ : _ ∧ k_ ≠ gb125))) (fun _ hk => hk.2) (.slice Ao63 y143.length co63)) (fun _ hk => ⟨hk.1.1.1, ⟨hk.1.2, ⟨hk.1.1.2.1, ⟨hk.1.1.2.2.1, ⟨hk.1.1.2.2.2.1, hk.1.1.2.2.2.2⟩⟩⟩⟩⟩)⟩
                        have n1_ : Aside0 (Kd.V (Kd.int .i64) 3 (w62.setCell ⟨gb125, 0, none⟩ (.slice Ao63 y143.length co63)) w.heap.size (fun k_ => some k_ ≠ (.slice Ao58 y139.length co58 : Value).ownBlock ∧ some k_ ≠ (.slice Ao63 y143.length co63 : Value).ownBlock ∧ k_ ≠ gb115 ∧ k_ ≠ gb116 ∧ k_ ≠ gb124 ∧ k_ ≠ gb125) (.slice Ao15 t120.length co15) t120) := ⟨by (with_reducible repeat (first | apply Kd.V_alloc | apply Kd.V_drewN | apply Kd.V_drew)); exact Kd.V_mono (Kd.V_far (p := ⟨gb125, 0, none⟩) (Kd.V_mono HO_116001.out (fun k_ hk => (⟨hk, hk.1.2.2.2.2⟩ : _ ∧ k_ ≠ gb125))) (fun _ hk => hk.2) (.slice Ao63 y143.length co63)) (fun _ hk => ⟨hk.1.1.1, ⟨hk.1.2, ⟨hk.1.1.2.1, ⟨hk.1.1.2.2.1, ⟨hk.1.1.2.2.2.1, hk.1.1.2.2.2.2⟩⟩⟩⟩⟩)⟩
                        have n2_ : Aside0 (Kd.V (Kd.int .i64) 3 (w62.setCell ⟨gb125, 0, none⟩ (.slice Ao63 y143.length co63)) w.heap.size (fun k_ => some k_ ≠ (.slice Ao58 y139.length co58 : Value).ownBlock ∧ some k_ ≠ (.slice Ao63 y143.length co63 : Value).ownBlock ∧ k_ ≠ gb115 ∧ k_ ≠ gb116 ∧ k_ ≠ gb124 ∧ k_ ≠ gb125) (.slice (some ad134) t117.length co11) t117) := ⟨by (with_reducible repeat (first | apply Kd.V_alloc | apply Kd.V_drewN | apply Kd.V_drew)); exact Kd.V_mono (Kd.V_far (p := ⟨gb125, 0, none⟩) (Kd.V_mono HO_125000.out (fun k_ hk => (⟨hk, hk.1.2.2.2.2⟩ : _ ∧ k_ ≠ gb125))) (fun _ hk => hk.2) (.slice Ao63 y143.length co63)) (fun _ hk => ⟨hk.1.1.1, ⟨hk.1.2, ⟨hk.1.1.2.1, ⟨hk.1.1.2.2.1, ⟨hk.1.1.2.2.2.1, hk.1.1.2.2.2.2⟩⟩⟩⟩⟩)⟩
                        have n3_ : Aside0 (Kd.V (Kd.int .i64) 3 (w62.setCell ⟨gb125, 0, none⟩ (.slice Ao63 y143.length co63)) w.heap.size (fun k_ => some k_ ≠ (.slice Ao58 y139.length co58 : Value).ownBlock ∧ some k_ ≠ (.slice Ao63 y143.length co63 : Value).ownBlock ∧ k_ ≠ gb115 ∧ k_ ≠ gb116 ∧ k_ ≠ gb124 ∧ k_ ≠ gb125) (.slice Ao15 t120.length co15) t120) := ⟨by (with_reducible repeat (first | apply Kd.V_alloc | apply Kd.V_drewN | apply Kd.V_drew)); exact Kd.V_mono (Kd.V_far (p := ⟨gb125, 0, none⟩) (Kd.V_mono HO_125001.out (fun k_ hk => (⟨hk, hk.1.2.2.2.2⟩ : _ ∧ k_ ≠ gb125))) (fun _ hk => hk.2) (.slice Ao63 y143.length co63)) (fun _ hk => ⟨hk.1.1.1, ⟨hk.1.2, ⟨hk.1.1.2.1, ⟨hk.1.1.2.2.1, ⟨hk.1.1.2.2.2.1, hk.1.1.2.2.2.2⟩⟩⟩⟩⟩)⟩
                        have n4_ : Aside0 (Kd.R (Kd.int .i64) 3 (w62.setCell ⟨gb125, 0, none⟩ (.slice Ao63 y143.length co63)) w.heap.size (fun k_ => some k_ ≠ (.slice Ao63 y143.length co63 : Value).ownBlock) (.slice Ao58 y139.length co58) y139) := ⟨by (with_reducible repeat (first | apply Kd.R_alloc | apply Kd.R_drewN | apply Kd.R_drew)); exact Kd.R_mono (Kd.R_far (p := ⟨gb125, 0, none⟩) (Kd.R_types HO141.out BK125.out (by decide)) (fun _ hk => hk.2) (.slice Ao63 y143.length co63)) (fun _ hk => hk.1.2)⟩
                        have n5_ : Aside0 (Kd.R (Kd.int .i64) 3 (w62.setCell ⟨gb125, 0, none⟩ (.slice Ao63 y143.length co63)) w.heap.size (fun k_ => some k_ ≠ (.slice Ao58 y139.length co58 : Value).ownBlock) (.slice Ao63 y143.length co63) y143) := ⟨by (with_reducible repeat (first | apply Kd.R_alloc | apply Kd.R_drewN | apply Kd.R_drew)); exact Kd.R_mono (Kd.R_far (p := ⟨gb125, 0, none⟩) (Kd.R_types HO145.out BK125.out (by decide)) (fun _ hk => hk.2) (.slice Ao63 y143.length co63)) (fun _ hk => hk.1)⟩
                        have n6_ : Aside0 ((w62.setCell ⟨gb125, 0, none⟩ (.slice Ao63 y143.length co63)).heap[gb115]? = some (.cells #[.slice (some ad134) t117.length co11, .slice Ao15 t120.length co15] 46 (0, 0))) := ⟨by (with_reducible repeat (first | refine blk_drewN ?_ _ | refine blk_drew ?_ | refine blk_alloc ?_ _)); refine blk_far ?_ NB115_125.out _; (with_reducible repeat (first | refine blk_drewN ?_ _ | refine blk_drew ?_ | refine blk_alloc ?_ _)); exact BK115.out⟩
                        have n7_ : Aside0 ((w62.setCell ⟨gb125, 0, none⟩ (.slice Ao63 y143.length co63)).heap[gb116]? = some (.cells #[.slice none 0 0, .slice none 0 0] 46 (0, 0))) := ⟨by (with_reducible repeat (first | refine blk_drewN ?_ _ | refine blk_drew ?_ | refine blk_alloc ?_ _)); refine blk_far ?_ NB116_125.out _; (with_reducible repeat (first | refine blk_drewN ?_ _ | refine blk_drew ?_ | refine blk_alloc ?_ _)); exact BK116.out⟩
                        have n8_ : Aside0 ((w62.setCell ⟨gb125, 0, none⟩ (.slice Ao63 y143.length co63)).heap[gb124]? = some (.cells #[.slice (some ad134) t117.length co11, .slice Ao15 t120.length co15] 46 (0, 0))) := ⟨by (with_reducible repeat (first | refine blk_drewN ?_ _ | refine blk_drew ?_ | refine blk_alloc ?_ _)); refine blk_far ?_ NB124_125.out _; (with_reducible repeat (first | refine blk_drewN ?_ _ | refine blk_drew ?_ | refine blk_alloc ?_ _)); exact BK124.out⟩
                        have n9_ : Aside0 ((w62.setCell ⟨gb125, 0, none⟩ (.slice Ao63 y143.length co63)).heap[gb125]? = some (.cells #[.slice Ao63 y143.length co63, .slice Ao58 y139.length co58] 46 (0, 0))) := ⟨by (with_reducible repeat (first | refine blk_drewN ?_ _ | refine blk_drew ?_ | refine blk_alloc ?_ _)); refine blk_put (cs := #[.slice Ao53 y135.length co53, .slice Ao58 y139.length co58]) ?_ 0 _ rfl; (with_reducible repeat (first | refine blk_drewN ?_ _ | refine blk_drew ?_ | refine blk_alloc ?_ _)); exact BK125.out⟩
                        have n10_ : Aside0 (Below w.heap.size w (w62.setCell ⟨gb125, 0, none⟩ (.slice Ao63 y143.length co63))) := ⟨by repeat (first | (with_reducible first | exact HB.out | apply below_alloc | apply pw_below_drewN | apply below_drew1 | refine below_set ?_ GE115.out | refine below_set ?_ GE116.out | refine below_set ?_ GE124.out | refine below_set ?_ GE125.out) | exact HB.out)⟩
                        (try clear HO_116000)
                        (try clear HO_116001)
                        (try clear HO_125000)
                        (try clear HO_125001)
                        (try clear HO141)
                        (try clear HO145)
                        (try clear BK115)
                        (try clear BK116)
                        (try clear BK124)
                        (try clear BK125)
                        (try clear HB)
                        generalize (w62.setCell ⟨gb125, 0, none⟩ (.slice Ao63 y143.length co63)) = w65 at n0_ n1_ n2_ n3_ n4_ n5_ n6_ n7_ n8_ n9_ n10_ ⊢
                        have HO_116000 := n0_
                        have HO_116001 := n1_
                        have HO_125000 := n2_
                        have HO_125001 := n3_
                        have HO141 := n4_
                        have HO145 := n5_
                        have BK115 := n6_
                        have BK116 := n7_
                        have BK124 := n8_
                        have BK125 := n9_
                        have HB := n10_
                        clear n0_ n1_ n2_ n3_ n4_ n5_ n6_ n7_ n8_ n9_ n10_
                        have n0_ := Aside0.mk (Kd.V_drew HO_116000.out)
                        have n1_ := Aside0.mk (Kd.V_drew HO_116001.out)
                        have n2_ := Aside0.mk (Kd.V_drew HO_125000.out)
                        have n3_ := Aside0.mk (Kd.V_drew HO_125001.out)
                        have n4_ := Aside0.mk (Kd.R_drew HO141.out)
                        have n5_ := Aside0.mk (Kd.R_drew HO145.out)
                        have n6_ := Aside0.mk (blk_drew BK115.out)
                        have n7_ := Aside0.mk (blk_drew BK116.out)
                        have n8_ := Aside0.mk (blk_drew BK124.out)
                        have n9_ := Aside0.mk (blk_drew BK125.out)
                        have n10_ := Aside0.mk (below_drew1 HB.out)
                        clear HO_116000
                        clear HO_116001
                        clear HO_125000
                        clear HO_125001
                        clear HO141
                        clear HO145
                        clear BK115
                        clear BK116
                        clear BK124
                        clear BK125
                        clear HB
                        have HO_116000 := n0_
                        have HO_116001 := n1_
                        have HO_125000 := n2_
                        have HO_125001 := n3_
                        have HO141 := n4_
                        have HO145 := n5_
                        have BK115 := n6_
                        have BK116 := n7_
                        have BK124 := n8_
                        have BK125 := n9_
                        have HB := n10_
                        clear n0_ n1_ n2_ n3_ n4_ n5_ n6_ n7_ n8_ n9_ n10_
                        have p146 : 0 ≤ (x12_1 : Int) := of_decide_eq_true (by first | (with_reducible assumption) | assumption)
                        have q146 : x12_1 < (t120.length : Int) := of_decide_eq_true (by first | (with_reducible assumption) | assumption)
                        obtain ⟨ad146, e146, hx146_0⟩ := Kd.at_int (Kd.V_reads' HO_116001.out).2.2 x12_1 p146 q146
                        cases e146
                        replace p146 := eq_true p146
                        replace q146 := eq_true q146
                        refine start_ (n := 11) (S := fun w' => w'.cell? ⟨gb125, 0, none⟩ = some (.slice Ao63 y143.length co63) ∧ w'.cell? ⟨gb125, 1, none⟩ = some (.slice Ao58 y139.length co58) ∧ w'.cell? ⟨gb115, 0, none⟩ = some (.slice (some ad134) t117.length co11) ∧ w'.cell? ⟨gb115, 1, none⟩ = some (.slice (some ad146) t120.length co15) ∧ w'.cell? (ad146.add (x12_1).toNat) = some (.int .i64 (rd t120 x12_1))) (ds := [8, 10]) #[false, false, false, false, false, false, false, false, false, false, false] (by kernel_rfl) rfl rfl ⟨(blk_cell BK125.out 0).trans rfl, (blk_cell BK125.out 1).trans rfl, (blk_cell BK115.out 0).trans rfl, (blk_cell BK115.out 1).trans rfl, hx146_0⟩ (fun hHeld => ?_); refine with_tabW hostlerref04_Set.tab13 hostlerref04_Set.bits13 (fun HT_ HW_ => ?_)
                        generalize w65.drew = w66 at HO_116000 HO_116001 HO_125000 HO_125001 HO141 HO145 BK115 BK116 BK124 BK125 HB hx146_0 hHeld ⊢
                        refine pure_ (i := 0) (N := some 61) (v := ?_) (a' := ?_) #[true, false, false, false, false, false, false, false, false, false, false] rfl rfl (any_of HT_.out (by kernel_rfl)) (fun _ _ _ h => h) (Or.inl ⟨by rfl, ?_⟩) ?_ ?_
                        rotate_left
                        · intro w'
                          go_simp
                          with_reducible rfl
                        rotate_left
                        · simp only [Act.put, List.setIfInBounds_toArray, List.set_cons_zero, List.set_cons_succ, i64_w, i32_w]
                          rfl
                        refine pure_ (i := 2) (N := some 63) (v := ?_) (a' := ?_) #[true, false, true, false, false, false, false, false, false, false, false] rfl rfl (any_of HT_.out (by kernel_rfl)) (fun _ _ _ h => h) (Or.inl ⟨by rfl, ?_⟩) ?_ ?_
                        rotate_left
                        · intro w'
                          go_simp
                          with_reducible rfl
                        rotate_left
                        · simp only [Act.put, List.setIfInBounds_toArray, List.set_cons_zero, List.set_cons_succ, i64_w, i32_w]
                          rfl
                        refine pure_ (i := 4) (N := some 65) (v := ?_) (a' := ?_) #[true, false, true, false, true, false, false, false, false, false, false] rfl rfl (any_of HT_.out (by kernel_rfl)) (fun _ _ _ h => h) (Or.inl ⟨by rfl, ?_⟩) ?_ ?_
                        rotate_left
                        · intro w'
                          go_simp
                          with_reducible rfl
                        rotate_left
                        · simp only [Act.put, List.setIfInBounds_toArray, List.set_cons_zero, List.set_cons_succ, i64_w, i32_w]
                          rfl
                        refine take_ (i := 1) (N := some 62) (v := ?_) (a' := ?_) #[true, true, true, false, true, false, false, false, false, false, false] rfl rfl (take_ofW HT_.out HW_.out (by kernel_rfl)) (fun _ _ _ h => h) (Or.inl ⟨by rfl, ?_⟩) hHeld ?_ ?_
                        rotate_left
                        · rintro w' ⟨s0, s1, s2, s3, s4⟩
                          go_simp
                          with_reducible rfl
                        rotate_left
                        · simp only [Act.put, List.setIfInBounds_toArray, List.set_cons_zero, List.set_cons_succ, i64_w, i32_w]
                          rfl
                        refine take_ (i := 3) (N := some 64) (v := ?_) (a' := ?_) #[true, true, true, true, true, false, false, false, false, false, false] rfl rfl (take_ofW HT_.out HW_.out (by kernel_rfl)) (fun _ _ _ h => h) (Or.inl ⟨by rfl, ?_⟩) hHeld ?_ ?_
                        rotate_left
                        · rintro w' ⟨s0, s1, s2, s3, s4⟩
                          go_simp
                          with_reducible rfl
                        rotate_left
                        · simp only [Act.put, List.setIfInBounds_toArray, List.set_cons_zero, List.set_cons_succ, i64_w, i32_w]
                          rfl
                        refine pure_ (i := 5) (N := some 66) (v := ?_) (a' := ?_) #[true, true, true, true, true, true, false, false, false, false, false] rfl rfl (any_of HT_.out (by kernel_rfl)) (fun _ _ _ h => h) (Or.inl ⟨by rfl, ?_⟩) ?_ ?_
                        rotate_left
                        · intro w'
                          go_simp
                          with_reducible rfl
                        rotate_left
                        · simp only [Act.put, List.setIfInBounds_toArray, List.set_cons_zero, List.set_cons_succ, i64_w, i32_w]
                          rfl
                        refine take_ (i := 6) (N := some 67) (v := ?_) (a' := ?_) #[true, true, true, true, true, true, true, false, false, false, false] rfl rfl (take_ofW HT_.out HW_.out (by kernel_rfl)) (fun _ _ _ h => h) (Or.inl ⟨by rfl, ?_⟩) hHeld ?_ ?_
                        rotate_left
                        · rintro w' ⟨s0, s1, s2, s3, s4⟩
                          go_simp
                          with_reducible rfl
                        rotate_left
                        · simp only [Act.put, List.setIfInBounds_toArray, List.set_cons_zero, List.set_cons_succ, i64_w, i32_w]
                          rfl
                        refine one_ (i := 7) (N := some 68) #[true, true, true, true, true, true, true, true, false, false, false] rfl rfl (one_of HT_.out (by kernel_rfl)) (by decide) (fun K hK => ?_)
                        refine value_ (w1 := ?_) (v := ?_) (by rfl) rfl ?_ ?_
                        rotate_left 2
                        · go_simp
                          constructor
                          · rfl
                          · rfl
                        refine hK.out _ _ ⟨(blk_cell (blk_alloc BK125.out _) 0).trans rfl, (blk_cell (blk_alloc BK125.out _) 1).trans rfl, (blk_cell (blk_alloc BK115.out _) 0).trans rfl, (blk_cell (blk_alloc BK115.out _) 1).trans rfl, (World.cell?_alloc_lt _ _ _ (World.block_lt_of_cell? _ _ (hHeld.2.2.2.2))).trans (hHeld.2.2.2.2)⟩ (fun hHeld => ?_)
                        clear hK K
                        refine norm_ (a' := ?_) ?_ ?_
                        rotate_left
                        · show Act.put _ (some 68) _ = _
                          simp only [Act.put, List.setIfInBounds_toArray, List.set_cons_zero, List.set_cons_succ, i64_w, i32_w]
                          rfl
                        refine last_ (i := 8) (N := some 69) #[true, true, true, true, true, true, true, true, true, false, false] rfl rfl (one_of HT_.out (by kernel_rfl)) (by decide) (fun K hK => ?_)
                        refine Kd.R_append_step (Kd.int .i64) (w0 := w) w.heap.size (by rfl) (.tmp 62) (.tmp 68) 27 3 (.int .i64 0) 8 rfl Try.underlying27 info3 rfl (by decide) (by omega) (.slice Ao58 y139.length co58) y139 (rd t120 x12_1) [.int .i64 (rd t120 x12_1)] (fun k_ => some k_ ≠ (.slice Ao63 y143.length co63 : Value).ownBlock) (fun _ => False) rfl rfl ?aP (fun _ hk => hk.elim) ?aF ?aO ?aB ?aS ?aL ?_
                        (case aP => exact rfl)
                        (case aB => exact (by repeat (first | (with_reducible first | exact HB.out | apply below_alloc | apply pw_below_drewN | apply below_drew1 | refine below_set ?_ GE115.out | refine below_set ?_ GE116.out | refine below_set ?_ GE124.out | refine below_set ?_ GE125.out) | exact HB.out)))
                        (case aF => exact (fun k_ hk => Kd.fresh' (Kd.R_lt (by (with_reducible repeat (first | apply Kd.R_alloc | apply Kd.R_drewN | apply Kd.R_drew)); exact HO145.out)) k_ hk))
                        (case aO => exact (by (with_reducible repeat (first | apply Kd.R_alloc | apply Kd.R_drewN | apply Kd.R_drew)); exact HO141.out))
                        (case aS => exact (below_size (by repeat (first | (with_reducible first | exact HB.out | apply below_alloc | apply pw_below_drewN | apply below_drew1 | refine below_set ?_ GE115.out | refine below_set ?_ GE116.out | refine below_set ?_ GE124.out | refine below_set ?_ GE125.out) | exact HB.out))))
                        (case aL => have := LMc44.out; omega)
                        intro v148 w67 ho hb hg hat
                        rw [← Ny147.out] at ho
                        have n0_ := Aside0.mk (Kd.V_afterv (ok := (fun k_ => some k_ ≠ (.slice Ao63 y143.length co63 : Value).ownBlock ∧ k_ ≠ gb115 ∧ k_ ≠ gb116 ∧ k_ ≠ gb124 ∧ k_ ≠ gb125)) (by (with_reducible repeat (first | apply Kd.V_alloc | apply Kd.V_drewN | apply Kd.V_drew)); exact Kd.V_mono HO_116000.out (fun _ hk => ⟨⟨hk.2.1, ⟨hk.2.2.1, ⟨hk.2.2.2.1, ⟨hk.2.2.2.2.1, hk.2.2.2.2.2⟩⟩⟩⟩, hk.1⟩)) hg hat)
                        have n1_ := Aside0.mk (Kd.V_afterv (ok := (fun k_ => some k_ ≠ (.slice Ao63 y143.length co63 : Value).ownBlock ∧ k_ ≠ gb115 ∧ k_ ≠ gb116 ∧ k_ ≠ gb124 ∧ k_ ≠ gb125)) (by (with_reducible repeat (first | apply Kd.V_alloc | apply Kd.V_drewN | apply Kd.V_drew)); exact Kd.V_mono HO_116001.out (fun _ hk => ⟨⟨hk.2.1, ⟨hk.2.2.1, ⟨hk.2.2.2.1, ⟨hk.2.2.2.2.1, hk.2.2.2.2.2⟩⟩⟩⟩, hk.1⟩)) hg hat)
                        have n2_ := Aside0.mk (Kd.V_afterv (ok := (fun k_ => some k_ ≠ (.slice Ao63 y143.length co63 : Value).ownBlock ∧ k_ ≠ gb115 ∧ k_ ≠ gb116 ∧ k_ ≠ gb124 ∧ k_ ≠ gb125)) (by (with_reducible repeat (first | apply Kd.V_alloc | apply Kd.V_drewN | apply Kd.V_drew)); exact Kd.V_mono HO_125000.out (fun _ hk => ⟨⟨hk.2.1, ⟨hk.2.2.1, ⟨hk.2.2.2.1, ⟨hk.2.2.2.2.1, hk.2.2.2.2.2⟩⟩⟩⟩, hk.1⟩)) hg hat)
                        have n3_ := Aside0.mk (Kd.V_afterv (ok := (fun k_ => some k_ ≠ (.slice Ao63 y143.length co63 : Value).ownBlock ∧ k_ ≠ gb115 ∧ k_ ≠ gb116 ∧ k_ ≠ gb124 ∧ k_ ≠ gb125)) (by (with_reducible repeat (first | apply Kd.V_alloc | apply Kd.V_drewN | apply Kd.V_drew)); exact Kd.V_mono HO_125001.out (fun _ hk => ⟨⟨hk.2.1, ⟨hk.2.2.1, ⟨hk.2.2.2.1, ⟨hk.2.2.2.2.1, hk.2.2.2.2.2⟩⟩⟩⟩, hk.1⟩)) hg hat)
                        have n4_ := Aside0.mk (blk_grown (g := gb115) (o := .cells #[.slice (some ad134) t117.length co11, .slice (some ad146) t120.length co15] 46 (0, 0)) (by (with_reducible repeat (first | refine blk_drewN ?_ _ | refine blk_drew ?_ | refine blk_alloc ?_ _)); exact BK115.out) hg (Kd.R_ne HO141.out BK115.out (by decide)))
                        have n5_ := Aside0.mk (blk_grown (g := gb116) (o := .cells #[.slice none 0 0, .slice none 0 0] 46 (0, 0)) (by (with_reducible repeat (first | refine blk_drewN ?_ _ | refine blk_drew ?_ | refine blk_alloc ?_ _)); exact BK116.out) hg (Kd.R_ne HO141.out BK116.out (by decide)))
                        have n6_ := Aside0.mk (blk_grown (g := gb124) (o := .cells #[.slice (some ad134) t117.length co11, .slice (some ad146) t120.length co15] 46 (0, 0)) (by (with_reducible repeat (first | refine blk_drewN ?_ _ | refine blk_drew ?_ | refine blk_alloc ?_ _)); exact BK124.out) hg (Kd.R_ne HO141.out BK124.out (by decide)))
                        have n7_ := Aside0.mk (blk_grown (g := gb125) (o := .cells #[.slice Ao63 y143.length co63, .slice Ao58 y139.length co58] 46 (0, 0)) (by (with_reducible repeat (first | refine blk_drewN ?_ _ | refine blk_drew ?_ | refine blk_alloc ?_ _)); exact BK125.out) hg (Kd.R_ne HO141.out BK125.out (by decide)))
                        have n8_ := Aside0.mk (Kd.R_after (ok := (fun _ => True)) (by (with_reducible repeat (first | apply Kd.R_alloc | apply Kd.R_drewN | apply Kd.R_drew)); exact Kd.R_mono HO145.out (fun _ hk => ⟨trivial, hk⟩)) hg hat)
                        have n9_ := Aside0.mk (hb)
                        have n10_ := Aside0.mk (ho)
                        clear HO_116000
                        clear HO_116001
                        clear HO_125000
                        clear HO_125001
                        clear BK115
                        clear BK116
                        clear BK124
                        clear BK125
                        clear HO145
                        clear HB
                        clear HO141
                        have HO_116000 := n0_
                        have HO_116001 := n1_
                        have HO_125000 := n2_
                        have HO_125001 := n3_
                        have BK115 := n4_
                        have BK116 := n5_
                        have BK124 := n6_
                        have BK125 := n7_
                        have HO145 := n8_
                        have HB := n9_
                        have HO149 := n10_
                        clear n0_ n1_ n2_ n3_ n4_ n5_ n6_ n7_ n8_ n9_ n10_
                        clear ho hb hg hat
                        obtain ⟨Ao68, co68, eo68⟩ := Kd.R_slice HO149.out
                        (first | subst eo68 | (injection eo68 with f1_ f2_ f3_; have f4_ := f1_.symm; have f5_ := f3_.symm; clear f1_ f2_ f3_; subst f4_; subst f5_))
                        refine hK.out _ _ ?_
                        clear hK K
                        refine norm_ (a' := ?_) ?_ ?_
                        rotate_left
                        · show Act.put _ (some 69) _ = _
                          simp only [Act.put, List.setIfInBounds_toArray, List.set_cons_zero, List.set_cons_succ, i64_w, i32_w]
                          rfl
                        refine pure_ (i := 9) (N := some 70) (v := ?_) (a' := ?_) #[true, true, true, true, true, true, true, true, true, true, false] rfl rfl (any_of HT_.out (by kernel_rfl)) (fun _ _ _ h => h) (Or.inl ⟨by rfl, ?_⟩) ?_ ?_
                        rotate_left
                        · intro w'
                          go_simp
                          with_reducible rfl
                        rotate_left
                        · simp only [Act.put, List.setIfInBounds_toArray, List.set_cons_zero, List.set_cons_succ, i64_w, i32_w]
                          rfl
                        refine last_ (i := 10) (N := none) #[true, true, true, true, true, true, true, true, true, true, true] rfl rfl (one_of HT_.out (by kernel_rfl)) (by decide) (fun K hK => ?_)
                        have hs69 : w67.cell? ⟨gb125, 1, none⟩ = some (.slice Ao58 y139.length co58) := (blk_cell BK125.out 1).trans rfl
                        have hfs69 := blk_frozen BK125.out 1
                        have hns69_0 := NB115_125.out
                        have hns69_1 := NB116_125.out
                        have hns69_2 := NB124_125.out
                        have hms69_0 := NB125_115.out
                        have hms69_1 := NB125_116.out
                        have hms69_2 := NB125_124.out
                        refine skip_ (w1 := ?_) (by rfl) rfl ?_ ?_
                        rotate_left
                        · go_simp
                          rfl
                        refine hK.out _ _ ?_
                        clear hK K
                        refine done_ (done_of HT_.out (by kernel_rfl)) ?_
                        try go_wp2
                        go_roundg k1
                        case measure => have := HK1.out; omega
                        case rel => exact ⟨(true), (wrap64 (x12_1 + 1)), (y143), (y147), (.slice Ao63 y143.length co63), (.slice Ao68 y147.length co68), (by first | rfl | (simp; done) | (simp [*]; done)), (by first | rfl | (simp; done) | (simp [*]; done)), H', ⟨by have := HK1.out; omega⟩, ⟨by (with_reducible repeat (first | apply Kd.V_alloc | apply Kd.V_drewN | apply Kd.V_drew)); exact Kd.V_mono (Kd.V_far (p := ⟨gb125, 1, none⟩) (Kd.V_mono HO_116000.out (fun k_ hk => (⟨hk, hk.1.2.2.2.2⟩ : _ ∧ k_ ≠ gb125))) (fun _ hk => hk.2) (.slice Ao68 y147.length co68)) (fun _ hk => ⟨hk.1.1.1, ⟨hk.1.2, ⟨hk.1.1.2.1, ⟨hk.1.1.2.2.1, ⟨hk.1.1.2.2.2.1, hk.1.1.2.2.2.2⟩⟩⟩⟩⟩)⟩, ⟨by (with_reducible repeat (first | apply Kd.V_alloc | apply Kd.V_drewN | apply Kd.V_drew)); exact Kd.V_mono (Kd.V_far (p := ⟨gb125, 1, none⟩) (Kd.V_mono HO_116001.out (fun k_ hk => (⟨hk, hk.1.2.2.2.2⟩ : _ ∧ k_ ≠ gb125))) (fun _ hk => hk.2) (.slice Ao68 y147.length co68)) (fun _ hk => ⟨hk.1.1.1, ⟨hk.1.2, ⟨hk.1.1.2.1, ⟨hk.1.1.2.2.1, ⟨hk.1.1.2.2.2.1, hk.1.1.2.2.2.2⟩⟩⟩⟩⟩)⟩, ⟨by (with_reducible repeat (first | apply Kd.V_alloc | apply Kd.V_drewN | apply Kd.V_drew)); exact Kd.V_mono (Kd.V_far (p := ⟨gb125, 1, none⟩) (Kd.V_mono HO_125000.out (fun k_ hk => (⟨hk, hk.1.2.2.2.2⟩ : _ ∧ k_ ≠ gb125))) (fun _ hk => hk.2) (.slice Ao68 y147.length co68)) (fun _ hk => ⟨hk.1.1.1, ⟨hk.1.2, ⟨hk.1.1.2.1, ⟨hk.1.1.2.2.1, ⟨hk.1.1.2.2.2.1, hk.1.1.2.2.2.2⟩⟩⟩⟩⟩)⟩, ⟨by (with_reducible repeat (first | apply Kd.V_alloc | apply Kd.V_drewN | apply Kd.V_drew)); exact Kd.V_mono (Kd.V_far (p := ⟨gb125, 1, none⟩) (Kd.V_mono HO_125001.out (fun k_ hk => (⟨hk, hk.1.2.2.2.2⟩ : _ ∧ k_ ≠ gb125))) (fun _ hk => hk.2) (.slice Ao68 y147.length co68)) (fun _ hk => ⟨hk.1.1.1, ⟨hk.1.2, ⟨hk.1.1.2.1, ⟨hk.1.1.2.2.1, ⟨hk.1.1.2.2.2.1, hk.1.1.2.2.2.2⟩⟩⟩⟩⟩)⟩, ⟨by (with_reducible repeat (first | apply Kd.R_alloc | apply Kd.R_drewN | apply Kd.R_drew)); exact Kd.R_mono (Kd.R_far (p := ⟨gb125, 1, none⟩) (Kd.R_types HO145.out BK125.out (by decide)) (fun _ hk => hk.2) (.slice Ao68 y147.length co68)) (fun _ hk => hk.1.2)⟩, ⟨by (with_reducible repeat (first | apply Kd.R_alloc | apply Kd.R_drewN | apply Kd.R_drew)); exact Kd.R_mono (Kd.R_far (p := ⟨gb125, 1, none⟩) (Kd.R_types HO149.out BK125.out (by decide)) (fun _ hk => hk.2) (.slice Ao68 y147.length co68)) (fun _ hk => hk.1)⟩, ⟨by (with_reducible repeat (first | refine blk_drewN ?_ _ | refine blk_drew ?_ | refine blk_alloc ?_ _)); refine blk_far ?_ NB115_125.out _; (with_reducible repeat (first | refine blk_drewN ?_ _ | refine blk_drew ?_ | refine blk_alloc ?_ _)); exact BK115.out⟩, ⟨by (with_reducible repeat (first | refine blk_drewN ?_ _ | refine blk_drew ?_ | refine blk_alloc ?_ _)); refine blk_far ?_ NB116_125.out _; (with_reducible repeat (first | refine blk_drewN ?_ _ | refine blk_drew ?_ | refine blk_alloc ?_ _)); exact BK116.out⟩, ⟨by (with_reducible repeat (first | refine blk_drewN ?_ _ | refine blk_drew ?_ | refine blk_alloc ?_ _)); refine blk_far ?_ NB124_125.out _; (with_reducible repeat (first | refine blk_drewN ?_ _ | refine blk_drew ?_ | refine blk_alloc ?_ _)); exact BK124.out⟩, ⟨by (with_reducible repeat (first | refine blk_drewN ?_ _ | refine blk_drew ?_ | refine blk_alloc ?_ _)); refine blk_put (cs := #[.slice Ao63 y143.length co63, .slice Ao58 y139.length co58]) ?_ 1 _ rfl; (with_reducible repeat (first | refine blk_drewN ?_ _ | refine blk_drew ?_ | refine blk_alloc ?_ _)); exact BK125.out⟩, ⟨by repeat (first | (with_reducible first | exact HB.out | apply below_alloc | apply pw_below_drewN | apply below_drew1 | refine below_set ?_ GE115.out | refine below_set ?_ GE116.out | refine below_set ?_ GE124.out | refine below_set ?_ GE125.out) | exact HB.out)⟩⟩
                      · rw [if_neg c44] at H
                        exact absurd H (by simp)
                    · rw [if_neg c43] at H
                      exact absurd H (by simp)
                  · rw [if_neg c42] at H
                    exact absurd H (by simp)
                · rw [if_neg c41] at H
                  exact absurd H (by simp)
              · rw [if_neg c39] at H
                exact absurd H (by simp)
            · rw [if_neg c38] at H
              have c38b0 : decide (a1 < (rd t117 x12_1)) = false := decide_eq_false c38
              clear c38
              by_cases c70 : x126000_1.length < 17592186044416
              · rw [if_pos c70] at H
                have LMc70 := Aside0.mk c70
                clear c70
                obtain ⟨y151, hy151⟩ : ∃ y_ : List Int, y_ = (x126000_1 ++ [rd t117 x12_1]) := ⟨_, rfl⟩
                replace H : (if x12_1 < (t120.length : Int) then (if x126001_1.length < 17592186044416 then (hostlerref04_Set.l0 k1 a1 a2 t123 false (wrap64 (x12_1 + 1)) t117 t120 y151 (x126001_1 ++ [rd t120 x12_1])) else (none)) else (none)) = some (r1, r2, r3) := by first | (rw [hy151]; with_reducible exact H) | (have H2_ := (Option.bind_some _ _).symm.trans H; rw [hy151]; with_reducible exact H2_) | (have H2_ := (Option.bind_some _ _).symm.trans H; with_reducible exact H2_) | with_reducible exact H | (rw [hy151]; exact H) | exact H
                have Ny151 := Aside0.mk hy151
                clear hy151
                by_cases c71 : x12_1 < (t120.length : Int)
                · rw [if_pos c71] at H
                  have c71b0 : decide (x12_1 < (t120.length : Int)) = true := decide_eq_true c71
                  clear c71
                  by_cases c72 : x126001_1.length < 17592186044416
                  · rw [if_pos c72] at H
                    have LMc72 := Aside0.mk c72
                    clear c72
                    obtain ⟨y155, hy155⟩ : ∃ y_ : List Int, y_ = (x126001_1 ++ [rd t120 x12_1]) := ⟨_, rfl⟩
                    replace H : (hostlerref04_Set.l0 k1 a1 a2 t123 false (wrap64 (x12_1 + 1)) t117 t120 y151 y155) = some (r1, r2, r3) := by first | (rw [hy155]; with_reducible exact H) | (have H2_ := (Option.bind_some _ _).symm.trans H; rw [hy155]; with_reducible exact H2_) | (have H2_ := (Option.bind_some _ _).symm.trans H; with_reducible exact H2_) | with_reducible exact H | (rw [hy155]; exact H) | exact H
                    have Ny155 := Aside0.mk hy155
                    clear hy155
                    have H' := Aside0.mk H
                    clear H
                    have hnb73 := NB115_116.out
                    have hnc73 := NB116_115.out
                    have hnb74 := NB115_124.out
                    have hnc74 := NB124_115.out
                    have hnb75 := NB115_125.out
                    have hnc75 := NB125_115.out
                    have hcz76_0 : wr.cell? ⟨gb115, 0, none⟩ = some (.slice Ao11 t117.length co11) := (blk_cell BK115.out 0).trans rfl
                    have hcz76_1 : wr.cell? ⟨gb115, 1, none⟩ = some (.slice Ao15 t120.length co15) := (blk_cell BK115.out 1).trans rfl
                    have hfz76_0 := blk_frozen BK115.out 0
                    have hfz76_1 := blk_frozen BK115.out 1
                    have p134 : 0 ≤ (x12_1 : Int) := of_decide_eq_true (by first | (with_reducible assumption) | assumption)
                    have q134 : x12_1 < (t117.length : Int) := of_decide_eq_true (by first | (with_reducible assumption) | assumption)
                    obtain ⟨ad134, e134, hx134_0⟩ := Kd.at_int (Kd.V_reads' HO_116000.out).2.2 x12_1 p134 q134
                    cases e134
                    replace p134 := eq_true p134
                    replace q134 := eq_true q134
                    try go_wp2
                    have n0_ := Aside0.mk (Kd.V_drew HO_116000.out)
                    have n1_ := Aside0.mk (Kd.V_drew HO_116001.out)
                    have n2_ := Aside0.mk (Kd.V_drew HO_125000.out)
                    have n3_ := Aside0.mk (Kd.V_drew HO_125001.out)
                    have n4_ := Aside0.mk (Kd.R_drew HO_126000.out)
                    have n5_ := Aside0.mk (Kd.R_drew HO_126001.out)
                    have n6_ := Aside0.mk (blk_drew BK115.out)
                    have n7_ := Aside0.mk (blk_drew BK116.out)
                    have n8_ := Aside0.mk (blk_drew BK124.out)
                    have n9_ := Aside0.mk (blk_drew BK125.out)
                    have n10_ := Aside0.mk (below_drew1 HB.out)
                    clear HO_116000
                    clear HO_116001
                    clear HO_125000
                    clear HO_125001
                    clear HO_126000
                    clear HO_126001
                    clear BK115
                    clear BK116
                    clear BK124
                    clear BK125
                    clear HB
                    have HO_116000 := n0_
                    have HO_116001 := n1_
                    have HO_125000 := n2_
                    have HO_125001 := n3_
                    have HO_126000 := n4_
                    have HO_126001 := n5_
                    have BK115 := n6_
                    have BK116 := n7_
                    have BK124 := n8_
                    have BK125 := n9_
                    have HB := n10_
                    clear n0_ n1_ n2_ n3_ n4_ n5_ n6_ n7_ n8_ n9_ n10_
                    have p150 : 0 ≤ (x12_1 : Int) := of_decide_eq_true (by first | (with_reducible assumption) | assumption)
                    have q150 : x12_1 < (t117.length : Int) := of_decide_eq_true (by first | (with_reducible assumption) | assumption)
                    obtain ⟨ad150, e150, hx150_0⟩ := Kd.at_int (Kd.V_reads' HO_116000.out).2.2 x12_1 p150 q150
                    obtain rfl : ad134 = ad150 := (by injection e150)
                    replace p150 := eq_true p150
                    replace q150 := eq_true q150
                    refine start_ (n := 11) (S := fun w' => w'.cell? ⟨gb125, 0, none⟩ = some (u126000) ∧ w'.cell? ⟨gb125, 1, none⟩ = some (u126001) ∧ w'.cell? ⟨gb115, 0, none⟩ = some (.slice (some ad134) t117.length co11) ∧ w'.cell? ⟨gb115, 1, none⟩ = some (.slice Ao15 t120.length co15) ∧ w'.cell? (ad134.add (x12_1).toNat) = some (.int .i64 (rd t117 x12_1))) (ds := [8, 10]) #[false, false, false, false, false, false, false, false, false, false, false] (by kernel_rfl) rfl rfl ⟨(blk_cell BK125.out 0).trans rfl, (blk_cell BK125.out 1).trans rfl, (blk_cell BK115.out 0).trans rfl, (blk_cell BK115.out 1).trans rfl, hx150_0⟩ (fun hHeld => ?_); refine with_tabW hostlerref04_Set.tab12 hostlerref04_Set.bits12 (fun HT_ HW_ => ?_)
                    generalize wr.drew = w77 at HO_116000 HO_116001 HO_125000 HO_125001 HO_126000 HO_126001 BK115 BK116 BK124 BK125 HB hx150_0 hHeld ⊢
                    refine pure_ (i := 0) (N := some 51) (v := ?_) (a' := ?_) #[true, false, false, false, false, false, false, false, false, false, false] rfl rfl (any_of HT_.out (by kernel_rfl)) (fun _ _ _ h => h) (Or.inl ⟨by rfl, ?_⟩) ?_ ?_
                    rotate_left
                    · intro w'
                      go_simp
                      with_reducible rfl
                    rotate_left
                    · simp only [Act.put, List.setIfInBounds_toArray, List.set_cons_zero, List.set_cons_succ, i64_w, i32_w]
                      rfl
                    refine pure_ (i := 2) (N := some 53) (v := ?_) (a' := ?_) #[true, false, true, false, false, false, false, false, false, false, false] rfl rfl (any_of HT_.out (by kernel_rfl)) (fun _ _ _ h => h) (Or.inl ⟨by rfl, ?_⟩) ?_ ?_
                    rotate_left
                    · intro w'
                      go_simp
                      with_reducible rfl
                    rotate_left
                    · simp only [Act.put, List.setIfInBounds_toArray, List.set_cons_zero, List.set_cons_succ, i64_w, i32_w]
                      rfl
                    refine pure_ (i := 4) (N := some 55) (v := ?_) (a' := ?_) #[true, false, true, false, true, false, false, false, false, false, false] rfl rfl (any_of HT_.out (by kernel_rfl)) (fun _ _ _ h => h) (Or.inl ⟨by rfl, ?_⟩) ?_ ?_
                    rotate_left
                    · intro w'
                      go_simp
                      with_reducible rfl
                    rotate_left
                    · simp only [Act.put, List.setIfInBounds_toArray, List.set_cons_zero, List.set_cons_succ, i64_w, i32_w]
                      rfl
                    refine take_ (i := 1) (N := some 52) (v := ?_) (a' := ?_) #[true, true, true, false, true, false, false, false, false, false, false] rfl rfl (take_ofW HT_.out HW_.out (by kernel_rfl)) (fun _ _ _ h => h) (Or.inl ⟨by rfl, ?_⟩) hHeld ?_ ?_
                    rotate_left
                    · rintro w' ⟨s0, s1, s2, s3, s4⟩
                      go_simp
                      with_reducible rfl
                    rotate_left
                    · simp only [Act.put, List.setIfInBounds_toArray, List.set_cons_zero, List.set_cons_succ, i64_w, i32_w]
                      rfl
                    refine take_ (i := 3) (N := some 54) (v := ?_) (a' := ?_) #[true, true, true, true, true, false, false, false, false, false, false] rfl rfl (take_ofW HT_.out HW_.out (by kernel_rfl)) (fun _ _ _ h => h) (Or.inl ⟨by rfl, ?_⟩) hHeld ?_ ?_
                    rotate_left
                    · rintro w' ⟨s0, s1, s2, s3, s4⟩
                      go_simp
                      with_reducible rfl
                    rotate_left
                    · simp only [Act.put, List.setIfInBounds_toArray, List.set_cons_zero, List.set_cons_succ, i64_w, i32_w]
                      rfl
                    refine pure_ (i := 5) (N := some 56) (v := ?_) (a' := ?_) #[true, true, true, true, true, true, false, false, false, false, false] rfl rfl (any_of HT_.out (by kernel_rfl)) (fun _ _ _ h => h) (Or.inl ⟨by rfl, ?_⟩) ?_ ?_
                    rotate_left
                    · intro w'
                      go_simp
                      with_reducible rfl
                    rotate_left
                    · simp only [Act.put, List.setIfInBounds_toArray, List.set_cons_zero, List.set_cons_succ, i64_w, i32_w]
                      rfl
                    refine take_ (i := 6) (N := some 57) (v := ?_) (a' := ?_) #[true, true, true, true, true, true, true, false, false, false, false] rfl rfl (take_ofW HT_.out HW_.out (by kernel_rfl)) (fun _ _ _ h => h) (Or.inl ⟨by rfl, ?_⟩) hHeld ?_ ?_
                    rotate_left
                    · rintro w' ⟨s0, s1, s2, s3, s4⟩
                      go_simp
                      with_reducible rfl
                    rotate_left
                    · simp only [Act.put, List.setIfInBounds_toArray, List.set_cons_zero, List.set_cons_succ, i64_w, i32_w]
                      rfl
                    refine one_ (i := 7) (N := some 58) #[true, true, true, true, true, true, true, true, false, false, false] rfl rfl (one_of HT_.out (by kernel_rfl)) (by decide) (fun K hK => ?_)
                    refine value_ (w1 := ?_) (v := ?_) (by rfl) rfl ?_ ?_
                    rotate_left 2
                    · go_simp
                      constructor
                      · rfl
                      · rfl
                    refine hK.out _ _ ⟨(blk_cell (blk_alloc BK125.out _) 0).trans rfl, (blk_cell (blk_alloc BK125.out _) 1).trans rfl, (blk_cell (blk_alloc BK115.out _) 0).trans rfl, (blk_cell (blk_alloc BK115.out _) 1).trans rfl, (World.cell?_alloc_lt _ _ _ (World.block_lt_of_cell? _ _ (hHeld.2.2.2.2))).trans (hHeld.2.2.2.2)⟩ (fun hHeld => ?_)
                    clear hK K
                    refine norm_ (a' := ?_) ?_ ?_
                    rotate_left
                    · show Act.put _ (some 58) _ = _
                      simp only [Act.put, List.setIfInBounds_toArray, List.set_cons_zero, List.set_cons_succ, i64_w, i32_w]
                      rfl
                    refine last_ (i := 8) (N := some 59) #[true, true, true, true, true, true, true, true, true, false, false] rfl rfl (one_of HT_.out (by kernel_rfl)) (by decide) (fun K hK => ?_)
                    refine Kd.R_append_step (Kd.int .i64) (w0 := w) w.heap.size (by rfl) (.tmp 52) (.tmp 58) 27 3 (.int .i64 0) 8 rfl Try.underlying27 info3 rfl (by decide) (by omega) u126000 x126000_1 (rd t117 x12_1) [.int .i64 (rd t117 x12_1)] (fun k_ => some k_ ≠ (u126001 : Value).ownBlock) (fun _ => False) rfl rfl ?aP (fun _ hk => hk.elim) ?aF ?aO ?aB ?aS ?aL ?_
                    (case aP => exact rfl)
                    (case aB => exact (by repeat (first | (with_reducible first | exact HB.out | apply below_alloc | apply pw_below_drewN | apply below_drew1 | refine below_set ?_ GE115.out | refine below_set ?_ GE116.out | refine below_set ?_ GE124.out | refine below_set ?_ GE125.out) | exact HB.out)))
                    (case aF => exact (fun k_ hk => Kd.fresh' (Kd.R_lt (by (with_reducible repeat (first | apply Kd.R_alloc | apply Kd.R_drewN | apply Kd.R_drew)); exact HO_126001.out)) k_ hk))
                    (case aO => exact (by (with_reducible repeat (first | apply Kd.R_alloc | apply Kd.R_drewN | apply Kd.R_drew)); exact HO_126000.out))
                    (case aS => exact (below_size (by repeat (first | (with_reducible first | exact HB.out | apply below_alloc | apply pw_below_drewN | apply below_drew1 | refine below_set ?_ GE115.out | refine below_set ?_ GE116.out | refine below_set ?_ GE124.out | refine below_set ?_ GE125.out) | exact HB.out))))
                    (case aL => have := LMc70.out; omega)
                    intro v152 w78 ho hb hg hat
                    rw [← Ny151.out] at ho
                    have n0_ := Aside0.mk (Kd.V_afterv (ok := (fun k_ => some k_ ≠ (u126001 : Value).ownBlock ∧ k_ ≠ gb115 ∧ k_ ≠ gb116 ∧ k_ ≠ gb124 ∧ k_ ≠ gb125)) (by (with_reducible repeat (first | apply Kd.V_alloc | apply Kd.V_drewN | apply Kd.V_drew)); exact Kd.V_mono HO_116000.out (fun _ hk => ⟨⟨hk.2.1, ⟨hk.2.2.1, ⟨hk.2.2.2.1, ⟨hk.2.2.2.2.1, hk.2.2.2.2.2⟩⟩⟩⟩, hk.1⟩)) hg hat)
                    have n1_ := Aside0.mk (Kd.V_afterv (ok := (fun k_ => some k_ ≠ (u126001 : Value).ownBlock ∧ k_ ≠ gb115 ∧ k_ ≠ gb116 ∧ k_ ≠ gb124 ∧ k_ ≠ gb125)) (by (with_reducible repeat (first | apply Kd.V_alloc | apply Kd.V_drewN | apply Kd.V_drew)); exact Kd.V_mono HO_116001.out (fun _ hk => ⟨⟨hk.2.1, ⟨hk.2.2.1, ⟨hk.2.2.2.1, ⟨hk.2.2.2.2.1, hk.2.2.2.2.2⟩⟩⟩⟩, hk.1⟩)) hg hat)
                    have n2_ := Aside0.mk (Kd.V_afterv (ok := (fun k_ => some k_ ≠ (u126001 : Value).ownBlock ∧ k_ ≠ gb115 ∧ k_ ≠ gb116 ∧ k_ ≠ gb124 ∧ k_ ≠ gb125)) (by (with_reducible repeat (first | apply Kd.V_alloc | apply Kd.V_drewN | apply Kd.V_drew)); exact Kd.V_mono HO_125000.out (fun _ hk => ⟨⟨hk.2.1, ⟨hk.2.2.1, ⟨hk.2.2.2.1, ⟨hk.2.2.2.2.1, hk.2.2.2.2.2⟩⟩⟩⟩, hk.1⟩)) hg hat)
                    have n3_ := Aside0.mk (Kd.V_afterv (ok := (fun k_ => some k_ ≠ (u126001 : Value).ownBlock ∧ k_ ≠ gb115 ∧ k_ ≠ gb116 ∧ k_ ≠ gb124 ∧ k_ ≠ gb125)) (by (with_reducible repeat (first | apply Kd.V_alloc | apply Kd.V_drewN | apply Kd.V_drew)); exact Kd.V_mono HO_125001.out (fun _ hk => ⟨⟨hk.2.1, ⟨hk.2.2.1, ⟨hk.2.2.2.1, ⟨hk.2.2.2.2.1, hk.2.2.2.2.2⟩⟩⟩⟩, hk.1⟩)) hg hat)
                    have n4_ := Aside0.mk (Kd.R_after (ok := (fun _ => True)) (by (with_reducible repeat (first | apply Kd.R_alloc | apply Kd.R_drewN | apply Kd.R_drew)); exact Kd.R_mono HO_126001.out (fun _ hk => ⟨trivial, hk⟩)) hg hat)
                    have n5_ := Aside0.mk (blk_grown (g := gb115) (o := .cells #[.slice (some ad134) t117.length co11, .slice Ao15 t120.length co15] 46 (0, 0)) (by (with_reducible repeat (first | refine blk_drewN ?_ _ | refine blk_drew ?_ | refine blk_alloc ?_ _)); exact BK115.out) hg (Kd.R_ne HO_126000.out BK115.out (by decide)))
                    have n6_ := Aside0.mk (blk_grown (g := gb116) (o := .cells #[.slice none 0 0, .slice none 0 0] 46 (0, 0)) (by (with_reducible repeat (first | refine blk_drewN ?_ _ | refine blk_drew ?_ | refine blk_alloc ?_ _)); exact BK116.out) hg (Kd.R_ne HO_126000.out BK116.out (by decide)))
                    have n7_ := Aside0.mk (blk_grown (g := gb124) (o := .cells #[.slice (some ad134) t117.length co11, .slice Ao15 t120.length co15] 46 (0, 0)) (by (with_reducible repeat (first | refine blk_drewN ?_ _ | refine blk_drew ?_ | refine blk_alloc ?_ _)); exact BK124.out) hg (Kd.R_ne HO_126000.out BK124.out (by decide)))
                    have n8_ := Aside0.mk (blk_grown (g := gb125) (o := .cells #[u126000, u126001] 46 (0, 0)) (by (with_reducible repeat (first | refine blk_drewN ?_ _ | refine blk_drew ?_ | refine blk_alloc ?_ _)); exact BK125.out) hg (Kd.R_ne HO_126000.out BK125.out (by decide)))
                    have n9_ := Aside0.mk (hb)
                    have n10_ := Aside0.mk (ho)
                    clear HO_116000
                    clear HO_116001
                    clear HO_125000
                    clear HO_125001
                    clear HO_126001
                    clear BK115
                    clear BK116
                    clear BK124
                    clear BK125
                    clear HB
                    clear HO_126000
                    have HO_116000 := n0_
                    have HO_116001 := n1_
                    have HO_125000 := n2_
                    have HO_125001 := n3_
                    have HO_126001 := n4_
                    have BK115 := n5_
                    have BK116 := n6_
                    have BK124 := n7_
                    have BK125 := n8_
                    have HB := n9_
                    have HO153 := n10_
                    clear n0_ n1_ n2_ n3_ n4_ n5_ n6_ n7_ n8_ n9_ n10_
                    clear ho hb hg hat
                    obtain ⟨Ao79, co79, eo79⟩ := Kd.R_slice HO153.out
                    (first | subst eo79 | (injection eo79 with f1_ f2_ f3_; have f4_ := f1_.symm; have f5_ := f3_.symm; clear f1_ f2_ f3_; subst f4_; subst f5_))
                    refine hK.out _ _ ?_
                    clear hK K
                    refine norm_ (a' := ?_) ?_ ?_
                    rotate_left
                    · show Act.put _ (some 59) _ = _
                      simp only [Act.put, List.setIfInBounds_toArray, List.set_cons_zero, List.set_cons_succ, i64_w, i32_w]
                      rfl
                    refine pure_ (i := 9) (N := some 60) (v := ?_) (a' := ?_) #[true, true, true, true, true, true, true, true, true, true, false] rfl rfl (any_of HT_.out (by kernel_rfl)) (fun _ _ _ h => h) (Or.inl ⟨by rfl, ?_⟩) ?_ ?_
                    rotate_left
                    · intro w'
                      go_simp
                      with_reducible rfl
                    rotate_left
                    · simp only [Act.put, List.setIfInBounds_toArray, List.set_cons_zero, List.set_cons_succ, i64_w, i32_w]
                      rfl
                    refine last_ (i := 10) (N := none) #[true, true, true, true, true, true, true, true, true, true, true] rfl rfl (one_of HT_.out (by kernel_rfl)) (by decide) (fun K hK => ?_)
                    have hs80 : w78.cell? ⟨gb125, 0, none⟩ = some (u126000) := (blk_cell BK125.out 0).trans rfl
                    have hfs80 := blk_frozen BK125.out 0
                    have hns80_0 := NB115_125.out
                    have hns80_1 := NB116_125.out
                    have hns80_2 := NB124_125.out
                    have hms80_0 := NB125_115.out
                    have hms80_1 := NB125_116.out
                    have hms80_2 := NB125_124.out
                    refine skip_ (w1 := ?_) (by rfl) rfl ?_ ?_
                    rotate_left
                    · go_simp
                      rfl
                    refine hK.out _ _ ?_
                    clear hK K
                    refine done_ (done_of HT_.out (by kernel_rfl)) ?_
                    try go_wp2
                    have n0_ : Aside0 (Kd.V (Kd.int .i64) 3 (w78.setCell ⟨gb125, 0, none⟩ (.slice Ao79 y151.length co79)) w.heap.size (fun k_ => some k_ ≠ (u126001 : Value).ownBlock ∧ some k_ ≠ (.slice Ao79 y151.length co79 : Value).ownBlock ∧ k_ ≠ gb115 ∧ k_ ≠ gb116 ∧ k_ ≠ gb124 ∧ k_ ≠ gb125) (.slice (some ad134) t117.length co11) t117) := ⟨by (with_reducible repeat (first | apply Kd.V_alloc | apply Kd.V_drewN | apply Kd.V_drew)); exact Kd.V_mono (Kd.V_far (p := ⟨gb125, 0, none⟩) (Kd.V_mono HO_116000.out (fun k_ hk => (⟨hk, hk.1.2.2.2.2⟩ : _ ∧ k_ ≠ gb125))) (fun _ hk => hk.2) (.slice Ao79 y151.length co79)) (fun _ hk => ⟨hk.1.1.1, ⟨hk.1.2, ⟨hk.1.1.2.1, ⟨hk.1.1.2.2.1, ⟨hk.1.1.2.2.2.1, hk.1.1.2.2.2.2⟩⟩⟩⟩⟩)⟩
                    have n1_ : Aside0 (Kd.V (Kd.int .i64) 3 (w78.setCell ⟨gb125, 0, none⟩ (.slice Ao79 y151.length co79)) w.heap.size (fun k_ => some k_ ≠ (u126001 : Value).ownBlock ∧ some k_ ≠ (.slice Ao79 y151.length co79 : Value).ownBlock ∧ k_ ≠ gb115 ∧ k_ ≠ gb116 ∧ k_ ≠ gb124 ∧ k_ ≠ gb125) (.slice Ao15 t120.length co15) t120) := ⟨by (with_reducible repeat (first | apply Kd.V_alloc | apply Kd.V_drewN | apply Kd.V_drew)); exact Kd.V_mono (Kd.V_far (p := ⟨gb125, 0, none⟩) (Kd.V_mono HO_116001.out (fun k_ hk => (⟨hk, hk.1.2.2.2.2⟩ : _ ∧ k_ ≠ gb125))) (fun _ hk => hk.2) (.slice Ao79 y151.length co79)) (fun _ hk => ⟨hk.1.1.1, ⟨hk.1.2, ⟨hk.1.1.2.1, ⟨hk.1.1.2.2.1, ⟨hk.1.1.2.2.2.1, hk.1.1.2.2.2.2⟩⟩⟩⟩⟩)⟩
                    have n2_ : Aside0 (Kd.V (Kd.int .i64) 3 (w78.setCell ⟨gb125, 0, none⟩ (.slice Ao79 y151.length co79)) w.heap.size (fun k_ => some k_ ≠ (u126001 : Value).ownBlock ∧ some k_ ≠ (.slice Ao79 y151.length co79 : Value).ownBlock ∧ k_ ≠ gb115 ∧ k_ ≠ gb116 ∧ k_ ≠ gb124 ∧ k_ ≠ gb125) (.slice (some ad134) t117.length co11) t117) := ⟨by (with_reducible repeat (first | apply Kd.V_alloc | apply Kd.V_drewN | apply Kd.V_drew)); exact Kd.V_mono (Kd.V_far (p := ⟨gb125, 0, none⟩) (Kd.V_mono HO_125000.out (fun k_ hk => (⟨hk, hk.1.2.2.2.2⟩ : _ ∧ k_ ≠ gb125))) (fun _ hk => hk.2) (.slice Ao79 y151.length co79)) (fun _ hk => ⟨hk.1.1.1, ⟨hk.1.2, ⟨hk.1.1.2.1, ⟨hk.1.1.2.2.1, ⟨hk.1.1.2.2.2.1, hk.1.1.2.2.2.2⟩⟩⟩⟩⟩)⟩
                    have n3_ : Aside0 (Kd.V (Kd.int .i64) 3 (w78.setCell ⟨gb125, 0, none⟩ (.slice Ao79 y151.length co79)) w.heap.size (fun k_ => some k_ ≠ (u126001 : Value).ownBlock ∧ some k_ ≠ (.slice Ao79 y151.length co79 : Value).ownBlock ∧ k_ ≠ gb115 ∧ k_ ≠ gb116 ∧ k_ ≠ gb124 ∧ k_ ≠ gb125) (.slice Ao15 t120.length co15) t120) := ⟨by (with_reducible repeat (first | apply Kd.V_alloc | apply Kd.V_drewN | apply Kd.V_drew)); exact Kd.V_mono (Kd.V_far (p := ⟨gb125, 0, none⟩) (Kd.V_mono HO_125001.out (fun k_ hk => (⟨hk, hk.1.2.2.2.2⟩ : _ ∧ k_ ≠ gb125))) (fun _ hk => hk.2) (.slice Ao79 y151.length co79)) (fun _ hk => ⟨hk.1.1.1, ⟨hk.1.2, ⟨hk.1.1.2.1, ⟨hk.1.1.2.2.1, ⟨hk.1.1.2.2.2.1, hk.1.1.2.2.2.2⟩⟩⟩⟩⟩)⟩
                    have n4_ : Aside0 (Kd.R (Kd.int .i64) 3 (w78.setCell ⟨gb125, 0, none⟩ (.slice Ao79 y151.length co79)) w.heap.size (fun k_ => some k_ ≠ (.slice Ao79 y151.length co79 : Value).ownBlock) u126001 x126001_1) := ⟨by (with_reducible repeat (first | apply Kd.R_alloc | apply Kd.R_drewN | apply Kd.R_drew)); exact Kd.R_mono (Kd.R_far (p := ⟨gb125, 0, none⟩) (Kd.R_types HO_126001.out BK125.out (by decide)) (fun _ hk => hk.2) (.slice Ao79 y151.length co79)) (fun _ hk => hk.1.2)⟩
                    have n5_ : Aside0 (Kd.R (Kd.int .i64) 3 (w78.setCell ⟨gb125, 0, none⟩ (.slice Ao79 y151.length co79)) w.heap.size (fun k_ => some k_ ≠ (u126001 : Value).ownBlock) (.slice Ao79 y151.length co79) y151) := ⟨by (with_reducible repeat (first | apply Kd.R_alloc | apply Kd.R_drewN | apply Kd.R_drew)); exact Kd.R_mono (Kd.R_far (p := ⟨gb125, 0, none⟩) (Kd.R_types HO153.out BK125.out (by decide)) (fun _ hk => hk.2) (.slice Ao79 y151.length co79)) (fun _ hk => hk.1)⟩
                    have n6_ : Aside0 ((w78.setCell ⟨gb125, 0, none⟩ (.slice Ao79 y151.length co79)).heap[gb115]? = some (.cells #[.slice (some ad134) t117.length co11, .slice Ao15 t120.length co15] 46 (0, 0))) := ⟨by (with_reducible repeat (first | refine blk_drewN ?_ _ | refine blk_drew ?_ | refine blk_alloc ?_ _)); refine blk_far ?_ NB115_125.out _; (with_reducible repeat (first | refine blk_drewN ?_ _ | refine blk_drew ?_ | refine blk_alloc ?_ _)); exact BK115.out⟩
                    have n7_ : Aside0 ((w78.setCell ⟨gb125, 0, none⟩ (.slice Ao79 y151.length co79)).heap[gb116]? = some (.cells #[.slice none 0 0, .slice none 0 0] 46 (0, 0))) := ⟨by (with_reducible repeat (first | refine blk_drewN ?_ _ | refine blk_drew ?_ | refine blk_alloc ?_ _)); refine blk_far ?_ NB116_125.out _; (with_reducible repeat (first | refine blk_drewN ?_ _ | refine blk_drew ?_ | refine blk_alloc ?_ _)); exact BK116.out⟩
                    have n8_ : Aside0 ((w78.setCell ⟨gb125, 0, none⟩ (.slice Ao79 y151.length co79)).heap[gb124]? = some (.cells #[.slice (some ad134) t117.length co11, .slice Ao15 t120.length co15] 46 (0, 0))) := ⟨by (with_reducible repeat (first | refine blk_drewN ?_ _ | refine blk_drew ?_ | refine blk_alloc ?_ _)); refine blk_far ?_ NB124_125.out _; (with_reducible repeat (first | refine blk_drewN ?_ _ | refine blk_drew ?_ | refine blk_alloc ?_ _)); exact BK124.out⟩
                    have n9_ : Aside0 ((w78.setCell ⟨gb125, 0, none⟩ (.slice Ao79 y151.length co79)).heap[gb125]? = some (.cells #[.slice Ao79 y151.length co79, u126001] 46 (0, 0))) := ⟨by (with_reducible repeat (first | refine blk_drewN ?_ _ | refine blk_drew ?_ | refine blk_alloc ?_ _)); refine blk_put (cs := #[u126000, u126001]) ?_ 0 _ rfl; (with_reducible repeat (first | refine blk_drewN ?_ _ | refine blk_drew ?_ | refine blk_alloc ?_ _)); exact BK125.out⟩
                    have n10_ : Aside0 (Below w.heap.size w (w78.setCell ⟨gb125, 0, none⟩ (.slice Ao79 y151.length co79))) := ⟨by repeat (first | (with_reducible first | exact HB.out | apply below_alloc | apply pw_below_drewN | apply below_drew1 | refine below_set ?_ GE115.out | refine below_set ?_ GE116.out | refine below_set ?_ GE124.out | refine below_set ?_ GE125.out) | exact HB.out)⟩
                    (try clear HO_116000)
                    (try clear HO_116001)
                    (try clear HO_125000)
                    (try clear HO_125001)
                    (try clear HO_126001)
                    (try clear HO153)
                    (try clear BK115)
                    (try clear BK116)
                    (try clear BK124)
                    (try clear BK125)
                    (try clear HB)
                    generalize (w78.setCell ⟨gb125, 0, none⟩ (.slice Ao79 y151.length co79)) = w81 at n0_ n1_ n2_ n3_ n4_ n5_ n6_ n7_ n8_ n9_ n10_ ⊢
                    have HO_116000 := n0_
                    have HO_116001 := n1_
                    have HO_125000 := n2_
                    have HO_125001 := n3_
                    have HO_126001 := n4_
                    have HO153 := n5_
                    have BK115 := n6_
                    have BK116 := n7_
                    have BK124 := n8_
                    have BK125 := n9_
                    have HB := n10_
                    clear n0_ n1_ n2_ n3_ n4_ n5_ n6_ n7_ n8_ n9_ n10_
                    have n0_ := Aside0.mk (Kd.V_drew HO_116000.out)
                    have n1_ := Aside0.mk (Kd.V_drew HO_116001.out)
                    have n2_ := Aside0.mk (Kd.V_drew HO_125000.out)
                    have n3_ := Aside0.mk (Kd.V_drew HO_125001.out)
                    have n4_ := Aside0.mk (Kd.R_drew HO_126001.out)
                    have n5_ := Aside0.mk (Kd.R_drew HO153.out)
                    have n6_ := Aside0.mk (blk_drew BK115.out)
                    have n7_ := Aside0.mk (blk_drew BK116.out)
                    have n8_ := Aside0.mk (blk_drew BK124.out)
                    have n9_ := Aside0.mk (blk_drew BK125.out)
                    have n10_ := Aside0.mk (below_drew1 HB.out)
                    clear HO_116000
                    clear HO_116001
                    clear HO_125000
                    clear HO_125001
                    clear HO_126001
                    clear HO153
                    clear BK115
                    clear BK116
                    clear BK124
                    clear BK125
                    clear HB
                    have HO_116000 := n0_
                    have HO_116001 := n1_
                    have HO_125000 := n2_
                    have HO_125001 := n3_
                    have HO_126001 := n4_
                    have HO153 := n5_
                    have BK115 := n6_
                    have BK116 := n7_
                    have BK124 := n8_
                    have BK125 := n9_
                    have HB := n10_
                    clear n0_ n1_ n2_ n3_ n4_ n5_ n6_ n7_ n8_ n9_ n10_
                    have p154 : 0 ≤ (x12_1 : Int) := of_decide_eq_true (by first | (with_reducible assumption) | assumption)
                    have q154 : x12_1 < (t120.length : Int) := of_decide_eq_true (by first | (with_reducible assumption) | assumption)
                    obtain ⟨ad154, e154, hx154_0⟩ := Kd.at_int (Kd.V_reads' HO_116001.out).2.2 x12_1 p154 q154
                    cases e154
                    replace p154 := eq_true p154
                    replace q154 := eq_true q154
                    refine start_ (n := 11) (S := fun w' => w'.cell? ⟨gb125, 0, none⟩ = some (.slice Ao79 y151.length co79) ∧ w'.cell? ⟨gb125, 1, none⟩ = some (u126001) ∧ w'.cell? ⟨gb115, 0, none⟩ = some (.slice (some ad134) t117.length co11) ∧ w'.cell? ⟨gb115, 1, none⟩ = some (.slice (some ad154) t120.length co15) ∧ w'.cell? (ad154.add (x12_1).toNat) = some (.int .i64 (rd t120 x12_1))) (ds := [8, 10]) #[false, false, false, false, false, false, false, false, false, false, false] (by kernel_rfl) rfl rfl ⟨(blk_cell BK125.out 0).trans rfl, (blk_cell BK125.out 1).trans rfl, (blk_cell BK115.out 0).trans rfl, (blk_cell BK115.out 1).trans rfl, hx154_0⟩ (fun hHeld => ?_); refine with_tabW hostlerref04_Set.tab13 hostlerref04_Set.bits13 (fun HT_ HW_ => ?_)
                    generalize w81.drew = w82 at HO_116000 HO_116001 HO_125000 HO_125001 HO_126001 HO153 BK115 BK116 BK124 BK125 HB hx154_0 hHeld ⊢
                    refine pure_ (i := 0) (N := some 61) (v := ?_) (a' := ?_) #[true, false, false, false, false, false, false, false, false, false, false] rfl rfl (any_of HT_.out (by kernel_rfl)) (fun _ _ _ h => h) (Or.inl ⟨by rfl, ?_⟩) ?_ ?_
                    rotate_left
                    · intro w'
                      go_simp
                      with_reducible rfl
                    rotate_left
                    · simp only [Act.put, List.setIfInBounds_toArray, List.set_cons_zero, List.set_cons_succ, i64_w, i32_w]
                      rfl
                    refine pure_ (i := 2) (N := some 63) (v := ?_) (a' := ?_) #[true, false, true, false, false, false, false, false, false, false, false] rfl rfl (any_of HT_.out (by kernel_rfl)) (fun _ _ _ h => h) (Or.inl ⟨by rfl, ?_⟩) ?_ ?_
                    rotate_left
                    · intro w'
                      go_simp
                      with_reducible rfl
                    rotate_left
                    · simp only [Act.put, List.setIfInBounds_toArray, List.set_cons_zero, List.set_cons_succ, i64_w, i32_w]
                      rfl
                    refine pure_ (i := 4) (N := some 65) (v := ?_) (a' := ?_) #[true, false, true, false, true, false, false, false, false, false, false] rfl rfl (any_of HT_.out (by kernel_rfl)) (fun _ _ _ h => h) (Or.inl ⟨by rfl, ?_⟩) ?_ ?_
                    rotate_left
                    · intro w'
                      go_simp
                      with_reducible rfl
                    rotate_left
                    · simp only [Act.put, List.setIfInBounds_toArray, List.set_cons_zero, List.set_cons_succ, i64_w, i32_w]
                      rfl
                    refine take_ (i := 1) (N := some 62) (v := ?_) (a' := ?_) #[true, true, true, false, true, false, false, false, false, false, false] rfl rfl (take_ofW HT_.out HW_.out (by kernel_rfl)) (fun _ _ _ h => h) (Or.inl ⟨by rfl, ?_⟩) hHeld ?_ ?_
                    rotate_left
                    · rintro w' ⟨s0, s1, s2, s3, s4⟩
                      go_simp
                      with_reducible rfl
                    rotate_left
                    · simp only [Act.put, List.setIfInBounds_toArray, List.set_cons_zero, List.set_cons_succ, i64_w, i32_w]
                      rfl
                    refine take_ (i := 3) (N := some 64) (v := ?_) (a' := ?_) #[true, true, true, true, true, false, false, false, false, false, false] rfl rfl (take_ofW HT_.out HW_.out (by kernel_rfl)) (fun _ _ _ h => h) (Or.inl ⟨by rfl, ?_⟩) hHeld ?_ ?_
                    rotate_left
                    · rintro w' ⟨s0, s1, s2, s3, s4⟩
                      go_simp
                      with_reducible rfl
                    rotate_left
                    · simp only [Act.put, List.setIfInBounds_toArray, List.set_cons_zero, List.set_cons_succ, i64_w, i32_w]
                      rfl
                    refine pure_ (i := 5) (N := some 66) (v := ?_) (a' := ?_) #[true, true, true, true, true, true, false, false, false, false, false] rfl rfl (any_of HT_.out (by kernel_rfl)) (fun _ _ _ h => h) (Or.inl ⟨by rfl, ?_⟩) ?_ ?_
                    rotate_left
                    · intro w'
                      go_simp
                      with_reducible rfl
                    rotate_left
                    · simp only [Act.put, List.setIfInBounds_toArray, List.set_cons_zero, List.set_cons_succ, i64_w, i32_w]
                      rfl
                    refine take_ (i := 6) (N := some 67) (v := ?_) (a' := ?_) #[true, true, true, true, true, true, true, false, false, false, false] rfl rfl (take_ofW HT_.out HW_.out (by kernel_rfl)) (fun _ _ _ h => h) (Or.inl ⟨by rfl, ?_⟩) hHeld ?_ ?_
                    rotate_left
                    · rintro w' ⟨s0, s1, s2, s3, s4⟩
                      go_simp
                      with_reducible rfl
                    rotate_left
                    · simp only [Act.put, List.setIfInBounds_toArray, List.set_cons_zero, List.set_cons_succ, i64_w, i32_w]
                      rfl
                    refine one_ (i := 7) (N := some 68) #[true, true, true, true, true, true, true, true, false, false, false] rfl rfl (one_of HT_.out (by kernel_rfl)) (by decide) (fun K hK => ?_)
                    refine value_ (w1 := ?_) (v := ?_) (by rfl) rfl ?_ ?_
                    rotate_left 2
                    · go_simp
                      constructor
                      · rfl
                      · rfl
                    refine hK.out _ _ ⟨(blk_cell (blk_alloc BK125.out _) 0).trans rfl, (blk_cell (blk_alloc BK125.out _) 1).trans rfl, (blk_cell (blk_alloc BK115.out _) 0).trans rfl, (blk_cell (blk_alloc BK115.out _) 1).trans rfl, (World.cell?_alloc_lt _ _ _ (World.block_lt_of_cell? _ _ (hHeld.2.2.2.2))).trans (hHeld.2.2.2.2)⟩ (fun hHeld => ?_)
                    clear hK K
                    refine norm_ (a' := ?_) ?_ ?_
                    rotate_left
                    · show Act.put _ (some 68) _ = _
                      simp only [Act.put, List.setIfInBounds_toArray, List.set_cons_zero, List.set_cons_succ, i64_w, i32_w]
                      rfl
                    refine last_ (i := 8) (N := some 69) #[true, true, true, true, true, true, true, true, true, false, false] rfl rfl (one_of HT_.out (by kernel_rfl)) (by decide) (fun K hK => ?_)
                    refine Kd.R_append_step (Kd.int .i64) (w0 := w) w.heap.size (by rfl) (.tmp 62) (.tmp 68) 27 3 (.int .i64 0) 8 rfl Try.underlying27 info3 rfl (by decide) (by omega) u126001 x126001_1 (rd t120 x12_1) [.int .i64 (rd t120 x12_1)] (fun k_ => some k_ ≠ (.slice Ao79 y151.length co79 : Value).ownBlock) (fun _ => False) rfl rfl ?aP (fun _ hk => hk.elim) ?aF ?aO ?aB ?aS ?aL ?_
                    (case aP => exact rfl)
                    (case aB => exact (by repeat (first | (with_reducible first | exact HB.out | apply below_alloc | apply pw_below_drewN | apply below_drew1 | refine below_set ?_ GE115.out | refine below_set ?_ GE116.out | refine below_set ?_ GE124.out | refine below_set ?_ GE125.out) | exact HB.out)))
                    (case aF => exact (fun k_ hk => Kd.fresh' (Kd.R_lt (by (with_reducible repeat (first | apply Kd.R_alloc | apply Kd.R_drewN | apply Kd.R_drew)); exact HO153.out)) k_ hk))
                    (case aO => exact (by (with_reducible repeat (first | apply Kd.R_alloc | apply Kd.R_drewN | apply Kd.R_drew)); exact HO_126001.out))
                    (case aS => exact (below_size (by repeat (first | (with_reducible first | exact HB.out | apply below_alloc | apply pw_below_drewN | apply below_drew1 | refine below_set ?_ GE115.out | refine below_set ?_ GE116.out | refine below_set ?_ GE124.out | refine below_set ?_ GE125.out) | exact HB.out))))
                    (case aL => have := LMc72.out; omega)
                    intro v156 w83 ho hb hg hat
                    rw [← Ny155.out] at ho
                    have n0_ := Aside0.mk (Kd.V_afterv (ok := (fun k_ => some k_ ≠ (.slice Ao79 y151.length co79 : Value).ownBlock ∧ k_ ≠ gb115 ∧ k_ ≠ gb116 ∧ k_ ≠ gb124 ∧ k_ ≠ gb125)) (by (with_reducible repeat (first | apply Kd.V_alloc | apply Kd.V_drewN | apply Kd.V_drew)); exact Kd.V_mono HO_116000.out (fun _ hk => ⟨⟨hk.2.1, ⟨hk.2.2.1, ⟨hk.2.2.2.1, ⟨hk.2.2.2.2.1, hk.2.2.2.2.2⟩⟩⟩⟩, hk.1⟩)) hg hat)
                    have n1_ := Aside0.mk (Kd.V_afterv (ok := (fun k_ => some k_ ≠ (.slice Ao79 y151.length co79 : Value).ownBlock ∧ k_ ≠ gb115 ∧ k_ ≠ gb116 ∧ k_ ≠ gb124 ∧ k_ ≠ gb125)) (by (with_reducible repeat (first | apply Kd.V_alloc | apply Kd.V_drewN | apply Kd.V_drew)); exact Kd.V_mono HO_116001.out (fun _ hk => ⟨⟨hk.2.1, ⟨hk.2.2.1, ⟨hk.2.2.2.1, ⟨hk.2.2.2.2.1, hk.2.2.2.2.2⟩⟩⟩⟩, hk.1⟩)) hg hat)
                    have n2_ := Aside0.mk (Kd.V_afterv (ok := (fun k_ => some k_ ≠ (.slice Ao79 y151.length co79 : Value).ownBlock ∧ k_ ≠ gb115 ∧ k_ ≠ gb116 ∧ k_ ≠ gb124 ∧ k_ ≠ gb125)) (by (with_reducible repeat (first | apply Kd.V_alloc | apply Kd.V_drewN | apply Kd.V_drew)); exact Kd.V_mono HO_125000.out (fun _ hk => ⟨⟨hk.2.1, ⟨hk.2.2.1, ⟨hk.2.2.2.1, ⟨hk.2.2.2.2.1, hk.2.2.2.2.2⟩⟩⟩⟩, hk.1⟩)) hg hat)
                    have n3_ := Aside0.mk (Kd.V_afterv (ok := (fun k_ => some k_ ≠ (.slice Ao79 y151.length co79 : Value).ownBlock ∧ k_ ≠ gb115 ∧ k_ ≠ gb116 ∧ k_ ≠ gb124 ∧ k_ ≠ gb125)) (by (with_reducible repeat (first | apply Kd.V_alloc | apply Kd.V_drewN | apply Kd.V_drew)); exact Kd.V_mono HO_125001.out (fun _ hk => ⟨⟨hk.2.1, ⟨hk.2.2.1, ⟨hk.2.2.2.1, ⟨hk.2.2.2.2.1, hk.2.2.2.2.2⟩⟩⟩⟩, hk.1⟩)) hg hat)
                    have n4_ := Aside0.mk (blk_grown (g := gb115) (o := .cells #[.slice (some ad134) t117.length co11, .slice (some ad154) t120.length co15] 46 (0, 0)) (by (with_reducible repeat (first | refine blk_drewN ?_ _ | refine blk_drew ?_ | refine blk_alloc ?_ _)); exact BK115.out) hg (Kd.R_ne HO_126001.out BK115.out (by decide)))
                    have n5_ := Aside0.mk (blk_grown (g := gb116) (o := .cells #[.slice none 0 0, .slice none 0 0] 46 (0, 0)) (by (with_reducible repeat (first | refine blk_drewN ?_ _ | refine blk_drew ?_ | refine blk_alloc ?_ _)); exact BK116.out) hg (Kd.R_ne HO_126001.out BK116.out (by decide)))
                    have n6_ := Aside0.mk (blk_grown (g := gb124) (o := .cells #[.slice (some ad134) t117.length co11, .slice (some ad154) t120.length co15] 46 (0, 0)) (by (with_reducible repeat (first | refine blk_drewN ?_ _ | refine blk_drew ?_ | refine blk_alloc ?_ _)); exact BK124.out) hg (Kd.R_ne HO_126001.out BK124.out (by decide)))
                    have n7_ := Aside0.mk (blk_grown (g := gb125) (o := .cells #[.slice Ao79 y151.length co79, u126001] 46 (0, 0)) (by (with_reducible repeat (first | refine blk_drewN ?_ _ | refine blk_drew ?_ | refine blk_alloc ?_ _)); exact BK125.out) hg (Kd.R_ne HO_126001.out BK125.out (by decide)))
                    have n8_ := Aside0.mk (Kd.R_after (ok := (fun _ => True)) (by (with_reducible repeat (first | apply Kd.R_alloc | apply Kd.R_drewN | apply Kd.R_drew)); exact Kd.R_mono HO153.out (fun _ hk => ⟨trivial, hk⟩)) hg hat)
                    have n9_ := Aside0.mk (hb)
                    have n10_ := Aside0.mk (ho)
                    clear HO_116000
                    clear HO_116001
                    clear HO_125000
                    clear HO_125001
                    clear BK115
                    clear BK116
                    clear BK124
                    clear BK125
                    clear HO153
                    clear HB
                    clear HO_126001
                    have HO_116000 := n0_
                    have HO_116001 := n1_
                    have HO_125000 := n2_
                    have HO_125001 := n3_
                    have BK115 := n4_
                    have BK116 := n5_
                    have BK124 := n6_
                    have BK125 := n7_
                    have HO153 := n8_
                    have HB := n9_
                    have HO157 := n10_
                    clear n0_ n1_ n2_ n3_ n4_ n5_ n6_ n7_ n8_ n9_ n10_
                    clear ho hb hg hat
                    obtain ⟨Ao84, co84, eo84⟩ := Kd.R_slice HO157.out
                    (first | subst eo84 | (injection eo84 with f1_ f2_ f3_; have f4_ := f1_.symm; have f5_ := f3_.symm; clear f1_ f2_ f3_; subst f4_; subst f5_))
                    refine hK.out _ _ ?_
                    clear hK K
                    refine norm_ (a' := ?_) ?_ ?_
                    rotate_left
                    · show Act.put _ (some 69) _ = _
                      simp only [Act.put, List.setIfInBounds_toArray, List.set_cons_zero, List.set_cons_succ, i64_w, i32_w]
                      rfl
                    refine pure_ (i := 9) (N := some 70) (v := ?_) (a' := ?_) #[true, true, true, true, true, true, true, true, true, true, false] rfl rfl (any_of HT_.out (by kernel_rfl)) (fun _ _ _ h => h) (Or.inl ⟨by rfl, ?_⟩) ?_ ?_
                    rotate_left
                    · intro w'
                      go_simp
                      with_reducible rfl
                    rotate_left
                    · simp only [Act.put, List.setIfInBounds_toArray, List.set_cons_zero, List.set_cons_succ, i64_w, i32_w]
                      rfl
                    refine last_ (i := 10) (N := none) #[true, true, true, true, true, true, true, true, true, true, true] rfl rfl (one_of HT_.out (by kernel_rfl)) (by decide) (fun K hK => ?_)
                    have hs85 : w83.cell? ⟨gb125, 1, none⟩ = some (u126001) := (blk_cell BK125.out 1).trans rfl
                    have hfs85 := blk_frozen BK125.out 1
                    have hns85_0 := NB115_125.out
                    have hns85_1 := NB116_125.out
                    have hns85_2 := NB124_125.out
                    have hms85_0 := NB125_115.out
                    have hms85_1 := NB125_116.out
                    have hms85_2 := NB125_124.out
                    refine skip_ (w1 := ?_) (by rfl) rfl ?_ ?_
                    rotate_left
                    · go_simp
                      rfl
                    refine hK.out _ _ ?_
                    clear hK K
                    refine done_ (done_of HT_.out (by kernel_rfl)) ?_
                    try go_wp2
                    go_roundg k1
                    case measure => have := HK1.out; omega
                    case rel => exact ⟨(false), (wrap64 (x12_1 + 1)), (y151), (y155), (.slice Ao79 y151.length co79), (.slice Ao84 y155.length co84), (by first | rfl | (simp; done) | (simp [*]; done)), (by first | rfl | (simp; done) | (simp [*]; done)), H', ⟨by have := HK1.out; omega⟩, ⟨by (with_reducible repeat (first | apply Kd.V_alloc | apply Kd.V_drewN | apply Kd.V_drew)); exact Kd.V_mono (Kd.V_far (p := ⟨gb125, 1, none⟩) (Kd.V_mono HO_116000.out (fun k_ hk => (⟨hk, hk.1.2.2.2.2⟩ : _ ∧ k_ ≠ gb125))) (fun _ hk => hk.2) (.slice Ao84 y155.length co84)) (fun _ hk => ⟨hk.1.1.1, ⟨hk.1.2, ⟨hk.1.1.2.1, ⟨hk.1.1.2.2.1, ⟨hk.1.1.2.2.2.1, hk.1.1.2.2.2.2⟩⟩⟩⟩⟩)⟩, ⟨by (with_reducible repeat (first | apply Kd.V_alloc | apply Kd.V_drewN | apply Kd.V_drew)); exact Kd.V_mono (Kd.V_far (p := ⟨gb125, 1, none⟩) (Kd.V_mono HO_116001.out (fun k_ hk => (⟨hk, hk.1.2.2.2.2⟩ : _ ∧ k_ ≠ gb125))) (fun _ hk => hk.2) (.slice Ao84 y155.length co84)) (fun _ hk => ⟨hk.1.1.1, ⟨hk.1.2, ⟨hk.1.1.2.1, ⟨hk.1.1.2.2.1, ⟨hk.1.1.2.2.2.1, hk.1.1.2.2.2.2⟩⟩⟩⟩⟩)⟩, ⟨by (with_reducible repeat (first | apply Kd.V_alloc | apply Kd.V_drewN | apply Kd.V_drew)); exact Kd.V_mono (Kd.V_far (p := ⟨gb125, 1, none⟩) (Kd.V_mono HO_125000.out (fun k_ hk => (⟨hk, hk.1.2.2.2.2⟩ : _ ∧ k_ ≠ gb125))) (fun _ hk => hk.2) (.slice Ao84 y155.length co84)) (fun _ hk => ⟨hk.1.1.1, ⟨hk.1.2, ⟨hk.1.1.2.1, ⟨hk.1.1.2.2.1, ⟨hk.1.1.2.2.2.1, hk.1.1.2.2.2.2⟩⟩⟩⟩⟩)⟩, ⟨by (with_reducible repeat (first | apply Kd.V_alloc | apply Kd.V_drewN | apply Kd.V_drew)); exact Kd.V_mono (Kd.V_far (p := ⟨gb125, 1, none⟩) (Kd.V_mono HO_125001.out (fun k_ hk => (⟨hk, hk.1.2.2.2.2⟩ : _ ∧ k_ ≠ gb125))) (fun _ hk => hk.2) (.slice Ao84 y155.length co84)) (fun _ hk => ⟨hk.1.1.1, ⟨hk.1.2, ⟨hk.1.1.2.1, ⟨hk.1.1.2.2.1, ⟨hk.1.1.2.2.2.1, hk.1.1.2.2.2.2⟩⟩⟩⟩⟩)⟩, ⟨by (with_reducible repeat (first | apply Kd.R_alloc | apply Kd.R_drewN | apply Kd.R_drew)); exact Kd.R_mono (Kd.R_far (p := ⟨gb125, 1, none⟩) (Kd.R_types HO153.out BK125.out (by decide)) (fun _ hk => hk.2) (.slice Ao84 y155.length co84)) (fun _ hk => hk.1.2)⟩, ⟨by (with_reducible repeat (first | apply Kd.R_alloc | apply Kd.R_drewN | apply Kd.R_drew)); exact Kd.R_mono (Kd.R_far (p := ⟨gb125, 1, none⟩) (Kd.R_types HO157.out BK125.out (by decide)) (fun _ hk => hk.2) (.slice Ao84 y155.length co84)) (fun _ hk => hk.1)⟩, ⟨by (with_reducible repeat (first | refine blk_drewN ?_ _ | refine blk_drew ?_ | refine blk_alloc ?_ _)); refine blk_far ?_ NB115_125.out _; (with_reducible repeat (first | refine blk_drewN ?_ _ | refine blk_drew ?_ | refine blk_alloc ?_ _)); exact BK115.out⟩, ⟨by (with_reducible repeat (first | refine blk_drewN ?_ _ | refine blk_drew ?_ | refine blk_alloc ?_ _)); refine blk_far ?_ NB116_125.out _; (with_reducible repeat (first | refine blk_drewN ?_ _ | refine blk_drew ?_ | refine blk_alloc ?_ _)); exact BK116.out⟩, ⟨by (with_reducible repeat (first | refine blk_drewN ?_ _ | refine blk_drew ?_ | refine blk_alloc ?_ _)); refine blk_far ?_ NB124_125.out _; (with_reducible repeat (first | refine blk_drewN ?_ _ | refine blk_drew ?_ | refine blk_alloc ?_ _)); exact BK124.out⟩, ⟨by (with_reducible repeat (first | refine blk_drewN ?_ _ | refine blk_drew ?_ | refine blk_alloc ?_ _)); refine blk_put (cs := #[.slice Ao79 y151.length co79, u126001]) ?_ 1 _ rfl; (with_reducible repeat (first | refine blk_drewN ?_ _ | refine blk_drew ?_ | refine blk_alloc ?_ _)); exact BK125.out⟩, ⟨by repeat (first | (with_reducible first | exact HB.out | apply below_alloc | apply pw_below_drewN | apply below_drew1 | refine below_set ?_ GE115.out | refine below_set ?_ GE116.out | refine below_set ?_ GE124.out | refine below_set ?_ GE125.out) | exact HB.out)⟩⟩
                  · rw [if_neg c72] at H
                    exact absurd H (by simp)
                · rw [if_neg c71] at H
                  exact absurd H (by simp)
              · rw [if_neg c70] at H
                exact absurd H (by simp)
          · rw [if_neg c37] at H
            exact absurd H (by simp)
      · rw [if_neg c18] at H
        have c18b0 : decide (x12_1 < (t117.length : Int)) = false := decide_eq_false c18
        clear c18
        by_cases c86 : x11_1 = true
        · subst c86
          have H1 : (some (x126000_1, x126001_1, t123)) = some (r1, r2, r3) := by rw [if_pos rfl] at H; exact H
          clear H
          have H := H1
          clear H1
          simp only [Option.some.injEq, Prod.mk.injEq] at H
          obtain ⟨rfl, rfl, rfl⟩ := H
          have hnb87 := NB115_116.out
          have hnc87 := NB116_115.out
          have hnb88 := NB115_124.out
          have hnc88 := NB124_115.out
          have hnb89 := NB115_125.out
          have hnc89 := NB125_115.out
          have hcz90_0 : wr.cell? ⟨gb115, 0, none⟩ = some (.slice Ao11 t117.length co11) := (blk_cell BK115.out 0).trans rfl
          have hcz90_1 : wr.cell? ⟨gb115, 1, none⟩ = some (.slice Ao15 t120.length co15) := (blk_cell BK115.out 1).trans rfl
          have hfz90_0 := blk_frozen BK115.out 0
          have hfz90_1 := blk_frozen BK115.out 1
          have hnb91 := NB125_116.out
          have hnc91 := NB116_125.out
          have hnb92 := NB125_124.out
          have hnc92 := NB124_125.out
          have hcz93_0 : wr.cell? ⟨gb125, 0, none⟩ = some (u126000) := (blk_cell BK125.out 0).trans rfl
          have hcz93_1 : wr.cell? ⟨gb125, 1, none⟩ = some (u126001) := (blk_cell BK125.out 1).trans rfl
          have hfz93_0 := blk_frozen BK125.out 0
          have hfz93_1 := blk_frozen BK125.out 1
          obtain ⟨Ao94, co94, eo94⟩ := Kd.R_slice HO_126000.out
          subst eo94
          have hnb95 := NB116_124.out
          have hnc95 := NB124_116.out
          have hcz96_0 : wr.cell? ⟨gb116, 0, none⟩ = some (.slice none 0 0) := (blk_cell BK116.out 0).trans rfl
          have hcz96_1 : wr.cell? ⟨gb116, 1, none⟩ = some (.slice none 0 0) := (blk_cell BK116.out 1).trans rfl
          have hfz96_0 := blk_frozen BK116.out 0
          have hfz96_1 := blk_frozen BK116.out 1
          obtain ⟨Ao97, co97, eo97⟩ := Kd.R_slice HO_126001.out
          subst eo97
          go_wp2
          refine bodyPost_ret (results_ct rfl _ _ gb116 46 #[.slice Ao94 x126000_1.length co94, .slice Ao97 x126001_1.length co97] (0, 0) _ rfl (by (with_reducible repeat (first | refine blk_drewN ?_ _ | refine blk_drew ?_ | refine blk_alloc ?_ _)); refine blk_put (cs := #[.slice Ao94 x126000_1.length co94, .slice none 0 0]) ?_ 1 _ rfl; (with_reducible repeat (first | refine blk_drewN ?_ _ | refine blk_drew ?_ | refine blk_alloc ?_ _)); refine blk_put (cs := #[.slice none 0 0, .slice none 0 0]) ?_ 0 _ rfl; (with_reducible repeat (first | refine blk_drewN ?_ _ | refine blk_drew ?_ | refine blk_alloc ?_ _)); exact BK116.out) Try.underlying46 rfl (by kernel_rfl)) rfl ?_
          exact ⟨_, _, by first | rfl | (simp only [Int.ofNat_lt]; rfl) | (simp [errW_none, errW_some] <;> rfl) | (simp [*, errW_none, errW_some] <;> rfl), by (with_reducible repeat (first | apply Kd.R_alloc | apply Kd.R_drewN | apply Kd.R_drew)); exact Kd.R_mono (Kd.R_far (p := ⟨gb116, 1, none⟩) (Kd.R_far (p := ⟨gb116, 0, none⟩) (Kd.R_types HO_126000.out BK116.out (by decide)) (fun _ hk => hk.2) (.slice Ao94 x126000_1.length co94)) (fun _ hk => hk.2) (.slice Ao97 x126001_1.length co97)) (fun _ hk => hk.1), by (with_reducible repeat (first | apply Kd.R_alloc | apply Kd.R_drewN | apply Kd.R_drew)); exact Kd.R_mono (Kd.R_far (p := ⟨gb116, 1, none⟩) (Kd.R_far (p := ⟨gb116, 0, none⟩) (Kd.R_types HO_126001.out BK116.out (by decide)) (fun _ hk => hk.2) (.slice Ao94 x126000_1.length co94)) (fun _ hk => hk.2) (.slice Ao97 x126001_1.length co97)) (fun _ hk => hk.1), by repeat (first | (with_reducible first | exact HB.out | apply below_alloc | apply pw_below_drewN | apply below_drew1 | refine below_set ?_ GE115.out | refine below_set ?_ GE116.out | refine below_set ?_ GE124.out | refine below_set ?_ GE125.out) | exact HB.out)⟩
        · replace c86 := Bool.eq_false_iff.mpr c86
          subst c86
          have H1 : (if x126000_1.length < 17592186044416 then ((hostlerref01_Cut.f a2).bind fun t161 => (if x126001_1.length < 17592186044416 then (some ((x126000_1 ++ [a1]), (x126001_1 ++ [t161]), t123)) else (none))) else (none)) = some (r1, r2, r3) := by rw [if_neg (show ¬ (false = true) by decide)] at H; exact H
          clear H
          have H := H1
          clear H1
          by_cases c98 : x126000_1.length < 17592186044416
          · rw [if_pos c98] at H
            have LMc98 := Aside0.mk c98
            clear c98
            obtain ⟨y158, hy158⟩ : ∃ y_ : List Int, y_ = (x126000_1 ++ [a1]) := ⟨_, rfl⟩
            replace H : ((hostlerref01_Cut.f a2).bind fun t161 => (if x126001_1.length < 17592186044416 then (some (y158, (x126001_1 ++ [t161]), t123)) else (none))) = some (r1, r2, r3) := by first | (rw [hy158]; with_reducible exact H) | (have H2_ := (Option.bind_some _ _).symm.trans H; rw [hy158]; with_reducible exact H2_) | (have H2_ := (Option.bind_some _ _).symm.trans H; with_reducible exact H2_) | with_reducible exact H | (rw [hy158]; exact H) | exact H
            have Ny158 := Aside0.mk hy158
            clear hy158
            replace H := Option.bind_eq_some_iff.mp H
            obtain ⟨t161, A990, H⟩ := H
            replace H : (if x126001_1.length < 17592186044416 then (some (y158, (x126001_1 ++ [t161]), t123)) else (none)) = some (r1, r2, r3) := H
            have A99 := Aside0.mk A990
            clear A990
            by_cases c100 : x126001_1.length < 17592186044416
            · rw [if_pos c100] at H
              have LMc100 := Aside0.mk c100
              clear c100
              obtain ⟨y162, hy162⟩ : ∃ y_ : List Int, y_ = (x126001_1 ++ [t161]) := ⟨_, rfl⟩
              replace H : (some (y158, y162, t123)) = some (r1, r2, r3) := by first | (rw [hy162]; with_reducible exact H) | (have H2_ := (Option.bind_some _ _).symm.trans H; rw [hy162]; with_reducible exact H2_) | (have H2_ := (Option.bind_some _ _).symm.trans H; with_reducible exact H2_) | with_reducible exact H | (rw [hy162]; exact H) | exact H
              have Ny162 := Aside0.mk hy162
              clear hy162
              simp only [Option.some.injEq, Prod.mk.injEq] at H
              obtain ⟨rfl, rfl, rfl⟩ := H
              have hnb101 := NB115_116.out
              have hnc101 := NB116_115.out
              have hnb102 := NB115_124.out
              have hnc102 := NB124_115.out
              have hnb103 := NB115_125.out
              have hnc103 := NB125_115.out
              have hcz104_0 : wr.cell? ⟨gb115, 0, none⟩ = some (.slice Ao11 t117.length co11) := (blk_cell BK115.out 0).trans rfl
              have hcz104_1 : wr.cell? ⟨gb115, 1, none⟩ = some (.slice Ao15 t120.length co15) := (blk_cell BK115.out 1).trans rfl
              have hfz104_0 := blk_frozen BK115.out 0
              have hfz104_1 := blk_frozen BK115.out 1
              have hnb105 := NB125_116.out
              have hnc105 := NB116_125.out
              have hnb106 := NB125_124.out
              have hnc106 := NB124_125.out
              have hcz107_0 : wr.cell? ⟨gb125, 0, none⟩ = some (u126000) := (blk_cell BK125.out 0).trans rfl
              have hcz107_1 : wr.cell? ⟨gb125, 1, none⟩ = some (u126001) := (blk_cell BK125.out 1).trans rfl
              have hfz107_0 := blk_frozen BK125.out 0
              have hfz107_1 := blk_frozen BK125.out 1
              try go_wp2_with (first | ((with_reducible refine gate_builtin (b := .append) (xs := #[.tmp 74, .tmp 76]) rfl ?_); at_builtin; refine Kd.R_append (Kd.int .i64) (w0 := w) w.heap.size rfl (.tmp 74) (.tmp 76) 27 3 (.int .i64 0) 8 rfl Try.underlying27 info3 rfl (by decide) (by omega) u126000 x126000_1 a1 [.int .i64 a1] (fun k_ => some k_ ≠ (u126001 : Value).ownBlock) (fun _ => False) rfl rfl ?aP (fun _ hk => hk.elim) ?aF ?aO ?aB ?aS ?aL ?_; (case aP => exact rfl); (case aB => exact (by repeat (first | (with_reducible first | exact HB.out | apply below_alloc | apply pw_below_drewN | apply below_drew1 | refine below_set ?_ GE115.out | refine below_set ?_ GE116.out | refine below_set ?_ GE124.out | refine below_set ?_ GE125.out) | exact HB.out))); (case aF => exact (fun k_ hk => Kd.fresh' (Kd.R_lt (by (with_reducible repeat (first | apply Kd.R_alloc | apply Kd.R_drewN | apply Kd.R_drew)); exact HO_126001.out)) k_ hk)); (case aO => exact (by (with_reducible repeat (first | apply Kd.R_alloc | apply Kd.R_drewN | apply Kd.R_drew)); exact HO_126000.out)); (case aS => exact (below_size (by repeat (first | (with_reducible first | exact HB.out | apply below_alloc | apply pw_below_drewN | apply below_drew1 | refine below_set ?_ GE115.out | refine below_set ?_ GE116.out | refine below_set ?_ GE124.out | refine below_set ?_ GE125.out) | exact HB.out)))); (case aL => have := LMc98.out; omega); intro v159 w108 ho hb hg hat; rw [← Ny158.out] at ho; have n0_ := Aside0.mk (Kd.V_afterv (ok := (fun k_ => some k_ ≠ (u126001 : Value).ownBlock ∧ k_ ≠ gb115 ∧ k_ ≠ gb116 ∧ k_ ≠ gb124 ∧ k_ ≠ gb125)) (by (with_reducible repeat (first | apply Kd.V_alloc | apply Kd.V_drewN | apply Kd.V_drew)); exact Kd.V_mono HO_116000.out (fun _ hk => ⟨⟨hk.2.1, ⟨hk.2.2.1, ⟨hk.2.2.2.1, ⟨hk.2.2.2.2.1, hk.2.2.2.2.2⟩⟩⟩⟩, hk.1⟩)) hg hat); have n1_ := Aside0.mk (Kd.V_afterv (ok := (fun k_ => some k_ ≠ (u126001 : Value).ownBlock ∧ k_ ≠ gb115 ∧ k_ ≠ gb116 ∧ k_ ≠ gb124 ∧ k_ ≠ gb125)) (by (with_reducible repeat (first | apply Kd.V_alloc | apply Kd.V_drewN | apply Kd.V_drew)); exact Kd.V_mono HO_116001.out (fun _ hk => ⟨⟨hk.2.1, ⟨hk.2.2.1, ⟨hk.2.2.2.1, ⟨hk.2.2.2.2.1, hk.2.2.2.2.2⟩⟩⟩⟩, hk.1⟩)) hg hat); have n2_ := Aside0.mk (Kd.V_afterv (ok := (fun k_ => some k_ ≠ (u126001 : Value).ownBlock ∧ k_ ≠ gb115 ∧ k_ ≠ gb116 ∧ k_ ≠ gb124 ∧ k_ ≠ gb125)) (by (with_reducible repeat (first | apply Kd.V_alloc | apply Kd.V_drewN | apply Kd.V_drew)); exact Kd.V_mono HO_125000.out (fun _ hk => ⟨⟨hk.2.1, ⟨hk.2.2.1, ⟨hk.2.2.2.1, ⟨hk.2.2.2.2.1, hk.2.2.2.2.2⟩⟩⟩⟩, hk.1⟩)) hg hat); have n3_ := Aside0.mk (Kd.V_afterv (ok := (fun k_ => some k_ ≠ (u126001 : Value).ownBlock ∧ k_ ≠ gb115 ∧ k_ ≠ gb116 ∧ k_ ≠ gb124 ∧ k_ ≠ gb125)) (by (with_reducible repeat (first | apply Kd.V_alloc | apply Kd.V_drewN | apply Kd.V_drew)); exact Kd.V_mono HO_125001.out (fun _ hk => ⟨⟨hk.2.1, ⟨hk.2.2.1, ⟨hk.2.2.2.1, ⟨hk.2.2.2.2.1, hk.2.2.2.2.2⟩⟩⟩⟩, hk.1⟩)) hg hat); have n4_ := Aside0.mk (Kd.R_after (ok := (fun _ => True)) (by (with_reducible repeat (first | apply Kd.R_alloc | apply Kd.R_drewN | apply Kd.R_drew)); exact Kd.R_mono HO_126001.out (fun _ hk => ⟨trivial, hk⟩)) hg hat); have n5_ := Aside0.mk (blk_grown (g := gb115) (o := .cells #[.slice Ao11 t117.length co11, .slice Ao15 t120.length co15] 46 (0, 0)) (by (with_reducible repeat (first | refine blk_drewN ?_ _ | refine blk_drew ?_ | refine blk_alloc ?_ _)); exact BK115.out) hg (Kd.R_ne HO_126000.out BK115.out (by decide))); have n6_ := Aside0.mk (blk_grown (g := gb116) (o := .cells #[.slice none 0 0, .slice none 0 0] 46 (0, 0)) (by (with_reducible repeat (first | refine blk_drewN ?_ _ | refine blk_drew ?_ | refine blk_alloc ?_ _)); exact BK116.out) hg (Kd.R_ne HO_126000.out BK116.out (by decide))); have n7_ := Aside0.mk (blk_grown (g := gb124) (o := .cells #[.slice Ao11 t117.length co11, .slice Ao15 t120.length co15] 46 (0, 0)) (by (with_reducible repeat (first | refine blk_drewN ?_ _ | refine blk_drew ?_ | refine blk_alloc ?_ _)); exact BK124.out) hg (Kd.R_ne HO_126000.out BK124.out (by decide))); have n8_ := Aside0.mk (blk_grown (g := gb125) (o := .cells #[u126000, u126001] 46 (0, 0)) (by (with_reducible repeat (first | refine blk_drewN ?_ _ | refine blk_drew ?_ | refine blk_alloc ?_ _)); exact BK125.out) hg (Kd.R_ne HO_126000.out BK125.out (by decide))); have n9_ := Aside0.mk (hb); have n10_ := Aside0.mk (ho); clear HO_116000; clear HO_116001; clear HO_125000; clear HO_125001; clear HO_126001; clear BK115; clear BK116; clear BK124; clear BK125; clear HB; clear HO_126000; have HO_116000 := n0_; have HO_116001 := n1_; have HO_125000 := n2_; have HO_125001 := n3_; have HO_126001 := n4_; have BK115 := n5_; have BK116 := n6_; have BK124 := n7_; have BK125 := n8_; have HB := n9_; have HO160 := n10_; clear n0_ n1_ n2_ n3_ n4_ n5_ n6_ n7_ n8_ n9_ n10_; clear ho hb hg hat; obtain ⟨Ao109, co109, eo109⟩ := Kd.R_slice HO160.out; subst eo109; have hcz110_0 : w108.cell? ⟨gb125, 0, none⟩ = some (u126000) := (blk_cell BK125.out 0).trans rfl; have hcz110_1 : w108.cell? ⟨gb125, 1, none⟩ = some (u126001) := (blk_cell BK125.out 1).trans rfl; have hfz110_0 := blk_frozen BK125.out 0; have hfz110_1 := blk_frozen BK125.out 1))
              have n0_ : Aside0 (Kd.V (Kd.int .i64) 3 (w108.setCell ⟨gb125, 0, none⟩ (.slice Ao109 y158.length co109)) w.heap.size (fun k_ => some k_ ≠ (u126001 : Value).ownBlock ∧ some k_ ≠ (.slice Ao109 y158.length co109 : Value).ownBlock ∧ k_ ≠ gb115 ∧ k_ ≠ gb116 ∧ k_ ≠ gb124 ∧ k_ ≠ gb125) (.slice Ao11 t117.length co11) t117) := ⟨by (with_reducible repeat (first | apply Kd.V_alloc | apply Kd.V_drewN | apply Kd.V_drew)); exact Kd.V_mono (Kd.V_far (p := ⟨gb125, 0, none⟩) (Kd.V_mono HO_116000.out (fun k_ hk => (⟨hk, hk.1.2.2.2.2⟩ : _ ∧ k_ ≠ gb125))) (fun _ hk => hk.2) (.slice Ao109 y158.length co109)) (fun _ hk => ⟨hk.1.1.1, ⟨hk.1.2, ⟨hk.1.1.2.1, ⟨hk.1.1.2.2.1, ⟨hk.1.1.2.2.2.1, hk.1.1.2.2.2.2⟩⟩⟩⟩⟩)⟩
              have n1_ : Aside0 (Kd.V (Kd.int .i64) 3 (w108.setCell ⟨gb125, 0, none⟩ (.slice Ao109 y158.length co109)) w.heap.size (fun k_ => some k_ ≠ (u126001 : Value).ownBlock ∧ some k_ ≠ (.slice Ao109 y158.length co109 : Value).ownBlock ∧ k_ ≠ gb115 ∧ k_ ≠ gb116 ∧ k_ ≠ gb124 ∧ k_ ≠ gb125) (.slice Ao15 t120.length co15) t120) := ⟨by (with_reducible repeat (first | apply Kd.V_alloc | apply Kd.V_drewN | apply Kd.V_drew)); exact Kd.V_mono (Kd.V_far (p := ⟨gb125, 0, none⟩) (Kd.V_mono HO_116001.out (fun k_ hk => (⟨hk, hk.1.2.2.2.2⟩ : _ ∧ k_ ≠ gb125))) (fun _ hk => hk.2) (.slice Ao109 y158.length co109)) (fun _ hk => ⟨hk.1.1.1, ⟨hk.1.2, ⟨hk.1.1.2.1, ⟨hk.1.1.2.2.1, ⟨hk.1.1.2.2.2.1, hk.1.1.2.2.2.2⟩⟩⟩⟩⟩)⟩
              have n2_ : Aside0 (Kd.V (Kd.int .i64) 3 (w108.setCell ⟨gb125, 0, none⟩ (.slice Ao109 y158.length co109)) w.heap.size (fun k_ => some k_ ≠ (u126001 : Value).ownBlock ∧ some k_ ≠ (.slice Ao109 y158.length co109 : Value).ownBlock ∧ k_ ≠ gb115 ∧ k_ ≠ gb116 ∧ k_ ≠ gb124 ∧ k_ ≠ gb125) (.slice Ao11 t117.length co11) t117) := ⟨by (with_reducible repeat (first | apply Kd.V_alloc | apply Kd.V_drewN | apply Kd.V_drew)); exact Kd.V_mono (Kd.V_far (p := ⟨gb125, 0, none⟩) (Kd.V_mono HO_125000.out (fun k_ hk => (⟨hk, hk.1.2.2.2.2⟩ : _ ∧ k_ ≠ gb125))) (fun _ hk => hk.2) (.slice Ao109 y158.length co109)) (fun _ hk => ⟨hk.1.1.1, ⟨hk.1.2, ⟨hk.1.1.2.1, ⟨hk.1.1.2.2.1, ⟨hk.1.1.2.2.2.1, hk.1.1.2.2.2.2⟩⟩⟩⟩⟩)⟩
              have n3_ : Aside0 (Kd.V (Kd.int .i64) 3 (w108.setCell ⟨gb125, 0, none⟩ (.slice Ao109 y158.length co109)) w.heap.size (fun k_ => some k_ ≠ (u126001 : Value).ownBlock ∧ some k_ ≠ (.slice Ao109 y158.length co109 : Value).ownBlock ∧ k_ ≠ gb115 ∧ k_ ≠ gb116 ∧ k_ ≠ gb124 ∧ k_ ≠ gb125) (.slice Ao15 t120.length co15) t120) := ⟨by (with_reducible repeat (first | apply Kd.V_alloc | apply Kd.V_drewN | apply Kd.V_drew)); exact Kd.V_mono (Kd.V_far (p := ⟨gb125, 0, none⟩) (Kd.V_mono HO_125001.out (fun k_ hk => (⟨hk, hk.1.2.2.2.2⟩ : _ ∧ k_ ≠ gb125))) (fun _ hk => hk.2) (.slice Ao109 y158.length co109)) (fun _ hk => ⟨hk.1.1.1, ⟨hk.1.2, ⟨hk.1.1.2.1, ⟨hk.1.1.2.2.1, ⟨hk.1.1.2.2.2.1, hk.1.1.2.2.2.2⟩⟩⟩⟩⟩)⟩
              have n4_ : Aside0 (Kd.R (Kd.int .i64) 3 (w108.setCell ⟨gb125, 0, none⟩ (.slice Ao109 y158.length co109)) w.heap.size (fun k_ => some k_ ≠ (.slice Ao109 y158.length co109 : Value).ownBlock) u126001 x126001_1) := ⟨by (with_reducible repeat (first | apply Kd.R_alloc | apply Kd.R_drewN | apply Kd.R_drew)); exact Kd.R_mono (Kd.R_far (p := ⟨gb125, 0, none⟩) (Kd.R_types HO_126001.out BK125.out (by decide)) (fun _ hk => hk.2) (.slice Ao109 y158.length co109)) (fun _ hk => hk.1.2)⟩
              have n5_ : Aside0 (Kd.R (Kd.int .i64) 3 (w108.setCell ⟨gb125, 0, none⟩ (.slice Ao109 y158.length co109)) w.heap.size (fun k_ => some k_ ≠ (u126001 : Value).ownBlock) (.slice Ao109 y158.length co109) y158) := ⟨by (with_reducible repeat (first | apply Kd.R_alloc | apply Kd.R_drewN | apply Kd.R_drew)); exact Kd.R_mono (Kd.R_far (p := ⟨gb125, 0, none⟩) (Kd.R_types HO160.out BK125.out (by decide)) (fun _ hk => hk.2) (.slice Ao109 y158.length co109)) (fun _ hk => hk.1)⟩
              have n6_ : Aside0 ((w108.setCell ⟨gb125, 0, none⟩ (.slice Ao109 y158.length co109)).heap[gb115]? = some (.cells #[.slice Ao11 t117.length co11, .slice Ao15 t120.length co15] 46 (0, 0))) := ⟨by (with_reducible repeat (first | refine blk_drewN ?_ _ | refine blk_drew ?_ | refine blk_alloc ?_ _)); refine blk_far ?_ NB115_125.out _; (with_reducible repeat (first | refine blk_drewN ?_ _ | refine blk_drew ?_ | refine blk_alloc ?_ _)); exact BK115.out⟩
              have n7_ : Aside0 ((w108.setCell ⟨gb125, 0, none⟩ (.slice Ao109 y158.length co109)).heap[gb116]? = some (.cells #[.slice none 0 0, .slice none 0 0] 46 (0, 0))) := ⟨by (with_reducible repeat (first | refine blk_drewN ?_ _ | refine blk_drew ?_ | refine blk_alloc ?_ _)); refine blk_far ?_ NB116_125.out _; (with_reducible repeat (first | refine blk_drewN ?_ _ | refine blk_drew ?_ | refine blk_alloc ?_ _)); exact BK116.out⟩
              have n8_ : Aside0 ((w108.setCell ⟨gb125, 0, none⟩ (.slice Ao109 y158.length co109)).heap[gb124]? = some (.cells #[.slice Ao11 t117.length co11, .slice Ao15 t120.length co15] 46 (0, 0))) := ⟨by (with_reducible repeat (first | refine blk_drewN ?_ _ | refine blk_drew ?_ | refine blk_alloc ?_ _)); refine blk_far ?_ NB124_125.out _; (with_reducible repeat (first | refine blk_drewN ?_ _ | refine blk_drew ?_ | refine blk_alloc ?_ _)); exact BK124.out⟩
              have n9_ : Aside0 ((w108.setCell ⟨gb125, 0, none⟩ (.slice Ao109 y158.length co109)).heap[gb125]? = some (.cells #[.slice Ao109 y158.length co109, u126001] 46 (0, 0))) := ⟨by (with_reducible repeat (first | refine blk_drewN ?_ _ | refine blk_drew ?_ | refine blk_alloc ?_ _)); refine blk_put (cs := #[u126000, u126001]) ?_ 0 _ rfl; (with_reducible repeat (first | refine blk_drewN ?_ _ | refine blk_drew ?_ | refine blk_alloc ?_ _)); exact BK125.out⟩
              have n10_ : Aside0 (Below w.heap.size w (w108.setCell ⟨gb125, 0, none⟩ (.slice Ao109 y158.length co109))) := ⟨by repeat (first | (with_reducible first | exact HB.out | apply below_alloc | apply pw_below_drewN | apply below_drew1 | refine below_set ?_ GE115.out | refine below_set ?_ GE116.out | refine below_set ?_ GE124.out | refine below_set ?_ GE125.out) | exact HB.out)⟩
              (try clear HO_116000)
              (try clear HO_116001)
              (try clear HO_125000)
              (try clear HO_125001)
              (try clear HO_126001)
              (try clear HO160)
              (try clear BK115)
              (try clear BK116)
              (try clear BK124)
              (try clear BK125)
              (try clear HB)
              generalize (w108.setCell ⟨gb125, 0, none⟩ (.slice Ao109 y158.length co109)) = w111 at n0_ n1_ n2_ n3_ n4_ n5_ n6_ n7_ n8_ n9_ n10_ ⊢
              have HO_116000 := n0_
              have HO_116001 := n1_
              have HO_125000 := n2_
              have HO_125001 := n3_
              have HO_126001 := n4_
              have HO160 := n5_
              have BK115 := n6_
              have BK116 := n7_
              have BK124 := n8_
              have BK125 := n9_
              have HB := n10_
              clear n0_ n1_ n2_ n3_ n4_ n5_ n6_ n7_ n8_ n9_ n10_
              have n0_ := Aside0.mk (Kd.V_drew HO_116000.out)
              have n1_ := Aside0.mk (Kd.V_drew HO_116001.out)
              have n2_ := Aside0.mk (Kd.V_drew HO_125000.out)
              have n3_ := Aside0.mk (Kd.V_drew HO_125001.out)
              have n4_ := Aside0.mk (Kd.R_drew HO_126001.out)
              have n5_ := Aside0.mk (Kd.R_drew HO160.out)
              have n6_ := Aside0.mk (blk_drew BK115.out)
              have n7_ := Aside0.mk (blk_drew BK116.out)
              have n8_ := Aside0.mk (blk_drew BK124.out)
              have n9_ := Aside0.mk (blk_drew BK125.out)
              have n10_ := Aside0.mk (below_drew1 HB.out)
              clear HO_116000
              clear HO_116001
              clear HO_125000
              clear HO_125001
              clear HO_126001
              clear HO160
              clear BK115
              clear BK116
              clear BK124
              clear BK125
              clear HB
              have HO_116000 := n0_
              have HO_116001 := n1_
              have HO_125000 := n2_
              have HO_125001 := n3_
              have HO_126001 := n4_
              have HO160 := n5_
              have BK115 := n6_
              have BK116 := n7_
              have BK124 := n8_
              have BK125 := n9_
              have HB := n10_
              clear n0_ n1_ n2_ n3_ n4_ n5_ n6_ n7_ n8_ n9_ n10_
              refine start_ (n := 8) (S := fun w' => w'.cell? ⟨gb125, 0, none⟩ = some (.slice Ao109 y158.length co109) ∧ w'.cell? ⟨gb125, 1, none⟩ = some (u126001)) (ds := [7]) #[false, false, false, false, false, false, false, false] (by kernel_rfl) rfl rfl ⟨(blk_cell BK125.out 0).trans rfl, (blk_cell BK125.out 1).trans rfl⟩ (fun hHeld => ?_); refine with_tabW hostlerref04_Set.tab16 hostlerref04_Set.bits16 (fun HT_ HW_ => ?_)
              generalize w111.drew = w112 at HO_116000 HO_116001 HO_125000 HO_125001 HO_126001 HO160 BK115 BK116 BK124 BK125 HB hHeld ⊢
              refine pure_ (i := 0) (N := some 79) (v := ?_) (a' := ?_) #[true, false, false, false, false, false, false, false] rfl rfl (any_of HT_.out (by kernel_rfl)) (fun _ _ _ h => h) (Or.inl ⟨by rfl, ?_⟩) ?_ ?_
              rotate_left
              · intro w'
                go_simp
                with_reducible rfl
              rotate_left
              · simp only [Act.put, List.setIfInBounds_toArray, List.set_cons_zero, List.set_cons_succ, i64_w, i32_w]
                rfl
              refine pure_ (i := 2) (N := some 81) (v := ?_) (a' := ?_) #[true, false, true, false, false, false, false, false] rfl rfl (any_of HT_.out (by kernel_rfl)) (fun _ _ _ h => h) (Or.inl ⟨by rfl, ?_⟩) ?_ ?_
              rotate_left
              · intro w'
                go_simp
                with_reducible rfl
              rotate_left
              · simp only [Act.put, List.setIfInBounds_toArray, List.set_cons_zero, List.set_cons_succ, i64_w, i32_w]
                rfl
              refine take_ (i := 1) (N := some 80) (v := ?_) (a' := ?_) #[true, true, true, false, false, false, false, false] rfl rfl (take_ofW HT_.out HW_.out (by kernel_rfl)) (fun _ _ _ h => h) (Or.inl ⟨by rfl, ?_⟩) hHeld ?_ ?_
              rotate_left
              · rintro w' ⟨s0, s1⟩
                go_simp
                with_reducible rfl
              rotate_left
              · simp only [Act.put, List.setIfInBounds_toArray, List.set_cons_zero, List.set_cons_succ, i64_w, i32_w]
                rfl
              refine one_ (i := 3) (N := some 82) #[true, true, true, true, false, false, false, false] rfl rfl (one_of HT_.out (by kernel_rfl)) (by decide) (fun K hK => ?_)
              refine goes_ Try.func21 (by kernel_rfl) rfl #[.int .i64 a2] (by rfl) rfl rfl (by (try simp only [List.map_toArray, List.map_cons, List.map_nil]); first | done | rfl | (simp only [List.length_drop, List.length_take]; rfl)) ?_
              with_reducible refine (hostlerref01_Cut.calls a2 t161 _ A99.out).mono ?_
              rintro e w' ⟨rfl, ⟨nd, rfl⟩⟩
              refine ⟨_, rfl, ?_⟩
              refine hK.out _ _ ⟨(blk_cell BK125.out 0).trans rfl, (blk_cell BK125.out 1).trans rfl⟩ (fun hHeld => ?_)
              clear hK K
              refine norm_ (a' := ?_) ?_ ?_
              rotate_left
              · show Act.put _ (some 82) _ = _
                simp only [Act.put, List.setIfInBounds_toArray, List.set_cons_zero, List.set_cons_succ, i64_w, i32_w]
                rfl
              refine one_ (i := 4) (N := some 83) #[true, true, true, true, true, false, false, false] rfl rfl (one_of HT_.out (by kernel_rfl)) (by decide) (fun K hK => ?_)
              refine value_ (w1 := ?_) (v := ?_) (by rfl) rfl ?_ ?_
              rotate_left 2
              · go_simp
                constructor
                · rfl
                · rfl
              refine hK.out _ _ ⟨(blk_cell (blk_alloc BK125.out _) 0).trans rfl, (blk_cell (blk_alloc BK125.out _) 1).trans rfl⟩ (fun hHeld => ?_)
              clear hK K
              refine norm_ (a' := ?_) ?_ ?_
              rotate_left
              · show Act.put _ (some 83) _ = _
                simp only [Act.put, List.setIfInBounds_toArray, List.set_cons_zero, List.set_cons_succ, i64_w, i32_w]
                rfl
              refine one_ (i := 5) (N := some 84) #[true, true, true, true, true, true, false, false] rfl rfl (one_of HT_.out (by kernel_rfl)) (by decide) (fun K hK => ?_)
              refine Kd.R_append_step (Kd.int .i64) (w0 := w) w.heap.size (by rfl) (.tmp 80) (.tmp 83) 27 3 (.int .i64 0) 8 rfl Try.underlying27 info3 rfl (by decide) (by omega) u126001 x126001_1 t161 [.int .i64 t161] (fun k_ => some k_ ≠ (.slice Ao109 y158.length co109 : Value).ownBlock) (fun _ => False) rfl rfl ?aP (fun _ hk => hk.elim) ?aF ?aO ?aB ?aS ?aL ?_
              (case aP => exact rfl)
              (case aB => exact (by repeat (first | (with_reducible first | exact HB.out | apply below_alloc | apply pw_below_drewN | apply below_drew1 | refine below_set ?_ GE115.out | refine below_set ?_ GE116.out | refine below_set ?_ GE124.out | refine below_set ?_ GE125.out) | exact HB.out)))
              (case aF => exact (fun k_ hk => Kd.fresh' (Kd.R_lt (by (with_reducible repeat (first | apply Kd.R_alloc | apply Kd.R_drewN | apply Kd.R_drew)); exact HO160.out)) k_ hk))
              (case aO => exact (by (with_reducible repeat (first | apply Kd.R_alloc | apply Kd.R_drewN | apply Kd.R_drew)); exact HO_126001.out))
              (case aS => exact (below_size (by repeat (first | (with_reducible first | exact HB.out | apply below_alloc | apply pw_below_drewN | apply below_drew1 | refine below_set ?_ GE115.out | refine below_set ?_ GE116.out | refine below_set ?_ GE124.out | refine below_set ?_ GE125.out) | exact HB.out))))
              (case aL => have := LMc100.out; omega)
              intro v163 w113 ho hb hg hat
              rw [← Ny162.out] at ho
              have n0_ := Aside0.mk (Kd.V_afterv (ok := (fun k_ => some k_ ≠ (.slice Ao109 y158.length co109 : Value).ownBlock ∧ k_ ≠ gb115 ∧ k_ ≠ gb116 ∧ k_ ≠ gb124 ∧ k_ ≠ gb125)) (by (with_reducible repeat (first | apply Kd.V_alloc | apply Kd.V_drewN | apply Kd.V_drew)); exact Kd.V_mono HO_116000.out (fun _ hk => ⟨⟨hk.2.1, ⟨hk.2.2.1, ⟨hk.2.2.2.1, ⟨hk.2.2.2.2.1, hk.2.2.2.2.2⟩⟩⟩⟩, hk.1⟩)) hg hat)
              have n1_ := Aside0.mk (Kd.V_afterv (ok := (fun k_ => some k_ ≠ (.slice Ao109 y158.length co109 : Value).ownBlock ∧ k_ ≠ gb115 ∧ k_ ≠ gb116 ∧ k_ ≠ gb124 ∧ k_ ≠ gb125)) (by (with_reducible repeat (first | apply Kd.V_alloc | apply Kd.V_drewN | apply Kd.V_drew)); exact Kd.V_mono HO_116001.out (fun _ hk => ⟨⟨hk.2.1, ⟨hk.2.2.1, ⟨hk.2.2.2.1, ⟨hk.2.2.2.2.1, hk.2.2.2.2.2⟩⟩⟩⟩, hk.1⟩)) hg hat)
              have n2_ := Aside0.mk (Kd.V_afterv (ok := (fun k_ => some k_ ≠ (.slice Ao109 y158.length co109 : Value).ownBlock ∧ k_ ≠ gb115 ∧ k_ ≠ gb116 ∧ k_ ≠ gb124 ∧ k_ ≠ gb125)) (by (with_reducible repeat (first | apply Kd.V_alloc | apply Kd.V_drewN | apply Kd.V_drew)); exact Kd.V_mono HO_125000.out (fun _ hk => ⟨⟨hk.2.1, ⟨hk.2.2.1, ⟨hk.2.2.2.1, ⟨hk.2.2.2.2.1, hk.2.2.2.2.2⟩⟩⟩⟩, hk.1⟩)) hg hat)
              have n3_ := Aside0.mk (Kd.V_afterv (ok := (fun k_ => some k_ ≠ (.slice Ao109 y158.length co109 : Value).ownBlock ∧ k_ ≠ gb115 ∧ k_ ≠ gb116 ∧ k_ ≠ gb124 ∧ k_ ≠ gb125)) (by (with_reducible repeat (first | apply Kd.V_alloc | apply Kd.V_drewN | apply Kd.V_drew)); exact Kd.V_mono HO_125001.out (fun _ hk => ⟨⟨hk.2.1, ⟨hk.2.2.1, ⟨hk.2.2.2.1, ⟨hk.2.2.2.2.1, hk.2.2.2.2.2⟩⟩⟩⟩, hk.1⟩)) hg hat)
              have n4_ := Aside0.mk (blk_grown (g := gb115) (o := .cells #[.slice Ao11 t117.length co11, .slice Ao15 t120.length co15] 46 (0, 0)) (by (with_reducible repeat (first | refine blk_drewN ?_ _ | refine blk_drew ?_ | refine blk_alloc ?_ _)); exact BK115.out) hg (Kd.R_ne HO_126001.out BK115.out (by decide)))
              have n5_ := Aside0.mk (blk_grown (g := gb116) (o := .cells #[.slice none 0 0, .slice none 0 0] 46 (0, 0)) (by (with_reducible repeat (first | refine blk_drewN ?_ _ | refine blk_drew ?_ | refine blk_alloc ?_ _)); exact BK116.out) hg (Kd.R_ne HO_126001.out BK116.out (by decide)))
              have n6_ := Aside0.mk (blk_grown (g := gb124) (o := .cells #[.slice Ao11 t117.length co11, .slice Ao15 t120.length co15] 46 (0, 0)) (by (with_reducible repeat (first | refine blk_drewN ?_ _ | refine blk_drew ?_ | refine blk_alloc ?_ _)); exact BK124.out) hg (Kd.R_ne HO_126001.out BK124.out (by decide)))
              have n7_ := Aside0.mk (blk_grown (g := gb125) (o := .cells #[.slice Ao109 y158.length co109, u126001] 46 (0, 0)) (by (with_reducible repeat (first | refine blk_drewN ?_ _ | refine blk_drew ?_ | refine blk_alloc ?_ _)); exact BK125.out) hg (Kd.R_ne HO_126001.out BK125.out (by decide)))
              have n8_ := Aside0.mk (Kd.R_after (ok := (fun _ => True)) (by (with_reducible repeat (first | apply Kd.R_alloc | apply Kd.R_drewN | apply Kd.R_drew)); exact Kd.R_mono HO160.out (fun _ hk => ⟨trivial, hk⟩)) hg hat)
              have n9_ := Aside0.mk (hb)
              have n10_ := Aside0.mk (ho)
              clear HO_116000
              clear HO_116001
              clear HO_125000
              clear HO_125001
              clear BK115
              clear BK116
              clear BK124
              clear BK125
              clear HO160
              clear HB
              clear HO_126001
              have HO_116000 := n0_
              have HO_116001 := n1_
              have HO_125000 := n2_
              have HO_125001 := n3_
              have BK115 := n4_
              have BK116 := n5_
              have BK124 := n6_
              have BK125 := n7_
              have HO160 := n8_
              have HB := n9_
              have HO164 := n10_
              clear n0_ n1_ n2_ n3_ n4_ n5_ n6_ n7_ n8_ n9_ n10_
              clear ho hb hg hat
              obtain ⟨Ao114, co114, eo114⟩ := Kd.R_slice HO164.out
              (first | subst eo114 | (injection eo114 with f1_ f2_ f3_; have f4_ := f1_.symm; have f5_ := f3_.symm; clear f1_ f2_ f3_; subst f4_; subst f5_))
              refine hK.out _ _ ⟨(blk_cell BK125.out 0).trans rfl, (blk_cell BK125.out 1).trans rfl⟩ (fun hHeld => ?_)
              clear hK K
              refine norm_ (a' := ?_) ?_ ?_
              rotate_left
              · show Act.put _ (some 84) _ = _
                simp only [Act.put, List.setIfInBounds_toArray, List.set_cons_zero, List.set_cons_succ, i64_w, i32_w]
                rfl
              refine pure_ (i := 6) (N := some 85) (v := ?_) (a' := ?_) #[true, true, true, true, true, true, true, false] rfl rfl (any_of HT_.out (by kernel_rfl)) (fun _ _ _ h => h) (Or.inl ⟨by rfl, ?_⟩) ?_ ?_
              rotate_left
              · intro w'
                go_simp
                with_reducible rfl
              rotate_left
              · simp only [Act.put, List.setIfInBounds_toArray, List.set_cons_zero, List.set_cons_succ, i64_w, i32_w]
                rfl
              refine last_ (i := 7) (N := none) #[true, true, true, true, true, true, true, true] rfl rfl (one_of HT_.out (by kernel_rfl)) (by decide) (fun K hK => ?_)
              have hs115 : w113.cell? ⟨gb125, 1, none⟩ = some (u126001) := (blk_cell BK125.out 1).trans rfl
              have hfs115 := blk_frozen BK125.out 1
              have hns115_0 := NB115_125.out
              have hns115_1 := NB116_125.out
              have hns115_2 := NB124_125.out
              have hms115_0 := NB125_115.out
              have hms115_1 := NB125_116.out
              have hms115_2 := NB125_124.out
              refine skip_ (w1 := ?_) (by rfl) rfl ?_ ?_
              rotate_left
              · go_simp
                rfl
              refine hK.out _ _ ?_
              clear hK K
              refine done_ (done_of HT_.out (by kernel_rfl)) ?_
              have hcz116_0 : w113.cell? ⟨gb125, 0, none⟩ = some (.slice Ao109 y158.length co109) := (blk_cell BK125.out 0).trans rfl
              have hcz116_1 : w113.cell? ⟨gb125, 1, none⟩ = some (u126001) := (blk_cell BK125.out 1).trans rfl
              have hfz116_0 := blk_frozen BK125.out 0
              have hfz116_1 := blk_frozen BK125.out 1
              have hnb117 := NB116_124.out
              have hnc117 := NB124_116.out
              have hcz118_0 : w113.cell? ⟨gb116, 0, none⟩ = some (.slice none 0 0) := (blk_cell BK116.out 0).trans rfl
              have hcz118_1 : w113.cell? ⟨gb116, 1, none⟩ = some (.slice none 0 0) := (blk_cell BK116.out 1).trans rfl
              have hfz118_0 := blk_frozen BK116.out 0
              have hfz118_1 := blk_frozen BK116.out 1
              try go_wp2
              refine bodyPost_ret (results_ct rfl _ _ gb116 46 #[.slice Ao109 y158.length co109, .slice Ao114 y162.length co114] (0, 0) _ rfl (by (with_reducible repeat (first | refine blk_drewN ?_ _ | refine blk_drew ?_ | refine blk_alloc ?_ _)); refine blk_put (cs := #[.slice Ao109 y158.length co109, .slice none 0 0]) ?_ 1 _ rfl; (with_reducible repeat (first | refine blk_drewN ?_ _ | refine blk_drew ?_ | refine blk_alloc ?_ _)); refine blk_put (cs := #[.slice none 0 0, .slice none 0 0]) ?_ 0 _ rfl; (with_reducible repeat (first | refine blk_drewN ?_ _ | refine blk_drew ?_ | refine blk_alloc ?_ _)); refine blk_far ?_ NB116_125.out _; (with_reducible repeat (first | refine blk_drewN ?_ _ | refine blk_drew ?_ | refine blk_alloc ?_ _)); exact BK116.out) Try.underlying46 rfl (by kernel_rfl)) rfl ?_
              exact ⟨_, _, by first | rfl | (simp only [Int.ofNat_lt]; rfl) | (simp [errW_none, errW_some] <;> rfl) | (simp [*, errW_none, errW_some] <;> rfl), by (with_reducible repeat (first | apply Kd.R_alloc | apply Kd.R_drewN | apply Kd.R_drew)); exact Kd.R_mono (Kd.R_far (p := ⟨gb116, 1, none⟩) (Kd.R_far (p := ⟨gb116, 0, none⟩) (Kd.R_far (p := ⟨gb125, 1, none⟩) (Kd.R_types (Kd.R_types HO160.out BK125.out (by decide)) BK116.out (by decide)) (fun _ hk => hk.1.2) (.slice Ao114 y162.length co114)) (fun _ hk => hk.2) (.slice Ao109 y158.length co109)) (fun _ hk => hk.2) (.slice Ao114 y162.length co114)) (fun _ hk => hk.1.1.2), by (with_reducible repeat (first | apply Kd.R_alloc | apply Kd.R_drewN | apply Kd.R_drew)); exact Kd.R_mono (Kd.R_far (p := ⟨gb116, 1, none⟩) (Kd.R_far (p := ⟨gb116, 0, none⟩) (Kd.R_far (p := ⟨gb125, 1, none⟩) (Kd.R_types (Kd.R_types HO164.out BK125.out (by decide)) BK116.out (by decide)) (fun _ hk => hk.1.2) (.slice Ao114 y162.length co114)) (fun _ hk => hk.2) (.slice Ao109 y158.length co109)) (fun _ hk => hk.2) (.slice Ao114 y162.length co114)) (fun _ hk => hk.1.1), by repeat (first | (with_reducible first | exact HB.out | apply below_alloc | apply pw_below_drewN | apply below_drew1 | refine below_set ?_ GE115.out | refine below_set ?_ GE116.out | refine below_set ?_ GE124.out | refine below_set ?_ GE125.out) | exact HB.out)⟩
            · rw [if_neg c100] at H
              exact absurd H (by simp)
          · rw [if_neg c98] at H
            exact absurd H (by simp)

end Go.Proofs.Ytfflhppieogkbaa.PC
