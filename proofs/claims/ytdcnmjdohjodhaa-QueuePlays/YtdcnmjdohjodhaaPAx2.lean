/-
  Contracts of the program's functions and the Lean functions that they compute, laid by a program of this session out of the translation. Conditions: none.
-/
import Derived.Test.YtdcnmjdohjodhaaPAx0
import Derived.Test.YtdcnmjdohjodhaaPAx1
namespace Go.Proofs.Ytdcnmjdohjodhaa.PA
open Go.RowKit Go.Proofs.Ytdcnmjdohjodhaa.PE Go.Proofs.YtdcnmjdohjodhaaW.PrintWords Go.Proofs.YtdcnmjdohjodhaaW.PrintLast Go.Proofs.YtdcnmjdohjodhaaW.PrintMore
attribute [local go_sem] max2_int min2_int max_two min_two max_three min_three max_four min_four   -- for this text's walks alone
set_option linter.unusedVariables false
set_option linter.unusedSimpArgs false

/-! ### hostlerref12_Remove: function 24 -/
def hostlerref12_Remove.l0 : Nat → Int → Int → Int → List Int → List Int → Int → List Int → List Int → Option (Int × List Int × List Int × Bool)
  | 0, _, _, _, _, _, _, _, _ => none
  | k + 1, x1, x7, x130000, x130001, x130002, x132000, x132001, x132002 => if x7 < (x130001.length : Int) then (if 0 ≤ x7 then (if (rd x130001 x7) = x1 then (hostlerref12_Remove.l0 k x1 (wrap64 (x7 + 1)) x130000 x130001 x130002 x132000 x132001 x132002) else (if x132001.length < 17592186044416 then (if x7 < (x130002.length : Int) then (if x132002.length < 17592186044416 then (hostlerref12_Remove.l0 k x1 (wrap64 (x7 + 1)) x130000 x130001 x130002 x132000 (x132001 ++ [rd x130001 x7]) (x132002 ++ [rd x130002 x7])) else (none)) else (none)) else (none))) else (none)) else (some (x132000, x132001, x132002, decide ((x132001.length : Int) < (x130001.length : Int))))
def hostlerref12_Remove.f (k : Nat) (a0_0 : Int) (l0_1 : List Int) (l0_2 : List Int) (a1 : Int) : Option (Int × List Int × List Int × Bool) := hostlerref12_Remove.l0 k a1 0 a0_0 l0_1 l0_2 a0_0 ([] : List Int) ([] : List Int)
theorem hostlerref12_Remove.mono_l : ∀ k, (∀ y0 y1 y2 y3 y4 y5 y6 y7, LeO (hostlerref12_Remove.l0 k y0 y1 y2 y3 y4 y5 y6 y7) (hostlerref12_Remove.l0 (k + 1) y0 y1 y2 y3 y4 y5 y6 y7))
  | 0 => fun _ _ _ _ _ _ _ _ r h => by simp [hostlerref12_Remove.l0] at h
  | k + 1 => by
    have ih0 := hostlerref12_Remove.mono_l k
    · intro y0 y1 y2 y3 y4 y5 y6 y7
      unfold hostlerref12_Remove.l0
      repeat' first
      | (with_reducible exact ih0 _ _ _ _ _ _ _ _)
      | (with_reducible exact LeO.refl _)
      | (with_reducible exact LeO.none _)
      | (with_reducible refine LeO.ite ?_ ?_)
      | (with_reducible refine LeO.bind ?_ (fun _ => ?_))
      | exact ih0 _ _ _ _ _ _ _ _
      | exact LeO.none _
      | refine LeO.ite ?_ ?_
      | refine LeO.bind ?_ (fun _ => ?_)
theorem hostlerref12_Remove.mono : ∀ a0 a1 a2 a3 k, LeO (hostlerref12_Remove.f k a0 a1 a2 a3) (hostlerref12_Remove.f (k + 1) a0 a1 a2 a3) := by
  intro a0 a1 a2 a3 k
  have ih0 := hostlerref12_Remove.mono_l k
  unfold hostlerref12_Remove.f
  repeat' first
      | (with_reducible exact ih0 _ _ _ _ _ _ _ _)
      | (with_reducible exact LeO.refl _)
      | (with_reducible exact LeO.none _)
      | (with_reducible refine LeO.ite ?_ ?_)
      | (with_reducible refine LeO.bind ?_ (fun _ => ?_))
      | exact ih0 _ _ _ _ _ _ _ _
      | exact LeO.none _
      | refine LeO.ite ?_ ?_
      | refine LeO.bind ?_ (fun _ => ?_)
def hostlerref12_Remove.T6 : Bool × List (List Nat × List Nat) := (true, [([], []), ([0], [0]), ([], []), ([2], [2]), ([], []), ([3, 4], [3, 4]), ([5], [5]), ([6], [6]), ([1, 7], [1, 7]), ([0, 1, 2, 3, 4, 5, 6, 7, 8], []), ([9, 8, 8, 0, 1, 2, 3, 4, 5, 6, 7, 8], [8, 9])])
def hostlerref12_Remove.B6 : List Nat := [0, 1, 0, 4, 0, 28, 60, 124, 255, 511, 1023]
theorem hostlerref12_Remove.tab6 : rtab .any (opsOf Try.f24 6) = hostlerref12_Remove.T6 := by kernel_rfl
theorem hostlerref12_Remove.bits6 : waitsOk hostlerref12_Remove.T6.2 hostlerref12_Remove.B6 = true := by kernel_rfl
def hostlerref12_Remove.T7 : Bool × List (List Nat × List Nat) := (true, [([], []), ([0], [0]), ([], []), ([2], [2]), ([], []), ([3, 4], [3, 4]), ([5], [5]), ([6], [6]), ([1, 7], [1, 7]), ([0, 1, 2, 3, 4, 5, 6, 7, 8], []), ([9, 8, 8, 0, 1, 2, 3, 4, 5, 6, 7, 8], [8, 9])])
def hostlerref12_Remove.B7 : List Nat := [0, 1, 0, 4, 0, 28, 60, 124, 255, 511, 1023]
theorem hostlerref12_Remove.tab7 : rtab .any (opsOf Try.f24 7) = hostlerref12_Remove.T7 := by kernel_rfl
theorem hostlerref12_Remove.bits7 : waitsOk hostlerref12_Remove.T7.2 hostlerref12_Remove.B7 = true := by kernel_rfl
def hostlerref12_Remove.T8 : Bool × List (List Nat × List Nat) := (true, [([], []), ([], []), ([1], [1]), ([2], [2]), ([], []), ([4], [4]), ([5], [5]), ([3, 6], [3, 6]), ([0, 0], [0]), ([7, 8, 0, 1, 2, 3, 4, 5, 6, 7, 8], [7])])
def hostlerref12_Remove.B8 : List Nat := [0, 0, 2, 6, 0, 16, 48, 126, 1, 511]
theorem hostlerref12_Remove.tab8 : rtab .any (opsOf Try.f24 8) = hostlerref12_Remove.T8 := by kernel_rfl
theorem hostlerref12_Remove.bits8 : waitsOk hostlerref12_Remove.T8.2 hostlerref12_Remove.B8 = true := by kernel_rfl
set_option maxHeartbeats 8000000 in
set_option maxRecDepth 100000 in
theorem hostlerref12_Remove.calls (k : Nat) (a0_0 : Int) (A0_1 : Option Addr) (c0_1 : Nat) (l0_1 : List Int) (A0_2 : Option Addr) (c0_2 : Nat) (l0_2 : List Int) (a1 : Int) (r1 : Int) (r2 : List Int) (r3 : List Int) (r4 : Bool) (w : World) (hr0_1 : Kd.C (Kd.int .i64) w A0_1 l0_1.length l0_1) (hc0_1 : l0_1.length ≤ c0_1) (hr0_2 : Kd.C (Kd.int .i64) w A0_2 l0_2.length l0_2) (hc0_2 : l0_2.length ≤ c0_2) (h : hostlerref12_Remove.f k a0_0 l0_1 l0_2 a1 = some (r1, r2, r3, r4)) :
    Calls Try.prog 24 #[.agg #[.int .i64 a0_0, .slice A0_1 l0_1.length c0_1, .slice A0_2 l0_2.length c0_2], .int .i64 a1] w fun e w' => ∃ v1_ v2_ : Value, e = .returned (.tuple #[.agg #[.int .i64 r1, v1_, v2_], .bool r4]) ∧ Kd.R (Kd.int .i64) 3 w' w.heap.size (fun k_ => some k_ ≠ (v2_ : Value).ownBlock) v1_ r2 ∧ Kd.R (Kd.int .i64) 3 w' w.heap.size (fun k_ => some k_ ≠ (v1_ : Value).ownBlock) v2_ r3 ∧ Below w.heap.size w w' := by
  have hu46 := Try.underlying46
  have HR0_1 := Aside0.mk hr0_1
  have HC0_1 := Aside0.mk hc0_1
  clear hr0_1 hc0_1
  have HR0_2 := Aside0.mk hr0_2
  have HC0_2 := Aside0.mk hc0_2
  clear hr0_2 hc0_2
  have HB := Aside0.mk (Below.refl w.heap.size w)
  have H : (hostlerref12_Remove.l0 k a1 0 a0_0 l0_1 l0_2 a0_0 ([] : List Int) ([] : List Int)) = some (r1, r2, r3, r4) := h
  clear h
  have H' := Aside0.mk H
  clear H
  go_enter Try.func24, Try.ntmps24
  go_wp2_with (first | ((with_reducible refine gate_dst (N := 2) rfl ?_); refine box_event ?hg (N := 2) ?hd (cs := #[.int .i64 a0_0, .slice A0_1 l0_1.length c0_1, .slice A0_2 l0_2.length c0_2]) (t := 46) ?hr ?_; (case hd => rfl); (case hg => rfl); (case hr => first | (go_simp; done) | (go_simp; rfl)); intro gb129 hg w3 hbox hb; have n0_ := Aside0.mk (below_step (by repeat (first | (with_reducible first | exact HB.out | apply below_alloc | apply pw_below_drewN | apply below_drew1) | exact HB.out)) hb); have n1_ := Aside0.mk (hbox); have n2_ := Aside0.mk ((by rw [hg]; exact (below_size (by repeat (first | (with_reducible first | exact HB.out | apply below_alloc | apply pw_below_drewN | apply below_drew1) | exact HB.out))) : w.heap.size ≤ gb129)); have n3_ := Aside0.mk ((by rw [hg]; exact (below_size (by repeat (first | (with_reducible first | exact HB.out | apply below_alloc | apply pw_below_drewN | apply below_drew1) | exact HB.out))) : w.heap.size ≤ gb129)); clear HB; have HB := n0_; have BK129 := n1_; have GW129 := n2_; have GE129 := n3_; clear n0_ n1_ n2_ n3_; clear hb hbox hg) | ((with_reducible refine gate_dst (N := 4) rfl ?_); refine box_event ?hg (N := 4) ?hd (cs := #[.int .i64 0, .slice none 0 0, .slice none 0 0]) (t := 46) ?hr ?_; (case hd => rfl); (case hg => rfl); (case hr => first | (go_simp; done) | (go_simp; rfl)); intro gb130 hg w4 hbox hb; have n0_ := Aside0.mk (blk_below (g := gb129) (o := .cells #[.int .i64 a0_0, .slice A0_1 l0_1.length c0_1, .slice A0_2 l0_2.length c0_2] 46 (0, 0)) (by (with_reducible repeat (first | refine blk_drewN ?_ _ | refine blk_drew ?_ | refine blk_alloc ?_ _)); exact BK129.out) hb); have n1_ := Aside0.mk (below_step (by repeat (first | (with_reducible first | exact HB.out | apply below_alloc | apply pw_below_drewN | apply below_drew1 | refine below_set ?_ GE129.out) | exact HB.out)) hb); have n2_ := Aside0.mk (hbox); have n3_ := Aside0.mk ((by rw [hg]; exact (below_size (by repeat (first | (with_reducible first | exact HB.out | apply below_alloc | apply pw_below_drewN | apply below_drew1 | refine below_set ?_ GE129.out) | exact HB.out))) : w.heap.size ≤ gb130)); have n4_ := Aside0.mk ((by rw [hg]; exact (below_size (by repeat (first | (with_reducible first | exact HB.out | apply below_alloc | apply pw_below_drewN | apply below_drew1 | refine below_set ?_ GE129.out) | exact HB.out))) : w.heap.size ≤ gb130)); have n5_ := Aside0.mk ((by rw [hg]; exact Nat.ne_of_lt (blk_lt (g := gb129) (o := .cells #[.int .i64 a0_0, .slice A0_1 l0_1.length c0_1, .slice A0_2 l0_2.length c0_2] 46 (0, 0)) (by (with_reducible repeat (first | refine blk_drewN ?_ _ | refine blk_drew ?_ | refine blk_alloc ?_ _)); exact BK129.out)) : gb129 ≠ gb130)); have n6_ := Aside0.mk ((by rw [hg]; exact Nat.ne_of_gt (blk_lt (g := gb129) (o := .cells #[.int .i64 a0_0, .slice A0_1 l0_1.length c0_1, .slice A0_2 l0_2.length c0_2] 46 (0, 0)) (by (with_reducible repeat (first | refine blk_drewN ?_ _ | refine blk_drew ?_ | refine blk_alloc ?_ _)); exact BK129.out)) : gb130 ≠ gb129)); clear BK129; clear HB; have BK129 := n0_; have HB := n1_; have BK130 := n2_; have GW130 := n3_; have GE130 := n4_; have NB129_130 := n5_; have NB130_129 := n6_; clear n0_ n1_ n2_ n3_ n4_ n5_ n6_; clear hb hbox hg; have hnb5 := NB129_130.out; have hnc5 := NB130_129.out; have hcz6_0 : w4.cell? ⟨gb129, 0, none⟩ = some (.int .i64 a0_0) := (blk_cell BK129.out 0).trans rfl; have hcz6_1 : w4.cell? ⟨gb129, 1, none⟩ = some (.slice A0_1 l0_1.length c0_1) := (blk_cell BK129.out 1).trans rfl; have hcz6_2 : w4.cell? ⟨gb129, 2, none⟩ = some (.slice A0_2 l0_2.length c0_2) := (blk_cell BK129.out 2).trans rfl; have hfz6_0 := blk_frozen BK129.out 0; have hfz6_1 := blk_frozen BK129.out 1; have hfz6_2 := blk_frozen BK129.out 2) | ((with_reducible refine gate_dst (N := 6) rfl ?_); refine box_event ?hg (N := 6) ?hd (cs := #[.int .i64 0, .slice none 0 0, .slice none 0 0]) (t := 46) ?hr ?_; (case hd => rfl); (case hg => rfl); (case hr => first | (go_simp; done) | (go_simp; rfl)); intro gb131 hg w7 hbox hb; have n0_ := Aside0.mk (blk_below (g := gb129) (o := .cells #[.int .i64 a0_0, .slice A0_1 l0_1.length c0_1, .slice A0_2 l0_2.length c0_2] 46 (0, 0)) (by (with_reducible repeat (first | refine blk_drewN ?_ _ | refine blk_drew ?_ | refine blk_alloc ?_ _)); exact BK129.out) hb); have n1_ := Aside0.mk (blk_below (g := gb130) (o := .cells #[.int .i64 0, .slice none 0 0, .slice none 0 0] 46 (0, 0)) (by (with_reducible repeat (first | refine blk_drewN ?_ _ | refine blk_drew ?_ | refine blk_alloc ?_ _)); exact BK130.out) hb); have n2_ := Aside0.mk (below_step (by repeat (first | (with_reducible first | exact HB.out | apply below_alloc | apply pw_below_drewN | apply below_drew1 | refine below_set ?_ GE129.out | refine below_set ?_ GE130.out) | exact HB.out)) hb); have n3_ := Aside0.mk (hbox); have n4_ := Aside0.mk ((by rw [hg]; exact (below_size (by repeat (first | (with_reducible first | exact HB.out | apply below_alloc | apply pw_below_drewN | apply below_drew1 | refine below_set ?_ GE129.out | refine below_set ?_ GE130.out) | exact HB.out))) : w.heap.size ≤ gb131)); have n5_ := Aside0.mk ((by rw [hg]; exact (below_size (by repeat (first | (with_reducible first | exact HB.out | apply below_alloc | apply pw_below_drewN | apply below_drew1 | refine below_set ?_ GE129.out | refine below_set ?_ GE130.out) | exact HB.out))) : w.heap.size ≤ gb131)); have n6_ := Aside0.mk ((by rw [hg]; exact Nat.ne_of_lt (blk_lt (g := gb129) (o := .cells #[.int .i64 a0_0, .slice A0_1 l0_1.length c0_1, .slice A0_2 l0_2.length c0_2] 46 (0, 0)) (by (with_reducible repeat (first | refine blk_drewN ?_ _ | refine blk_drew ?_ | refine blk_alloc ?_ _)); exact BK129.out)) : gb129 ≠ gb131)); have n7_ := Aside0.mk ((by rw [hg]; exact Nat.ne_of_gt (blk_lt (g := gb129) (o := .cells #[.int .i64 a0_0, .slice A0_1 l0_1.length c0_1, .slice A0_2 l0_2.length c0_2] 46 (0, 0)) (by (with_reducible repeat (first | refine blk_drewN ?_ _ | refine blk_drew ?_ | refine blk_alloc ?_ _)); exact BK129.out)) : gb131 ≠ gb129)); have n8_ := Aside0.mk ((by rw [hg]; exact Nat.ne_of_lt (blk_lt (g := gb130) (o := .cells #[.int .i64 0, .slice none 0 0, .slice none 0 0] 46 (0, 0)) (by (with_reducible repeat (first | refine blk_drewN ?_ _ | refine blk_drew ?_ | refine blk_alloc ?_ _)); exact BK130.out)) : gb130 ≠ gb131)); have n9_ := Aside0.mk ((by rw [hg]; exact Nat.ne_of_gt (blk_lt (g := gb130) (o := .cells #[.int .i64 0, .slice none 0 0, .slice none 0 0] 46 (0, 0)) (by (with_reducible repeat (first | refine blk_drewN ?_ _ | refine blk_drew ?_ | refine blk_alloc ?_ _)); exact BK130.out)) : gb131 ≠ gb130)); clear BK129; clear BK130; clear HB; have BK129 := n0_; have BK130 := n1_; have HB := n2_; have BK131 := n3_; have GW131 := n4_; have GE131 := n5_; have NB129_131 := n6_; have NB131_129 := n7_; have NB130_131 := n8_; have NB131_130 := n9_; clear n0_ n1_ n2_ n3_ n4_ n5_ n6_ n7_ n8_ n9_; clear hb hbox hg; have hnb8 := NB131_129.out; have hnc8 := NB129_131.out; have hnb9 := NB131_130.out; have hnc9 := NB130_131.out; have hcz10_0 : w7.cell? ⟨gb131, 0, none⟩ = some (.int .i64 0) := (blk_cell BK131.out 0).trans rfl; have hcz10_1 : w7.cell? ⟨gb131, 1, none⟩ = some (.slice none 0 0) := (blk_cell BK131.out 1).trans rfl; have hcz10_2 : w7.cell? ⟨gb131, 2, none⟩ = some (.slice none 0 0) := (blk_cell BK131.out 2).trans rfl; have hfz10_0 := blk_frozen BK131.out 0; have hfz10_1 := blk_frozen BK131.out 1; have hfz10_2 := blk_frozen BK131.out 2))
  go_loopg [7] k (fun kq v7 w' => ∃ (x7_1 : Int) (x132001_1 : List Int) (x132002_1 : List Int) (u132001 : Value) (u132002 : Value), v7 = .int .i64 x7_1 ∧ Aside0 (hostlerref12_Remove.l0 kq a1 x7_1 a0_0 l0_1 l0_2 a0_0 x132001_1 x132002_1 = some (r1, r2, r3, r4)) ∧ Aside0 (kq ≤ k) ∧ Aside0 (Kd.R (Kd.int .i64) 3 w' w.heap.size (fun k_ => some k_ ≠ (u132002 : Value).ownBlock) u132001 x132001_1) ∧ Aside0 (Kd.R (Kd.int .i64) 3 w' w.heap.size (fun k_ => some k_ ≠ (u132001 : Value).ownBlock) u132002 x132002_1) ∧ Aside0 (w'.heap[gb129]? = some (.cells #[.int .i64 a0_0, (.slice A0_1 l0_1.length c0_1), (.slice A0_2 l0_2.length c0_2)] 46 (0, 0))) ∧ Aside0 (w'.heap[gb130]? = some (.cells #[.int .i64 0, (.slice none 0 0), (.slice none 0 0)] 46 (0, 0))) ∧ Aside0 (w'.heap[gb131]? = some (.cells #[.int .i64 a0_0, u132001, u132002] 46 (0, 0))) ∧ Aside0 (Below w.heap.size w w'))
  case atStart => exact ⟨(0), (([] : List Int)), (([] : List Int)), (.slice none 0 0), (.slice none 0 0), (by first | rfl | (simp; done) | (simp [*]; done)), H', ⟨Nat.le_refl _⟩, ⟨by first | exact Kd.R_nil _ _ _ _ _ | exact Kd.N_nil _ _ _ _ _ | exact Kd.V_nil _ _ _ _ _ | exact Kd.Q_nil _ _ _ _ _ | exact Kd.S_nil _ _ _ _ _⟩, ⟨by first | exact Kd.R_nil _ _ _ _ _ | exact Kd.N_nil _ _ _ _ _ | exact Kd.V_nil _ _ _ _ _ | exact Kd.Q_nil _ _ _ _ _ | exact Kd.S_nil _ _ _ _ _⟩, ⟨by (with_reducible repeat (first | refine blk_drewN ?_ _ | refine blk_drew ?_ | refine blk_alloc ?_ _)); refine blk_far ?_ NB129_131.out _; (with_reducible repeat (first | refine blk_drewN ?_ _ | refine blk_drew ?_ | refine blk_alloc ?_ _)); refine blk_far ?_ NB129_131.out _; (with_reducible repeat (first | refine blk_drewN ?_ _ | refine blk_drew ?_ | refine blk_alloc ?_ _)); refine blk_far ?_ NB129_131.out _; (with_reducible repeat (first | refine blk_drewN ?_ _ | refine blk_drew ?_ | refine blk_alloc ?_ _)); exact BK129.out⟩, ⟨by (with_reducible repeat (first | refine blk_drewN ?_ _ | refine blk_drew ?_ | refine blk_alloc ?_ _)); refine blk_far ?_ NB130_131.out _; (with_reducible repeat (first | refine blk_drewN ?_ _ | refine blk_drew ?_ | refine blk_alloc ?_ _)); refine blk_far ?_ NB130_131.out _; (with_reducible repeat (first | refine blk_drewN ?_ _ | refine blk_drew ?_ | refine blk_alloc ?_ _)); refine blk_far ?_ NB130_131.out _; (with_reducible repeat (first | refine blk_drewN ?_ _ | refine blk_drew ?_ | refine blk_alloc ?_ _)); exact BK130.out⟩, ⟨by (with_reducible repeat (first | refine blk_drewN ?_ _ | refine blk_drew ?_ | refine blk_alloc ?_ _)); refine blk_put (cs := #[.int .i64 a0_0, .slice none 0 0, .slice none 0 0]) ?_ 2 _ rfl; (with_reducible repeat (first | refine blk_drewN ?_ _ | refine blk_drew ?_ | refine blk_alloc ?_ _)); refine blk_put (cs := #[.int .i64 a0_0, .slice none 0 0, .slice none 0 0]) ?_ 1 _ rfl; (with_reducible repeat (first | refine blk_drewN ?_ _ | refine blk_drew ?_ | refine blk_alloc ?_ _)); refine blk_put (cs := #[.int .i64 0, .slice none 0 0, .slice none 0 0]) ?_ 0 _ rfl; (with_reducible repeat (first | refine blk_drewN ?_ _ | refine blk_drew ?_ | refine blk_alloc ?_ _)); exact BK131.out⟩, ⟨by repeat (first | (with_reducible first | exact HB.out | apply below_alloc | apply pw_below_drewN | apply below_drew1 | refine below_set ?_ GE129.out | refine below_set ?_ GE130.out | refine below_set ?_ GE131.out) | exact HB.out)⟩⟩
  case round =>
    clear H'
    try clear c2
    try clear p2
    try clear c5
    try clear c8
    try clear c9
    try clear hcz10_0
    try clear hcz10_1
    try clear hcz10_2
    try clear hcz6_0
    try clear hcz6_1
    try clear hcz6_2
    try clear hfz10_0
    try clear hfz10_1
    try clear hfz10_2
    try clear hfz6_0
    try clear hfz6_1
    try clear hfz6_2
    obtain ⟨x7_1, x132001_1, x132002_1, u132001, u132002, rfl, HA, HK1, HO_132001, HO_132002, BK129, BK130, BK131, HB⟩ := hrel
    cases gk with
    | zero => exact absurd HA.out (by simp [hostlerref12_Remove.l0])
    | succ k1 =>
      have H := HA.out
      clear HA
      simp only [hostlerref12_Remove.l0] at H
      by_cases c11 : x7_1 < (l0_1.length : Int)
      · rw [if_pos c11] at H
        have c11b0 : decide (x7_1 < (l0_1.length : Int)) = true := decide_eq_true c11
        clear c11
        by_cases c12 : 0 ≤ x7_1
        · rw [if_pos c12] at H
          have c12b0 : decide (0 ≤ x7_1) = true := decide_eq_true c12
          clear c12
          by_cases c13 : (rd l0_1 x7_1) = a1
          · rw [if_pos c13] at H
            have c13b0 : ((rd l0_1 x7_1) == a1) = true := beq_iff_eq.mpr c13
            have c13b1 : ((rd l0_1 x7_1) != a1) = false := bne_eq_false_iff_eq.mpr c13
            clear c13
            have H' := Aside0.mk H
            clear H
            have hnb14 := NB129_130.out
            have hnc14 := NB130_129.out
            have hnb15 := NB129_131.out
            have hnc15 := NB131_129.out
            have hcz16_0 : wr.cell? ⟨gb129, 0, none⟩ = some (.int .i64 a0_0) := (blk_cell BK129.out 0).trans rfl
            have hcz16_1 : wr.cell? ⟨gb129, 1, none⟩ = some (.slice A0_1 l0_1.length c0_1) := (blk_cell BK129.out 1).trans rfl
            have hcz16_2 : wr.cell? ⟨gb129, 2, none⟩ = some (.slice A0_2 l0_2.length c0_2) := (blk_cell BK129.out 2).trans rfl
            have hfz16_0 := blk_frozen BK129.out 0
            have hfz16_1 := blk_frozen BK129.out 1
            have hfz16_2 := blk_frozen BK129.out 2
            have p132 : 0 ≤ (x7_1 : Int) := of_decide_eq_true (by first | (with_reducible assumption) | assumption)
            have q132 : x7_1 < (l0_1.length : Int) := of_decide_eq_true (by first | (with_reducible assumption) | assumption)
            obtain ⟨ad132, e132, hx132_0⟩ := Kd.at_int HR0_1.out x7_1 p132 q132
            cases e132
            replace hx132_0 := (HB.out.cell (World.block_lt_of_cell? w _ hx132_0)).trans hx132_0
            replace p132 := eq_true p132
            replace q132 := eq_true q132
            go_wp2
            go_roundg k1
            case measure => have := HK1.out; omega
            case rel => exact ⟨(wrap64 (x7_1 + 1)), (x132001_1), (x132002_1), (u132001), (u132002), (by first | rfl | (simp; done) | (simp [*]; done)), H', ⟨by have := HK1.out; omega⟩, ⟨by (with_reducible repeat (first | apply Kd.R_alloc | apply Kd.R_drewN | apply Kd.R_drew)); exact HO_132001.out⟩, ⟨by (with_reducible repeat (first | apply Kd.R_alloc | apply Kd.R_drewN | apply Kd.R_drew)); exact HO_132002.out⟩, ⟨by (with_reducible repeat (first | refine blk_drewN ?_ _ | refine blk_drew ?_ | refine blk_alloc ?_ _)); exact BK129.out⟩, ⟨by (with_reducible repeat (first | refine blk_drewN ?_ _ | refine blk_drew ?_ | refine blk_alloc ?_ _)); exact BK130.out⟩, ⟨by (with_reducible repeat (first | refine blk_drewN ?_ _ | refine blk_drew ?_ | refine blk_alloc ?_ _)); exact BK131.out⟩, ⟨by repeat (first | (with_reducible first | exact HB.out | apply below_alloc | apply pw_below_drewN | apply below_drew1 | refine below_set ?_ GE129.out | refine below_set ?_ GE130.out | refine below_set ?_ GE131.out) | exact HB.out)⟩⟩
          · rw [if_neg c13] at H
            have c13b0 : ((rd l0_1 x7_1) == a1) = false := beq_eq_false_iff_ne.mpr c13
            have c13b1 : ((rd l0_1 x7_1) != a1) = true := bne_iff_ne.mpr c13
            by_cases c17 : x132001_1.length < 17592186044416
            · rw [if_pos c17] at H
              have LMc17 := Aside0.mk c17
              clear c17
              obtain ⟨y134, hy134⟩ : ∃ y_ : List Int, y_ = (x132001_1 ++ [rd l0_1 x7_1]) := ⟨_, rfl⟩
              replace H : (if x7_1 < (l0_2.length : Int) then (if x132002_1.length < 17592186044416 then (hostlerref12_Remove.l0 k1 a1 (wrap64 (x7_1 + 1)) a0_0 l0_1 l0_2 a0_0 y134 (x132002_1 ++ [rd l0_2 x7_1])) else (none)) else (none)) = some (r1, r2, r3, r4) := by first | (rw [hy134]; with_reducible exact H) | (have H2_ := (Option.bind_some _ _).symm.trans H; rw [hy134]; with_reducible exact H2_) | (have H2_ := (Option.bind_some _ _).symm.trans H; with_reducible exact H2_) | with_reducible exact H | (rw [hy134]; exact H) | exact H
              have Ny134 := Aside0.mk hy134
              clear hy134
              by_cases c18 : x7_1 < (l0_2.length : Int)
              · rw [if_pos c18] at H
                have c18b0 : decide (x7_1 < (l0_2.length : Int)) = true := decide_eq_true c18
                clear c18
                by_cases c19 : x132002_1.length < 17592186044416
                · rw [if_pos c19] at H
                  have LMc19 := Aside0.mk c19
                  clear c19
                  obtain ⟨y138, hy138⟩ : ∃ y_ : List Int, y_ = (x132002_1 ++ [rd l0_2 x7_1]) := ⟨_, rfl⟩
                  replace H : (hostlerref12_Remove.l0 k1 a1 (wrap64 (x7_1 + 1)) a0_0 l0_1 l0_2 a0_0 y134 y138) = some (r1, r2, r3, r4) := by first | (rw [hy138]; with_reducible exact H) | (have H2_ := (Option.bind_some _ _).symm.trans H; rw [hy138]; with_reducible exact H2_) | (have H2_ := (Option.bind_some _ _).symm.trans H; with_reducible exact H2_) | with_reducible exact H | (rw [hy138]; exact H) | exact H
                  have Ny138 := Aside0.mk hy138
                  clear hy138
                  have H' := Aside0.mk H
                  clear H
                  have hnb20 := NB129_130.out
                  have hnc20 := NB130_129.out
                  have hnb21 := NB129_131.out
                  have hnc21 := NB131_129.out
                  have hcz22_0 : wr.cell? ⟨gb129, 0, none⟩ = some (.int .i64 a0_0) := (blk_cell BK129.out 0).trans rfl
                  have hcz22_1 : wr.cell? ⟨gb129, 1, none⟩ = some (.slice A0_1 l0_1.length c0_1) := (blk_cell BK129.out 1).trans rfl
                  have hcz22_2 : wr.cell? ⟨gb129, 2, none⟩ = some (.slice A0_2 l0_2.length c0_2) := (blk_cell BK129.out 2).trans rfl
                  have hfz22_0 := blk_frozen BK129.out 0
                  have hfz22_1 := blk_frozen BK129.out 1
                  have hfz22_2 := blk_frozen BK129.out 2
                  have p132 : 0 ≤ (x7_1 : Int) := of_decide_eq_true (by first | (with_reducible assumption) | assumption)
                  have q132 : x7_1 < (l0_1.length : Int) := of_decide_eq_true (by first | (with_reducible assumption) | assumption)
                  obtain ⟨ad132, e132, hx132_0⟩ := Kd.at_int HR0_1.out x7_1 p132 q132
                  cases e132
                  replace hx132_0 := (HB.out.cell (World.block_lt_of_cell? w _ hx132_0)).trans hx132_0
                  replace p132 := eq_true p132
                  replace q132 := eq_true q132
                  try go_wp2
                  have n0_ := Aside0.mk (Kd.R_drew HO_132001.out)
                  have n1_ := Aside0.mk (Kd.R_drew HO_132002.out)
                  have n2_ := Aside0.mk (blk_drew BK129.out)
                  have n3_ := Aside0.mk (blk_drew BK130.out)
                  have n4_ := Aside0.mk (blk_drew BK131.out)
                  have n5_ := Aside0.mk (below_drew1 HB.out)
                  clear HO_132001
                  clear HO_132002
                  clear BK129
                  clear BK130
                  clear BK131
                  clear HB
                  have HO_132001 := n0_
                  have HO_132002 := n1_
                  have BK129 := n2_
                  have BK130 := n3_
                  have BK131 := n4_
                  have HB := n5_
                  clear n0_ n1_ n2_ n3_ n4_ n5_
                  have p133 : 0 ≤ (x7_1 : Int) := of_decide_eq_true (by first | (with_reducible assumption) | assumption)
                  have q133 : x7_1 < (l0_1.length : Int) := of_decide_eq_true (by first | (with_reducible assumption) | assumption)
                  obtain ⟨ad133, e133, hx133_0⟩ := Kd.at_int HR0_1.out x7_1 p133 q133
                  have hw133_0 := hx133_0
                  obtain rfl : ad132 = ad133 := (by injection e133)
                  replace hx133_0 := (HB.out.cell (World.block_lt_of_cell? w _ hx133_0)).trans hx133_0
                  replace p133 := eq_true p133
                  replace q133 := eq_true q133
                  refine start_ (n := 11) (S := fun w' => w'.cell? ⟨gb131, 0, none⟩ = some (.int .i64 a0_0) ∧ w'.cell? ⟨gb131, 1, none⟩ = some (u132001) ∧ w'.cell? ⟨gb131, 2, none⟩ = some (u132002) ∧ w'.cell? ⟨gb129, 0, none⟩ = some (.int .i64 a0_0) ∧ w'.cell? ⟨gb129, 1, none⟩ = some (.slice (some ad132) l0_1.length c0_1) ∧ w'.cell? ⟨gb129, 2, none⟩ = some (.slice A0_2 l0_2.length c0_2) ∧ w'.cell? (ad132.add (x7_1).toNat) = some (.int .i64 (rd l0_1 x7_1))) (ds := [10]) #[false, false, false, false, false, false, false, false, false, false, false] (by kernel_rfl) rfl rfl ⟨(blk_cell BK131.out 0).trans rfl, (blk_cell BK131.out 1).trans rfl, (blk_cell BK131.out 2).trans rfl, (blk_cell BK129.out 0).trans rfl, (blk_cell BK129.out 1).trans rfl, (blk_cell BK129.out 2).trans rfl, ((HB.out.cell (World.block_lt_of_cell? w _ hw133_0)).trans hw133_0)⟩ (fun hHeld => ?_); refine with_tabW hostlerref12_Remove.tab6 hostlerref12_Remove.bits6 (fun HT_ HW_ => ?_)
                  generalize wr.drew = w23 at HO_132001 HO_132002 BK129 BK130 BK131 HB hx133_0 hHeld ⊢
                  refine pure_ (i := 0) (N := some 25) (v := ?_) (a' := ?_) #[true, false, false, false, false, false, false, false, false, false, false] rfl rfl (any_of HT_.out (by kernel_rfl)) (fun _ _ _ h => h) (Or.inl ⟨by rfl, ?_⟩) ?_ ?_
                  rotate_left
                  · intro w'
                    go_simp
                    with_reducible rfl
                  rotate_left
                  · simp only [Act.put, List.setIfInBounds_toArray, List.set_cons_zero, List.set_cons_succ, i64_w, i32_w]
                    rfl
                  refine pure_ (i := 2) (N := some 27) (v := ?_) (a' := ?_) #[true, false, true, false, false, false, false, false, false, false, false] rfl rfl (any_of HT_.out (by kernel_rfl)) (fun _ _ _ h => h) (Or.inl ⟨by rfl, ?_⟩) ?_ ?_
                  rotate_left
                  · intro w'
                    go_simp
                    with_reducible rfl
                  rotate_left
                  · simp only [Act.put, List.setIfInBounds_toArray, List.set_cons_zero, List.set_cons_succ, i64_w, i32_w]
                    rfl
                  refine pure_ (i := 4) (N := some 29) (v := ?_) (a' := ?_) #[true, false, true, false, true, false, false, false, false, false, false] rfl rfl (any_of HT_.out (by kernel_rfl)) (fun _ _ _ h => h) (Or.inl ⟨by rfl, ?_⟩) ?_ ?_
                  rotate_left
                  · intro w'
                    go_simp
                    with_reducible rfl
                  rotate_left
                  · simp only [Act.put, List.setIfInBounds_toArray, List.set_cons_zero, List.set_cons_succ, i64_w, i32_w]
                    rfl
                  refine take_ (i := 1) (N := some 26) (v := ?_) (a' := ?_) #[true, true, true, false, true, false, false, false, false, false, false] rfl rfl (take_ofW HT_.out HW_.out (by kernel_rfl)) (fun _ _ _ h => h) (Or.inl ⟨by rfl, ?_⟩) hHeld ?_ ?_
                  rotate_left
                  · rintro w' ⟨s0, s1, s2, s3, s4, s5, s6⟩
                    go_simp
                    with_reducible rfl
                  rotate_left
                  · simp only [Act.put, List.setIfInBounds_toArray, List.set_cons_zero, List.set_cons_succ, i64_w, i32_w]
                    rfl
                  refine take_ (i := 3) (N := some 28) (v := ?_) (a' := ?_) #[true, true, true, true, true, false, false, false, false, false, false] rfl rfl (take_ofW HT_.out HW_.out (by kernel_rfl)) (fun _ _ _ h => h) (Or.inl ⟨by rfl, ?_⟩) hHeld ?_ ?_
                  rotate_left
                  · rintro w' ⟨s0, s1, s2, s3, s4, s5, s6⟩
                    go_simp
                    with_reducible rfl
                  rotate_left
                  · simp only [Act.put, List.setIfInBounds_toArray, List.set_cons_zero, List.set_cons_succ, i64_w, i32_w]
                    rfl
                  refine pure_ (i := 5) (N := some 30) (v := ?_) (a' := ?_) #[true, true, true, true, true, true, false, false, false, false, false] rfl rfl (any_of HT_.out (by kernel_rfl)) (fun _ _ _ h => h) (Or.inl ⟨by rfl, ?_⟩) ?_ ?_
                  rotate_left
                  · intro w'
                    go_simp
                    with_reducible rfl
                  rotate_left
                  · simp only [Act.put, List.setIfInBounds_toArray, List.set_cons_zero, List.set_cons_succ, i64_w, i32_w]
                    rfl
                  refine take_ (i := 6) (N := some 31) (v := ?_) (a' := ?_) #[true, true, true, true, true, true, true, false, false, false, false] rfl rfl (take_ofW HT_.out HW_.out (by kernel_rfl)) (fun _ _ _ h => h) (Or.inl ⟨by rfl, ?_⟩) hHeld ?_ ?_
                  rotate_left
                  · rintro w' ⟨s0, s1, s2, s3, s4, s5, s6⟩
                    go_simp
                    with_reducible rfl
                  rotate_left
                  · simp only [Act.put, List.setIfInBounds_toArray, List.set_cons_zero, List.set_cons_succ, i64_w, i32_w]
                    rfl
                  refine one_ (i := 7) (N := some 32) #[true, true, true, true, true, true, true, true, false, false, false] rfl rfl (one_of HT_.out (by kernel_rfl)) (by decide) (fun K hK => ?_)
                  refine value_ (w1 := ?_) (v := ?_) (by rfl) rfl ?_ ?_
                  rotate_left 2
                  · go_simp
                    constructor
                    · rfl
                    · rfl
                  refine hK.out _ _ ⟨(blk_cell (blk_alloc BK131.out _) 0).trans rfl, (blk_cell (blk_alloc BK131.out _) 1).trans rfl, (blk_cell (blk_alloc BK131.out _) 2).trans rfl, (blk_cell (blk_alloc BK129.out _) 0).trans rfl, (blk_cell (blk_alloc BK129.out _) 1).trans rfl, (blk_cell (blk_alloc BK129.out _) 2).trans rfl, (World.cell?_alloc_lt _ _ _ (World.block_lt_of_cell? _ _ (((HB.out.cell (World.block_lt_of_cell? w _ hw133_0)).trans hw133_0)))).trans (((HB.out.cell (World.block_lt_of_cell? w _ hw133_0)).trans hw133_0))⟩ (fun hHeld => ?_)
                  clear hK K
                  refine norm_ (a' := ?_) ?_ ?_
                  rotate_left
                  · show Act.put _ (some 32) _ = _
                    simp only [Act.put, List.setIfInBounds_toArray, List.set_cons_zero, List.set_cons_succ, i64_w, i32_w]
                    rfl
                  refine one_ (i := 8) (N := some 33) #[true, true, true, true, true, true, true, true, true, false, false] rfl rfl (one_of HT_.out (by kernel_rfl)) (by decide) (fun K hK => ?_)
                  refine Kd.R_append_step (Kd.int .i64) (w0 := w) w.heap.size (by rfl) (.tmp 26) (.tmp 32) 38 3 (.int .i64 0) 8 rfl Try.underlying38 info3 rfl (by decide) (by omega) u132001 x132001_1 (rd l0_1 x7_1) [.int .i64 (rd l0_1 x7_1)] (fun k_ => some k_ ≠ (u132002 : Value).ownBlock) (fun _ => False) rfl rfl ?aP (fun _ hk => hk.elim) ?aF ?aO ?aB ?aS ?aL ?_
                  (case aP => exact rfl)
                  (case aB => exact (by repeat (first | (with_reducible first | exact HB.out | apply below_alloc | apply pw_below_drewN | apply below_drew1 | refine below_set ?_ GE129.out | refine below_set ?_ GE130.out | refine below_set ?_ GE131.out) | exact HB.out)))
                  (case aF => exact (fun k_ hk => Kd.fresh' (Kd.R_lt (by (with_reducible repeat (first | apply Kd.R_alloc | apply Kd.R_drewN | apply Kd.R_drew)); exact HO_132002.out)) k_ hk))
                  (case aO => exact (by (with_reducible repeat (first | apply Kd.R_alloc | apply Kd.R_drewN | apply Kd.R_drew)); exact HO_132001.out))
                  (case aS => exact (below_size (by repeat (first | (with_reducible first | exact HB.out | apply below_alloc | apply pw_below_drewN | apply below_drew1 | refine below_set ?_ GE129.out | refine below_set ?_ GE130.out | refine below_set ?_ GE131.out) | exact HB.out))))
                  (case aL => have := LMc17.out; omega)
                  intro v135 w24 ho hb hg hat
                  rw [← Ny134.out] at ho
                  have n0_ := Aside0.mk (Kd.R_after (ok := (fun _ => True)) (by (with_reducible repeat (first | apply Kd.R_alloc | apply Kd.R_drewN | apply Kd.R_drew)); exact Kd.R_mono HO_132002.out (fun _ hk => ⟨trivial, hk⟩)) hg hat)
                  have n1_ := Aside0.mk (blk_grown (g := gb129) (o := .cells #[.int .i64 a0_0, .slice (some ad132) l0_1.length c0_1, .slice A0_2 l0_2.length c0_2] 46 (0, 0)) (by (with_reducible repeat (first | refine blk_drewN ?_ _ | refine blk_drew ?_ | refine blk_alloc ?_ _)); exact BK129.out) hg (Kd.R_ne HO_132001.out BK129.out (by decide)))
                  have n2_ := Aside0.mk (blk_grown (g := gb130) (o := .cells #[.int .i64 0, .slice none 0 0, .slice none 0 0] 46 (0, 0)) (by (with_reducible repeat (first | refine blk_drewN ?_ _ | refine blk_drew ?_ | refine blk_alloc ?_ _)); exact BK130.out) hg (Kd.R_ne HO_132001.out BK130.out (by decide)))
                  have n3_ := Aside0.mk (blk_grown (g := gb131) (o := .cells #[.int .i64 a0_0, u132001, u132002] 46 (0, 0)) (by (with_reducible repeat (first | refine blk_drewN ?_ _ | refine blk_drew ?_ | refine blk_alloc ?_ _)); exact BK131.out) hg (Kd.R_ne HO_132001.out BK131.out (by decide)))
                  have n4_ := Aside0.mk (hb)
                  have n5_ := Aside0.mk (ho)
                  clear HO_132002
                  clear BK129
                  clear BK130
                  clear BK131
                  clear HB
                  clear HO_132001
                  have HO_132002 := n0_
                  have BK129 := n1_
                  have BK130 := n2_
                  have BK131 := n3_
                  have HB := n4_
                  have HO136 := n5_
                  clear n0_ n1_ n2_ n3_ n4_ n5_
                  clear ho hb hg hat
                  obtain ⟨Ao25, co25, eo25⟩ := Kd.R_slice HO136.out
                  (first | subst eo25 | (injection eo25 with f1_ f2_ f3_; have f4_ := f1_.symm; have f5_ := f3_.symm; clear f1_ f2_ f3_; subst f4_; subst f5_))
                  refine hK.out _ _ ⟨(blk_cell BK131.out 0).trans rfl, (blk_cell BK131.out 1).trans rfl, (blk_cell BK131.out 2).trans rfl, (blk_cell BK129.out 0).trans rfl, (blk_cell BK129.out 1).trans rfl, (blk_cell BK129.out 2).trans rfl, ((HB.out.cell (World.block_lt_of_cell? w _ hw133_0)).trans hw133_0)⟩ (fun hHeld => ?_)
                  clear hK K
                  refine norm_ (a' := ?_) ?_ ?_
                  rotate_left
                  · show Act.put _ (some 33) _ = _
                    simp only [Act.put, List.setIfInBounds_toArray, List.set_cons_zero, List.set_cons_succ, i64_w, i32_w]
                    rfl
                  refine pure_ (i := 9) (N := some 34) (v := ?_) (a' := ?_) #[true, true, true, true, true, true, true, true, true, true, false] rfl rfl (any_of HT_.out (by kernel_rfl)) (fun _ _ _ h => h) (Or.inl ⟨by rfl, ?_⟩) ?_ ?_
                  rotate_left
                  · intro w'
                    go_simp
                    with_reducible rfl
                  rotate_left
                  · simp only [Act.put, List.setIfInBounds_toArray, List.set_cons_zero, List.set_cons_succ, i64_w, i32_w]
                    rfl
                  refine last_ (i := 10) (N := none) #[true, true, true, true, true, true, true, true, true, true, true] rfl rfl (one_of HT_.out (by kernel_rfl)) (by decide) (fun K hK => ?_)
                  have hs26 : w24.cell? ⟨gb131, 1, none⟩ = some (u132001) := (blk_cell BK131.out 1).trans rfl
                  have hfs26 := blk_frozen BK131.out 1
                  have hns26_0 := NB129_131.out
                  have hns26_1 := NB130_131.out
                  have hms26_0 := NB131_129.out
                  have hms26_1 := NB131_130.out
                  refine skip_ (w1 := ?_) (by rfl) rfl ?_ ?_
                  rotate_left
                  · go_simp
                    rfl
                  refine hK.out _ _ ?_
                  clear hK K
                  refine done_ (done_of HT_.out (by kernel_rfl)) ?_
                  try go_wp2
                  have n0_ : Aside0 (Kd.R (Kd.int .i64) 3 (w24.setCell ⟨gb131, 1, none⟩ (.slice Ao25 y134.length co25)) w.heap.size (fun k_ => some k_ ≠ (.slice Ao25 y134.length co25 : Value).ownBlock) u132002 x132002_1) := ⟨by (with_reducible repeat (first | apply Kd.R_alloc | apply Kd.R_drewN | apply Kd.R_drew)); exact Kd.R_mono (Kd.R_far (p := ⟨gb131, 1, none⟩) (Kd.R_types HO_132002.out BK131.out (by decide)) (fun _ hk => hk.2) (.slice Ao25 y134.length co25)) (fun _ hk => hk.1.2)⟩
                  have n1_ : Aside0 (Kd.R (Kd.int .i64) 3 (w24.setCell ⟨gb131, 1, none⟩ (.slice Ao25 y134.length co25)) w.heap.size (fun k_ => some k_ ≠ (u132002 : Value).ownBlock) (.slice Ao25 y134.length co25) y134) := ⟨by (with_reducible repeat (first | apply Kd.R_alloc | apply Kd.R_drewN | apply Kd.R_drew)); exact Kd.R_mono (Kd.R_far (p := ⟨gb131, 1, none⟩) (Kd.R_types HO136.out BK131.out (by decide)) (fun _ hk => hk.2) (.slice Ao25 y134.length co25)) (fun _ hk => hk.1)⟩
                  have n2_ : Aside0 ((w24.setCell ⟨gb131, 1, none⟩ (.slice Ao25 y134.length co25)).heap[gb129]? = some (.cells #[.int .i64 a0_0, .slice (some ad132) l0_1.length c0_1, .slice A0_2 l0_2.length c0_2] 46 (0, 0))) := ⟨by (with_reducible repeat (first | refine blk_drewN ?_ _ | refine blk_drew ?_ | refine blk_alloc ?_ _)); refine blk_far ?_ NB129_131.out _; (with_reducible repeat (first | refine blk_drewN ?_ _ | refine blk_drew ?_ | refine blk_alloc ?_ _)); exact BK129.out⟩
                  have n3_ : Aside0 ((w24.setCell ⟨gb131, 1, none⟩ (.slice Ao25 y134.length co25)).heap[gb130]? = some (.cells #[.int .i64 0, .slice none 0 0, .slice none 0 0] 46 (0, 0))) := ⟨by (with_reducible repeat (first | refine blk_drewN ?_ _ | refine blk_drew ?_ | refine blk_alloc ?_ _)); refine blk_far ?_ NB130_131.out _; (with_reducible repeat (first | refine blk_drewN ?_ _ | refine blk_drew ?_ | refine blk_alloc ?_ _)); exact BK130.out⟩
                  have n4_ : Aside0 ((w24.setCell ⟨gb131, 1, none⟩ (.slice Ao25 y134.length co25)).heap[gb131]? = some (.cells #[.int .i64 a0_0, .slice Ao25 y134.length co25, u132002] 46 (0, 0))) := ⟨by (with_reducible repeat (first | refine blk_drewN ?_ _ | refine blk_drew ?_ | refine blk_alloc ?_ _)); refine blk_put (cs := #[.int .i64 a0_0, u132001, u132002]) ?_ 1 _ rfl; (with_reducible repeat (first | refine blk_drewN ?_ _ | refine blk_drew ?_ | refine blk_alloc ?_ _)); exact BK131.out⟩
                  have n5_ : Aside0 (Below w.heap.size w (w24.setCell ⟨gb131, 1, none⟩ (.slice Ao25 y134.length co25))) := ⟨by repeat (first | (with_reducible first | exact HB.out | apply below_alloc | apply pw_below_drewN | apply below_drew1 | refine below_set ?_ GE129.out | refine below_set ?_ GE130.out | refine below_set ?_ GE131.out) | exact HB.out)⟩
                  (try clear HO_132002)
                  (try clear HO136)
                  (try clear BK129)
                  (try clear BK130)
                  (try clear BK131)
                  (try clear HB)
                  generalize (w24.setCell ⟨gb131, 1, none⟩ (.slice Ao25 y134.length co25)) = w27 at n0_ n1_ n2_ n3_ n4_ n5_ ⊢
                  have HO_132002 := n0_
                  have HO136 := n1_
                  have BK129 := n2_
                  have BK130 := n3_
                  have BK131 := n4_
                  have HB := n5_
                  clear n0_ n1_ n2_ n3_ n4_ n5_
                  have n0_ := Aside0.mk (Kd.R_drew HO_132002.out)
                  have n1_ := Aside0.mk (Kd.R_drew HO136.out)
                  have n2_ := Aside0.mk (blk_drew BK129.out)
                  have n3_ := Aside0.mk (blk_drew BK130.out)
                  have n4_ := Aside0.mk (blk_drew BK131.out)
                  have n5_ := Aside0.mk (below_drew1 HB.out)
                  clear HO_132002
                  clear HO136
                  clear BK129
                  clear BK130
                  clear BK131
                  clear HB
                  have HO_132002 := n0_
                  have HO136 := n1_
                  have BK129 := n2_
                  have BK130 := n3_
                  have BK131 := n4_
                  have HB := n5_
                  clear n0_ n1_ n2_ n3_ n4_ n5_
                  have p137 : 0 ≤ (x7_1 : Int) := of_decide_eq_true (by first | (with_reducible assumption) | assumption)
                  have q137 : x7_1 < (l0_2.length : Int) := of_decide_eq_true (by first | (with_reducible assumption) | assumption)
                  obtain ⟨ad137, e137, hx137_0⟩ := Kd.at_int HR0_2.out x7_1 p137 q137
                  have hw137_0 := hx137_0
                  cases e137
                  replace hx137_0 := (HB.out.cell (World.block_lt_of_cell? w _ hx137_0)).trans hx137_0
                  replace p137 := eq_true p137
                  replace q137 := eq_true q137
                  refine start_ (n := 11) (S := fun w' => w'.cell? ⟨gb131, 0, none⟩ = some (.int .i64 a0_0) ∧ w'.cell? ⟨gb131, 1, none⟩ = some (.slice Ao25 y134.length co25) ∧ w'.cell? ⟨gb131, 2, none⟩ = some (u132002) ∧ w'.cell? ⟨gb129, 0, none⟩ = some (.int .i64 a0_0) ∧ w'.cell? ⟨gb129, 1, none⟩ = some (.slice (some ad132) l0_1.length c0_1) ∧ w'.cell? ⟨gb129, 2, none⟩ = some (.slice (some ad137) l0_2.length c0_2) ∧ w'.cell? (ad137.add (x7_1).toNat) = some (.int .i64 (rd l0_2 x7_1))) (ds := [10]) #[false, false, false, false, false, false, false, false, false, false, false] (by kernel_rfl) rfl rfl ⟨(blk_cell BK131.out 0).trans rfl, (blk_cell BK131.out 1).trans rfl, (blk_cell BK131.out 2).trans rfl, (blk_cell BK129.out 0).trans rfl, (blk_cell BK129.out 1).trans rfl, (blk_cell BK129.out 2).trans rfl, ((HB.out.cell (World.block_lt_of_cell? w _ hw137_0)).trans hw137_0)⟩ (fun hHeld => ?_); refine with_tabW hostlerref12_Remove.tab7 hostlerref12_Remove.bits7 (fun HT_ HW_ => ?_)
                  generalize w27.drew = w28 at HO_132002 HO136 BK129 BK130 BK131 HB hx137_0 hHeld ⊢
                  refine pure_ (i := 0) (N := some 35) (v := ?_) (a' := ?_) #[true, false, false, false, false, false, false, false, false, false, false] rfl rfl (any_of HT_.out (by kernel_rfl)) (fun _ _ _ h => h) (Or.inl ⟨by rfl, ?_⟩) ?_ ?_
                  rotate_left
                  · intro w'
                    go_simp
                    with_reducible rfl
                  rotate_left
                  · simp only [Act.put, List.setIfInBounds_toArray, List.set_cons_zero, List.set_cons_succ, i64_w, i32_w]
                    rfl
                  refine pure_ (i := 2) (N := some 37) (v := ?_) (a' := ?_) #[true, false, true, false, false, false, false, false, false, false, false] rfl rfl (any_of HT_.out (by kernel_rfl)) (fun _ _ _ h => h) (Or.inl ⟨by rfl, ?_⟩) ?_ ?_
                  rotate_left
                  · intro w'
                    go_simp
                    with_reducible rfl
                  rotate_left
                  · simp only [Act.put, List.setIfInBounds_toArray, List.set_cons_zero, List.set_cons_succ, i64_w, i32_w]
                    rfl
                  refine pure_ (i := 4) (N := some 39) (v := ?_) (a' := ?_) #[true, false, true, false, true, false, false, false, false, false, false] rfl rfl (any_of HT_.out (by kernel_rfl)) (fun _ _ _ h => h) (Or.inl ⟨by rfl, ?_⟩) ?_ ?_
                  rotate_left
                  · intro w'
                    go_simp
                    with_reducible rfl
                  rotate_left
                  · simp only [Act.put, List.setIfInBounds_toArray, List.set_cons_zero, List.set_cons_succ, i64_w, i32_w]
                    rfl
                  refine take_ (i := 1) (N := some 36) (v := ?_) (a' := ?_) #[true, true, true, false, true, false, false, false, false, false, false] rfl rfl (take_ofW HT_.out HW_.out (by kernel_rfl)) (fun _ _ _ h => h) (Or.inl ⟨by rfl, ?_⟩) hHeld ?_ ?_
                  rotate_left
                  · rintro w' ⟨s0, s1, s2, s3, s4, s5, s6⟩
                    go_simp
                    with_reducible rfl
                  rotate_left
                  · simp only [Act.put, List.setIfInBounds_toArray, List.set_cons_zero, List.set_cons_succ, i64_w, i32_w]
                    rfl
                  refine take_ (i := 3) (N := some 38) (v := ?_) (a' := ?_) #[true, true, true, true, true, false, false, false, false, false, false] rfl rfl (take_ofW HT_.out HW_.out (by kernel_rfl)) (fun _ _ _ h => h) (Or.inl ⟨by rfl, ?_⟩) hHeld ?_ ?_
                  rotate_left
                  · rintro w' ⟨s0, s1, s2, s3, s4, s5, s6⟩
                    go_simp
                    with_reducible rfl
                  rotate_left
                  · simp only [Act.put, List.setIfInBounds_toArray, List.set_cons_zero, List.set_cons_succ, i64_w, i32_w]
                    rfl
                  refine pure_ (i := 5) (N := some 40) (v := ?_) (a' := ?_) #[true, true, true, true, true, true, false, false, false, false, false] rfl rfl (any_of HT_.out (by kernel_rfl)) (fun _ _ _ h => h) (Or.inl ⟨by rfl, ?_⟩) ?_ ?_
                  rotate_left
                  · intro w'
                    go_simp
                    with_reducible rfl
                  rotate_left
                  · simp only [Act.put, List.setIfInBounds_toArray, List.set_cons_zero, List.set_cons_succ, i64_w, i32_w]
                    rfl
                  refine take_ (i := 6) (N := some 41) (v := ?_) (a' := ?_) #[true, true, true, true, true, true, true, false, false, false, false] rfl rfl (take_ofW HT_.out HW_.out (by kernel_rfl)) (fun _ _ _ h => h) (Or.inl ⟨by rfl, ?_⟩) hHeld ?_ ?_
                  rotate_left
                  · rintro w' ⟨s0, s1, s2, s3, s4, s5, s6⟩
                    go_simp
                    with_reducible rfl
                  rotate_left
                  · simp only [Act.put, List.setIfInBounds_toArray, List.set_cons_zero, List.set_cons_succ, i64_w, i32_w]
                    rfl
                  refine one_ (i := 7) (N := some 42) #[true, true, true, true, true, true, true, true, false, false, false] rfl rfl (one_of HT_.out (by kernel_rfl)) (by decide) (fun K hK => ?_)
                  refine value_ (w1 := ?_) (v := ?_) (by rfl) rfl ?_ ?_
                  rotate_left 2
                  · go_simp
                    constructor
                    · rfl
                    · rfl
                  refine hK.out _ _ ⟨(blk_cell (blk_alloc BK131.out _) 0).trans rfl, (blk_cell (blk_alloc BK131.out _) 1).trans rfl, (blk_cell (blk_alloc BK131.out _) 2).trans rfl, (blk_cell (blk_alloc BK129.out _) 0).trans rfl, (blk_cell (blk_alloc BK129.out _) 1).trans rfl, (blk_cell (blk_alloc BK129.out _) 2).trans rfl, (World.cell?_alloc_lt _ _ _ (World.block_lt_of_cell? _ _ (((HB.out.cell (World.block_lt_of_cell? w _ hw137_0)).trans hw137_0)))).trans (((HB.out.cell (World.block_lt_of_cell? w _ hw137_0)).trans hw137_0))⟩ (fun hHeld => ?_)
                  clear hK K
                  refine norm_ (a' := ?_) ?_ ?_
                  rotate_left
                  · show Act.put _ (some 42) _ = _
                    simp only [Act.put, List.setIfInBounds_toArray, List.set_cons_zero, List.set_cons_succ, i64_w, i32_w]
                    rfl
                  refine one_ (i := 8) (N := some 43) #[true, true, true, true, true, true, true, true, true, false, false] rfl rfl (one_of HT_.out (by kernel_rfl)) (by decide) (fun K hK => ?_)
                  refine Kd.R_append_step (Kd.int .i64) (w0 := w) w.heap.size (by rfl) (.tmp 36) (.tmp 42) 38 3 (.int .i64 0) 8 rfl Try.underlying38 info3 rfl (by decide) (by omega) u132002 x132002_1 (rd l0_2 x7_1) [.int .i64 (rd l0_2 x7_1)] (fun k_ => some k_ ≠ (.slice Ao25 y134.length co25 : Value).ownBlock) (fun _ => False) rfl rfl ?aP (fun _ hk => hk.elim) ?aF ?aO ?aB ?aS ?aL ?_
                  (case aP => exact rfl)
                  (case aB => exact (by repeat (first | (with_reducible first | exact HB.out | apply below_alloc | apply pw_below_drewN | apply below_drew1 | refine below_set ?_ GE129.out | refine below_set ?_ GE130.out | refine below_set ?_ GE131.out) | exact HB.out)))
                  (case aF => exact (fun k_ hk => Kd.fresh' (Kd.R_lt (by (with_reducible repeat (first | apply Kd.R_alloc | apply Kd.R_drewN | apply Kd.R_drew)); exact HO136.out)) k_ hk))
                  (case aO => exact (by (with_reducible repeat (first | apply Kd.R_alloc | apply Kd.R_drewN | apply Kd.R_drew)); exact HO_132002.out))
                  (case aS => exact (below_size (by repeat (first | (with_reducible first | exact HB.out | apply below_alloc | apply pw_below_drewN | apply below_drew1 | refine below_set ?_ GE129.out | refine below_set ?_ GE130.out | refine below_set ?_ GE131.out) | exact HB.out))))
                  (case aL => have := LMc19.out; omega)
                  intro v139 w29 ho hb hg hat
                  rw [← Ny138.out] at ho
                  have n0_ := Aside0.mk (blk_grown (g := gb129) (o := .cells #[.int .i64 a0_0, .slice (some ad132) l0_1.length c0_1, .slice (some ad137) l0_2.length c0_2] 46 (0, 0)) (by (with_reducible repeat (first | refine blk_drewN ?_ _ | refine blk_drew ?_ | refine blk_alloc ?_ _)); exact BK129.out) hg (Kd.R_ne HO_132002.out BK129.out (by decide)))
                  have n1_ := Aside0.mk (blk_grown (g := gb130) (o := .cells #[.int .i64 0, .slice none 0 0, .slice none 0 0] 46 (0, 0)) (by (with_reducible repeat (first | refine blk_drewN ?_ _ | refine blk_drew ?_ | refine blk_alloc ?_ _)); exact BK130.out) hg (Kd.R_ne HO_132002.out BK130.out (by decide)))
                  have n2_ := Aside0.mk (blk_grown (g := gb131) (o := .cells #[.int .i64 a0_0, .slice Ao25 y134.length co25, u132002] 46 (0, 0)) (by (with_reducible repeat (first | refine blk_drewN ?_ _ | refine blk_drew ?_ | refine blk_alloc ?_ _)); exact BK131.out) hg (Kd.R_ne HO_132002.out BK131.out (by decide)))
                  have n3_ := Aside0.mk (Kd.R_after (ok := (fun _ => True)) (by (with_reducible repeat (first | apply Kd.R_alloc | apply Kd.R_drewN | apply Kd.R_drew)); exact Kd.R_mono HO136.out (fun _ hk => ⟨trivial, hk⟩)) hg hat)
                  have n4_ := Aside0.mk (hb)
                  have n5_ := Aside0.mk (ho)
                  clear BK129
                  clear BK130
                  clear BK131
                  clear HO136
                  clear HB
                  clear HO_132002
                  have BK129 := n0_
                  have BK130 := n1_
                  have BK131 := n2_
                  have HO136 := n3_
                  have HB := n4_
                  have HO140 := n5_
                  clear n0_ n1_ n2_ n3_ n4_ n5_
                  clear ho hb hg hat
                  obtain ⟨Ao30, co30, eo30⟩ := Kd.R_slice HO140.out
                  (first | subst eo30 | (injection eo30 with f1_ f2_ f3_; have f4_ := f1_.symm; have f5_ := f3_.symm; clear f1_ f2_ f3_; subst f4_; subst f5_))
                  refine hK.out _ _ ⟨(blk_cell BK131.out 0).trans rfl, (blk_cell BK131.out 1).trans rfl, (blk_cell BK131.out 2).trans rfl, (blk_cell BK129.out 0).trans rfl, (blk_cell BK129.out 1).trans rfl, (blk_cell BK129.out 2).trans rfl, ((HB.out.cell (World.block_lt_of_cell? w _ hw137_0)).trans hw137_0)⟩ (fun hHeld => ?_)
                  clear hK K
                  refine norm_ (a' := ?_) ?_ ?_
                  rotate_left
                  · show Act.put _ (some 43) _ = _
                    simp only [Act.put, List.setIfInBounds_toArray, List.set_cons_zero, List.set_cons_succ, i64_w, i32_w]
                    rfl
                  refine pure_ (i := 9) (N := some 44) (v := ?_) (a' := ?_) #[true, true, true, true, true, true, true, true, true, true, false] rfl rfl (any_of HT_.out (by kernel_rfl)) (fun _ _ _ h => h) (Or.inl ⟨by rfl, ?_⟩) ?_ ?_
                  rotate_left
                  · intro w'
                    go_simp
                    with_reducible rfl
                  rotate_left
                  · simp only [Act.put, List.setIfInBounds_toArray, List.set_cons_zero, List.set_cons_succ, i64_w, i32_w]
                    rfl
                  refine last_ (i := 10) (N := none) #[true, true, true, true, true, true, true, true, true, true, true] rfl rfl (one_of HT_.out (by kernel_rfl)) (by decide) (fun K hK => ?_)
                  have hs31 : w29.cell? ⟨gb131, 2, none⟩ = some (u132002) := (blk_cell BK131.out 2).trans rfl
                  have hfs31 := blk_frozen BK131.out 2
                  have hns31_0 := NB129_131.out
                  have hns31_1 := NB130_131.out
                  have hms31_0 := NB131_129.out
                  have hms31_1 := NB131_130.out
                  refine skip_ (w1 := ?_) (by rfl) rfl ?_ ?_
                  rotate_left
                  · go_simp
                    rfl
                  refine hK.out _ _ ?_
                  clear hK K
                  refine done_ (done_of HT_.out (by kernel_rfl)) ?_
                  try go_wp2
                  go_roundg k1
                  case measure => have := HK1.out; omega
                  case rel => exact ⟨(wrap64 (x7_1 + 1)), (y134), (y138), (.slice Ao25 y134.length co25), (.slice Ao30 y138.length co30), (by first | rfl | (simp; done) | (simp [*]; done)), H', ⟨by have := HK1.out; omega⟩, ⟨by (with_reducible repeat (first | apply Kd.R_alloc | apply Kd.R_drewN | apply Kd.R_drew)); exact Kd.R_mono (Kd.R_far (p := ⟨gb131, 2, none⟩) (Kd.R_types HO136.out BK131.out (by decide)) (fun _ hk => hk.2) (.slice Ao30 y138.length co30)) (fun _ hk => hk.1.2)⟩, ⟨by (with_reducible repeat (first | apply Kd.R_alloc | apply Kd.R_drewN | apply Kd.R_drew)); exact Kd.R_mono (Kd.R_far (p := ⟨gb131, 2, none⟩) (Kd.R_types HO140.out BK131.out (by decide)) (fun _ hk => hk.2) (.slice Ao30 y138.length co30)) (fun _ hk => hk.1)⟩, ⟨by (with_reducible repeat (first | refine blk_drewN ?_ _ | refine blk_drew ?_ | refine blk_alloc ?_ _)); refine blk_far ?_ NB129_131.out _; (with_reducible repeat (first | refine blk_drewN ?_ _ | refine blk_drew ?_ | refine blk_alloc ?_ _)); exact BK129.out⟩, ⟨by (with_reducible repeat (first | refine blk_drewN ?_ _ | refine blk_drew ?_ | refine blk_alloc ?_ _)); refine blk_far ?_ NB130_131.out _; (with_reducible repeat (first | refine blk_drewN ?_ _ | refine blk_drew ?_ | refine blk_alloc ?_ _)); exact BK130.out⟩, ⟨by (with_reducible repeat (first | refine blk_drewN ?_ _ | refine blk_drew ?_ | refine blk_alloc ?_ _)); refine blk_put (cs := #[.int .i64 a0_0, .slice Ao25 y134.length co25, u132002]) ?_ 2 _ rfl; (with_reducible repeat (first | refine blk_drewN ?_ _ | refine blk_drew ?_ | refine blk_alloc ?_ _)); exact BK131.out⟩, ⟨by repeat (first | (with_reducible first | exact HB.out | apply below_alloc | apply pw_below_drewN | apply below_drew1 | refine below_set ?_ GE129.out | refine below_set ?_ GE130.out | refine below_set ?_ GE131.out) | exact HB.out)⟩⟩
                · rw [if_neg c19] at H
                  exact absurd H (by simp)
              · rw [if_neg c18] at H
                exact absurd H (by simp)
            · rw [if_neg c17] at H
              exact absurd H (by simp)
        · rw [if_neg c12] at H
          exact absurd H (by simp)
      · rw [if_neg c11] at H
        have c11b0 : decide (x7_1 < (l0_1.length : Int)) = false := decide_eq_false c11
        clear c11
        simp only [Option.some.injEq, Prod.mk.injEq] at H
        obtain ⟨rfl, rfl, rfl, rfl⟩ := H
        have hnb32 := NB129_130.out
        have hnc32 := NB130_129.out
        have hnb33 := NB129_131.out
        have hnc33 := NB131_129.out
        have hcz34_0 : wr.cell? ⟨gb129, 0, none⟩ = some (.int .i64 a0_0) := (blk_cell BK129.out 0).trans rfl
        have hcz34_1 : wr.cell? ⟨gb129, 1, none⟩ = some (.slice A0_1 l0_1.length c0_1) := (blk_cell BK129.out 1).trans rfl
        have hcz34_2 : wr.cell? ⟨gb129, 2, none⟩ = some (.slice A0_2 l0_2.length c0_2) := (blk_cell BK129.out 2).trans rfl
        have hfz34_0 := blk_frozen BK129.out 0
        have hfz34_1 := blk_frozen BK129.out 1
        have hfz34_2 := blk_frozen BK129.out 2
        try go_wp2
        have n0_ := Aside0.mk (Kd.R_drew HO_132001.out)
        have n1_ := Aside0.mk (Kd.R_drew HO_132002.out)
        have n2_ := Aside0.mk (blk_drew BK129.out)
        have n3_ := Aside0.mk (blk_drew BK130.out)
        have n4_ := Aside0.mk (blk_drew BK131.out)
        have n5_ := Aside0.mk (below_drew1 HB.out)
        clear HO_132001
        clear HO_132002
        clear BK129
        clear BK130
        clear BK131
        clear HB
        have HO_132001 := n0_
        have HO_132002 := n1_
        have BK129 := n2_
        have BK130 := n3_
        have BK131 := n4_
        have HB := n5_
        clear n0_ n1_ n2_ n3_ n4_ n5_
        obtain ⟨Ao36, co36, eo36⟩ := Kd.R_slice HO_132001.out
        (first | subst eo36 | (injection eo36 with f1_ f2_ f3_; have f4_ := f1_.symm; have f5_ := f3_.symm; clear f1_ f2_ f3_; subst f4_; subst f5_))
        obtain ⟨Ao39, co39, eo39⟩ := Kd.R_slice HO_132002.out
        (first | subst eo39 | (injection eo39 with f1_ f2_ f3_; have f4_ := f1_.symm; have f5_ := f3_.symm; clear f1_ f2_ f3_; subst f4_; subst f5_))
        refine start_ (n := 10) (S := fun w' => w'.cell? ⟨gb131, 0, none⟩ = some (.int .i64 a0_0) ∧ w'.cell? ⟨gb131, 1, none⟩ = some (.slice Ao36 x132001_1.length co36) ∧ w'.cell? ⟨gb131, 2, none⟩ = some (.slice Ao39 x132002_1.length co39) ∧ w'.cell? ⟨gb129, 0, none⟩ = some (.int .i64 a0_0) ∧ w'.cell? ⟨gb129, 1, none⟩ = some (.slice A0_1 l0_1.length c0_1) ∧ w'.cell? ⟨gb129, 2, none⟩ = some (.slice A0_2 l0_2.length c0_2)) (ds := []) #[false, false, false, false, false, false, false, false, false, false] (by kernel_rfl) rfl rfl ⟨(blk_cell BK131.out 0).trans rfl, (blk_cell BK131.out 1).trans rfl, (blk_cell BK131.out 2).trans rfl, (blk_cell BK129.out 0).trans rfl, (blk_cell BK129.out 1).trans rfl, (blk_cell BK129.out 2).trans rfl⟩ (fun hHeld => ?_); refine with_tabW hostlerref12_Remove.tab8 hostlerref12_Remove.bits8 (fun HT_ HW_ => ?_)
        generalize wr.drew = w35 at HO_132001 HO_132002 BK129 BK130 BK131 HB hHeld ⊢
        refine pure_ (i := 1) (N := some 46) (v := ?_) (a' := ?_) #[false, true, false, false, false, false, false, false, false, false] rfl rfl (any_of HT_.out (by kernel_rfl)) (fun _ _ _ h => h) (Or.inl ⟨by rfl, ?_⟩) ?_ ?_
        rotate_left
        · intro w'
          go_simp
          with_reducible rfl
        rotate_left
        · simp only [Act.put, List.setIfInBounds_toArray, List.set_cons_zero, List.set_cons_succ, i64_w, i32_w]
          rfl
        refine pure_ (i := 4) (N := some 49) (v := ?_) (a' := ?_) #[false, true, false, false, true, false, false, false, false, false] rfl rfl (any_of HT_.out (by kernel_rfl)) (fun _ _ _ h => h) (Or.inl ⟨by rfl, ?_⟩) ?_ ?_
        rotate_left
        · intro w'
          go_simp
          with_reducible rfl
        rotate_left
        · simp only [Act.put, List.setIfInBounds_toArray, List.set_cons_zero, List.set_cons_succ, i64_w, i32_w]
          rfl
        refine take_ (i := 0) (N := some 45) (v := ?_) (a' := ?_) #[true, true, false, false, true, false, false, false, false, false] rfl rfl (take_ofW HT_.out HW_.out (by kernel_rfl)) (fun _ _ _ h => h) (Or.inl ⟨by rfl, ?_⟩) hHeld ?_ ?_
        rotate_left
        · rintro w' ⟨s0, s1, s2, s3, s4, s5⟩
          go_simp
          with_reducible rfl
        rotate_left
        · simp only [Act.put, List.setIfInBounds_toArray, List.set_cons_zero, List.set_cons_succ, i64_w, i32_w]
          rfl
        refine take_ (i := 2) (N := some 47) (v := ?_) (a' := ?_) #[true, true, true, false, true, false, false, false, false, false] rfl rfl (take_ofW HT_.out HW_.out (by kernel_rfl)) (fun _ _ _ h => h) (Or.inl ⟨by rfl, ?_⟩) hHeld ?_ ?_
        rotate_left
        · rintro w' ⟨s0, s1, s2, s3, s4, s5⟩
          go_simp
          with_reducible rfl
        rotate_left
        · simp only [Act.put, List.setIfInBounds_toArray, List.set_cons_zero, List.set_cons_succ, i64_w, i32_w]
          rfl
        refine pure_ (i := 3) (N := some 48) (v := ?_) (a' := ?_) #[true, true, true, true, true, false, false, false, false, false] rfl rfl (any_of HT_.out (by kernel_rfl)) (fun _ _ _ h => h) (Or.inl ⟨by rfl, ?_⟩) ?_ ?_
        rotate_left
        · intro w'
          go_simp
          with_reducible rfl
        rotate_left
        · simp only [Act.put, List.setIfInBounds_toArray, List.set_cons_zero, List.set_cons_succ, i64_w, i32_w]
          rfl
        refine take_ (i := 5) (N := some 50) (v := ?_) (a' := ?_) #[true, true, true, true, true, true, false, false, false, false] rfl rfl (take_ofW HT_.out HW_.out (by kernel_rfl)) (fun _ _ _ h => h) (Or.inl ⟨by rfl, ?_⟩) hHeld ?_ ?_
        rotate_left
        · rintro w' ⟨s0, s1, s2, s3, s4, s5⟩
          go_simp
          with_reducible rfl
        rotate_left
        · simp only [Act.put, List.setIfInBounds_toArray, List.set_cons_zero, List.set_cons_succ, i64_w, i32_w]
          rfl
        refine pure_ (i := 6) (N := some 51) (v := ?_) (a' := ?_) #[true, true, true, true, true, true, true, false, false, false] rfl rfl (any_of HT_.out (by kernel_rfl)) (fun _ _ _ h => h) (Or.inl ⟨by rfl, ?_⟩) ?_ ?_
        rotate_left
        · intro w'
          go_simp
          with_reducible rfl
        rotate_left
        · simp only [Act.put, List.setIfInBounds_toArray, List.set_cons_zero, List.set_cons_succ, i64_w, i32_w]
          rfl
        refine pure_ (i := 7) (N := some 52) (v := ?_) (a' := ?_) #[true, true, true, true, true, true, true, true, false, false] rfl rfl (any_of HT_.out (by kernel_rfl)) (fun _ _ _ h => h) (Or.inl ⟨by rfl, ?_⟩) ?_ ?_
        rotate_left
        · intro w'
          go_simp
          with_reducible rfl
        rotate_left
        · simp only [Act.put, List.setIfInBounds_toArray, List.set_cons_zero, List.set_cons_succ, i64_w, i32_w]
          rfl
        refine one_ (i := 8) (N := none) #[true, true, true, true, true, true, true, true, true, false] rfl rfl (one_of HT_.out (by kernel_rfl)) (by decide) (fun K hK => ?_)
        have hs37 : w35.cell? ⟨gb130, 0, none⟩ = some (.int .i64 0) := (blk_cell BK130.out 0).trans rfl
        have hfs37 := blk_frozen BK130.out 0
        have hns37_0 := NB129_130.out
        have hns37_2 := NB131_130.out
        have hms37_0 := NB130_129.out
        have hms37_2 := NB130_131.out
        have hs38 : w35.cell? ⟨gb130, 1, none⟩ = some (.slice none 0 0) := (blk_cell BK130.out 1).trans rfl
        have hfs38 := blk_frozen BK130.out 1
        have hns38_0 := NB129_130.out
        have hns38_2 := NB131_130.out
        have hms38_0 := NB130_129.out
        have hms38_2 := NB130_131.out
        have hs40 : w35.cell? ⟨gb130, 2, none⟩ = some (.slice none 0 0) := (blk_cell BK130.out 2).trans rfl
        have hfs40 := blk_frozen BK130.out 2
        have hns40_0 := NB129_130.out
        have hns40_2 := NB131_130.out
        have hms40_0 := NB130_129.out
        have hms40_2 := NB130_131.out
        refine skip_ (w1 := ?_) (by rfl) rfl ?_ ?_
        rotate_left
        · go_simp
          rfl
        refine hK.out _ _ ⟨((cell_far (p := ⟨gb130, _, none⟩) NB131_130.out _).trans (((cell_far (p := ⟨gb130, _, none⟩) NB131_130.out _).trans (((cell_far (p := ⟨gb130, _, none⟩) NB131_130.out _).trans (hHeld.1)))))), ((cell_far (p := ⟨gb130, _, none⟩) NB131_130.out _).trans (((cell_far (p := ⟨gb130, _, none⟩) NB131_130.out _).trans (((cell_far (p := ⟨gb130, _, none⟩) NB131_130.out _).trans (hHeld.2.1)))))), ((cell_far (p := ⟨gb130, _, none⟩) NB131_130.out _).trans (((cell_far (p := ⟨gb130, _, none⟩) NB131_130.out _).trans (((cell_far (p := ⟨gb130, _, none⟩) NB131_130.out _).trans (hHeld.2.2.1)))))), ((cell_far (p := ⟨gb130, _, none⟩) NB129_130.out _).trans (((cell_far (p := ⟨gb130, _, none⟩) NB129_130.out _).trans (((cell_far (p := ⟨gb130, _, none⟩) NB129_130.out _).trans (hHeld.2.2.2.1)))))), ((cell_far (p := ⟨gb130, _, none⟩) NB129_130.out _).trans (((cell_far (p := ⟨gb130, _, none⟩) NB129_130.out _).trans (((cell_far (p := ⟨gb130, _, none⟩) NB129_130.out _).trans (hHeld.2.2.2.2.1)))))), ((cell_far (p := ⟨gb130, _, none⟩) NB129_130.out _).trans (((cell_far (p := ⟨gb130, _, none⟩) NB129_130.out _).trans (((cell_far (p := ⟨gb130, _, none⟩) NB129_130.out _).trans (hHeld.2.2.2.2.2))))))⟩ (fun hHeld => ?_)
        clear hK K
        refine pure_ (i := 9) (N := some 5) (v := ?_) (a' := ?_) #[true, true, true, true, true, true, true, true, true, true] rfl rfl (any_of HT_.out (by kernel_rfl)) (fun _ _ _ h => h) (Or.inl ⟨by rfl, ?_⟩) ?_ ?_
        rotate_left
        · intro w'
          go_simp
          with_reducible rfl
        rotate_left
        · simp only [Act.put, List.setIfInBounds_toArray, List.set_cons_zero, List.set_cons_succ, i64_w, i32_w]
          rfl
        refine done_ (done_of HT_.out (by kernel_rfl)) ?_
        try go_wp2
        refine bodyPost_ret (results_ct rfl _ _ gb130 46 #[.int .i64 a0_0, .slice Ao36 x132001_1.length co36, .slice Ao39 x132002_1.length co39] (0, 0) _ rfl (by (with_reducible repeat (first | refine blk_drewN ?_ _ | refine blk_drew ?_ | refine blk_alloc ?_ _)); refine blk_put (cs := #[.int .i64 a0_0, .slice Ao36 x132001_1.length co36, .slice none 0 0]) ?_ 2 _ rfl; (with_reducible repeat (first | refine blk_drewN ?_ _ | refine blk_drew ?_ | refine blk_alloc ?_ _)); refine blk_put (cs := #[.int .i64 a0_0, .slice none 0 0, .slice none 0 0]) ?_ 1 _ rfl; (with_reducible repeat (first | refine blk_drewN ?_ _ | refine blk_drew ?_ | refine blk_alloc ?_ _)); refine blk_put (cs := #[.int .i64 0, .slice none 0 0, .slice none 0 0]) ?_ 0 _ rfl; (with_reducible repeat (first | refine blk_drewN ?_ _ | refine blk_drew ?_ | refine blk_alloc ?_ _)); exact BK130.out) Try.underlying46 rfl (by kernel_rfl)) rfl ?_
        exact ⟨_, _, by first | rfl | (simp only [Int.ofNat_lt]; rfl) | (simp [errW_none, errW_some] <;> rfl) | (simp [*, errW_none, errW_some] <;> rfl), by (with_reducible repeat (first | apply Kd.R_alloc | apply Kd.R_drewN | apply Kd.R_drew)); exact Kd.R_mono (Kd.R_far (p := ⟨gb130, 2, none⟩) (Kd.R_far (p := ⟨gb130, 1, none⟩) (Kd.R_far (p := ⟨gb130, 0, none⟩) (Kd.R_types HO_132001.out BK130.out (by decide)) (fun _ hk => hk.2) (.int .i64 a0_0)) (fun _ hk => hk.2) (.slice Ao36 x132001_1.length co36)) (fun _ hk => hk.2) (.slice Ao39 x132002_1.length co39)) (fun _ hk => hk.1), by (with_reducible repeat (first | apply Kd.R_alloc | apply Kd.R_drewN | apply Kd.R_drew)); exact Kd.R_mono (Kd.R_far (p := ⟨gb130, 2, none⟩) (Kd.R_far (p := ⟨gb130, 1, none⟩) (Kd.R_far (p := ⟨gb130, 0, none⟩) (Kd.R_types HO_132002.out BK130.out (by decide)) (fun _ hk => hk.2) (.int .i64 a0_0)) (fun _ hk => hk.2) (.slice Ao36 x132001_1.length co36)) (fun _ hk => hk.2) (.slice Ao39 x132002_1.length co39)) (fun _ hk => hk.1), by repeat (first | (with_reducible first | exact HB.out | apply below_alloc | apply pw_below_drewN | apply below_drew1 | refine below_set ?_ GE129.out | refine below_set ?_ GE130.out | refine below_set ?_ GE131.out) | exact HB.out)⟩

/-! ### hostlerref12_Pop: function 23 -/
def hostlerref12_Pop.f (k : Nat) (a0_0 : Int) (l0_1 : List Int) (l0_2 : List Int) : Option (Int × List Int × List Int × Int × Bool) := if (l0_1.length : Int) = 0 then (some (a0_0, l0_1, l0_2, 0, false)) else (if 0 < (l0_1.length : Int) then ((hostlerref12_Remove.f k a0_0 l0_1 l0_2 (rd l0_1 0)).bind fun bt144 => (some (bt144.1, bt144.2.1, bt144.2.2.1, rd l0_1 0, true))) else (none))
theorem hostlerref12_Pop.mono : ∀ a0 a1 a2 k, LeO (hostlerref12_Pop.f k a0 a1 a2) (hostlerref12_Pop.f (k + 1) a0 a1 a2) := by
  intro a0 a1 a2 k
  unfold hostlerref12_Pop.f
  repeat' first
      | (with_reducible exact hostlerref12_Remove.mono _ _ _ _ _)
      | (with_reducible exact LeO.refl _)
      | (with_reducible exact LeO.none _)
      | (with_reducible refine LeO.ite ?_ ?_)
      | (with_reducible refine LeO.bind ?_ (fun _ => ?_))
      | exact hostlerref12_Remove.mono _ _ _ _ _
      | exact LeO.none _
      | refine LeO.ite ?_ ?_
      | refine LeO.bind ?_ (fun _ => ?_)
set_option maxHeartbeats 8000000 in
set_option maxRecDepth 100000 in
theorem hostlerref12_Pop.calls (k : Nat) (a0_0 : Int) (P0_1_ : Nat → Prop) (u9000_ : Value) (l0_1 : List Int) (P0_2_ : Nat → Prop) (u9001_ : Value) (l0_2 : List Int) (r1 : Int) (r2 : List Int) (r3 : List Int) (r4 : Int) (r5 : Bool) (w0 w : World) (hB : Below w0.heap.size w0 w) (ho0_1 : Kd.R (Kd.int .i64) 3 w w0.heap.size P0_1_ u9000_ l0_1) (hp0_1_0_2 : ∀ k_, P0_1_ k_ → ¬ P0_2_ k_) (ho0_2 : Kd.R (Kd.int .i64) 3 w w0.heap.size P0_2_ u9001_ l0_2) (hp0_2_0_1 : ∀ k_, P0_2_ k_ → ¬ P0_1_ k_) (h : hostlerref12_Pop.f k a0_0 l0_1 l0_2 = some (r1, r2, r3, r4, r5)) :
    Calls Try.prog 23 #[.agg #[.int .i64 a0_0, u9000_, u9001_]] w fun e w' => ∃ v1_ v2_ : Value, e = .returned (.tuple #[.agg #[.int .i64 r1, v1_, v2_], .int .i64 r4, .bool r5]) ∧ Kd.R (Kd.int .i64) 3 w' w0.heap.size (fun k_ => ((P0_1_ k_ ∨ P0_2_ k_) ∨ w.heap.size ≤ k_) ∧ some k_ ≠ (v2_ : Value).ownBlock) v1_ r2 ∧ Kd.R (Kd.int .i64) 3 w' w0.heap.size (fun k_ => ((P0_1_ k_ ∨ P0_2_ k_) ∨ w.heap.size ≤ k_) ∧ some k_ ≠ (v1_ : Value).ownBlock) v2_ r3 ∧ Below w0.heap.size w0 w' ∧ Kept w w' (fun k_ => P0_1_ k_ ∨ P0_2_ k_) := by
  have hu46 := Try.underlying46
  have HO0_1 := Aside0.mk (show Kd.R (Kd.int .i64) 3 w w0.heap.size (fun k_ => ((P0_1_ k_ ∨ P0_2_ k_) ∨ w.heap.size ≤ k_) ∧ some k_ ≠ (u9001_ : Value).ownBlock) u9000_ l0_1 from Kd.R_mono ho0_1 (fun k_ hk => ⟨(.inl (.inl hk)), fun e_ => hp0_1_0_2 k_ hk (ho0_2.1 k_ e_.symm)⟩))
  have HO0_2 := Aside0.mk (show Kd.R (Kd.int .i64) 3 w w0.heap.size (fun k_ => ((P0_1_ k_ ∨ P0_2_ k_) ∨ w.heap.size ≤ k_) ∧ some k_ ≠ (u9000_ : Value).ownBlock) u9001_ l0_2 from Kd.R_mono ho0_2 (fun k_ hk => ⟨(.inl (.inr hk)), fun e_ => hp0_2_0_1 k_ hk (ho0_1.1 k_ e_.symm)⟩))
  have HK := Aside0.mk (Kept.refl w (fun k_ => P0_1_ k_ ∨ P0_2_ k_))
  have HW0 := Aside0.mk hB.size
  have HB := Aside0.mk hB
  clear hB
  have H : (if (l0_1.length : Int) = 0 then (some (a0_0, l0_1, l0_2, 0, false)) else (if 0 < (l0_1.length : Int) then ((hostlerref12_Remove.f k a0_0 l0_1 l0_2 (rd l0_1 0)).bind fun bt144 => (some (bt144.1, bt144.2.1, bt144.2.2.1, rd l0_1 0, true))) else (none))) = some (r1, r2, r3, r4, r5) := h
  clear h
  by_cases c2 : (l0_1.length : Int) = 0
  · rw [if_pos c2] at H
    have c2b0 : ((l0_1.length : Int) == 0) = true := beq_iff_eq.mpr c2
    have c2b1 : ((l0_1.length : Int) != 0) = false := bne_eq_false_iff_eq.mpr c2
    clear c2
    simp only [Option.some.injEq, Prod.mk.injEq] at H
    obtain ⟨rfl, rfl, rfl, rfl, rfl⟩ := H
    obtain ⟨Ao3, co3, eo3⟩ := Kd.R_slice HO0_1.out
    subst eo3
    obtain ⟨Ao4, co4, eo4⟩ := Kd.R_slice HO0_2.out
    subst eo4
    go_enter Try.func23, Try.ntmps23
    go_wp2_with (first | ((with_reducible refine gate_dst (N := 1) rfl ?_); refine box_event ?hg (N := 1) ?hd (cs := #[.int .i64 a0_0, .slice Ao3 l0_1.length co3, .slice Ao4 l0_2.length co4]) (t := 46) ?hr ?_; (case hd => rfl); (case hg => rfl); (case hr => first | (go_simp; done) | (go_simp; rfl)); intro gb141 hg w5 hbox hb; have n0_ := Aside0.mk (Kd.R_below (by (with_reducible repeat (first | apply Kd.R_alloc | apply Kd.R_drewN | apply Kd.R_drew)); exact HO0_1.out) hb); have n1_ := Aside0.mk (Kd.R_below (by (with_reducible repeat (first | apply Kd.R_alloc | apply Kd.R_drewN | apply Kd.R_drew)); exact HO0_2.out) hb); have n2_ := Aside0.mk (Kept.below (S := (fun k_ => P0_1_ k_ ∨ P0_2_ k_)) (by repeat (first | (with_reducible first | exact HK.out | apply Kept.alloc | apply Kept.drewN | apply Kept.drew) | exact HK.out)) hb); have n3_ := Aside0.mk (below_step (by repeat (first | (with_reducible first | exact HB.out | apply below_alloc | apply pw_below_drewN | apply below_drew1) | exact HB.out)) hb); have n4_ := Aside0.mk (hbox); have n5_ := Aside0.mk ((by rw [hg]; exact (by first | exact HK.out.1 | exact (show Kept w _ (fun k_ => P0_1_ k_ ∨ P0_2_ k_) from by repeat (first | (with_reducible first | exact HK.out | apply Kept.alloc | apply Kept.drewN | apply Kept.drew) | exact HK.out)).1) : w.heap.size ≤ gb141)); have n6_ := Aside0.mk ((by rw [hg]; exact (below_size (by repeat (first | (with_reducible first | exact HB.out | apply below_alloc | apply pw_below_drewN | apply below_drew1) | exact HB.out))) : w0.heap.size ≤ gb141)); clear HO0_1; clear HO0_2; clear HK; clear HB; have HO0_1 := n0_; have HO0_2 := n1_; have HK := n2_; have HB := n3_; have BK141 := n4_; have GW141 := n5_; have GE141 := n6_; clear n0_ n1_ n2_ n3_ n4_ n5_ n6_; clear hb hbox hg) | ((with_reducible refine gate_dst (N := 2) rfl ?_); refine box_event ?hg (N := 2) ?hd (cs := #[.int .i64 0, .slice none 0 0, .slice none 0 0]) (t := 46) ?hr ?_; (case hd => rfl); (case hg => rfl); (case hr => first | (go_simp; done) | (go_simp; rfl)); intro gb142 hg w6 hbox hb; have n0_ := Aside0.mk (Kd.R_below (by (with_reducible repeat (first | apply Kd.R_alloc | apply Kd.R_drewN | apply Kd.R_drew)); exact HO0_1.out) hb); have n1_ := Aside0.mk (Kd.R_below (by (with_reducible repeat (first | apply Kd.R_alloc | apply Kd.R_drewN | apply Kd.R_drew)); exact HO0_2.out) hb); have n2_ := Aside0.mk (blk_below (g := gb141) (o := .cells #[.int .i64 a0_0, .slice Ao3 l0_1.length co3, .slice Ao4 l0_2.length co4] 46 (0, 0)) (by (with_reducible repeat (first | refine blk_drewN ?_ _ | refine blk_drew ?_ | refine blk_alloc ?_ _)); exact BK141.out) hb); have n3_ := Aside0.mk (Kept.below (S := (fun k_ => P0_1_ k_ ∨ P0_2_ k_)) (by repeat (first | (with_reducible first | exact HK.out | apply Kept.alloc | apply Kept.drewN | apply Kept.drew | refine Kept.setCell ?_ (.inr GW141.out) _) | exact HK.out)) hb); have n4_ := Aside0.mk (below_step (by repeat (first | (with_reducible first | exact HB.out | apply below_alloc | apply pw_below_drewN | apply below_drew1 | refine below_set ?_ GE141.out) | exact HB.out)) hb); have n5_ := Aside0.mk (hbox); have n6_ := Aside0.mk ((by rw [hg]; exact (by first | exact HK.out.1 | exact (show Kept w _ (fun k_ => P0_1_ k_ ∨ P0_2_ k_) from by repeat (first | (with_reducible first | exact HK.out | apply Kept.alloc | apply Kept.drewN | apply Kept.drew | refine Kept.setCell ?_ (.inr GW141.out) _) | exact HK.out)).1) : w.heap.size ≤ gb142)); have n7_ := Aside0.mk ((by rw [hg]; exact (below_size (by repeat (first | (with_reducible first | exact HB.out | apply below_alloc | apply pw_below_drewN | apply below_drew1 | refine below_set ?_ GE141.out) | exact HB.out))) : w0.heap.size ≤ gb142)); have n8_ := Aside0.mk ((by rw [hg]; exact Nat.ne_of_lt (blk_lt (g := gb141) (o := .cells #[.int .i64 a0_0, .slice Ao3 l0_1.length co3, .slice Ao4 l0_2.length co4] 46 (0, 0)) (by (with_reducible repeat (first | refine blk_drewN ?_ _ | refine blk_drew ?_ | refine blk_alloc ?_ _)); exact BK141.out)) : gb141 ≠ gb142)); have n9_ := Aside0.mk ((by rw [hg]; exact Nat.ne_of_gt (blk_lt (g := gb141) (o := .cells #[.int .i64 a0_0, .slice Ao3 l0_1.length co3, .slice Ao4 l0_2.length co4] 46 (0, 0)) (by (with_reducible repeat (first | refine blk_drewN ?_ _ | refine blk_drew ?_ | refine blk_alloc ?_ _)); exact BK141.out)) : gb142 ≠ gb141)); clear HO0_1; clear HO0_2; clear BK141; clear HK; clear HB; have HO0_1 := n0_; have HO0_2 := n1_; have BK141 := n2_; have HK := n3_; have HB := n4_; have BK142 := n5_; have GW142 := n6_; have GE142 := n7_; have NB141_142 := n8_; have NB142_141 := n9_; clear n0_ n1_ n2_ n3_ n4_ n5_ n6_ n7_ n8_ n9_; clear hb hbox hg; have hnb7 := NB141_142.out; have hnc7 := NB142_141.out; have hcz8_0 : w6.cell? ⟨gb141, 0, none⟩ = some (.int .i64 a0_0) := (blk_cell BK141.out 0).trans rfl; have hcz8_1 : w6.cell? ⟨gb141, 1, none⟩ = some (.slice Ao3 l0_1.length co3) := (blk_cell BK141.out 1).trans rfl; have hcz8_2 : w6.cell? ⟨gb141, 2, none⟩ = some (.slice Ao4 l0_2.length co4) := (blk_cell BK141.out 2).trans rfl; have hfz8_0 := blk_frozen BK141.out 0; have hfz8_1 := blk_frozen BK141.out 1; have hfz8_2 := blk_frozen BK141.out 2; have hcz9_0 : w6.cell? ⟨gb142, 0, none⟩ = some (.int .i64 0) := (blk_cell BK142.out 0).trans rfl; have hcz9_1 : w6.cell? ⟨gb142, 1, none⟩ = some (.slice none 0 0) := (blk_cell BK142.out 1).trans rfl; have hcz9_2 : w6.cell? ⟨gb142, 2, none⟩ = some (.slice none 0 0) := (blk_cell BK142.out 2).trans rfl; have hfz9_0 := blk_frozen BK142.out 0; have hfz9_1 := blk_frozen BK142.out 1; have hfz9_2 := blk_frozen BK142.out 2))
    refine bodyPost_ret (results_ctt rfl _ _ gb142 46 #[.int .i64 a0_0, .slice Ao3 l0_1.length co3, .slice Ao4 l0_2.length co4] (0, 0) _ rfl (by (with_reducible repeat (first | refine blk_drewN ?_ _ | refine blk_drew ?_ | refine blk_alloc ?_ _)); refine blk_put (cs := #[.int .i64 a0_0, .slice Ao3 l0_1.length co3, .slice none 0 0]) ?_ 2 _ rfl; (with_reducible repeat (first | refine blk_drewN ?_ _ | refine blk_drew ?_ | refine blk_alloc ?_ _)); refine blk_put (cs := #[.int .i64 a0_0, .slice none 0 0, .slice none 0 0]) ?_ 1 _ rfl; (with_reducible repeat (first | refine blk_drewN ?_ _ | refine blk_drew ?_ | refine blk_alloc ?_ _)); refine blk_put (cs := #[.int .i64 0, .slice none 0 0, .slice none 0 0]) ?_ 0 _ rfl; (with_reducible repeat (first | refine blk_drewN ?_ _ | refine blk_drew ?_ | refine blk_alloc ?_ _)); exact BK142.out) Try.underlying46 rfl (by kernel_rfl)) rfl ?_
    exact ⟨_, _, by first | rfl | (simp only [Int.ofNat_lt]; rfl) | (simp [errW_none, errW_some] <;> rfl) | (simp [*, errW_none, errW_some] <;> rfl), by (with_reducible repeat (first | apply Kd.R_alloc | apply Kd.R_drewN | apply Kd.R_drew)); exact Kd.R_mono (Kd.R_far (p := ⟨gb142, 2, none⟩) (Kd.R_far (p := ⟨gb142, 1, none⟩) (Kd.R_far (p := ⟨gb142, 0, none⟩) (Kd.R_types HO0_1.out BK142.out (by decide)) (fun _ hk => hk.2) (.int .i64 a0_0)) (fun _ hk => hk.2) (.slice Ao3 l0_1.length co3)) (fun _ hk => hk.2) (.slice Ao4 l0_2.length co4)) (fun _ hk => ⟨hk.1.1, hk.1.2⟩), by (with_reducible repeat (first | apply Kd.R_alloc | apply Kd.R_drewN | apply Kd.R_drew)); exact Kd.R_mono (Kd.R_far (p := ⟨gb142, 2, none⟩) (Kd.R_far (p := ⟨gb142, 1, none⟩) (Kd.R_far (p := ⟨gb142, 0, none⟩) (Kd.R_types HO0_2.out BK142.out (by decide)) (fun _ hk => hk.2) (.int .i64 a0_0)) (fun _ hk => hk.2) (.slice Ao3 l0_1.length co3)) (fun _ hk => hk.2) (.slice Ao4 l0_2.length co4)) (fun _ hk => ⟨hk.1.1, hk.1.2⟩), by repeat (first | (with_reducible first | exact HB.out | apply below_alloc | apply pw_below_drewN | apply below_drew1 | refine below_set ?_ GE141.out | refine below_set ?_ GE142.out) | exact HB.out), by repeat (first | (with_reducible first | exact HK.out | apply Kept.alloc | apply Kept.drewN | apply Kept.drew | refine Kept.setCell ?_ (.inr GW141.out) _ | refine Kept.setCell ?_ (.inr GW142.out) _) | exact HK.out)⟩
  · rw [if_neg c2] at H
    have c2b0 : ((l0_1.length : Int) == 0) = false := beq_eq_false_iff_ne.mpr c2
    have c2b1 : ((l0_1.length : Int) != 0) = true := bne_iff_ne.mpr c2
    have c2b2 : ¬ (l0_1 = []) := fun h_ => c2 (by rw [h_]; rfl)
    by_cases c10 : 0 < (l0_1.length : Int)
    · rw [if_pos c10] at H
      have c10b0 : decide (0 < (l0_1.length : Int)) = true := decide_eq_true c10
      have c10b1 : decide (0 < l0_1.length) = true := decide_eq_true (by omega)
      clear c10
      replace H := Option.bind_eq_some_iff.mp H
      obtain ⟨⟨t144, t145, t148, t151⟩, A110, H⟩ := H
      replace H : (some (t144, t145, t148, rd l0_1 0, true)) = some (r1, r2, r3, r4, r5) := H
      have A11 := Aside0.mk A110
      clear A110
      simp only [Option.some.injEq, Prod.mk.injEq] at H
      obtain ⟨rfl, rfl, rfl, rfl, rfl⟩ := H
      obtain ⟨Ao12, co12, eo12⟩ := Kd.R_slice HO0_1.out
      subst eo12
      obtain ⟨Ao13, co13, eo13⟩ := Kd.R_slice HO0_2.out
      subst eo13
      go_enter Try.func23, Try.ntmps23
      go_wp2_with (first | ((with_reducible refine gate_dst (N := 1) rfl ?_); refine box_event ?hg (N := 1) ?hd (cs := #[.int .i64 a0_0, .slice Ao12 l0_1.length co12, .slice Ao13 l0_2.length co13]) (t := 46) ?hr ?_; (case hd => rfl); (case hg => rfl); (case hr => first | (go_simp; done) | (go_simp; rfl)); intro gb141 hg w14 hbox hb; have n0_ := Aside0.mk (Kd.R_below (by (with_reducible repeat (first | apply Kd.R_alloc | apply Kd.R_drewN | apply Kd.R_drew)); exact HO0_1.out) hb); have n1_ := Aside0.mk (Kd.R_below (by (with_reducible repeat (first | apply Kd.R_alloc | apply Kd.R_drewN | apply Kd.R_drew)); exact HO0_2.out) hb); have n2_ := Aside0.mk (Kept.below (S := (fun k_ => P0_1_ k_ ∨ P0_2_ k_)) (by repeat (first | (with_reducible first | exact HK.out | apply Kept.alloc | apply Kept.drewN | apply Kept.drew) | exact HK.out)) hb); have n3_ := Aside0.mk (below_step (by repeat (first | (with_reducible first | exact HB.out | apply below_alloc | apply pw_below_drewN | apply below_drew1) | exact HB.out)) hb); have n4_ := Aside0.mk (hbox); have n5_ := Aside0.mk ((by rw [hg]; exact (by first | exact HK.out.1 | exact (show Kept w _ (fun k_ => P0_1_ k_ ∨ P0_2_ k_) from by repeat (first | (with_reducible first | exact HK.out | apply Kept.alloc | apply Kept.drewN | apply Kept.drew) | exact HK.out)).1) : w.heap.size ≤ gb141)); have n6_ := Aside0.mk ((by rw [hg]; exact (below_size (by repeat (first | (with_reducible first | exact HB.out | apply below_alloc | apply pw_below_drewN | apply below_drew1) | exact HB.out))) : w0.heap.size ≤ gb141)); clear HO0_1; clear HO0_2; clear HK; clear HB; have HO0_1 := n0_; have HO0_2 := n1_; have HK := n2_; have HB := n3_; have BK141 := n4_; have GW141 := n5_; have GE141 := n6_; clear n0_ n1_ n2_ n3_ n4_ n5_ n6_; clear hb hbox hg) | ((with_reducible refine gate_dst (N := 2) rfl ?_); refine box_event ?hg (N := 2) ?hd (cs := #[.int .i64 0, .slice none 0 0, .slice none 0 0]) (t := 46) ?hr ?_; (case hd => rfl); (case hg => rfl); (case hr => first | (go_simp; done) | (go_simp; rfl)); intro gb142 hg w15 hbox hb; have n0_ := Aside0.mk (Kd.R_below (by (with_reducible repeat (first | apply Kd.R_alloc | apply Kd.R_drewN | apply Kd.R_drew)); exact HO0_1.out) hb); have n1_ := Aside0.mk (Kd.R_below (by (with_reducible repeat (first | apply Kd.R_alloc | apply Kd.R_drewN | apply Kd.R_drew)); exact HO0_2.out) hb); have n2_ := Aside0.mk (blk_below (g := gb141) (o := .cells #[.int .i64 a0_0, .slice Ao12 l0_1.length co12, .slice Ao13 l0_2.length co13] 46 (0, 0)) (by (with_reducible repeat (first | refine blk_drewN ?_ _ | refine blk_drew ?_ | refine blk_alloc ?_ _)); exact BK141.out) hb); have n3_ := Aside0.mk (Kept.below (S := (fun k_ => P0_1_ k_ ∨ P0_2_ k_)) (by repeat (first | (with_reducible first | exact HK.out | apply Kept.alloc | apply Kept.drewN | apply Kept.drew | refine Kept.setCell ?_ (.inr GW141.out) _) | exact HK.out)) hb); have n4_ := Aside0.mk (below_step (by repeat (first | (with_reducible first | exact HB.out | apply below_alloc | apply pw_below_drewN | apply below_drew1 | refine below_set ?_ GE141.out) | exact HB.out)) hb); have n5_ := Aside0.mk (hbox); have n6_ := Aside0.mk ((by rw [hg]; exact (by first | exact HK.out.1 | exact (show Kept w _ (fun k_ => P0_1_ k_ ∨ P0_2_ k_) from by repeat (first | (with_reducible first | exact HK.out | apply Kept.alloc | apply Kept.drewN | apply Kept.drew | refine Kept.setCell ?_ (.inr GW141.out) _) | exact HK.out)).1) : w.heap.size ≤ gb142)); have n7_ := Aside0.mk ((by rw [hg]; exact (below_size (by repeat (first | (with_reducible first | exact HB.out | apply below_alloc | apply pw_below_drewN | apply below_drew1 | refine below_set ?_ GE141.out) | exact HB.out))) : w0.heap.size ≤ gb142)); have n8_ := Aside0.mk ((by rw [hg]; exact Nat.ne_of_lt (blk_lt (g := gb141) (o := .cells #[.int .i64 a0_0, .slice Ao12 l0_1.length co12, .slice Ao13 l0_2.length co13] 46 (0, 0)) (by (with_reducible repeat (first | refine blk_drewN ?_ _ | refine blk_drew ?_ | refine blk_alloc ?_ _)); exact BK141.out)) : gb141 ≠ gb142)); have n9_ := Aside0.mk ((by rw [hg]; exact Nat.ne_of_gt (blk_lt (g := gb141) (o := .cells #[.int .i64 a0_0, .slice Ao12 l0_1.length co12, .slice Ao13 l0_2.length co13] 46 (0, 0)) (by (with_reducible repeat (first | refine blk_drewN ?_ _ | refine blk_drew ?_ | refine blk_alloc ?_ _)); exact BK141.out)) : gb142 ≠ gb141)); clear HO0_1; clear HO0_2; clear BK141; clear HK; clear HB; have HO0_1 := n0_; have HO0_2 := n1_; have BK141 := n2_; have HK := n3_; have HB := n4_; have BK142 := n5_; have GW142 := n6_; have GE142 := n7_; have NB141_142 := n8_; have NB142_141 := n9_; clear n0_ n1_ n2_ n3_ n4_ n5_ n6_ n7_ n8_ n9_; clear hb hbox hg; have hnb16 := NB141_142.out; have hnc16 := NB142_141.out; have hcz17_0 : w15.cell? ⟨gb141, 0, none⟩ = some (.int .i64 a0_0) := (blk_cell BK141.out 0).trans rfl; have hcz17_1 : w15.cell? ⟨gb141, 1, none⟩ = some (.slice Ao12 l0_1.length co12) := (blk_cell BK141.out 1).trans rfl; have hcz17_2 : w15.cell? ⟨gb141, 2, none⟩ = some (.slice Ao13 l0_2.length co13) := (blk_cell BK141.out 2).trans rfl; have hfz17_0 := blk_frozen BK141.out 0; have hfz17_1 := blk_frozen BK141.out 1; have hfz17_2 := blk_frozen BK141.out 2; have p143 : 0 ≤ (0 : Int) := (by omega); have q143 : 0 < (l0_1.length : Int) := of_decide_eq_true (by first | (with_reducible assumption) | assumption); obtain ⟨ad143, e143, hx143_0⟩ := Kd.at_int (Kd.R_reads' HO0_1.out).2.2 0 p143 q143; cases e143; have qi143 : (0 < l0_1.length) = True := eq_true (by omega); (try rw [show ((0 : Int)).toNat = 0 from rfl] at hx143_0); (try rw [Addr.add_zero'] at hx143_0); replace p143 := eq_true p143; replace q143 := eq_true q143) | ((with_reducible refine gate_callee (f := 24) rfl ?_); refine goesL_ (some 20) rfl rfl Try.func24 (by kernel_rfl) rfl #[.agg #[.int .i64 a0_0, .slice (some ad143) l0_1.length co12, .slice Ao13 l0_2.length co13], .int .i64 (rd l0_1 0)] rfl (by (try simp only [List.map_toArray, List.map_cons, List.map_nil]); first | done | rfl | (simp only [List.length_drop, List.length_take]; rfl)) ?_; (with_reducible refine (hostlerref12_Remove.calls k a0_0 _ _ l0_1 _ _ l0_2 (rd l0_1 0) t144 t145 t148 t151 _ ?side1 ?side2 ?side3 ?side4 A11.out).mono ?_); (case side1 => repeat (first | exact (Kd.R_reads' HO0_1.out).2.2 | (with_reducible refine Kd.C_alloc ?_ _) | (with_reducible refine Kd.C_drewN ?_ _) | (with_reducible refine Kd.C_drew ?_))); (case side2 => exact (Kd.R_reads' HO0_1.out).2.1); (case side3 => repeat (first | exact (Kd.R_reads' HO0_2.out).2.2 | (with_reducible refine Kd.C_alloc ?_ _) | (with_reducible refine Kd.C_drewN ?_ _) | (with_reducible refine Kd.C_drew ?_))); (case side4 => exact (Kd.R_reads' HO0_2.out).2.1); rintro e w18 ⟨v146, v149, rfl, ho0, ho1, hb⟩; refine ⟨_, rfl, ?_⟩; have n0_ := Aside0.mk (Kd.R_mono (Kd.R_told (Kd.R_told (Kd.R_old (by (with_reducible repeat (first | apply Kd.R_alloc | apply Kd.R_drewN | apply Kd.R_drew)); exact HO0_1.out) hb) (Kd.R_base ho0)) (Kd.R_base ho1)) (fun _ h_ => h_.1)); have n1_ := Aside0.mk (Kd.R_mono (Kd.R_told (Kd.R_told (Kd.R_old (by (with_reducible repeat (first | apply Kd.R_alloc | apply Kd.R_drewN | apply Kd.R_drew)); exact HO0_2.out) hb) (Kd.R_base ho0)) (Kd.R_base ho1)) (fun _ h_ => h_.1)); have n2_ := Aside0.mk (Kd.R_lower (Kd.R_new' (Kd.R_new' (Kd.R_newM (M := fun k_ => ((P0_1_ k_ ∨ P0_2_ k_) ∨ w.heap.size ≤ k_)) ho0 (by first | exact HK.out.1 | exact (show Kept w _ (fun k_ => P0_1_ k_ ∨ P0_2_ k_) from by repeat (first | (with_reducible first | exact HK.out | apply Kept.alloc | apply Kept.drewN | apply Kept.drew | refine Kept.setCell ?_ (.inr GW141.out) _ | refine Kept.setCell ?_ (.inr GW142.out) _) | exact HK.out)).1) (fun k_ h_ => .inr h_)) (Kd.R_lt (by (with_reducible repeat (first | apply Kd.R_alloc | apply Kd.R_drewN | apply Kd.R_drew)); exact HO0_1.out))) (Kd.R_lt (by (with_reducible repeat (first | apply Kd.R_alloc | apply Kd.R_drewN | apply Kd.R_drew)); exact HO0_2.out))) (below_size (by repeat (first | (with_reducible first | exact HB.out | apply below_alloc | apply pw_below_drewN | apply below_drew1 | refine below_set ?_ GE141.out | refine below_set ?_ GE142.out) | exact HB.out)))); have n3_ := Aside0.mk (Kd.R_lower (Kd.R_new' (Kd.R_new' (Kd.R_newM (M := fun k_ => ((P0_1_ k_ ∨ P0_2_ k_) ∨ w.heap.size ≤ k_)) ho1 (by first | exact HK.out.1 | exact (show Kept w _ (fun k_ => P0_1_ k_ ∨ P0_2_ k_) from by repeat (first | (with_reducible first | exact HK.out | apply Kept.alloc | apply Kept.drewN | apply Kept.drew | refine Kept.setCell ?_ (.inr GW141.out) _ | refine Kept.setCell ?_ (.inr GW142.out) _) | exact HK.out)).1) (fun k_ h_ => .inr h_)) (Kd.R_lt (by (with_reducible repeat (first | apply Kd.R_alloc | apply Kd.R_drewN | apply Kd.R_drew)); exact HO0_1.out))) (Kd.R_lt (by (with_reducible repeat (first | apply Kd.R_alloc | apply Kd.R_drewN | apply Kd.R_drew)); exact HO0_2.out))) (below_size (by repeat (first | (with_reducible first | exact HB.out | apply below_alloc | apply pw_below_drewN | apply below_drew1 | refine below_set ?_ GE141.out | refine below_set ?_ GE142.out) | exact HB.out)))); have n4_ := Aside0.mk (blk_below (g := gb141) (o := .cells #[.int .i64 a0_0, .slice (some ad143) l0_1.length co12, .slice Ao13 l0_2.length co13] 46 (0, 0)) (by (with_reducible repeat (first | refine blk_drewN ?_ _ | refine blk_drew ?_ | refine blk_alloc ?_ _)); exact BK141.out) hb); have n5_ := Aside0.mk (blk_below (g := gb142) (o := .cells #[.int .i64 0, .slice none 0 0, .slice none 0 0] 46 (0, 0)) (by (with_reducible repeat (first | refine blk_drewN ?_ _ | refine blk_drew ?_ | refine blk_alloc ?_ _)); exact BK142.out) hb); have n6_ := Aside0.mk (Kept.below (S := (fun k_ => P0_1_ k_ ∨ P0_2_ k_)) (by repeat (first | (with_reducible first | exact HK.out | apply Kept.alloc | apply Kept.drewN | apply Kept.drew | refine Kept.setCell ?_ (.inr GW141.out) _ | refine Kept.setCell ?_ (.inr GW142.out) _) | exact HK.out)) hb); have n7_ := Aside0.mk (below_step (by repeat (first | (with_reducible first | exact HB.out | apply below_alloc | apply pw_below_drewN | apply below_drew1 | refine below_set ?_ GE141.out | refine below_set ?_ GE142.out) | exact HB.out)) hb); clear HO0_1; clear HO0_2; clear BK141; clear BK142; clear HK; clear HB; have HO0_1 := n0_; have HO0_2 := n1_; have HO147 := n2_; have HO150 := n3_; have BK141 := n4_; have BK142 := n5_; have HK := n6_; have HB := n7_; clear n0_ n1_ n2_ n3_ n4_ n5_ n6_ n7_; (try clear hb); (try clear hb2); (try clear hk); (try clear hi); (try clear ho0); (try clear ho1)) | ((with_reducible refine gate_dst (N := 6) rfl ?_); refine box_event ?hg (N := 6) ?hd (cs := #[.int .i64 0, .slice none 0 0, .slice none 0 0]) (t := 46) ?hr ?_; (case hd => rfl); (case hg => rfl); (case hr => first | (go_simp; done) | (go_simp; rfl)); intro gb152 hg w19 hbox hb; have n0_ := Aside0.mk (Kd.R_below (by (with_reducible repeat (first | apply Kd.R_alloc | apply Kd.R_drewN | apply Kd.R_drew)); exact HO0_1.out) hb); have n1_ := Aside0.mk (Kd.R_below (by (with_reducible repeat (first | apply Kd.R_alloc | apply Kd.R_drewN | apply Kd.R_drew)); exact HO0_2.out) hb); have n2_ := Aside0.mk (Kd.R_below (by (with_reducible repeat (first | apply Kd.R_alloc | apply Kd.R_drewN | apply Kd.R_drew)); exact HO147.out) hb); have n3_ := Aside0.mk (Kd.R_below (by (with_reducible repeat (first | apply Kd.R_alloc | apply Kd.R_drewN | apply Kd.R_drew)); exact HO150.out) hb); have n4_ := Aside0.mk (blk_below (g := gb141) (o := .cells #[.int .i64 a0_0, .slice (some ad143) l0_1.length co12, .slice Ao13 l0_2.length co13] 46 (0, 0)) (by (with_reducible repeat (first | refine blk_drewN ?_ _ | refine blk_drew ?_ | refine blk_alloc ?_ _)); exact BK141.out) hb); have n5_ := Aside0.mk (blk_below (g := gb142) (o := .cells #[.int .i64 0, .slice none 0 0, .slice none 0 0] 46 (0, 0)) (by (with_reducible repeat (first | refine blk_drewN ?_ _ | refine blk_drew ?_ | refine blk_alloc ?_ _)); exact BK142.out) hb); have n6_ := Aside0.mk (Kept.below (S := (fun k_ => P0_1_ k_ ∨ P0_2_ k_)) (by repeat (first | (with_reducible first | exact HK.out | apply Kept.alloc | apply Kept.drewN | apply Kept.drew | refine Kept.setCell ?_ (.inr GW141.out) _ | refine Kept.setCell ?_ (.inr GW142.out) _) | exact HK.out)) hb); have n7_ := Aside0.mk (below_step (by repeat (first | (with_reducible first | exact HB.out | apply below_alloc | apply pw_below_drewN | apply below_drew1 | refine below_set ?_ GE141.out | refine below_set ?_ GE142.out) | exact HB.out)) hb); have n8_ := Aside0.mk (hbox); have n9_ := Aside0.mk ((by rw [hg]; exact (by first | exact HK.out.1 | exact (show Kept w _ (fun k_ => P0_1_ k_ ∨ P0_2_ k_) from by repeat (first | (with_reducible first | exact HK.out | apply Kept.alloc | apply Kept.drewN | apply Kept.drew | refine Kept.setCell ?_ (.inr GW141.out) _ | refine Kept.setCell ?_ (.inr GW142.out) _) | exact HK.out)).1) : w.heap.size ≤ gb152)); have n10_ := Aside0.mk ((by rw [hg]; exact (below_size (by repeat (first | (with_reducible first | exact HB.out | apply below_alloc | apply pw_below_drewN | apply below_drew1 | refine below_set ?_ GE141.out | refine below_set ?_ GE142.out) | exact HB.out))) : w0.heap.size ≤ gb152)); have n11_ := Aside0.mk ((by rw [hg]; exact Nat.ne_of_lt (blk_lt (g := gb141) (o := .cells #[.int .i64 a0_0, .slice (some ad143) l0_1.length co12, .slice Ao13 l0_2.length co13] 46 (0, 0)) (by (with_reducible repeat (first | refine blk_drewN ?_ _ | refine blk_drew ?_ | refine blk_alloc ?_ _)); exact BK141.out)) : gb141 ≠ gb152)); have n12_ := Aside0.mk ((by rw [hg]; exact Nat.ne_of_gt (blk_lt (g := gb141) (o := .cells #[.int .i64 a0_0, .slice (some ad143) l0_1.length co12, .slice Ao13 l0_2.length co13] 46 (0, 0)) (by (with_reducible repeat (first | refine blk_drewN ?_ _ | refine blk_drew ?_ | refine blk_alloc ?_ _)); exact BK141.out)) : gb152 ≠ gb141)); have n13_ := Aside0.mk ((by rw [hg]; exact Nat.ne_of_lt (blk_lt (g := gb142) (o := .cells #[.int .i64 0, .slice none 0 0, .slice none 0 0] 46 (0, 0)) (by (with_reducible repeat (first | refine blk_drewN ?_ _ | refine blk_drew ?_ | refine blk_alloc ?_ _)); exact BK142.out)) : gb142 ≠ gb152)); have n14_ := Aside0.mk ((by rw [hg]; exact Nat.ne_of_gt (blk_lt (g := gb142) (o := .cells #[.int .i64 0, .slice none 0 0, .slice none 0 0] 46 (0, 0)) (by (with_reducible repeat (first | refine blk_drewN ?_ _ | refine blk_drew ?_ | refine blk_alloc ?_ _)); exact BK142.out)) : gb152 ≠ gb142)); clear HO0_1; clear HO0_2; clear HO147; clear HO150; clear BK141; clear BK142; clear HK; clear HB; have HO0_1 := n0_; have HO0_2 := n1_; have HO147 := n2_; have HO150 := n3_; have BK141 := n4_; have BK142 := n5_; have HK := n6_; have HB := n7_; have BK152 := n8_; have GW152 := n9_; have GE152 := n10_; have NB141_152 := n11_; have NB152_141 := n12_; have NB142_152 := n13_; have NB152_142 := n14_; clear n0_ n1_ n2_ n3_ n4_ n5_ n6_ n7_ n8_ n9_ n10_ n11_ n12_ n13_ n14_; clear hb hbox hg; have hnb20 := NB152_141.out; have hnc20 := NB141_152.out; have hnb21 := NB152_142.out; have hnc21 := NB142_152.out; have hcz22_0 : w19.cell? ⟨gb152, 0, none⟩ = some (.int .i64 0) := (blk_cell BK152.out 0).trans rfl; have hcz22_1 : w19.cell? ⟨gb152, 1, none⟩ = some (.slice none 0 0) := (blk_cell BK152.out 1).trans rfl; have hcz22_2 : w19.cell? ⟨gb152, 2, none⟩ = some (.slice none 0 0) := (blk_cell BK152.out 2).trans rfl; have hfz22_0 := blk_frozen BK152.out 0; have hfz22_1 := blk_frozen BK152.out 1; have hfz22_2 := blk_frozen BK152.out 2; obtain ⟨Ao23, co23, eo23⟩ := Kd.R_slice HO147.out; subst eo23; obtain ⟨Ao24, co24, eo24⟩ := Kd.R_slice HO150.out; subst eo24; have hcz25_0 : w19.cell? ⟨gb142, 0, none⟩ = some (.int .i64 0) := (blk_cell BK142.out 0).trans rfl; have hcz25_1 : w19.cell? ⟨gb142, 1, none⟩ = some (.slice none 0 0) := (blk_cell BK142.out 1).trans rfl; have hcz25_2 : w19.cell? ⟨gb142, 2, none⟩ = some (.slice none 0 0) := (blk_cell BK142.out 2).trans rfl; have hfz25_0 := blk_frozen BK142.out 0; have hfz25_1 := blk_frozen BK142.out 1; have hfz25_2 := blk_frozen BK142.out 2))
      refine bodyPost_ret (results_ctt rfl _ _ gb142 46 #[.int .i64 t144, .slice Ao23 t145.length co23, .slice Ao24 t148.length co24] (0, 0) _ rfl (by (with_reducible repeat (first | refine blk_drewN ?_ _ | refine blk_drew ?_ | refine blk_alloc ?_ _)); refine blk_put (cs := #[.int .i64 t144, .slice Ao23 t145.length co23, .slice none 0 0]) ?_ 2 _ rfl; (with_reducible repeat (first | refine blk_drewN ?_ _ | refine blk_drew ?_ | refine blk_alloc ?_ _)); refine blk_put (cs := #[.int .i64 t144, .slice none 0 0, .slice none 0 0]) ?_ 1 _ rfl; (with_reducible repeat (first | refine blk_drewN ?_ _ | refine blk_drew ?_ | refine blk_alloc ?_ _)); refine blk_put (cs := #[.int .i64 0, .slice none 0 0, .slice none 0 0]) ?_ 0 _ rfl; (with_reducible repeat (first | refine blk_drewN ?_ _ | refine blk_drew ?_ | refine blk_alloc ?_ _)); refine blk_far ?_ NB142_152.out _; (with_reducible repeat (first | refine blk_drewN ?_ _ | refine blk_drew ?_ | refine blk_alloc ?_ _)); refine blk_far ?_ NB142_152.out _; (with_reducible repeat (first | refine blk_drewN ?_ _ | refine blk_drew ?_ | refine blk_alloc ?_ _)); refine blk_far ?_ NB142_152.out _; (with_reducible repeat (first | refine blk_drewN ?_ _ | refine blk_drew ?_ | refine blk_alloc ?_ _)); exact BK142.out) Try.underlying46 rfl (by kernel_rfl)) rfl ?_
      exact ⟨_, _, by first | rfl | (simp only [Int.ofNat_lt]; rfl) | (simp [errW_none, errW_some] <;> rfl) | (simp [*, errW_none, errW_some] <;> rfl), by (with_reducible repeat (first | apply Kd.R_alloc | apply Kd.R_drewN | apply Kd.R_drew)); exact Kd.R_mono (Kd.R_far (p := ⟨gb142, 2, none⟩) (Kd.R_far (p := ⟨gb142, 1, none⟩) (Kd.R_far (p := ⟨gb142, 0, none⟩) (Kd.R_far (p := ⟨gb152, 2, none⟩) (Kd.R_far (p := ⟨gb152, 1, none⟩) (Kd.R_far (p := ⟨gb152, 0, none⟩) (Kd.R_types (Kd.R_types HO147.out BK152.out (by decide)) BK142.out (by decide)) (fun _ hk => hk.1.2) (.int .i64 t144)) (fun _ hk => hk.1.2) (.slice Ao23 t145.length co23)) (fun _ hk => hk.1.2) (.slice Ao24 t148.length co24)) (fun _ hk => hk.2) (.int .i64 t144)) (fun _ hk => hk.2) (.slice Ao23 t145.length co23)) (fun _ hk => hk.2) (.slice Ao24 t148.length co24)) (fun _ hk => ⟨hk.1.1.1.1.1, hk.1.1.1.1.2⟩), by (with_reducible repeat (first | apply Kd.R_alloc | apply Kd.R_drewN | apply Kd.R_drew)); exact Kd.R_mono (Kd.R_far (p := ⟨gb142, 2, none⟩) (Kd.R_far (p := ⟨gb142, 1, none⟩) (Kd.R_far (p := ⟨gb142, 0, none⟩) (Kd.R_far (p := ⟨gb152, 2, none⟩) (Kd.R_far (p := ⟨gb152, 1, none⟩) (Kd.R_far (p := ⟨gb152, 0, none⟩) (Kd.R_types (Kd.R_types HO150.out BK152.out (by decide)) BK142.out (by decide)) (fun _ hk => hk.1.2) (.int .i64 t144)) (fun _ hk => hk.1.2) (.slice Ao23 t145.length co23)) (fun _ hk => hk.1.2) (.slice Ao24 t148.length co24)) (fun _ hk => hk.2) (.int .i64 t144)) (fun _ hk => hk.2) (.slice Ao23 t145.length co23)) (fun _ hk => hk.2) (.slice Ao24 t148.length co24)) (fun _ hk => ⟨hk.1.1.1.1.1, hk.1.1.1.1.2⟩), by repeat (first | (with_reducible first | exact HB.out | apply below_alloc | apply pw_below_drewN | apply below_drew1 | refine below_set ?_ GE141.out | refine below_set ?_ GE142.out | refine below_set ?_ GE152.out) | exact HB.out), by repeat (first | (with_reducible first | exact HK.out | apply Kept.alloc | apply Kept.drewN | apply Kept.drew | refine Kept.setCell ?_ (.inr GW141.out) _ | refine Kept.setCell ?_ (.inr GW142.out) _ | refine Kept.setCell ?_ (.inr GW152.out) _) | exact HK.out)⟩
    · rw [if_neg c10] at H
      exact absurd H (by simp)

/-! ### hostlerref01_Past: function 37 -/
def hostlerref01_Past.f (a0 : Int) (a1 : Int) : Option (Bool) := (hostlerref01_Cut.f a0).bind fun t153 => ((hostlerref01_Cut.f a1).bind fun t154 => (some (decide (t153 ≥ t154))))
set_option maxHeartbeats 8000000 in
set_option maxRecDepth 100000 in
theorem hostlerref01_Past.calls (a0 : Int) (a1 : Int) (r : Bool) (w : World) (h : hostlerref01_Past.f a0 a1 = some r) :
    Calls Try.prog 37 #[.int .i64 a0, .int .i64 a1] w fun e w' => e = .returned (.bool r) ∧ Drawn0 w w' := by
  have H : ((hostlerref01_Cut.f a0).bind fun t153 => ((hostlerref01_Cut.f a1).bind fun t154 => (some (decide (t153 ≥ t154))))) = some r := h
  clear h
  replace H := Option.bind_eq_some_iff.mp H
  obtain ⟨t153, A30, H⟩ := H
  replace H : ((hostlerref01_Cut.f a1).bind fun t154 => (some (decide (t153 ≥ t154)))) = some r := H
  have A3 := Aside0.mk A30
  clear A30
  replace H := Option.bind_eq_some_iff.mp H
  obtain ⟨t154, A40, H⟩ := H
  replace H : (some (decide (t153 ≥ t154))) = some r := H
  have A4 := Aside0.mk A40
  clear A40
  obtain rfl := Option.some.inj H
  go_enter Try.func37, Try.ntmps37
  go_wp2_with (first | ((with_reducible refine gate_callee (f := 36) rfl ?_); refine goesL_ (some 6) rfl rfl Try.func36 (by kernel_rfl) rfl #[.int .i64 a0] rfl (by (try simp only [List.map_toArray, List.map_cons, List.map_nil]); first | done | rfl | (simp only [List.length_drop, List.length_take]; rfl)) ?_; (with_reducible refine (hostlerref01_Cut.calls a0 t153 _ A3.out).mono ?_); rintro e w' ⟨rfl, ⟨nd, rfl⟩⟩; refine ⟨_, rfl, ?_⟩) | ((with_reducible refine gate_callee (f := 36) rfl ?_); refine goesL_ (some 8) rfl rfl Try.func36 (by kernel_rfl) rfl #[.int .i64 a1] rfl (by (try simp only [List.map_toArray, List.map_cons, List.map_nil]); first | done | rfl | (simp only [List.length_drop, List.length_take]; rfl)) ?_; (with_reducible refine (hostlerref01_Cut.calls a1 t154 _ A4.out).mono ?_); rintro e w' ⟨rfl, ⟨nd, rfl⟩⟩; refine ⟨_, rfl, ?_⟩))
  go_ret
  exact ⟨by first | rfl | (simp; done) | (simp [*]; done), by repeat (first | exact Drawn0.refl _ | apply Drawn0.step)⟩

/-! ### hostlerref01_Add: function 38 -/
def hostlerref01_Add.f (a0 : Int) (a1 : Int) : Option (Int) := (hostlerref01_Cut.f a0).bind fun t155 => ((hostlerref01_Cut.f a1).bind fun t156 => ((hostlerref01_Cut.f (wrap64 (t155 + t156))).bind fun t157 => (some t157)))
set_option maxHeartbeats 8000000 in
set_option maxRecDepth 100000 in
theorem hostlerref01_Add.calls (a0 : Int) (a1 : Int) (r : Int) (w : World) (h : hostlerref01_Add.f a0 a1 = some r) :
    Calls Try.prog 38 #[.int .i64 a0, .int .i64 a1] w fun e w' => e = .returned (.int .i64 r) ∧ Drawn0 w w' := by
  have H : ((hostlerref01_Cut.f a0).bind fun t155 => ((hostlerref01_Cut.f a1).bind fun t156 => ((hostlerref01_Cut.f (wrap64 (t155 + t156))).bind fun t157 => (some t157)))) = some r := h
  clear h
  replace H := Option.bind_eq_some_iff.mp H
  obtain ⟨t155, A30, H⟩ := H
  replace H : ((hostlerref01_Cut.f a1).bind fun t156 => ((hostlerref01_Cut.f (wrap64 (t155 + t156))).bind fun t157 => (some t157))) = some r := H
  have A3 := Aside0.mk A30
  clear A30
  replace H := Option.bind_eq_some_iff.mp H
  obtain ⟨t156, A40, H⟩ := H
  replace H : ((hostlerref01_Cut.f (wrap64 (t155 + t156))).bind fun t157 => (some t157)) = some r := H
  have A4 := Aside0.mk A40
  clear A40
  replace H := Option.bind_eq_some_iff.mp H
  obtain ⟨t157, A50, H⟩ := H
  replace H : (some t157) = some r := H
  have A5 := Aside0.mk A50
  clear A50
  obtain rfl := Option.some.inj H
  go_enter Try.func38, Try.ntmps38
  go_wp2_with (first | ((with_reducible refine gate_callee (f := 36) rfl ?_); refine goesL_ (some 6) rfl rfl Try.func36 (by kernel_rfl) rfl #[.int .i64 a0] rfl (by (try simp only [List.map_toArray, List.map_cons, List.map_nil]); first | done | rfl | (simp only [List.length_drop, List.length_take]; rfl)) ?_; (with_reducible refine (hostlerref01_Cut.calls a0 t155 _ A3.out).mono ?_); rintro e w' ⟨rfl, ⟨nd, rfl⟩⟩; refine ⟨_, rfl, ?_⟩) | ((with_reducible refine gate_callee (f := 36) rfl ?_); refine goesL_ (some 8) rfl rfl Try.func36 (by kernel_rfl) rfl #[.int .i64 a1] rfl (by (try simp only [List.map_toArray, List.map_cons, List.map_nil]); first | done | rfl | (simp only [List.length_drop, List.length_take]; rfl)) ?_; (with_reducible refine (hostlerref01_Cut.calls a1 t156 _ A4.out).mono ?_); rintro e w' ⟨rfl, ⟨nd, rfl⟩⟩; refine ⟨_, rfl, ?_⟩) | ((with_reducible refine gate_callee (f := 36) rfl ?_); refine goesL_ (some 10) rfl rfl Try.func36 (by kernel_rfl) rfl #[.int .i64 (wrap64 (t155 + t156))] rfl (by (try simp only [List.map_toArray, List.map_cons, List.map_nil]); first | done | rfl | (simp only [List.length_drop, List.length_take]; rfl)) ?_; (with_reducible refine (hostlerref01_Cut.calls (wrap64 (t155 + t156)) t157 _ A5.out).mono ?_); rintro e w' ⟨rfl, ⟨nd, rfl⟩⟩; refine ⟨_, rfl, ?_⟩))
  go_ret
  exact ⟨by first | rfl | (simp; done) | (simp [*]; done), by repeat (first | exact Drawn0.refl _ | apply Drawn0.step)⟩

end Go.Proofs.Ytdcnmjdohjodhaa.PA
