/-
  The walk of WheelKeys. Conditions: none.
-/
import Derived.Test.YtfflhppieogkbaaLn
set_option linter.unusedVariables false
set_option linter.unusedSimpArgs false
set_option maxRecDepth 100000
namespace Go.Proofs.Ytfflhppieogkbaa.Hp
open Go Go.RowKit Go.Proofs.YtfflhppieogkbaaW.PrintWords Go.Proofs.YtfflhppieogkbaaW.PrintLast Go.Proofs.YtfflhppieogkbaaW.PrintMore Go.Proofs.Ytfflhppieogkbaa.Mp Go.Proofs.Ytfflhppieogkbaa.PA
attribute [local go_sem] max2_int min2_int max_two min_two
def keys.T3 : Bool × List (List Nat × List Nat) := (true, [([], []), ([0], [0]), ([], []), ([2], [2]), ([1, 3], [1, 3]), ([], []), ([5], [5]), ([], []), ([7], [7]), ([6, 8, 4], [6, 8]), ([4, 9, 0, 1, 2, 3, 4], [4]), ([9, 10, 0, 1, 2, 3, 4, 5, 6, 7, 8, 9, 10], [9])])
theorem keys.tab3 : rtab .any (opsOf Try.f3 3) = keys.T3 := by kernel_rfl
def keys.T4 : Bool × List (List Nat × List Nat) := (true, [([], []), ([0], [0]), ([], []), ([2], [2]), ([1, 3], [1, 3]), ([], []), ([5], [5]), ([], []), ([7], [7]), ([6, 8, 4], [6, 8]), ([4, 9, 0, 1, 2, 3, 4], [4]), ([9, 10, 0, 1, 2, 3, 4, 5, 6, 7, 8, 9, 10], [9])])
theorem keys.tab4 : rtab .any (opsOf Try.f3 4) = keys.T4 := by kernel_rfl
def keys.T5 : Bool × List (List Nat × List Nat) := (true, [([], []), ([0], [0]), ([1], [1]), ([2], [2]), ([], []), ([4], [4]), ([5], [5]), ([6], [6]), ([3, 0, 1, 2, 3], [3]), ([7, 8, 0, 1, 2, 3, 4, 5, 6, 7, 8], [7])])
theorem keys.tab5 : rtab .any (opsOf Try.f3 5) = keys.T5 := by kernel_rfl

def kap (x : Int) : Int := mn (mx x 0) 1000
def iot (x : Int) : Int := mn (mx x 0) 4294967295
theorem kap_range (x : Int) : 0 ≤ kap x ∧ kap x ≤ 1000 := by
  unfold kap mn mx
  constructor <;> (repeat' split) <;> omega
theorem iot_range (x : Int) : 0 ≤ iot x ∧ iot x ≤ 4294967295 := by
  unfold iot mn mx
  constructor <;> (repeat' split) <;> omega
def keyF (x y : Int) : Int := 4294967296 * kap x + iot y
theorem key_kind (x y : Int) : kindF (keyF x y) = kap x := by
  have h1 := kap_range x
  have h2 := iot_range y
  unfold keyF
  rw [kindF_eq (by omega) (by omega)]
  omega
theorem key_id (x y : Int) : (mx (keyF x y) 0) % 4294967296 = iot y := by
  have h1 := kap_range x
  have h2 := iot_range y
  unfold keyF
  rw [mx0 (by omega)]
  omega
theorem key_lt (x y u v : Int) : keyF x y < keyF u v ↔ (kap x < kap u ∨ (kap x = kap u ∧ iot y < iot v)) := by
  have h1 := kap_range x
  have h2 := iot_range y
  have h3 := kap_range u
  have h4 := iot_range v
  unfold keyF
  omega
set_option maxHeartbeats 8000000 in
theorem keys_calls (a0 a1 b0 b1 : Int) (w : World) (h1 : (Lit.int .i64 a0).wf = true) (h2 : (Lit.int .i64 a1).wf = true) (h3 : (Lit.int .i64 b0).wf = true) (h4 : (Lit.int .i64 b1).wf = true) :
    Calls Try.prog 3 #[.agg #[.int .i64 a0, .int .i64 a1], .agg #[.int .i64 b0, .int .i64 b1]] w fun e w' => e = .returned (.bool true) ∧ Below w.heap.size w w' := by
  have hlt := key_lt a0 a1 b0 b1
  have HK1 := Aside0.mk (fun W => wheel_Key.calls a0 a1 (keyF a0 a1) W rfl)
  have HK2 := Aside0.mk (fun W => wheel_Key.calls b0 b1 (keyF b0 b1) W rfl)
  have HR1 := Aside0.mk (fun W => hostlerref04_Key.calls a0 a1 (keyF a0 a1) W rfl)
  have HR2 := Aside0.mk (fun W => hostlerref04_Key.calls b0 b1 (keyF b0 b1) W rfl)
  have HKK := Aside0.mk (fun W => kind_call (keyF a0 a1) W)
  have HKL := Aside0.mk (fun W => kind_call (keyF b0 b1) W)
  have HIK := Aside0.mk (fun W => wheel_Id.calls (keyF a0 a1) _ W rfl)
  have HIL := Aside0.mk (fun W => wheel_Id.calls (keyF b0 b1) _ W rfl)
  have HKM := Aside0.mk (fun W => kind_call (-5) W)
  have HIM := Aside0.mk (fun W => wheel_Id.calls (-5) 0 W rfl)
  rw [key_kind] at HKK HKL
  rw [key_id] at HIK HIL
  rw [show kindF (-5) = 0 by unfold kindF mx; rw [if_pos (by decide), Int.zero_tdiv]; exact IntWalk.wrap64_in 0 (by decide)] at HKM
  have HLV := Aside0.mk (fun W => lives_raw W)
  obtain ⟨κ, hκ⟩ : ∃ κ, kap a0 = κ := ⟨_, rfl⟩
  obtain ⟨ι, hι⟩ : ∃ ι, iot a1 = ι := ⟨_, rfl⟩
  obtain ⟨κ2, hκ2⟩ : ∃ κ, kap b0 = κ := ⟨_, rfl⟩
  obtain ⟨ι2, hι2⟩ : ∃ ι, iot b1 = ι := ⟨_, rfl⟩
  rw [hκ, hκ2, hι, hι2] at hlt
  rw [hκ] at HKK
  rw [hκ2] at HKL
  rw [hι] at HIK
  rw [hι2] at HIL
  obtain ⟨K, hK⟩ : ∃ K, keyF a0 a1 = K := ⟨_, rfl⟩
  obtain ⟨L, hL⟩ : ∃ L, keyF b0 b1 = L := ⟨_, rfl⟩
  rw [hK] at HK1 HR1 HKK HIK hlt
  rw [hL] at HK2 HR2 HKL HIL hlt
  obtain ⟨j1, hj1⟩ : ∃ j, mx a0 0 = j := ⟨_, rfl⟩
  obtain ⟨j2, hj2⟩ : ∃ j, mx a1 0 = j := ⟨_, rfl⟩
  have m1 : (if a0 < 0 then 0 else a0) = j1 := hj1
  have m2 : (if a1 < 0 then 0 else a1) = j2 := hj2
  have m3 : (if 1000 < j1 then 1000 else j1) = κ := by rw [← hκ, ← hj1]; rfl
  have m4 : (if 4294967295 < j2 then 4294967295 else j2) = ι := by rw [← hι, ← hj2]; rfl
  have HLT := Aside0.mk hlt
  clear hlt hκ hκ2 hι hι2 hK hL hj1 hj2 h1 h2 h3 h4
  go_enter Try.func3, Try.ntmps3
  go_upto_region 3 with (go_at_call 9; refine (HLV.out _).mono ?_; rintro e w1 ⟨rfl, hb1⟩; have HB1 := Aside0.mk hb1; clear hb1)
  obtain ⟨B, hBe⟩ : ∃ B, B = w.heap.size := ⟨_, rfl⟩
  obtain ⟨D, hDe⟩ : ∃ D, D = w.heap.size + 1 := ⟨_, rfl⟩
  rw [← hDe, ← hBe]
  have hbb : ((w.alloc (.cells #[.int .i64 a0, .int .i64 a1] 22)).alloc (.cells #[.int .i64 b0, .int .i64 b1] 22)).heap[B]? = some (.cells #[.int .i64 a0, .int .i64 a1] 22 (0, 0)) := by
    rw [hBe]; exact blk_alloc (heap_alloc_new _ _) _
  have hdd : ((w.alloc (.cells #[.int .i64 a0, .int .i64 a1] 22)).alloc (.cells #[.int .i64 b0, .int .i64 b1] 22)).heap[D]? = some (.cells #[.int .i64 b0, .int .i64 b1] 22 (0, 0)) := by
    have := heap_alloc_new (w.alloc (.cells #[.int .i64 a0, .int .i64 a1] 22)) (.cells #[.int .i64 b0, .int .i64 b1] 22)
    rw [hDe]; simpa using this
  have HBB := Aside0.mk (blk_below hbb HB1.out)
  have HDD := Aside0.mk (blk_below hdd HB1.out)
  have HBW : Aside0 (Below w.heap.size w w1) := ⟨below_step (below_alloc (below_alloc (Below.refl _ _) _) _) HB1.out⟩
  have q0 : w1.cell? ⟨B, 0, none⟩ = some (.int .i64 a0) := (blk_cell HBB.out 0).trans rfl
  have q1 : w1.cell? ⟨B, 1, none⟩ = some (.int .i64 a1) := (blk_cell HBB.out 1).trans rfl
  have q2 : w1.cell? ⟨D, 0, none⟩ = some (.int .i64 b0) := (blk_cell HDD.out 0).trans rfl
  have q3 : w1.cell? ⟨D, 1, none⟩ = some (.int .i64 b1) := (blk_cell HDD.out 1).trans rfl
  clear hBe hDe hbb hdd HB1
  refine start_ (n := 12) (S := fun w' => w'.cell? ⟨B, 0, none⟩ = some (.int .i64 a0) ∧ w'.cell? ⟨B, 1, none⟩ = some (.int .i64 a1) ∧ w'.cell? ⟨D, 0, none⟩ = some (.int .i64 b0) ∧ w'.cell? ⟨D, 1, none⟩ = some (.int .i64 b1)) (ds := []) #[false, false, false, false, false, false, false, false, false, false, false, false] (by kernel_rfl) rfl rfl ⟨q0, q1, q2, q3⟩ (fun hHeld => ?_); refine with_tab keys.tab3 (fun HT_ => ?_)
  refine pure_ (i := 0) (N := some 14) (v := ?_) (a' := ?_) #[true, false, false, false, false, false, false, false, false, false, false, false] rfl rfl (any_of HT_.out (by kernel_rfl)) (fun _ _ _ h => h) (Or.inl ⟨by rfl, ?_⟩) ?_ ?_
  rotate_left
  · intro w'
    go_simp
    with_reducible rfl
  rotate_left
  · simp only [Act.put, List.setIfInBounds_toArray, List.set_cons_zero, List.set_cons_succ, i64_w, i32_w]
    rfl
  refine pure_ (i := 2) (N := some 16) (v := ?_) (a' := ?_) #[true, false, true, false, false, false, false, false, false, false, false, false] rfl rfl (any_of HT_.out (by kernel_rfl)) (fun _ _ _ h => h) (Or.inl ⟨by rfl, ?_⟩) ?_ ?_
  rotate_left
  · intro w'
    go_simp
    with_reducible rfl
  rotate_left
  · simp only [Act.put, List.setIfInBounds_toArray, List.set_cons_zero, List.set_cons_succ, i64_w, i32_w]
    rfl
  refine pure_ (i := 5) (N := some 19) (v := ?_) (a' := ?_) #[true, false, true, false, false, true, false, false, false, false, false, false] rfl rfl (any_of HT_.out (by kernel_rfl)) (fun _ _ _ h => h) (Or.inl ⟨by rfl, ?_⟩) ?_ ?_
  rotate_left
  · intro w'
    go_simp
    with_reducible rfl
  rotate_left
  · simp only [Act.put, List.setIfInBounds_toArray, List.set_cons_zero, List.set_cons_succ, i64_w, i32_w]
    rfl
  refine pure_ (i := 7) (N := some 21) (v := ?_) (a' := ?_) #[true, false, true, false, false, true, false, true, false, false, false, false] rfl rfl (any_of HT_.out (by kernel_rfl)) (fun _ _ _ h => h) (Or.inl ⟨by rfl, ?_⟩) ?_ ?_
  rotate_left
  · intro w'
    go_simp
    with_reducible rfl
  rotate_left
  · simp only [Act.put, List.setIfInBounds_toArray, List.set_cons_zero, List.set_cons_succ, i64_w, i32_w]
    rfl
  refine take_ (i := 1) (N := some 15) (v := ?_) (a' := ?_) #[true, true, true, false, false, true, false, true, false, false, false, false] rfl rfl (take_of HT_.out (by kernel_rfl)) (fun _ _ _ h => h) (Or.inl ⟨by rfl, ?_⟩) hHeld ?_ ?_
  rotate_left
  · intro w' hS_
    obtain ⟨s0, s1, s2, s3⟩ := hS_
    go_simp
    with_reducible rfl
  rotate_left
  · simp only [Act.put, List.setIfInBounds_toArray, List.set_cons_zero, List.set_cons_succ, i64_w, i32_w]
    rfl
  refine take_ (i := 3) (N := some 17) (v := ?_) (a' := ?_) #[true, true, true, true, false, true, false, true, false, false, false, false] rfl rfl (take_of HT_.out (by kernel_rfl)) (fun _ _ _ h => h) (Or.inl ⟨by rfl, ?_⟩) hHeld ?_ ?_
  rotate_left
  · intro w' hS_
    obtain ⟨s0, s1, s2, s3⟩ := hS_
    go_simp
    with_reducible rfl
  rotate_left
  · simp only [Act.put, List.setIfInBounds_toArray, List.set_cons_zero, List.set_cons_succ, i64_w, i32_w]
    rfl
  refine take_ (i := 6) (N := some 20) (v := ?_) (a' := ?_) #[true, true, true, true, false, true, true, true, false, false, false, false] rfl rfl (take_of HT_.out (by kernel_rfl)) (fun _ _ _ h => h) (Or.inl ⟨by rfl, ?_⟩) hHeld ?_ ?_
  rotate_left
  · intro w' hS_
    obtain ⟨s0, s1, s2, s3⟩ := hS_
    go_simp
    with_reducible rfl
  rotate_left
  · simp only [Act.put, List.setIfInBounds_toArray, List.set_cons_zero, List.set_cons_succ, i64_w, i32_w]
    rfl
  refine take_ (i := 8) (N := some 22) (v := ?_) (a' := ?_) #[true, true, true, true, false, true, true, true, true, false, false, false] rfl rfl (take_of HT_.out (by kernel_rfl)) (fun _ _ _ h => h) (Or.inl ⟨by rfl, ?_⟩) hHeld ?_ ?_
  rotate_left
  · intro w' hS_
    obtain ⟨s0, s1, s2, s3⟩ := hS_
    go_simp
    with_reducible rfl
  rotate_left
  · simp only [Act.put, List.setIfInBounds_toArray, List.set_cons_zero, List.set_cons_succ, i64_w, i32_w]
    rfl
  refine one_ (i := 4) (N := some 18) #[true, true, true, true, true, true, true, true, true, false, false, false] rfl rfl (one_of HT_.out (by kernel_rfl)) (by decide) (fun K hK => ?_)
  refine goes_ Try.func10 (by kernel_rfl) rfl #[.int .i64 a0, .int .i64 a1] (by rfl) rfl rfl (by (try simp only [List.map_toArray, List.map_cons, List.map_nil]); first | done | rfl) ?_
  refine (HK1.out _).mono ?_
  rintro e wa ⟨rfl, hb⟩
  have HBwa := Aside0.mk (below_step (below_drew1 (Below.refl _ _)) hb)
  have q0wa : wa.cell? ⟨B, 0, none⟩ = some (.int .i64 a0) := (blk_cell (blk_below HBB.out HBwa.out) 0).trans rfl
  have q1wa : wa.cell? ⟨B, 1, none⟩ = some (.int .i64 a1) := (blk_cell (blk_below HBB.out HBwa.out) 1).trans rfl
  have q2wa : wa.cell? ⟨D, 0, none⟩ = some (.int .i64 b0) := (blk_cell (blk_below HDD.out HBwa.out) 0).trans rfl
  have q3wa : wa.cell? ⟨D, 1, none⟩ = some (.int .i64 b1) := (blk_cell (blk_below HDD.out HBwa.out) 1).trans rfl
  clear hb
  refine ⟨_, rfl, ?_⟩
  refine hK.out _ _ ⟨q0wa, q1wa, q2wa, q3wa⟩ (fun hHeld => ?_)
  clear hK K
  refine norm_ (a' := ?_) ?_ ?_
  rotate_left
  · show Act.put _ (some 18) _ = _
    simp only [Act.put, List.setIfInBounds_toArray, List.set_cons_zero, List.set_cons_succ, i64_w, i32_w]
    rfl
  refine one_ (i := 9) (N := some 23) #[true, true, true, true, true, true, true, true, true, true, false, false] rfl rfl (one_of HT_.out (by kernel_rfl)) (by decide) (fun K hK => ?_)
  refine goes_ Try.func10 (by kernel_rfl) rfl #[.int .i64 b0, .int .i64 b1] (by rfl) rfl rfl (by (try simp only [List.map_toArray, List.map_cons, List.map_nil]); first | done | rfl) ?_
  refine (HK2.out _).mono ?_
  rintro e wb ⟨rfl, hb⟩
  have HBwb := Aside0.mk (below_step HBwa.out hb)
  have q0wb : wb.cell? ⟨B, 0, none⟩ = some (.int .i64 a0) := (blk_cell (blk_below HBB.out HBwb.out) 0).trans rfl
  have q1wb : wb.cell? ⟨B, 1, none⟩ = some (.int .i64 a1) := (blk_cell (blk_below HBB.out HBwb.out) 1).trans rfl
  have q2wb : wb.cell? ⟨D, 0, none⟩ = some (.int .i64 b0) := (blk_cell (blk_below HDD.out HBwb.out) 0).trans rfl
  have q3wb : wb.cell? ⟨D, 1, none⟩ = some (.int .i64 b1) := (blk_cell (blk_below HDD.out HBwb.out) 1).trans rfl
  clear hb
  refine ⟨_, rfl, ?_⟩
  refine hK.out _ _ ⟨q0wb, q1wb, q2wb, q3wb⟩ (fun hHeld => ?_)
  clear hK K
  refine norm_ (a' := ?_) ?_ ?_
  rotate_left
  · show Act.put _ (some 23) _ = _
    simp only [Act.put, List.setIfInBounds_toArray, List.set_cons_zero, List.set_cons_succ, i64_w, i32_w]
    rfl
  refine pure_ (i := 10) (N := some 5) (v := ?_) (a' := ?_) #[true, true, true, true, true, true, true, true, true, true, true, false] rfl rfl (any_of HT_.out (by kernel_rfl)) (fun _ _ _ h => h) (Or.inl ⟨by rfl, ?_⟩) ?_ ?_
  rotate_left
  · intro w'
    go_simp
    with_reducible rfl
  rotate_left
  · simp only [Act.put, List.setIfInBounds_toArray, List.set_cons_zero, List.set_cons_succ, i64_w, i32_w]
    rfl
  refine pure_ (i := 11) (N := some 6) (v := ?_) (a' := ?_) #[true, true, true, true, true, true, true, true, true, true, true, true] rfl rfl (any_of HT_.out (by kernel_rfl)) (fun _ _ _ h => h) (Or.inl ⟨by rfl, ?_⟩) ?_ ?_
  rotate_left
  · intro w'
    go_simp
    with_reducible rfl
  rotate_left
  · simp only [Act.put, List.setIfInBounds_toArray, List.set_cons_zero, List.set_cons_succ, i64_w, i32_w]
    rfl
  refine done_ (done_of HT_.out (by kernel_rfl)) ?_
  clear hHeld q0 q1 q2 q3 q0wa q1wa q2wa q3wa
  go_wp2_with fail
  refine start_ (n := 12) (S := fun w' => w'.cell? ⟨B, 0, none⟩ = some (.int .i64 a0) ∧ w'.cell? ⟨B, 1, none⟩ = some (.int .i64 a1) ∧ w'.cell? ⟨D, 0, none⟩ = some (.int .i64 b0) ∧ w'.cell? ⟨D, 1, none⟩ = some (.int .i64 b1)) (ds := []) #[false, false, false, false, false, false, false, false, false, false, false, false] (by kernel_rfl) rfl rfl ⟨q0wb, q1wb, q2wb, q3wb⟩ (fun hHeld => ?_); refine with_tab keys.tab4 (fun HT_ => ?_)
  refine pure_ (i := 0) (N := some 24) (v := ?_) (a' := ?_) #[true, false, false, false, false, false, false, false, false, false, false, false] rfl rfl (any_of HT_.out (by kernel_rfl)) (fun _ _ _ h => h) (Or.inl ⟨by rfl, ?_⟩) ?_ ?_
  rotate_left
  · intro w'
    go_simp
    with_reducible rfl
  rotate_left
  · simp only [Act.put, List.setIfInBounds_toArray, List.set_cons_zero, List.set_cons_succ, i64_w, i32_w]
    rfl
  refine pure_ (i := 2) (N := some 26) (v := ?_) (a' := ?_) #[true, false, true, false, false, false, false, false, false, false, false, false] rfl rfl (any_of HT_.out (by kernel_rfl)) (fun _ _ _ h => h) (Or.inl ⟨by rfl, ?_⟩) ?_ ?_
  rotate_left
  · intro w'
    go_simp
    with_reducible rfl
  rotate_left
  · simp only [Act.put, List.setIfInBounds_toArray, List.set_cons_zero, List.set_cons_succ, i64_w, i32_w]
    rfl
  refine pure_ (i := 5) (N := some 29) (v := ?_) (a' := ?_) #[true, false, true, false, false, true, false, false, false, false, false, false] rfl rfl (any_of HT_.out (by kernel_rfl)) (fun _ _ _ h => h) (Or.inl ⟨by rfl, ?_⟩) ?_ ?_
  rotate_left
  · intro w'
    go_simp
    with_reducible rfl
  rotate_left
  · simp only [Act.put, List.setIfInBounds_toArray, List.set_cons_zero, List.set_cons_succ, i64_w, i32_w]
    rfl
  refine pure_ (i := 7) (N := some 31) (v := ?_) (a' := ?_) #[true, false, true, false, false, true, false, true, false, false, false, false] rfl rfl (any_of HT_.out (by kernel_rfl)) (fun _ _ _ h => h) (Or.inl ⟨by rfl, ?_⟩) ?_ ?_
  rotate_left
  · intro w'
    go_simp
    with_reducible rfl
  rotate_left
  · simp only [Act.put, List.setIfInBounds_toArray, List.set_cons_zero, List.set_cons_succ, i64_w, i32_w]
    rfl
  refine take_ (i := 1) (N := some 25) (v := ?_) (a' := ?_) #[true, true, true, false, false, true, false, true, false, false, false, false] rfl rfl (take_of HT_.out (by kernel_rfl)) (fun _ _ _ h => h) (Or.inl ⟨by rfl, ?_⟩) hHeld ?_ ?_
  rotate_left
  · intro w' hS_
    obtain ⟨s0, s1, s2, s3⟩ := hS_
    go_simp
    with_reducible rfl
  rotate_left
  · simp only [Act.put, List.setIfInBounds_toArray, List.set_cons_zero, List.set_cons_succ, i64_w, i32_w]
    rfl
  refine take_ (i := 3) (N := some 27) (v := ?_) (a' := ?_) #[true, true, true, true, false, true, false, true, false, false, false, false] rfl rfl (take_of HT_.out (by kernel_rfl)) (fun _ _ _ h => h) (Or.inl ⟨by rfl, ?_⟩) hHeld ?_ ?_
  rotate_left
  · intro w' hS_
    obtain ⟨s0, s1, s2, s3⟩ := hS_
    go_simp
    with_reducible rfl
  rotate_left
  · simp only [Act.put, List.setIfInBounds_toArray, List.set_cons_zero, List.set_cons_succ, i64_w, i32_w]
    rfl
  refine take_ (i := 6) (N := some 30) (v := ?_) (a' := ?_) #[true, true, true, true, false, true, true, true, false, false, false, false] rfl rfl (take_of HT_.out (by kernel_rfl)) (fun _ _ _ h => h) (Or.inl ⟨by rfl, ?_⟩) hHeld ?_ ?_
  rotate_left
  · intro w' hS_
    obtain ⟨s0, s1, s2, s3⟩ := hS_
    go_simp
    with_reducible rfl
  rotate_left
  · simp only [Act.put, List.setIfInBounds_toArray, List.set_cons_zero, List.set_cons_succ, i64_w, i32_w]
    rfl
  refine take_ (i := 8) (N := some 32) (v := ?_) (a' := ?_) #[true, true, true, true, false, true, true, true, true, false, false, false] rfl rfl (take_of HT_.out (by kernel_rfl)) (fun _ _ _ h => h) (Or.inl ⟨by rfl, ?_⟩) hHeld ?_ ?_
  rotate_left
  · intro w' hS_
    obtain ⟨s0, s1, s2, s3⟩ := hS_
    go_simp
    with_reducible rfl
  rotate_left
  · simp only [Act.put, List.setIfInBounds_toArray, List.set_cons_zero, List.set_cons_succ, i64_w, i32_w]
    rfl
  refine one_ (i := 4) (N := some 28) #[true, true, true, true, true, true, true, true, true, false, false, false] rfl rfl (one_of HT_.out (by kernel_rfl)) (by decide) (fun K hK => ?_)
  refine goes_ Try.func11 (by kernel_rfl) rfl #[.int .i64 a0, .int .i64 a1] (by rfl) rfl rfl (by (try simp only [List.map_toArray, List.map_cons, List.map_nil]); first | done | rfl) ?_
  refine (HR1.out _).mono ?_
  rintro e wc ⟨rfl, hb⟩
  have HBwc := Aside0.mk (below_step (below_drew1 HBwb.out) hb)
  have q0wc : wc.cell? ⟨B, 0, none⟩ = some (.int .i64 a0) := (blk_cell (blk_below HBB.out HBwc.out) 0).trans rfl
  have q1wc : wc.cell? ⟨B, 1, none⟩ = some (.int .i64 a1) := (blk_cell (blk_below HBB.out HBwc.out) 1).trans rfl
  have q2wc : wc.cell? ⟨D, 0, none⟩ = some (.int .i64 b0) := (blk_cell (blk_below HDD.out HBwc.out) 0).trans rfl
  have q3wc : wc.cell? ⟨D, 1, none⟩ = some (.int .i64 b1) := (blk_cell (blk_below HDD.out HBwc.out) 1).trans rfl
  clear hb
  refine ⟨_, rfl, ?_⟩
  refine hK.out _ _ ⟨q0wc, q1wc, q2wc, q3wc⟩ (fun hHeld => ?_)
  clear hK K
  refine norm_ (a' := ?_) ?_ ?_
  rotate_left
  · show Act.put _ (some 28) _ = _
    simp only [Act.put, List.setIfInBounds_toArray, List.set_cons_zero, List.set_cons_succ, i64_w, i32_w]
    rfl
  refine one_ (i := 9) (N := some 33) #[true, true, true, true, true, true, true, true, true, true, false, false] rfl rfl (one_of HT_.out (by kernel_rfl)) (by decide) (fun K hK => ?_)
  refine goes_ Try.func11 (by kernel_rfl) rfl #[.int .i64 b0, .int .i64 b1] (by rfl) rfl rfl (by (try simp only [List.map_toArray, List.map_cons, List.map_nil]); first | done | rfl) ?_
  refine (HR2.out _).mono ?_
  rintro e wd ⟨rfl, hb⟩
  have HBwd := Aside0.mk (below_step HBwc.out hb)
  have q0wd : wd.cell? ⟨B, 0, none⟩ = some (.int .i64 a0) := (blk_cell (blk_below HBB.out HBwd.out) 0).trans rfl
  have q1wd : wd.cell? ⟨B, 1, none⟩ = some (.int .i64 a1) := (blk_cell (blk_below HBB.out HBwd.out) 1).trans rfl
  have q2wd : wd.cell? ⟨D, 0, none⟩ = some (.int .i64 b0) := (blk_cell (blk_below HDD.out HBwd.out) 0).trans rfl
  have q3wd : wd.cell? ⟨D, 1, none⟩ = some (.int .i64 b1) := (blk_cell (blk_below HDD.out HBwd.out) 1).trans rfl
  clear hb
  refine ⟨_, rfl, ?_⟩
  refine hK.out _ _ ⟨q0wd, q1wd, q2wd, q3wd⟩ (fun hHeld => ?_)
  clear hK K
  refine norm_ (a' := ?_) ?_ ?_
  rotate_left
  · show Act.put _ (some 33) _ = _
    simp only [Act.put, List.setIfInBounds_toArray, List.set_cons_zero, List.set_cons_succ, i64_w, i32_w]
    rfl
  refine pure_ (i := 10) (N := some 7) (v := ?_) (a' := ?_) #[true, true, true, true, true, true, true, true, true, true, true, false] rfl rfl (any_of HT_.out (by kernel_rfl)) (fun _ _ _ h => h) (Or.inl ⟨by rfl, ?_⟩) ?_ ?_
  rotate_left
  · intro w'
    go_simp
    with_reducible rfl
  rotate_left
  · simp only [Act.put, List.setIfInBounds_toArray, List.set_cons_zero, List.set_cons_succ, i64_w, i32_w]
    rfl
  refine pure_ (i := 11) (N := some 8) (v := ?_) (a' := ?_) #[true, true, true, true, true, true, true, true, true, true, true, true] rfl rfl (any_of HT_.out (by kernel_rfl)) (fun _ _ _ h => h) (Or.inl ⟨by rfl, ?_⟩) ?_ ?_
  rotate_left
  · intro w'
    go_simp
    with_reducible rfl
  rotate_left
  · simp only [Act.put, List.setIfInBounds_toArray, List.set_cons_zero, List.set_cons_succ, i64_w, i32_w]
    rfl
  refine done_ (done_of HT_.out (by kernel_rfl)) ?_
  clear hHeld q0wb q1wb q2wb q3wb q0wc q1wc q2wc q3wc
  go_wp2_with fail
  go_region
  have HWD := Aside0.mk (below_step HBW.out (below_drew1 HBwd.out))
  by_cases c1 : κ < κ2
  · have d1 : decide (κ < κ2) = true := decide_eq_true c1
    have d9 : decide (K < L) = true := decide_eq_true (HLT.out.2 (.inl c1))
    clear c1
    go_wp2_with (first
      | (go_at_call 12; refine (HKL.out _).mono ?_; rintro e w' ⟨rfl, rfl⟩)
      | (go_at_call 12; refine (HKK.out _).mono ?_; rintro e w' ⟨rfl, rfl⟩)
      | (go_at_call 13; refine (HIK.out _).mono ?_; rintro e wy ⟨rfl, hz⟩; have HY := Aside0.mk (below_step HWD.out hz); clear hz)
      | (go_at_call 12; refine (HKM.out _).mono ?_; rintro e w' ⟨rfl, rfl⟩)
      | (go_at_call 13; refine (HIM.out _).mono ?_; rintro e wx ⟨rfl, hz⟩; have HX := Aside0.mk (below_step HY.out hz); clear hz))
    go_ret
    exact ⟨rfl, HX.out⟩
  · by_cases c2 : κ = κ2
    · by_cases c3 : ι < ι2
      · have d1 : decide (κ < κ2) = false := decide_eq_false c1
        have d2 : decide (κ = κ2) = true := decide_eq_true c2
        have d3 : (κ == κ2) = true := beq_iff_eq.2 c2
        have d4 : decide (ι < ι2) = true := decide_eq_true c3
        have d9 : decide (K < L) = true := decide_eq_true (HLT.out.2 (.inr ⟨c2, c3⟩))
        clear c1 c2 c3
        go_wp2_with (first
          | (go_at_call 12; refine (HKL.out _).mono ?_; rintro e w' ⟨rfl, rfl⟩)
          | (go_at_call 13; refine (HIL.out _).mono ?_; rintro e wz ⟨rfl, hz⟩; have HZ := Aside0.mk (below_step HWD.out hz); clear hz)
          | (go_at_call 12; refine (HKK.out _).mono ?_; rintro e w' ⟨rfl, rfl⟩)
          | (go_at_call 13; refine (HIK.out _).mono ?_; rintro e wy ⟨rfl, hz⟩; have HY := Aside0.mk (below_step HZ.out hz); clear hz)
          | (go_at_call 12; refine (HKM.out _).mono ?_; rintro e w' ⟨rfl, rfl⟩)
          | (go_at_call 13; refine (HIM.out _).mono ?_; rintro e wx ⟨rfl, hz⟩; have HX := Aside0.mk (below_step HY.out hz); clear hz))
        go_ret
        exact ⟨rfl, HX.out⟩
      · have d1 : decide (κ < κ2) = false := decide_eq_false c1
        have d2 : decide (κ = κ2) = true := decide_eq_true c2
        have d3 : (κ == κ2) = true := beq_iff_eq.2 c2
        have d4 : decide (ι < ι2) = false := decide_eq_false c3
        have d9 : decide (K < L) = false := decide_eq_false (fun h => (HLT.out.1 h).elim c1 (fun h => c3 h.2))
        clear c1 c2 c3
        go_wp2_with (first
          | (go_at_call 12; refine (HKL.out _).mono ?_; rintro e w' ⟨rfl, rfl⟩)
          | (go_at_call 13; refine (HIL.out _).mono ?_; rintro e wz ⟨rfl, hz⟩; have HZ := Aside0.mk (below_step HWD.out hz); clear hz)
          | (go_at_call 12; refine (HKK.out _).mono ?_; rintro e w' ⟨rfl, rfl⟩)
          | (go_at_call 13; refine (HIK.out _).mono ?_; rintro e wy ⟨rfl, hz⟩; have HY := Aside0.mk (below_step HZ.out hz); clear hz)
          | (go_at_call 12; refine (HKM.out _).mono ?_; rintro e w' ⟨rfl, rfl⟩)
          | (go_at_call 13; refine (HIM.out _).mono ?_; rintro e wx ⟨rfl, hz⟩; have HX := Aside0.mk (below_step HY.out hz); clear hz))
        go_ret
        exact ⟨rfl, HX.out⟩
    · have d1 : decide (κ < κ2) = false := decide_eq_false c1
      have d2 : decide (κ = κ2) = false := decide_eq_false c2
      have d3 : (κ == κ2) = false := beq_eq_false_iff_ne.2 c2
      have d9 : decide (K < L) = false := decide_eq_false (fun h => (HLT.out.1 h).elim c1 (fun h => c2 h.1))
      clear c1 c2
      go_wp2_with (first
        | (go_at_call 12; refine (HKL.out _).mono ?_; rintro e w' ⟨rfl, rfl⟩)
        | (go_at_call 12; refine (HKK.out _).mono ?_; rintro e w' ⟨rfl, rfl⟩)
        | (go_at_call 13; refine (HIK.out _).mono ?_; rintro e wy ⟨rfl, hz⟩; have HY := Aside0.mk (below_step HWD.out hz); clear hz)
        | (go_at_call 12; refine (HKM.out _).mono ?_; rintro e w' ⟨rfl, rfl⟩)
        | (go_at_call 13; refine (HIM.out _).mono ?_; rintro e wx ⟨rfl, hz⟩; have HX := Aside0.mk (below_step HY.out hz); clear hz))
      go_ret
      exact ⟨rfl, HX.out⟩
end Go.Proofs.Ytfflhppieogkbaa.Hp
