/-
  The walk of DrainsDue. Conditions: none.
-/
import Derived.Test.YtmkijdkfogebjaaDuA
import Derived.Test.YtmkijdkfogebjaaNil
import Derived.Test.YtmkijdkfogebjaaWTab
set_option linter.unusedVariables false
set_option linter.unusedSimpArgs false
namespace Go.Proofs.Ytmkijdkfogebjaa.Man
open Go.RowKit Go.Proofs.YtmkijdkfogebjaaW.PrintWords Go.Proofs.YtmkijdkfogebjaaW.PrintLast Go.Proofs.YtmkijdkfogebjaaW.PrintMore Go.Proofs.Ytmkijdkfogebjaa.PA Go.Proofs.Ytmkijdkfogebjaa.Hid Go.Proofs.Ytmkijdkfogebjaa.PG Go.Proofs.Ytmkijdkfogebjaa.Nil
attribute [local go_sem] max2_int min2_int max_two min_two
def due.T13 : Bool × List (List Nat × List Nat) := (true, [([], []), ([], []), ([1], [1]), ([], []), ([3], [3]), ([2, 4], [2, 4]), ([0, 5], [0, 5]), ([], []), ([], []), ([8], [8]), ([], []), ([10], [10]), ([9, 11], [9, 11]), ([7, 12, 6], [7, 12]), ([6, 13, 0, 1, 2, 3, 4, 5, 6], [6]), ([13, 14, 0, 1, 2, 3, 4, 5, 6, 7, 8, 9, 10, 11, 12, 13, 14], [13])])
theorem due.tab13 : rtab .any (opsOf Try.f4 13) = due.T13 := by kernel_rfl
def due.T18 : Bool × List (List Nat × List Nat) := (true, [([], []), ([], []), ([], []), ([1, 2], [1, 2]), ([3], [3]), ([0, 4], [0, 4]), ([], []), ([], []), ([], []), ([7, 8], [7, 8]), ([9], [9]), ([6, 10, 5], [6, 10]), ([5, 11, 0, 1, 2, 3, 4, 5], [5]), ([11, 12, 0, 1, 2, 3, 4, 5, 6, 7, 8, 9, 10, 11, 12], [11])])
theorem due.tab18 : rtab .any (opsOf Try.f4 18) = due.T18 := by kernel_rfl
def due.T22 : Bool × List (List Nat × List Nat) := (true, [([], []), ([], []), ([0, 1], [0, 1]), ([2], [2]), ([], []), ([], []), ([4, 5], [4, 5]), ([6], [6]), ([3, 7], [3, 7])])
theorem due.tab22 : rtab .any (opsOf Try.f4 22) = due.T22 := by kernel_rfl
theorem same_self (a : List ByteArray) (A B : Option Addr) (c d : Nat) (w : World) (hA : Kd.C Kd.string w A a.length a) (ha : a.length ≤ c) (hB : Kd.C Kd.string w B a.length a) (hb : a.length ≤ d) : Calls Try.prog 20 #[.slice A a.length c, .slice B a.length d] w fun e w' => e = .returned (.bool true) ∧ Drawn0 w w' := by
  have := same_raw a a A B c d w hA ha hB hb
  rwa [decide_eq_true rfl] at this
set_option maxRecDepth 100000 in
set_option maxHeartbeats 8000000 in
theorem due_calls (A0 : Option Addr) (c0 : Nat) (l0 : List Int) (A1 : Option Addr) (c1 : Nat) (l1 : List Int) (b0 b1 : Int) (w : World) (hr0 : Kd.C (Kd.int .i64) w A0 l0.length l0) (hc0 : l0.length ≤ c0) (hr1 : Kd.C (Kd.int .i64) w A1 l1.length l1) (hc1 : l1.length ≤ c1) :
    Calls Try.prog 4 #[.slice A0 l0.length c0, .slice A1 l1.length c1, .agg #[.int .i64 b0, .int .i64 b1]] w fun e w' => e = .returned (.bool true) ∧ Below w.heap.size w w' := by
  obtain ⟨N, hgf, hG⟩ := good_some l0 hr0.2.1
  have HL := Aside0.mk (fun W => hostlerlaw13_lives.calls true W lives_at)
  have HGD := Aside0.mk (fun W (h : Kd.C (Kd.int .i64) W A0 l0.length l0) => hostlerref09_Good.calls (l0.length + 9) A0 c0 l0 N W h hc0 hgf)
  have HR0 := Aside0.mk hr0
  have HR1 := Aside0.mk hr1
  have HG := Aside0.mk hG
  have h6 := hG.len
  obtain ⟨lo, hlo⟩ : ∃ lo, (if b1 < b0 then b1 else b0) = lo := ⟨_, rfl⟩
  obtain ⟨hi, hhi⟩ : ∃ hi, (if b0 < b1 then b1 else b0) = hi := ⟨_, rfl⟩
  have hlh : lo ≤ hi := by rw [← hlo, ← hhi]; (repeat' split) <;> omega
  obtain ⟨w1, hw1⟩ : ∃ w1, w1 = w.alloc (.cells #[.int .i64 b0, .int .i64 b1] 39) := ⟨_, rfl⟩
  have HB1 : Aside0 (Below w.heap.size w w1) := ⟨by rw [hw1]; exact below_alloc (Below.refl _ w) _⟩
  have HGB1 : Aside0 (w1.heap[w.heap.size]? = some (.cells #[.int .i64 b0, .int .i64 b1] 39 (0, 0))) := ⟨by rw [hw1]; exact heap_alloc_new w _⟩
  clear hr0 hr1 hgf hG
  go_enter Try.func4, Try.ntmps4
  go_wp2_with (first
    | (go_at_call 8; rw [← hw1]; refine (HL.out w1).mono ?_; rintro e w2 ⟨rfl, hb2⟩; have HB2 := Aside0.mk (below_step HB1.out hb2); have HGB2 := Aside0.mk ((hb2.block w.heap.size (blk_lt HGB1.out)).trans HGB1.out); clear hb2)
    | (go_at_call 18; refine (HGD.out _ (Kd.C_below HR0.out HB2.out)).mono ?_; rintro e w3 ⟨v3, rfl, hR3, hb3⟩; have HR3 := Aside0.mk hR3; have HB3 := Aside0.mk (below_step HB2.out hb3); have HGB3 := Aside0.mk ((hb3.block w.heap.size (blk_lt HGB2.out)).trans HGB2.out); clear hR3 hb3)
    | (go_at_call 9; refine (drains_DNew.calls ⟨[]⟩ w _ HB3.out rfl).mono ?_; rintro e w4 ⟨g, rfl, hi4, hb4, hbb4⟩; have HI4 := Aside0.mk hi4; have HB4 := Aside0.mk hb4; have HR4 := Aside0.mk (Kd.R_below HR3.out hbb4); have HGB4 := Aside0.mk ((hbb4.block w.heap.size (blk_lt HGB3.out)).trans HGB3.out); clear hi4 hb4 hbb4))
  obtain ⟨AN, cN, rfl⟩ := Kd.R_slice HR4.out
  obtain ⟨BS, hbs⟩ : ∃ BS, BS = w2.heap.size := ⟨_, rfl⟩
  rw [← hbs] at HR4
  clear HR3 HGB1 HGB2 HGB3 HB1 HB2 HB3
  go_loopw [9] (fun v9 wr => ∃ k : Nat, k ≤ N.length ∧ v9 = .int .i64 k ∧ Aside0 (IsS66 w wr g ⟨rowD N l1 k⟩) ∧ Aside0 (Below w.heap.size w wr) ∧ Aside0 (Kd.R Kd.string 9 wr BS (fun _ => True) (.slice AN N.length cN) N) ∧ Aside0 (wr.heap[w.heap.size]? = some (.cells #[.int .i64 b0, .int .i64 b1] 39 (0, 0)))) (fun v9 _ => N.length - (intOf v9).toNat)
  case atStart => exact ⟨0, Nat.zero_le _, rfl, HI4, HB4, HR4, HGB4⟩
  case round =>
    obtain ⟨k, hk, rfl, HI, HB, HR, HGB⟩ := hrel
    by_cases hlt : k < N.length
    · obtain ⟨bn, cN', heN, _, hbnl, csn, hcsn⟩ := Kd.R_form HR.out (by omega)
      injection heN with e1 e2 e3
      subst e1; subst e3
      obtain ⟨hcn, _⟩ := Kd.R_cell ByteArray.empty HR.out (k : Int) (by omega) (by omega)
      rw [Int.toNat_natCast] at hcn
      obtain ⟨nm, hnm⟩ : ∃ nm, nm = rdOf ByteArray.empty N (k : Int) := ⟨_, rfl⟩
      rw [← hnm] at hcn
      have hnm2 : N[k] = nm := by rw [hnm]; simp [rdOf, List.getD, hlt]
      have hbg := begin_rowD (l1 := l1) HG.out k hlt
      rw [hnm2] at hbg
      have HBG := Aside0.mk hbg
      have h0k : (0 : Int) ≤ (k : Int) := by omega
      have hkl : (k : Int) < (N.length : Int) := by omega
      clear hnm hnm2 hbg
      by_cases hat : (k : Int) < (l1.length : Int)
      · have hatv : atOf l1 (k : Int) = rd l1 (k : Int) := if_pos hat
        rw [hatv] at HBG
        obtain ⟨ad1, hA1, hx1⟩ := Kd.at_int (Kd.C_below HR1.out HB.out) (k : Int) (by omega) hat
        subst hA1
        rw [Int.toNat_natCast] at hx1
        have hatb : decide ((k : Int) < (l1.length : Int)) = true := decide_eq_true hat
        clear hatv
        go_wp2_with (go_at_call 13; refine (drains_Drains_Begin.calls g _ nm _ 0 _ w _ HI.out HB.out HBG.out).mono ?_; rintro e w6 ⟨rfl, hi6, hb6, hk6⟩)
        go_roundw
        case measure => simp [intOf]; omega
        case rel => exact ⟨k + 1, by omega, by rw [show ((k : Int) + 1) = ((k + 1 : Nat) : Int) by omega], ⟨hi6⟩, ⟨hb6⟩, ⟨Kd.R_mono (Ko.R_keep (Ko.R_apart (T := TD) HR.out (by decide)) hk6 (fun _ h => h.2)) (fun _ h => h.1)⟩, ⟨Ko.blkc hk6 HGB.out (by decide)⟩⟩
      · have hatv : atOf l1 (k : Int) = 0 := if_neg hat
        rw [hatv] at HBG
        have hatb : decide ((k : Int) < (l1.length : Int)) = false := decide_eq_false hat
        clear hatv
        go_wp2_with (go_at_call 13; refine (drains_Drains_Begin.calls g _ nm _ 0 _ w _ HI.out HB.out HBG.out).mono ?_; rintro e w6 ⟨rfl, hi6, hb6, hk6⟩)
        go_roundw
        case measure => simp [intOf]; omega
        case rel => exact ⟨k + 1, by omega, by rw [show ((k : Int) + 1) = ((k + 1 : Nat) : Int) by omega], ⟨hi6⟩, ⟨hb6⟩, ⟨Kd.R_mono (Ko.R_keep (Ko.R_apart (T := TD) HR.out (by decide)) hk6 (fun _ h => h.2)) (fun _ h => h.1)⟩, ⟨Ko.blkc hk6 HGB.out (by decide)⟩⟩
    · have hke : k = N.length := by omega
      subst hke
      have hrw : rowD N l1 N.length = N.map (mkD N l1) := by unfold rowD; rw [List.take_length]
      rw [hrw] at HI
      have hund := rowD_under (N := N) (l1 := l1) N.length
      rw [hrw, List.take_length] at hund
      have HDU := Aside0.mk (fun now W (h : IsS66 w W g ⟨N.map (mkD N l1)⟩) => due_raw now (by show (N.map (mkD N l1)).length < _; simp; omega) h)
      have HUN := Aside0.mk (fun W (h : IsS66 w W g ⟨N.map (mkD N l1)⟩) => under_raw (by show (N.map (mkD N l1)).length < _; simp; omega) h)
      have hg0 : wr.cell? ⟨w.heap.size, 0, none⟩ = some (.int .i64 b0) := (blk_cell HGB.out 0).trans rfl
      have hg1 : wr.cell? ⟨w.heap.size, 1, none⟩ = some (.int .i64 b1) := (blk_cell HGB.out 1).trans rfl
      have hgbl : w.heap.size < wr.heap.size := blk_lt HGB.out
      clear hk hlt hrw
      go_wp2_with fail
      refine start_ (n := 16) (S := fun w' => w'.cell? ⟨w.heap.size, 0, none⟩ = some (.int .i64 b0) ∧ w'.cell? ⟨w.heap.size, 1, none⟩ = some (.int .i64 b1)) (ds := []) #[false, false, false, false, false, false, false, false, false, false, false, false, false, false, false, false] (by kernel_rfl) rfl rfl ⟨hg0, hg1⟩ (fun hHeld => ?_); refine with_tab due.tab13 (fun HT_ => ?_)
      refine pure_ (i := 0) (N := some 44) (v := ?_) (a' := ?_) #[true, false, false, false, false, false, false, false, false, false, false, false, false, false, false, false] rfl rfl (any_of HT_.out (by kernel_rfl)) (fun _ _ _ h => h) (Or.inl ⟨by rfl, ?_⟩) ?_ ?_
      rotate_left
      · intro w'
        go_simp
        with_reducible rfl
      rotate_left
      · simp only [Act.put, List.setIfInBounds_toArray, List.set_cons_zero, List.set_cons_succ, i64_w, i32_w]
        rfl
      refine pure_ (i := 1) (N := some 45) (v := ?_) (a' := ?_) #[true, true, false, false, false, false, false, false, false, false, false, false, false, false, false, false] rfl rfl (any_of HT_.out (by kernel_rfl)) (fun _ _ _ h => h) (Or.inl ⟨by rfl, ?_⟩) ?_ ?_
      rotate_left
      · intro w'
        go_simp
        with_reducible rfl
      rotate_left
      · simp only [Act.put, List.setIfInBounds_toArray, List.set_cons_zero, List.set_cons_succ, i64_w, i32_w]
        rfl
      refine pure_ (i := 3) (N := some 47) (v := ?_) (a' := ?_) #[true, true, false, true, false, false, false, false, false, false, false, false, false, false, false, false] rfl rfl (any_of HT_.out (by kernel_rfl)) (fun _ _ _ h => h) (Or.inl ⟨by rfl, ?_⟩) ?_ ?_
      rotate_left
      · intro w'
        go_simp
        with_reducible rfl
      rotate_left
      · simp only [Act.put, List.setIfInBounds_toArray, List.set_cons_zero, List.set_cons_succ, i64_w, i32_w]
        rfl
      refine pure_ (i := 7) (N := some 51) (v := ?_) (a' := ?_) #[true, true, false, true, false, false, false, true, false, false, false, false, false, false, false, false] rfl rfl (any_of HT_.out (by kernel_rfl)) (fun _ _ _ h => h) (Or.inl ⟨by rfl, ?_⟩) ?_ ?_
      rotate_left
      · intro w'
        go_simp
        with_reducible rfl
      rotate_left
      · simp only [Act.put, List.setIfInBounds_toArray, List.set_cons_zero, List.set_cons_succ, i64_w, i32_w]
        rfl
      refine pure_ (i := 8) (N := some 52) (v := ?_) (a' := ?_) #[true, true, false, true, false, false, false, true, true, false, false, false, false, false, false, false] rfl rfl (any_of HT_.out (by kernel_rfl)) (fun _ _ _ h => h) (Or.inl ⟨by rfl, ?_⟩) ?_ ?_
      rotate_left
      · intro w'
        go_simp
        with_reducible rfl
      rotate_left
      · simp only [Act.put, List.setIfInBounds_toArray, List.set_cons_zero, List.set_cons_succ, i64_w, i32_w]
        rfl
      refine pure_ (i := 10) (N := some 54) (v := ?_) (a' := ?_) #[true, true, false, true, false, false, false, true, true, false, true, false, false, false, false, false] rfl rfl (any_of HT_.out (by kernel_rfl)) (fun _ _ _ h => h) (Or.inl ⟨by rfl, ?_⟩) ?_ ?_
      rotate_left
      · intro w'
        go_simp
        with_reducible rfl
      rotate_left
      · simp only [Act.put, List.setIfInBounds_toArray, List.set_cons_zero, List.set_cons_succ, i64_w, i32_w]
        rfl
      refine take_ (i := 2) (N := some 46) (v := ?_) (a' := ?_) #[true, true, true, true, false, false, false, true, true, false, true, false, false, false, false, false] rfl rfl (take_of HT_.out (by kernel_rfl)) (fun _ _ _ h => h) (Or.inl ⟨by rfl, ?_⟩) hHeld ?_ ?_
      rotate_left
      · intro w' hS_
        obtain ⟨s0, s1⟩ := hS_
        go_simp
        with_reducible rfl
      rotate_left
      · simp only [Act.put, List.setIfInBounds_toArray, List.set_cons_zero, List.set_cons_succ, i64_w, i32_w]
        rfl
      refine take_ (i := 4) (N := some 48) (v := ?_) (a' := ?_) #[true, true, true, true, true, false, false, true, true, false, true, false, false, false, false, false] rfl rfl (take_of HT_.out (by kernel_rfl)) (fun _ _ _ h => h) (Or.inl ⟨by rfl, ?_⟩) hHeld ?_ ?_
      rotate_left
      · intro w' hS_
        obtain ⟨s0, s1⟩ := hS_
        go_simp
        with_reducible rfl
      rotate_left
      · simp only [Act.put, List.setIfInBounds_toArray, List.set_cons_zero, List.set_cons_succ, i64_w, i32_w]
        rfl
      refine pure_ (i := 5) (N := some 49) (v := ?_) (a' := ?_) #[true, true, true, true, true, true, false, true, true, false, true, false, false, false, false, false] rfl rfl (any_of HT_.out (by kernel_rfl)) (fun _ _ _ h => h) (Or.inl ⟨by rfl, ?_⟩) ?_ ?_
      rotate_left
      · intro w'
        go_simp
        with_reducible rfl
      rotate_left
      · simp only [Act.put, List.setIfInBounds_toArray, List.set_cons_zero, List.set_cons_succ, i64_w, i32_w]
        rfl
      refine take_ (i := 9) (N := some 53) (v := ?_) (a' := ?_) #[true, true, true, true, true, true, false, true, true, true, true, false, false, false, false, false] rfl rfl (take_of HT_.out (by kernel_rfl)) (fun _ _ _ h => h) (Or.inl ⟨by rfl, ?_⟩) hHeld ?_ ?_
      rotate_left
      · intro w' hS_
        obtain ⟨s0, s1⟩ := hS_
        go_simp
        with_reducible rfl
      rotate_left
      · simp only [Act.put, List.setIfInBounds_toArray, List.set_cons_zero, List.set_cons_succ, i64_w, i32_w]
        rfl
      refine take_ (i := 11) (N := some 55) (v := ?_) (a' := ?_) #[true, true, true, true, true, true, false, true, true, true, true, true, false, false, false, false] rfl rfl (take_of HT_.out (by kernel_rfl)) (fun _ _ _ h => h) (Or.inl ⟨by rfl, ?_⟩) hHeld ?_ ?_
      rotate_left
      · intro w' hS_
        obtain ⟨s0, s1⟩ := hS_
        go_simp
        with_reducible rfl
      rotate_left
      · simp only [Act.put, List.setIfInBounds_toArray, List.set_cons_zero, List.set_cons_succ, i64_w, i32_w]
        rfl
      refine pure_ (i := 12) (N := some 56) (v := ?_) (a' := ?_) #[true, true, true, true, true, true, false, true, true, true, true, true, true, false, false, false] rfl rfl (any_of HT_.out (by kernel_rfl)) (fun _ _ _ h => h) (Or.inl ⟨by rfl, ?_⟩) ?_ ?_
      rotate_left
      · intro w'
        go_simp
        with_reducible rfl
      rotate_left
      · simp only [Act.put, List.setIfInBounds_toArray, List.set_cons_zero, List.set_cons_succ, i64_w, i32_w]
        rfl
      refine one_ (i := 6) (N := some 50) #[true, true, true, true, true, true, true, true, true, true, true, true, true, false, false, false] rfl rfl (one_of HT_.out (by kernel_rfl)) (by decide) (fun K hK => ?_)
      refine goes_ Try.func19 (by kernel_rfl) rfl #[.pointer (some ⟨g, 0, none⟩), .int .i64 lo] (by rfl) rfl rfl (by (try simp only [List.map_toArray, List.map_cons, List.map_nil]); first | done | rfl) ?_
      refine (HDU.out lo _ (HI.out.drew)).mono ?_
      rintro e w6 ⟨v6, rfl, hR6, hb6⟩
      have HR6 := Aside0.mk hR6
      have HB6 := Aside0.mk hb6
      have hd60 : w6.cell? ⟨w.heap.size, 0, none⟩ = some (.int .i64 b0) := (hb6.cell (p := ⟨w.heap.size, 0, none⟩) hgbl).trans hg0
      have hd61 : w6.cell? ⟨w.heap.size, 1, none⟩ = some (.int .i64 b1) := (hb6.cell (p := ⟨w.heap.size, 1, none⟩) hgbl).trans hg1
      clear hR6 hb6
      refine ⟨_, rfl, ?_⟩
      refine hK.out _ _ ⟨hd60, hd61⟩ (fun hHeld => ?_)
      clear hK K
      refine norm_ (a' := ?_) ?_ ?_
      rotate_left
      · show Act.put _ (some 50) _ = _
        simp only [Act.put, List.setIfInBounds_toArray, List.set_cons_zero, List.set_cons_succ, i64_w, i32_w]
        rfl
      refine one_ (i := 13) (N := some 57) #[true, true, true, true, true, true, true, true, true, true, true, true, true, true, false, false] rfl rfl (one_of HT_.out (by kernel_rfl)) (by decide) (fun K hK => ?_)
      refine goes_ Try.func19 (by kernel_rfl) rfl #[.pointer (some ⟨g, 0, none⟩), .int .i64 hi] (by rfl) rfl rfl (by (try simp only [List.map_toArray, List.map_cons, List.map_nil]); first | done | rfl) ?_
      refine (HDU.out hi _ ((HI.out.drew).below HB6.out)).mono ?_
      rintro e w7 ⟨v7, rfl, hR7, hb7⟩
      have HR7 := Aside0.mk hR7
      have HR67 := Aside0.mk (Kd.R_below HR6.out hb7)
      have HB7 := Aside0.mk (below_step HB6.out hb7)
      have hd70 : w7.cell? ⟨w.heap.size, 0, none⟩ = some (.int .i64 b0) := (HB7.out.cell (p := ⟨w.heap.size, 0, none⟩) hgbl).trans hg0
      have hd71 : w7.cell? ⟨w.heap.size, 1, none⟩ = some (.int .i64 b1) := (HB7.out.cell (p := ⟨w.heap.size, 1, none⟩) hgbl).trans hg1
      clear hR7 hb7
      refine ⟨_, rfl, ?_⟩
      refine hK.out _ _ ⟨hd70, hd71⟩ (fun hHeld => ?_)
      clear hK K
      refine norm_ (a' := ?_) ?_ ?_
      rotate_left
      · show Act.put _ (some 57) _ = _
        simp only [Act.put, List.setIfInBounds_toArray, List.set_cons_zero, List.set_cons_succ, i64_w, i32_w]
        rfl
      refine pure_ (i := 14) (N := some 11) (v := ?_) (a' := ?_) #[true, true, true, true, true, true, true, true, true, true, true, true, true, true, true, false] rfl rfl (any_of HT_.out (by kernel_rfl)) (fun _ _ _ h => h) (Or.inl ⟨by rfl, ?_⟩) ?_ ?_
      rotate_left
      · intro w'
        go_simp
        with_reducible rfl
      rotate_left
      · simp only [Act.put, List.setIfInBounds_toArray, List.set_cons_zero, List.set_cons_succ, i64_w, i32_w]
        rfl
      refine pure_ (i := 15) (N := some 12) (v := ?_) (a' := ?_) #[true, true, true, true, true, true, true, true, true, true, true, true, true, true, true, true] rfl rfl (any_of HT_.out (by kernel_rfl)) (fun _ _ _ h => h) (Or.inl ⟨by rfl, ?_⟩) ?_ ?_
      rotate_left
      · intro w'
        go_simp
        with_reducible rfl
      rotate_left
      · simp only [Act.put, List.setIfInBounds_toArray, List.set_cons_zero, List.set_cons_succ, i64_w, i32_w]
        rfl
      refine done_ (done_of HT_.out (by kernel_rfl)) ?_
      obtain ⟨da, hda⟩ : ∃ da, da = N.filter (fun nm => pastB lo (deadN N l1 nm)) := ⟨_, rfl⟩
      obtain ⟨db, hdb⟩ : ∃ db, db = N.filter (fun nm => pastB hi (deadN N l1 nm)) := ⟨_, rfl⟩
      rw [due_rowD HG.out.1, ← hda] at HR67
      rw [due_rowD HG.out.1, ← hdb] at HR7
      have HDA := Aside0.mk hda
      have HDB := Aside0.mk hdb
      obtain ⟨A6, n6, rfl⟩ := Kd.R_slice HR67.out
      obtain ⟨A7, n7, rfl⟩ := Kd.R_slice HR7.out
      have HRN := Aside0.mk (Kd.R_below (Kd.R_drew HR.out) HB7.out)
      have HI7 := Aside0.mk ((HI.out.drew).below HB7.out)
      have HBW7 := Aside0.mk ((below_drew1 HB.out).trans (HB7.out.mono HB.out.size))
      have HUN7 := Aside0.mk hund
      clear hda hdb HR6 HR HI HB hund hd60 hd61 hd70 hd71 hHeld HGB hg0 hg1
      have hdbl : db.length ≤ 6 := by
        rw [HDB.out]
        exact Nat.le_trans (List.length_filter_le _ _) h6
      go_wp2
      go_loopw [13, 14] (fun v13 v14 wj => ∃ j : Nat, j ≤ N.length ∧ v13 = .int .i64 ((((N.take j).filter (fun nm => pastB hi (deadN N l1 nm))).length : Nat) : Int) ∧ v14 = .int .i64 j ∧ Aside0 (Below w7.heap.size w7 wj)) (fun _ v14 _ => N.length - (intOf v14).toNat)
      case atStart => exact ⟨0, Nat.zero_le _, rfl, rfl, ⟨Below.refl _ _⟩⟩
      case round =>
        obtain ⟨j, hj, rfl, rfl, HBJ⟩ := hrel
        by_cases hjl : j < N.length
        · obtain ⟨bn, cN', heN, _, hbnl, csn, hcsn⟩ := Kd.R_form HRN.out (by omega)
          injection heN with e1 e2 e3
          subst e1; subst e3
          obtain ⟨hcn0, _⟩ := Kd.R_cell ByteArray.empty HRN.out (j : Int) (by omega) (by omega)
          rw [Int.toNat_natCast] at hcn0
          obtain ⟨nm, hnm⟩ : ∃ nm, nm = rdOf ByteArray.empty N (j : Int) := ⟨_, rfl⟩
          rw [← hnm] at hcn0
          have hnm2 : N[j] = nm := by rw [hnm]; simp [rdOf, List.getD, hjl]
          have hmem : nm ∈ N := by rw [← hnm2]; exact List.getElem_mem hjl
          have hcj := (HBJ.out.cell (p := ⟨bn, j, none⟩) hbnl).trans hcn0
          have HA := Aside0.mk (fun W (hb : Below w7.heap.size w7 W) => has_raw nm da A6 n6 W (Kd.C_below (Kd.R_reads' HR67.out).2.2 hb) (Kd.R_reads' HR67.out).2.1)
          have HBB := Aside0.mk (fun W (hb : Below w7.heap.size w7 W) => has_raw nm db A7 n7 W (Kd.C_below (Kd.R_reads' HR7.out).2.2 hb) (Kd.R_reads' HR7.out).2.1)
          have ha : hasB nm da = pastB lo (deadN N l1 nm) := by rw [HDA.out]; exact has_filter _ N nm hmem
          have hb : hasB nm db = pastB hi (deadN N l1 nm) := by rw [HDB.out]; exact has_filter _ N nm hmem
          have hmono : pastB lo (deadN N l1 nm) = true → pastB hi (deadN N l1 nm) = true := past_mono hlh _
          have hcs := count_step (fun nm => pastB hi (deadN N l1 nm)) N j hjl
          have hfg : ∀ q : Nat, q = ((N.take j).filter (fun nm => pastB hi (deadN N l1 nm))).length → pastB hi (deadN N l1 nm) = true → ∃ h : q < db.length, db[q] = nm := by
            rintro _ rfl hp
            obtain ⟨g1, g2⟩ := filter_get (fun nm => pastB hi (deadN N l1 nm)) N j hjl (by rw [hnm2]; exact hp)
            refine ⟨by rw [HDB.out]; exact g1, ?_⟩
            simp only [HDB.out]
            rw [g2]
            exact hnm2
          rw [hnm2] at hcs
          obtain ⟨q, hq⟩ : ∃ q, q = ((N.take j).filter (fun nm => pastB hi (deadN N l1 nm))).length := ⟨_, rfl⟩
          obtain ⟨q2, hq2⟩ : ∃ q2, q2 = ((N.take (j + 1)).filter (fun nm => pastB hi (deadN N l1 nm))).length := ⟨_, rfl⟩
          rw [← hq, ← hq2] at hcs
          have HQ2 := Aside0.mk hq2
          rw [ha] at HA
          rw [hb] at HBB
          have HFG := Aside0.mk (hfg q hq)
          rw [← hq]
          have HQ := Aside0.mk hq
          generalize pastB lo (deadN N l1 nm) = pa at HA hmono
          generalize pastB hi (deadN N l1 nm) = pb at HBB hmono hcs HFG
          have h0j : (0 : Int) ≤ (j : Int) := by omega
          have hjl2 : (j : Int) < (N.length : Int) := by omega
          clear hfg ha hb hnm hnm2 hq hq2
          cases pb with
          | true =>
            rw [if_pos rfl] at hcs
            obtain ⟨hqd, hqv⟩ := HFG.out rfl
            obtain ⟨b7, n7', he7, _, hb7l, cs7, hcs7⟩ := Kd.R_form HR7.out (by omega)
            injection he7 with e1 e2 e3
            subst e1; subst e3
            obtain ⟨hcb, _⟩ := Kd.R_cell ByteArray.empty HR7.out (q : Int) (by omega) (by omega)
            rw [Int.toNat_natCast, show rdOf ByteArray.empty db (q : Int) = nm from by rw [← hqv]; simp [rdOf, List.getD, hqd]] at hcb
            have hq0 : (0 : Int) ≤ (q : Int) := by omega
            have hqd2 : (q : Int) < (db.length : Int) := by omega
            clear hqv
            have HCS := Aside0.mk hcs
            clear hcs
            cases pa with
            | true =>
              go_wp2_with fail
              refine start_ (n := 14) (S := fun w' => w'.cell? ⟨bn, j, none⟩ = some (.string nm) ∧ True) (ds := []) #[false, false, false, false, false, false, false, false, false, false, false, false, false, false] (by kernel_rfl) rfl rfl ⟨hcj, trivial⟩ (fun hHeld => ?_); refine with_tab due.tab18 (fun HT_ => ?_)
              refine pure_ (i := 0) (N := some 64) (v := ?_) (a' := ?_) #[true, false, false, false, false, false, false, false, false, false, false, false, false, false] rfl rfl (any_of HT_.out (by kernel_rfl)) (fun _ _ _ h => h) (Or.inl ⟨by rfl, ?_⟩) ?_ ?_
              rotate_left
              · intro w'
                go_simp
                with_reducible rfl
              rotate_left
              · simp only [Act.put, List.setIfInBounds_toArray, List.set_cons_zero, List.set_cons_succ, i64_w, i32_w]
                rfl
              refine pure_ (i := 1) (N := some 65) (v := ?_) (a' := ?_) #[true, true, false, false, false, false, false, false, false, false, false, false, false, false] rfl rfl (any_of HT_.out (by kernel_rfl)) (fun _ _ _ h => h) (Or.inl ⟨by rfl, ?_⟩) ?_ ?_
              rotate_left
              · intro w'
                go_simp
                with_reducible rfl
              rotate_left
              · simp only [Act.put, List.setIfInBounds_toArray, List.set_cons_zero, List.set_cons_succ, i64_w, i32_w]
                rfl
              refine pure_ (i := 2) (N := some 66) (v := ?_) (a' := ?_) #[true, true, true, false, false, false, false, false, false, false, false, false, false, false] rfl rfl (any_of HT_.out (by kernel_rfl)) (fun _ _ _ h => h) (Or.inl ⟨by rfl, ?_⟩) ?_ ?_
              rotate_left
              · intro w'
                go_simp
                with_reducible rfl
              rotate_left
              · simp only [Act.put, List.setIfInBounds_toArray, List.set_cons_zero, List.set_cons_succ, i64_w, i32_w]
                rfl
              refine pure_ (i := 3) (N := some 67) (v := ?_) (a' := ?_) #[true, true, true, true, false, false, false, false, false, false, false, false, false, false] rfl rfl (any_of HT_.out (by kernel_rfl)) (fun _ _ _ h => h) (Or.inl ⟨by rfl, ?_⟩) ?_ ?_
              rotate_left
              · intro w'
                go_simp
                with_reducible rfl
              rotate_left
              · simp only [Act.put, List.setIfInBounds_toArray, List.set_cons_zero, List.set_cons_succ, i64_w, i32_w]
                rfl
              refine pure_ (i := 6) (N := some 70) (v := ?_) (a' := ?_) #[true, true, true, true, false, false, true, false, false, false, false, false, false, false] rfl rfl (any_of HT_.out (by kernel_rfl)) (fun _ _ _ h => h) (Or.inl ⟨by rfl, ?_⟩) ?_ ?_
              rotate_left
              · intro w'
                go_simp
                with_reducible rfl
              rotate_left
              · simp only [Act.put, List.setIfInBounds_toArray, List.set_cons_zero, List.set_cons_succ, i64_w, i32_w]
                rfl
              refine pure_ (i := 7) (N := some 71) (v := ?_) (a' := ?_) #[true, true, true, true, false, false, true, true, false, false, false, false, false, false] rfl rfl (any_of HT_.out (by kernel_rfl)) (fun _ _ _ h => h) (Or.inl ⟨by rfl, ?_⟩) ?_ ?_
              rotate_left
              · intro w'
                go_simp
                with_reducible rfl
              rotate_left
              · simp only [Act.put, List.setIfInBounds_toArray, List.set_cons_zero, List.set_cons_succ, i64_w, i32_w]
                rfl
              refine pure_ (i := 8) (N := some 72) (v := ?_) (a' := ?_) #[true, true, true, true, false, false, true, true, true, false, false, false, false, false] rfl rfl (any_of HT_.out (by kernel_rfl)) (fun _ _ _ h => h) (Or.inl ⟨by rfl, ?_⟩) ?_ ?_
              rotate_left
              · intro w'
                go_simp
                with_reducible rfl
              rotate_left
              · simp only [Act.put, List.setIfInBounds_toArray, List.set_cons_zero, List.set_cons_succ, i64_w, i32_w]
                rfl
              refine pure_ (i := 9) (N := some 73) (v := ?_) (a' := ?_) #[true, true, true, true, false, false, true, true, true, true, false, false, false, false] rfl rfl (any_of HT_.out (by kernel_rfl)) (fun _ _ _ h => h) (Or.inl ⟨by rfl, ?_⟩) ?_ ?_
              rotate_left
              · intro w'
                go_simp
                with_reducible rfl
              rotate_left
              · simp only [Act.put, List.setIfInBounds_toArray, List.set_cons_zero, List.set_cons_succ, i64_w, i32_w]
                rfl
              refine take_ (i := 4) (N := some 68) (v := ?_) (a' := ?_) #[true, true, true, true, true, false, true, true, true, true, false, false, false, false] rfl rfl (take_of HT_.out (by kernel_rfl)) (fun _ _ _ h => h) (Or.inl ⟨by rfl, ?_⟩) hHeld ?_ ?_
              rotate_left
              · intro w' hS_
                obtain ⟨s0, s1⟩ := hS_
                go_simp
                with_reducible rfl
              rotate_left
              · simp only [Act.put, List.setIfInBounds_toArray, List.set_cons_zero, List.set_cons_succ, i64_w, i32_w]
                rfl
              refine take_ (i := 10) (N := some 74) (v := ?_) (a' := ?_) #[true, true, true, true, true, false, true, true, true, true, true, false, false, false] rfl rfl (take_of HT_.out (by kernel_rfl)) (fun _ _ _ h => h) (Or.inl ⟨by rfl, ?_⟩) hHeld ?_ ?_
              rotate_left
              · intro w' hS_
                obtain ⟨s0, s1⟩ := hS_
                go_simp
                with_reducible rfl
              rotate_left
              · simp only [Act.put, List.setIfInBounds_toArray, List.set_cons_zero, List.set_cons_succ, i64_w, i32_w]
                rfl
              refine one_ (i := 5) (N := some 69) #[true, true, true, true, true, true, true, true, true, true, true, false, false, false] rfl rfl (one_of HT_.out (by kernel_rfl)) (by decide) (fun K hK => ?_)
              refine goes_ Try.func14 (by kernel_rfl) rfl #[.slice A6 da.length n6, .string nm] (by rfl) rfl rfl (by (try simp only [List.map_toArray, List.map_cons, List.map_nil]); first | done | rfl) ?_
              refine (HA.out _ (below_drew1 HBJ.out)).mono ?_
              rintro e w12 ⟨rfl, hb12⟩
              have HBK12 := Aside0.mk (below_step (below_drew1 HBJ.out) (Drawn0.below hb12))
              have hd12 : w12.cell? ⟨bn, j, none⟩ = some (.string nm) := (HBK12.out.cell (p := ⟨bn, j, none⟩) hbnl).trans hcn0
              clear hb12
              refine ⟨_, rfl, ?_⟩
              refine hK.out _ _ ⟨hd12, trivial⟩ (fun hHeld => ?_)
              clear hK K
              refine norm_ (a' := ?_) ?_ ?_
              rotate_left
              · show Act.put _ (some 69) _ = _
                simp only [Act.put, List.setIfInBounds_toArray, List.set_cons_zero, List.set_cons_succ, i64_w, i32_w]
                rfl
              refine one_ (i := 11) (N := some 75) #[true, true, true, true, true, true, true, true, true, true, true, true, false, false] rfl rfl (one_of HT_.out (by kernel_rfl)) (by decide) (fun K hK => ?_)
              refine goes_ Try.func14 (by kernel_rfl) rfl #[.slice (some ⟨b7, 0, none⟩) db.length n7, .string nm] (by rfl) rfl rfl (by (try simp only [List.map_toArray, List.map_cons, List.map_nil]); first | done | rfl) ?_
              refine (HBB.out _ HBK12.out).mono ?_
              rintro e w13 ⟨rfl, hb13⟩
              have HBK13 := Aside0.mk (below_step HBK12.out (Drawn0.below hb13))
              have hd13 : w13.cell? ⟨bn, j, none⟩ = some (.string nm) := (HBK13.out.cell (p := ⟨bn, j, none⟩) hbnl).trans hcn0
              clear hb13
              refine ⟨_, rfl, ?_⟩
              refine hK.out _ _ ⟨hd13, trivial⟩ (fun hHeld => ?_)
              clear hK K
              refine norm_ (a' := ?_) ?_ ?_
              rotate_left
              · show Act.put _ (some 75) _ = _
                simp only [Act.put, List.setIfInBounds_toArray, List.set_cons_zero, List.set_cons_succ, i64_w, i32_w]
                rfl
              refine pure_ (i := 12) (N := some 15) (v := ?_) (a' := ?_) #[true, true, true, true, true, true, true, true, true, true, true, true, true, false] rfl rfl (any_of HT_.out (by kernel_rfl)) (fun _ _ _ h => h) (Or.inl ⟨by rfl, ?_⟩) ?_ ?_
              rotate_left
              · intro w'
                go_simp
                with_reducible rfl
              rotate_left
              · simp only [Act.put, List.setIfInBounds_toArray, List.set_cons_zero, List.set_cons_succ, i64_w, i32_w]
                rfl
              refine pure_ (i := 13) (N := some 16) (v := ?_) (a' := ?_) #[true, true, true, true, true, true, true, true, true, true, true, true, true, true] rfl rfl (any_of HT_.out (by kernel_rfl)) (fun _ _ _ h => h) (Or.inl ⟨by rfl, ?_⟩) ?_ ?_
              rotate_left
              · intro w'
                go_simp
                with_reducible rfl
              rotate_left
              · simp only [Act.put, List.setIfInBounds_toArray, List.set_cons_zero, List.set_cons_succ, i64_w, i32_w]
                rfl
              refine done_ (done_of HT_.out (by kernel_rfl)) ?_
              have hcq := (HBK13.out.cell (p := ⟨b7, q, none⟩) hb7l).trans hcb
              have hcj3 := (HBK13.out.cell (p := ⟨bn, j, none⟩) hbnl).trans hcn0
              clear hHeld
              go_wp2_with fail
              refine start_ (n := 9) (S := fun w' => w'.cell? ⟨b7, q, none⟩ = some (.string nm) ∧ w'.cell? ⟨bn, j, none⟩ = some (.string nm)) (ds := []) #[false, false, false, false, false, false, false, false, false] (by kernel_rfl) rfl rfl ⟨hcq, hcj3⟩ (fun hHeld => ?_); refine with_tab due.tab22 (fun HT_ => ?_)
              refine pure_ (i := 0) (N := some 82) (v := ?_) (a' := ?_) #[true, false, false, false, false, false, false, false, false] rfl rfl (any_of HT_.out (by kernel_rfl)) (fun _ _ _ h => h) (Or.inl ⟨by rfl, ?_⟩) ?_ ?_
              rotate_left
              · intro w'
                go_simp
                with_reducible rfl
              rotate_left
              · simp only [Act.put, List.setIfInBounds_toArray, List.set_cons_zero, List.set_cons_succ, i64_w, i32_w]
                rfl
              refine pure_ (i := 1) (N := some 83) (v := ?_) (a' := ?_) #[true, true, false, false, false, false, false, false, false] rfl rfl (any_of HT_.out (by kernel_rfl)) (fun _ _ _ h => h) (Or.inl ⟨by rfl, ?_⟩) ?_ ?_
              rotate_left
              · intro w'
                go_simp
                with_reducible rfl
              rotate_left
              · simp only [Act.put, List.setIfInBounds_toArray, List.set_cons_zero, List.set_cons_succ, i64_w, i32_w]
                rfl
              refine pure_ (i := 2) (N := some 84) (v := ?_) (a' := ?_) #[true, true, true, false, false, false, false, false, false] rfl rfl (any_of HT_.out (by kernel_rfl)) (fun _ _ _ h => h) (Or.inl ⟨by rfl, ?_⟩) ?_ ?_
              rotate_left
              · intro w'
                go_simp
                with_reducible rfl
              rotate_left
              · simp only [Act.put, List.setIfInBounds_toArray, List.set_cons_zero, List.set_cons_succ, i64_w, i32_w]
                rfl
              refine pure_ (i := 4) (N := some 86) (v := ?_) (a' := ?_) #[true, true, true, false, true, false, false, false, false] rfl rfl (any_of HT_.out (by kernel_rfl)) (fun _ _ _ h => h) (Or.inl ⟨by rfl, ?_⟩) ?_ ?_
              rotate_left
              · intro w'
                go_simp
                with_reducible rfl
              rotate_left
              · simp only [Act.put, List.setIfInBounds_toArray, List.set_cons_zero, List.set_cons_succ, i64_w, i32_w]
                rfl
              refine pure_ (i := 5) (N := some 87) (v := ?_) (a' := ?_) #[true, true, true, false, true, true, false, false, false] rfl rfl (any_of HT_.out (by kernel_rfl)) (fun _ _ _ h => h) (Or.inl ⟨by rfl, ?_⟩) ?_ ?_
              rotate_left
              · intro w'
                go_simp
                with_reducible rfl
              rotate_left
              · simp only [Act.put, List.setIfInBounds_toArray, List.set_cons_zero, List.set_cons_succ, i64_w, i32_w]
                rfl
              refine pure_ (i := 6) (N := some 88) (v := ?_) (a' := ?_) #[true, true, true, false, true, true, true, false, false] rfl rfl (any_of HT_.out (by kernel_rfl)) (fun _ _ _ h => h) (Or.inl ⟨by rfl, ?_⟩) ?_ ?_
              rotate_left
              · intro w'
                go_simp
                with_reducible rfl
              rotate_left
              · simp only [Act.put, List.setIfInBounds_toArray, List.set_cons_zero, List.set_cons_succ, i64_w, i32_w]
                rfl
              refine take_ (i := 3) (N := some 85) (v := ?_) (a' := ?_) #[true, true, true, true, true, true, true, false, false] rfl rfl (take_of HT_.out (by kernel_rfl)) (fun _ _ _ h => h) (Or.inl ⟨by rfl, ?_⟩) hHeld ?_ ?_
              rotate_left
              · intro w' hS_
                obtain ⟨s0, s1⟩ := hS_
                go_simp
                with_reducible rfl
              rotate_left
              · simp only [Act.put, List.setIfInBounds_toArray, List.set_cons_zero, List.set_cons_succ, i64_w, i32_w]
                rfl
              refine take_ (i := 7) (N := some 89) (v := ?_) (a' := ?_) #[true, true, true, true, true, true, true, true, false] rfl rfl (take_of HT_.out (by kernel_rfl)) (fun _ _ _ h => h) (Or.inl ⟨by rfl, ?_⟩) hHeld ?_ ?_
              rotate_left
              · intro w' hS_
                obtain ⟨s0, s1⟩ := hS_
                go_simp
                with_reducible rfl
              rotate_left
              · simp only [Act.put, List.setIfInBounds_toArray, List.set_cons_zero, List.set_cons_succ, i64_w, i32_w]
                rfl
              refine pure_ (i := 8) (N := some 90) (v := ?_) (a' := ?_) #[true, true, true, true, true, true, true, true, true] rfl rfl (any_of HT_.out (by kernel_rfl)) (fun _ _ _ h => h) (Or.inl ⟨by rfl, ?_⟩) ?_ ?_
              rotate_left
              · intro w'
                go_simp
                with_reducible rfl
              rotate_left
              · simp only [Act.put, List.setIfInBounds_toArray, List.set_cons_zero, List.set_cons_succ, i64_w, i32_w]
                rfl
              refine done_ (done_of HT_.out (by kernel_rfl)) ?_
              go_wp2
              go_roundw
              case measure => simp [intOf]; omega
              case rel => exact ⟨j + 1, by omega, by rw [← HQ2.out, HCS.out]; rfl, by rw [show ((j : Int) + 1) = ((j + 1 : Nat) : Int) by omega], ⟨below_drew1 HBK13.out⟩⟩
            | false =>
              go_wp2_with fail
              refine start_ (n := 14) (S := fun w' => w'.cell? ⟨bn, j, none⟩ = some (.string nm) ∧ True) (ds := []) #[false, false, false, false, false, false, false, false, false, false, false, false, false, false] (by kernel_rfl) rfl rfl ⟨hcj, trivial⟩ (fun hHeld => ?_); refine with_tab due.tab18 (fun HT_ => ?_)
              refine pure_ (i := 0) (N := some 64) (v := ?_) (a' := ?_) #[true, false, false, false, false, false, false, false, false, false, false, false, false, false] rfl rfl (any_of HT_.out (by kernel_rfl)) (fun _ _ _ h => h) (Or.inl ⟨by rfl, ?_⟩) ?_ ?_
              rotate_left
              · intro w'
                go_simp
                with_reducible rfl
              rotate_left
              · simp only [Act.put, List.setIfInBounds_toArray, List.set_cons_zero, List.set_cons_succ, i64_w, i32_w]
                rfl
              refine pure_ (i := 1) (N := some 65) (v := ?_) (a' := ?_) #[true, true, false, false, false, false, false, false, false, false, false, false, false, false] rfl rfl (any_of HT_.out (by kernel_rfl)) (fun _ _ _ h => h) (Or.inl ⟨by rfl, ?_⟩) ?_ ?_
              rotate_left
              · intro w'
                go_simp
                with_reducible rfl
              rotate_left
              · simp only [Act.put, List.setIfInBounds_toArray, List.set_cons_zero, List.set_cons_succ, i64_w, i32_w]
                rfl
              refine pure_ (i := 2) (N := some 66) (v := ?_) (a' := ?_) #[true, true, true, false, false, false, false, false, false, false, false, false, false, false] rfl rfl (any_of HT_.out (by kernel_rfl)) (fun _ _ _ h => h) (Or.inl ⟨by rfl, ?_⟩) ?_ ?_
              rotate_left
              · intro w'
                go_simp
                with_reducible rfl
              rotate_left
              · simp only [Act.put, List.setIfInBounds_toArray, List.set_cons_zero, List.set_cons_succ, i64_w, i32_w]
                rfl
              refine pure_ (i := 3) (N := some 67) (v := ?_) (a' := ?_) #[true, true, true, true, false, false, false, false, false, false, false, false, false, false] rfl rfl (any_of HT_.out (by kernel_rfl)) (fun _ _ _ h => h) (Or.inl ⟨by rfl, ?_⟩) ?_ ?_
              rotate_left
              · intro w'
                go_simp
                with_reducible rfl
              rotate_left
              · simp only [Act.put, List.setIfInBounds_toArray, List.set_cons_zero, List.set_cons_succ, i64_w, i32_w]
                rfl
              refine pure_ (i := 6) (N := some 70) (v := ?_) (a' := ?_) #[true, true, true, true, false, false, true, false, false, false, false, false, false, false] rfl rfl (any_of HT_.out (by kernel_rfl)) (fun _ _ _ h => h) (Or.inl ⟨by rfl, ?_⟩) ?_ ?_
              rotate_left
              · intro w'
                go_simp
                with_reducible rfl
              rotate_left
              · simp only [Act.put, List.setIfInBounds_toArray, List.set_cons_zero, List.set_cons_succ, i64_w, i32_w]
                rfl
              refine pure_ (i := 7) (N := some 71) (v := ?_) (a' := ?_) #[true, true, true, true, false, false, true, true, false, false, false, false, false, false] rfl rfl (any_of HT_.out (by kernel_rfl)) (fun _ _ _ h => h) (Or.inl ⟨by rfl, ?_⟩) ?_ ?_
              rotate_left
              · intro w'
                go_simp
                with_reducible rfl
              rotate_left
              · simp only [Act.put, List.setIfInBounds_toArray, List.set_cons_zero, List.set_cons_succ, i64_w, i32_w]
                rfl
              refine pure_ (i := 8) (N := some 72) (v := ?_) (a' := ?_) #[true, true, true, true, false, false, true, true, true, false, false, false, false, false] rfl rfl (any_of HT_.out (by kernel_rfl)) (fun _ _ _ h => h) (Or.inl ⟨by rfl, ?_⟩) ?_ ?_
              rotate_left
              · intro w'
                go_simp
                with_reducible rfl
              rotate_left
              · simp only [Act.put, List.setIfInBounds_toArray, List.set_cons_zero, List.set_cons_succ, i64_w, i32_w]
                rfl
              refine pure_ (i := 9) (N := some 73) (v := ?_) (a' := ?_) #[true, true, true, true, false, false, true, true, true, true, false, false, false, false] rfl rfl (any_of HT_.out (by kernel_rfl)) (fun _ _ _ h => h) (Or.inl ⟨by rfl, ?_⟩) ?_ ?_
              rotate_left
              · intro w'
                go_simp
                with_reducible rfl
              rotate_left
              · simp only [Act.put, List.setIfInBounds_toArray, List.set_cons_zero, List.set_cons_succ, i64_w, i32_w]
                rfl
              refine take_ (i := 4) (N := some 68) (v := ?_) (a' := ?_) #[true, true, true, true, true, false, true, true, true, true, false, false, false, false] rfl rfl (take_of HT_.out (by kernel_rfl)) (fun _ _ _ h => h) (Or.inl ⟨by rfl, ?_⟩) hHeld ?_ ?_
              rotate_left
              · intro w' hS_
                obtain ⟨s0, s1⟩ := hS_
                go_simp
                with_reducible rfl
              rotate_left
              · simp only [Act.put, List.setIfInBounds_toArray, List.set_cons_zero, List.set_cons_succ, i64_w, i32_w]
                rfl
              refine take_ (i := 10) (N := some 74) (v := ?_) (a' := ?_) #[true, true, true, true, true, false, true, true, true, true, true, false, false, false] rfl rfl (take_of HT_.out (by kernel_rfl)) (fun _ _ _ h => h) (Or.inl ⟨by rfl, ?_⟩) hHeld ?_ ?_
              rotate_left
              · intro w' hS_
                obtain ⟨s0, s1⟩ := hS_
                go_simp
                with_reducible rfl
              rotate_left
              · simp only [Act.put, List.setIfInBounds_toArray, List.set_cons_zero, List.set_cons_succ, i64_w, i32_w]
                rfl
              refine one_ (i := 5) (N := some 69) #[true, true, true, true, true, true, true, true, true, true, true, false, false, false] rfl rfl (one_of HT_.out (by kernel_rfl)) (by decide) (fun K hK => ?_)
              refine goes_ Try.func14 (by kernel_rfl) rfl #[.slice A6 da.length n6, .string nm] (by rfl) rfl rfl (by (try simp only [List.map_toArray, List.map_cons, List.map_nil]); first | done | rfl) ?_
              refine (HA.out _ (below_drew1 HBJ.out)).mono ?_
              rintro e w12 ⟨rfl, hb12⟩
              have HBK12 := Aside0.mk (below_step (below_drew1 HBJ.out) (Drawn0.below hb12))
              have hd12 : w12.cell? ⟨bn, j, none⟩ = some (.string nm) := (HBK12.out.cell (p := ⟨bn, j, none⟩) hbnl).trans hcn0
              clear hb12
              refine ⟨_, rfl, ?_⟩
              refine hK.out _ _ ⟨hd12, trivial⟩ (fun hHeld => ?_)
              clear hK K
              refine norm_ (a' := ?_) ?_ ?_
              rotate_left
              · show Act.put _ (some 69) _ = _
                simp only [Act.put, List.setIfInBounds_toArray, List.set_cons_zero, List.set_cons_succ, i64_w, i32_w]
                rfl
              refine one_ (i := 11) (N := some 75) #[true, true, true, true, true, true, true, true, true, true, true, true, false, false] rfl rfl (one_of HT_.out (by kernel_rfl)) (by decide) (fun K hK => ?_)
              refine goes_ Try.func14 (by kernel_rfl) rfl #[.slice (some ⟨b7, 0, none⟩) db.length n7, .string nm] (by rfl) rfl rfl (by (try simp only [List.map_toArray, List.map_cons, List.map_nil]); first | done | rfl) ?_
              refine (HBB.out _ HBK12.out).mono ?_
              rintro e w13 ⟨rfl, hb13⟩
              have HBK13 := Aside0.mk (below_step HBK12.out (Drawn0.below hb13))
              have hd13 : w13.cell? ⟨bn, j, none⟩ = some (.string nm) := (HBK13.out.cell (p := ⟨bn, j, none⟩) hbnl).trans hcn0
              clear hb13
              refine ⟨_, rfl, ?_⟩
              refine hK.out _ _ ⟨hd13, trivial⟩ (fun hHeld => ?_)
              clear hK K
              refine norm_ (a' := ?_) ?_ ?_
              rotate_left
              · show Act.put _ (some 75) _ = _
                simp only [Act.put, List.setIfInBounds_toArray, List.set_cons_zero, List.set_cons_succ, i64_w, i32_w]
                rfl
              refine pure_ (i := 12) (N := some 15) (v := ?_) (a' := ?_) #[true, true, true, true, true, true, true, true, true, true, true, true, true, false] rfl rfl (any_of HT_.out (by kernel_rfl)) (fun _ _ _ h => h) (Or.inl ⟨by rfl, ?_⟩) ?_ ?_
              rotate_left
              · intro w'
                go_simp
                with_reducible rfl
              rotate_left
              · simp only [Act.put, List.setIfInBounds_toArray, List.set_cons_zero, List.set_cons_succ, i64_w, i32_w]
                rfl
              refine pure_ (i := 13) (N := some 16) (v := ?_) (a' := ?_) #[true, true, true, true, true, true, true, true, true, true, true, true, true, true] rfl rfl (any_of HT_.out (by kernel_rfl)) (fun _ _ _ h => h) (Or.inl ⟨by rfl, ?_⟩) ?_ ?_
              rotate_left
              · intro w'
                go_simp
                with_reducible rfl
              rotate_left
              · simp only [Act.put, List.setIfInBounds_toArray, List.set_cons_zero, List.set_cons_succ, i64_w, i32_w]
                rfl
              refine done_ (done_of HT_.out (by kernel_rfl)) ?_
              have hcq := (HBK13.out.cell (p := ⟨b7, q, none⟩) hb7l).trans hcb
              have hcj3 := (HBK13.out.cell (p := ⟨bn, j, none⟩) hbnl).trans hcn0
              clear hHeld
              go_wp2_with fail
              refine start_ (n := 9) (S := fun w' => w'.cell? ⟨b7, q, none⟩ = some (.string nm) ∧ w'.cell? ⟨bn, j, none⟩ = some (.string nm)) (ds := []) #[false, false, false, false, false, false, false, false, false] (by kernel_rfl) rfl rfl ⟨hcq, hcj3⟩ (fun hHeld => ?_); refine with_tab due.tab22 (fun HT_ => ?_)
              refine pure_ (i := 0) (N := some 82) (v := ?_) (a' := ?_) #[true, false, false, false, false, false, false, false, false] rfl rfl (any_of HT_.out (by kernel_rfl)) (fun _ _ _ h => h) (Or.inl ⟨by rfl, ?_⟩) ?_ ?_
              rotate_left
              · intro w'
                go_simp
                with_reducible rfl
              rotate_left
              · simp only [Act.put, List.setIfInBounds_toArray, List.set_cons_zero, List.set_cons_succ, i64_w, i32_w]
                rfl
              refine pure_ (i := 1) (N := some 83) (v := ?_) (a' := ?_) #[true, true, false, false, false, false, false, false, false] rfl rfl (any_of HT_.out (by kernel_rfl)) (fun _ _ _ h => h) (Or.inl ⟨by rfl, ?_⟩) ?_ ?_
              rotate_left
              · intro w'
                go_simp
                with_reducible rfl
              rotate_left
              · simp only [Act.put, List.setIfInBounds_toArray, List.set_cons_zero, List.set_cons_succ, i64_w, i32_w]
                rfl
              refine pure_ (i := 2) (N := some 84) (v := ?_) (a' := ?_) #[true, true, true, false, false, false, false, false, false] rfl rfl (any_of HT_.out (by kernel_rfl)) (fun _ _ _ h => h) (Or.inl ⟨by rfl, ?_⟩) ?_ ?_
              rotate_left
              · intro w'
                go_simp
                with_reducible rfl
              rotate_left
              · simp only [Act.put, List.setIfInBounds_toArray, List.set_cons_zero, List.set_cons_succ, i64_w, i32_w]
                rfl
              refine pure_ (i := 4) (N := some 86) (v := ?_) (a' := ?_) #[true, true, true, false, true, false, false, false, false] rfl rfl (any_of HT_.out (by kernel_rfl)) (fun _ _ _ h => h) (Or.inl ⟨by rfl, ?_⟩) ?_ ?_
              rotate_left
              · intro w'
                go_simp
                with_reducible rfl
              rotate_left
              · simp only [Act.put, List.setIfInBounds_toArray, List.set_cons_zero, List.set_cons_succ, i64_w, i32_w]
                rfl
              refine pure_ (i := 5) (N := some 87) (v := ?_) (a' := ?_) #[true, true, true, false, true, true, false, false, false] rfl rfl (any_of HT_.out (by kernel_rfl)) (fun _ _ _ h => h) (Or.inl ⟨by rfl, ?_⟩) ?_ ?_
              rotate_left
              · intro w'
                go_simp
                with_reducible rfl
              rotate_left
              · simp only [Act.put, List.setIfInBounds_toArray, List.set_cons_zero, List.set_cons_succ, i64_w, i32_w]
                rfl
              refine pure_ (i := 6) (N := some 88) (v := ?_) (a' := ?_) #[true, true, true, false, true, true, true, false, false] rfl rfl (any_of HT_.out (by kernel_rfl)) (fun _ _ _ h => h) (Or.inl ⟨by rfl, ?_⟩) ?_ ?_
              rotate_left
              · intro w'
                go_simp
                with_reducible rfl
              rotate_left
              · simp only [Act.put, List.setIfInBounds_toArray, List.set_cons_zero, List.set_cons_succ, i64_w, i32_w]
                rfl
              refine take_ (i := 3) (N := some 85) (v := ?_) (a' := ?_) #[true, true, true, true, true, true, true, false, false] rfl rfl (take_of HT_.out (by kernel_rfl)) (fun _ _ _ h => h) (Or.inl ⟨by rfl, ?_⟩) hHeld ?_ ?_
              rotate_left
              · intro w' hS_
                obtain ⟨s0, s1⟩ := hS_
                go_simp
                with_reducible rfl
              rotate_left
              · simp only [Act.put, List.setIfInBounds_toArray, List.set_cons_zero, List.set_cons_succ, i64_w, i32_w]
                rfl
              refine take_ (i := 7) (N := some 89) (v := ?_) (a' := ?_) #[true, true, true, true, true, true, true, true, false] rfl rfl (take_of HT_.out (by kernel_rfl)) (fun _ _ _ h => h) (Or.inl ⟨by rfl, ?_⟩) hHeld ?_ ?_
              rotate_left
              · intro w' hS_
                obtain ⟨s0, s1⟩ := hS_
                go_simp
                with_reducible rfl
              rotate_left
              · simp only [Act.put, List.setIfInBounds_toArray, List.set_cons_zero, List.set_cons_succ, i64_w, i32_w]
                rfl
              refine pure_ (i := 8) (N := some 90) (v := ?_) (a' := ?_) #[true, true, true, true, true, true, true, true, true] rfl rfl (any_of HT_.out (by kernel_rfl)) (fun _ _ _ h => h) (Or.inl ⟨by rfl, ?_⟩) ?_ ?_
              rotate_left
              · intro w'
                go_simp
                with_reducible rfl
              rotate_left
              · simp only [Act.put, List.setIfInBounds_toArray, List.set_cons_zero, List.set_cons_succ, i64_w, i32_w]
                rfl
              refine done_ (done_of HT_.out (by kernel_rfl)) ?_
              go_wp2
              go_roundw
              case measure => simp [intOf]; omega
              case rel => exact ⟨j + 1, by omega, by rw [← HQ2.out, HCS.out]; rfl, by rw [show ((j : Int) + 1) = ((j + 1 : Nat) : Int) by omega], ⟨below_drew1 HBK13.out⟩⟩
          | false =>
            have hpa : pa = false := by
              cases pa with
              | false => rfl
              | true => exact absurd (hmono rfl) (by decide)
            subst hpa
            rw [if_neg (by decide)] at hcs
            go_wp2_with fail
            refine start_ (n := 14) (S := fun w' => w'.cell? ⟨bn, j, none⟩ = some (.string nm) ∧ True) (ds := []) #[false, false, false, false, false, false, false, false, false, false, false, false, false, false] (by kernel_rfl) rfl rfl ⟨hcj, trivial⟩ (fun hHeld => ?_); refine with_tab due.tab18 (fun HT_ => ?_)
            refine pure_ (i := 0) (N := some 64) (v := ?_) (a' := ?_) #[true, false, false, false, false, false, false, false, false, false, false, false, false, false] rfl rfl (any_of HT_.out (by kernel_rfl)) (fun _ _ _ h => h) (Or.inl ⟨by rfl, ?_⟩) ?_ ?_
            rotate_left
            · intro w'
              go_simp
              with_reducible rfl
            rotate_left
            · simp only [Act.put, List.setIfInBounds_toArray, List.set_cons_zero, List.set_cons_succ, i64_w, i32_w]
              rfl
            refine pure_ (i := 1) (N := some 65) (v := ?_) (a' := ?_) #[true, true, false, false, false, false, false, false, false, false, false, false, false, false] rfl rfl (any_of HT_.out (by kernel_rfl)) (fun _ _ _ h => h) (Or.inl ⟨by rfl, ?_⟩) ?_ ?_
            rotate_left
            · intro w'
              go_simp
              with_reducible rfl
            rotate_left
            · simp only [Act.put, List.setIfInBounds_toArray, List.set_cons_zero, List.set_cons_succ, i64_w, i32_w]
              rfl
            refine pure_ (i := 2) (N := some 66) (v := ?_) (a' := ?_) #[true, true, true, false, false, false, false, false, false, false, false, false, false, false] rfl rfl (any_of HT_.out (by kernel_rfl)) (fun _ _ _ h => h) (Or.inl ⟨by rfl, ?_⟩) ?_ ?_
            rotate_left
            · intro w'
              go_simp
              with_reducible rfl
            rotate_left
            · simp only [Act.put, List.setIfInBounds_toArray, List.set_cons_zero, List.set_cons_succ, i64_w, i32_w]
              rfl
            refine pure_ (i := 3) (N := some 67) (v := ?_) (a' := ?_) #[true, true, true, true, false, false, false, false, false, false, false, false, false, false] rfl rfl (any_of HT_.out (by kernel_rfl)) (fun _ _ _ h => h) (Or.inl ⟨by rfl, ?_⟩) ?_ ?_
            rotate_left
            · intro w'
              go_simp
              with_reducible rfl
            rotate_left
            · simp only [Act.put, List.setIfInBounds_toArray, List.set_cons_zero, List.set_cons_succ, i64_w, i32_w]
              rfl
            refine pure_ (i := 6) (N := some 70) (v := ?_) (a' := ?_) #[true, true, true, true, false, false, true, false, false, false, false, false, false, false] rfl rfl (any_of HT_.out (by kernel_rfl)) (fun _ _ _ h => h) (Or.inl ⟨by rfl, ?_⟩) ?_ ?_
            rotate_left
            · intro w'
              go_simp
              with_reducible rfl
            rotate_left
            · simp only [Act.put, List.setIfInBounds_toArray, List.set_cons_zero, List.set_cons_succ, i64_w, i32_w]
              rfl
            refine pure_ (i := 7) (N := some 71) (v := ?_) (a' := ?_) #[true, true, true, true, false, false, true, true, false, false, false, false, false, false] rfl rfl (any_of HT_.out (by kernel_rfl)) (fun _ _ _ h => h) (Or.inl ⟨by rfl, ?_⟩) ?_ ?_
            rotate_left
            · intro w'
              go_simp
              with_reducible rfl
            rotate_left
            · simp only [Act.put, List.setIfInBounds_toArray, List.set_cons_zero, List.set_cons_succ, i64_w, i32_w]
              rfl
            refine pure_ (i := 8) (N := some 72) (v := ?_) (a' := ?_) #[true, true, true, true, false, false, true, true, true, false, false, false, false, false] rfl rfl (any_of HT_.out (by kernel_rfl)) (fun _ _ _ h => h) (Or.inl ⟨by rfl, ?_⟩) ?_ ?_
            rotate_left
            · intro w'
              go_simp
              with_reducible rfl
            rotate_left
            · simp only [Act.put, List.setIfInBounds_toArray, List.set_cons_zero, List.set_cons_succ, i64_w, i32_w]
              rfl
            refine pure_ (i := 9) (N := some 73) (v := ?_) (a' := ?_) #[true, true, true, true, false, false, true, true, true, true, false, false, false, false] rfl rfl (any_of HT_.out (by kernel_rfl)) (fun _ _ _ h => h) (Or.inl ⟨by rfl, ?_⟩) ?_ ?_
            rotate_left
            · intro w'
              go_simp
              with_reducible rfl
            rotate_left
            · simp only [Act.put, List.setIfInBounds_toArray, List.set_cons_zero, List.set_cons_succ, i64_w, i32_w]
              rfl
            refine take_ (i := 4) (N := some 68) (v := ?_) (a' := ?_) #[true, true, true, true, true, false, true, true, true, true, false, false, false, false] rfl rfl (take_of HT_.out (by kernel_rfl)) (fun _ _ _ h => h) (Or.inl ⟨by rfl, ?_⟩) hHeld ?_ ?_
            rotate_left
            · intro w' hS_
              obtain ⟨s0, s1⟩ := hS_
              go_simp
              with_reducible rfl
            rotate_left
            · simp only [Act.put, List.setIfInBounds_toArray, List.set_cons_zero, List.set_cons_succ, i64_w, i32_w]
              rfl
            refine take_ (i := 10) (N := some 74) (v := ?_) (a' := ?_) #[true, true, true, true, true, false, true, true, true, true, true, false, false, false] rfl rfl (take_of HT_.out (by kernel_rfl)) (fun _ _ _ h => h) (Or.inl ⟨by rfl, ?_⟩) hHeld ?_ ?_
            rotate_left
            · intro w' hS_
              obtain ⟨s0, s1⟩ := hS_
              go_simp
              with_reducible rfl
            rotate_left
            · simp only [Act.put, List.setIfInBounds_toArray, List.set_cons_zero, List.set_cons_succ, i64_w, i32_w]
              rfl
            refine one_ (i := 5) (N := some 69) #[true, true, true, true, true, true, true, true, true, true, true, false, false, false] rfl rfl (one_of HT_.out (by kernel_rfl)) (by decide) (fun K hK => ?_)
            refine goes_ Try.func14 (by kernel_rfl) rfl #[.slice A6 da.length n6, .string nm] (by rfl) rfl rfl (by (try simp only [List.map_toArray, List.map_cons, List.map_nil]); first | done | rfl) ?_
            refine (HA.out _ (below_drew1 HBJ.out)).mono ?_
            rintro e w12 ⟨rfl, hb12⟩
            have HBK12 := Aside0.mk (below_step (below_drew1 HBJ.out) (Drawn0.below hb12))
            have hd12 : w12.cell? ⟨bn, j, none⟩ = some (.string nm) := (HBK12.out.cell (p := ⟨bn, j, none⟩) hbnl).trans hcn0
            clear hb12
            refine ⟨_, rfl, ?_⟩
            refine hK.out _ _ ⟨hd12, trivial⟩ (fun hHeld => ?_)
            clear hK K
            refine norm_ (a' := ?_) ?_ ?_
            rotate_left
            · show Act.put _ (some 69) _ = _
              simp only [Act.put, List.setIfInBounds_toArray, List.set_cons_zero, List.set_cons_succ, i64_w, i32_w]
              rfl
            refine one_ (i := 11) (N := some 75) #[true, true, true, true, true, true, true, true, true, true, true, true, false, false] rfl rfl (one_of HT_.out (by kernel_rfl)) (by decide) (fun K hK => ?_)
            refine goes_ Try.func14 (by kernel_rfl) rfl #[.slice A7 db.length n7, .string nm] (by rfl) rfl rfl (by (try simp only [List.map_toArray, List.map_cons, List.map_nil]); first | done | rfl) ?_
            refine (HBB.out _ HBK12.out).mono ?_
            rintro e w13 ⟨rfl, hb13⟩
            have HBK13 := Aside0.mk (below_step HBK12.out (Drawn0.below hb13))
            have hd13 : w13.cell? ⟨bn, j, none⟩ = some (.string nm) := (HBK13.out.cell (p := ⟨bn, j, none⟩) hbnl).trans hcn0
            clear hb13
            refine ⟨_, rfl, ?_⟩
            refine hK.out _ _ ⟨hd13, trivial⟩ (fun hHeld => ?_)
            clear hK K
            refine norm_ (a' := ?_) ?_ ?_
            rotate_left
            · show Act.put _ (some 75) _ = _
              simp only [Act.put, List.setIfInBounds_toArray, List.set_cons_zero, List.set_cons_succ, i64_w, i32_w]
              rfl
            refine pure_ (i := 12) (N := some 15) (v := ?_) (a' := ?_) #[true, true, true, true, true, true, true, true, true, true, true, true, true, false] rfl rfl (any_of HT_.out (by kernel_rfl)) (fun _ _ _ h => h) (Or.inl ⟨by rfl, ?_⟩) ?_ ?_
            rotate_left
            · intro w'
              go_simp
              with_reducible rfl
            rotate_left
            · simp only [Act.put, List.setIfInBounds_toArray, List.set_cons_zero, List.set_cons_succ, i64_w, i32_w]
              rfl
            refine pure_ (i := 13) (N := some 16) (v := ?_) (a' := ?_) #[true, true, true, true, true, true, true, true, true, true, true, true, true, true] rfl rfl (any_of HT_.out (by kernel_rfl)) (fun _ _ _ h => h) (Or.inl ⟨by rfl, ?_⟩) ?_ ?_
            rotate_left
            · intro w'
              go_simp
              with_reducible rfl
            rotate_left
            · simp only [Act.put, List.setIfInBounds_toArray, List.set_cons_zero, List.set_cons_succ, i64_w, i32_w]
              rfl
            refine done_ (done_of HT_.out (by kernel_rfl)) ?_
            clear hHeld
            go_wp2
            go_roundw
            case measure => simp [intOf]; omega
            case rel => exact ⟨j + 1, by omega, by rw [← HQ2.out, hcs]; rfl, by rw [show ((j : Int) + 1) = ((j + 1 : Nat) : Int) by omega], HBK13⟩
        · have hje : j = N.length := by omega
          subst hje
          have hcnt : ((N.take N.length).filter (fun nm => pastB hi (deadN N l1 nm))).length = db.length := by rw [List.take_length, HDB.out]
          rw [hcnt]
          have hdl : dueOf ⟨N.map (mkD N l1)⟩ 1099511627776 = N := by
            rw [due_rowD HG.out.1, List.filter_eq_self]
            intro x _
            exact past_last _
          have HDL := Aside0.mk (HDU.out 1099511627776)
          rw [hdl] at HDL
          have HIJ := Aside0.mk (HI7.out.below HBJ.out)
          have HRJ := Aside0.mk (Kd.R_reads' (Kd.R_below HRN.out HBJ.out))
          rw [HUN7.out] at HUN
          clear hcnt hdl hj hjl
          go_wp2_with (first
            | (go_at_call 19; refine (HDL.out _ HIJ.out).mono ?_; rintro e wa ⟨va, rfl, hRa, hba⟩; obtain ⟨Aa, na, rfl⟩ := Kd.R_slice hRa; have HRA := Aside0.mk (Kd.R_reads' hRa); have HBA := Aside0.mk hba; clear hRa hba)
            | (go_at_call 20; with_reducible refine (same_self N Aa AN na cN wa HRA.out.2.2 HRA.out.2.1 (Kd.C_below HRJ.out.2.2 HBA.out) HRJ.out.2.1).mono ?_; rintro e wb ⟨rfl, hbb⟩; have HBB := Aside0.mk (below_step HBA.out (Drawn0.below hbb)); clear hbb)
            | (go_at_call 16; refine (HUN.out _ (HIJ.out.below HBB.out)).mono ?_; rintro e wc ⟨vc, rfl, hRc, hbc⟩; obtain ⟨Ac, nc, rfl⟩ := Kd.R_slice hRc; have HRC := Aside0.mk (Kd.R_reads' hRc); have HBC := Aside0.mk (below_step HBB.out hbc); clear hRc hbc)
            | (go_at_call 20; with_reducible refine (same_self N Ac AN nc cN wc HRC.out.2.2 HRC.out.2.1 (Kd.C_below HRJ.out.2.2 HBC.out) HRJ.out.2.1).mono ?_; rintro e wd ⟨rfl, hbd⟩; have HBD := Aside0.mk (below_step HBC.out (Drawn0.below hbd)); clear hbd))
          go_ret
          exact ⟨rfl, HBW7.out.trans ((below_step HBJ.out HBD.out).mono HBW7.out.size)⟩
theorem due_law (a0 : Option Addr) (len0 cap0 : Nat) (z0 : List Int) (a1 : Option Addr) (len1 cap1 : Nat) (z1 : List Int) (a2_0 : Int) (a2_1 : Int) (w : World) (w0 : (a0 = none ∧ len0 = 0 ∧ cap0 = 0 ∧ z0 = []) ∨ ∃ x, a0 = some x ∧ len0 ≤ cap0 ∧ cap0 ≤ maxLen ∧ z0.length = cap0 ∧ (∀ i, i < z0.length → w.cell? (x.add i) = some (.int .i64 (z0.getD i 0))) ∧ ∀ n ∈ z0, (Lit.int .i64 n).wf = true) (y0 : len0 * 8 ≤ 140737488351232) (w1 : (a1 = none ∧ len1 = 0 ∧ cap1 = 0 ∧ z1 = []) ∨ ∃ x, a1 = some x ∧ len1 ≤ cap1 ∧ cap1 ≤ maxLen ∧ z1.length = cap1 ∧ (∀ i, i < z1.length → w.cell? (x.add i) = some (.int .i64 (z1.getD i 0))) ∧ ∀ n ∈ z1, (Lit.int .i64 n).wf = true) (y1 : len1 * 8 ≤ 140737488351232) (w2_0 : (Lit.int .i64 a2_0).wf = true) (w2_1 : (Lit.int .i64 a2_1).wf = true) :
    Calls Try.prog 4 #[.slice a0 len0 cap0, .slice a1 len1 cap1, .agg #[.int .i64 a2_0, .int .i64 a2_1]] w fun e w' => e = .returned (.bool true) ∧ Below w.heap.size w w' := by
  obtain ⟨l0, rfl, hr0, hm0, hw0, hc0⟩ := ReadsInt.ofRowC w0
  obtain ⟨l1, rfl, hr1, hm1, hw1, hc1⟩ := ReadsInt.ofRowC w1
  exact due_calls _ _ l0 _ _ l1 a2_0 a2_1 w (Kd.C_of_reads (d := (0 : Int)) (h1 := fun _ => rfl) hr0) hc0 (Kd.C_of_reads (d := (0 : Int)) (h1 := fun _ => rfl) hr1) hc1
end Go.Proofs.Ytmkijdkfogebjaa.Man
