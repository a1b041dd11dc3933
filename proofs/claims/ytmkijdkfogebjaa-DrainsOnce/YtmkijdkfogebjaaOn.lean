/-
  The walk of DrainsOnce. Conditions: none.
-/
import Derived.Test.YtmkijdkfogebjaaOnA
import Derived.Test.YtmkijdkfogebjaaNil
import Derived.Test.YtmkijdkfogebjaaWTab
set_option linter.unusedVariables false
set_option linter.unusedSimpArgs false
namespace Go.Proofs.Ytmkijdkfogebjaa.Man
open Go.RowKit Go.Proofs.YtmkijdkfogebjaaW.PrintWords Go.Proofs.YtmkijdkfogebjaaW.PrintLast Go.Proofs.YtmkijdkfogebjaaW.PrintMore Go.Proofs.Ytmkijdkfogebjaa.PA Go.Proofs.Ytmkijdkfogebjaa.Hid Go.Proofs.Ytmkijdkfogebjaa.PG Go.Proofs.Ytmkijdkfogebjaa.Nil
theorem mod_n (x : Int) (m : Nat) (h0 : 0 < m) (h9 : m ≤ 1000) : ∃ n : Nat, wrap64 (Int.tmod (IntKind.u64.wrap x) (m : Int)) = (n : Int) ∧ n < m := by
  have hw : 0 ≤ IntKind.u64.wrap x := by
    unfold IntKind.wrap
    simp [IntKind.bits, IntKind.signed]
    omega
  have h1 : 0 ≤ Int.tmod (IntKind.u64.wrap x) (m : Int) := Int.tmod_nonneg _ hw
  have h2 : Int.tmod (IntKind.u64.wrap x) (m : Int) < m := Int.tmod_lt_of_pos _ (by omega)
  exact ⟨(Int.tmod (IntKind.u64.wrap x) (m : Int)).toNat, by unfold wrap64; omega, by omega⟩
theorem kind_cases (a : Int) : ∃ κ : Nat, κ < 5 ∧ wrap64 (Int.tmod (IntKind.u64.wrap a) 5) = (κ : Int) := by
  obtain ⟨n, h1, h2⟩ := mod_n a 5 (by omega) (by omega)
  exact ⟨n, h2, h1⟩
def once.T15 : Bool × List (List Nat × List Nat) := (true, [([], []), ([0], [0]), ([], []), ([2], [2]), ([1, 3, 1], [1, 3]), ([4, 4], [4]), ([5], [5]), ([6, 5, 5], [5, 6]), ([5], [5]), ([8, 5], [5, 8]), ([7, 9, 7, 5], [5, 7, 9]), ([5, 10], [5, 10]), ([11, 10, 0, 1, 2, 3, 4, 5, 6, 7, 8, 9, 10, 11], [11])])
theorem once.tab15 : rtab .any (opsOf Try.f3 15) = once.T15 := by kernel_rfl
def once.T22 : Bool × List (List Nat × List Nat) := (true, [([], []), ([], []), ([], []), ([1, 2], [1, 2]), ([3], [3]), ([0, 4], [0, 4]), ([5, 5], [5]), ([6], [6]), ([6], [6]), ([7, 8, 6], [6, 7, 8]), ([6], [6]), ([6], [6]), ([10, 11, 6], [6, 10, 11]), ([12, 6], [6, 12]), ([9, 13, 6, 6], [6, 9, 13]), ([6, 14], [6, 14])])
theorem once.tab22 : rtab .any (opsOf Try.f3 22) = once.T22 := by kernel_rfl
def once.T27 : Bool × List (List Nat × List Nat) := (true, [([], []), ([], []), ([0, 1], [0, 1]), ([], []), ([], []), ([3, 4], [3, 4]), ([5], [5]), ([2, 6], [2, 6])])
theorem once.tab27 : rtab .any (opsOf Try.f3 27) = once.T27 := by kernel_rfl
set_option maxRecDepth 100000 in
set_option maxHeartbeats 8000000 in
theorem once_calls (A : Option Addr) (n : Nat) (l0 : List S29) (w : World) (hV : Kd.V k29 29 w 0 (fun k => k < w.heap.size) (.slice A l0.length n) l0) :
    Calls Try.prog 3 #[.slice A l0.length n] w fun e w' => e = .returned (.bool true) ∧ Below w.heap.size w w' := by
  have HL := Aside0.mk (hostlerlaw13_lives.calls true w lives_at)
  have HV := Aside0.mk hV
  clear hV
  go_enter Try.func3, Try.ntmps3
  go_wp2_with (first
    | (go_at_call 8; refine HL.out.mono ?_; rintro e w1 ⟨rfl, hb1⟩; have HB1 := Aside0.mk hb1; clear hb1)
    | (go_at_call 9; refine (drains_DNew.calls ⟨[]⟩ w _ HB1.out rfl).mono ?_; rintro e w2 ⟨g, rfl, hi2, hb2, hbb2⟩; have HI2 := Aside0.mk hi2; have HB2 := Aside0.mk hb2; clear hi2 hb2 hbb2)
    | (go_at_call 10; refine (early_raw (w0 := w) A n l0 ⟨A, n, rfl, (Kd.V_reads' HV.out).2.1, Kd.F_step (Kd.V_F HV.out) (fun k hk _ => HB2.out.block k hk)⟩ HB2.out).mono ?_; rintro e w3 ⟨v3, rfl, hs3, hb3⟩; have HS3 := Aside0.mk hs3; have HI3 := Aside0.mk (HI2.out.below hb3); have HB3 := Aside0.mk (HB2.out.trans (hb3.mono HB2.out.size)); clear hs3 hb3))
  obtain ⟨es, hes⟩ : ∃ es, es = earlyOf l0 := ⟨_, rfl⟩
  have hel : es.length ≤ 80 := by rw [hes]; simp [earlyOf]; omega
  rw [← hes] at HS3
  obtain ⟨AS, cS, rfl⟩ := Kd.N_slice HS3.out
  clear hes HV HI2 HB1 HB2 HL
  go_loopw [4] (fun v4 wr => ∃ (k : Nat) (s : DS), k ≤ es.length ∧ v4 = .int .i64 k ∧ Aside0 (Inv s k) ∧ Aside0 (IsS66 w wr g s) ∧ Aside0 (Below w.heap.size w wr) ∧ Aside0 (Scr w wr (.slice AS es.length cS) es)) (fun v4 _ => es.length - (intOf v4).toNat)
  case atStart => exact ⟨0, ⟨[]⟩, Nat.zero_le _, rfl, ⟨by simp [Inv, namesOf]⟩, HI3, HB3, HS3⟩
  case round =>
    obtain ⟨k, s, hk, rfl, HIN, HI, HB, HS⟩ := hrel
    by_cases hlt : k < es.length
    · obtain ⟨ad, A3, c3, hA, hx0, hx1, hx2, hx3, hl3, hi3⟩ := at_T29 (Kd.N_reads' HS.out).2.2 (k : Int) (by omega) (by omega)
      subst hA
      obtain ⟨x, hxe⟩ : ∃ x : S29, x = rd_T29 es (k : Int) := ⟨_, rfl⟩
      rw [← hxe, Int.toNat_natCast] at hx0 hx1 hx2 hx3
      rw [← hxe] at hl3 hi3
      have h0k : (0 : Int) ≤ (k : Int) := by omega
      have hkl : (k : Int) < (es.length : Int) := by omega
      obtain ⟨κ, hκ5, hκ⟩ := kind_cases x.f0
      have HKD := Aside0.mk (fun W (h : Kd.C Kd.string W A3 x.f3.length x.f3) => hostlerlaw13_Step_kind.calls x.f0 x.f1 x.f2 A3 c3 x.f3 (κ : Int) W h hl3 (by unfold hostlerlaw13_Step_kind.f; rw [hκ]))
      have HC3 := Aside0.mk hi3
      clear hxe hκ hi3
      go_upto_block 2 with (first
        | (go_at_call 11; refine (HKD.out _ (Kd.C_alloc HC3.out _)).mono ?_; rintro e w4 ⟨rfl, hb4⟩; have HB4 := Aside0.mk hb4; clear hb4))
      have hbx : w4.heap[wr.heap.size]? = some (.cells #[.int .i64 x.f0, .int .i64 x.f1, .string x.f2, .slice A3 x.f3.length c3] 29 (0, 0)) := (HB4.out.block _ (by simp)).trans (heap_alloc_new wr _)
      have hcx1 : w4.cell? ⟨wr.heap.size, 1, none⟩ = some (.int .i64 x.f1) := (blk_cell hbx 1).trans rfl
      have hcx2 : w4.cell? ⟨wr.heap.size, 2, none⟩ = some (.string x.f2) := (blk_cell hbx 2).trans rfl
      have HBX := Aside0.mk hbx
      have HB5 := Aside0.mk (below_step (below_alloc (Below.refl _ wr) _) HB4.out)
      have HI5 := Aside0.mk (HI.out.below HB5.out)
      have HBW := Aside0.mk (HB.out.trans (HB5.out.mono HB.out.size))
      have HS5 := Aside0.mk (HS.out.below HB5.out)
      clear hbx hx0 hx1 hx2 hx3 HB4
      go_cut [] (fun wc => ∃ s' : DS, Aside0 (Inv s' (k + 1)) ∧ Aside0 (IsS66 w wc g s') ∧ Aside0 (Below w.heap.size w wc) ∧ Aside0 (Scr w wc (.slice (some ad) es.length cS) es))
      case first =>
        have hx : κ = 0 ∨ κ = 1 ∨ κ = 2 ∨ κ = 3 ∨ κ = 4 := by omega
        rcases hx with rfl | rfl | rfl | rfl | rfl
        · obtain ⟨r, s', hf, hv⟩ := inv_ask HIN.out (by omega) x.f2
          have HF := Aside0.mk hf
          have HV := Aside0.mk hv
          clear hf hv
          go_wp2_with (go_at_call 12; refine (drains_Drains_Ask.calls g s x.f2 r s' w w4 HI5.out HBW.out HF.out).mono ?_; rintro e w6 ⟨rfl, hi6, hb6, hk6⟩)
          go_meet
          case rel => exact ⟨s', HV, ⟨hi6⟩, ⟨hb6⟩, ⟨HS5.out.keep HBW.out hb6 hk6⟩⟩
        · obtain ⟨r, s', hf, hv⟩ := inv_begin HIN.out (by omega) x.f2 x.f1
          have HF := Aside0.mk hf
          have HV := Aside0.mk hv
          clear hf hv
          go_wp2_with (go_at_call 13; refine (drains_Drains_Begin.calls g s x.f2 x.f1 r s' w w4 HI5.out HBW.out HF.out).mono ?_; rintro e w6 ⟨rfl, hi6, hb6, hk6⟩)
          go_meet
          case rel => exact ⟨s', HV, ⟨hi6⟩, ⟨hb6⟩, ⟨HS5.out.keep HBW.out hb6 hk6⟩⟩
        · have HWA := Aside0.mk (fun W (h : IsS66 w W g s) => waits_raw (by have := HIN.out.2.1; omega) h)
          have HUN := Aside0.mk (fun W (h : IsS66 w W g s) => under_raw (by have := HIN.out.2.1; omega) h)
          have hwas := was_eq s.row x.f2
          have hnow := inv_end HIN.out x.f2
          have HEN := Aside0.mk (fun W (h : IsS66 w W g s) (hb : Below w.heap.size w W) => drains_Drains_End.calls g s x.f2 _ ⟨endRow s.row x.f2⟩ w W h hb (if_pos (by have := HIN.out.2.1; omega)))
          have HEN2 := Aside0.mk (fun W (h : IsS66 w W g ⟨endRow s.row x.f2⟩) (hb : Below w.heap.size w W) => drains_Drains_End.calls g ⟨endRow s.row x.f2⟩ x.f2 false ⟨endRow s.row x.f2⟩ w W h hb (by
            have hp := (place_neg x.f2 (endRow s.row x.f2) 0 (by omega)).2 hnow.2
            unfold drains_Drains_End.f
            rw [if_pos (by have h8 : (endRow s.row x.f2).length ≤ k := hnow.1.2.1; show (endRow s.row x.f2).length ≤ 1000; omega)]
            congr 2
            · exact decide_eq_false (by show ¬ 0 ≤ placeOf (endRow s.row x.f2) x.f2 0; omega)
            · show DS.mk (endRow (endRow s.row x.f2) x.f2) = _
              rw [show endRow (endRow s.row x.f2) x.f2 = endRow s.row x.f2 by
                unfold endRow
                rw [if_pos (show placeOf (if placeOf s.row x.f2 0 < 0 then s.row else s.row.eraseIdx (placeOf s.row x.f2 0).toNat) x.f2 0 < 0 from hp)]]))
          have HNOW := Aside0.mk hnow.1
          generalize endRow s.row x.f2 = row2 at HEN HEN2 HNOW
          clear hnow
          generalize namesOf s.row false = wl at HWA hwas
          generalize namesOf s.row true = ul at HUN hwas
          generalize decide (0 ≤ placeOf s.row x.f2 0) = was at HEN hwas
          have hblt : wr.heap.size < w4.heap.size := blk_lt HBX.out
          cases hw : hasB x.f2 wl with
          | true =>
            rw [hw, Bool.true_or] at hwas
            subst hwas
            have HW := Aside0.mk hw
            clear hw
            go_wp2_with fail
            refine start_ (n := 13) (S := fun w' => w'.cell? ⟨wr.heap.size, 2, none⟩ = some (.string x.f2) ∧ True) (ds := []) #[false, false, false, false, false, false, false, false, false, false, false, false, false] (by kernel_rfl) rfl rfl ⟨hcx2, trivial⟩ (fun hHeld => ?_); refine with_tab once.tab15 (fun HT_ => ?_)
            refine pure_ (i := 0) (N := some 44) (v := ?_) (a' := ?_) #[true, false, false, false, false, false, false, false, false, false, false, false, false] rfl rfl (any_of HT_.out (by kernel_rfl)) (fun _ _ _ h => h) (Or.inl ⟨by rfl, ?_⟩) ?_ ?_
            rotate_left
            · intro w'
              go_simp
              with_reducible rfl
            rotate_left
            · simp only [Act.put, List.setIfInBounds_toArray, List.set_cons_zero, List.set_cons_succ, i64_w, i32_w]
              rfl
            refine pure_ (i := 2) (N := some 46) (v := ?_) (a' := ?_) #[true, false, true, false, false, false, false, false, false, false, false, false, false] rfl rfl (any_of HT_.out (by kernel_rfl)) (fun _ _ _ h => h) (Or.inl ⟨by rfl, ?_⟩) ?_ ?_
            rotate_left
            · intro w'
              go_simp
              with_reducible rfl
            rotate_left
            · simp only [Act.put, List.setIfInBounds_toArray, List.set_cons_zero, List.set_cons_succ, i64_w, i32_w]
              rfl
            refine take_ (i := 3) (N := some 47) (v := ?_) (a' := ?_) #[true, false, true, true, false, false, false, false, false, false, false, false, false] rfl rfl (take_of HT_.out (by kernel_rfl)) (fun _ _ _ h => h) (Or.inl ⟨by rfl, ?_⟩) hHeld ?_ ?_
            rotate_left
            · intro w' hS_
              obtain ⟨s0, s1⟩ := hS_
              go_simp
              with_reducible rfl
            rotate_left
            · simp only [Act.put, List.setIfInBounds_toArray, List.set_cons_zero, List.set_cons_succ, i64_w, i32_w]
              rfl
            refine one_ (i := 1) (N := some 45) #[true, true, true, true, false, false, false, false, false, false, false, false, false] rfl rfl (one_of HT_.out (by kernel_rfl)) (by decide) (fun K hK => ?_)
            refine goes_ Try.func15 (by kernel_rfl) rfl #[.pointer (some ⟨g, 0, none⟩)] (by rfl) rfl rfl (by (try simp only [List.map_toArray, List.map_cons, List.map_nil]); first | done | rfl) ?_
            refine (HWA.out _ (HI5.out.drew)).mono ?_
            rintro e w6 ⟨v6, rfl, hR6, hb6⟩
            obtain ⟨A6, n6, rfl⟩ := Kd.R_slice hR6
            have HR6 := Aside0.mk (Kd.R_reads' hR6)
            have HB6 := Aside0.mk hb6
            have hd6 : w6.cell? ⟨wr.heap.size, 2, none⟩ = some (.string x.f2) := (hb6.cell (p := ⟨wr.heap.size, 2, none⟩) hblt).trans hcx2
            clear hR6 hb6
            refine ⟨_, rfl, ?_⟩
            refine hK.out _ _ ⟨hd6, trivial⟩ (fun hHeld => ?_)
            clear hK K
            refine norm_ (a' := ?_) ?_ ?_
            rotate_left
            · show Act.put _ (some 45) _ = _
              simp only [Act.put, List.setIfInBounds_toArray, List.set_cons_zero, List.set_cons_succ, i64_w, i32_w]
              rfl
            refine one_ (i := 4) (N := some 48) #[true, true, true, true, true, false, false, false, false, false, false, false, false] rfl rfl (one_of HT_.out (by kernel_rfl)) (by decide) (fun K hK => ?_)
            refine goes_ Try.func14 (by kernel_rfl) rfl #[.slice A6 wl.length n6, .string x.f2] (by rfl) rfl rfl (by (try simp only [List.map_toArray, List.map_cons, List.map_nil]); first | done | rfl) ?_
            refine (has_raw x.f2 wl A6 n6 _ HR6.out.2.2 HR6.out.2.1).mono ?_
            rintro e w7 ⟨rfl, hb7⟩
            rw [HW.out]
            have HB7 := Aside0.mk (below_step HB6.out (Drawn0.below hb7))
            have hd7 : w7.cell? ⟨wr.heap.size, 2, none⟩ = some (.string x.f2) := (HB7.out.cell (p := ⟨wr.heap.size, 2, none⟩) hblt).trans hcx2
            clear hb7
            refine ⟨_, rfl, ?_⟩
            refine hK.out _ _ ⟨hd7, trivial⟩ (fun hHeld => ?_)
            clear hK K
            refine norm_ (a' := ?_) ?_ ?_
            rotate_left
            · show Act.put _ (some 48) _ = _
              simp only [Act.put, List.setIfInBounds_toArray, List.set_cons_zero, List.set_cons_succ, i64_w, i32_w]
              rfl
            refine pure_ (i := 5) (N := some 49) (v := ?_) (a' := ?_) #[true, true, true, true, true, true, false, false, false, false, false, false, false] rfl rfl (any_of HT_.out (by kernel_rfl)) (fun _ _ _ h => h) (Or.inl ⟨by rfl, ?_⟩) ?_ ?_
            rotate_left
            · intro w'
              go_simp
              with_reducible rfl
            rotate_left
            · simp only [Act.put, List.setIfInBounds_toArray, List.set_cons_zero, List.set_cons_succ, i64_w, i32_w]
              rfl
            refine pure_ (i := 6) (N := some 50) (v := undef) (a' := ?_) #[true, true, true, true, true, true, true, false, false, false, false, false, false] rfl rfl (any_of HT_.out (by kernel_rfl)) (fun _ _ _ h => h) (Or.inr ⟨by rfl, rfl⟩) ?_ ?_
            rotate_left
            · simp only [Act.put, List.setIfInBounds_toArray, List.set_cons_zero, List.set_cons_succ, i64_w, i32_w]
              rfl
            refine pure_ (i := 7) (N := some 51) (v := undef) (a' := ?_) #[true, true, true, true, true, true, true, true, false, false, false, false, false] rfl rfl (any_of HT_.out (by kernel_rfl)) (fun _ _ _ h => h) (Or.inr ⟨by rfl, rfl⟩) ?_ ?_
            rotate_left
            · simp only [Act.put, List.setIfInBounds_toArray, List.set_cons_zero, List.set_cons_succ, i64_w, i32_w]
              rfl
            refine pure_ (i := 8) (N := some 52) (v := undef) (a' := ?_) #[true, true, true, true, true, true, true, true, true, false, false, false, false] rfl rfl (any_of HT_.out (by kernel_rfl)) (fun _ _ _ h => h) (Or.inr ⟨by rfl, rfl⟩) ?_ ?_
            rotate_left
            · simp only [Act.put, List.setIfInBounds_toArray, List.set_cons_zero, List.set_cons_succ, i64_w, i32_w]
              rfl
            refine pure_ (i := 9) (N := some 53) (v := undef) (a' := ?_) #[true, true, true, true, true, true, true, true, true, true, false, false, false] rfl rfl (any_of HT_.out (by kernel_rfl)) (fun _ _ _ h => h) (Or.inr ⟨by rfl, rfl⟩) ?_ ?_
            rotate_left
            · simp only [Act.put, List.setIfInBounds_toArray, List.set_cons_zero, List.set_cons_succ, i64_w, i32_w]
              rfl
            refine pure_ (i := 10) (N := some 54) (v := undef) (a' := ?_) #[true, true, true, true, true, true, true, true, true, true, true, false, false] rfl rfl (any_of HT_.out (by kernel_rfl)) (fun _ _ _ h => h) (Or.inr ⟨by rfl, rfl⟩) ?_ ?_
            rotate_left
            · simp only [Act.put, List.setIfInBounds_toArray, List.set_cons_zero, List.set_cons_succ, i64_w, i32_w]
              rfl
            refine pure_ (i := 11) (N := some 55) (v := ?_) (a' := ?_) #[true, true, true, true, true, true, true, true, true, true, true, true, false] rfl rfl (any_of HT_.out (by kernel_rfl)) (fun _ _ _ h => h) (Or.inl ⟨by rfl, ?_⟩) ?_ ?_
            rotate_left
            · intro w'
              go_simp
              with_reducible rfl
            rotate_left
            · simp only [Act.put, List.setIfInBounds_toArray, List.set_cons_zero, List.set_cons_succ, i64_w, i32_w]
              rfl
            refine pure_ (i := 12) (N := some 6) (v := ?_) (a' := ?_) #[true, true, true, true, true, true, true, true, true, true, true, true, true] rfl rfl (any_of HT_.out (by kernel_rfl)) (fun _ _ _ h => h) (Or.inl ⟨by rfl, ?_⟩) ?_ ?_
            rotate_left
            · intro w'
              go_simp
              with_reducible rfl
            rotate_left
            · simp only [Act.put, List.setIfInBounds_toArray, List.set_cons_zero, List.set_cons_succ, i64_w, i32_w]
              rfl
            refine done_ (done_of HT_.out (by kernel_rfl)) ?_
            obtain ⟨wq, rfl⟩ : ∃ wq : World, wq = w7 := ⟨_, rfl⟩
            have HBQ := HB7
            have HIQ := Aside0.mk ((HI5.out.drew).below HBQ.out)
            have HWQ := Aside0.mk ((below_drew1 HBW.out).trans (HBQ.out.mono HBW.out.size))
            have HSQ := Aside0.mk (Scr.below (W := w4.drew) (Kd.N_drew HS5.out) HBQ.out)
            have hdq : wq.cell? ⟨wr.heap.size, 2, none⟩ = some (.string x.f2) := (HBQ.out.cell (p := ⟨wr.heap.size, 2, none⟩) hblt).trans hcx2
            have hbq : wq.heap[wr.heap.size]? = some (.cells #[.int .i64 x.f0, .int .i64 x.f1, .string x.f2, .slice A3 x.f3.length c3] 29 (0, 0)) := (HBQ.out.block _ hblt).trans HBX.out
            have HBQX := Aside0.mk hbq
            clear hbq
            go_wp2_with (first
              | (go_at_call 17; refine (HEN.out _ HIQ.out HWQ.out).mono ?_; rintro e wa ⟨rfl, hia, hba, hka⟩; have HIA := Aside0.mk hia; have HBA := Aside0.mk hba; have HKA := Aside0.mk hka; have hda : wa.cell? ⟨wr.heap.size, 2, none⟩ = some (.string x.f2) := (blk_cell (Ko.blkc hka HBQX.out (by decide)) 2).trans rfl; clear hia hba hka)
              | (go_at_call 17; refine (HEN2.out _ HIA.out HBA.out).mono ?_; rintro e wb ⟨rfl, hib, hbb, hkb⟩))
            go_meet
            case rel => exact ⟨⟨row2⟩, ⟨HNOW.out.mono (by omega)⟩, ⟨hib⟩, ⟨hbb⟩, ⟨HSQ.out.keep HWQ.out hbb (HKA.out.trans hkb)⟩⟩
          | false =>
            rw [hw, Bool.false_or] at hwas
            subst hwas
            have HW := Aside0.mk hw
            clear hw
            go_wp2_with fail
            refine start_ (n := 13) (S := fun w' => w'.cell? ⟨wr.heap.size, 2, none⟩ = some (.string x.f2) ∧ True) (ds := []) #[false, false, false, false, false, false, false, false, false, false, false, false, false] (by kernel_rfl) rfl rfl ⟨hcx2, trivial⟩ (fun hHeld => ?_); refine with_tab once.tab15 (fun HT_ => ?_)
            refine pure_ (i := 0) (N := some 44) (v := ?_) (a' := ?_) #[true, false, false, false, false, false, false, false, false, false, false, false, false] rfl rfl (any_of HT_.out (by kernel_rfl)) (fun _ _ _ h => h) (Or.inl ⟨by rfl, ?_⟩) ?_ ?_
            rotate_left
            · intro w'
              go_simp
              with_reducible rfl
            rotate_left
            · simp only [Act.put, List.setIfInBounds_toArray, List.set_cons_zero, List.set_cons_succ, i64_w, i32_w]
              rfl
            refine pure_ (i := 2) (N := some 46) (v := ?_) (a' := ?_) #[true, false, true, false, false, false, false, false, false, false, false, false, false] rfl rfl (any_of HT_.out (by kernel_rfl)) (fun _ _ _ h => h) (Or.inl ⟨by rfl, ?_⟩) ?_ ?_
            rotate_left
            · intro w'
              go_simp
              with_reducible rfl
            rotate_left
            · simp only [Act.put, List.setIfInBounds_toArray, List.set_cons_zero, List.set_cons_succ, i64_w, i32_w]
              rfl
            refine take_ (i := 3) (N := some 47) (v := ?_) (a' := ?_) #[true, false, true, true, false, false, false, false, false, false, false, false, false] rfl rfl (take_of HT_.out (by kernel_rfl)) (fun _ _ _ h => h) (Or.inl ⟨by rfl, ?_⟩) hHeld ?_ ?_
            rotate_left
            · intro w' hS_
              obtain ⟨s0, s1⟩ := hS_
              go_simp
              with_reducible rfl
            rotate_left
            · simp only [Act.put, List.setIfInBounds_toArray, List.set_cons_zero, List.set_cons_succ, i64_w, i32_w]
              rfl
            refine one_ (i := 1) (N := some 45) #[true, true, true, true, false, false, false, false, false, false, false, false, false] rfl rfl (one_of HT_.out (by kernel_rfl)) (by decide) (fun K hK => ?_)
            refine goes_ Try.func15 (by kernel_rfl) rfl #[.pointer (some ⟨g, 0, none⟩)] (by rfl) rfl rfl (by (try simp only [List.map_toArray, List.map_cons, List.map_nil]); first | done | rfl) ?_
            refine (HWA.out _ (HI5.out.drew)).mono ?_
            rintro e w6 ⟨v6, rfl, hR6, hb6⟩
            obtain ⟨A6, n6, rfl⟩ := Kd.R_slice hR6
            have HR6 := Aside0.mk (Kd.R_reads' hR6)
            have HB6 := Aside0.mk hb6
            have hd6 : w6.cell? ⟨wr.heap.size, 2, none⟩ = some (.string x.f2) := (hb6.cell (p := ⟨wr.heap.size, 2, none⟩) hblt).trans hcx2
            clear hR6 hb6
            refine ⟨_, rfl, ?_⟩
            refine hK.out _ _ ⟨hd6, trivial⟩ (fun hHeld => ?_)
            clear hK K
            refine norm_ (a' := ?_) ?_ ?_
            rotate_left
            · show Act.put _ (some 45) _ = _
              simp only [Act.put, List.setIfInBounds_toArray, List.set_cons_zero, List.set_cons_succ, i64_w, i32_w]
              rfl
            refine one_ (i := 4) (N := some 48) #[true, true, true, true, true, false, false, false, false, false, false, false, false] rfl rfl (one_of HT_.out (by kernel_rfl)) (by decide) (fun K hK => ?_)
            refine goes_ Try.func14 (by kernel_rfl) rfl #[.slice A6 wl.length n6, .string x.f2] (by rfl) rfl rfl (by (try simp only [List.map_toArray, List.map_cons, List.map_nil]); first | done | rfl) ?_
            refine (has_raw x.f2 wl A6 n6 _ HR6.out.2.2 HR6.out.2.1).mono ?_
            rintro e w7 ⟨rfl, hb7⟩
            rw [HW.out]
            have HB7 := Aside0.mk (below_step HB6.out (Drawn0.below hb7))
            have hd7 : w7.cell? ⟨wr.heap.size, 2, none⟩ = some (.string x.f2) := (HB7.out.cell (p := ⟨wr.heap.size, 2, none⟩) hblt).trans hcx2
            clear hb7
            refine ⟨_, rfl, ?_⟩
            refine hK.out _ _ ⟨hd7, trivial⟩ (fun hHeld => ?_)
            clear hK K
            refine norm_ (a' := ?_) ?_ ?_
            rotate_left
            · show Act.put _ (some 48) _ = _
              simp only [Act.put, List.setIfInBounds_toArray, List.set_cons_zero, List.set_cons_succ, i64_w, i32_w]
              rfl
            refine pure_ (i := 5) (N := some 49) (v := ?_) (a' := ?_) #[true, true, true, true, true, true, false, false, false, false, false, false, false] rfl rfl (any_of HT_.out (by kernel_rfl)) (fun _ _ _ h => h) (Or.inl ⟨by rfl, ?_⟩) ?_ ?_
            rotate_left
            · intro w'
              go_simp
              with_reducible rfl
            rotate_left
            · simp only [Act.put, List.setIfInBounds_toArray, List.set_cons_zero, List.set_cons_succ, i64_w, i32_w]
              rfl
            refine pure_ (i := 6) (N := some 50) (v := ?_) (a' := ?_) #[true, true, true, true, true, true, true, false, false, false, false, false, false] rfl rfl (any_of HT_.out (by kernel_rfl)) (fun _ _ _ h => h) (Or.inl ⟨by rfl, ?_⟩) ?_ ?_
            rotate_left
            · intro w'
              go_simp
              with_reducible rfl
            rotate_left
            · simp only [Act.put, List.setIfInBounds_toArray, List.set_cons_zero, List.set_cons_succ, i64_w, i32_w]
              rfl
            refine pure_ (i := 8) (N := some 52) (v := ?_) (a' := ?_) #[true, true, true, true, true, true, true, false, true, false, false, false, false] rfl rfl (any_of HT_.out (by kernel_rfl)) (fun _ _ _ h => h) (Or.inl ⟨by rfl, ?_⟩) ?_ ?_
            rotate_left
            · intro w'
              go_simp
              with_reducible rfl
            rotate_left
            · simp only [Act.put, List.setIfInBounds_toArray, List.set_cons_zero, List.set_cons_succ, i64_w, i32_w]
              rfl
            refine take_ (i := 9) (N := some 53) (v := ?_) (a' := ?_) #[true, true, true, true, true, true, true, false, true, true, false, false, false] rfl rfl (take_of HT_.out (by kernel_rfl)) (fun _ _ _ h => h) (Or.inl ⟨by rfl, ?_⟩) hHeld ?_ ?_
            rotate_left
            · intro w' hS_
              obtain ⟨s0, s1⟩ := hS_
              go_simp
              with_reducible rfl
            rotate_left
            · simp only [Act.put, List.setIfInBounds_toArray, List.set_cons_zero, List.set_cons_succ, i64_w, i32_w]
              rfl
            refine one_ (i := 7) (N := some 51) #[true, true, true, true, true, true, true, true, true, true, false, false, false] rfl rfl (one_of HT_.out (by kernel_rfl)) (by decide) (fun K hK => ?_)
            refine goes_ Try.func16 (by kernel_rfl) rfl #[.pointer (some ⟨g, 0, none⟩)] (by rfl) rfl rfl (by (try simp only [List.map_toArray, List.map_cons, List.map_nil]); first | done | rfl) ?_
            refine (HUN.out _ (HI5.out.drew.below HB7.out)).mono ?_
            rintro e w8 ⟨v8, rfl, hR8, hb8⟩
            obtain ⟨A8, n8, rfl⟩ := Kd.R_slice hR8
            have HR8 := Aside0.mk (Kd.R_reads' hR8)
            have HB8 := Aside0.mk (below_step HB7.out hb8)
            have hd8 : w8.cell? ⟨wr.heap.size, 2, none⟩ = some (.string x.f2) := (HB8.out.cell (p := ⟨wr.heap.size, 2, none⟩) hblt).trans hcx2
            clear hR8 hb8
            refine ⟨_, rfl, ?_⟩
            refine hK.out _ _ ⟨hd8, trivial⟩ (fun hHeld => ?_)
            clear hK K
            refine norm_ (a' := ?_) ?_ ?_
            rotate_left
            · show Act.put _ (some 51) _ = _
              simp only [Act.put, List.setIfInBounds_toArray, List.set_cons_zero, List.set_cons_succ, i64_w, i32_w]
              rfl
            refine one_ (i := 10) (N := some 54) #[true, true, true, true, true, true, true, true, true, true, true, false, false] rfl rfl (one_of HT_.out (by kernel_rfl)) (by decide) (fun K hK => ?_)
            refine goes_ Try.func14 (by kernel_rfl) rfl #[.slice A8 ul.length n8, .string x.f2] (by rfl) rfl rfl (by (try simp only [List.map_toArray, List.map_cons, List.map_nil]); first | done | rfl) ?_
            refine (has_raw x.f2 ul A8 n8 _ HR8.out.2.2 HR8.out.2.1).mono ?_
            rintro e w9 ⟨rfl, hb9⟩
            have HB9 := Aside0.mk (below_step HB8.out (Drawn0.below hb9))
            have hd9 : w9.cell? ⟨wr.heap.size, 2, none⟩ = some (.string x.f2) := (HB9.out.cell (p := ⟨wr.heap.size, 2, none⟩) hblt).trans hcx2
            clear hb9
            refine ⟨_, rfl, ?_⟩
            refine hK.out _ _ ⟨hd9, trivial⟩ (fun hHeld => ?_)
            clear hK K
            refine norm_ (a' := ?_) ?_ ?_
            rotate_left
            · show Act.put _ (some 54) _ = _
              simp only [Act.put, List.setIfInBounds_toArray, List.set_cons_zero, List.set_cons_succ, i64_w, i32_w]
              rfl
            refine pure_ (i := 11) (N := some 55) (v := ?_) (a' := ?_) #[true, true, true, true, true, true, true, true, true, true, true, true, false] rfl rfl (any_of HT_.out (by kernel_rfl)) (fun _ _ _ h => h) (Or.inl ⟨by rfl, ?_⟩) ?_ ?_
            rotate_left
            · intro w'
              go_simp
              with_reducible rfl
            rotate_left
            · simp only [Act.put, List.setIfInBounds_toArray, List.set_cons_zero, List.set_cons_succ, i64_w, i32_w]
              rfl
            refine pure_ (i := 12) (N := some 6) (v := ?_) (a' := ?_) #[true, true, true, true, true, true, true, true, true, true, true, true, true] rfl rfl (any_of HT_.out (by kernel_rfl)) (fun _ _ _ h => h) (Or.inl ⟨by rfl, ?_⟩) ?_ ?_
            rotate_left
            · intro w'
              go_simp
              with_reducible rfl
            rotate_left
            · simp only [Act.put, List.setIfInBounds_toArray, List.set_cons_zero, List.set_cons_succ, i64_w, i32_w]
              rfl
            refine done_ (done_of HT_.out (by kernel_rfl)) ?_
            obtain ⟨wq, rfl⟩ : ∃ wq : World, wq = w9 := ⟨_, rfl⟩
            have HBQ := HB9
            have HIQ := Aside0.mk ((HI5.out.drew).below HBQ.out)
            have HWQ := Aside0.mk ((below_drew1 HBW.out).trans (HBQ.out.mono HBW.out.size))
            have HSQ := Aside0.mk (Scr.below (W := w4.drew) (Kd.N_drew HS5.out) HBQ.out)
            have hdq : wq.cell? ⟨wr.heap.size, 2, none⟩ = some (.string x.f2) := (HBQ.out.cell (p := ⟨wr.heap.size, 2, none⟩) hblt).trans hcx2
            have hbq : wq.heap[wr.heap.size]? = some (.cells #[.int .i64 x.f0, .int .i64 x.f1, .string x.f2, .slice A3 x.f3.length c3] 29 (0, 0)) := (HBQ.out.block _ hblt).trans HBX.out
            have HBQX := Aside0.mk hbq
            clear hbq
            go_wp2_with (first
              | (go_at_call 17; refine (HEN.out _ HIQ.out HWQ.out).mono ?_; rintro e wa ⟨rfl, hia, hba, hka⟩; have HIA := Aside0.mk hia; have HBA := Aside0.mk hba; have HKA := Aside0.mk hka; have hda : wa.cell? ⟨wr.heap.size, 2, none⟩ = some (.string x.f2) := (blk_cell (Ko.blkc hka HBQX.out (by decide)) 2).trans rfl; clear hia hba hka)
              | (go_at_call 17; refine (HEN2.out _ HIA.out HBA.out).mono ?_; rintro e wb ⟨rfl, hib, hbb, hkb⟩))
            go_meet
            case rel => exact ⟨⟨row2⟩, ⟨HNOW.out.mono (by omega)⟩, ⟨hib⟩, ⟨hbb⟩, ⟨HSQ.out.keep HWQ.out hbb (HKA.out.trans hkb)⟩⟩
        · go_wp2
          go_meet
          case rel => exact ⟨s, ⟨HIN.out.mono (by omega)⟩, HI5, HBW, HS5⟩
        · go_wp2
          go_meet
          case rel => exact ⟨s, ⟨HIN.out.mono (by omega)⟩, HI5, HBW, HS5⟩
      case rest =>
        clear HIN HI5 HBW HS5 HI HB HS HBX hcx1 hcx2 HB5 HKD HC3 HI3 HB3 HS3
        obtain ⟨s', HIN, HI, HB, HS⟩ := hcut
        have HWA := Aside0.mk (fun W (h : IsS66 w W g s') => waits_raw (by have := HIN.out.2.1; omega) h)
        have HUN := Aside0.mk (fun W (h : IsS66 w W g s') => under_raw (by have := HIN.out.2.1; omega) h)
        have HW16 : Aside0 ((namesOf s'.row false).length ≤ 16) := ⟨HIN.out.2.2⟩
        have HNW := Aside0.mk (names_nodup HIN.out false)
        have HNU := Aside0.mk (names_nodup HIN.out true)
        have HAP := Aside0.mk (names_apart HIN.out)
        generalize namesOf s'.row false = wl at HWA HW16 HNW HAP
        generalize namesOf s'.row true = ul at HUN HNU HAP
        go_wp2_with (first
          | (go_at_call 15; refine (HWA.out _ HI.out).mono ?_; rintro e w7 ⟨v7, rfl, hR7, hb7⟩; have HR7 := Aside0.mk hR7; have HB7 := Aside0.mk hb7; clear hR7 hb7)
          | (go_at_call 16; refine (HUN.out _ (HI.out.below HB7.out)).mono ?_; rintro e w8 ⟨v8, rfl, hR8, hb8⟩; have HR8 := Aside0.mk hR8; have HB8 := Aside0.mk (below_step HB7.out hb8); have HR78 := Aside0.mk (Kd.R_below HR7.out hb8); obtain ⟨A7, n7, rfl⟩ := Kd.R_slice HR78.out; obtain ⟨A8, n8, rfl⟩ := Kd.R_slice HR8.out; clear hR8 hb8))
        have hwl : wl.length ≤ 9223372036854775807 := (Kd.R_reads' HR78.out).2.2.2.1
        have hul : ul.length ≤ 9223372036854775807 := (Kd.R_reads' HR8.out).2.2.2.1
        go_loopw [9] (fun v9 wj => ∃ j : Nat, j ≤ wl.length ∧ v9 = .int .i64 j ∧ Aside0 (Below w8.heap.size w8 wj)) (fun v9 _ => wl.length - (intOf v9).toNat)
        case atStart => exact ⟨0, Nat.zero_le _, rfl, ⟨Below.refl _ _⟩⟩
        case round =>
          obtain ⟨j, hj, rfl, HBJ⟩ := hrel
          by_cases hjl : j < wl.length
          · obtain ⟨b7, n7', he7, _, hb7l, cs7, hcs7⟩ := Kd.R_form HR78.out (by omega)
            injection he7 with e1 e2 e3
            subst e1; subst e3
            obtain ⟨hc70, _⟩ := Kd.R_cell ByteArray.empty HR78.out (j : Int) (by omega) (by omega)
            rw [Int.toNat_natCast] at hc70
            obtain ⟨nm, hnm⟩ : ∃ nm, nm = rdOf ByteArray.empty wl (j : Int) := ⟨_, rfl⟩
            rw [← hnm] at hc70
            have hnm2 : wl[j] = nm := by rw [hnm]; simp [rdOf, List.getD, hjl]
            have hcj := (HBJ.out.cell (p := ⟨b7, j, none⟩) hb7l).trans hc70
            have hf1 : hasB nm ul = false := hasB_no _ _ (HAP.out nm (by rw [← hnm2]; exact List.getElem_mem hjl))
            have hf2 : hasB nm (wl.take j) = false := by rw [← hnm2]; exact nodup_take HNW.out j hjl
            have HU := Aside0.mk (fun W (hb : Below w8.heap.size w8 W) => has_raw nm ul A8 n8 W (Kd.C_below (Kd.R_reads' HR8.out).2.2 hb) (Kd.R_reads' HR8.out).2.1)
            rw [hf1] at HU
            have htl : (wl.take j).length = j := by simp; omega
            have HWT := Aside0.mk (fun W (hb : Below w8.heap.size w8 W) => has_raw nm (wl.take j) (some ⟨b7, 0, none⟩) n7 W (by
              have := Kd.C_below (Kd.R_reads' (Kd.R_take HR78.out (m := j) (by omega))).2.2 hb
              exact this) (by have := (Kd.R_reads' HR78.out).2.1; omega))
            rw [hf2, htl] at HWT
            have h0j : (0 : Int) ≤ (j : Int) := by omega
            have hjl2 : (j : Int) < (wl.length : Int) := by omega
            have hjl3 : (j : Int) ≤ (wl.length : Int) := by omega
            have hjn : (j : Int) ≤ (n7 : Int) := by have := (Kd.R_reads' HR78.out).2.1; omega
            have hwn : (wl.length : Int) ≤ (n7 : Int) := by have := (Kd.R_reads' HR78.out).2.1; omega
            have hjn2 : j ≤ n7 := by omega
            clear hf1 hf2 hnm hnm2
            go_wp2_with fail
            refine start_ (n := 16) (S := fun w' => w'.cell? ⟨b7, j, none⟩ = some (.string nm) ∧ True) (ds := []) #[false, false, false, false, false, false, false, false, false, false, false, false, false, false, false, false] (by kernel_rfl) rfl rfl ⟨hcj, trivial⟩ (fun hHeld => ?_); refine with_tab once.tab22 (fun HT_ => ?_)
            refine pure_ (i := 0) (N := some 78) (v := ?_) (a' := ?_) #[true, false, false, false, false, false, false, false, false, false, false, false, false, false, false, false] rfl rfl (any_of HT_.out (by kernel_rfl)) (fun _ _ _ h => h) (Or.inl ⟨by rfl, ?_⟩) ?_ ?_
            rotate_left
            · intro w'
              go_simp
              with_reducible rfl
            rotate_left
            · simp only [Act.put, List.setIfInBounds_toArray, List.set_cons_zero, List.set_cons_succ, i64_w, i32_w]
              rfl
            refine pure_ (i := 1) (N := some 79) (v := ?_) (a' := ?_) #[true, true, false, false, false, false, false, false, false, false, false, false, false, false, false, false] rfl rfl (any_of HT_.out (by kernel_rfl)) (fun _ _ _ h => h) (Or.inl ⟨by rfl, ?_⟩) ?_ ?_
            rotate_left
            · intro w'
              go_simp
              with_reducible rfl
            rotate_left
            · simp only [Act.put, List.setIfInBounds_toArray, List.set_cons_zero, List.set_cons_succ, i64_w, i32_w]
              rfl
            refine pure_ (i := 2) (N := some 80) (v := ?_) (a' := ?_) #[true, true, true, false, false, false, false, false, false, false, false, false, false, false, false, false] rfl rfl (any_of HT_.out (by kernel_rfl)) (fun _ _ _ h => h) (Or.inl ⟨by rfl, ?_⟩) ?_ ?_
            rotate_left
            · intro w'
              go_simp
              with_reducible rfl
            rotate_left
            · simp only [Act.put, List.setIfInBounds_toArray, List.set_cons_zero, List.set_cons_succ, i64_w, i32_w]
              rfl
            refine pure_ (i := 3) (N := some 81) (v := ?_) (a' := ?_) #[true, true, true, true, false, false, false, false, false, false, false, false, false, false, false, false] rfl rfl (any_of HT_.out (by kernel_rfl)) (fun _ _ _ h => h) (Or.inl ⟨by rfl, ?_⟩) ?_ ?_
            rotate_left
            · intro w'
              go_simp
              with_reducible rfl
            rotate_left
            · simp only [Act.put, List.setIfInBounds_toArray, List.set_cons_zero, List.set_cons_succ, i64_w, i32_w]
              rfl
            refine take_ (i := 4) (N := some 82) (v := ?_) (a' := ?_) #[true, true, true, true, true, false, false, false, false, false, false, false, false, false, false, false] rfl rfl (take_of HT_.out (by kernel_rfl)) (fun _ _ _ h => h) (Or.inl ⟨by rfl, ?_⟩) hHeld ?_ ?_
            rotate_left
            · intro w' hS_
              obtain ⟨s0, s1⟩ := hS_
              go_simp
              with_reducible rfl
            rotate_left
            · simp only [Act.put, List.setIfInBounds_toArray, List.set_cons_zero, List.set_cons_succ, i64_w, i32_w]
              rfl
            refine one_ (i := 5) (N := some 83) #[true, true, true, true, true, true, false, false, false, false, false, false, false, false, false, false] rfl rfl (one_of HT_.out (by kernel_rfl)) (by decide) (fun K hK => ?_)
            refine goes_ Try.func14 (by kernel_rfl) rfl #[.slice A8 ul.length n8, .string nm] (by rfl) rfl rfl (by (try simp only [List.map_toArray, List.map_cons, List.map_nil]); first | done | rfl) ?_
            refine (HU.out _ (below_drew1 HBJ.out)).mono ?_
            rintro e w12 ⟨rfl, hb12⟩
            have HBK := Aside0.mk (below_step (below_drew1 HBJ.out) (Drawn0.below hb12))
            have hd12 : w12.cell? ⟨b7, j, none⟩ = some (.string nm) := (HBK.out.cell (p := ⟨b7, j, none⟩) hb7l).trans hc70
            clear hb12
            refine ⟨_, rfl, ?_⟩
            refine hK.out _ _ ⟨hd12, trivial⟩ (fun hHeld => ?_)
            clear hK K
            refine norm_ (a' := ?_) ?_ ?_
            rotate_left
            · show Act.put _ (some 83) _ = _
              simp only [Act.put, List.setIfInBounds_toArray, List.set_cons_zero, List.set_cons_succ, i64_w, i32_w]
              rfl
            refine pure_ (i := 6) (N := some 84) (v := ?_) (a' := ?_) #[true, true, true, true, true, true, true, false, false, false, false, false, false, false, false, false] rfl rfl (any_of HT_.out (by kernel_rfl)) (fun _ _ _ h => h) (Or.inl ⟨by rfl, ?_⟩) ?_ ?_
            rotate_left
            · intro w'
              go_simp
              with_reducible rfl
            rotate_left
            · simp only [Act.put, List.setIfInBounds_toArray, List.set_cons_zero, List.set_cons_succ, i64_w, i32_w]
              rfl
            refine pure_ (i := 7) (N := some 85) (v := ?_) (a' := ?_) #[true, true, true, true, true, true, true, true, false, false, false, false, false, false, false, false] rfl rfl (any_of HT_.out (by kernel_rfl)) (fun _ _ _ h => h) (Or.inl ⟨by rfl, ?_⟩) ?_ ?_
            rotate_left
            · intro w'
              go_simp
              with_reducible rfl
            rotate_left
            · simp only [Act.put, List.setIfInBounds_toArray, List.set_cons_zero, List.set_cons_succ, i64_w, i32_w]
              rfl
            refine pure_ (i := 8) (N := some 86) (v := ?_) (a' := ?_) #[true, true, true, true, true, true, true, true, true, false, false, false, false, false, false, false] rfl rfl (any_of HT_.out (by kernel_rfl)) (fun _ _ _ h => h) (Or.inl ⟨by rfl, ?_⟩) ?_ ?_
            rotate_left
            · intro w'
              go_simp
              with_reducible rfl
            rotate_left
            · simp only [Act.put, List.setIfInBounds_toArray, List.set_cons_zero, List.set_cons_succ, i64_w, i32_w]
              rfl
            refine pure_ (i := 9) (N := some 87) (v := ?_) (a' := ?_) #[true, true, true, true, true, true, true, true, true, true, false, false, false, false, false, false] rfl rfl (any_of HT_.out (by kernel_rfl)) (fun _ _ _ h => h) (Or.inl ⟨by rfl, ?_⟩) ?_ ?_
            rotate_left
            · intro w'
              go_simp
              with_reducible rfl
            rotate_left
            · simp only [Act.put, List.setIfInBounds_toArray, List.set_cons_zero, List.set_cons_succ, i64_w, i32_w]
              rfl
            refine pure_ (i := 10) (N := some 88) (v := ?_) (a' := ?_) #[true, true, true, true, true, true, true, true, true, true, true, false, false, false, false, false] rfl rfl (any_of HT_.out (by kernel_rfl)) (fun _ _ _ h => h) (Or.inl ⟨by rfl, ?_⟩) ?_ ?_
            rotate_left
            · intro w'
              go_simp
              with_reducible rfl
            rotate_left
            · simp only [Act.put, List.setIfInBounds_toArray, List.set_cons_zero, List.set_cons_succ, i64_w, i32_w]
              rfl
            refine pure_ (i := 11) (N := some 89) (v := ?_) (a' := ?_) #[true, true, true, true, true, true, true, true, true, true, true, true, false, false, false, false] rfl rfl (any_of HT_.out (by kernel_rfl)) (fun _ _ _ h => h) (Or.inl ⟨by rfl, ?_⟩) ?_ ?_
            rotate_left
            · intro w'
              go_simp
              with_reducible rfl
            rotate_left
            · simp only [Act.put, List.setIfInBounds_toArray, List.set_cons_zero, List.set_cons_succ, i64_w, i32_w]
              rfl
            refine pure_ (i := 12) (N := some 90) (v := ?_) (a' := ?_) #[true, true, true, true, true, true, true, true, true, true, true, true, true, false, false, false] rfl rfl (any_of HT_.out (by kernel_rfl)) (fun _ _ _ h => h) (Or.inl ⟨by rfl, ?_⟩) ?_ ?_
            rotate_left
            · intro w'
              go_simp
              with_reducible rfl
            rotate_left
            · simp only [Act.put, List.setIfInBounds_toArray, List.set_cons_zero, List.set_cons_succ, i64_w, i32_w]
              rfl
            refine take_ (i := 13) (N := some 91) (v := ?_) (a' := ?_) #[true, true, true, true, true, true, true, true, true, true, true, true, true, true, false, false] rfl rfl (take_of HT_.out (by kernel_rfl)) (fun _ _ _ h => h) (Or.inl ⟨by rfl, ?_⟩) hHeld ?_ ?_
            rotate_left
            · intro w' hS_
              obtain ⟨s0, s1⟩ := hS_
              go_simp
              with_reducible rfl
            rotate_left
            · simp only [Act.put, List.setIfInBounds_toArray, List.set_cons_zero, List.set_cons_succ, i64_w, i32_w]
              rfl
            refine one_ (i := 14) (N := some 92) #[true, true, true, true, true, true, true, true, true, true, true, true, true, true, true, false] rfl rfl (one_of HT_.out (by kernel_rfl)) (by decide) (fun K hK => ?_)
            refine goes_ Try.func14 (by kernel_rfl) rfl #[.slice (some ⟨b7, 0, none⟩) j n7, .string nm] (by rfl) rfl rfl (by (try simp only [List.map_toArray, List.map_cons, List.map_nil]); first | done | rfl) ?_
            refine (HWT.out _ HBK.out).mono ?_
            rintro e w13 ⟨rfl, hb13⟩
            have HBL := Aside0.mk (below_step HBK.out (Drawn0.below hb13))
            have hd13 : w13.cell? ⟨b7, j, none⟩ = some (.string nm) := (HBL.out.cell (p := ⟨b7, j, none⟩) hb7l).trans hc70
            clear hb13
            refine ⟨_, rfl, ?_⟩
            refine hK.out _ _ ⟨hd13, trivial⟩ (fun hHeld => ?_)
            clear hK K
            refine norm_ (a' := ?_) ?_ ?_
            rotate_left
            · show Act.put _ (some 92) _ = _
              simp only [Act.put, List.setIfInBounds_toArray, List.set_cons_zero, List.set_cons_succ, i64_w, i32_w]
              rfl
            refine pure_ (i := 15) (N := some 93) (v := ?_) (a' := ?_) #[true, true, true, true, true, true, true, true, true, true, true, true, true, true, true, true] rfl rfl (any_of HT_.out (by kernel_rfl)) (fun _ _ _ h => h) (Or.inl ⟨by rfl, ?_⟩) ?_ ?_
            rotate_left
            · intro w'
              go_simp
              with_reducible rfl
            rotate_left
            · simp only [Act.put, List.setIfInBounds_toArray, List.set_cons_zero, List.set_cons_succ, i64_w, i32_w]
              rfl
            refine done_ (done_of HT_.out (by kernel_rfl)) ?_
            go_wp2
            go_roundw
            case measure => simp [intOf]; omega
            case rel => exact ⟨j + 1, by omega, by rw [show ((j : Int) + 1) = ((j + 1 : Nat) : Int) by omega], HBL⟩
          · have hje : j = wl.length := by omega
            subst hje
            go_wp2
            go_loopw [10] (fun v10 wj2 => ∃ j : Nat, j ≤ ul.length ∧ v10 = .int .i64 j ∧ Aside0 (Below w8.heap.size w8 wj2)) (fun v10 _ => ul.length - (intOf v10).toNat)
            case atStart => exact ⟨0, Nat.zero_le _, rfl, HBJ⟩
            case round =>
              clear HBJ hj hjl
              obtain ⟨j, hj, rfl, HBJ⟩ := hrel
              by_cases hjl : j < ul.length
              · obtain ⟨b8, n8', he8, _, hb8l, cs8, hcs8⟩ := Kd.R_form HR8.out (by omega)
                injection he8 with e1 e2 e3
                subst e1; subst e3
                obtain ⟨hc80, _⟩ := Kd.R_cell ByteArray.empty HR8.out (j : Int) (by omega) (by omega)
                rw [Int.toNat_natCast] at hc80
                obtain ⟨nm, hnm⟩ : ∃ nm, nm = rdOf ByteArray.empty ul (j : Int) := ⟨_, rfl⟩
                rw [← hnm] at hc80
                have hnm2 : ul[j] = nm := by rw [hnm]; simp [rdOf, List.getD, hjl]
                have hcj := (HBJ.out.cell (p := ⟨b8, j, none⟩) hb8l).trans hc80
                have hf2 : hasB nm (ul.take j) = false := by rw [← hnm2]; exact nodup_take HNU.out j hjl
                have htl : (ul.take j).length = j := by simp; omega
                have HUT := Aside0.mk (fun W (hb : Below w8.heap.size w8 W) => has_raw nm (ul.take j) (some ⟨b8, 0, none⟩) n8 W (by
                  have := Kd.C_below (Kd.R_reads' (Kd.R_take HR8.out (m := j) (by omega))).2.2 hb
                  exact this) (by have := (Kd.R_reads' HR8.out).2.1; omega))
                rw [hf2, htl] at HUT
                have h0j : (0 : Int) ≤ (j : Int) := by omega
                have hjl2 : (j : Int) < (ul.length : Int) := by omega
                have hjl3 : (j : Int) ≤ (ul.length : Int) := by omega
                have hjn : (j : Int) ≤ (n8 : Int) := by have := (Kd.R_reads' HR8.out).2.1; omega
                have hwn : (ul.length : Int) ≤ (n8 : Int) := by have := (Kd.R_reads' HR8.out).2.1; omega
                have hjn2 : j ≤ n8 := by omega
                clear hf2 hnm hnm2
                go_wp2_with fail
                refine start_ (n := 8) (S := fun w' => w'.cell? ⟨b8, j, none⟩ = some (.string nm) ∧ True) (ds := []) #[false, false, false, false, false, false, false, false] (by kernel_rfl) rfl rfl ⟨hcj, trivial⟩ (fun hHeld => ?_); refine with_tab once.tab27 (fun HT_ => ?_)
                refine pure_ (i := 0) (N := some 100) (v := ?_) (a' := ?_) #[true, false, false, false, false, false, false, false] rfl rfl (any_of HT_.out (by kernel_rfl)) (fun _ _ _ h => h) (Or.inl ⟨by rfl, ?_⟩) ?_ ?_
                rotate_left
                · intro w'
                  go_simp
                  with_reducible rfl
                rotate_left
                · simp only [Act.put, List.setIfInBounds_toArray, List.set_cons_zero, List.set_cons_succ, i64_w, i32_w]
                  rfl
                refine pure_ (i := 1) (N := some 101) (v := ?_) (a' := ?_) #[true, true, false, false, false, false, false, false] rfl rfl (any_of HT_.out (by kernel_rfl)) (fun _ _ _ h => h) (Or.inl ⟨by rfl, ?_⟩) ?_ ?_
                rotate_left
                · intro w'
                  go_simp
                  with_reducible rfl
                rotate_left
                · simp only [Act.put, List.setIfInBounds_toArray, List.set_cons_zero, List.set_cons_succ, i64_w, i32_w]
                  rfl
                refine pure_ (i := 2) (N := some 102) (v := ?_) (a' := ?_) #[true, true, true, false, false, false, false, false] rfl rfl (any_of HT_.out (by kernel_rfl)) (fun _ _ _ h => h) (Or.inl ⟨by rfl, ?_⟩) ?_ ?_
                rotate_left
                · intro w'
                  go_simp
                  with_reducible rfl
                rotate_left
                · simp only [Act.put, List.setIfInBounds_toArray, List.set_cons_zero, List.set_cons_succ, i64_w, i32_w]
                  rfl
                refine pure_ (i := 3) (N := some 103) (v := ?_) (a' := ?_) #[true, true, true, true, false, false, false, false] rfl rfl (any_of HT_.out (by kernel_rfl)) (fun _ _ _ h => h) (Or.inl ⟨by rfl, ?_⟩) ?_ ?_
                rotate_left
                · intro w'
                  go_simp
                  with_reducible rfl
                rotate_left
                · simp only [Act.put, List.setIfInBounds_toArray, List.set_cons_zero, List.set_cons_succ, i64_w, i32_w]
                  rfl
                refine pure_ (i := 4) (N := some 104) (v := ?_) (a' := ?_) #[true, true, true, true, true, false, false, false] rfl rfl (any_of HT_.out (by kernel_rfl)) (fun _ _ _ h => h) (Or.inl ⟨by rfl, ?_⟩) ?_ ?_
                rotate_left
                · intro w'
                  go_simp
                  with_reducible rfl
                rotate_left
                · simp only [Act.put, List.setIfInBounds_toArray, List.set_cons_zero, List.set_cons_succ, i64_w, i32_w]
                  rfl
                refine pure_ (i := 5) (N := some 105) (v := ?_) (a' := ?_) #[true, true, true, true, true, true, false, false] rfl rfl (any_of HT_.out (by kernel_rfl)) (fun _ _ _ h => h) (Or.inl ⟨by rfl, ?_⟩) ?_ ?_
                rotate_left
                · intro w'
                  go_simp
                  with_reducible rfl
                rotate_left
                · simp only [Act.put, List.setIfInBounds_toArray, List.set_cons_zero, List.set_cons_succ, i64_w, i32_w]
                  rfl
                refine take_ (i := 6) (N := some 106) (v := ?_) (a' := ?_) #[true, true, true, true, true, true, true, false] rfl rfl (take_of HT_.out (by kernel_rfl)) (fun _ _ _ h => h) (Or.inl ⟨by rfl, ?_⟩) hHeld ?_ ?_
                rotate_left
                · intro w' hS_
                  obtain ⟨s0, s1⟩ := hS_
                  go_simp
                  with_reducible rfl
                rotate_left
                · simp only [Act.put, List.setIfInBounds_toArray, List.set_cons_zero, List.set_cons_succ, i64_w, i32_w]
                  rfl
                refine one_ (i := 7) (N := some 107) #[true, true, true, true, true, true, true, true] rfl rfl (one_of HT_.out (by kernel_rfl)) (by decide) (fun K hK => ?_)
                refine goes_ Try.func14 (by kernel_rfl) rfl #[.slice (some ⟨b8, 0, none⟩) j n8, .string nm] (by rfl) rfl rfl (by (try simp only [List.map_toArray, List.map_cons, List.map_nil]); first | done | rfl) ?_
                refine (HUT.out _ (below_drew1 HBJ.out)).mono ?_
                rintro e w13 ⟨rfl, hb13⟩
                have HBL := Aside0.mk (below_step (below_drew1 HBJ.out) (Drawn0.below hb13))
                have hd13 : w13.cell? ⟨b8, j, none⟩ = some (.string nm) := (HBL.out.cell (p := ⟨b8, j, none⟩) hb8l).trans hc80
                clear hb13
                refine ⟨_, rfl, ?_⟩
                refine hK.out _ _ ⟨hd13, trivial⟩ (fun hHeld => ?_)
                clear hK K
                refine norm_ (a' := ?_) ?_ ?_
                rotate_left
                · show Act.put _ (some 107) _ = _
                  simp only [Act.put, List.setIfInBounds_toArray, List.set_cons_zero, List.set_cons_succ, i64_w, i32_w]
                  rfl
                refine done_ (done_of HT_.out (by kernel_rfl)) ?_
                go_wp2
                go_roundw
                case measure => simp [intOf]; omega
                case rel => exact ⟨j + 1, by omega, by rw [show ((j : Int) + 1) = ((j + 1 : Nat) : Int) by omega], HBL⟩
              · have hje : j = ul.length := by omega
                subst hje
                have hb9 := below_step HB8.out HBJ.out
                have HFI := Aside0.mk (HI.out.below hb9)
                have HFB := Aside0.mk (HB.out.trans (hb9.mono HB.out.size))
                have HFS := Aside0.mk (HS.out.below hb9)
                have h16 := HW16.out
                have h16b : decide ((wl.length : Int) > 16) = false := decide_eq_false (by omega)
                have h16c : decide ((16 : Int) < (wl.length : Int)) = false := decide_eq_false (by omega)
                have h16d : decide (16 < wl.length) = false := decide_eq_false (by omega)
                clear hb9
                go_wp2
                go_roundw
                case measure => simp [intOf]; omega
                case rel => exact ⟨k + 1, s', by omega, by rw [show ((k : Int) + 1) = ((k + 1 : Nat) : Int) by omega], HIN, HFI, HFB, HFS⟩
    · have hke : k = es.length := by omega
      subst hke
      clear hk hlt
      go_wp2
      go_ret
      exact ⟨rfl, HB.out⟩
theorem once_law (A : Option Addr) (n : Nat) (l0 : List S29) (w : World) (hr0 : Kd.C k29 w A l0.length l0) (hc0 : l0.length ≤ n) :
    Calls Try.prog 3 #[.slice A l0.length n] w fun e w' => e = .returned (.bool true) ∧ Below w.heap.size w w' :=
  once_calls A n l0 w (Kd.V_mk hc0 (Kd.C_F (Kd.heap_iso _ (Kd.heap_pair (Kd.heap_int _) (Kd.heap_pair (Kd.heap_int _) (Kd.heap_pair Kd.heap_string (Kd.heap_slice _ Kd.heap_string))))) hr0))
end Go.Proofs.Ytmkijdkfogebjaa.Man
