/-
  Contracts of the drains' Ask and Begin. Conditions: none.
-/
import Derived.Test.YtmkijdkfogebjaaDe
import Derived.Test.YtmkijdkfogebjaaPAx1
set_option linter.unusedVariables false
set_option linter.unusedSimpArgs false
namespace Go.Proofs.Ytmkijdkfogebjaa.Man
open Go.RowKit Go.Proofs.YtmkijdkfogebjaaW.PrintWords Go.Proofs.YtmkijdkfogebjaaW.PrintLast Go.Proofs.YtmkijdkfogebjaaW.PrintMore Go.Proofs.Ytmkijdkfogebjaa.PA Go.Proofs.Ytmkijdkfogebjaa.PB Go.Proofs.Ytmkijdkfogebjaa.PF Go.Proofs.Ytmkijdkfogebjaa.Hid Go.Proofs.Ytmkijdkfogebjaa.Na
variable {w0 w : World} {g : Nat} {s : DS}
def drains_Drains_Ask.f (s : DS) (nm : ByteArray) : Option (Int × DS) :=
  if s.row.length ≤ 1000 then (if nameB nm = true then (if placeOf s.row nm 0 < 0 then (if (namesOf s.row false).length < 16 then some (0, ⟨s.row ++ [⟨nm, 0, false⟩]⟩) else some (7, s)) else some (6, s)) else some (11, s)) else none
set_option maxHeartbeats 1000000 in
theorem ask_bad (nm : ByteArray) (hI : IsS66 w0 w g s) (hn : nameB nm = false) : Calls Try.prog 12 #[.pointer (some ⟨g, 0, none⟩), .string nm] w fun e w' => e = .returned (.int .i64 11) ∧ Below w.heap.size w w' := by
  have HN := Aside0.mk (fun W => name_raw nm W)
  rw [hn] at HN
  clear hI hn
  go_enter Try.func12, Try.ntmps12
  go_wp2_with (go_at_call 32; refine (HN.out _).mono ?_; rintro e w' ⟨rfl, hb⟩)
  go_ret
  exact ⟨rfl, hb⟩
set_option maxHeartbeats 1000000 in
theorem ask_there (nm : ByteArray) (hI : IsS66 w0 w g s) (hn : nameB nm = true) (hp : ¬ placeOf s.row nm 0 < 0) : Calls Try.prog 12 #[.pointer (some ⟨g, 0, none⟩), .string nm] w fun e w' => e = .returned (.int .i64 6) ∧ Below w.heap.size w w' := by
  have HN := Aside0.mk (fun W => name_raw nm W)
  have HI := Aside0.mk hI
  have HP := Aside0.mk (fun W (h : IsS66 w0 W g s) => place_raw nm h)
  rw [hn] at HN
  generalize placeOf s.row nm 0 = i at hp HP
  clear hI hn
  have hp2 : decide (0 ≤ i) = true := decide_eq_true (by omega)
  go_enter Try.func12, Try.ntmps12
  go_wp2_with (first
    | (go_at_call 32; refine (HN.out _).mono ?_; rintro e w1 ⟨rfl, hb1⟩; have HB1 := Aside0.mk hb1; clear hb1)
    | (go_at_call 33; refine (HP.out _ (HI.out.below HB1.out)).mono ?_; rintro e w2 ⟨rfl, hb2⟩))
  go_ret
  exact ⟨rfl, below_step HB1.out hb2⟩
set_option maxHeartbeats 1000000 in
theorem ask_full (nm : ByteArray) (hI : IsS66 w0 w g s) (hn : nameB nm = true) (hp : placeOf s.row nm 0 < 0) (hl : s.row.length ≤ 1000) (hf : ¬ (namesOf s.row false).length < 16) : Calls Try.prog 12 #[.pointer (some ⟨g, 0, none⟩), .string nm] w fun e w' => e = .returned (.int .i64 7) ∧ Below w.heap.size w w' := by
  have HN := Aside0.mk (fun W => name_raw nm W)
  have HI := Aside0.mk hI
  have HP := Aside0.mk (fun W (h : IsS66 w0 W g s) => place_raw nm h)
  have HW := Aside0.mk (fun W (h : IsS66 w0 W g s) => waits_raw (by omega) h)
  rw [hn] at HN
  generalize placeOf s.row nm 0 = i at hp HP
  generalize namesOf s.row false = l at hf HW
  clear hI hn hl
  have hp2 : decide (0 ≤ i) = false := decide_eq_false (by omega)
  have hf2 : decide ((16 : Int) ≤ (l.length : Int)) = true := decide_eq_true (by omega)
  have hf3 : decide (16 ≤ l.length) = true := decide_eq_true (by omega)
  go_enter Try.func12, Try.ntmps12
  go_wp2_with (first
    | (go_at_call 32; refine (HN.out _).mono ?_; rintro e w1 ⟨rfl, hb1⟩; have HB1 := Aside0.mk hb1; clear hb1)
    | (go_at_call 33; refine (HP.out _ (HI.out.below HB1.out)).mono ?_; rintro e w2 ⟨rfl, hb2⟩; have HB2 := Aside0.mk (below_step HB1.out hb2); clear hb2)
    | (go_at_call 15; refine (HW.out _ (HI.out.below HB2.out)).mono ?_; rintro e w3 ⟨v3, rfl, hR3, hb3⟩; have HB3 := Aside0.mk (below_step HB2.out hb3); clear hb3; obtain ⟨A3, n3, rfl⟩ := Kd.R_slice hR3; clear hR3))
  go_ret
  exact ⟨rfl, HB3.out⟩
set_option maxHeartbeats 4000000 in
theorem ask_ok (nm : ByteArray) (hI : IsS66 w0 w g s) (hB : Below w0.heap.size w0 w) (hn : nameB nm = true) (hp : placeOf s.row nm 0 < 0) (hl : s.row.length ≤ 1000) (hf : (namesOf s.row false).length < 16) :
    Calls Try.prog 12 #[.pointer (some ⟨g, 0, none⟩), .string nm] w fun e w' => e = .returned (.int .i64 0) ∧ IsS66 w0 w' g ⟨s.row ++ [⟨nm, 0, false⟩]⟩ ∧ Below w0.heap.size w0 w' ∧ KeptH TD w w' := by
  have HN := Aside0.mk (fun W => name_raw nm W)
  have HI := Aside0.mk hI
  have HB0 := Aside0.mk hB
  have HP := Aside0.mk (fun W (h : IsS66 w0 W g s) => place_raw nm h)
  have HW := Aside0.mk (fun W (h : IsS66 w0 W g s) => waits_raw (by omega) h)
  rw [hn] at HN
  generalize placeOf s.row nm 0 = i at hp HP
  generalize namesOf s.row false = l at hf HW
  clear hI hn hB
  have hp2 : decide (0 ≤ i) = false := decide_eq_false (by omega)
  have hf2 : decide ((16 : Int) ≤ (l.length : Int)) = false := decide_eq_false (by omega)
  have hf3 : decide (16 ≤ l.length) = false := decide_eq_false (by omega)
  go_enter Try.func12, Try.ntmps12
  go_wp2_with (first
    | (go_at_call 32; refine (HN.out _).mono ?_; rintro e w1 ⟨rfl, hb1⟩; have HB1 := Aside0.mk hb1; clear hb1)
    | (go_at_call 33; refine (HP.out _ (HI.out.below HB1.out)).mono ?_; rintro e w2 ⟨rfl, hb2⟩; have HB2 := Aside0.mk (below_step HB1.out hb2); clear hb2)
    | (go_at_call 15; refine (HW.out _ (HI.out.below HB2.out)).mono ?_; rintro e w3 ⟨v3, rfl, hR3, hb3⟩; have HB3 := Aside0.mk (below_step HB2.out hb3); clear hb3; obtain ⟨A3, n3, rfl⟩ := Kd.R_slice hR3; clear hR3;
       have HI3 := Aside0.mk (HI.out.below HB3.out); obtain ⟨A, n, hgb, hnn, hC, hR, hg⟩ := HI3.out.open_; have HGB := Aside0.mk hgb; have HR := Aside0.mk hR; have hgl : g < w3.heap.size := blk_lt hgb; have h1 : w3.cell? ⟨g, 0, none⟩ = some (.slice A s.row.length n) := (blk_cell hgb 0).trans rfl; have hf1 : w3.frozen? ⟨g, 0, none⟩ = false := blk_frozen hgb 0; clear hgb hnn hC hR)
    | ((with_reducible refine gate_builtin (b := .append) (xs := #[.tmp 26, .tmp 29]) rfl ?_); (try (refine gate_guard (by rfl) ?_; dsimp only)); at_builtin; refine Kd.R_append k69 (w0 := w0) w0.heap.size rfl (.tmp 26) (.tmp 29) 64 69 (.agg #[(.string ⟨#[]⟩), (.int .i64 0), (.bool false)]) 32 rfl Try.underlying64 info69 rfl (by decide) (by omega) (.slice A s.row.length n) s.row ⟨nm, 0, false⟩ [.string nm, .int .i64 0, .bool false] (fun _ => True) (fun _ => False) rfl ?aX ?aP (fun _ h => h.elim) (fun _ _ => trivial) ?aO ?aB ?aS ?aL ?_; (case aX => (show Value.slice (some ⟨w3.heap.size, 0, none⟩) 1 1 = _; simp)); (case aP => exact k69_mkM _ _ _ _); (case aO => exact HR.out); (case aB => exact HB0.out.trans (HB3.out.mono HB0.out.size)); (case aS => exact (HB0.out.trans (HB3.out.mono HB0.out.size)).size); (case aL => have := hl; omega); intro v4 w4 hR4 hb4 hg4 hat4; obtain ⟨b4, n4, rfl, hbb4, cur4, hcur4⟩ := R_some hR4 (by simp);
       have HGN : some g ≠ (Value.slice A s.row.length n).ownBlock := Kd.R_ne HR.out HGB.out (by decide); obtain ⟨h41, hf41, hg4l⟩ := keep_grown2 hg4 HGN h1 hf1 hgl; have HG4 := Aside0.mk hg4; have HR4 := Aside0.mk hR4; have HB4 := Aside0.mk hb4; have HA4 := Aside0.mk hat4; have HC4 := Aside0.mk hcur4; clear hg4 hR4 hb4 hat4 hcur4))
  have HGN : some g ≠ (Value.slice A s.row.length n).ownBlock := Kd.R_ne HR.out HGB.out (by decide)
  have HGB4 : w4.heap[g]? = some (.cells #[.slice A s.row.length n] 66 (0, 0)) := (HG4.out.block g hgl HGN).trans HGB.out
  have HFIN := Aside0.mk (IsS66.put (w := w) (row := s.row ++ [⟨nm, 0, false⟩]) hg
      ((KeptH.of_below HB3.out).grown HG4.out (fun k h => by
        obtain ⟨cells, hc⟩ := own_typed (Kd.R_own HR.out).choose_spec k h
        exact .inl (.cells hc (by decide)))) HB4.out HGB4 HR4.out)
  rw [show (s.row ++ [(⟨nm, 0, false⟩ : S69)]).length = s.row.length + 1 by simp] at HFIN
  go_ret
  exact ⟨rfl, HFIN.out⟩
/-! #### Begin -/
def drains_Drains_Begin.f (s : DS) (nm : ByteArray) (dl : Int) : Option (Int × DS) :=
  if s.row.length ≤ 1000 then (if nameB nm = true then (if placeOf s.row nm 0 < 0 then some (0, ⟨s.row ++ [⟨nm, mn (mx dl 0) 1099511627776, true⟩]⟩) else if (rd_T69 s.row (placeOf s.row nm 0)).f2 = true then some (6, s) else some (0, ⟨endRow s.row nm ++ [⟨nm, mn (mx dl 0) 1099511627776, true⟩]⟩)) else some (11, s)) else none
set_option maxHeartbeats 1000000 in
theorem begin_bad (nm : ByteArray) (dl : Int) (hI : IsS66 w0 w g s) (hn : nameB nm = false) : Calls Try.prog 13 #[.pointer (some ⟨g, 0, none⟩), .string nm, .int .i64 dl] w fun e w' => e = .returned (.int .i64 11) ∧ Below w.heap.size w w' := by
  have HN := Aside0.mk (fun W => name_raw nm W)
  have HP := Aside0.mk (place_raw nm hI)
  generalize placeOf s.row nm 0 = i at HP
  rw [hn] at HN
  clear hI hn
  go_enter Try.func13, Try.ntmps13
  go_wp2_with (first
    | (go_at_call 33; refine HP.out.mono ?_; rintro e w1 ⟨rfl, hb1⟩; have HB1 := Aside0.mk hb1; clear hb1)
    | (go_at_call 32; refine (HN.out _).mono ?_; rintro e w' ⟨rfl, hb⟩))
  go_ret
  exact ⟨rfl, below_step HB1.out hb⟩
/-- What is read of the drain at a place. -/
theorem read_at {W : World} {P : Nat} (hI : IsS66 w0 W g s) (hP : (P : Int) < (s.row.length : Int)) : ∃ A n, W.cell? ⟨g, 0, none⟩ = some (.slice A s.row.length n) ∧
    ∃ ad, A = some ad ∧ W.cell? ⟨(ad.add (P * 3)).block, (ad.add (P * 3)).off + 2, none⟩ = some (.bool (rd_T69 s.row (P : Int)).f2) := by
  obtain ⟨A, n, hbk, hn, hC, hR, hg⟩ := hI.open_
  obtain ⟨ad, hA, hx0, hx1, hx2⟩ := at_T69 hC (P : Int) (by omega) hP
  rw [Int.toNat_natCast] at hx2
  exact ⟨A, n, (blk_cell hbk 0).trans rfl, ad, hA, hx2⟩
set_option maxHeartbeats 1000000 in
theorem begin_there (nm : ByteArray) (dl : Int) (hI : IsS66 w0 w g s) (hn : nameB nm = true) (hp : ¬ placeOf s.row nm 0 < 0) (hu : (rd_T69 s.row (placeOf s.row nm 0)).f2 = true) : Calls Try.prog 13 #[.pointer (some ⟨g, 0, none⟩), .string nm, .int .i64 dl] w fun e w' => e = .returned (.int .i64 6) ∧ Below w.heap.size w w' := by
  have HN := Aside0.mk (fun W => name_raw nm W)
  have HI := Aside0.mk hI
  have HP := Aside0.mk (place_raw nm hI)
  rw [hn] at HN
  obtain ⟨P, hP⟩ : ∃ P : Nat, placeOf s.row nm 0 = (P : Int) := ⟨(placeOf s.row nm 0).toNat, by omega⟩
  have hPl : (P : Int) < (s.row.length : Int) := by rcases place_bd s.row nm 0 with h | h <;> omega
  have h0P : (0 : Int) ≤ (P : Int) := by omega
  rw [hP] at HP hu
  clear hI hn hP hp
  have HU := Aside0.mk hu
  clear hu
  go_enter Try.func13, Try.ntmps13
  go_wp2_with (first
    | (go_at_call 33; refine HP.out.mono ?_; rintro e w1 ⟨rfl, hb1⟩; have HB1 := Aside0.mk hb1; clear hb1)
    | (go_at_call 32; refine (HN.out _).mono ?_; rintro e w2 ⟨rfl, hb2⟩; have HB2 := Aside0.mk (below_step HB1.out hb2); clear hb2; obtain ⟨A, n, hc1, ad, rfl, hc2⟩ := read_at (P := P) (HI.out.below HB2.out) hPl; rw [HU.out] at hc2))
  go_ret
  exact ⟨rfl, HB2.out⟩
set_option maxHeartbeats 4000000 in
theorem begin_new (nm : ByteArray) (dl : Int) (hI : IsS66 w0 w g s) (hB : Below w0.heap.size w0 w) (hn : nameB nm = true) (hl : s.row.length ≤ 1000) (hp : placeOf s.row nm 0 < 0) :
    Calls Try.prog 13 #[.pointer (some ⟨g, 0, none⟩), .string nm, .int .i64 dl] w fun e w' => e = .returned (.int .i64 0) ∧ IsS66 w0 w' g ⟨endRow s.row nm ++ [⟨nm, mn (mx dl 0) 1099511627776, true⟩]⟩ ∧ Below w0.heap.size w0 w' ∧ KeptH TD w w' := by
  have HN := Aside0.mk (fun W => name_raw nm W)
  have HI := Aside0.mk hI
  have HB0 := Aside0.mk hB
  have HP := Aside0.mk (place_raw nm hI)
  rw [hn] at HN
  obtain ⟨row2, hrow2⟩ : ∃ row2, row2 = endRow s.row nm := ⟨_, rfl⟩
  have hl2 : row2.length ≤ 1000 := by
    rw [hrow2]
    unfold endRow
    by_cases hq : placeOf s.row nm 0 < 0
    · rw [if_pos hq]
      exact hl
    · rw [if_neg hq, List.length_eraseIdx]
      split <;> omega
  have HE := Aside0.mk (fun W (h : IsS66 w0 W g s) (hb : Below w0.heap.size w0 W) => drains_Drains_End.calls g s nm _ ⟨row2⟩ w0 W h hb (by rw [hrow2]; exact if_pos hl))
  rw [← hrow2]
  have HL2 := Aside0.mk hl2
  generalize placeOf s.row nm 0 = i at hp HP HE
  have hp2 : decide (0 ≤ i) = false := decide_eq_false (by omega)
  clear hI hn hB hrow2 hl hl2
  have hcut : sat_Cut.f dl = some (mn (mx dl 0) 1099511627776) := rfl
  have HCUT := Aside0.mk hcut
  clear hcut
  generalize mn (mx dl 0) 1099511627776 = dc at HCUT ⊢
  go_enter Try.func13, Try.ntmps13
  go_wp2_with (first
    | (go_at_call 33; refine HP.out.mono ?_; rintro e w1 ⟨rfl, hb1⟩; have HB1 := Aside0.mk hb1; clear hb1)
    | (go_at_call 32; refine (HN.out _).mono ?_; rintro e w2 ⟨rfl, hb2⟩; have HB2 := Aside0.mk (below_step HB1.out hb2); clear hb2)
    | (go_at_call 17; refine (HE.out _ (HI.out.below HB2.out) (HB0.out.trans (HB2.out.mono HB0.out.size))).mono ?_; rintro e w3 ⟨rfl, hi3, hb3, hk3⟩; have HI3 := Aside0.mk hi3; have HB3 := Aside0.mk hb3; have HK3 := Aside0.mk ((KeptH.of_below HB2.out).trans hk3); clear hi3 hb3 hk3))
  obtain ⟨A3, n3, hgb, hnn, hC, hR, hg⟩ := HI3.out.open_
  have HGB := Aside0.mk hgb
  have HR := Aside0.mk hR
  have hgl : g < w3.heap.size := blk_lt hgb
  have h1 : w3.cell? ⟨g, 0, none⟩ = some (.slice A3 row2.length n3) := (blk_cell hgb 0).trans rfl
  have hf1 : w3.frozen? ⟨g, 0, none⟩ = false := blk_frozen hgb 0
  clear hgb hnn hC hR
  have HGN : Aside0 (∀ (W : World), Kd.R k69 69 W w0.heap.size (fun _ => True) (.slice A3 row2.length n3) row2 → W.heap[g]? = some (.cells #[.slice A3 row2.length n3] 66 (0, 0)) → some g ≠ (Value.slice A3 row2.length n3).ownBlock) := ⟨fun W h hb => Kd.R_ne h hb (by decide)⟩
  go_region_law ((first
      | (go_simp; go_at_call 34; refine (sat_Cut.calls dl _ _ HCUT.out).mono ?_; rintro e w4 ⟨rfl, hb4⟩; obtain ⟨h41, hf41, hg4l⟩ := keep_below2 (W := w3.drew) hb4 h1 hf1 hgl)
      | (refine Kd.R_append_step k69 (w0 := w0) w0.heap.size rfl (.tmp 38) (.tmp 43) 64 69 (.agg #[(.string ⟨#[]⟩), (.int .i64 0), (.bool false)]) 32 rfl Try.underlying64 info69 rfl (by decide) (by omega) (.slice A3 row2.length n3) row2 ⟨nm, dc, true⟩ [.string nm, .int .i64 dc, .bool true] (fun _ => True) (fun _ => False) (by rfl) (by rfl) ?aP (fun _ h => h.elim) (fun _ _ => trivial) ?aO ?aB ?aS ?aL ?_;
         (case aP => exact k69_mkM _ _ _ _); (case aO => exact Kd.R_below (Kd.R_drew HR.out) hb4); (case aB => exact (below_drew1 HB3.out).trans (hb4.mono HB3.out.size)); (case aS => exact Nat.le_trans HB3.out.size hb4.size); (case aL => have := HL2.out; omega); intro v5 w5 hR5 hb5 hg5 hat5; obtain ⟨b5, n5, rfl, hbb5, cur5, hcur5⟩ := R_some hR5 (by simp); obtain ⟨h51, hf51, hg5l⟩ := keep_grown2 hg5 (HGN.out _ HR.out HGB.out) h41 hf41 hg4l)))
  all_goals
    have HGB5 : w5.heap[g]? = some (.cells #[.slice A3 row2.length n3] 66 (0, 0)) := (hg5.block g hg4l (HGN.out _ HR.out HGB.out)).trans ((hb4.block g (blk_lt HGB.out)).trans HGB.out)
    have HFIN := Aside0.mk (IsS66.put (w := w) (row := row2 ++ [⟨nm, dc, true⟩]) hg
        (((HK3.out.drew).below hb4).grown hg5 (fun k h => by
          obtain ⟨cells, hc⟩ := own_typed (Kd.R_own (Kd.R_below (Kd.R_drew HR.out) hb4)).choose_spec k h
          exact .inl (.cells hc (by decide)))) hb5 HGB5 hR5)
    rw [show (row2 ++ [(⟨nm, dc, true⟩ : S69)]).length = row2.length + 1 by simp] at HFIN
    clear HGB5 hR5 hb5 hg5 hat5 hcur5
    go_wp2
    go_ret
    exact ⟨rfl, HFIN.out⟩
set_option maxHeartbeats 4000000 in
theorem begin_again (nm : ByteArray) (dl : Int) (hI : IsS66 w0 w g s) (hB : Below w0.heap.size w0 w) (hn : nameB nm = true) (hl : s.row.length ≤ 1000) (hp : ¬ placeOf s.row nm 0 < 0) (hu : (rd_T69 s.row (placeOf s.row nm 0)).f2 = false) :
    Calls Try.prog 13 #[.pointer (some ⟨g, 0, none⟩), .string nm, .int .i64 dl] w fun e w' => e = .returned (.int .i64 0) ∧ IsS66 w0 w' g ⟨endRow s.row nm ++ [⟨nm, mn (mx dl 0) 1099511627776, true⟩]⟩ ∧ Below w0.heap.size w0 w' ∧ KeptH TD w w' := by
  have HN := Aside0.mk (fun W => name_raw nm W)
  have HI := Aside0.mk hI
  have HB0 := Aside0.mk hB
  have HP := Aside0.mk (place_raw nm hI)
  rw [hn] at HN
  obtain ⟨row2, hrow2⟩ : ∃ row2, row2 = endRow s.row nm := ⟨_, rfl⟩
  have hl2 : row2.length ≤ 1000 := by
    rw [hrow2]
    unfold endRow
    by_cases hq : placeOf s.row nm 0 < 0
    · rw [if_pos hq]
      exact hl
    · rw [if_neg hq, List.length_eraseIdx]
      split <;> omega
  have HE := Aside0.mk (fun W (h : IsS66 w0 W g s) (hb : Below w0.heap.size w0 W) => drains_Drains_End.calls g s nm _ ⟨row2⟩ w0 W h hb (by rw [hrow2]; exact if_pos hl))
  rw [← hrow2]
  have HL2 := Aside0.mk hl2
  obtain ⟨P, hP⟩ : ∃ P : Nat, placeOf s.row nm 0 = (P : Int) := ⟨(placeOf s.row nm 0).toNat, by omega⟩
  have hPl : (P : Int) < (s.row.length : Int) := by rcases place_bd s.row nm 0 with h | h <;> omega
  have h0P : (0 : Int) ≤ (P : Int) := by omega
  rw [hP] at HP hu HE
  have HU := Aside0.mk hu
  clear hu hP hp
  clear hI hn hB hrow2 hl hl2
  have hcut : sat_Cut.f dl = some (mn (mx dl 0) 1099511627776) := rfl
  have HCUT := Aside0.mk hcut
  clear hcut
  generalize mn (mx dl 0) 1099511627776 = dc at HCUT ⊢
  go_enter Try.func13, Try.ntmps13
  go_wp2_with (first
    | (go_at_call 33; refine HP.out.mono ?_; rintro e w1 ⟨rfl, hb1⟩; have HB1 := Aside0.mk hb1; clear hb1)
    | (go_at_call 32; refine (HN.out _).mono ?_; rintro e w2 ⟨rfl, hb2⟩; have HB2 := Aside0.mk (below_step HB1.out hb2); clear hb2; obtain ⟨A, n, hc1, ad, rfl, hc2⟩ := read_at (P := P) (HI.out.below HB2.out) hPl; rw [HU.out] at hc2)
    | (go_at_call 17; refine (HE.out _ (HI.out.below HB2.out) (HB0.out.trans (HB2.out.mono HB0.out.size))).mono ?_; rintro e w3 ⟨rfl, hi3, hb3, hk3⟩; have HI3 := Aside0.mk hi3; have HB3 := Aside0.mk hb3; have HK3 := Aside0.mk ((KeptH.of_below HB2.out).trans hk3); clear hi3 hb3 hk3; clear hc1 hc2))
  obtain ⟨A3, n3, hgb, hnn, hC, hR, hg⟩ := HI3.out.open_
  have HGB := Aside0.mk hgb
  have HR := Aside0.mk hR
  have hgl : g < w3.heap.size := blk_lt hgb
  have h1 : w3.cell? ⟨g, 0, none⟩ = some (.slice A3 row2.length n3) := (blk_cell hgb 0).trans rfl
  have hf1 : w3.frozen? ⟨g, 0, none⟩ = false := blk_frozen hgb 0
  clear hgb hnn hC hR
  have HGN : Aside0 (∀ (W : World), Kd.R k69 69 W w0.heap.size (fun _ => True) (.slice A3 row2.length n3) row2 → W.heap[g]? = some (.cells #[.slice A3 row2.length n3] 66 (0, 0)) → some g ≠ (Value.slice A3 row2.length n3).ownBlock) := ⟨fun W h hb => Kd.R_ne h hb (by decide)⟩
  go_region_law ((first
      | (go_simp; go_at_call 34; refine (sat_Cut.calls dl _ _ HCUT.out).mono ?_; rintro e w4 ⟨rfl, hb4⟩; obtain ⟨h41, hf41, hg4l⟩ := keep_below2 (W := w3.drew) hb4 h1 hf1 hgl)
      | (refine Kd.R_append_step k69 (w0 := w0) w0.heap.size rfl (.tmp 38) (.tmp 43) 64 69 (.agg #[(.string ⟨#[]⟩), (.int .i64 0), (.bool false)]) 32 rfl Try.underlying64 info69 rfl (by decide) (by omega) (.slice A3 row2.length n3) row2 ⟨nm, dc, true⟩ [.string nm, .int .i64 dc, .bool true] (fun _ => True) (fun _ => False) (by rfl) (by rfl) ?aP (fun _ h => h.elim) (fun _ _ => trivial) ?aO ?aB ?aS ?aL ?_;
         (case aP => exact k69_mkM _ _ _ _); (case aO => exact Kd.R_below (Kd.R_drew HR.out) hb4); (case aB => exact (below_drew1 HB3.out).trans (hb4.mono HB3.out.size)); (case aS => exact Nat.le_trans HB3.out.size hb4.size); (case aL => have := HL2.out; omega); intro v5 w5 hR5 hb5 hg5 hat5; obtain ⟨b5, n5, rfl, hbb5, cur5, hcur5⟩ := R_some hR5 (by simp); obtain ⟨h51, hf51, hg5l⟩ := keep_grown2 hg5 (HGN.out _ HR.out HGB.out) h41 hf41 hg4l)))
  all_goals
    have HGB5 : w5.heap[g]? = some (.cells #[.slice A3 row2.length n3] 66 (0, 0)) := (hg5.block g hg4l (HGN.out _ HR.out HGB.out)).trans ((hb4.block g (blk_lt HGB.out)).trans HGB.out)
    have HFIN := Aside0.mk (IsS66.put (w := w) (row := row2 ++ [⟨nm, dc, true⟩]) hg
        (((HK3.out.drew).below hb4).grown hg5 (fun k h => by
          obtain ⟨cells, hc⟩ := own_typed (Kd.R_own (Kd.R_below (Kd.R_drew HR.out) hb4)).choose_spec k h
          exact .inl (.cells hc (by decide)))) hb5 HGB5 hR5)
    rw [show (row2 ++ [(⟨nm, dc, true⟩ : S69)]).length = row2.length + 1 by simp] at HFIN
    clear HGB5 hR5 hb5 hg5 hat5 hcur5
    go_wp2
    go_ret
    exact ⟨rfl, HFIN.out⟩
theorem drains_Drains_Ask.calls (g : Nat) (s : DS) (a1 : ByteArray) (r1 : Int) (s' : DS) (w0 w : World) (hI : IsS66 w0 w g s) (hB : Below w0.heap.size w0 w) (h : drains_Drains_Ask.f s a1 = some (r1, s')) :
    Calls Try.prog 12 #[.pointer (some ⟨g, 0, none⟩), .string a1] w fun e w' => e = .returned (.int .i64 r1) ∧ IsS66 w0 w' g s' ∧ Below w0.heap.size w0 w' ∧ KeptH TD w w' := by
  unfold drains_Drains_Ask.f at h
  by_cases hl : s.row.length ≤ 1000
  · rw [if_pos hl] at h
    by_cases hn : nameB a1 = true
    · rw [if_pos hn] at h
      by_cases hp : placeOf s.row a1 0 < 0
      · rw [if_pos hp] at h
        by_cases hf : (namesOf s.row false).length < 16
        · rw [if_pos hf] at h
          obtain ⟨rfl, rfl⟩ := Prod.mk.inj (Option.some.inj h)
          exact ask_ok a1 hI hB hn hp hl hf
        · rw [if_neg hf] at h
          obtain ⟨rfl, rfl⟩ := Prod.mk.inj (Option.some.inj h)
          refine (ask_full a1 hI hn hp hl hf).mono ?_
          rintro e w' ⟨rfl, hb⟩
          exact ⟨rfl, done_below hI hB hb⟩
      · rw [if_neg hp] at h
        obtain ⟨rfl, rfl⟩ := Prod.mk.inj (Option.some.inj h)
        refine (ask_there a1 hI hn hp).mono ?_
        rintro e w' ⟨rfl, hb⟩
        exact ⟨rfl, done_below hI hB hb⟩
    · rw [if_neg hn] at h
      obtain ⟨rfl, rfl⟩ := Prod.mk.inj (Option.some.inj h)
      refine (ask_bad a1 hI (by simpa using hn)).mono ?_
      rintro e w' ⟨rfl, hb⟩
      exact ⟨rfl, done_below hI hB hb⟩
  · rw [if_neg hl] at h
    cases h
theorem drains_Drains_Begin.calls (g : Nat) (s : DS) (a1 : ByteArray) (a2 : Int) (r1 : Int) (s' : DS) (w0 w : World) (hI : IsS66 w0 w g s) (hB : Below w0.heap.size w0 w) (h : drains_Drains_Begin.f s a1 a2 = some (r1, s')) :
    Calls Try.prog 13 #[.pointer (some ⟨g, 0, none⟩), .string a1, .int .i64 a2] w fun e w' => e = .returned (.int .i64 r1) ∧ IsS66 w0 w' g s' ∧ Below w0.heap.size w0 w' ∧ KeptH TD w w' := by
  unfold drains_Drains_Begin.f at h
  by_cases hl : s.row.length ≤ 1000
  · rw [if_pos hl] at h
    by_cases hn : nameB a1 = true
    · rw [if_pos hn] at h
      by_cases hp : placeOf s.row a1 0 < 0
      · rw [if_pos hp] at h
        obtain ⟨rfl, rfl⟩ := Prod.mk.inj (Option.some.inj h)
        have := begin_new a1 a2 hI hB hn hl hp
        unfold endRow at this
        rw [if_pos hp] at this
        exact this
      · rw [if_neg hp] at h
        by_cases hu : (rd_T69 s.row (placeOf s.row a1 0)).f2 = true
        · rw [if_pos hu] at h
          obtain ⟨rfl, rfl⟩ := Prod.mk.inj (Option.some.inj h)
          refine (begin_there a1 a2 hI hn hp hu).mono ?_
          rintro e w' ⟨rfl, hb⟩
          exact ⟨rfl, done_below hI hB hb⟩
        · rw [if_neg hu] at h
          obtain ⟨rfl, rfl⟩ := Prod.mk.inj (Option.some.inj h)
          exact begin_again a1 a2 hI hB hn hl hp (by simpa using hu)
    · rw [if_neg hn] at h
      obtain ⟨rfl, rfl⟩ := Prod.mk.inj (Option.some.inj h)
      refine (begin_bad a1 a2 hI (by simpa using hn)).mono ?_
      rintro e w' ⟨rfl, hb⟩
      exact ⟨rfl, done_below hI hB hb⟩
  · rw [if_neg hl] at h
    cases h
end Go.Proofs.Ytmkijdkfogebjaa.Man
