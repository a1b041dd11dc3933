/-
  The fleet: contracts of its functions, proved by walking them, and plain facts, several texts in one (Df, Dg, Dh). Conditions: none.
-/
import Derived.Test.YtmlmiocomlehgaaB1
import Derived.Test.YtmlmiocomlehgaaPAx1
import Derived.Test.YtmlmiocomlehgaaPFx1
set_option linter.unusedVariables false
set_option linter.unusedSimpArgs false
namespace Go.Proofs.Ytmlmiocomlehgaa.Man
open Go.RowKit Go.Proofs.YtmlmiocomlehgaaW.PrintWords Go.Proofs.YtmlmiocomlehgaaW.PrintLast Go.Proofs.YtmlmiocomlehgaaW.PrintMore Go.Proofs.Ytmlmiocomlehgaa.PA Go.Proofs.Ytmlmiocomlehgaa.PF Go.Proofs.Ytmlmiocomlehgaa.Hid Go.Proofs.Ytmlmiocomlehgaa.Na
variable {w0 w : World} {g : Nat} {s : DS}
def drains_Drains_Ask.f (s : DS) (nm : ByteArray) : Option (Int × DS) :=
  if s.row.length ≤ 1000000000 then (if nameB nm = true then (if placeOf s.row nm 0 < 0 then (if (namesOf s.row false).length < 16 then some (0, ⟨s.row ++ [⟨nm, 0, false⟩]⟩) else some (7, s)) else some (6, s)) else some (11, s)) else none
set_option maxHeartbeats 1000000 in
theorem ask_bad (nm : ByteArray) (hI : IsD w0 w g s) (hn : nameB nm = false) : Calls Try.prog 46 #[.pointer (some ⟨g, 0, none⟩), .string nm] w fun e w' => e = .returned (.int .i64 11) ∧ Below w.heap.size w w' := by
  have HN := Aside0.mk (fun W => name_raw nm W)
  rw [hn] at HN
  clear hI hn
  go_enter Try.func46, Try.ntmps46
  go_wp2_with (go_at_call 54; refine (HN.out _).mono ?_; rintro e w' ⟨rfl, hb⟩)
  go_ret
  exact ⟨rfl, hb⟩
set_option maxHeartbeats 1000000 in
theorem ask_there (nm : ByteArray) (hI : IsD w0 w g s) (hn : nameB nm = true) (hp : ¬ placeOf s.row nm 0 < 0) : Calls Try.prog 46 #[.pointer (some ⟨g, 0, none⟩), .string nm] w fun e w' => e = .returned (.int .i64 6) ∧ Below w.heap.size w w' := by
  have HN := Aside0.mk (fun W => name_raw nm W)
  have HI := Aside0.mk hI
  have HP := Aside0.mk (fun W (h : IsD w0 W g s) => place_raw nm h)
  rw [hn] at HN
  generalize placeOf s.row nm 0 = i at hp HP
  clear hI hn
  have hp2 : decide (0 ≤ i) = true := decide_eq_true (by omega)
  go_enter Try.func46, Try.ntmps46
  go_wp2_with (first
    | (go_at_call 54; refine (HN.out _).mono ?_; rintro e w1 ⟨rfl, hb1⟩; have HB1 := Aside0.mk hb1; clear hb1)
    | (go_at_call 58; refine (HP.out _ (HI.out.below HB1.out)).mono ?_; rintro e w2 ⟨rfl, hb2⟩))
  go_ret
  exact ⟨rfl, below_step HB1.out hb2⟩
set_option maxHeartbeats 1000000 in
theorem ask_full (nm : ByteArray) (hI : IsD w0 w g s) (hn : nameB nm = true) (hp : placeOf s.row nm 0 < 0) (hl : s.row.length ≤ 1000000000) (hf : ¬ (namesOf s.row false).length < 16) : Calls Try.prog 46 #[.pointer (some ⟨g, 0, none⟩), .string nm] w fun e w' => e = .returned (.int .i64 7) ∧ Below w.heap.size w w' := by
  have HN := Aside0.mk (fun W => name_raw nm W)
  have HI := Aside0.mk hI
  have HP := Aside0.mk (fun W (h : IsD w0 W g s) => place_raw nm h)
  have HW := Aside0.mk (fun W (h : IsD w0 W g s) => waits_raw (by omega) h)
  rw [hn] at HN
  generalize placeOf s.row nm 0 = i at hp HP
  generalize namesOf s.row false = l at hf HW
  clear hI hn hl
  have hp2 : decide (0 ≤ i) = false := decide_eq_false (by omega)
  have hf2 : decide ((16 : Int) ≤ (l.length : Int)) = true := decide_eq_true (by omega)
  have hf3 : decide (16 ≤ l.length) = true := decide_eq_true (by omega)
  go_enter Try.func46, Try.ntmps46
  go_wp2_with (first
    | (go_at_call 54; refine (HN.out _).mono ?_; rintro e w1 ⟨rfl, hb1⟩; have HB1 := Aside0.mk hb1; clear hb1)
    | (go_at_call 58; refine (HP.out _ (HI.out.below HB1.out)).mono ?_; rintro e w2 ⟨rfl, hb2⟩; have HB2 := Aside0.mk (below_step HB1.out hb2); clear hb2)
    | (go_at_call 64; refine (HW.out _ (HI.out.below HB2.out)).mono ?_; rintro e w3 ⟨v3, rfl, hR3, hb3⟩; have HB3 := Aside0.mk (below_step HB2.out hb3); clear hb3; obtain ⟨A3, n3, rfl⟩ := Kd.R_slice hR3; clear hR3))
  go_ret
  exact ⟨rfl, HB3.out⟩
set_option maxHeartbeats 4000000 in
theorem ask_ok (nm : ByteArray) (hI : IsD w0 w g s) (hB : Below w0.heap.size w0 w) (hn : nameB nm = true) (hp : placeOf s.row nm 0 < 0) (hl : s.row.length ≤ 1000000000) (hf : (namesOf s.row false).length < 16) :
    Calls Try.prog 46 #[.pointer (some ⟨g, 0, none⟩), .string nm] w fun e w' => e = .returned (.int .i64 0) ∧ IsD w0 w' g ⟨s.row ++ [⟨nm, 0, false⟩]⟩ ∧ Below w0.heap.size w0 w' ∧ KeptH TD w w' := by
  have HN := Aside0.mk (fun W => name_raw nm W)
  have HI := Aside0.mk hI
  have HB0 := Aside0.mk hB
  have HP := Aside0.mk (fun W (h : IsD w0 W g s) => place_raw nm h)
  have HW := Aside0.mk (fun W (h : IsD w0 W g s) => waits_raw (by omega) h)
  rw [hn] at HN
  generalize placeOf s.row nm 0 = i at hp HP
  generalize namesOf s.row false = l at hf HW
  clear hI hn hB
  have hp2 : decide (0 ≤ i) = false := decide_eq_false (by omega)
  have hf2 : decide ((16 : Int) ≤ (l.length : Int)) = false := decide_eq_false (by omega)
  have hf3 : decide (16 ≤ l.length) = false := decide_eq_false (by omega)
  go_enter Try.func46, Try.ntmps46
  go_wp2_with (first
    | (go_at_call 54; refine (HN.out _).mono ?_; rintro e w1 ⟨rfl, hb1⟩; have HB1 := Aside0.mk hb1; clear hb1)
    | (go_at_call 58; refine (HP.out _ (HI.out.below HB1.out)).mono ?_; rintro e w2 ⟨rfl, hb2⟩; have HB2 := Aside0.mk (below_step HB1.out hb2); clear hb2)
    | (go_at_call 64; refine (HW.out _ (HI.out.below HB2.out)).mono ?_; rintro e w3 ⟨v3, rfl, hR3, hb3⟩; have HB3 := Aside0.mk (below_step HB2.out hb3); clear hb3; obtain ⟨A3, n3, rfl⟩ := Kd.R_slice hR3; clear hR3;
       have HI3 := Aside0.mk (HI.out.below HB3.out); obtain ⟨A, n, hgb, hnn, hC, hR, hg⟩ := HI3.out.open_; have HGB := Aside0.mk hgb; have HR := Aside0.mk hR; have hgl : g < w3.heap.size := blk_lt hgb; have h1 : w3.cell? ⟨g, 0, none⟩ = some (.slice A s.row.length n) := (blk_cell hgb 0).trans rfl; have hf1 : w3.frozen? ⟨g, 0, none⟩ = false := blk_frozen hgb 0; clear hgb hnn hC hR)
    | ((with_reducible refine gate_builtin (b := .append) (xs := #[.tmp 26, .tmp 29]) rfl ?_); (try (refine gate_guard (by rfl) ?_; dsimp only)); at_builtin; refine Kd.R_append k88 (w0 := w0) w0.heap.size rfl (.tmp 26) (.tmp 29) 79 88 (.agg #[(.string ⟨#[]⟩), (.int .i64 0), (.bool false)]) 32 rfl Try.underlying79 info88 rfl (by decide) (by omega) (.slice A s.row.length n) s.row ⟨nm, 0, false⟩ [.string nm, .int .i64 0, .bool false] (fun _ => True) (fun _ => False) rfl ?aX ?aP (fun _ h => h.elim) (fun _ _ => trivial) ?aO ?aB ?aS ?aL ?_; (case aX => (show Value.slice (some ⟨w3.heap.size, 0, none⟩) 1 1 = _; simp)); (case aP => exact k88_mkM _ _ _ _); (case aO => exact HR.out); (case aB => exact HB0.out.trans (HB3.out.mono HB0.out.size)); (case aS => exact (HB0.out.trans (HB3.out.mono HB0.out.size)).size); (case aL => have := hl; omega); intro v4 w4 hR4 hb4 hg4 hat4; obtain ⟨b4, n4, rfl, hbb4, cur4, hcur4⟩ := R_some hR4 (by simp);
       have HGN : some g ≠ (Value.slice A s.row.length n).ownBlock := Kd.R_ne HR.out HGB.out (by decide); obtain ⟨h41, hf41, hg4l⟩ := keep_grown2 hg4 HGN h1 hf1 hgl; have HG4 := Aside0.mk hg4; have HR4 := Aside0.mk hR4; have HB4 := Aside0.mk hb4; have HA4 := Aside0.mk hat4; have HC4 := Aside0.mk hcur4; clear hg4 hR4 hb4 hat4 hcur4))
  have HGN : some g ≠ (Value.slice A s.row.length n).ownBlock := Kd.R_ne HR.out HGB.out (by decide)
  have HGB4 : w4.heap[g]? = some (.cells #[.slice A s.row.length n] 81 (0, 0)) := (HG4.out.block g hgl HGN).trans HGB.out
  have HFIN := Aside0.mk (IsD.put (w := w) (row := s.row ++ [⟨nm, 0, false⟩]) hg
      ((KeptH.of_below HB3.out).grown HG4.out (fun k h => by
        obtain ⟨cells, hc⟩ := own_typed (Kd.R_own HR.out).choose_spec k h
        exact .inl (.cells hc (by decide)))) HB4.out HGB4 HR4.out)
  rw [show (s.row ++ [(⟨nm, 0, false⟩ : S88)]).length = s.row.length + 1 by simp] at HFIN
  go_ret
  exact ⟨rfl, HFIN.out⟩
/-! #### Begin -/
def drains_Drains_Begin.f (s : DS) (nm : ByteArray) (dl : Int) : Option (Int × DS) :=
  if s.row.length ≤ 1000000000 then (if nameB nm = true then (if placeOf s.row nm 0 < 0 then some (0, ⟨s.row ++ [⟨nm, mn (mx dl 0) 1099511627776, true⟩]⟩) else if (rd_T88 s.row (placeOf s.row nm 0)).f2 = true then some (6, s) else some (0, ⟨endRow s.row nm ++ [⟨nm, mn (mx dl 0) 1099511627776, true⟩]⟩)) else some (11, s)) else none
set_option maxHeartbeats 1000000 in
theorem begin_bad (nm : ByteArray) (dl : Int) (hI : IsD w0 w g s) (hn : nameB nm = false) : Calls Try.prog 43 #[.pointer (some ⟨g, 0, none⟩), .string nm, .int .i64 dl] w fun e w' => e = .returned (.int .i64 11) ∧ Below w.heap.size w w' := by
  have HN := Aside0.mk (fun W => name_raw nm W)
  have HP := Aside0.mk (place_raw nm hI)
  generalize placeOf s.row nm 0 = i at HP
  rw [hn] at HN
  clear hI hn
  go_enter Try.func43, Try.ntmps43
  go_wp2_with (first
    | (go_at_call 58; refine HP.out.mono ?_; rintro e w1 ⟨rfl, hb1⟩; have HB1 := Aside0.mk hb1; clear hb1)
    | (go_at_call 54; refine (HN.out _).mono ?_; rintro e w' ⟨rfl, hb⟩))
  go_ret
  exact ⟨rfl, below_step HB1.out hb⟩
/-- What is read of the drain at a place. -/
theorem read_at {W : World} {P : Nat} (hI : IsD w0 W g s) (hP : (P : Int) < (s.row.length : Int)) : ∃ A n, W.cell? ⟨g, 0, none⟩ = some (.slice A s.row.length n) ∧
    ∃ ad, A = some ad ∧ W.cell? ⟨(ad.add (P * 3)).block, (ad.add (P * 3)).off + 2, none⟩ = some (.bool (rd_T88 s.row (P : Int)).f2) := by
  obtain ⟨A, n, hbk, hn, hC, hR, hg⟩ := hI.open_
  obtain ⟨ad, hA, hx0, hx1, hx2⟩ := at_T88 hC (P : Int) (by omega) hP
  rw [Int.toNat_natCast] at hx2
  exact ⟨A, n, (blk_cell hbk 0).trans rfl, ad, hA, hx2⟩
set_option maxHeartbeats 1000000 in
theorem begin_there (nm : ByteArray) (dl : Int) (hI : IsD w0 w g s) (hn : nameB nm = true) (hp : ¬ placeOf s.row nm 0 < 0) (hu : (rd_T88 s.row (placeOf s.row nm 0)).f2 = true) : Calls Try.prog 43 #[.pointer (some ⟨g, 0, none⟩), .string nm, .int .i64 dl] w fun e w' => e = .returned (.int .i64 6) ∧ Below w.heap.size w w' := by
  have HN := Aside0.mk (fun W => name_raw nm W)
  have HI := Aside0.mk hI
  have HP := Aside0.mk (place_raw nm hI)
  rw [hn] at HN
  obtain ⟨P, hP⟩ : ∃ P : Nat, placeOf s.row nm 0 = (P : Int) := ⟨(placeOf s.row nm 0).toNat, by omega⟩
  have hPl : (P : Int) < (s.row.length : Int) := by rcases place_bd s.row nm 0 with h | h <;> omega
  have h0P : (0 : Int) ≤ (P : Int) := by omega
  rw [hP] at HP hu
  clear hI hn hP hp
  have HU := Aside0.mk hu
  clear hu
  go_enter Try.func43, Try.ntmps43
  go_wp2_with (first
    | (go_at_call 58; refine HP.out.mono ?_; rintro e w1 ⟨rfl, hb1⟩; have HB1 := Aside0.mk hb1; clear hb1)
    | (go_at_call 54; refine (HN.out _).mono ?_; rintro e w2 ⟨rfl, hb2⟩; have HB2 := Aside0.mk (below_step HB1.out hb2); clear hb2; obtain ⟨A, n, hc1, ad, rfl, hc2⟩ := read_at (P := P) (HI.out.below HB2.out) hPl; rw [HU.out] at hc2))
  go_ret
  exact ⟨rfl, HB2.out⟩
set_option maxHeartbeats 4000000 in
theorem begin_new (nm : ByteArray) (dl : Int) (hI : IsD w0 w g s) (hB : Below w0.heap.size w0 w) (hn : nameB nm = true) (hl : s.row.length ≤ 1000000000) (hp : placeOf s.row nm 0 < 0) :
    Calls Try.prog 43 #[.pointer (some ⟨g, 0, none⟩), .string nm, .int .i64 dl] w fun e w' => e = .returned (.int .i64 0) ∧ IsD w0 w' g ⟨endRow s.row nm ++ [⟨nm, mn (mx dl 0) 1099511627776, true⟩]⟩ ∧ Below w0.heap.size w0 w' ∧ KeptH TD w w' := by
  have HN := Aside0.mk (fun W => name_raw nm W)
  have HI := Aside0.mk hI
  have HB0 := Aside0.mk hB
  have HP := Aside0.mk (place_raw nm hI)
  rw [hn] at HN
  obtain ⟨row2, hrow2⟩ : ∃ row2, row2 = endRow s.row nm := ⟨_, rfl⟩
  have hl2 : row2.length ≤ 1000000000 := by
    rw [hrow2]
    unfold endRow
    by_cases hq : placeOf s.row nm 0 < 0
    · rw [if_pos hq]
      exact hl
    · rw [if_neg hq, List.length_eraseIdx]
      split <;> omega
  have HE := Aside0.mk (fun W (h : IsD w0 W g s) (hb : Below w0.heap.size w0 W) => drains_Drains_End.calls g s nm _ ⟨row2⟩ w0 W h hb (by rw [hrow2]; exact if_pos hl))
  rw [← hrow2]
  have HL2 := Aside0.mk hl2
  generalize placeOf s.row nm 0 = i at hp HP HE
  have hp2 : decide (0 ≤ i) = false := decide_eq_false (by omega)
  clear hI hn hB hrow2 hl hl2
  have hcut : sat_Cut.f dl = some (mn (mx dl 0) 1099511627776) := rfl
  have HCUT := Aside0.mk hcut
  clear hcut
  generalize mn (mx dl 0) 1099511627776 = dc at HCUT ⊢
  go_enter Try.func43, Try.ntmps43
  go_wp2_with (first
    | (go_at_call 58; refine HP.out.mono ?_; rintro e w1 ⟨rfl, hb1⟩; have HB1 := Aside0.mk hb1; clear hb1)
    | (go_at_call 54; refine (HN.out _).mono ?_; rintro e w2 ⟨rfl, hb2⟩; have HB2 := Aside0.mk (below_step HB1.out hb2); clear hb2)
    | (go_at_call 40; refine (HE.out _ (HI.out.below HB2.out) (HB0.out.trans (HB2.out.mono HB0.out.size))).mono ?_; rintro e w3 ⟨rfl, hi3, hb3, hk3⟩; have HI3 := Aside0.mk hi3; have HB3 := Aside0.mk hb3; have HK3 := Aside0.mk ((KeptH.of_below HB2.out).trans hk3); clear hi3 hb3 hk3))
  obtain ⟨A3, n3, hgb, hnn, hC, hR, hg⟩ := HI3.out.open_
  have HGB := Aside0.mk hgb
  have HR := Aside0.mk hR
  have hgl : g < w3.heap.size := blk_lt hgb
  have h1 : w3.cell? ⟨g, 0, none⟩ = some (.slice A3 row2.length n3) := (blk_cell hgb 0).trans rfl
  have hf1 : w3.frozen? ⟨g, 0, none⟩ = false := blk_frozen hgb 0
  clear hgb hnn hC hR
  have HGN : Aside0 (∀ (W : World), Kd.R k88 88 W w0.heap.size (fun _ => True) (.slice A3 row2.length n3) row2 → W.heap[g]? = some (.cells #[.slice A3 row2.length n3] 81 (0, 0)) → some g ≠ (Value.slice A3 row2.length n3).ownBlock) := ⟨fun W h hb => Kd.R_ne h hb (by decide)⟩
  go_region_law ((first
      | (go_simp; go_at_call 62; refine (sat_Cut.calls dl _ _ HCUT.out).mono ?_; rintro e w4 ⟨rfl, hb4⟩; obtain ⟨h41, hf41, hg4l⟩ := keep_below2 (W := w3.drew) hb4 h1 hf1 hgl)
      | (refine Kd.R_append_step k88 (w0 := w0) w0.heap.size rfl (.tmp 38) (.tmp 43) 79 88 (.agg #[(.string ⟨#[]⟩), (.int .i64 0), (.bool false)]) 32 rfl Try.underlying79 info88 rfl (by decide) (by omega) (.slice A3 row2.length n3) row2 ⟨nm, dc, true⟩ [.string nm, .int .i64 dc, .bool true] (fun _ => True) (fun _ => False) (by rfl) (by rfl) ?aP (fun _ h => h.elim) (fun _ _ => trivial) ?aO ?aB ?aS ?aL ?_;
         (case aP => exact k88_mkM _ _ _ _); (case aO => exact Kd.R_below (Kd.R_drew HR.out) hb4); (case aB => exact (below_drew1 HB3.out).trans (hb4.mono HB3.out.size)); (case aS => exact Nat.le_trans HB3.out.size hb4.size); (case aL => have := HL2.out; omega); intro v5 w5 hR5 hb5 hg5 hat5; obtain ⟨b5, n5, rfl, hbb5, cur5, hcur5⟩ := R_some hR5 (by simp); obtain ⟨h51, hf51, hg5l⟩ := keep_grown2 hg5 (HGN.out _ HR.out HGB.out) h41 hf41 hg4l)))
  all_goals
    have HGB5 : w5.heap[g]? = some (.cells #[.slice A3 row2.length n3] 81 (0, 0)) := (hg5.block g hg4l (HGN.out _ HR.out HGB.out)).trans ((hb4.block g (blk_lt HGB.out)).trans HGB.out)
    have HFIN := Aside0.mk (IsD.put (w := w) (row := row2 ++ [⟨nm, dc, true⟩]) hg
        (((HK3.out.drew).below hb4).grown hg5 (fun k h => by
          obtain ⟨cells, hc⟩ := own_typed (Kd.R_own (Kd.R_below (Kd.R_drew HR.out) hb4)).choose_spec k h
          exact .inl (.cells hc (by decide)))) hb5 HGB5 hR5)
    rw [show (row2 ++ [(⟨nm, dc, true⟩ : S88)]).length = row2.length + 1 by simp] at HFIN
    clear HGB5 hR5 hb5 hg5 hat5 hcur5
    go_wp2
    go_ret
    exact ⟨rfl, HFIN.out⟩
set_option maxHeartbeats 4000000 in
theorem begin_again (nm : ByteArray) (dl : Int) (hI : IsD w0 w g s) (hB : Below w0.heap.size w0 w) (hn : nameB nm = true) (hl : s.row.length ≤ 1000000000) (hp : ¬ placeOf s.row nm 0 < 0) (hu : (rd_T88 s.row (placeOf s.row nm 0)).f2 = false) :
    Calls Try.prog 43 #[.pointer (some ⟨g, 0, none⟩), .string nm, .int .i64 dl] w fun e w' => e = .returned (.int .i64 0) ∧ IsD w0 w' g ⟨endRow s.row nm ++ [⟨nm, mn (mx dl 0) 1099511627776, true⟩]⟩ ∧ Below w0.heap.size w0 w' ∧ KeptH TD w w' := by
  have HN := Aside0.mk (fun W => name_raw nm W)
  have HI := Aside0.mk hI
  have HB0 := Aside0.mk hB
  have HP := Aside0.mk (place_raw nm hI)
  rw [hn] at HN
  obtain ⟨row2, hrow2⟩ : ∃ row2, row2 = endRow s.row nm := ⟨_, rfl⟩
  have hl2 : row2.length ≤ 1000000000 := by
    rw [hrow2]
    unfold endRow
    by_cases hq : placeOf s.row nm 0 < 0
    · rw [if_pos hq]
      exact hl
    · rw [if_neg hq, List.length_eraseIdx]
      split <;> omega
  have HE := Aside0.mk (fun W (h : IsD w0 W g s) (hb : Below w0.heap.size w0 W) => drains_Drains_End.calls g s nm _ ⟨row2⟩ w0 W h hb (by rw [hrow2]; exact if_pos hl))
  rw [← hrow2]
  have HL2 := Aside0.mk hl2
  obtain ⟨P, hP⟩ : ∃ P : Nat, placeOf s.row nm 0 = (P : Int) := ⟨(placeOf s.row nm 0).toNat, by omega⟩
  have hPl : (P : Int) < (s.row.length : Int) := by rcases place_bd s.row nm 0 with h | h <;> omega
  have h0P : (0 : Int) ≤ (P : Int) := by omega
  rw [hP] at HP hu HE
  have HU := Aside0.mk hu
  clear hu hP hp
  clear hI hn hB hrow2 hl hl2
  have hcut : sat_Cut.f dl = some (mn (mx dl 0) 1099511627776) := rfl
  have HCUT := Aside0.mk hcut
  clear hcut
  generalize mn (mx dl 0) 1099511627776 = dc at HCUT ⊢
  go_enter Try.func43, Try.ntmps43
  go_wp2_with (first
    | (go_at_call 58; refine HP.out.mono ?_; rintro e w1 ⟨rfl, hb1⟩; have HB1 := Aside0.mk hb1; clear hb1)
    | (go_at_call 54; refine (HN.out _).mono ?_; rintro e w2 ⟨rfl, hb2⟩; have HB2 := Aside0.mk (below_step HB1.out hb2); clear hb2; obtain ⟨A, n, hc1, ad, rfl, hc2⟩ := read_at (P := P) (HI.out.below HB2.out) hPl; rw [HU.out] at hc2)
    | (go_at_call 40; refine (HE.out _ (HI.out.below HB2.out) (HB0.out.trans (HB2.out.mono HB0.out.size))).mono ?_; rintro e w3 ⟨rfl, hi3, hb3, hk3⟩; have HI3 := Aside0.mk hi3; have HB3 := Aside0.mk hb3; have HK3 := Aside0.mk ((KeptH.of_below HB2.out).trans hk3); clear hi3 hb3 hk3; clear hc1 hc2))
  obtain ⟨A3, n3, hgb, hnn, hC, hR, hg⟩ := HI3.out.open_
  have HGB := Aside0.mk hgb
  have HR := Aside0.mk hR
  have hgl : g < w3.heap.size := blk_lt hgb
  have h1 : w3.cell? ⟨g, 0, none⟩ = some (.slice A3 row2.length n3) := (blk_cell hgb 0).trans rfl
  have hf1 : w3.frozen? ⟨g, 0, none⟩ = false := blk_frozen hgb 0
  clear hgb hnn hC hR
  have HGN : Aside0 (∀ (W : World), Kd.R k88 88 W w0.heap.size (fun _ => True) (.slice A3 row2.length n3) row2 → W.heap[g]? = some (.cells #[.slice A3 row2.length n3] 81 (0, 0)) → some g ≠ (Value.slice A3 row2.length n3).ownBlock) := ⟨fun W h hb => Kd.R_ne h hb (by decide)⟩
  go_region_law ((first
      | (go_simp; go_at_call 62; refine (sat_Cut.calls dl _ _ HCUT.out).mono ?_; rintro e w4 ⟨rfl, hb4⟩; obtain ⟨h41, hf41, hg4l⟩ := keep_below2 (W := w3.drew) hb4 h1 hf1 hgl)
      | (refine Kd.R_append_step k88 (w0 := w0) w0.heap.size rfl (.tmp 38) (.tmp 43) 79 88 (.agg #[(.string ⟨#[]⟩), (.int .i64 0), (.bool false)]) 32 rfl Try.underlying79 info88 rfl (by decide) (by omega) (.slice A3 row2.length n3) row2 ⟨nm, dc, true⟩ [.string nm, .int .i64 dc, .bool true] (fun _ => True) (fun _ => False) (by rfl) (by rfl) ?aP (fun _ h => h.elim) (fun _ _ => trivial) ?aO ?aB ?aS ?aL ?_;
         (case aP => exact k88_mkM _ _ _ _); (case aO => exact Kd.R_below (Kd.R_drew HR.out) hb4); (case aB => exact (below_drew1 HB3.out).trans (hb4.mono HB3.out.size)); (case aS => exact Nat.le_trans HB3.out.size hb4.size); (case aL => have := HL2.out; omega); intro v5 w5 hR5 hb5 hg5 hat5; obtain ⟨b5, n5, rfl, hbb5, cur5, hcur5⟩ := R_some hR5 (by simp); obtain ⟨h51, hf51, hg5l⟩ := keep_grown2 hg5 (HGN.out _ HR.out HGB.out) h41 hf41 hg4l)))
  all_goals
    have HGB5 : w5.heap[g]? = some (.cells #[.slice A3 row2.length n3] 81 (0, 0)) := (hg5.block g hg4l (HGN.out _ HR.out HGB.out)).trans ((hb4.block g (blk_lt HGB.out)).trans HGB.out)
    have HFIN := Aside0.mk (IsD.put (w := w) (row := row2 ++ [⟨nm, dc, true⟩]) hg
        (((HK3.out.drew).below hb4).grown hg5 (fun k h => by
          obtain ⟨cells, hc⟩ := own_typed (Kd.R_own (Kd.R_below (Kd.R_drew HR.out) hb4)).choose_spec k h
          exact .inl (.cells hc (by decide)))) hb5 HGB5 hR5)
    rw [show (row2 ++ [(⟨nm, dc, true⟩ : S88)]).length = row2.length + 1 by simp] at HFIN
    clear HGB5 hR5 hb5 hg5 hat5 hcur5
    go_wp2
    go_ret
    exact ⟨rfl, HFIN.out⟩
theorem drains_Drains_Ask.calls (g : Nat) (s : DS) (a1 : ByteArray) (r1 : Int) (s' : DS) (w0 w : World) (hI : IsD w0 w g s) (hB : Below w0.heap.size w0 w) (h : drains_Drains_Ask.f s a1 = some (r1, s')) :
    Calls Try.prog 46 #[.pointer (some ⟨g, 0, none⟩), .string a1] w fun e w' => e = .returned (.int .i64 r1) ∧ IsD w0 w' g s' ∧ Below w0.heap.size w0 w' ∧ KeptH TD w w' := by
  unfold drains_Drains_Ask.f at h
  by_cases hl : s.row.length ≤ 1000000000
  · rw [if_pos hl] at h
    by_cases hn : nameB a1 = true
    · rw [if_pos hn] at h
      by_cases hp : placeOf s.row a1 0 < 0
      · rw [if_pos hp] at h
        by_cases hf : (namesOf s.row false).length < 16
        · rw [if_pos hf] at h
          obtain ⟨rfl, rfl⟩ := Prod.mk.inj (Option.some.inj h)
          exact ask_ok a1 hI hB hn hp hl hf
        · rw [if_neg hf] at h
          obtain ⟨rfl, rfl⟩ := Prod.mk.inj (Option.some.inj h)
          refine (ask_full a1 hI hn hp hl hf).mono ?_
          rintro e w' ⟨rfl, hb⟩
          exact ⟨rfl, done_below hI hB hb⟩
      · rw [if_neg hp] at h
        obtain ⟨rfl, rfl⟩ := Prod.mk.inj (Option.some.inj h)
        refine (ask_there a1 hI hn hp).mono ?_
        rintro e w' ⟨rfl, hb⟩
        exact ⟨rfl, done_below hI hB hb⟩
    · rw [if_neg hn] at h
      obtain ⟨rfl, rfl⟩ := Prod.mk.inj (Option.some.inj h)
      refine (ask_bad a1 hI (by simpa using hn)).mono ?_
      rintro e w' ⟨rfl, hb⟩
      exact ⟨rfl, done_below hI hB hb⟩
  · rw [if_neg hl] at h
    cases h
theorem drains_Drains_Begin.calls (g : Nat) (s : DS) (a1 : ByteArray) (a2 : Int) (r1 : Int) (s' : DS) (w0 w : World) (hI : IsD w0 w g s) (hB : Below w0.heap.size w0 w) (h : drains_Drains_Begin.f s a1 a2 = some (r1, s')) :
    Calls Try.prog 43 #[.pointer (some ⟨g, 0, none⟩), .string a1, .int .i64 a2] w fun e w' => e = .returned (.int .i64 r1) ∧ IsD w0 w' g s' ∧ Below w0.heap.size w0 w' ∧ KeptH TD w w' := by
  unfold drains_Drains_Begin.f at h
  by_cases hl : s.row.length ≤ 1000000000
  · rw [if_pos hl] at h
    by_cases hn : nameB a1 = true
    · rw [if_pos hn] at h
      by_cases hp : placeOf s.row a1 0 < 0
      · rw [if_pos hp] at h
        obtain ⟨rfl, rfl⟩ := Prod.mk.inj (Option.some.inj h)
        have := begin_new a1 a2 hI hB hn hl hp
        unfold endRow at this
        rw [if_pos hp] at this
        exact this
      · rw [if_neg hp] at h
        by_cases hu : (rd_T88 s.row (placeOf s.row a1 0)).f2 = true
        · rw [if_pos hu] at h
          obtain ⟨rfl, rfl⟩ := Prod.mk.inj (Option.some.inj h)
          refine (begin_there a1 a2 hI hn hp hu).mono ?_
          rintro e w' ⟨rfl, hb⟩
          exact ⟨rfl, done_below hI hB hb⟩
        · rw [if_neg hu] at h
          obtain ⟨rfl, rfl⟩ := Prod.mk.inj (Option.some.inj h)
          exact begin_again a1 a2 hI hB hn hl hp (by simpa using hu)
    · rw [if_neg hn] at h
      obtain ⟨rfl, rfl⟩ := Prod.mk.inj (Option.some.inj h)
      refine (begin_bad a1 a2 hI (by simpa using hn)).mono ?_
      rintro e w' ⟨rfl, hb⟩
      exact ⟨rfl, done_below hI hB hb⟩
  · rw [if_neg hl] at h
    cases h
end Go.Proofs.Ytmlmiocomlehgaa.Man
namespace Go.Proofs.Ytmlmiocomlehgaa.Man
open Go.RowKit Go.Proofs.YtmlmiocomlehgaaW.PrintWords Go.Proofs.YtmlmiocomlehgaaW.PrintLast Go.Proofs.YtmlmiocomlehgaaW.PrintMore Go.Proofs.Ytmlmiocomlehgaa.PA Go.Proofs.Ytmlmiocomlehgaa.PF Go.Proofs.Ytmlmiocomlehgaa.Hid Go.Proofs.Ytmlmiocomlehgaa.Na
variable {w0 w : World} {g : Nat} {s : DS}
theorem drains_Drains_place.calls (g : Nat) (s : DS) (a1 : ByteArray) (r1 : Int) (s' : DS) (w0 w : World) (hI : IsD w0 w g s) (hB : Below w0.heap.size w0 w) (h : drains_Drains_place.f s a1 = some (r1, s')) :
    Calls Try.prog 58 #[.pointer (some ⟨g, 0, none⟩), .string a1] w fun e w' => e = .returned (.int .i64 r1) ∧ IsD w0 w' g s' ∧ Below w0.heap.size w0 w' ∧ KeptH TD w w' := by
  obtain ⟨rfl, rfl⟩ := Prod.mk.inj (Option.some.inj h)
  refine (place_raw a1 hI).mono ?_
  rintro e w' ⟨rfl, hb⟩
  exact ⟨rfl, done_below hI hB hb⟩
def drains_DNew.f : Option DS := some ⟨[]⟩
set_option maxHeartbeats 1000000 in
theorem new_raw (w : World) : Calls Try.prog 33 #[] w fun e w' => e = .returned (.pointer (some ⟨w.heap.size, 0, none⟩)) ∧ w' = w.alloc (.cells #[.slice none 0 0] 81) := by
  go_enter Try.func33, Try.ntmps33
  go_wp2
  go_ret
  exact ⟨rfl, rfl⟩
theorem drains_DNew.calls (r : DS) (w0 w : World) (hB : Below w0.heap.size w0 w) (h : drains_DNew.f = some r) :
    Calls Try.prog 33 #[] w fun e w' => ∃ g_ : Nat, e = .returned (.pointer (some ⟨g_, 0, none⟩)) ∧ IsD w0 w' g_ r ∧ Below w0.heap.size w0 w' ∧ Below w.heap.size w w' := by
  obtain rfl := Option.some.inj h
  refine (new_raw w).mono ?_
  rintro e w' ⟨rfl, rfl⟩
  refine ⟨_, rfl, ⟨.slice none 0 0, heap_alloc_new w _, hB.size, Kd.R_nil _ _ _ _ _⟩, below_alloc hB _, below_alloc (Below.refl _ w) _⟩
/-! #### Ahead -/
/-- Where a name is in a list of names. -/
def idxOf : List ByteArray → ByteArray → Int → Int
  | [], _, _ => -1
  | x :: l, nm, j => if nm.toList = x.toList then j else idxOf l nm (j + 1)
theorem idx_loop (nm : ByteArray) (xs : List ByteArray) (hm : xs.length ≤ 9223372036854775807) (d : Nat) : ∀ (k j : Nat), j ≤ xs.length → xs.length - j = d → d < k → slices_Index_string_string.l0 k xs nm (xs.length : Int) (j : Int) = some (idxOf (xs.drop j) nm j) := by
  induction d with
  | zero =>
    intro k j hj hd hk
    obtain ⟨k, rfl⟩ : ∃ m, k = m + 1 := ⟨k - 1, by omega⟩
    simp only [slices_Index_string_string.l0]
    rw [if_neg (by omega), List.drop_eq_nil_of_le (by omega)]
    rfl
  | succ d ih =>
    intro k j hj hd hk
    obtain ⟨k, rfl⟩ : ∃ m, k = m + 1 := ⟨k - 1, by omega⟩
    have hlt : j < xs.length := by omega
    simp only [slices_Index_string_string.l0]
    rw [if_pos (by omega), if_pos (by omega), if_pos (by omega), List.drop_eq_getElem_cons hlt]
    have e : rdOf ByteArray.empty xs (j : Int) = xs[j] := by simp [rdOf, List.getD, hlt]
    rw [e]
    have ih' := ih k (j + 1) (by omega) (by omega) (by omega)
    rw [show ((j + 1 : Nat) : Int) = (j : Int) + 1 by omega] at ih'
    have hw : wrap64 ((j : Int) + 1) = (j : Int) + 1 := by unfold wrap64; omega
    simp only [idxOf]
    rw [hw]
    by_cases c : nm.toList = xs[j].toList
    · rw [if_pos c, if_pos c]
    · rw [if_neg c, if_neg c]
      exact ih'
theorem idx_some (nm : ByteArray) (xs : List ByteArray) (hm : xs.length ≤ 9223372036854775807) : slices_Index_string_string.f (xs.length + 1) xs nm = some (idxOf xs nm 0) := by
  have := idx_loop nm xs hm xs.length (xs.length + 1) 0 (by omega) (by omega) (by omega)
  simpa [slices_Index_string_string.f] using this
def drains_Drains_Ahead.f (s : DS) (nm : ByteArray) : Option (Int × DS) := if s.row.length < 1099511627776 then some (idxOf (namesOf s.row false) nm 0, s) else none
set_option maxHeartbeats 1000000 in
theorem ahead_raw (nm : ByteArray) (hlb : s.row.length < 1099511627776) (hI : IsD w0 w g s) :
    Calls Try.prog 48 #[.pointer (some ⟨g, 0, none⟩), .string nm] w fun e w' => e = .returned (.int .i64 (idxOf (namesOf s.row false) nm 0)) ∧ Below w.heap.size w w' := by
  have HW := Aside0.mk (waits_raw hlb hI)
  clear hI
  generalize namesOf s.row false = xs at HW
  go_enter Try.func48, Try.ntmps48
  go_wp2_with (first
    | (go_at_call 64; refine HW.out.mono ?_; rintro e w1 ⟨v1, rfl, hR, hb1⟩; have HB1 := Aside0.mk hb1; clear hb1; obtain ⟨A, n, rfl⟩ := Kd.R_slice hR; obtain ⟨_, hn, hC⟩ := Kd.R_reads' hR; have HI := Aside0.mk (slices_Index_string_string.calls (xs.length + 1) A n xs nm _ w1 hC hn (idx_some nm xs hC.2.1)); clear hR hC)
    | (go_at_call 55; refine HI.out.mono ?_; rintro e w2 ⟨rfl, hb2⟩))
  go_ret
  exact ⟨rfl, below_step HB1.out (Drawn0.below hb2)⟩
theorem drains_Drains_Ahead.calls (g : Nat) (s : DS) (a1 : ByteArray) (r1 : Int) (s' : DS) (w0 w : World) (hI : IsD w0 w g s) (hB : Below w0.heap.size w0 w) (h : drains_Drains_Ahead.f s a1 = some (r1, s')) :
    Calls Try.prog 48 #[.pointer (some ⟨g, 0, none⟩), .string a1] w fun e w' => e = .returned (.int .i64 r1) ∧ IsD w0 w' g s' ∧ Below w0.heap.size w0 w' ∧ KeptH TD w w' := by
  unfold drains_Drains_Ahead.f at h
  by_cases hl : s.row.length < 1099511627776
  · rw [if_pos hl] at h
    obtain ⟨rfl, rfl⟩ := Prod.mk.inj (Option.some.inj h)
    refine (ahead_raw a1 hl hI).mono ?_
    rintro e w' ⟨rfl, hb⟩
    exact ⟨rfl, done_below hI hB hb⟩
  · rw [if_neg hl] at h
    cases h
/-! #### Due -/
def cutT (x : Int) : Int := mn (mx x 0) 1099511627776
def pastB (now at_ : Int) : Bool := decide (cutT at_ ≤ cutT now)
theorem past_some (now at_ : Int) : sat_Past.f now at_ = some (pastB now at_) := by
  unfold sat_Past.f sat_Sub.f sat_Cut.f pastB cutT
  simp only [Option.bind_some, Option.some.injEq]
  have h1 : 0 ≤ mn (mx at_ 0) 1099511627776 ∧ mn (mx at_ 0) 1099511627776 ≤ 1099511627776 := by unfold mn mx; constructor <;> (repeat' split) <;> omega
  have h2 : 0 ≤ mn (mx now 0) 1099511627776 ∧ mn (mx now 0) 1099511627776 ≤ 1099511627776 := by unfold mn mx; constructor <;> (repeat' split) <;> omega
  generalize mn (mx at_ 0) 1099511627776 = x at h1 ⊢
  generalize mn (mx now 0) 1099511627776 = y at h2 ⊢
  have hw : wrap64 (x - y) = x - y := by unfold wrap64; omega
  rw [hw]
  unfold mx
  by_cases c : x ≤ y
  · rw [decide_eq_true c]
    split
    · rfl
    · simp; omega
  · rw [decide_eq_false c]
    split
    · omega
    · simp; omega
/-- Is a name's deadline not past? -/
def delB (s : DS) (now : Int) (nm : ByteArray) : Bool := !pastB now (deadOf s nm).1
/-- The cells of the closure's two variables, and the drains. -/
def Caps (w0 W : World) (g D M : Nat) (s : DS) (now : Int) : Prop := W.heap[D]? = some (.cells #[.pointer (some ⟨g, 0, none⟩)] 60 (0, 0)) ∧ W.heap[M]? = some (.cells #[.int .i64 now] 3 (0, 0)) ∧ IsD w0 W g s
theorem Caps.move {W W' : World} {D M : Nat} {now : Int} (h : Caps w0 W g D M s now) (hb : ∀ k : Nat, (∃ (cs : Array Value) (t : TypeId), W.heap[k]? = some (Obj.cells cs t (0, 0)) ∧ t ≠ 9) → W'.heap[k]? = W.heap[k]?) : Caps w0 W' g D M s now := by
  obtain ⟨h1, h2, h3⟩ := h
  refine ⟨(hb D ⟨_, _, h1, by decide⟩).trans h1, (hb M ⟨_, _, h2, by decide⟩).trans h2, ?_⟩
  obtain ⟨v, hv, hg, hR⟩ := h3
  refine ⟨v, (hb g ⟨_, _, hv, by decide⟩).trans hv, hg, ?_⟩
  refine Kd.R_mono (Kd.R_move (Kd.R_bound hR) (fun k hk => ?_)) (fun _ _ => trivial)
  obtain ⟨_, _, _, q, hq, cells, hq2⟩ := hk
  have : q = 88 := by simpa [k88, Kd.iso, Kd.pair, Kd.int, Kd.scalar, Kd.string, Kd.bool] using hq
  subst this
  exact hb k ⟨_, _, hq2, by decide⟩
theorem Caps.below {W W' : World} {D M : Nat} {now : Int} (h : Caps w0 W g D M s now) (hb : Below W.heap.size W W') : Caps w0 W' g D M s now := h.move (fun k hk => by obtain ⟨_, _, hk, _⟩ := hk; exact hb.block k (blk_lt hk))
theorem Caps.grown {W W' : World} {D M : Nat} {now : Int} {b : Nat} (h : Caps w0 W g D M s now) (hg : W.grownBy W' (some b)) {cs : Array Value} (hb : W.heap[b]? = some (.cells cs 9 (0, 0))) : Caps w0 W' g D M s now := h.move (fun k hk => by
  obtain ⟨cs', t, hk, ht⟩ := hk
  refine hg.block k (blk_lt hk) ?_
  intro e
  injection e with e
  subst e
  rw [hb] at hk
  injection hk with hk
  injection hk with _ hk
  exact ht hk.symm)
set_option maxHeartbeats 1000000 in
theorem due1_raw {W : World} {D M : Nat} {now : Int} (nm : ByteArray) (h : Caps w0 W g D M s now) :
    Calls Try.prog 67 #[.string nm, .pointer (some ⟨D, 0, none⟩), .pointer (some ⟨M, 0, none⟩)] W fun e w' => e = .returned (.bool (delB s now nm)) ∧ Below W.heap.size W w' := by
  have hD : W.cell? ⟨D, 0, none⟩ = some (.pointer (some ⟨g, 0, none⟩)) := (blk_cell h.1 0).trans rfl
  have hM : W.cell? ⟨M, 0, none⟩ = some (.int .i64 now) := (blk_cell h.2.1 0).trans rfl
  have HDL := Aside0.mk (deadline_raw nm h.2.2)
  have hMl : M < W.heap.size := blk_lt h.2.1
  have HP := Aside0.mk (fun W' => sat_Past.calls now (deadOf s nm).1 _ W' (past_some now (deadOf s nm).1))
  unfold delB
  generalize deadOf s nm = d at HDL HP
  obtain ⟨at_, is⟩ := d
  clear h
  go_enter Try.func67, Try.ntmps67
  go_wp2_with (first
    | (go_at_call 68; refine HDL.out.mono ?_; rintro e w1 ⟨rfl, hb1⟩; have HB1 := Aside0.mk hb1; have hM1 : w1.cell? ⟨M, 0, none⟩ = some (.int .i64 now) := (hb1.cell (p := ⟨M, 0, none⟩) hMl).trans hM; clear hb1)
    | (go_at_call 69; refine (HP.out _).mono ?_; rintro e w2 ⟨rfl, hb2⟩))
  go_ret
  exact ⟨rfl, below_step HB1.out hb2⟩
/-- The first one that is so. -/
def fstOf (dl : ByteArray → Bool) : List ByteArray → Int → Int
  | [], _ => -1
  | x :: l, j => if dl x = true then j else fstOf dl l (j + 1)
theorem fst_none (dl : ByteArray → Bool) : ∀ (xs : List ByteArray) (j : Int), 0 ≤ j → fstOf dl xs j = -1 → ∀ x ∈ xs, dl x = false
  | [], _, _, _ => fun x hx => by simp at hx
  | y :: l, j, hj, h => fun x hx => by
    unfold fstOf at h
    by_cases c : dl y = true
    · rw [if_pos c] at h; omega
    · rw [if_neg c] at h
      rcases List.mem_cons.1 hx with rfl | hx
      · simpa using c
      · exact fst_none dl l (j + 1) (by omega) h x hx
theorem fst_bd (dl : ByteArray → Bool) : ∀ (xs : List ByteArray) (j : Int), fstOf dl xs j = -1 ∨ ∃ i : Nat, fstOf dl xs j = j + i ∧ i < xs.length ∧ (∀ k (h : k < xs.length), k < i → dl xs[k] = false) ∧ ∀ h : i < xs.length, dl xs[i] = true
  | [], _ => .inl rfl
  | y :: l, j => by
    unfold fstOf
    by_cases c : dl y = true
    · rw [if_pos c]
      exact .inr ⟨0, by simp, by simp, fun k _ h => by omega, fun _ => c⟩
    · rw [if_neg c]
      rcases fst_bd dl l (j + 1) with h | ⟨i, h1, h2, h3, h4⟩
      · exact .inl h
      · refine .inr ⟨i + 1, by rw [h1]; omega, by simpa using h2, fun k hk hki => ?_, fun h => by simpa using h4 h2⟩
        cases k with
        | zero => simpa using c
        | succ k => simpa using h3 k (by simpa using hk) (by omega)
/-- What a closure over the drains answers, as a fact of every world behind. -/
abbrev Ans (W : World) (f : Nat) (xs : Array Value) (dl : ByteArray → Bool) (x : ByteArray) : Prop := Calls Try.prog f (#[.string x] ++ xs) W fun e w' => e = .returned (.bool (dl x)) ∧ Below W.heap.size W w'
set_option maxHeartbeats 2000000 in
theorem idx53_raw (dl : ByteArray → Bool) (D M : Nat) (xs : List ByteArray) (A : Option Addr) (n : Nat) (hC : Kd.C Kd.string w A xs.length xs) (hn : xs.length ≤ n)
    (HD : ∀ W, Below w.heap.size w W → ∀ x, Calls Try.prog 67 #[.string x, .pointer (some ⟨D, 0, none⟩), .pointer (some ⟨M, 0, none⟩)] W fun e w' => e = .returned (.bool (dl x)) ∧ Below W.heap.size W w') :
    Calls Try.prog 72 #[.slice A xs.length n, .func (.func 67) #[] #[.pointer (some ⟨D, 0, none⟩), .pointer (some ⟨M, 0, none⟩)]] w fun e w' => e = .returned (.int .i64 (fstOf dl xs 0)) ∧ Below w.heap.size w w' := by
  have HC := Aside0.mk hC
  have HDD := Aside0.mk HD
  have hlen : xs.length ≤ 9223372036854775807 := hC.2.1
  obtain ⟨RES, hres⟩ : ∃ R, R = fstOf dl xs 0 := ⟨_, rfl⟩
  rw [← hres]
  have HRES := Aside0.mk hres.symm
  clear hC HD hres
  go_enter Try.func72, Try.ntmps72
  go_wp2
  go_loopw [8] (fun v8 wr => ∃ k : Nat, k ≤ xs.length ∧ v8 = .int .i64 k ∧ Aside0 (fstOf dl (xs.drop k) k = RES) ∧ Aside0 (Below w.heap.size w wr)) (fun v8 _ => xs.length - (intOf v8).toNat)
  case atStart => exact ⟨0, Nat.zero_le _, rfl, HRES, ⟨Below.refl _ _⟩⟩
  case round =>
    obtain ⟨k, hk, rfl, HF, HB⟩ := hrel
    by_cases hlt : k < xs.length
    · obtain ⟨ad, rfl, hx0⟩ := Kd.at_string (Kd.C_below HC.out HB.out) (k : Int) (by omega) (by omega)
      obtain ⟨x, hxe⟩ : ∃ x, x = rdOf ByteArray.empty xs (k : Int) := ⟨_, rfl⟩
      rw [← hxe, Int.toNat_natCast] at hx0
      have hxg : xs[k] = x := by rw [hxe]; simp [rdOf, List.getD, hlt]
      have hF := HF.out
      rw [List.drop_eq_getElem_cons hlt, hxg, fstOf] at hF
      have h0k : (0 : Int) ≤ (k : Int) := by omega
      have hkl : (k : Int) < (xs.length : Int) := by omega
      clear hxe hxg HF
      cases hd : dl x with
      | true =>
        rw [hd, if_pos rfl] at hF
        subst hF
        go_wp2_with (go_at_call 67; refine (HDD.out _ HB.out x).mono ?_; rintro e w2 ⟨rfl, hb2⟩; rw [hd])
        go_ret
        exact ⟨rfl, below_step HB.out hb2⟩
      | false =>
        rw [hd, if_neg (by decide)] at hF
        have HF := Aside0.mk hF
        clear hF
        go_wp2_with (go_at_call 67; refine (HDD.out _ HB.out x).mono ?_; rintro e w2 ⟨rfl, hb2⟩; rw [hd])
        exact ⟨⟨k + 1, by omega, by rw [show ((k : Int) + 1) = ((k + 1 : Nat) : Int) by omega], ⟨by rw [← HF.out]; rfl⟩, ⟨below_step HB.out hb2⟩⟩, by simp [intOf]; omega⟩
    · have hke : k = xs.length := by omega
      subst hke
      have hF := HF.out
      rw [List.drop_length] at hF
      have hF2 : -1 = RES := hF
      subst hF2
      clear hk HF hF
      go_wp2
      go_ret
      exact ⟨rfl, HB.out⟩
theorem zeroCells_str (v : Value) (m : Nat) : Builtin.zeroCells #[v] m = Array.replicate m v := by
  apply Array.ext
  · simp [Builtin.zeroCells]
  · intro i h1 h2
    simp [Builtin.zeroCells, Nat.mod_one]
theorem run_clear_str {P : Program} (w : World) (t e ty : TypeId) (z : Value) (hz : z.cells = #[z]) (ht : P.underlying t = some (.slice e)) (hv : ∀ w, (zeroValue e).run P w = .ok z w) (h1 : z.oneCell' = true) (b o m c : Nat)
    (hc : ∀ j, j < m → (w.cell? ⟨b, o + j, none⟩).isSome = true) (hf : ∀ j, j < m → w.frozen? ⟨b, o + j, none⟩ = false) :
    (Builtin.clear_ #[t] ty #[.slice (some ⟨b, o, none⟩) m c]).run P w = .ok (.tuple #[]) (w.setCells b o (List.replicate m z)) := by
  have hst := run_storeCells_cells (P := P) b o (List.replicate m z) 0 w (by simpa using hc) (by simpa using hf) (by intro u hu; rw [List.eq_of_mem_replicate hu]; exact h1)
  simp only [Nat.add_zero] at hst
  cases m with
  | zero => simp [Builtin.clear_, run_underlying ht]; rfl
  | succ m => simp [Builtin.clear_, run_underlying ht, hv, hz, zeroCells_str, hst]
/-- Those that stay, of the first so many. -/
def keptOf (dl : ByteArray → Bool) (xs : List ByteArray) : List ByteArray := xs.filter (fun x => !dl x)
set_option maxHeartbeats 1000000 in
theorem delFunc_none (dl : ByteArray → Bool) (D M : Nat) (xs : List ByteArray) (A : Option Addr) (n base : Nat) (hR : Kd.R Kd.string 9 w base (fun _ => True) (.slice A xs.length n) xs)
    (HD : ∀ W, Below w.heap.size w W → ∀ x, Calls Try.prog 67 #[.string x, .pointer (some ⟨D, 0, none⟩), .pointer (some ⟨M, 0, none⟩)] W fun e w' => e = .returned (.bool (dl x)) ∧ Below W.heap.size W w') (h : fstOf dl xs 0 = -1) :
    Calls Try.prog 65 #[.slice A xs.length n, .func (.func 67) #[] #[.pointer (some ⟨D, 0, none⟩), .pointer (some ⟨M, 0, none⟩)]] w fun e w' => e = .returned (.slice A xs.length n) ∧
      Kd.R Kd.string 9 w' base (fun _ => True) (.slice A xs.length n) (keptOf dl xs) ∧ Below w.heap.size w w' := by
  have hnC := Kd.R_reads' hR
  have HX := Aside0.mk (idx53_raw (w := w) dl D M xs A n hnC.2.2 hnC.2.1 HD)
  have HR0 := Aside0.mk hR
  clear hnC hR HD
  have hall := fst_none dl xs 0 (by omega) h
  have hk : keptOf dl xs = xs := by
    unfold keptOf
    rw [List.filter_eq_self]
    intro x hx
    simp [hall x hx]
  rw [hk]
  rw [h] at HX
  clear h hall hk
  go_enter Try.func65, Try.ntmps65
  go_wp2_with (go_at_call 72; refine HX.out.mono ?_; rintro e w' ⟨rfl, hb⟩)
  go_ret
  exact ⟨rfl, Kd.R_below HR0.out hb, hb⟩
set_option maxHeartbeats 4000000 in
theorem delFunc_raw (dl : ByteArray → Bool) (D M : Nat) (xs : List ByteArray) (b n base : Nat) (hR : Kd.R Kd.string 9 w base (fun _ => True) (.slice (some ⟨b, 0, none⟩) xs.length n) xs)
    (HD : ∀ W, w.grownBy W (some b) → ∀ x, Calls Try.prog 67 #[.string x, .pointer (some ⟨D, 0, none⟩), .pointer (some ⟨M, 0, none⟩)] W fun e w' => e = .returned (.bool (dl x)) ∧ Below W.heap.size W w') :
    Calls Try.prog 65 #[.slice (some ⟨b, 0, none⟩) xs.length n, .func (.func 67) #[] #[.pointer (some ⟨D, 0, none⟩), .pointer (some ⟨M, 0, none⟩)]] w fun e w' => ∃ m : Nat, e = .returned (.slice (some ⟨b, 0, none⟩) m n) ∧
      Kd.R Kd.string 9 w' base (fun _ => True) (.slice (some ⟨b, 0, none⟩) m n) (keptOf dl xs) ∧ w.grownBy w' (some b) := by
  have hnC := Kd.R_reads' hR
  have hn : xs.length ≤ n := hnC.2.1
  have hlen : xs.length ≤ 9223372036854775807 := hnC.2.2.2.1
  have HX := Aside0.mk (idx53_raw (w := w) dl D M xs (some ⟨b, 0, none⟩) n hnC.2.2 hn (fun W hb => HD W ⟨hb.os, hb.tape, hb.output, hb.size, fun k hk _ => hb.block k hk⟩))
  have HR0 := Aside0.mk hR
  have HDD := Aside0.mk HD
  clear hnC hR HD
  rcases fst_bd dl xs 0 with h | ⟨i0, h1, h2, h3, h4⟩
  · have hall := fst_none dl xs 0 (by omega) h
    have hk : keptOf dl xs = xs := by
      unfold keptOf
      rw [List.filter_eq_self]
      intro x hx
      simp [hall x hx]
    rw [hk]
    rw [h] at HX
    clear h hall hk
    go_enter Try.func65, Try.ntmps65
    go_wp2_with (go_at_call 72; refine HX.out.mono ?_; rintro e w' ⟨rfl, hb⟩)
    go_ret
    exact ⟨_, rfl, Kd.R_below HR0.out hb, ⟨hb.os, hb.tape, hb.output, hb.size, fun k hk _ => hb.block k hk⟩⟩
  · rw [h1] at HX
    have HPRE : Aside0 (keptOf dl (xs.take (i0 + 1)) = xs.take i0) := ⟨by
      rw [List.take_succ_eq_append_getElem h2]
      unfold keptOf
      rw [List.filter_append, List.filter_eq_self.2 (fun x hx => ?_)]
      · simp [h4 h2]
      · obtain ⟨k, hk, rfl⟩ := List.mem_take_iff_getElem.1 hx
        have := h3 k (by omega) (by omega)
        simp [this]⟩
    have hi0 : ((0 : Int) + (i0 : Int)) = ((i0 : Nat) : Int) := by omega
    rw [hi0] at HX
    clear h1 h3 h4 hi0
    have hne : ((i0 : Int) = -1) = False := eq_false (by omega)
    have hne2 : decide ((i0 : Int) = -1) = false := decide_eq_false (by omega)
    have hne3 : ((i0 : Int) == -1) = false := by rw [beq_eq_false_iff_ne]; omega
    go_enter Try.func65, Try.ntmps65
    go_wp2_with (go_at_call 72; refine HX.out.mono ?_; rintro e w1 ⟨rfl, hb1⟩; have HB1 := Aside0.mk hb1; clear hb1)
    have HG1 : Aside0 (w.grownBy w1 (some b)) := ⟨⟨HB1.out.os, HB1.out.tape, HB1.out.output, HB1.out.size, fun k hk _ => HB1.out.block k hk⟩⟩
    have HR1 := Aside0.mk (Kd.R_below HR0.out HB1.out)
    go_loopw [5, 6] (fun v5 v6 wr => ∃ (i k : Nat) (cur : List ByteArray), i < k ∧ k ≤ xs.length ∧ v5 = .int .i64 i ∧ v6 = .int .i64 k ∧ cur.length = xs.length ∧ Aside0 (cur.take i = keptOf dl (xs.take k)) ∧ Aside0 (cur.drop k = xs.drop k) ∧ Aside0 (Kd.R Kd.string 9 wr base (fun _ => True) (.slice (some ⟨b, 0, none⟩) cur.length n) cur) ∧ Aside0 (w.grownBy wr (some b))) (fun _ v6 _ => xs.length - (intOf v6).toNat)
    case atStart => exact ⟨i0, i0 + 1, xs, by omega, by omega, rfl, by simp, rfl, ⟨HPRE.out.symm⟩, ⟨rfl⟩, HR1, HG1⟩
    case round =>
      obtain ⟨i, k, cur, hik, hk, rfl, rfl, hcl, HT, HDR, HR, HG⟩ := hrel
      obtain ⟨cs9, hb9⟩ := Kd.R_typed HR.out b rfl
      by_cases hlt : k < xs.length
      · obtain ⟨hx0, hxf⟩ := Kd.R_cell ByteArray.empty HR.out (k : Int) (by omega) (by omega)
        obtain ⟨hy0, hyf⟩ := Kd.R_cell ByteArray.empty HR.out (i : Int) (by omega) (by omega)
        have hxg : rdOf ByteArray.empty cur (k : Int) = xs[k] := by
          have h5 := congrArg (fun l : List ByteArray => l[0]?) HDR.out
          simp only [List.getElem?_drop, Nat.add_zero] at h5
          rw [List.getElem?_eq_getElem (by omega), List.getElem?_eq_getElem hlt] at h5
          simp only [rdOf, Int.toNat_natCast, List.getD, List.getElem?_eq_getElem (show k < cur.length by omega)]
          exact Option.some.inj h5
        obtain ⟨x, hxe⟩ : ∃ x, x = xs[k] := ⟨_, rfl⟩
        rw [hxg, ← hxe, Int.toNat_natCast] at hx0
        rw [Int.toNat_natCast] at hxf hy0 hyf
        have HST := Aside0.mk (Kd.R_put HR.out (i : Int) x)
        rw [Int.toNat_natCast] at HST
        have HTK : Aside0 (keptOf dl (xs.take (k + 1)) = keptOf dl (xs.take k) ++ (if dl x = true then [] else [x])) := ⟨by
          rw [List.take_succ_eq_append_getElem hlt, ← hxe]
          unfold keptOf
          rw [List.filter_append]
          cases hd : dl x <;> simp [hd]⟩
        have HDR1 : Aside0 (cur.drop (k + 1) = xs.drop (k + 1)) := ⟨by
          have := congrArg (List.drop 1) HDR.out
          simpa [List.drop_drop, Nat.add_comm] using this⟩
        have h0k : (0 : Int) ≤ (k : Int) := by omega
        have hkl : (k : Int) < (xs.length : Int) := by omega
        have h0i : (0 : Int) ≤ (i : Int) := by omega
        have hil : (i : Int) < (xs.length : Int) := by omega
        have hbl : b < wr.heap.size := blk_lt hb9
        have HB9 := Aside0.mk hb9
        clear hxe hxg hb9 HDR
        cases hd : dl x with
        | true =>
          rw [hd, if_pos rfl, List.append_nil] at HTK
          go_wp2_with (go_at_call 67; refine (HDD.out _ HG.out x).mono ?_; rintro e w2 ⟨rfl, hb2⟩; rw [hd])
          go_roundw
          case measure => simp [intOf]; omega
          case rel => exact ⟨i, k + 1, cur, by omega, by omega, rfl, by rw [show ((k : Int) + 1) = ((k + 1 : Nat) : Int) by omega], hcl, ⟨by rw [HTK.out]; exact HT.out⟩, HDR1, ⟨Kd.R_below HR.out hb2⟩, ⟨Ko.grown_trans HG.out ⟨hb2.os, hb2.tape, hb2.output, hb2.size, fun k hk _ => hb2.block k hk⟩⟩⟩
        | false =>
          rw [hd, if_neg (by decide)] at HTK
          go_wp2_with (go_at_call 67; refine (HDD.out _ HG.out x).mono ?_; rintro e w2 ⟨rfl, hb2⟩; rw [hd]; have hy2 : w2.cell? ⟨b, i, none⟩ = _ := (hb2.cell (p := ⟨b, i, none⟩) hbl).trans hy0; have hyf2 : w2.frozen? ⟨b, i, none⟩ = false := (hb2.frozen (p := ⟨b, i, none⟩) hbl).trans hyf; have HB2 := Aside0.mk hb2; clear hb2)
          have hst2 := Kd.R_put (Kd.R_below HR.out HB2.out) (i : Int) x
          rw [Int.toNat_natCast] at hst2
          have hg2 : w.grownBy w2 (some b) := Ko.grown_trans HG.out ⟨HB2.out.os, HB2.out.tape, HB2.out.output, HB2.out.size, fun k hk _ => HB2.out.block k hk⟩
          go_roundw
          case measure => simp [intOf]; omega
          case rel => exact ⟨i + 1, k + 1, cur.set i x, by omega, by omega, by rw [show ((i : Int) + 1) = ((i + 1 : Nat) : Int) by omega], by rw [show ((k : Int) + 1) = ((k + 1 : Nat) : Int) by omega], by rw [List.length_set]; exact hcl, ⟨by
              rw [HTK.out, List.take_succ_eq_append_getElem (by rw [List.length_set]; omega), List.take_set_of_le (Nat.le_refl _), HT.out]
              simp⟩, ⟨by rw [List.drop_set_of_lt (by omega)]; exact HDR1.out⟩, ⟨by rw [List.length_set]; exact hst2.1⟩, ⟨Ko.grown_trans hg2 hst2.2⟩⟩
      · have hke : k = xs.length := by omega
        subst hke
        have hT := HT.out
        rw [List.take_length] at hT
        have hR2 := Kd.R_take HR.out (m := i) (by omega)
        rw [hT] at hR2
        have hblk : ∃ cs : Array Value, wr.heap[b]? = some (.cells cs 9 (0, 0)) ∧ cs.size = n := by
          obtain ⟨_, inner, hown, _⟩ := HR.out
          rcases hown.2 with ⟨hv, _⟩ | ⟨g', cap', cur', hv, hb, hh, _, hcm, hcs, htake⟩
          · cases hv
          injection hv with ha _ hc
          injection ha with ha
          injection ha with hg
          subst hg; subst hc
          exact ⟨cur', hh, by rw [hcs]; simp [Kd.string, Kd.scalar]⟩
        obtain ⟨cs, hcs, hcsz⟩ := hblk
        have hcz : (n = i) = False := eq_false (by omega)
        have hcz2 : decide (n = i) = false := decide_eq_false (by omega)
        have h0i : (0 : Int) ≤ (i : Int) := by omega
        have hil : (i : Int) ≤ (xs.length : Int) := by omega
        have hin : i ≤ n := by omega
        have hii : i ≤ xs.length := by omega
        have hcl2 : ∀ ty, (Builtin.clear_ #[25] ty #[.slice (some ⟨b, i, none⟩) (xs.length - i) (n - i)]).run Try.prog wr = .ok (.tuple #[]) (wr.setCells b i (List.replicate (xs.length - i) (.string ⟨#[]⟩))) := fun ty =>
          run_clear_str (P := Try.prog) wr 25 9 ty (.string ⟨#[]⟩) rfl Try.underlying25 (fun w => by kernel_rfl) rfl b i (xs.length - i) (n - i) (fun j hj => by rw [blk_cell hcs]; simp [hcsz]; omega) (fun j hj => blk_frozen hcs _)
        have hK := Ko.R_tail hR2 (List.replicate (xs.length - i) (.string ⟨#[]⟩)) (o := i) (by simp [Kd.string, Kd.scalar]) (by simp [Kd.string, Kd.scalar]; omega)
        have HK := Aside0.mk hK
        clear hK hR2 hT hcs hcsz HDR HT HR hcl hik hb9
        go_wp2
        go_ret
        exact ⟨_, rfl, HK.out.1, Ko.grown_trans HG.out HK.out.2⟩
theorem delFunc_any (dl : ByteArray → Bool) (D M : Nat) (xs : List ByteArray) (v : Value) (base : Nat) (hR : Kd.R Kd.string 9 w base (fun _ => True) v xs)
    (HD : ∀ W, w.grownBy W v.ownBlock → ∀ x, Calls Try.prog 67 #[.string x, .pointer (some ⟨D, 0, none⟩), .pointer (some ⟨M, 0, none⟩)] W fun e w' => e = .returned (.bool (dl x)) ∧ Below W.heap.size W w') :
    Calls Try.prog 65 #[v, .func (.func 67) #[] #[.pointer (some ⟨D, 0, none⟩), .pointer (some ⟨M, 0, none⟩)]] w fun e w' => ∃ v' : Value, e = .returned v' ∧
      Kd.R Kd.string 9 w' base (fun _ => True) v' (keptOf dl xs) ∧ w.grownBy w' v.ownBlock := by
  rcases fst_bd dl xs 0 with h | ⟨i, h1, h2, _⟩
  · obtain ⟨A, n, rfl⟩ := Kd.R_slice hR
    refine (delFunc_none dl D M xs A n base hR (fun W hb => HD W ⟨hb.os, hb.tape, hb.output, hb.size, fun k hk _ => hb.block k hk⟩) h).mono ?_
    rintro e w' ⟨rfl, h1, hb⟩
    exact ⟨_, rfl, h1, ⟨hb.os, hb.tape, hb.output, hb.size, fun k hk _ => hb.block k hk⟩⟩
  · obtain ⟨b, n, rfl, _⟩ := Kd.R_form hR (by omega)
    refine (delFunc_raw dl D M xs b n base hR (fun W hg => HD W hg)).mono ?_
    rintro e w' ⟨m, rfl, h1, hb⟩
    exact ⟨_, rfl, h1, hb⟩
def dueOf (s : DS) (now : Int) : List ByteArray := (namesOf s.row true).filter (fun nm => pastB now (deadOf s nm).1)
theorem kept_due (s : DS) (now : Int) : keptOf (delB s now) (namesOf s.row true) = dueOf s now := by
  unfold keptOf dueOf delB
  simp
def drains_Drains_Due.f (s : DS) (now : Int) : Option (List ByteArray × DS) := if s.row.length < 1099511627776 then some (dueOf s now, s) else none
set_option maxHeartbeats 2000000 in
theorem due_raw (now : Int) (hlb : s.row.length < 1099511627776) (hI : IsD w0 w g s) :
    Calls Try.prog 49 #[.pointer (some ⟨g, 0, none⟩), .int .i64 now] w fun e w' => ∃ v1_ : Value, e = .returned v1_ ∧ Kd.R Kd.string 9 w' w.heap.size (fun _ => True) v1_ (dueOf s now) ∧ Below w.heap.size w w' := by
  rw [← kept_due]
  have HI := Aside0.mk hI
  have HU := Aside0.mk (fun W (h : IsD w0 W g s) => under_raw hlb h)
  generalize namesOf s.row true = xs at HU
  clear hI
  obtain ⟨W2, hW2⟩ : ∃ W2, W2 = (w.alloc (.cells #[.pointer (some ⟨g, 0, none⟩)] 60)).alloc (.cells #[.int .i64 now] 3) := ⟨_, rfl⟩
  have HB2 : Aside0 (Below w.heap.size w W2) := ⟨by rw [hW2]; exact below_alloc (below_alloc (Below.refl _ w) _) _⟩
  have HC2 : Aside0 (Caps w0 W2 g w.heap.size (w.heap.size + 1) s now) := ⟨by
    refine ⟨?_, ?_, HI.out.below HB2.out⟩
    · rw [hW2, Below.heap_alloc _ _ _ (by simp)]
      exact heap_alloc_new w _
    · rw [hW2]
      have := heap_alloc_new (w.alloc (.cells #[.pointer (some ⟨g, 0, none⟩)] 60)) (.cells #[.int .i64 now] 3)
      simpa using this⟩
  have HSZ : Aside0 (W2.heap.size = w.heap.size + 2) := ⟨by rw [hW2]; simp⟩
  have hD2 : W2.cell? ⟨w.heap.size, 0, none⟩ = some (.pointer (some ⟨g, 0, none⟩)) := (blk_cell HC2.out.1 0).trans rfl
  go_enter Try.func49, Try.ntmps49
  go_wp2_with (first
    | (go_at_call 66; rw [← hW2]; refine (HU.out _ (HI.out.below HB2.out)).mono ?_; rintro e w3 ⟨v3, rfl, hR3, hb3⟩; have HR3 := Aside0.mk hR3; have HB3 := Aside0.mk hb3; have HC3 := Aside0.mk (HC2.out.below hb3); clear hR3 hb3)
    | (go_at_call 65; refine (delFunc_any (delB s now) w.heap.size (w.heap.size + 1) xs v3 W2.heap.size HR3.out (fun W hg x => due1_raw x (by
        rcases Nat.eq_zero_or_pos xs.length with h0 | hp
        · rcases HR3.out.2 with ⟨inner, hown, _⟩
          rcases hown.2 with ⟨hv, _⟩ | ⟨b, cap, cur, hv, _, hh, _⟩
          · subst hv
            exact HC3.out.move (fun k hk => by obtain ⟨_, _, hk, _⟩ := hk; exact hg.block k (blk_lt hk) (by simp [Value.ownBlock]))
          · subst hv
            exact HC3.out.grown hg hh
        · obtain ⟨b, cap, rfl, _, _, cs, hh⟩ := Kd.R_form HR3.out hp
          exact HC3.out.grown hg hh))).mono ?_; rintro e w4 ⟨v4, rfl, hR4, hg4⟩))
  have hB4 : Below w.heap.size w w4 := (HB2.out.trans (HB3.out.mono HB2.out.size)).grown hg4 (Nat.le_trans HB2.out.size HB3.out.size) (fun k hk => Nat.le_trans HB2.out.size (Kd.R_base HR3.out k hk))
  go_ret
  exact ⟨_, rfl, Kd.R_lower hR4 HB2.out.size, hB4⟩
theorem drains_Drains_Due.calls (g : Nat) (s : DS) (a1 : Int) (r1 : List ByteArray) (s' : DS) (w0 w : World) (hI : IsD w0 w g s) (hB : Below w0.heap.size w0 w) (h : drains_Drains_Due.f s a1 = some (r1, s')) :
    Calls Try.prog 49 #[.pointer (some ⟨g, 0, none⟩), .int .i64 a1] w fun e w' => ∃ v1_ : Value, e = .returned v1_ ∧ Kd.R Kd.string 9 w' w.heap.size (fun _ => True) v1_ r1 ∧ IsD w0 w' g s' ∧ Below w0.heap.size w0 w' ∧ KeptH TD w w' := by
  unfold drains_Drains_Due.f at h
  by_cases hl : s.row.length < 1099511627776
  · rw [if_pos hl] at h
    obtain ⟨rfl, rfl⟩ := Prod.mk.inj (Option.some.inj h)
    refine (due_raw a1 hl hI).mono ?_
    rintro e w' ⟨v, rfl, hR, hb⟩
    exact ⟨v, rfl, hR, done_below hI hB hb⟩
  · rw [if_neg hl] at h
    cases h
end Go.Proofs.Ytmlmiocomlehgaa.Man
namespace Go.Proofs.Ytmlmiocomlehgaa.Man
open Go.RowKit Go.Proofs.YtmlmiocomlehgaaW.PrintWords Go.Proofs.YtmlmiocomlehgaaW.PrintLast Go.Proofs.YtmlmiocomlehgaaW.PrintMore Go.Proofs.Ytmlmiocomlehgaa.PA Go.Proofs.Ytmlmiocomlehgaa.PF Go.Proofs.Ytmlmiocomlehgaa.Hid Go.Proofs.Ytmlmiocomlehgaa.Na
variable {w0 w : World} {g : Nat} {s : DS}
/-- The first one that waits. -/
def headOf : List S88 → Option S88
  | [] => none
  | x :: l => if x.f2 = true then headOf l else some x
def headName (row : List S88) (m : Bool) : ByteArray := match headOf row with
  | some x => if m = true then x.f0 else ⟨#[]⟩
  | none => ⟨#[]⟩
set_option maxHeartbeats 4000000 in
theorem first_raw (G : Nat) (m : Bool) (hI : IsD w0 w g s) (hB : Below w0.heap.size w0 w) (hl : s.row.length ≤ 1000000000)
    (HM : ∀ x, headOf s.row = some x → ∀ W, Below w.heap.size w W → Calls Try.prog 42 #[.pointer (some ⟨G, 0, none⟩), .string x.f0] W fun e W' => e = .returned (.bool m) ∧ Below W.heap.size W W') :
    Calls Try.prog 41 #[.pointer (some ⟨g, 0, none⟩), .func (.func 42) #[.pointer (some ⟨G, 0, none⟩)] #[]] w fun e w' =>
      e = .returned (.tuple #[.string (headName s.row m), .bool (decide (0 ≤ placeOf s.row (headName s.row m) 0))]) ∧ IsD w0 w' g ⟨endRow s.row (headName s.row m)⟩ ∧ Below w0.heap.size w0 w' ∧ KeptH TD w w' := by
  have HE := Aside0.mk (fun (nm : ByteArray) W (h : IsD w0 W g s) (hb : Below w0.heap.size w0 W) => drains_Drains_End.calls g s nm _ ⟨endRow s.row nm⟩ w0 W h hb (if_pos hl))
  have HI := Aside0.mk hI
  have HB0 := Aside0.mk hB
  have HMM := Aside0.mk HM
  obtain ⟨A, n, hbk, hn, hC, hR, hg⟩ := hI.open_
  have h1 : w.cell? ⟨g, 0, none⟩ = some (.slice A s.row.length n) := (blk_cell hbk 0).trans rfl
  have hgl : g < w.heap.size := blk_lt hbk
  have HC := Aside0.mk hC
  have hlen : s.row.length ≤ 9223372036854775807 := hC.2.1
  have HH : Aside0 (headOf (s.row.drop 0) = headOf s.row) := ⟨rfl⟩
  clear hI hB HM hbk hn hC hR
  go_enter Try.func41, Try.ntmps41
  go_wp2
  go_step3
  go_wp2
  go_step3
  go_wp2
  go_loopw [6, 17] (fun v6 v17 wr => ∃ k : Nat, k ≤ s.row.length ∧ v6 = .string ⟨#[]⟩ ∧ v17 = .int .i64 k ∧ Aside0 (headOf (s.row.drop k) = headOf s.row) ∧ Aside0 (Below w.heap.size w wr)) (fun _ v17 _ => s.row.length - (intOf v17).toNat)
  case atStart => exact ⟨0, Nat.zero_le _, rfl, rfl, HH, ⟨Below.refl _ _⟩⟩
  case round =>
    obtain ⟨k, hk, rfl, rfl, HF, HB⟩ := hrel
    by_cases hlt : k < s.row.length
    · obtain ⟨ad, rfl, hx0, hx1, hx2⟩ := at_T88 (Kd.C_below HC.out HB.out) (k : Int) (by omega) (by omega)
      obtain ⟨x, hxe⟩ : ∃ x : S88, x = rd_T88 s.row (k : Int) := ⟨_, rfl⟩
      rw [← hxe, Int.toNat_natCast] at hx0 hx1 hx2
      have hxg : s.row[k] = x := by rw [hxe]; simp [rd_T88, List.getD, hlt]
      have hF := HF.out
      rw [List.drop_eq_getElem_cons hlt, hxg, headOf] at hF
      have h0k : (0 : Int) ≤ (k : Int) := by omega
      have hkl : (k : Int) < (s.row.length : Int) := by omega
      have HBA := Aside0.mk (below_alloc HB.out (.cells #[.string x.f0, .int .i64 x.f1, .bool x.f2] 88))
      clear hxe hxg HF
      cases hu : x.f2 with
      | true =>
        rw [if_pos hu] at hF
        have HF := Aside0.mk hF
        rw [hu] at hx2 HBA
        clear hF
        go_wp2
        go_roundw
        case measure => simp [intOf]; omega
        case rel => exact ⟨k + 1, by omega, rfl, by rw [show ((k : Int) + 1) = ((k + 1 : Nat) : Int) by omega], HF, HBA⟩
      | false =>
        rw [if_neg (by rw [hu]; decide)] at hF
        rw [hu] at hx2 HBA
        have HF := Aside0.mk hF.symm
        clear hF
        cases m with
        | true =>
          have HN : Aside0 (headName s.row true = x.f0) := ⟨by unfold headName; rw [HF.out]; rfl⟩
          go_wp2_with (first
            | (go_at_call 42; refine (HMM.out x HF.out _ HBA.out).mono ?_; rintro e w2 ⟨rfl, hm2⟩; have HM2 := Aside0.mk (below_step HBA.out hm2); have HK2 := Aside0.mk (And.intro (HI.out.below HM2.out) (HB0.out.trans (HM2.out.mono HB0.out.size))); have hc2 : w2.cell? ⟨wr.heap.size, 0, none⟩ = some (.string x.f0) := (World.cell?_of_block (hm2.block wr.heap.size (by simp))).trans (by simp [go_sem]); clear hm2)
            | (go_at_call 40; refine (HE.out x.f0 _ HK2.out.1 HK2.out.2).mono ?_; rintro e w3 ⟨rfl, hi3⟩))
          rw [Exit.noGoto_ret]
          go_ret2
          rw [HN.out]
          exact ⟨rfl, hi3.1, hi3.2.1, (KeptH.of_below HM2.out).trans hi3.2.2⟩
        | false =>
          have HN : Aside0 (headName s.row false = ⟨#[]⟩) := ⟨by unfold headName; rw [HF.out]; rfl⟩
          go_wp2_with (first
            | (go_at_call 42; refine (HMM.out x HF.out _ HBA.out).mono ?_; rintro e w2 ⟨rfl, hm2⟩; have HM2 := Aside0.mk (below_step HBA.out hm2); have HK2 := Aside0.mk (And.intro (HI.out.below HM2.out) (HB0.out.trans (HM2.out.mono HB0.out.size))); have hc2 : w2.cell? ⟨wr.heap.size, 0, none⟩ = some (.string x.f0) := (World.cell?_of_block (hm2.block wr.heap.size (by simp))).trans (by simp [go_sem]); clear hm2)
            | (go_at_call 40; refine (HE.out ⟨#[]⟩ _ HK2.out.1 HK2.out.2).mono ?_; rintro e w3 ⟨rfl, hi3⟩))
          rw [Exit.noGoto_ret]
          go_ret2
          rw [HN.out]
          exact ⟨rfl, hi3.1, hi3.2.1, (KeptH.of_below HM2.out).trans hi3.2.2⟩
    · have hke : k = s.row.length := by omega
      subst hke
      have hF := HF.out
      rw [List.drop_length] at hF
      have HF2 : Aside0 (headOf s.row = none) := ⟨hF.symm⟩
      have HN : Aside0 (headName s.row m = ⟨#[]⟩) := ⟨by unfold headName; rw [HF2.out]⟩
      clear hF HF
      go_wp2_with (go_at_call 40; refine (HE.out ⟨#[]⟩ _ (HI.out.below HB.out) (HB0.out.trans (HB.out.mono HB0.out.size))).mono ?_; rintro e w3 ⟨rfl, hi3⟩)
      rw [Exit.noGoto_ret]
      go_ret2
      rw [HN.out]
      exact ⟨rfl, hi3.1, hi3.2.1, (KeptH.of_below HB.out).trans hi3.2.2⟩
end Go.Proofs.Ytmlmiocomlehgaa.Man
