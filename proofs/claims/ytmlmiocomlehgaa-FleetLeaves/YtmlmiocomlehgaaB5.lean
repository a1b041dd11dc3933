/-
  The fleet: contracts of its functions, proved by walking them, and plain facts, several texts in one (Fj). Conditions: none.
-/
import Derived.Test.YtmlmiocomlehgaaB4
set_option linter.unusedVariables false
set_option linter.unusedSimpArgs false
namespace Go.Proofs.Ytmlmiocomlehgaa.Man
open Go.RowKit Go.Proofs.YtmlmiocomlehgaaW.PrintWords Go.Proofs.YtmlmiocomlehgaaW.PrintLast Go.Proofs.YtmlmiocomlehgaaW.PrintMore Go.Proofs.Ytmlmiocomlehgaa.PA Go.Proofs.Ytmlmiocomlehgaa.PF Go.Proofs.Ytmlmiocomlehgaa.Hid Go.Proofs.Ytmlmiocomlehgaa.Na
variable {w0 w : World} {g gd : Nat} {v : Value} {ps : List Nat} {s : FS}
/-- The drains when a host leaves: none that waits is of its name. -/
def leaveD (d : DS) (nm : ByteArray) : DS := if 0 ≤ idxOf (namesOf d.row false) nm 0 then endF d nm else d
/-- What a host that leaves makes of the fleet. -/
def leaveF (s : FS) (x : HV) (dl : Int) : FS :=
  if x.st = 3 then { s with hs := delH s.hs x.nm, ds := leaveD s.ds x.nm }
  else if nextB x.st 5 = true then { s with hs := setH s.hs x.nm ⟨x.nm, nextS x.st 5, true⟩, ds := (beginF (leaveD s.ds x.nm) x.nm dl).2 }
  else { s with hs := setH s.hs x.nm ⟨x.nm, x.st, true⟩, ds := leaveD s.ds x.nm }
def leaveP (x : HV) (i : Nat) (ps : List Nat) : List Nat := if x.st = 3 then ps.eraseIdx i else ps
theorem leaveD_len (d : DS) (nm : ByteArray) : (leaveD d nm).row.length ≤ d.row.length := by
  unfold leaveD
  split
  · exact endRow_len _ _
  · exact Nat.le_refl _
theorem SX.drew (h : SX w0 w w g gd v ps s) : SX w0 w w.drew g gd v ps s := ⟨h.1.below (below_drew1 (Below.refl _ _)), below_drew1 h.2.1, KeptH.of_below (below_drew1 (Below.refl _ _))⟩
theorem eraseIdx_set {α : Type} (l : List α) (i : Nat) (a : α) : (l.set i a).eraseIdx i = l.eraseIdx i := List.eraseIdx_set_eq
section
variable {i p : Nat} {x : HV} (dl : Int) (hl : s.ds.row.length ≤ 1000000000) (hh : s.hs.length ≤ 1000000000) (hI : IsX w0 w g gd v ps s) (hB : Below w0.heap.size w0 w) (hp : ps[i]? = some p) (hx : s.hs[i]? = some x)
include hl hh hI hB hp hx
set_option maxHeartbeats 4000000 in
theorem leave_3a (ca :  0 ≤ idxOf (namesOf s.ds.row false) x.nm 0) (c3 : x.st = 3) :
    Calls Try.prog 37 #[ptr g, ptr p, .int .i64 dl] w fun e w' => e = .returned (.tuple #[]) ∧ ∃ v', SX w0 w w' g gd v' (ps.eraseIdx i) { s with hs := s.hs.eraseIdx i, ds := endF s.ds x.nm } ∧ w'.cell? ⟨p, 0, none⟩ = some (.string x.nm) := by
    have HI0 := Aside0.mk hI
    have HB0 := Aside0.mk hB
    have HK0 := Aside0.mk (KeptH.refl TG w)
    have HP := Aside0.mk hp
    have HX := Aside0.mk hx
    have hilt : i < s.hs.length := (List.getElem?_eq_some_iff.1 hx).1
    have hpsl : ps.length ≤ 1000000000 := by rw [hI.len]; exact hh
    have hl2 : (endF s.ds x.nm).row.length ≤ 1000000000 := Nat.le_trans (endRow_len s.ds.row x.nm) hl
    have HA := Aside0.mk (fun W (h : IsX w0 W g gd v ps s) => aheadX x.nm hl h)
    generalize idxOf (namesOf s.ds.row false) x.nm 0 = ia at HA ca
    have cab : decide (0 ≤ ia) = true := decide_eq_true ca
    have c3b : (x.st == 3) = true := by rw [beq_iff_eq]; exact c3
    clear hI hB hp hx
    go_enter Try.func37, Try.ntmps37
    go_wp2
    have HI1 := Aside0.mk (HI0.out.below (below_drew1 (Below.refl _ w)))
    have HB1 := Aside0.mk (below_drew1 HB0.out)
    have HK1 := Aside0.mk (HK0.out.below (below_drew1 (Below.refl _ w)))
    obtain ⟨qa1, qb1, qc1⟩ := HI1.out.hst HP.out HX.out; have qf1 : w.drew.frozen? ⟨p, 2, none⟩ = false := blk_frozen (HI1.out.hb i p _ HP.out HX.out).2 2; have hpl1 : p < w.drew.heap.size := blk_lt (HI1.out.hb i p _ HP.out HX.out).2; have c01 := HI1.out.cell0; have hgl1 : g < w.drew.heap.size := blk_lt HI1.out.blk
    go_region_with (go_at_call 48; refine (HA.out _ HI1.out).mono ?_; rintro e w2 ⟨rfl, hb⟩; have HI2 := Aside0.mk (HI1.out.below hb); have HB2 := Aside0.mk (below_step HB1.out hb); have HK2 := Aside0.mk (HK1.out.below hb); clear hb; obtain ⟨qa2, qb2, qc2⟩ := HI2.out.hst HP.out HX.out; have qf2 : w2.frozen? ⟨p, 2, none⟩ = false := blk_frozen (HI2.out.hb i p _ HP.out HX.out).2 2; have hpl2 : p < w2.heap.size := blk_lt (HI2.out.hb i p _ HP.out HX.out).2; have c02 := HI2.out.cell0; have hgl2 : g < w2.heap.size := blk_lt HI2.out.blk)
    all_goals
      go_wp2
      have HI3 := Aside0.mk (HI2.out.below (below_drew1 (Below.refl _ w2)))
      have HB3 := Aside0.mk (below_drew1 HB2.out)
      have HK3 := Aside0.mk (HK2.out.below (below_drew1 (Below.refl _ w2)))
      obtain ⟨qa3, qb3, qc3⟩ := HI3.out.hst HP.out HX.out; have qf3 : w2.drew.frozen? ⟨p, 2, none⟩ = false := blk_frozen (HI3.out.hb i p _ HP.out HX.out).2 2; have hpl3 : p < w2.drew.heap.size := blk_lt (HI3.out.hb i p _ HP.out HX.out).2; have c03 := HI3.out.cell0; have hgl3 : g < w2.drew.heap.size := blk_lt HI3.out.blk
      go_region_with (go_at_call 40; refine (endX x.nm hl HI3.out HB3.out).mono ?_; rintro e w4 ⟨rfl, hs⟩; have HI4 := Aside0.mk hs.1; have HB4 := Aside0.mk hs.2.1; have HK4 := Aside0.mk (HK3.out.trans hs.2.2); clear hs; obtain ⟨qa4, qb4, qc4⟩ := HI4.out.hst HP.out HX.out; have qf4 : w4.frozen? ⟨p, 2, none⟩ = false := blk_frozen (HI4.out.hb i p _ HP.out HX.out).2 2; have hpl4 : p < w4.heap.size := blk_lt (HI4.out.hb i p _ HP.out HX.out).2; have c04 := HI4.out.cell0; have hgl4 : g < w4.heap.size := blk_lt HI4.out.blk)
      all_goals
        have HT := IsX.turn (y := ⟨x.nm, x.st, true⟩) (j := 2) (u := .bool true) HI4.out HB4.out HP.out HX.out rfl (by simpa using blk_set (HI4.out.hb i p _ HP.out HX.out).2 2 _)
        obtain ⟨w5, hw5⟩ : ∃ W, W = w4.setCell ⟨p, 2, none⟩ (.bool true) := ⟨_, rfl⟩
        rw [← hw5] at HT
        have HI5 := Aside0.mk HT.1
        have HB5 := Aside0.mk HT.2.1
        have HK5 := Aside0.mk (HK4.out.trans HT.2.2)
        clear HT
        have HX5 := Aside0.mk (List.getElem?_set_self (a := (⟨x.nm, x.st, true⟩ : HV)) hilt)
        obtain ⟨qa5, qb5, qc5⟩ := HI5.out.hst HP.out HX5.out
        have qf5 : w5.frozen? ⟨p, 2, none⟩ = false := blk_frozen (HI5.out.hb i p _ HP.out HX5.out).2 2
        have hpl5 : p < w5.heap.size := blk_lt (HI5.out.hb i p _ HP.out HX5.out).2
        have c05 := HI5.out.cell0
        have hgl5 : g < w5.heap.size := blk_lt HI5.out.blk
        have hilt2 : i < (s.hs.set i ⟨x.nm, x.st, true⟩).length := by rw [List.length_set]; exact hilt
        clear qa1 qb1 qc1 qf1 hpl1 c01 hgl1
        go_wp2_with (first
          | (go_at_call 50; rw [← hw5]; refine (away_full hpsl HI5.out HB5.out HP.out).mono ?_; rintro e w6 ⟨rfl, ⟨v6, hs⟩, hoth⟩; have HNM : Aside0 (w6.cell? ⟨p, 0, none⟩ = some (.string x.nm)) := ⟨(World.cell?_of_block (hoth p hpl5 (fun e => by have h1 := (HI5.out.hb i p _ HP.out HX5.out).2; rw [e, HI5.out.blk] at h1; injection h1 with h1; injection h1 with _ h1 _; exact absurd h1 (by decide)))).trans qa5⟩; clear hoth; have HI6 := Aside0.mk hs.1; have HB6 := Aside0.mk hs.2.1; have HK6 := Aside0.mk (HK5.out.trans hs.2.2); clear hs))
        refine bodyPost_end (results_none rfl _ _ _) rfl ?_
        have hfin := HI6.out
        simp only [eraseIdx_set] at hfin
        exact ⟨rfl, _, ⟨hfin, HB6.out, HK6.out⟩, HNM.out⟩
set_option maxHeartbeats 4000000 in
theorem leave_yesa (ca :  0 ≤ idxOf (namesOf s.ds.row false) x.nm 0) (c3 : x.st ≠ 3) (cn : nextB x.st 5 = true) :
    Calls Try.prog 37 #[ptr g, ptr p, .int .i64 dl] w fun e w' => e = .returned (.tuple #[]) ∧ ∃ v', SX w0 w w' g gd v' ps { s with hs := s.hs.set i ⟨x.nm, nextS x.st 5, true⟩, ds := (beginF (endF s.ds x.nm) x.nm dl).2 } ∧ w'.cell? ⟨p, 0, none⟩ = some (.string x.nm) := by
    have HI0 := Aside0.mk hI
    have HB0 := Aside0.mk hB
    have HK0 := Aside0.mk (KeptH.refl TG w)
    have HP := Aside0.mk hp
    have HX := Aside0.mk hx
    have hilt : i < s.hs.length := (List.getElem?_eq_some_iff.1 hx).1
    have hpsl : ps.length ≤ 1000000000 := by rw [hI.len]; exact hh
    have hl2 : (endF s.ds x.nm).row.length ≤ 1000000000 := Nat.le_trans (endRow_len s.ds.row x.nm) hl
    have HA := Aside0.mk (fun W (h : IsX w0 W g gd v ps s) => aheadX x.nm hl h)
    generalize idxOf (namesOf s.ds.row false) x.nm 0 = ia at HA ca
    have cab : decide (0 ≤ ia) = true := decide_eq_true ca
    have c3b : (x.st == 3) = false := by rw [beq_eq_false_iff_ne]; exact c3
    clear hI hB hp hx
    go_enter Try.func37, Try.ntmps37
    go_wp2
    have HI1 := Aside0.mk (HI0.out.below (below_drew1 (Below.refl _ w)))
    have HB1 := Aside0.mk (below_drew1 HB0.out)
    have HK1 := Aside0.mk (HK0.out.below (below_drew1 (Below.refl _ w)))
    obtain ⟨qa1, qb1, qc1⟩ := HI1.out.hst HP.out HX.out; have qf1 : w.drew.frozen? ⟨p, 2, none⟩ = false := blk_frozen (HI1.out.hb i p _ HP.out HX.out).2 2; have hpl1 : p < w.drew.heap.size := blk_lt (HI1.out.hb i p _ HP.out HX.out).2; have c01 := HI1.out.cell0; have hgl1 : g < w.drew.heap.size := blk_lt HI1.out.blk
    go_region_with (go_at_call 48; refine (HA.out _ HI1.out).mono ?_; rintro e w2 ⟨rfl, hb⟩; have HI2 := Aside0.mk (HI1.out.below hb); have HB2 := Aside0.mk (below_step HB1.out hb); have HK2 := Aside0.mk (HK1.out.below hb); clear hb; obtain ⟨qa2, qb2, qc2⟩ := HI2.out.hst HP.out HX.out; have qf2 : w2.frozen? ⟨p, 2, none⟩ = false := blk_frozen (HI2.out.hb i p _ HP.out HX.out).2 2; have hpl2 : p < w2.heap.size := blk_lt (HI2.out.hb i p _ HP.out HX.out).2; have c02 := HI2.out.cell0; have hgl2 : g < w2.heap.size := blk_lt HI2.out.blk)
    all_goals
      go_wp2
      have HI3 := Aside0.mk (HI2.out.below (below_drew1 (Below.refl _ w2)))
      have HB3 := Aside0.mk (below_drew1 HB2.out)
      have HK3 := Aside0.mk (HK2.out.below (below_drew1 (Below.refl _ w2)))
      obtain ⟨qa3, qb3, qc3⟩ := HI3.out.hst HP.out HX.out; have qf3 : w2.drew.frozen? ⟨p, 2, none⟩ = false := blk_frozen (HI3.out.hb i p _ HP.out HX.out).2 2; have hpl3 : p < w2.drew.heap.size := blk_lt (HI3.out.hb i p _ HP.out HX.out).2; have c03 := HI3.out.cell0; have hgl3 : g < w2.drew.heap.size := blk_lt HI3.out.blk
      go_region_with (go_at_call 40; refine (endX x.nm hl HI3.out HB3.out).mono ?_; rintro e w4 ⟨rfl, hs⟩; have HI4 := Aside0.mk hs.1; have HB4 := Aside0.mk hs.2.1; have HK4 := Aside0.mk (HK3.out.trans hs.2.2); clear hs; obtain ⟨qa4, qb4, qc4⟩ := HI4.out.hst HP.out HX.out; have qf4 : w4.frozen? ⟨p, 2, none⟩ = false := blk_frozen (HI4.out.hb i p _ HP.out HX.out).2 2; have hpl4 : p < w4.heap.size := blk_lt (HI4.out.hb i p _ HP.out HX.out).2; have c04 := HI4.out.cell0; have hgl4 : g < w4.heap.size := blk_lt HI4.out.blk)
      all_goals
        have HT := IsX.turn (y := ⟨x.nm, x.st, true⟩) (j := 2) (u := .bool true) HI4.out HB4.out HP.out HX.out rfl (by simpa using blk_set (HI4.out.hb i p _ HP.out HX.out).2 2 _)
        obtain ⟨w5, hw5⟩ : ∃ W, W = w4.setCell ⟨p, 2, none⟩ (.bool true) := ⟨_, rfl⟩
        rw [← hw5] at HT
        have HI5 := Aside0.mk HT.1
        have HB5 := Aside0.mk HT.2.1
        have HK5 := Aside0.mk (HK4.out.trans HT.2.2)
        clear HT
        have HX5 := Aside0.mk (List.getElem?_set_self (a := (⟨x.nm, x.st, true⟩ : HV)) hilt)
        obtain ⟨qa5, qb5, qc5⟩ := HI5.out.hst HP.out HX5.out
        have qf5 : w5.frozen? ⟨p, 2, none⟩ = false := blk_frozen (HI5.out.hb i p _ HP.out HX5.out).2 2
        have hpl5 : p < w5.heap.size := blk_lt (HI5.out.hb i p _ HP.out HX5.out).2
        have c05 := HI5.out.cell0
        have hgl5 : g < w5.heap.size := blk_lt HI5.out.blk
        have hilt2 : i < (s.hs.set i ⟨x.nm, x.st, true⟩).length := by rw [List.length_set]; exact hilt
        clear qa1 qb1 qc1 qf1 hpl1 c01 hgl1
        go_wp2_with (first
          | (go_at_call 39; rw [← hw5]; refine (happens_raw 5 HI5.out HB5.out HP.out HX5.out _).mono ?_; rintro e w6 ⟨rfl, hs⟩; have HI6 := Aside0.mk hs.1; have HB6 := Aside0.mk hs.2.1; have HK6 := Aside0.mk (HK5.out.trans hs.2.2); clear hs; have HX6 := Aside0.mk (List.getElem?_set_self (a := (⟨x.nm, nextS x.st 5, true⟩ : HV)) hilt2); obtain ⟨qa6, qb6, qc6⟩ := HI6.out.hst HP.out HX6.out; have qf6 : w6.frozen? ⟨p, 2, none⟩ = false := blk_frozen (HI6.out.hb i p _ HP.out HX6.out).2 2; have hpl6 : p < w6.heap.size := blk_lt (HI6.out.hb i p _ HP.out HX6.out).2; have c06 := HI6.out.cell0; have hgl6 : g < w6.heap.size := blk_lt HI6.out.blk))
        have HI7 := Aside0.mk (HI6.out.below (below_drew1 (Below.refl _ w6)))
        have HB7 := Aside0.mk (below_drew1 HB6.out)
        have HK7 := Aside0.mk (HK6.out.below (below_drew1 (Below.refl _ w6)))
        obtain ⟨qa7, qb7, qc7⟩ := HI7.out.hst HP.out HX6.out; have qf7 : w6.drew.frozen? ⟨p, 2, none⟩ = false := blk_frozen (HI7.out.hb i p _ HP.out HX6.out).2 2; have hpl7 : p < w6.drew.heap.size := blk_lt (HI7.out.hb i p _ HP.out HX6.out).2; have c07 := HI7.out.cell0; have hgl7 : g < w6.drew.heap.size := blk_lt HI7.out.blk
        go_region_with (go_at_call 43; refine (beginX (s := { s with hs := (s.hs.set i ⟨x.nm, x.st, true⟩).set i ⟨x.nm, nextS x.st 5, true⟩, ds := endF s.ds x.nm }) x.nm dl hl2 HI7.out HB7.out).mono ?_; rintro e w8 ⟨rfl, hs⟩; have HI8 := Aside0.mk hs.1; have HB8 := Aside0.mk hs.2.1; have HK8 := Aside0.mk (HK7.out.trans hs.2.2); clear hs; skip)
        all_goals
          go_wp2
          refine bodyPost_end (results_none rfl _ _ _) rfl ?_
          have hfin := HI8.out
          simp only [List.set_set] at hfin
          exact ⟨rfl, _, ⟨hfin, HB8.out, HK8.out⟩, (HI8.out.hst HP.out HX6.out).1⟩
set_option maxHeartbeats 4000000 in
theorem leave_noa (ca :  0 ≤ idxOf (namesOf s.ds.row false) x.nm 0) (c3 : x.st ≠ 3) (cn : nextB x.st 5 = false) :
    Calls Try.prog 37 #[ptr g, ptr p, .int .i64 dl] w fun e w' => e = .returned (.tuple #[]) ∧ ∃ v', SX w0 w w' g gd v' ps { s with hs := s.hs.set i ⟨x.nm, x.st, true⟩, ds := endF s.ds x.nm } ∧ w'.cell? ⟨p, 0, none⟩ = some (.string x.nm) := by
    have HI0 := Aside0.mk hI
    have HB0 := Aside0.mk hB
    have HK0 := Aside0.mk (KeptH.refl TG w)
    have HP := Aside0.mk hp
    have HX := Aside0.mk hx
    have hilt : i < s.hs.length := (List.getElem?_eq_some_iff.1 hx).1
    have hpsl : ps.length ≤ 1000000000 := by rw [hI.len]; exact hh
    have hl2 : (endF s.ds x.nm).row.length ≤ 1000000000 := Nat.le_trans (endRow_len s.ds.row x.nm) hl
    have HA := Aside0.mk (fun W (h : IsX w0 W g gd v ps s) => aheadX x.nm hl h)
    generalize idxOf (namesOf s.ds.row false) x.nm 0 = ia at HA ca
    have cab : decide (0 ≤ ia) = true := decide_eq_true ca
    have c3b : (x.st == 3) = false := by rw [beq_eq_false_iff_ne]; exact c3
    have hno := next_no cn
    clear hI hB hp hx
    go_enter Try.func37, Try.ntmps37
    go_wp2
    have HI1 := Aside0.mk (HI0.out.below (below_drew1 (Below.refl _ w)))
    have HB1 := Aside0.mk (below_drew1 HB0.out)
    have HK1 := Aside0.mk (HK0.out.below (below_drew1 (Below.refl _ w)))
    obtain ⟨qa1, qb1, qc1⟩ := HI1.out.hst HP.out HX.out; have qf1 : w.drew.frozen? ⟨p, 2, none⟩ = false := blk_frozen (HI1.out.hb i p _ HP.out HX.out).2 2; have hpl1 : p < w.drew.heap.size := blk_lt (HI1.out.hb i p _ HP.out HX.out).2; have c01 := HI1.out.cell0; have hgl1 : g < w.drew.heap.size := blk_lt HI1.out.blk
    go_region_with (go_at_call 48; refine (HA.out _ HI1.out).mono ?_; rintro e w2 ⟨rfl, hb⟩; have HI2 := Aside0.mk (HI1.out.below hb); have HB2 := Aside0.mk (below_step HB1.out hb); have HK2 := Aside0.mk (HK1.out.below hb); clear hb; obtain ⟨qa2, qb2, qc2⟩ := HI2.out.hst HP.out HX.out; have qf2 : w2.frozen? ⟨p, 2, none⟩ = false := blk_frozen (HI2.out.hb i p _ HP.out HX.out).2 2; have hpl2 : p < w2.heap.size := blk_lt (HI2.out.hb i p _ HP.out HX.out).2; have c02 := HI2.out.cell0; have hgl2 : g < w2.heap.size := blk_lt HI2.out.blk)
    all_goals
      go_wp2
      have HI3 := Aside0.mk (HI2.out.below (below_drew1 (Below.refl _ w2)))
      have HB3 := Aside0.mk (below_drew1 HB2.out)
      have HK3 := Aside0.mk (HK2.out.below (below_drew1 (Below.refl _ w2)))
      obtain ⟨qa3, qb3, qc3⟩ := HI3.out.hst HP.out HX.out; have qf3 : w2.drew.frozen? ⟨p, 2, none⟩ = false := blk_frozen (HI3.out.hb i p _ HP.out HX.out).2 2; have hpl3 : p < w2.drew.heap.size := blk_lt (HI3.out.hb i p _ HP.out HX.out).2; have c03 := HI3.out.cell0; have hgl3 : g < w2.drew.heap.size := blk_lt HI3.out.blk
      go_region_with (go_at_call 40; refine (endX x.nm hl HI3.out HB3.out).mono ?_; rintro e w4 ⟨rfl, hs⟩; have HI4 := Aside0.mk hs.1; have HB4 := Aside0.mk hs.2.1; have HK4 := Aside0.mk (HK3.out.trans hs.2.2); clear hs; obtain ⟨qa4, qb4, qc4⟩ := HI4.out.hst HP.out HX.out; have qf4 : w4.frozen? ⟨p, 2, none⟩ = false := blk_frozen (HI4.out.hb i p _ HP.out HX.out).2 2; have hpl4 : p < w4.heap.size := blk_lt (HI4.out.hb i p _ HP.out HX.out).2; have c04 := HI4.out.cell0; have hgl4 : g < w4.heap.size := blk_lt HI4.out.blk)
      all_goals
        have HT := IsX.turn (y := ⟨x.nm, x.st, true⟩) (j := 2) (u := .bool true) HI4.out HB4.out HP.out HX.out rfl (by simpa using blk_set (HI4.out.hb i p _ HP.out HX.out).2 2 _)
        obtain ⟨w5, hw5⟩ : ∃ W, W = w4.setCell ⟨p, 2, none⟩ (.bool true) := ⟨_, rfl⟩
        rw [← hw5] at HT
        have HI5 := Aside0.mk HT.1
        have HB5 := Aside0.mk HT.2.1
        have HK5 := Aside0.mk (HK4.out.trans HT.2.2)
        clear HT
        have HX5 := Aside0.mk (List.getElem?_set_self (a := (⟨x.nm, x.st, true⟩ : HV)) hilt)
        obtain ⟨qa5, qb5, qc5⟩ := HI5.out.hst HP.out HX5.out
        have qf5 : w5.frozen? ⟨p, 2, none⟩ = false := blk_frozen (HI5.out.hb i p _ HP.out HX5.out).2 2
        have hpl5 : p < w5.heap.size := blk_lt (HI5.out.hb i p _ HP.out HX5.out).2
        have c05 := HI5.out.cell0
        have hgl5 : g < w5.heap.size := blk_lt HI5.out.blk
        have hilt2 : i < (s.hs.set i ⟨x.nm, x.st, true⟩).length := by rw [List.length_set]; exact hilt
        clear qa1 qb1 qc1 qf1 hpl1 c01 hgl1
        go_wp2_with (first
          | (go_at_call 39; rw [← hw5]; refine (happens_raw 5 HI5.out HB5.out HP.out HX5.out _).mono ?_; rintro e w6 ⟨rfl, hs⟩; have HI6 := Aside0.mk hs.1; have HB6 := Aside0.mk hs.2.1; have HK6 := Aside0.mk (HK5.out.trans hs.2.2); clear hs; have HX6 := Aside0.mk (List.getElem?_set_self (a := (⟨x.nm, nextS x.st 5, true⟩ : HV)) hilt2); obtain ⟨qa6, qb6, qc6⟩ := HI6.out.hst HP.out HX6.out; have qf6 : w6.frozen? ⟨p, 2, none⟩ = false := blk_frozen (HI6.out.hb i p _ HP.out HX6.out).2 2; have hpl6 : p < w6.heap.size := blk_lt (HI6.out.hb i p _ HP.out HX6.out).2; have c06 := HI6.out.cell0; have hgl6 : g < w6.heap.size := blk_lt HI6.out.blk))
        refine bodyPost_end (results_none rfl _ _ _) rfl ?_
        have hfin := HI6.out
        simp only [List.set_set, hno] at hfin
        exact ⟨rfl, _, ⟨hfin, HB6.out, HK6.out⟩, qa6⟩
set_option maxHeartbeats 4000000 in
theorem leave_3n (ca : ¬ 0 ≤ idxOf (namesOf s.ds.row false) x.nm 0) (c3 : x.st = 3) :
    Calls Try.prog 37 #[ptr g, ptr p, .int .i64 dl] w fun e w' => e = .returned (.tuple #[]) ∧ ∃ v', SX w0 w w' g gd v' (ps.eraseIdx i) { s with hs := s.hs.eraseIdx i, ds := s.ds } ∧ w'.cell? ⟨p, 0, none⟩ = some (.string x.nm) := by
    have HI0 := Aside0.mk hI
    have HB0 := Aside0.mk hB
    have HK0 := Aside0.mk (KeptH.refl TG w)
    have HP := Aside0.mk hp
    have HX := Aside0.mk hx
    have hilt : i < s.hs.length := (List.getElem?_eq_some_iff.1 hx).1
    have hpsl : ps.length ≤ 1000000000 := by rw [hI.len]; exact hh
    have hl2 : (endF s.ds x.nm).row.length ≤ 1000000000 := Nat.le_trans (endRow_len s.ds.row x.nm) hl
    have HA := Aside0.mk (fun W (h : IsX w0 W g gd v ps s) => aheadX x.nm hl h)
    generalize idxOf (namesOf s.ds.row false) x.nm 0 = ia at HA ca
    have cab : decide (0 ≤ ia) = false := decide_eq_false ca
    have c3b : (x.st == 3) = true := by rw [beq_iff_eq]; exact c3
    clear hI hB hp hx
    go_enter Try.func37, Try.ntmps37
    go_wp2
    have HI1 := Aside0.mk (HI0.out.below (below_drew1 (Below.refl _ w)))
    have HB1 := Aside0.mk (below_drew1 HB0.out)
    have HK1 := Aside0.mk (HK0.out.below (below_drew1 (Below.refl _ w)))
    obtain ⟨qa1, qb1, qc1⟩ := HI1.out.hst HP.out HX.out; have qf1 : w.drew.frozen? ⟨p, 2, none⟩ = false := blk_frozen (HI1.out.hb i p _ HP.out HX.out).2 2; have hpl1 : p < w.drew.heap.size := blk_lt (HI1.out.hb i p _ HP.out HX.out).2; have c01 := HI1.out.cell0; have hgl1 : g < w.drew.heap.size := blk_lt HI1.out.blk
    go_region_with (go_at_call 48; refine (HA.out _ HI1.out).mono ?_; rintro e w2 ⟨rfl, hb⟩; have HI2 := Aside0.mk (HI1.out.below hb); have HB2 := Aside0.mk (below_step HB1.out hb); have HK2 := Aside0.mk (HK1.out.below hb); clear hb; obtain ⟨qa2, qb2, qc2⟩ := HI2.out.hst HP.out HX.out; have qf2 : w2.frozen? ⟨p, 2, none⟩ = false := blk_frozen (HI2.out.hb i p _ HP.out HX.out).2 2; have hpl2 : p < w2.heap.size := blk_lt (HI2.out.hb i p _ HP.out HX.out).2; have c02 := HI2.out.cell0; have hgl2 : g < w2.heap.size := blk_lt HI2.out.blk)
    all_goals
      have HT := IsX.turn (y := ⟨x.nm, x.st, true⟩) (j := 2) (u := .bool true) HI2.out HB2.out HP.out HX.out rfl (by simpa using blk_set (HI2.out.hb i p _ HP.out HX.out).2 2 _)
      obtain ⟨w5, hw5⟩ : ∃ W, W = w2.setCell ⟨p, 2, none⟩ (.bool true) := ⟨_, rfl⟩
      rw [← hw5] at HT
      have HI5 := Aside0.mk HT.1
      have HB5 := Aside0.mk HT.2.1
      have HK5 := Aside0.mk (HK2.out.trans HT.2.2)
      clear HT
      have HX5 := Aside0.mk (List.getElem?_set_self (a := (⟨x.nm, x.st, true⟩ : HV)) hilt)
      obtain ⟨qa5, qb5, qc5⟩ := HI5.out.hst HP.out HX5.out
      have qf5 : w5.frozen? ⟨p, 2, none⟩ = false := blk_frozen (HI5.out.hb i p _ HP.out HX5.out).2 2
      have hpl5 : p < w5.heap.size := blk_lt (HI5.out.hb i p _ HP.out HX5.out).2
      have c05 := HI5.out.cell0
      have hgl5 : g < w5.heap.size := blk_lt HI5.out.blk
      have hilt2 : i < (s.hs.set i ⟨x.nm, x.st, true⟩).length := by rw [List.length_set]; exact hilt
      clear qa1 qb1 qc1 qf1 hpl1 c01 hgl1
      go_wp2_with (first
        | (go_at_call 50; rw [← hw5]; refine (away_full hpsl HI5.out HB5.out HP.out).mono ?_; rintro e w6 ⟨rfl, ⟨v6, hs⟩, hoth⟩; have HNM : Aside0 (w6.cell? ⟨p, 0, none⟩ = some (.string x.nm)) := ⟨(World.cell?_of_block (hoth p hpl5 (fun e => by have h1 := (HI5.out.hb i p _ HP.out HX5.out).2; rw [e, HI5.out.blk] at h1; injection h1 with h1; injection h1 with _ h1 _; exact absurd h1 (by decide)))).trans qa5⟩; clear hoth; have HI6 := Aside0.mk hs.1; have HB6 := Aside0.mk hs.2.1; have HK6 := Aside0.mk (HK5.out.trans hs.2.2); clear hs))
      refine bodyPost_end (results_none rfl _ _ _) rfl ?_
      have hfin := HI6.out
      simp only [eraseIdx_set] at hfin
      exact ⟨rfl, _, ⟨hfin, HB6.out, HK6.out⟩, HNM.out⟩
set_option maxHeartbeats 4000000 in
theorem leave_yesn (ca : ¬ 0 ≤ idxOf (namesOf s.ds.row false) x.nm 0) (c3 : x.st ≠ 3) (cn : nextB x.st 5 = true) :
    Calls Try.prog 37 #[ptr g, ptr p, .int .i64 dl] w fun e w' => e = .returned (.tuple #[]) ∧ ∃ v', SX w0 w w' g gd v' ps { s with hs := s.hs.set i ⟨x.nm, nextS x.st 5, true⟩, ds := (beginF (s.ds) x.nm dl).2 } ∧ w'.cell? ⟨p, 0, none⟩ = some (.string x.nm) := by
    have HI0 := Aside0.mk hI
    have HB0 := Aside0.mk hB
    have HK0 := Aside0.mk (KeptH.refl TG w)
    have HP := Aside0.mk hp
    have HX := Aside0.mk hx
    have hilt : i < s.hs.length := (List.getElem?_eq_some_iff.1 hx).1
    have hpsl : ps.length ≤ 1000000000 := by rw [hI.len]; exact hh
    have hl2 : (endF s.ds x.nm).row.length ≤ 1000000000 := Nat.le_trans (endRow_len s.ds.row x.nm) hl
    have HA := Aside0.mk (fun W (h : IsX w0 W g gd v ps s) => aheadX x.nm hl h)
    generalize idxOf (namesOf s.ds.row false) x.nm 0 = ia at HA ca
    have cab : decide (0 ≤ ia) = false := decide_eq_false ca
    have c3b : (x.st == 3) = false := by rw [beq_eq_false_iff_ne]; exact c3
    clear hI hB hp hx
    go_enter Try.func37, Try.ntmps37
    go_wp2
    have HI1 := Aside0.mk (HI0.out.below (below_drew1 (Below.refl _ w)))
    have HB1 := Aside0.mk (below_drew1 HB0.out)
    have HK1 := Aside0.mk (HK0.out.below (below_drew1 (Below.refl _ w)))
    obtain ⟨qa1, qb1, qc1⟩ := HI1.out.hst HP.out HX.out; have qf1 : w.drew.frozen? ⟨p, 2, none⟩ = false := blk_frozen (HI1.out.hb i p _ HP.out HX.out).2 2; have hpl1 : p < w.drew.heap.size := blk_lt (HI1.out.hb i p _ HP.out HX.out).2; have c01 := HI1.out.cell0; have hgl1 : g < w.drew.heap.size := blk_lt HI1.out.blk
    go_region_with (go_at_call 48; refine (HA.out _ HI1.out).mono ?_; rintro e w2 ⟨rfl, hb⟩; have HI2 := Aside0.mk (HI1.out.below hb); have HB2 := Aside0.mk (below_step HB1.out hb); have HK2 := Aside0.mk (HK1.out.below hb); clear hb; obtain ⟨qa2, qb2, qc2⟩ := HI2.out.hst HP.out HX.out; have qf2 : w2.frozen? ⟨p, 2, none⟩ = false := blk_frozen (HI2.out.hb i p _ HP.out HX.out).2 2; have hpl2 : p < w2.heap.size := blk_lt (HI2.out.hb i p _ HP.out HX.out).2; have c02 := HI2.out.cell0; have hgl2 : g < w2.heap.size := blk_lt HI2.out.blk)
    all_goals
      have HT := IsX.turn (y := ⟨x.nm, x.st, true⟩) (j := 2) (u := .bool true) HI2.out HB2.out HP.out HX.out rfl (by simpa using blk_set (HI2.out.hb i p _ HP.out HX.out).2 2 _)
      obtain ⟨w5, hw5⟩ : ∃ W, W = w2.setCell ⟨p, 2, none⟩ (.bool true) := ⟨_, rfl⟩
      rw [← hw5] at HT
      have HI5 := Aside0.mk HT.1
      have HB5 := Aside0.mk HT.2.1
      have HK5 := Aside0.mk (HK2.out.trans HT.2.2)
      clear HT
      have HX5 := Aside0.mk (List.getElem?_set_self (a := (⟨x.nm, x.st, true⟩ : HV)) hilt)
      obtain ⟨qa5, qb5, qc5⟩ := HI5.out.hst HP.out HX5.out
      have qf5 : w5.frozen? ⟨p, 2, none⟩ = false := blk_frozen (HI5.out.hb i p _ HP.out HX5.out).2 2
      have hpl5 : p < w5.heap.size := blk_lt (HI5.out.hb i p _ HP.out HX5.out).2
      have c05 := HI5.out.cell0
      have hgl5 : g < w5.heap.size := blk_lt HI5.out.blk
      have hilt2 : i < (s.hs.set i ⟨x.nm, x.st, true⟩).length := by rw [List.length_set]; exact hilt
      clear qa1 qb1 qc1 qf1 hpl1 c01 hgl1
      go_wp2_with (first
        | (go_at_call 39; rw [← hw5]; refine (happens_raw 5 HI5.out HB5.out HP.out HX5.out _).mono ?_; rintro e w6 ⟨rfl, hs⟩; have HI6 := Aside0.mk hs.1; have HB6 := Aside0.mk hs.2.1; have HK6 := Aside0.mk (HK5.out.trans hs.2.2); clear hs; have HX6 := Aside0.mk (List.getElem?_set_self (a := (⟨x.nm, nextS x.st 5, true⟩ : HV)) hilt2); obtain ⟨qa6, qb6, qc6⟩ := HI6.out.hst HP.out HX6.out; have qf6 : w6.frozen? ⟨p, 2, none⟩ = false := blk_frozen (HI6.out.hb i p _ HP.out HX6.out).2 2; have hpl6 : p < w6.heap.size := blk_lt (HI6.out.hb i p _ HP.out HX6.out).2; have c06 := HI6.out.cell0; have hgl6 : g < w6.heap.size := blk_lt HI6.out.blk))
      have HI7 := Aside0.mk (HI6.out.below (below_drew1 (Below.refl _ w6)))
      have HB7 := Aside0.mk (below_drew1 HB6.out)
      have HK7 := Aside0.mk (HK6.out.below (below_drew1 (Below.refl _ w6)))
      obtain ⟨qa7, qb7, qc7⟩ := HI7.out.hst HP.out HX6.out; have qf7 : w6.drew.frozen? ⟨p, 2, none⟩ = false := blk_frozen (HI7.out.hb i p _ HP.out HX6.out).2 2; have hpl7 : p < w6.drew.heap.size := blk_lt (HI7.out.hb i p _ HP.out HX6.out).2; have c07 := HI7.out.cell0; have hgl7 : g < w6.drew.heap.size := blk_lt HI7.out.blk
      go_region_with (go_at_call 43; refine (beginX (s := { s with hs := (s.hs.set i ⟨x.nm, x.st, true⟩).set i ⟨x.nm, nextS x.st 5, true⟩, ds := s.ds }) x.nm dl hl HI7.out HB7.out).mono ?_; rintro e w8 ⟨rfl, hs⟩; have HI8 := Aside0.mk hs.1; have HB8 := Aside0.mk hs.2.1; have HK8 := Aside0.mk (HK7.out.trans hs.2.2); clear hs; skip)
      all_goals
        go_wp2
        refine bodyPost_end (results_none rfl _ _ _) rfl ?_
        have hfin := HI8.out
        simp only [List.set_set] at hfin
        exact ⟨rfl, _, ⟨hfin, HB8.out, HK8.out⟩, (HI8.out.hst HP.out HX6.out).1⟩
set_option maxHeartbeats 4000000 in
theorem leave_non (ca : ¬ 0 ≤ idxOf (namesOf s.ds.row false) x.nm 0) (c3 : x.st ≠ 3) (cn : nextB x.st 5 = false) :
    Calls Try.prog 37 #[ptr g, ptr p, .int .i64 dl] w fun e w' => e = .returned (.tuple #[]) ∧ ∃ v', SX w0 w w' g gd v' ps { s with hs := s.hs.set i ⟨x.nm, x.st, true⟩, ds := s.ds } ∧ w'.cell? ⟨p, 0, none⟩ = some (.string x.nm) := by
    have HI0 := Aside0.mk hI
    have HB0 := Aside0.mk hB
    have HK0 := Aside0.mk (KeptH.refl TG w)
    have HP := Aside0.mk hp
    have HX := Aside0.mk hx
    have hilt : i < s.hs.length := (List.getElem?_eq_some_iff.1 hx).1
    have hpsl : ps.length ≤ 1000000000 := by rw [hI.len]; exact hh
    have hl2 : (endF s.ds x.nm).row.length ≤ 1000000000 := Nat.le_trans (endRow_len s.ds.row x.nm) hl
    have HA := Aside0.mk (fun W (h : IsX w0 W g gd v ps s) => aheadX x.nm hl h)
    generalize idxOf (namesOf s.ds.row false) x.nm 0 = ia at HA ca
    have cab : decide (0 ≤ ia) = false := decide_eq_false ca
    have c3b : (x.st == 3) = false := by rw [beq_eq_false_iff_ne]; exact c3
    have hno := next_no cn
    clear hI hB hp hx
    go_enter Try.func37, Try.ntmps37
    go_wp2
    have HI1 := Aside0.mk (HI0.out.below (below_drew1 (Below.refl _ w)))
    have HB1 := Aside0.mk (below_drew1 HB0.out)
    have HK1 := Aside0.mk (HK0.out.below (below_drew1 (Below.refl _ w)))
    obtain ⟨qa1, qb1, qc1⟩ := HI1.out.hst HP.out HX.out; have qf1 : w.drew.frozen? ⟨p, 2, none⟩ = false := blk_frozen (HI1.out.hb i p _ HP.out HX.out).2 2; have hpl1 : p < w.drew.heap.size := blk_lt (HI1.out.hb i p _ HP.out HX.out).2; have c01 := HI1.out.cell0; have hgl1 : g < w.drew.heap.size := blk_lt HI1.out.blk
    go_region_with (go_at_call 48; refine (HA.out _ HI1.out).mono ?_; rintro e w2 ⟨rfl, hb⟩; have HI2 := Aside0.mk (HI1.out.below hb); have HB2 := Aside0.mk (below_step HB1.out hb); have HK2 := Aside0.mk (HK1.out.below hb); clear hb; obtain ⟨qa2, qb2, qc2⟩ := HI2.out.hst HP.out HX.out; have qf2 : w2.frozen? ⟨p, 2, none⟩ = false := blk_frozen (HI2.out.hb i p _ HP.out HX.out).2 2; have hpl2 : p < w2.heap.size := blk_lt (HI2.out.hb i p _ HP.out HX.out).2; have c02 := HI2.out.cell0; have hgl2 : g < w2.heap.size := blk_lt HI2.out.blk)
    all_goals
      have HT := IsX.turn (y := ⟨x.nm, x.st, true⟩) (j := 2) (u := .bool true) HI2.out HB2.out HP.out HX.out rfl (by simpa using blk_set (HI2.out.hb i p _ HP.out HX.out).2 2 _)
      obtain ⟨w5, hw5⟩ : ∃ W, W = w2.setCell ⟨p, 2, none⟩ (.bool true) := ⟨_, rfl⟩
      rw [← hw5] at HT
      have HI5 := Aside0.mk HT.1
      have HB5 := Aside0.mk HT.2.1
      have HK5 := Aside0.mk (HK2.out.trans HT.2.2)
      clear HT
      have HX5 := Aside0.mk (List.getElem?_set_self (a := (⟨x.nm, x.st, true⟩ : HV)) hilt)
      obtain ⟨qa5, qb5, qc5⟩ := HI5.out.hst HP.out HX5.out
      have qf5 : w5.frozen? ⟨p, 2, none⟩ = false := blk_frozen (HI5.out.hb i p _ HP.out HX5.out).2 2
      have hpl5 : p < w5.heap.size := blk_lt (HI5.out.hb i p _ HP.out HX5.out).2
      have c05 := HI5.out.cell0
      have hgl5 : g < w5.heap.size := blk_lt HI5.out.blk
      have hilt2 : i < (s.hs.set i ⟨x.nm, x.st, true⟩).length := by rw [List.length_set]; exact hilt
      clear qa1 qb1 qc1 qf1 hpl1 c01 hgl1
      go_wp2_with (first
        | (go_at_call 39; rw [← hw5]; refine (happens_raw 5 HI5.out HB5.out HP.out HX5.out _).mono ?_; rintro e w6 ⟨rfl, hs⟩; have HI6 := Aside0.mk hs.1; have HB6 := Aside0.mk hs.2.1; have HK6 := Aside0.mk (HK5.out.trans hs.2.2); clear hs; have HX6 := Aside0.mk (List.getElem?_set_self (a := (⟨x.nm, nextS x.st 5, true⟩ : HV)) hilt2); obtain ⟨qa6, qb6, qc6⟩ := HI6.out.hst HP.out HX6.out; have qf6 : w6.frozen? ⟨p, 2, none⟩ = false := blk_frozen (HI6.out.hb i p _ HP.out HX6.out).2 2; have hpl6 : p < w6.heap.size := blk_lt (HI6.out.hb i p _ HP.out HX6.out).2; have c06 := HI6.out.cell0; have hgl6 : g < w6.heap.size := blk_lt HI6.out.blk))
      refine bodyPost_end (results_none rfl _ _ _) rfl ?_
      have hfin := HI6.out
      simp only [List.set_set, hno] at hfin
      exact ⟨rfl, _, ⟨hfin, HB6.out, HK6.out⟩, qa6⟩
theorem leave_raw : Calls Try.prog 37 #[ptr g, ptr p, .int .i64 dl] w fun e w' => e = .returned (.tuple #[]) ∧ ∃ v', SX w0 w w' g gd v' (leaveP x i ps) (leaveF s x dl) ∧ w'.cell? ⟨p, 0, none⟩ = some (.string x.nm) := by
  have hpos := posH_of hI.names hx
  unfold leaveP leaveF leaveD
  rw [delH_at hpos, setH_at hpos, setH_at hpos]
  by_cases ca : 0 ≤ idxOf (namesOf s.ds.row false) x.nm 0
  · rw [if_pos ca]
    by_cases c3 : x.st = 3
    · rw [if_pos c3, if_pos c3]
      exact leave_3a dl hl hh hI hB hp hx ca c3
    · rw [if_neg c3, if_neg c3]
      cases cn : nextB x.st 5 with
      | true =>
        rw [if_pos rfl]
        exact leave_yesa dl hl hh hI hB hp hx ca c3 cn
      | false =>
        rw [if_neg (by decide)]
        exact leave_noa dl hl hh hI hB hp hx ca c3 cn
  · rw [if_neg ca]
    by_cases c3 : x.st = 3
    · rw [if_pos c3, if_pos c3]
      exact leave_3n dl hl hh hI hB hp hx ca c3
    · rw [if_neg c3, if_neg c3]
      cases cn : nextB x.st 5 with
      | true =>
        rw [if_pos rfl]
        exact leave_yesn dl hl hh hI hB hp hx ca c3 cn
      | false =>
        rw [if_neg (by decide)]
        exact leave_non dl hl hh hI hB hp hx ca c3 cn
end
end Go.Proofs.Ytmlmiocomlehgaa.Man
