/-
  The fleet: contracts of its functions, proved by walking them, and plain facts, several texts in one (Fg, Fi). Conditions: none.
-/
import Derived.Test.YtmlmiocomlehgaaB3
import Derived.Test.YtmlmiocomlehgaaB2
set_option linter.unusedVariables false
set_option linter.unusedSimpArgs false
namespace Go.Proofs.Ytmlmiocomlehgaa.Man
open Go.RowKit Go.Proofs.YtmlmiocomlehgaaW.PrintWords Go.Proofs.YtmlmiocomlehgaaW.PrintLast Go.Proofs.YtmlmiocomlehgaaW.PrintMore Go.Proofs.Ytmlmiocomlehgaa.PA Go.Proofs.Ytmlmiocomlehgaa.PF Go.Proofs.Ytmlmiocomlehgaa.Hid Go.Proofs.Ytmlmiocomlehgaa.Na
variable {w0 w : World} {g gd : Nat} {v : Value} {ps : List Nat} {s : FS}
/-- How many hosts are active. -/
def actN (hs : List HV) : Nat := (hs.filter (fun h => decide (h.st = 0))).length
def pos0 (e : Int) : Int := if 0 ≤ e then e else 0
def capV (s : FS) : Int := wrap64 ((actN s.hs : Int) * pos0 s.each)
theorem mx0 (e : Int) : mx e 0 = pos0 e := by unfold mx pos0; (repeat' split) <;> omega
def actI (l : List Int) : Nat := (l.filter (fun x => decide (x = 0))).length
theorem actI_map (hs : List HV) : actI (hs.map (·.st)) = actN hs := by
  unfold actI actN
  rw [List.filter_map, List.length_map]
  rfl
theorem active_loop (xs : List Int) (hm : xs.length ≤ 1000000000) (d : Nat) : ∀ (k j a : Nat), j ≤ xs.length → xs.length - j = d → d < k → a ≤ j → guard_active.l0 k (a : Int) xs (xs.length : Int) (j : Int) = some ((a + actI (xs.drop j) : Nat) : Int) := by
  induction d with
  | zero =>
    intro k j a hj hd hk ha
    obtain ⟨k, rfl⟩ : ∃ m, k = m + 1 := ⟨k - 1, by omega⟩
    simp only [guard_active.l0]
    rw [if_neg (by omega), List.drop_eq_nil_of_le (by omega)]
    simp [actI]
  | succ d ih =>
    intro k j a hj hd hk ha
    obtain ⟨k, rfl⟩ : ∃ m, k = m + 1 := ⟨k - 1, by omega⟩
    have hlt : j < xs.length := by omega
    simp only [guard_active.l0]
    rw [if_pos (by omega), if_pos (by omega), if_pos (by omega), List.drop_eq_getElem_cons hlt]
    have e : rd xs (j : Int) = xs[j] := by simp [rd, List.getD, hlt]
    rw [e]
    have hw : wrap64 ((j : Int) + 1) = ((j + 1 : Nat) : Int) := by unfold wrap64; omega
    have hw2 : wrap64 ((a : Int) + 1) = ((a + 1 : Nat) : Int) := by unfold wrap64; omega
    rw [hw, hw2]
    by_cases c : xs[j] = 0
    · rw [if_pos c, ih k (j + 1) (a + 1) (by omega) (by omega) (by omega) (by omega)]
      generalize xs.drop (j + 1) = r
      simp [actI, c]
      omega
    · rw [if_neg c, ih k (j + 1) a (by omega) (by omega) (by omega) (by omega)]
      generalize xs.drop (j + 1) = r
      simp [actI, c]
theorem active_some (xs : List Int) (hm : xs.length ≤ 1000000000) : guard_active.f (xs.length + 1) xs = some (actI xs : Int) := by
  have := active_loop xs hm xs.length (xs.length + 1) 0 0 (by omega) (by omega) (by omega) (by omega)
  simpa [guard_active.f] using this
theorem capacity_some (xs : List Int) (e : Int) (hm : xs.length ≤ 1000000000) : guard_Capacity.f (xs.length + 1) xs e = some (wrap64 ((actI xs : Int) * pos0 e)) := by
  unfold guard_Capacity.f
  rw [active_some xs hm, mx0]
  rfl
/-- May the host at a place leave? -/
def mayI (xs : List Int) (i e gu : Int) : Bool :=
  if i < 0 ∨ (xs.length : Int) ≤ i then false
  else if xs.getD i.toNat 0 = 0 then decide (gu ≤ wrap64 (wrap64 ((actI xs : Int) * pos0 e) - pos0 e)) else true
theorem may_some (xs : List Int) (i e gu : Int) (hm : xs.length ≤ 1000000000) : guard_May.f (xs.length + 1) xs i e gu = some (mayI xs i e gu) := by
  unfold guard_May.f guard_Without.f mayI
  rw [capacity_some xs e hm, mx0]
  by_cases h1 : i < 0
  · rw [if_pos h1, if_pos (.inl h1)]
  · by_cases h2 : (xs.length : Int) ≤ i
    · rw [if_neg h1, if_pos h2, if_pos (.inr h2)]
    · have e1 : rd xs i = xs.getD i.toNat 0 := rfl
      rw [if_neg h1, if_neg h2, if_neg (show ¬ (i < 0 ∨ (xs.length : Int) ≤ i) by omega), if_pos (show (0 : Int) ≤ i by omega), if_pos (show i < (xs.length : Int) by omega), e1]
      by_cases c : xs.getD i.toNat 0 = 0
      · rw [if_pos c, if_pos c]
        simp only [Option.bind_some]
        rw [if_pos (show i ≥ 0 by omega), if_pos (show i < (xs.length : Int) by omega), if_pos (show (0 : Int) ≤ i by omega), if_pos c]
        rfl
      · rw [if_neg c, if_neg c]
def mayS (s : FS) (nm : ByteArray) : Bool := mayI (s.hs.map (·.st)) (posH s.hs nm) s.each s.guard
set_option maxHeartbeats 2000000 in
theorem capacity_raw (hl : s.hs.length ≤ 1000000000) (hI : IsX w0 w g gd v ps s) :
    Calls Try.prog 15 #[ptr g] w fun e w' => e = .returned (.int .i64 (capV s)) ∧ Below w.heap.size w w' := by
  have HI := Aside0.mk (fun W (hb : Below w.heap.size w W) => hI.below hb)
  have HC := Aside0.mk (capacity_some (s.hs.map (·.st)) s.each (by simpa using hl))
  have hcap : wrap64 ((actI (s.hs.map (·.st)) : Int) * pos0 s.each) = capV s := by rw [actI_map]; rfl
  rw [hcap] at HC
  have HS := Aside0.mk (fun W (hb : Below w.heap.size w W) => states_raw hl (HI.out W hb))
  generalize s.hs.map (·.st) = xs at HS HC
  generalize capV s = c at HC
  clear hI hcap
  go_enter Try.func15, Try.ntmps15
  go_wp2
  have q0 := HI.out _ (below_drew1 (Below.refl _ w))
  have q1 := q0.cell1
  have hgl : g < w.drew.heap.size := blk_lt q0.blk
  clear q0
  go_region_with (first
    | (go_at_call 30; refine (HS.out _ (below_drew1 (Below.refl _ w))).mono ?_; rintro e w1 ⟨v1, rfl, hR1, hb1⟩; obtain ⟨A1, n1, rfl⟩ := Kd.R_slice hR1; have HR1 := Aside0.mk (Kd.R_reads' hR1); have HB1 := Aside0.mk (below_step (below_drew1 (Below.refl _ w)) hb1); have q11 := (HI.out _ HB1.out).cell1; have hgl1 : g < w1.heap.size := blk_lt (HI.out _ HB1.out).blk; clear hR1 hb1)
    | (go_at_call 44; refine (guard_Capacity.calls (xs.length + 1) A1 n1 xs s.each _ _ HR1.out.2.2 HR1.out.2.1 HC.out).mono ?_; rintro e w2 ⟨rfl, hb2⟩; have HB2 := Aside0.mk (below_step HB1.out hb2); clear hb2))
  all_goals go_wp2
  all_goals go_ret
  all_goals exact ⟨rfl, HB2.out⟩
set_option maxHeartbeats 2000000 in
theorem may_raw (nm : ByteArray) (hl : s.hs.length ≤ 1000000000) (hI : IsX w0 w g gd v ps s) :
    Calls Try.prog 42 #[ptr g, .string nm] w fun e w' => e = .returned (.bool (mayS s nm)) ∧ Below w.heap.size w w' := by
  have HI := Aside0.mk (fun W (hb : Below w.heap.size w W) => hI.below hb)
  have HC := Aside0.mk (may_some (s.hs.map (·.st)) (posH s.hs nm) s.each s.guard (by simpa using hl))
  have HS := Aside0.mk (fun W (hb : Below w.heap.size w W) => states_raw hl (HI.out W hb))
  have HA := Aside0.mk (fun W (hb : Below w.heap.size w W) => at_raw nm (HI.out W hb))
  unfold mayS
  generalize s.hs.map (·.st) = xs at HS HC
  generalize posH s.hs nm = i at HC HA
  generalize mayI xs i s.each s.guard = c at HC
  clear hI
  go_enter Try.func42, Try.ntmps42
  go_wp2
  have q0 := HI.out _ (below_drew1 (Below.refl _ w))
  have q1 := q0.cell1
  have q2 := q0.cell2
  have hgl : g < w.drew.heap.size := blk_lt q0.blk
  clear q0
  go_region_with (first
    | (go_at_call 30; refine (HS.out _ (below_drew1 (Below.refl _ w))).mono ?_; rintro e w1 ⟨v1, rfl, hR1, hb1⟩; obtain ⟨A1, n1, rfl⟩ := Kd.R_slice hR1; have HR1 := Aside0.mk (Kd.R_reads' hR1); have HB1 := Aside0.mk (below_step (below_drew1 (Below.refl _ w)) hb1); have q11 := (HI.out _ HB1.out).cell1; have q12 := (HI.out _ HB1.out).cell2; have hgl1 : g < w1.heap.size := blk_lt (HI.out _ HB1.out).blk; clear hR1 hb1)
    | (go_at_call 56; refine (HA.out _ HB1.out).mono ?_; rintro e w2 ⟨rfl, hb2⟩; have HC2 := Aside0.mk (Kd.C_below HR1.out.2.2 hb2); have HB2 := Aside0.mk (below_step HB1.out hb2); have q21 := (HI.out _ HB2.out).cell1; have q22 := (HI.out _ HB2.out).cell2; have hgl2 : g < w2.heap.size := blk_lt (HI.out _ HB2.out).blk; clear hb2)
    | (go_at_call 61; refine (guard_May.calls (xs.length + 1) A1 n1 xs i s.each s.guard _ _ HC2.out HR1.out.2.1 HC.out).mono ?_; rintro e w3 ⟨rfl, hb3⟩; have HB3 := Aside0.mk (below_step HB2.out hb3); clear hb3))
  all_goals go_wp2
  all_goals go_ret
  all_goals exact ⟨rfl, HB3.out⟩
end Go.Proofs.Ytmlmiocomlehgaa.Man
namespace Go.Proofs.Ytmlmiocomlehgaa.Man
open Go.RowKit Go.Proofs.YtmlmiocomlehgaaW.PrintWords Go.Proofs.YtmlmiocomlehgaaW.PrintLast Go.Proofs.YtmlmiocomlehgaaW.PrintMore Go.Proofs.Ytmlmiocomlehgaa.PA Go.Proofs.Ytmlmiocomlehgaa.PF Go.Proofs.Ytmlmiocomlehgaa.Hid Go.Proofs.Ytmlmiocomlehgaa.Na
variable {w0 w : World} {g gd : Nat} {v : Value} {ps : List Nat} {s : FS}
/-! #### the drains' calls at a fleet -/
def endF (d : DS) (nm : ByteArray) : DS := ⟨endRow d.row nm⟩
def askF (d : DS) (nm : ByteArray) : Int × DS := if nameB nm = true then (if placeOf d.row nm 0 < 0 then (if (namesOf d.row false).length < 16 then (0, ⟨d.row ++ [⟨nm, 0, false⟩]⟩) else (7, d)) else (6, d)) else (11, d)
def beginF (d : DS) (nm : ByteArray) (dl : Int) : Int × DS := if nameB nm = true then (if placeOf d.row nm 0 < 0 then (0, ⟨d.row ++ [⟨nm, mn (mx dl 0) 1099511627776, true⟩]⟩) else if (rd_T88 d.row (placeOf d.row nm 0)).f2 = true then (6, d) else (0, ⟨endRow d.row nm ++ [⟨nm, mn (mx dl 0) 1099511627776, true⟩]⟩)) else (11, d)
theorem endX (nm : ByteArray) (hl : s.ds.row.length ≤ 1000000000) (hI : IsX w0 w g gd v ps s) (hB : Below w0.heap.size w0 w) :
    Calls Try.prog 40 #[ptr gd, .string nm] w fun e w' => e = .returned (.bool (decide (0 ≤ placeOf s.ds.row nm 0))) ∧ SX w0 w w' g gd v ps { s with ds := endF s.ds nm } := by
  refine (drains_Drains_End.calls gd s.ds nm _ (endF s.ds nm) w0 w hI.dr hB (if_pos hl)).mono ?_
  rintro e w' ⟨rfl, h1, h2, h3⟩
  exact ⟨rfl, hI.drains h1 h2 h3⟩
theorem askX (nm : ByteArray) (hl : s.ds.row.length ≤ 1000000000) (hI : IsX w0 w g gd v ps s) (hB : Below w0.heap.size w0 w) :
    Calls Try.prog 46 #[ptr gd, .string nm] w fun e w' => e = .returned (.int .i64 (askF s.ds nm).1) ∧ SX w0 w w' g gd v ps { s with ds := (askF s.ds nm).2 } := by
  refine (drains_Drains_Ask.calls gd s.ds nm (askF s.ds nm).1 (askF s.ds nm).2 w0 w hI.dr hB (by
    unfold drains_Drains_Ask.f askF
    rw [if_pos hl]
    (repeat' split) <;> rfl)).mono ?_
  rintro e w' ⟨rfl, h1, h2, h3⟩
  exact ⟨rfl, hI.drains h1 h2 h3⟩
theorem beginX (nm : ByteArray) (dl : Int) (hl : s.ds.row.length ≤ 1000000000) (hI : IsX w0 w g gd v ps s) (hB : Below w0.heap.size w0 w) :
    Calls Try.prog 43 #[ptr gd, .string nm, .int .i64 dl] w fun e w' => e = .returned (.int .i64 (beginF s.ds nm dl).1) ∧ SX w0 w w' g gd v ps { s with ds := (beginF s.ds nm dl).2 } := by
  refine (drains_Drains_Begin.calls gd s.ds nm dl (beginF s.ds nm dl).1 (beginF s.ds nm dl).2 w0 w hI.dr hB (by
    unfold drains_Drains_Begin.f beginF
    rw [if_pos hl]
    (repeat' split) <;> rfl)).mono ?_
  rintro e w' ⟨rfl, h1, h2, h3⟩
  exact ⟨rfl, hI.drains h1 h2 h3⟩
theorem aheadX (nm : ByteArray) (hl : s.ds.row.length ≤ 1000000000) (hI : IsX w0 w g gd v ps s) :
    Calls Try.prog 48 #[ptr gd, .string nm] w fun e w' => e = .returned (.int .i64 (idxOf (namesOf s.ds.row false) nm 0)) ∧ Below w.heap.size w w' := ahead_raw nm (by omega) hI.dr
/-- Is there such a host? -/
theorem known_cases (hI : IsX w0 w g gd v ps s) (nm : ByteArray) : knownE s nm = 11 ∨ knownE s nm = 5 ∨ ∃ (i p : Nat) (x : HV), knownE s nm = 0 ∧ knownV ps s nm = ptr p ∧ ps[i]? = some p ∧ s.hs[i]? = some x ∧ x.nm = nm ∧ posH s.hs nm = (i : Int) ∧ lookH s.hs nm = some x := by
  unfold knownE knownV
  by_cases c : nameB nm = true
  · rw [if_pos c, if_pos c]
    rcases find_at hI nm with ⟨h1, h2, _⟩ | ⟨i, p, x, h1, h2, h3, h4, h5⟩
    · rw [h1]
      exact .inr (.inl rfl)
    · rw [if_neg (by omega)]
      exact .inr (.inr ⟨i, p, x, rfl, h2, h3, h4, h5, h1, look_some h1 h4⟩)
  · rw [if_neg c]
    exact .inl rfl
def setH (hs : List HV) (nm : ByteArray) (y : HV) : List HV := hs.set (posH hs nm).toNat y
def delH (hs : List HV) (nm : ByteArray) : List HV := hs.eraseIdx (posH hs nm).toNat
/-- The host behind an event. -/
def evH (x : HV) (ev : Int) : HV := ⟨x.nm, nextS x.st ev, x.lv⟩
theorem setH_at {hs : List HV} {nm : ByteArray} {i : Nat} (h : posH hs nm = (i : Int)) (y : HV) : setH hs nm y = hs.set i y := by unfold setH; rw [h]; rfl
theorem delH_at {hs : List HV} {nm : ByteArray} {i : Nat} (h : posH hs nm = (i : Int)) : delH hs nm = hs.eraseIdx i := by unfold delH; rw [h]; rfl
def drainF (s : FS) (nm : ByteArray) : Int × FS := if knownE s nm = 0 then (match lookH s.hs nm with
  | some x => if x.st = 1 ∨ x.st = 3 then (8, s) else ((askF s.ds nm).1, { s with ds := (askF s.ds nm).2 })
  | none => (0, s)) else (knownE s nm, s)
def undrainF (s : FS) (nm : ByteArray) : Int × FS := if knownE s nm = 0 then (match lookH s.hs nm with
  | some x => if x.lv = true then (8, s) else if idxOf (namesOf s.ds.row false) nm 0 < 0 then (if nextB x.st 1 = true then (0, { s with hs := setH s.hs nm (evH x 1), ds := endF s.ds nm }) else (8, s)) else (0, { s with ds := endF s.ds nm })
  | none => (0, s)) else (knownE s nm, s)
def forceF (s : FS) (nm : ByteArray) (now : Int) : Int × FS := if knownE s nm = 0 then (match lookH s.hs nm with
  | some x => if x.st = 3 then (8, s) else ((beginF (endF s.ds nm) nm now).1, { s with hs := setH s.hs nm (evH x 0), ds := (beginF (endF s.ds nm) nm now).2 })
  | none => (0, s)) else (knownE s nm, s)
def ejectF (s : FS) (nm : ByteArray) : Int × FS := if knownE s nm = 0 then (match lookH s.hs nm with
  | some x => if x.st = 0 then (if mayS s nm = true then (0, { s with hs := setH s.hs nm (evH x 2) }) else (9, s)) else (8, s)
  | none => (0, s)) else (knownE s nm, s)
def probeF (s : FS) (nm : ByteArray) : Bool × FS := match lookH s.hs nm with
  | some x => (nextB x.st 3, { s with hs := setH s.hs nm (evH x 3) })
  | none => (false, s)
def emptyF (s : FS) (nm : ByteArray) : Bool × FS := match lookH s.hs nm with
  | some x => if nextB x.st 4 = true then (true, { s with hs := if x.lv = true then delH s.hs nm else setH s.hs nm (evH x 4), ds := endF s.ds nm }) else (false, { s with hs := setH s.hs nm (evH x 4) })
  | none => (false, s)
theorem endRow_len (row : List S88) (nm : ByteArray) : (endRow row nm).length ≤ row.length := by
  unfold endRow
  split
  · exact Nat.le_refl _
  · rw [List.length_eraseIdx]
    split <;> omega
theorem next_no {st ev : Int} (h : nextB st ev = false) : nextS st ev = st := by
  unfold nextB at h
  unfold nextS
  rw [if_pos (by simpa using h)]
theorem ev_no {x : HV} {ev : Int} (h : nextB x.st ev = false) : evH x ev = x := by unfold evH; rw [next_no h]
theorem set_no {hs : List HV} {i : Nat} {x : HV} (hx : hs[i]? = some x) : hs.set i x = hs := set_same hx
set_option maxHeartbeats 4000000 in
theorem drain_raw (nm : ByteArray) (hl : s.ds.row.length ≤ 1000000000) (hI : IsX w0 w g gd v ps s) (hB : Below w0.heap.size w0 w) :
    Calls Try.prog 16 #[ptr g, .string nm] w fun e w' => e = .returned (.int .i64 (drainF s nm).1) ∧ St w0 w w' g (drainF s nm).2 := by
  have HI0 := Aside0.mk hI
  have HB0 := Aside0.mk hB
  have HK0 := Aside0.mk (KeptH.refl TG w)
  have HKN := Aside0.mk (known_raw nm hI)
  unfold drainF
  rcases known_cases hI nm with h | h | ⟨i, p, x, h, hv, hp, hx, hn, hpos, hlook⟩
  · rw [h, if_neg (by decide)]
    rw [h] at HKN
    generalize knownV ps s nm = kv at HKN
    clear hI hB h
    go_enter Try.func16, Try.ntmps16
    go_wp2_with (first
      | (go_at_call 45; refine (HKN.out).mono ?_; rintro e w1 ⟨rfl, hb1⟩; have HI1 := Aside0.mk (HI0.out.below hb1); have HB1 := Aside0.mk (below_step HB0.out hb1); have HK1 := Aside0.mk (HK0.out.below hb1); clear hb1; have c01 := HI1.out.cell0; have hgl1 : g < w1.heap.size := blk_lt HI1.out.blk))
    go_ret
    exact ⟨rfl, SX.st ⟨HI1.out, HB1.out, HK1.out⟩⟩
  · rw [h, if_neg (by decide)]
    rw [h] at HKN
    generalize knownV ps s nm = kv at HKN
    clear hI hB h
    go_enter Try.func16, Try.ntmps16
    go_wp2_with (first
      | (go_at_call 45; refine (HKN.out).mono ?_; rintro e w1 ⟨rfl, hb1⟩; have HI1 := Aside0.mk (HI0.out.below hb1); have HB1 := Aside0.mk (below_step HB0.out hb1); have HK1 := Aside0.mk (HK0.out.below hb1); clear hb1; have c01 := HI1.out.cell0; have hgl1 : g < w1.heap.size := blk_lt HI1.out.blk))
    go_ret
    exact ⟨rfl, SX.st ⟨HI1.out, HB1.out, HK1.out⟩⟩
  · rw [h, if_pos rfl]
    simp only [hlook]
    rw [hv, h] at HKN
    have HP := Aside0.mk hp
    have HX := Aside0.mk hx
    have hilt : i < s.hs.length := (List.getElem?_eq_some_iff.1 hx).1
    clear hI hB h hv hp hx hlook
    by_cases c1 : x.st = 1
    · rw [if_pos (.inl c1)]
      have c1b : (x.st == 1) = true := by rw [beq_iff_eq]; exact c1
      go_enter Try.func16, Try.ntmps16
      go_wp2_with (first
        | (go_at_call 45; refine (HKN.out).mono ?_; rintro e w1 ⟨rfl, hb1⟩; have HI1 := Aside0.mk (HI0.out.below hb1); have HB1 := Aside0.mk (below_step HB0.out hb1); have HK1 := Aside0.mk (HK0.out.below hb1); clear hb1; obtain ⟨qa1, qb1, qc1⟩ := HI1.out.hst HP.out HX.out; have c01 := HI1.out.cell0; have hgl1 : g < w1.heap.size := blk_lt HI1.out.blk))
      go_ret
      exact ⟨rfl, SX.st ⟨HI1.out, HB1.out, HK1.out⟩⟩
    by_cases c3 : x.st = 3
    · rw [if_pos (.inr c3)]
      have c1b : (x.st == 1) = false := by rw [beq_eq_false_iff_ne]; exact c1
      have c3b : (x.st == 3) = true := by rw [beq_iff_eq]; exact c3
      go_enter Try.func16, Try.ntmps16
      go_wp2_with (first
        | (go_at_call 45; refine (HKN.out).mono ?_; rintro e w1 ⟨rfl, hb1⟩; have HI1 := Aside0.mk (HI0.out.below hb1); have HB1 := Aside0.mk (below_step HB0.out hb1); have HK1 := Aside0.mk (HK0.out.below hb1); clear hb1; obtain ⟨qa1, qb1, qc1⟩ := HI1.out.hst HP.out HX.out; have c01 := HI1.out.cell0; have hgl1 : g < w1.heap.size := blk_lt HI1.out.blk))
      go_ret
      exact ⟨rfl, SX.st ⟨HI1.out, HB1.out, HK1.out⟩⟩
    rw [if_neg (by omega)]
    have c1b : (x.st == 1) = false := by rw [beq_eq_false_iff_ne]; exact c1
    have c3b : (x.st == 3) = false := by rw [beq_eq_false_iff_ne]; exact c3
    go_enter Try.func16, Try.ntmps16
    go_wp2_with (first
      | (go_at_call 45; refine (HKN.out).mono ?_; rintro e w1 ⟨rfl, hb1⟩; have HI1 := Aside0.mk (HI0.out.below hb1); have HB1 := Aside0.mk (below_step HB0.out hb1); have HK1 := Aside0.mk (HK0.out.below hb1); clear hb1; obtain ⟨qa1, qb1, qc1⟩ := HI1.out.hst HP.out HX.out; have c01 := HI1.out.cell0; have hgl1 : g < w1.heap.size := blk_lt HI1.out.blk)
      | (go_at_call 46; refine (askX nm hl HI1.out HB1.out).mono ?_; rintro e w2 ⟨rfl, hs2⟩; have HI2 := Aside0.mk hs2.1; have HB2 := Aside0.mk hs2.2.1; have HK2 := Aside0.mk (HK1.out.trans hs2.2.2); clear hs2; obtain ⟨qa2, qb2, qc2⟩ := HI2.out.hst HP.out HX.out; have c02 := HI2.out.cell0; have hgl2 : g < w2.heap.size := blk_lt HI2.out.blk))
    go_ret
    exact ⟨rfl, SX.st ⟨HI2.out, HB2.out, HK2.out⟩⟩
set_option maxHeartbeats 4000000 in
theorem undrain_raw (nm : ByteArray) (hl : s.ds.row.length ≤ 1000000000) (hI : IsX w0 w g gd v ps s) (hB : Below w0.heap.size w0 w) :
    Calls Try.prog 24 #[ptr g, .string nm] w fun e w' => e = .returned (.int .i64 (undrainF s nm).1) ∧ St w0 w w' g (undrainF s nm).2 := by
  have HI0 := Aside0.mk hI
  have HB0 := Aside0.mk hB
  have HK0 := Aside0.mk (KeptH.refl TG w)
  have HKN := Aside0.mk (known_raw nm hI)
  unfold undrainF
  rcases known_cases hI nm with h | h | ⟨i, p, x, h, hv, hp, hx, hn, hpos, hlook⟩
  · rw [h, if_neg (by decide)]
    rw [h] at HKN
    generalize knownV ps s nm = kv at HKN
    clear hI hB h
    go_enter Try.func24, Try.ntmps24
    go_wp2_with (first
      | (go_at_call 45; refine (HKN.out).mono ?_; rintro e w1 ⟨rfl, hb1⟩; have HI1 := Aside0.mk (HI0.out.below hb1); have HB1 := Aside0.mk (below_step HB0.out hb1); have HK1 := Aside0.mk (HK0.out.below hb1); clear hb1; have c01 := HI1.out.cell0; have hgl1 : g < w1.heap.size := blk_lt HI1.out.blk))
    go_ret
    exact ⟨rfl, SX.st ⟨HI1.out, HB1.out, HK1.out⟩⟩
  · rw [h, if_neg (by decide)]
    rw [h] at HKN
    generalize knownV ps s nm = kv at HKN
    clear hI hB h
    go_enter Try.func24, Try.ntmps24
    go_wp2_with (first
      | (go_at_call 45; refine (HKN.out).mono ?_; rintro e w1 ⟨rfl, hb1⟩; have HI1 := Aside0.mk (HI0.out.below hb1); have HB1 := Aside0.mk (below_step HB0.out hb1); have HK1 := Aside0.mk (HK0.out.below hb1); clear hb1; have c01 := HI1.out.cell0; have hgl1 : g < w1.heap.size := blk_lt HI1.out.blk))
    go_ret
    exact ⟨rfl, SX.st ⟨HI1.out, HB1.out, HK1.out⟩⟩
  · rw [h, if_pos rfl]
    simp only [hlook]
    rw [hv, h] at HKN
    have HP := Aside0.mk hp
    have HX := Aside0.mk hx
    have hilt : i < s.hs.length := (List.getElem?_eq_some_iff.1 hx).1
    clear hI hB h hv hp hx hlook
    cases hlv : x.lv with
    | true =>
      rw [if_pos rfl]
      go_enter Try.func24, Try.ntmps24
      go_wp2_with (first
        | (go_at_call 45; refine (HKN.out).mono ?_; rintro e w1 ⟨rfl, hb1⟩; have HI1 := Aside0.mk (HI0.out.below hb1); have HB1 := Aside0.mk (below_step HB0.out hb1); have HK1 := Aside0.mk (HK0.out.below hb1); clear hb1; obtain ⟨qa1, qb1, qc1⟩ := HI1.out.hst HP.out HX.out; have c01 := HI1.out.cell0; have hgl1 : g < w1.heap.size := blk_lt HI1.out.blk; rw [hlv] at qc1))
      go_ret
      exact ⟨rfl, SX.st ⟨HI1.out, HB1.out, HK1.out⟩⟩
    | false =>
      rw [if_neg (by decide)]
      by_cases ca : idxOf (namesOf s.ds.row false) nm 0 < 0
      · rw [if_pos ca]
        have HA := Aside0.mk (fun W (h : IsX w0 W g gd v ps s) => aheadX nm hl h)
        generalize idxOf (namesOf s.ds.row false) nm 0 = ia at HA ca
        have cab : decide (ia < 0) = true := decide_eq_true ca
        cases hb : nextB x.st 1 with
        | true =>
          rw [if_pos rfl, setH_at hpos]
          have hbb : (nextB x.st 1) = true := hb
          go_enter Try.func24, Try.ntmps24
          go_wp2_with (first
            | (go_at_call 45; refine (HKN.out).mono ?_; rintro e w1 ⟨rfl, hb1⟩; have HI1 := Aside0.mk (HI0.out.below hb1); have HB1 := Aside0.mk (below_step HB0.out hb1); have HK1 := Aside0.mk (HK0.out.below hb1); clear hb1; obtain ⟨qa1, qb1, qc1⟩ := HI1.out.hst HP.out HX.out; have c01 := HI1.out.cell0; have hgl1 : g < w1.heap.size := blk_lt HI1.out.blk; rw [hlv] at qc1)
            | (go_at_call 48; refine (HA.out _ HI1.out).mono ?_; rintro e w2 ⟨rfl, hb2⟩; have HI2 := Aside0.mk (HI1.out.below hb2); have HB2 := Aside0.mk (below_step HB1.out hb2); have HK2 := Aside0.mk (HK1.out.below hb2); clear hb2; obtain ⟨qa2, qb2, qc2⟩ := HI2.out.hst HP.out HX.out; have c02 := HI2.out.cell0; have hgl2 : g < w2.heap.size := blk_lt HI2.out.blk; rw [hlv] at qc2)
            | (go_at_call 39; refine (happens_raw 1 HI2.out HB2.out HP.out HX.out _).mono ?_; rintro e w3 ⟨rfl, hs3⟩; have HI3 := Aside0.mk hs3.1; have HB3 := Aside0.mk hs3.2.1; have HK3 := Aside0.mk (HK2.out.trans hs3.2.2); clear hs3; have HX3 := Aside0.mk (List.getElem?_set_self (a := evH x 1) hilt); obtain ⟨qa3, qb3, qc3⟩ := HI3.out.hst HP.out HX3.out; have c03 := HI3.out.cell0; have hgl3 : g < w3.heap.size := blk_lt HI3.out.blk)
            | (go_at_call 40; refine (endX nm (s := { s with hs := s.hs.set i (evH x 1) }) hl HI3.out HB3.out).mono ?_; rintro e w4 ⟨rfl, hs4⟩; have HI4 := Aside0.mk hs4.1; have HB4 := Aside0.mk hs4.2.1; have HK4 := Aside0.mk (HK3.out.trans hs4.2.2); clear hs4; obtain ⟨qa4, qb4, qc4⟩ := HI4.out.hst HP.out HX3.out; have c04 := HI4.out.cell0; have hgl4 : g < w4.heap.size := blk_lt HI4.out.blk))
          go_ret
          exact ⟨rfl, SX.st ⟨HI4.out, HB4.out, HK4.out⟩⟩
        | false =>
          rw [if_neg (by decide)]
          have hev := ev_no hb
          have hset := set_no HX.out
          go_enter Try.func24, Try.ntmps24
          go_wp2_with (first
            | (go_at_call 45; refine (HKN.out).mono ?_; rintro e w1 ⟨rfl, hb1⟩; have HI1 := Aside0.mk (HI0.out.below hb1); have HB1 := Aside0.mk (below_step HB0.out hb1); have HK1 := Aside0.mk (HK0.out.below hb1); clear hb1; obtain ⟨qa1, qb1, qc1⟩ := HI1.out.hst HP.out HX.out; have c01 := HI1.out.cell0; have hgl1 : g < w1.heap.size := blk_lt HI1.out.blk; rw [hlv] at qc1)
            | (go_at_call 48; refine (HA.out _ HI1.out).mono ?_; rintro e w2 ⟨rfl, hb2⟩; have HI2 := Aside0.mk (HI1.out.below hb2); have HB2 := Aside0.mk (below_step HB1.out hb2); have HK2 := Aside0.mk (HK1.out.below hb2); clear hb2; obtain ⟨qa2, qb2, qc2⟩ := HI2.out.hst HP.out HX.out; have c02 := HI2.out.cell0; have hgl2 : g < w2.heap.size := blk_lt HI2.out.blk; rw [hlv] at qc2)
            | (go_at_call 39; refine (happens_raw 1 HI2.out HB2.out HP.out HX.out _).mono ?_; rintro e w3 ⟨rfl, hs3⟩; have HI3 := Aside0.mk hs3.1; have HB3 := Aside0.mk hs3.2.1; have HK3 := Aside0.mk (HK2.out.trans hs3.2.2); clear hs3; have HX3 := Aside0.mk (List.getElem?_set_self (a := evH x 1) hilt); obtain ⟨qa3, qb3, qc3⟩ := HI3.out.hst HP.out HX3.out; have c03 := HI3.out.cell0; have hgl3 : g < w3.heap.size := blk_lt HI3.out.blk))
          go_ret
          rw [show (⟨x.nm, nextS x.st 1, x.lv⟩ : HV) = x from hev, hset] at HI3
          exact ⟨rfl, SX.st ⟨HI3.out, HB3.out, HK3.out⟩⟩
      · rw [if_neg ca]
        have HA := Aside0.mk (fun W (h : IsX w0 W g gd v ps s) => aheadX nm hl h)
        generalize idxOf (namesOf s.ds.row false) nm 0 = ia at HA ca
        have cab : decide (ia < 0) = false := decide_eq_false ca
        go_enter Try.func24, Try.ntmps24
        go_wp2_with (first
          | (go_at_call 45; refine (HKN.out).mono ?_; rintro e w1 ⟨rfl, hb1⟩; have HI1 := Aside0.mk (HI0.out.below hb1); have HB1 := Aside0.mk (below_step HB0.out hb1); have HK1 := Aside0.mk (HK0.out.below hb1); clear hb1; obtain ⟨qa1, qb1, qc1⟩ := HI1.out.hst HP.out HX.out; have c01 := HI1.out.cell0; have hgl1 : g < w1.heap.size := blk_lt HI1.out.blk; rw [hlv] at qc1)
          | (go_at_call 48; refine (HA.out _ HI1.out).mono ?_; rintro e w2 ⟨rfl, hb2⟩; have HI2 := Aside0.mk (HI1.out.below hb2); have HB2 := Aside0.mk (below_step HB1.out hb2); have HK2 := Aside0.mk (HK1.out.below hb2); clear hb2; obtain ⟨qa2, qb2, qc2⟩ := HI2.out.hst HP.out HX.out; have c02 := HI2.out.cell0; have hgl2 : g < w2.heap.size := blk_lt HI2.out.blk; rw [hlv] at qc2)
          | (go_at_call 40; refine (endX nm hl HI2.out HB2.out).mono ?_; rintro e w3 ⟨rfl, hs3⟩; have HI3 := Aside0.mk hs3.1; have HB3 := Aside0.mk hs3.2.1; have HK3 := Aside0.mk (HK2.out.trans hs3.2.2); clear hs3; obtain ⟨qa3, qb3, qc3⟩ := HI3.out.hst HP.out HX.out; have c03 := HI3.out.cell0; have hgl3 : g < w3.heap.size := blk_lt HI3.out.blk))
        go_ret
        exact ⟨rfl, SX.st ⟨HI3.out, HB3.out, HK3.out⟩⟩
set_option maxHeartbeats 4000000 in
theorem force_raw (nm : ByteArray) (now : Int) (hl : s.ds.row.length ≤ 1000000000) (hI : IsX w0 w g gd v ps s) (hB : Below w0.heap.size w0 w) :
    Calls Try.prog 28 #[ptr g, .string nm, .int .i64 now] w fun e w' => e = .returned (.int .i64 (forceF s nm now).1) ∧ St w0 w w' g (forceF s nm now).2 := by
  have HI0 := Aside0.mk hI
  have HB0 := Aside0.mk hB
  have HK0 := Aside0.mk (KeptH.refl TG w)
  have HKN := Aside0.mk (known_raw nm hI)
  unfold forceF
  rcases known_cases hI nm with h | h | ⟨i, p, x, h, hv, hp, hx, hn, hpos, hlook⟩
  · rw [h, if_neg (by decide)]
    rw [h] at HKN
    generalize knownV ps s nm = kv at HKN
    clear hI hB h
    go_enter Try.func28, Try.ntmps28
    go_wp2_with (first
      | (go_at_call 45; refine (HKN.out).mono ?_; rintro e w1 ⟨rfl, hb1⟩; have HI1 := Aside0.mk (HI0.out.below hb1); have HB1 := Aside0.mk (below_step HB0.out hb1); have HK1 := Aside0.mk (HK0.out.below hb1); clear hb1; have c01 := HI1.out.cell0; have hgl1 : g < w1.heap.size := blk_lt HI1.out.blk))
    go_ret
    exact ⟨rfl, SX.st ⟨HI1.out, HB1.out, HK1.out⟩⟩
  · rw [h, if_neg (by decide)]
    rw [h] at HKN
    generalize knownV ps s nm = kv at HKN
    clear hI hB h
    go_enter Try.func28, Try.ntmps28
    go_wp2_with (first
      | (go_at_call 45; refine (HKN.out).mono ?_; rintro e w1 ⟨rfl, hb1⟩; have HI1 := Aside0.mk (HI0.out.below hb1); have HB1 := Aside0.mk (below_step HB0.out hb1); have HK1 := Aside0.mk (HK0.out.below hb1); clear hb1; have c01 := HI1.out.cell0; have hgl1 : g < w1.heap.size := blk_lt HI1.out.blk))
    go_ret
    exact ⟨rfl, SX.st ⟨HI1.out, HB1.out, HK1.out⟩⟩
  · rw [h, if_pos rfl]
    simp only [hlook]
    rw [hv, h] at HKN
    have HP := Aside0.mk hp
    have HX := Aside0.mk hx
    have hilt : i < s.hs.length := (List.getElem?_eq_some_iff.1 hx).1
    clear hI hB h hv hp hx hlook
    by_cases c3 : x.st = 3
    · rw [if_pos c3]
      have c3b : (x.st == 3) = true := by rw [beq_iff_eq]; exact c3
      go_enter Try.func28, Try.ntmps28
      go_wp2_with (first
        | (go_at_call 45; refine (HKN.out).mono ?_; rintro e w1 ⟨rfl, hb1⟩; have HI1 := Aside0.mk (HI0.out.below hb1); have HB1 := Aside0.mk (below_step HB0.out hb1); have HK1 := Aside0.mk (HK0.out.below hb1); clear hb1; obtain ⟨qa1, qb1, qc1⟩ := HI1.out.hst HP.out HX.out; have c01 := HI1.out.cell0; have hgl1 : g < w1.heap.size := blk_lt HI1.out.blk))
      go_ret
      exact ⟨rfl, SX.st ⟨HI1.out, HB1.out, HK1.out⟩⟩
    rw [if_neg c3, setH_at hpos]
    have c3b : (x.st == 3) = false := by rw [beq_eq_false_iff_ne]; exact c3
    have hl2 : (endF s.ds nm).row.length ≤ 1000000000 := Nat.le_trans (endRow_len s.ds.row nm) hl
    go_enter Try.func28, Try.ntmps28
    go_wp2_with (first
      | (go_at_call 45; refine (HKN.out).mono ?_; rintro e w1 ⟨rfl, hb1⟩; have HI1 := Aside0.mk (HI0.out.below hb1); have HB1 := Aside0.mk (below_step HB0.out hb1); have HK1 := Aside0.mk (HK0.out.below hb1); clear hb1; obtain ⟨qa1, qb1, qc1⟩ := HI1.out.hst HP.out HX.out; have c01 := HI1.out.cell0; have hgl1 : g < w1.heap.size := blk_lt HI1.out.blk)
      | (go_at_call 39; refine (happens_raw 0 HI1.out HB1.out HP.out HX.out _).mono ?_; rintro e w2 ⟨rfl, hs2⟩; have HI2 := Aside0.mk hs2.1; have HB2 := Aside0.mk hs2.2.1; have HK2 := Aside0.mk (HK1.out.trans hs2.2.2); clear hs2; have HX2 := Aside0.mk (List.getElem?_set_self (a := evH x 0) hilt); obtain ⟨qa2, qb2, qc2⟩ := HI2.out.hst HP.out HX2.out; have c02 := HI2.out.cell0; have hgl2 : g < w2.heap.size := blk_lt HI2.out.blk)
      | (go_at_call 40; refine (endX nm (s := { s with hs := s.hs.set i (evH x 0) }) hl HI2.out HB2.out).mono ?_; rintro e w3 ⟨rfl, hs3⟩; have HI3 := Aside0.mk hs3.1; have HB3 := Aside0.mk hs3.2.1; have HK3 := Aside0.mk (HK2.out.trans hs3.2.2); clear hs3; obtain ⟨qa3, qb3, qc3⟩ := HI3.out.hst HP.out HX2.out; have c03 := HI3.out.cell0; have hgl3 : g < w3.heap.size := blk_lt HI3.out.blk)
      | (go_at_call 43; refine (beginX nm now (s := { s with hs := s.hs.set i (evH x 0), ds := endF s.ds nm }) hl2 HI3.out HB3.out).mono ?_; rintro e w4 ⟨rfl, hs4⟩; have HI4 := Aside0.mk hs4.1; have HB4 := Aside0.mk hs4.2.1; have HK4 := Aside0.mk (HK3.out.trans hs4.2.2); clear hs4; obtain ⟨qa4, qb4, qc4⟩ := HI4.out.hst HP.out HX2.out; have c04 := HI4.out.cell0; have hgl4 : g < w4.heap.size := blk_lt HI4.out.blk))
    go_ret
    exact ⟨rfl, SX.st ⟨HI4.out, HB4.out, HK4.out⟩⟩
set_option maxHeartbeats 4000000 in
theorem eject_raw (nm : ByteArray) (hh : s.hs.length ≤ 1000000000) (hI : IsX w0 w g gd v ps s) (hB : Below w0.heap.size w0 w) :
    Calls Try.prog 29 #[ptr g, .string nm] w fun e w' => e = .returned (.int .i64 (ejectF s nm).1) ∧ St w0 w w' g (ejectF s nm).2 := by
  have HI0 := Aside0.mk hI
  have HB0 := Aside0.mk hB
  have HK0 := Aside0.mk (KeptH.refl TG w)
  have HKN := Aside0.mk (known_raw nm hI)
  unfold ejectF
  rcases known_cases hI nm with h | h | ⟨i, p, x, h, hv, hp, hx, hn, hpos, hlook⟩
  · rw [h, if_neg (by decide)]
    rw [h] at HKN
    generalize knownV ps s nm = kv at HKN
    clear hI hB h
    go_enter Try.func29, Try.ntmps29
    go_wp2_with (first
      | (go_at_call 45; refine (HKN.out).mono ?_; rintro e w1 ⟨rfl, hb1⟩; have HI1 := Aside0.mk (HI0.out.below hb1); have HB1 := Aside0.mk (below_step HB0.out hb1); have HK1 := Aside0.mk (HK0.out.below hb1); clear hb1; have c01 := HI1.out.cell0; have hgl1 : g < w1.heap.size := blk_lt HI1.out.blk))
    go_ret
    exact ⟨rfl, SX.st ⟨HI1.out, HB1.out, HK1.out⟩⟩
  · rw [h, if_neg (by decide)]
    rw [h] at HKN
    generalize knownV ps s nm = kv at HKN
    clear hI hB h
    go_enter Try.func29, Try.ntmps29
    go_wp2_with (first
      | (go_at_call 45; refine (HKN.out).mono ?_; rintro e w1 ⟨rfl, hb1⟩; have HI1 := Aside0.mk (HI0.out.below hb1); have HB1 := Aside0.mk (below_step HB0.out hb1); have HK1 := Aside0.mk (HK0.out.below hb1); clear hb1; have c01 := HI1.out.cell0; have hgl1 : g < w1.heap.size := blk_lt HI1.out.blk))
    go_ret
    exact ⟨rfl, SX.st ⟨HI1.out, HB1.out, HK1.out⟩⟩
  · rw [h, if_pos rfl]
    simp only [hlook]
    rw [hv, h] at HKN
    have HP := Aside0.mk hp
    have HX := Aside0.mk hx
    have hilt : i < s.hs.length := (List.getElem?_eq_some_iff.1 hx).1
    clear hI hB h hv hp hx hlook
    by_cases c0 : x.st = 0
    · rw [if_pos c0]
      have c0b : (x.st == 0) = true := by rw [beq_iff_eq]; exact c0
      have HM := Aside0.mk (fun W (h : IsX w0 W g gd v ps s) => may_raw nm hh h)
      cases hm : mayS s nm with
      | true =>
        rw [if_pos rfl, setH_at hpos]
        rw [hm] at HM
        go_enter Try.func29, Try.ntmps29
        go_wp2_with (first
          | (go_at_call 45; refine (HKN.out).mono ?_; rintro e w1 ⟨rfl, hb1⟩; have HI1 := Aside0.mk (HI0.out.below hb1); have HB1 := Aside0.mk (below_step HB0.out hb1); have HK1 := Aside0.mk (HK0.out.below hb1); clear hb1; obtain ⟨qa1, qb1, qc1⟩ := HI1.out.hst HP.out HX.out; have c01 := HI1.out.cell0; have hgl1 : g < w1.heap.size := blk_lt HI1.out.blk)
          | (go_at_call 42; refine (HM.out _ HI1.out).mono ?_; rintro e w2 ⟨rfl, hb2⟩; have HI2 := Aside0.mk (HI1.out.below hb2); have HB2 := Aside0.mk (below_step HB1.out hb2); have HK2 := Aside0.mk (HK1.out.below hb2); clear hb2; obtain ⟨qa2, qb2, qc2⟩ := HI2.out.hst HP.out HX.out; have c02 := HI2.out.cell0; have hgl2 : g < w2.heap.size := blk_lt HI2.out.blk)
          | (go_at_call 39; refine (happens_raw 2 HI2.out HB2.out HP.out HX.out _).mono ?_; rintro e w3 ⟨rfl, hs3⟩; have HI3 := Aside0.mk hs3.1; have HB3 := Aside0.mk hs3.2.1; have HK3 := Aside0.mk (HK2.out.trans hs3.2.2); clear hs3; have HX3 := Aside0.mk (List.getElem?_set_self (a := evH x 2) hilt); obtain ⟨qa3, qb3, qc3⟩ := HI3.out.hst HP.out HX3.out; have c03 := HI3.out.cell0; have hgl3 : g < w3.heap.size := blk_lt HI3.out.blk))
        go_ret
        exact ⟨rfl, SX.st ⟨HI3.out, HB3.out, HK3.out⟩⟩
      | false =>
        rw [if_neg (by decide)]
        rw [hm] at HM
        go_enter Try.func29, Try.ntmps29
        go_wp2_with (first
          | (go_at_call 45; refine (HKN.out).mono ?_; rintro e w1 ⟨rfl, hb1⟩; have HI1 := Aside0.mk (HI0.out.below hb1); have HB1 := Aside0.mk (below_step HB0.out hb1); have HK1 := Aside0.mk (HK0.out.below hb1); clear hb1; obtain ⟨qa1, qb1, qc1⟩ := HI1.out.hst HP.out HX.out; have c01 := HI1.out.cell0; have hgl1 : g < w1.heap.size := blk_lt HI1.out.blk)
          | (go_at_call 42; refine (HM.out _ HI1.out).mono ?_; rintro e w2 ⟨rfl, hb2⟩; have HI2 := Aside0.mk (HI1.out.below hb2); have HB2 := Aside0.mk (below_step HB1.out hb2); have HK2 := Aside0.mk (HK1.out.below hb2); clear hb2; obtain ⟨qa2, qb2, qc2⟩ := HI2.out.hst HP.out HX.out; have c02 := HI2.out.cell0; have hgl2 : g < w2.heap.size := blk_lt HI2.out.blk))
        go_ret
        exact ⟨rfl, SX.st ⟨HI2.out, HB2.out, HK2.out⟩⟩
    · rw [if_neg c0]
      have c0b : (x.st == 0) = false := by rw [beq_eq_false_iff_ne]; exact c0
      go_enter Try.func29, Try.ntmps29
      go_wp2_with (first
        | (go_at_call 45; refine (HKN.out).mono ?_; rintro e w1 ⟨rfl, hb1⟩; have HI1 := Aside0.mk (HI0.out.below hb1); have HB1 := Aside0.mk (below_step HB0.out hb1); have HK1 := Aside0.mk (HK0.out.below hb1); clear hb1; obtain ⟨qa1, qb1, qc1⟩ := HI1.out.hst HP.out HX.out; have c01 := HI1.out.cell0; have hgl1 : g < w1.heap.size := blk_lt HI1.out.blk))
      go_ret
      exact ⟨rfl, SX.st ⟨HI1.out, HB1.out, HK1.out⟩⟩
set_option maxHeartbeats 2000000 in
theorem probe_raw (nm : ByteArray) (hI : IsX w0 w g gd v ps s) (hB : Below w0.heap.size w0 w) :
    Calls Try.prog 51 #[ptr g, .string nm] w fun e w' => e = .returned (.bool (probeF s nm).1) ∧ St w0 w w' g (probeF s nm).2 := by
  have HI0 := Aside0.mk hI
  have HB0 := Aside0.mk hB
  have HK0 := Aside0.mk (KeptH.refl TG w)
  have HF := Aside0.mk (find_raw nm hI)
  unfold probeF
  rcases find_at hI nm with ⟨h1, h2, _⟩ | ⟨i, p, x, h1, h2, hp, hx, _⟩
  · rw [look_none h1]
    rw [h2] at HF
    clear hI hB h1 h2
    go_enter Try.func51, Try.ntmps51
    go_wp2_with (first
      | (go_at_call 38; refine (HF.out).mono ?_; rintro e w1 ⟨rfl, hb1⟩; have HI1 := Aside0.mk (HI0.out.below hb1); have HB1 := Aside0.mk (below_step HB0.out hb1); have HK1 := Aside0.mk (HK0.out.below hb1); clear hb1; have c01 := HI1.out.cell0; have hgl1 : g < w1.heap.size := blk_lt HI1.out.blk))
    go_ret
    exact ⟨rfl, SX.st ⟨HI1.out, HB1.out, HK1.out⟩⟩
  · rw [look_some h1 hx]
    simp only [setH_at h1]
    rw [h2] at HF
    have HP := Aside0.mk hp
    have HX := Aside0.mk hx
    have hilt : i < s.hs.length := (List.getElem?_eq_some_iff.1 hx).1
    clear hI hB h1 h2 hp hx
    go_enter Try.func51, Try.ntmps51
    go_wp2_with (first
      | (go_at_call 38; refine (HF.out).mono ?_; rintro e w1 ⟨rfl, hb1⟩; have HI1 := Aside0.mk (HI0.out.below hb1); have HB1 := Aside0.mk (below_step HB0.out hb1); have HK1 := Aside0.mk (HK0.out.below hb1); clear hb1; obtain ⟨qa1, qb1, qc1⟩ := HI1.out.hst HP.out HX.out; have c01 := HI1.out.cell0; have hgl1 : g < w1.heap.size := blk_lt HI1.out.blk)
      | (go_at_call 39; refine (happens_raw 3 HI1.out HB1.out HP.out HX.out _).mono ?_; rintro e w2 ⟨rfl, hs2⟩; have HI2 := Aside0.mk hs2.1; have HB2 := Aside0.mk hs2.2.1; have HK2 := Aside0.mk (HK1.out.trans hs2.2.2); clear hs2; have HX2 := Aside0.mk (List.getElem?_set_self (a := evH x 3) hilt); obtain ⟨qa2, qb2, qc2⟩ := HI2.out.hst HP.out HX2.out; have c02 := HI2.out.cell0; have hgl2 : g < w2.heap.size := blk_lt HI2.out.blk))
    go_ret
    exact ⟨rfl, SX.st ⟨HI2.out, HB2.out, HK2.out⟩⟩
set_option maxHeartbeats 2000000 in
theorem empty_raw (nm : ByteArray) (hl : s.ds.row.length ≤ 1000000000) (hh : s.hs.length ≤ 1000000000) (hI : IsX w0 w g gd v ps s) (hB : Below w0.heap.size w0 w) :
    Calls Try.prog 23 #[ptr g, .string nm] w fun e w' => e = .returned (.bool (emptyF s nm).1) ∧ St w0 w w' g (emptyF s nm).2 := by
  have HI0 := Aside0.mk hI
  have HB0 := Aside0.mk hB
  have HK0 := Aside0.mk (KeptH.refl TG w)
  have HF := Aside0.mk (find_raw nm hI)
  unfold emptyF
  rcases find_at hI nm with ⟨h1, h2, _⟩ | ⟨i, p, x, h1, h2, hp, hx, _⟩
  · rw [look_none h1]
    rw [h2] at HF
    clear hI hB h1 h2
    go_enter Try.func23, Try.ntmps23
    go_wp2_with (first
      | (go_at_call 38; refine (HF.out).mono ?_; rintro e w1 ⟨rfl, hb1⟩; have HI1 := Aside0.mk (HI0.out.below hb1); have HB1 := Aside0.mk (below_step HB0.out hb1); have HK1 := Aside0.mk (HK0.out.below hb1); clear hb1; have c01 := HI1.out.cell0; have hgl1 : g < w1.heap.size := blk_lt HI1.out.blk))
    go_ret
    exact ⟨rfl, SX.st ⟨HI1.out, HB1.out, HK1.out⟩⟩
  · rw [look_some h1 hx]
    simp only [setH_at h1, delH_at h1]
    rw [h2] at HF
    have hpl : ps.length ≤ 1000000000 := by rw [hI.len]; exact hh
    have HP := Aside0.mk hp
    have HX := Aside0.mk hx
    have hilt : i < s.hs.length := (List.getElem?_eq_some_iff.1 hx).1
    clear hI hB h1 h2 hp hx
    cases hb : nextB x.st 4 with
    | false =>
      rw [if_neg (by decide)]
      go_enter Try.func23, Try.ntmps23
      go_wp2_with (first
        | (go_at_call 38; refine (HF.out).mono ?_; rintro e w1 ⟨rfl, hb1⟩; have HI1 := Aside0.mk (HI0.out.below hb1); have HB1 := Aside0.mk (below_step HB0.out hb1); have HK1 := Aside0.mk (HK0.out.below hb1); clear hb1; obtain ⟨qa1, qb1, qc1⟩ := HI1.out.hst HP.out HX.out; have c01 := HI1.out.cell0; have hgl1 : g < w1.heap.size := blk_lt HI1.out.blk)
        | (go_at_call 39; refine (happens_raw 4 HI1.out HB1.out HP.out HX.out _).mono ?_; rintro e w2 ⟨rfl, hs2⟩; have HI2 := Aside0.mk hs2.1; have HB2 := Aside0.mk hs2.2.1; have HK2 := Aside0.mk (HK1.out.trans hs2.2.2); clear hs2; have HX2 := Aside0.mk (List.getElem?_set_self (a := evH x 4) hilt); obtain ⟨qa2, qb2, qc2⟩ := HI2.out.hst HP.out HX2.out; have c02 := HI2.out.cell0; have hgl2 : g < w2.heap.size := blk_lt HI2.out.blk))
      go_ret
      exact ⟨rfl, SX.st ⟨HI2.out, HB2.out, HK2.out⟩⟩
    | true =>
      rw [if_pos rfl]
      have hbb : nextB x.st 4 = true := hb
      cases hlv : x.lv with
      | true =>
        rw [if_pos rfl]
        have hera : ∀ y : HV, (s.hs.set i y).eraseIdx i = s.hs.eraseIdx i := fun y => List.eraseIdx_set_eq
        go_enter Try.func23, Try.ntmps23
        go_wp2_with (first
          | (go_at_call 38; refine (HF.out).mono ?_; rintro e w1 ⟨rfl, hb1⟩; have HI1 := Aside0.mk (HI0.out.below hb1); have HB1 := Aside0.mk (below_step HB0.out hb1); have HK1 := Aside0.mk (HK0.out.below hb1); clear hb1; obtain ⟨qa1, qb1, qc1⟩ := HI1.out.hst HP.out HX.out; have c01 := HI1.out.cell0; have hgl1 : g < w1.heap.size := blk_lt HI1.out.blk)
          | (go_at_call 39; refine (happens_raw 4 HI1.out HB1.out HP.out HX.out _).mono ?_; rintro e w2 ⟨rfl, hs2⟩; have HI2 := Aside0.mk hs2.1; have HB2 := Aside0.mk hs2.2.1; have HK2 := Aside0.mk (HK1.out.trans hs2.2.2); clear hs2; have HX2 := Aside0.mk (List.getElem?_set_self (a := evH x 4) hilt); obtain ⟨qa2, qb2, qc2⟩ := HI2.out.hst HP.out HX2.out; have c02 := HI2.out.cell0; have hgl2 : g < w2.heap.size := blk_lt HI2.out.blk)
          | (go_at_call 40; refine (endX nm (s := { s with hs := s.hs.set i (evH x 4) }) hl HI2.out HB2.out).mono ?_; rintro e w3 ⟨rfl, hs3⟩; have HI3 := Aside0.mk hs3.1; have HB3 := Aside0.mk hs3.2.1; have HK3 := Aside0.mk (HK2.out.trans hs3.2.2); clear hs3; obtain ⟨qa3, qb3, qc3⟩ := HI3.out.hst HP.out HX2.out; have c03 := HI3.out.cell0; have hgl3 : g < w3.heap.size := blk_lt HI3.out.blk; rw [show (evH x 4).lv = true from hlv] at qc3)
          | (go_at_call 50; refine (away_raw hpl HI3.out HB3.out HP.out).mono ?_; rintro e w4 ⟨rfl, v4, hs4⟩; have HI4 := Aside0.mk hs4.1; have HB4 := Aside0.mk hs4.2.1; have HK4 := Aside0.mk (HK3.out.trans hs4.2.2); clear hs4))
        go_ret
        have hfin := HI4.out
        simp only [hera] at hfin
        exact ⟨rfl, SX.st ⟨hfin, HB4.out, HK4.out⟩⟩
      | false =>
        rw [if_neg (by decide)]
        go_enter Try.func23, Try.ntmps23
        go_wp2_with (first
          | (go_at_call 38; refine (HF.out).mono ?_; rintro e w1 ⟨rfl, hb1⟩; have HI1 := Aside0.mk (HI0.out.below hb1); have HB1 := Aside0.mk (below_step HB0.out hb1); have HK1 := Aside0.mk (HK0.out.below hb1); clear hb1; obtain ⟨qa1, qb1, qc1⟩ := HI1.out.hst HP.out HX.out; have c01 := HI1.out.cell0; have hgl1 : g < w1.heap.size := blk_lt HI1.out.blk)
          | (go_at_call 39; refine (happens_raw 4 HI1.out HB1.out HP.out HX.out _).mono ?_; rintro e w2 ⟨rfl, hs2⟩; have HI2 := Aside0.mk hs2.1; have HB2 := Aside0.mk hs2.2.1; have HK2 := Aside0.mk (HK1.out.trans hs2.2.2); clear hs2; have HX2 := Aside0.mk (List.getElem?_set_self (a := evH x 4) hilt); obtain ⟨qa2, qb2, qc2⟩ := HI2.out.hst HP.out HX2.out; have c02 := HI2.out.cell0; have hgl2 : g < w2.heap.size := blk_lt HI2.out.blk)
          | (go_at_call 40; refine (endX nm (s := { s with hs := s.hs.set i (evH x 4) }) hl HI2.out HB2.out).mono ?_; rintro e w3 ⟨rfl, hs3⟩; have HI3 := Aside0.mk hs3.1; have HB3 := Aside0.mk hs3.2.1; have HK3 := Aside0.mk (HK2.out.trans hs3.2.2); clear hs3; obtain ⟨qa3, qb3, qc3⟩ := HI3.out.hst HP.out HX2.out; have c03 := HI3.out.cell0; have hgl3 : g < w3.heap.size := blk_lt HI3.out.blk; rw [show (evH x 4).lv = false from hlv] at qc3))
        go_ret
        exact ⟨rfl, SX.st ⟨HI3.out, HB3.out, HK3.out⟩⟩
end Go.Proofs.Ytmlmiocomlehgaa.Man
