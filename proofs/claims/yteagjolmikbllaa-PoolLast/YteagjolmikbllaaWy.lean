/-
  The walk of PoolWays. Conditions: none.
-/
import Derived.Test.YteagjolmikbllaaSt
set_option linter.unusedVariables false
set_option linter.unusedSimpArgs false
namespace Go.Proofs.Yteagjolmikbllaa.Ob
open Go.RowKit Go.Proofs.YteagjolmikbllaaW.PrintWords Go.Proofs.YteagjolmikbllaaW.PrintLast Go.Proofs.YteagjolmikbllaaW.PrintMore Go.Proofs.Yteagjolmikbllaa.Hid Go.Proofs.Yteagjolmikbllaa.Mp Go.Proofs.Yteagjolmikbllaa.PA
variable {s : PS}
theorem rising_ext : ∀ {a b : PL}, Rising a → Rising b → (∀ p, p ∈ a ↔ p ∈ b) → a = b
  | [], [], _, _, _ => rfl
  | [], y :: b, _, _, h => by have := (h y).2 (by simp); simp at this
  | x :: a, [], _, _, h => by have := (h x).1 (by simp); simp at this
  | x :: a, y :: b, ha, hb, h => by
    have h1 := List.pairwise_cons.1 ha
    have h2 := List.pairwise_cons.1 hb
    have hxy : x = y := by
      rcases List.mem_cons.1 ((h x).1 (by simp)) with e | e
      · exact e
      · rcases List.mem_cons.1 ((h y).2 (by simp)) with e2 | e2
        · exact e2.symm
        · have := h2.1 x e
          have := h1.1 y e2
          omega
    subst hxy
    congr 1
    refine rising_ext h1.2 h2.2 (fun p => ⟨fun hp => ?_, fun hp => ?_⟩)
    · rcases List.mem_cons.1 ((h p).1 (List.mem_cons_of_mem _ hp)) with e | e
      · subst e; have := h1.1 p hp; omega
      · exact e
    · rcases List.mem_cons.1 ((h p).2 (List.mem_cons_of_mem _ hp)) with e | e
      · subst e; have := h2.1 p hp; omega
      · exact e
theorem take_give (h : PInv s) {l : List Int} {id : Int} (hs : s.stack = l ++ [id]) : giveF ⟨s.size, put s.what id 3, l⟩ id = (true, s) := by
  have hm : (id, 2) ∈ s.what := (h.idle id).1 (by rw [hs]; simp)
  unfold giveF
  rw [if_pos (code_put_same h.rise id 3)]
  have e : put (put s.what id 3) id 2 = s.what := by
    refine rising_ext ((h.rise.put id 3).put id 2) h.rise (fun p => ?_)
    rw [mem_put, mem_put]
    constructor
    · rintro (e | ⟨e | ⟨e, _⟩, hn⟩)
      · rw [e]; exact hm
      · exact absurd (by rw [e]) hn
      · exact e
    · intro hp
      by_cases hk : p.1 = id
      · left
        exact rising_inj h.rise hp hm hk
      · exact .inr ⟨.inr ⟨hp, hk⟩, hk⟩
  unfold restF
  dsimp only
  rw [e, ← hs]
theorem key_code (h : PInv s) (id : Int) : id ∈ keys s.what ↔ code s.what id ≠ 0 := by
  constructor
  · intro hk hc
    obtain ⟨p, hp, rfl⟩ := List.mem_map.1 hk
    exact (look_none.1 (h.none hc)) p.2 hp
  · intro hc
    unfold code at hc
    cases hl : Mp.look s.what id with
    | none => rw [hl] at hc; exact absurd rfl hc
    | some v => exact List.mem_map.2 ⟨(id, v), (look_some h.rise).1 hl, rfl⟩
theorem keys_rem (l : PL) (id : Int) : keys (rem l id) = dropRow (keys l) id := by
  unfold keys rem dropRow
  rw [List.filter_map]
  rfl
theorem dropRow_none {l : List Int} {id : Int} (h : id ∉ l) : dropRow l id = l := by
  unfold dropRow
  rw [List.filter_eq_self]
  intro a ha
  simp only [Bool.not_eq_true', decide_eq_false_iff_not]
  rintro rfl
  exact h ha
theorem drop_eq (h : PInv s) (id : Int) : dropF s id = (decide (id ∈ keys s.what), ⟨s.size, rem s.what id, dropRow s.stack id⟩) := by
  unfold dropF
  by_cases hc : code s.what id = 0
  · rw [if_pos hc, decide_eq_false (fun hk => (key_code h id).1 hk hc), rem_of_none (h.none hc), dropRow_none (fun hk => (look_none.1 (h.none hc)) 2 ((h.idle id).1 hk))]
  · rw [if_neg hc, decide_eq_true ((key_code h id).2 hc)]
theorem wf_of {x : Int} (h : (Lit.int .i64 x).wf = true) : I64 x := h
set_option maxRecDepth 100000 in
set_option maxHeartbeats 8000000 in
theorem ways_calls (a0 : Int) (A : Option Addr) (c0 : Nat) (l0 : List S39) (w : World) (ha : (Lit.int .i64 a0).wf = true) (hr0 : Kd.C k39 w A l0.length l0) (hc0 : l0.length ≤ c0) (hw0 : ∀ x ∈ l0, (Lit.int .i64 x.f0).wf = true ∧ (Lit.int .i64 x.f1).wf = true) :
    Calls Try.prog 4 #[.int .i64 a0, .slice A l0.length c0] w fun e w' => e = .returned (.bool true) ∧ Below w.heap.size w w' := by
  have HL := Aside0.mk (lives_raw w)
  have HC := Aside0.mk hr0
  have HWF := Aside0.mk hw0
  obtain ⟨ne, hne⟩ : ∃ ne, ne = min l0.length 100 := ⟨_, rfl⟩
  have hnl : ne ≤ l0.length := by omega
  have HEA := Aside0.mk (fun W => early_raw A l0.length c0 ne W hne hc0)
  have hlm : l0.length ≤ 9223372036854775807 := hr0.2.1
  clear hr0 hw0 hne
  go_enter Try.func4, Try.ntmps4
  go_wp2_with (first
    | (go_at_call 8; refine HL.out.mono ?_; rintro e w1 ⟨rfl, hb⟩; have HB1 := Aside0.mk hb; clear hb HL)
    | (go_at_call 9; refine (new_raw a0 w w1 HB1.out).mono ?_; rintro e w2 ⟨g, rfl, hi, hb, _⟩; have HI2 := Aside0.mk hi; have HB2 := Aside0.mk hb; clear hi hb HB1)
    | (go_at_call 17; refine (HEA.out _).mono ?_; rintro e w3 ⟨rfl, rfl⟩))
  go_loopw [6] (fun v6 wr => ∃ (k : Nat) (s : PS), k ≤ ne ∧ v6 = .int .i64 k ∧ Aside0 (PInv s) ∧ Aside0 (IsP w wr g s) ∧ Aside0 (Below w.heap.size w wr)) (fun v6 _ => ne - (intOf v6).toNat)
  case atStart => exact ⟨0, ⟨sizeOf a0, [], []⟩, Nat.zero_le _, rfl, ⟨PInv.new _ (sizeOf_eq a0).2.2⟩, HI2, HB2⟩
  case round =>
    obtain ⟨k, s, hk, rfl, HV, HI, HB⟩ := hrel
    by_cases hlt : k < ne
    · obtain ⟨ad, hA, hx0, hx1⟩ := at_T39 (Kd.C_below HC.out HB.out) (k : Int) (by omega) (by omega)
      subst hA
      obtain ⟨x, hxe⟩ : ∃ x : S39, x = rd_T39 l0 (k : Int) := ⟨_, rfl⟩
      have hxm : x ∈ l0 := by rw [hxe]; exact rd39_mem (by omega)
      have HID : Aside0 (I64 x.f1) := ⟨(HWF.out x hxm).2⟩
      rw [← hxe, Int.toNat_natCast] at hx0 hx1
      have h0k : (0 : Int) ≤ (k : Int) := by omega
      have hkl : (k : Int) < (ne : Int) := by omega
      obtain ⟨κ, hκ6, hκ⟩ := kind_raw x
      have HKD := Aside0.mk hκ
      clear hxe hxm hκ
      go_upto_block 2 with (go_at_call 18; refine (HKD.out _).mono ?_; rintro e w5 ⟨rfl, hb⟩; have HB5 := Aside0.mk hb; clear hb HKD)
      have HI5 := Aside0.mk (HI.out.below HB5.out)
      have HW5 := Aside0.mk (HB.out.trans (HB5.out.mono HB.out.size))
      clear HI HB HB5 hx0 hx1
      · skip
        have hx : κ = 0 ∨ κ = 1 ∨ κ = 2 ∨ κ = 3 ∨ κ = 4 ∨ κ = 5 := by omega
        rcases hx with rfl | rfl | rfl | rfl | rfl | rfl
        · have HC1 := Aside0.mk (make_any x.f1 HID.out HV.out HI5.out HW5.out)
          go_wp2_with (first
            | (go_at_call 10; (with_reducible refine (HC1.out).mono ?_); rintro e w6 ⟨rfl, hi, hb, hk⟩; have HI6 := Aside0.mk hi; have HB6 := Aside0.mk hb; have HK6 := Aside0.mk hk; clear hi hb hk))
          go_roundw
          case measure => simp [intOf, Go.RowKit.intOf]; omega
          case rel => exact ⟨k + 1, _, by omega, by rw [show ((k : Int) + 1) = ((k + 1 : Nat) : Int) by omega], ⟨HV.out.make HID.out⟩, HI6, HB6⟩
        · have HC1 := Aside0.mk (make_any x.f1 HID.out HV.out HI5.out HW5.out)
          go_wp2_with (first
            | (go_at_call 10; (with_reducible refine (HC1.out).mono ?_); rintro e w6 ⟨rfl, hi, hb, hk⟩; have HI6 := Aside0.mk hi; have HB6 := Aside0.mk hb; have HK6 := Aside0.mk hk; clear hi hb hk))
          go_roundw
          case measure => simp [intOf, Go.RowKit.intOf]; omega
          case rel => exact ⟨k + 1, _, by omega, by rw [show ((k : Int) + 1) = ((k + 1 : Nat) : Int) by omega], ⟨HV.out.make HID.out⟩, HI6, HB6⟩
        · have HC1 := Aside0.mk (ready_any x.f1 HID.out HV.out HI5.out HW5.out)
          go_wp2_with (first
            | (go_at_call 11; (with_reducible refine (HC1.out).mono ?_); rintro e w6 ⟨rfl, hi, hb, hk⟩; have HI6 := Aside0.mk hi; have HB6 := Aside0.mk hb; have HK6 := Aside0.mk hk; clear hi hb hk))
          go_roundw
          case measure => simp [intOf, Go.RowKit.intOf]; omega
          case rel => exact ⟨k + 1, _, by omega, by rw [show ((k : Int) + 1) = ((k + 1 : Nat) : Int) by omega], ⟨HV.out.ready HID.out⟩, HI6, HB6⟩
        · have hl8 : s.stack.length ≤ 8 := Nat.le_trans HV.out.len (Nat.le_trans HV.out.size.1 HV.out.size.2)
          obtain ⟨bz, hbz⟩ : ∃ bz, bz = those s 40 := ⟨_, rfl⟩
          have hbl : bz.length ≤ 8 := by rw [hbz]; exact Nat.le_trans (List.length_filter_le _ _) (by simpa [keys] using Nat.le_trans HV.out.size.1 HV.out.size.2)
          have HBZ := Aside0.mk hbz
          clear hbz
          rcases take_cases s with ⟨hs, he⟩ | ⟨l, id, hs, he⟩
          · have HT := Aside0.mk (fun (W : World) (hI : IsP w W g s) (hB : Below w.heap.size w W) => take_any HV.out hI hB)
            rw [he] at HT
            have hs0 : s.stack.length = 0 := by rw [hs]; rfl
            have hg0 : decide ((0 : Int) < (s.stack.length : Int)) = false := decide_eq_false (by omega)
            have hg1 : decide (0 < s.stack.length) = false := decide_eq_false (by omega)
            clear he hs
            go_wp2_with (first
              | (go_at_call 19; (with_reducible refine (idle_raw HV.out HI5.out).mono ?_); rintro e wa ⟨va, rfl, hr, hb⟩; obtain ⟨Aa, na, rfl⟩ := Kd.R_slice hr; have HIa := Aside0.mk (HI5.out.below hb); have HBa := Aside0.mk (HW5.out.trans (hb.mono HW5.out.size)); have HRa := Aside0.mk (HI5.out.new_row hb hr); clear hr hb)
              | (go_at_call 15; (with_reducible refine (busy_raw HV.out HIa.out).mono ?_); rw [← HBZ.out]; rintro e wb ⟨vb, rfl, hr, hb⟩; obtain ⟨Ab, nb, rfl⟩ := Kd.R_slice hr; have HIb := Aside0.mk (HIa.out.below hb); have HBb := Aside0.mk (HBa.out.trans (hb.mono HBa.out.size)); have HRb := Aside0.mk (HIa.out.new_row hb hr); have HRab := Aside0.mk (HIa.out.row_below hb HRa.out); clear hr hb HIa HBa HRa)
              | (go_at_call 12; (with_reducible refine (HT.out wb HIb.out HBb.out).mono ?_); rintro e wc ⟨rfl, hi, hb, hk⟩; have HIc := Aside0.mk hi; have HBc := Aside0.mk hb; clear hi hb hk HIb HBb)
              | (go_at_call 12; (with_reducible refine (HT.out wc HIc.out HBc.out).mono ?_); rintro e wd ⟨rfl, hi, hb, hk⟩; have HId := Aside0.mk hi; have HBd := Aside0.mk hb; clear hi hb hk))
            go_roundw
            case measure => simp [intOf, Go.RowKit.intOf]; omega
            case rel => exact ⟨k + 1, s, by omega, by rw [show ((k : Int) + 1) = ((k + 1 : Nat) : Int) by omega], HV, HId, HBd⟩
          · have HT := Aside0.mk (fun (W : World) (hI : IsP w W g s) (hB : Below w.heap.size w W) => take_any HV.out hI hB)
            have hv1 : PInv (takeF s).2.2 := HV.out.take
            rw [he] at HT hv1
            have hid : I64 id := HV.out.key _ ((HV.out.idle id).1 (by rw [hs]; simp))
            have HG := Aside0.mk (fun (W : World) (hI : IsP w W g ⟨s.size, put s.what id 3, l⟩) (hB : Below w.heap.size w W) => give_any id hid hv1 hI hB)
            rw [take_give HV.out hs] at HG
            have HV1 := Aside0.mk hv1
            have hsl : (0 : Int) < (s.stack.length : Int) := by rw [hs]; simp
            have hg0 : decide ((0 : Int) < (s.stack.length : Int)) = true := decide_eq_true hsl
            have hg1 : decide (0 < s.stack.length) = true := decide_eq_true (by omega)
            clear he hs hv1 hid
            go_wp2_with (first
              | (go_at_call 19; (with_reducible refine (idle_raw HV.out HI5.out).mono ?_); rintro e wa ⟨va, rfl, hr, hb⟩; obtain ⟨Aa, na, rfl⟩ := Kd.R_slice hr; have HIa := Aside0.mk (HI5.out.below hb); have HBa := Aside0.mk (HW5.out.trans (hb.mono HW5.out.size)); have HRa := Aside0.mk (HI5.out.new_row hb hr); clear hr hb)
              | (go_at_call 15; (with_reducible refine (busy_raw HV.out HIa.out).mono ?_); rw [← HBZ.out]; rintro e wb ⟨vb, rfl, hr, hb⟩; obtain ⟨Ab, nb, rfl⟩ := Kd.R_slice hr; have HIb := Aside0.mk (HIa.out.below hb); have HBb := Aside0.mk (HBa.out.trans (hb.mono HBa.out.size)); have HRb := Aside0.mk (HIa.out.new_row hb hr); have HRab := Aside0.mk (HIa.out.row_below hb HRa.out); clear hr hb HIa HBa HRa)
              | (go_at_call 12; (with_reducible refine (HT.out wb HIb.out HBb.out).mono ?_); rintro e wc ⟨rfl, hi, hb, hk⟩; have HIc := Aside0.mk hi; have HBc := Aside0.mk hb; have HRac := Aside0.mk (hk.row HRab.out); have HRbc := Aside0.mk (hk.row HRb.out); clear hi hb hk HIb HBb HRab HRb)
              | (go_at_call 14; (with_reducible refine (HG.out wc HIc.out HBc.out).mono ?_); rintro e wd ⟨rfl, hi, hb, hk⟩; have HId := Aside0.mk hi; have HBd := Aside0.mk hb; have HRad := Aside0.mk (hk.row HRac.out); have HRbd := Aside0.mk (hk.row HRbc.out); clear hi hb hk HIc HBc HRac HRbc)
              | (go_at_call 19; (with_reducible refine (idle_raw HV.out HId.out).mono ?_); rintro e we ⟨ve, rfl, hr, hb⟩; obtain ⟨Ae, n5, rfl⟩ := Kd.R_slice hr; have HIe := Aside0.mk (HId.out.below hb); have HBe := Aside0.mk (HBd.out.trans (hb.mono HBd.out.size)); have HRe := Aside0.mk (Kd.R_reads' hr); have HRae := Aside0.mk (Kd.R_reads' (Kd.R_below HRad.out hb)); have HRbe := Aside0.mk (Kd.R_below HRbd.out hb); clear hr hb HId HBd HRad HRbd)
              | (go_at_call 20; (with_reducible refine (same16 s.stack Ae Aa n5 na we HRe.out.2.2 HRe.out.2.1 HRae.out.2.2 HRae.out.2.1 (by omega)).mono ?_); rintro e wf ⟨rfl, hb⟩; have HIf := Aside0.mk (HIe.out.below hb); have HBf := Aside0.mk (HBe.out.trans (hb.mono HBe.out.size)); have HRbf := Aside0.mk (Kd.R_below HRbe.out hb); clear hb HIe HBe HRbe)
              | (go_at_call 15; (with_reducible refine (busy_raw HV.out HIf.out).mono ?_); rw [← HBZ.out]; rintro e wg ⟨vg, rfl, hr, hb⟩; obtain ⟨Ag, n7, rfl⟩ := Kd.R_slice hr; have HIg := Aside0.mk (HIf.out.below hb); have HBg := Aside0.mk (HBf.out.trans (hb.mono HBf.out.size)); have HRg := Aside0.mk (Kd.R_reads' hr); have HRbg := Aside0.mk (Kd.R_reads' (Kd.R_below HRbf.out hb)); clear hr hb HIf HBf HRbf)
              | (go_at_call 20; (with_reducible refine (same16 bz Ag Ab n7 nb wg HRg.out.2.2 HRg.out.2.1 HRbg.out.2.2 HRbg.out.2.1 (by omega)).mono ?_); rintro e wh ⟨rfl, hb⟩; have HIh := Aside0.mk (HIg.out.below hb); have HBh := Aside0.mk (HBg.out.trans (hb.mono HBg.out.size)); clear hb HIg HBg)
              | (go_at_call 12; (with_reducible refine (HT.out wh HIh.out HBh.out).mono ?_); rintro e wi ⟨rfl, hi, hb, hk⟩; have HIi := Aside0.mk hi; have HBi := Aside0.mk hb; clear hi hb hk))
            go_roundw
            case measure => simp [intOf, Go.RowKit.intOf]; omega
            case rel => exact ⟨k + 1, _, by omega, by rw [show ((k : Int) + 1) = ((k + 1 : Nat) : Int) by omega], HV1, HIi, HBi⟩
        · have HC1 := Aside0.mk (give_any x.f1 HID.out HV.out HI5.out HW5.out)
          go_wp2_with (first
            | (go_at_call 14; (with_reducible refine (HC1.out).mono ?_); rintro e w6 ⟨rfl, hi, hb, hk⟩; have HI6 := Aside0.mk hi; have HB6 := Aside0.mk hb; have HK6 := Aside0.mk hk; clear hi hb hk))
          go_roundw
          case measure => simp [intOf, Go.RowKit.intOf]; omega
          case rel => exact ⟨k + 1, _, by omega, by rw [show ((k : Int) + 1) = ((k + 1 : Nat) : Int) by omega], ⟨HV.out.give HID.out⟩, HI6, HB6⟩
        · have hl8 : s.stack.length ≤ 8 := Nat.le_trans HV.out.len (Nat.le_trans HV.out.size.1 HV.out.size.2)
          have hk8 : (keys s.what).length ≤ 8 := by simpa [keys] using Nat.le_trans HV.out.size.1 HV.out.size.2
          have HD := Aside0.mk (fun (W : World) (hI : IsP w W g s) (hB : Below w.heap.size w W) => drop_any x.f1 HID.out HV.out hI hB)
          have hv1 : PInv (dropF s x.f1).2 := HV.out.drop
          rw [drop_eq HV.out x.f1] at HD hv1
          have HV1 := Aside0.mk hv1
          have HALL := Aside0.mk (those_all s)
          have HALL1 := Aside0.mk ((those_all ⟨s.size, rem s.what x.f1, dropRow s.stack x.f1⟩).trans (keys_rem s.what x.f1))
          have hd8 : (dropRow s.stack x.f1).length ≤ 8 := Nat.le_trans (List.length_filter_le _ _) hl8
          have hd9 : (dropRow (keys s.what) x.f1).length ≤ 8 := Nat.le_trans (List.length_filter_le _ _) hk8
          clear hv1
          go_wp2_with (first
            | (go_at_call 21; (with_reducible refine (all_raw HV.out HI5.out).mono ?_); rw [HALL.out]; rintro e wa ⟨va, rfl, hr, hb⟩; obtain ⟨Aa, na, rfl⟩ := Kd.R_slice hr; have HIa := Aside0.mk (HI5.out.below hb); have HBa := Aside0.mk (HW5.out.trans (hb.mono HW5.out.size)); have HRa := Aside0.mk (HI5.out.new_row hb hr); clear hr hb)
            | (go_at_call 19; (with_reducible refine (idle_raw HV.out HIa.out).mono ?_); rintro e wb ⟨vb, rfl, hr, hb⟩; obtain ⟨Ab, nb, rfl⟩ := Kd.R_slice hr; have HIb := Aside0.mk (HIa.out.below hb); have HBb := Aside0.mk (HBa.out.trans (hb.mono HBa.out.size)); have HRb := Aside0.mk (HIa.out.new_row hb hr); have HRab := Aside0.mk (HIa.out.row_below hb HRa.out); clear hr hb HIa HBa HRa)
            | (go_at_call 22; (with_reducible refine (HD.out wb HIb.out HBb.out).mono ?_); rintro e wc ⟨rfl, hi, hb, hk⟩; have HIc := Aside0.mk hi; have HBc := Aside0.mk hb; have HRac := Aside0.mk (hk.row HRab.out); have HRbc := Aside0.mk (hk.row HRb.out); clear hi hb hk HIb HBb HRab HRb)
            | (go_at_call 21; (with_reducible refine (all_raw HV1.out HIc.out).mono ?_); rw [HALL1.out]; rintro e wd ⟨vd, rfl, hr, hb⟩; obtain ⟨Ad, nd, rfl⟩ := Kd.R_slice hr; have HId := Aside0.mk (HIc.out.below hb); have HBd := Aside0.mk (HBc.out.trans (hb.mono HBc.out.size)); have HRd := Aside0.mk hr; have HRad := Aside0.mk (Kd.R_below HRac.out hb); have HRbd := Aside0.mk (Kd.R_below HRbc.out hb); clear hr hb HIc HBc HRac HRbc)
            | (go_at_call 23; (with_reducible refine (less16 x.f1 (keys s.what) Aa na wd (Kd.R_reads' HRad.out).2.2 (Kd.R_reads' HRad.out).2.1 (by omega)).mono ?_); rintro e we ⟨ve, rfl, hr, hb⟩; obtain ⟨Ae, n5, rfl⟩ := Kd.R_slice hr; have HIe := Aside0.mk (HId.out.below hb); have HBe := Aside0.mk (HBd.out.trans (hb.mono HBd.out.size)); have HRe := Aside0.mk (Kd.R_reads' hr); have HRde := Aside0.mk (Kd.R_reads' (Kd.R_below HRd.out hb)); have HRae := Aside0.mk (Kd.R_below HRad.out hb); have HRbe := Aside0.mk (Kd.R_below HRbd.out hb); clear hr hb HId HBd HRad HRbd HRd)
            | (go_at_call 20; (with_reducible refine (same16 (dropRow (keys s.what) x.f1) Ad Ae nd n5 we HRde.out.2.2 HRde.out.2.1 HRe.out.2.2 HRe.out.2.1 (by omega)).mono ?_); rintro e wf ⟨rfl, hb⟩; have HIf := Aside0.mk (HIe.out.below hb); have HBf := Aside0.mk (HBe.out.trans (hb.mono HBe.out.size)); have HRaf := Aside0.mk (Kd.R_below HRae.out hb); have HRbf := Aside0.mk (Kd.R_below HRbe.out hb); clear hb HIe HBe HRbe HRae)
            | (go_at_call 19; (with_reducible refine (idle_raw HV1.out HIf.out).mono ?_); rintro e wg ⟨vg, rfl, hr, hb⟩; obtain ⟨Ag, n7, rfl⟩ := Kd.R_slice hr; have HIg := Aside0.mk (HIf.out.below hb); have HBg := Aside0.mk (HBf.out.trans (hb.mono HBf.out.size)); have HRg := Aside0.mk hr; have HRag := Aside0.mk (Kd.R_below HRaf.out hb); have HRbg := Aside0.mk (Kd.R_below HRbf.out hb); clear hr hb HIf HBf HRbf HRaf)
            | (go_at_call 23; (with_reducible refine (less16 x.f1 s.stack Ab nb wg (Kd.R_reads' HRbg.out).2.2 (Kd.R_reads' HRbg.out).2.1 (by omega)).mono ?_); rintro e wh ⟨vh, rfl, hr, hb⟩; obtain ⟨Ah, n8, rfl⟩ := Kd.R_slice hr; have HIh := Aside0.mk (HIg.out.below hb); have HBh := Aside0.mk (HBg.out.trans (hb.mono HBg.out.size)); have HRh := Aside0.mk (Kd.R_reads' hr); have HRgh := Aside0.mk (Kd.R_reads' (Kd.R_below HRg.out hb)); have HRah := Aside0.mk (Kd.R_below HRag.out hb); clear hr hb HIg HBg HRag HRbg HRg)
            | (go_at_call 20; (with_reducible refine (same16 (dropRow s.stack x.f1) Ag Ah n7 n8 wh HRgh.out.2.2 HRgh.out.2.1 HRh.out.2.2 HRh.out.2.1 (by omega)).mono ?_); rintro e wi ⟨rfl, hb⟩; have HIi := Aside0.mk (HIh.out.below hb); have HBi := Aside0.mk (HBh.out.trans (hb.mono HBh.out.size)); have HRai := Aside0.mk (Kd.R_reads' (Kd.R_below HRah.out hb)); clear hb HIh HBh HRah)
            | (go_at_call 13; (with_reducible refine (has16 x.f1 (keys s.what) Aa na wi HRai.out.2.2 HRai.out.2.1 (by omega)).mono ?_); rintro e wj ⟨rfl, hb⟩; have HIj := Aside0.mk (HIi.out.below hb); have HBj := Aside0.mk (HBi.out.trans (hb.mono HBi.out.size)); clear hb HIi HBi))
          go_roundw
          case measure => simp [intOf, Go.RowKit.intOf]; omega
          case rel => exact ⟨k + 1, _, by omega, by rw [show ((k : Int) + 1) = ((k + 1 : Nat) : Int) by omega], HV1, HIj, HBj⟩
    · have hke : k = ne := by omega
      subst hke
      have HBE := Aside0.mk HB.out
      clear hk hlt
      go_wp2
      go_ret
      exact ⟨rfl, HBE.out⟩
end Go.Proofs.Yteagjolmikbllaa.Ob
