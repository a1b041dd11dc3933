/-
  The walk of PoolPlays. Conditions: none.
-/
import Derived.Test.YteagjolmikbllaaRt
set_option linter.unusedVariables false
set_option linter.unusedSimpArgs false
namespace Go.Proofs.Yteagjolmikbllaa.Ob
open Go.RowKit Go.Proofs.YteagjolmikbllaaW.PrintWords Go.Proofs.YteagjolmikbllaaW.PrintLast Go.Proofs.YteagjolmikbllaaW.PrintMore Go.Proofs.Yteagjolmikbllaa.Hid Go.Proofs.Yteagjolmikbllaa.Mp Go.Proofs.Yteagjolmikbllaa.PA
variable {s : PS}
def plays.T33 : Bool × List (List Nat × List Nat) := (true, [([], []), ([0], [0]), ([1], [1]), ([2], [2]), ([3, 2, 2], [2, 3]), ([2], [2]), ([5, 4, 2], [2, 5]), ([4, 6, 2], [2, 4, 6]), ([2, 7], [2, 7]), ([8, 6], [8]), ([9], [9]), ([10, 9, 9], [9, 10]), ([9], [9]), ([12, 9], [9, 12]), ([9], [9]), ([14, 11, 9], [9, 14]), ([13, 15, 9], [9, 13, 15]), ([11, 16, 9], [9, 11, 16]), ([9, 17], [9, 17]), ([18, 15], [18]), ([19], [19]), ([19], [19]), ([20, 21, 19, 19], [19, 20, 21]), ([19], [19]), ([19], [19]), ([23, 24, 22, 19], [19, 23, 24]), ([22, 25, 19], [19, 22, 25]), ([19, 26], [19, 26])])
theorem plays.tab33 : rtab .any (opsOf Try.f5 33) = plays.T33 := by kernel_rfl
def plays.T35 : Bool × List (List Nat × List Nat) := (true, [([], []), ([0], [0]), ([], []), ([2], [2]), ([3, 1], [3]), ([1, 4, 4], [1, 4]), ([5], [5]), ([6, 5], [6]), ([7], [7]), ([8, 7, 7], [7, 8]), ([7], [7]), ([10, 7], [7, 10]), ([9, 11, 9, 7], [7, 9, 11]), ([12, 7], [7, 12]), ([7, 13], [7, 13]), ([14, 12], [14]), ([15], [15]), ([16, 15, 15], [15, 16]), ([15], [15]), ([18, 15], [15, 18]), ([19, 17, 15], [15, 19]), ([17, 20, 20, 15], [15, 17, 20]), ([21, 15], [15, 21]), ([15, 22], [15, 22]), ([23, 21], [23]), ([24], [24]), ([25, 24, 24], [24, 25]), ([24], [24]), ([27, 26, 24], [24, 27]), ([26, 28, 28, 24], [24, 26, 28]), ([29, 24], [24, 29]), ([24, 30], [24, 30])])
theorem plays.tab35 : rtab .any (opsOf Try.f5 35) = plays.T35 := by kernel_rfl
theorem start_ref {w W W1 : World} {g n : Nat} {s : PS} {A1 A2 A3 : Option Addr} {c1 c2 c3 : Nat} (hI : IsP w W g s) (hB : Below w.heap.size w W) (hb : Below W.heap.size W W1) (q1 : Rd (fun k => W.heap.size ≤ k) W1 (.slice A1 0 c1) []) (q2 : Rd (fun k => W.heap.size ≤ k) W1 (.slice A2 0 c2) []) (q3 : Rd (fun k => W.heap.size ≤ k) W1 (.slice A3 0 c3) []) :
    RefAt w (W1.alloc (.cells #[.int .i64 (n : Int), .slice A1 0 c1, .slice A2 0 c2, .slice A3 0 c3] 44)) g W1.heap.size n ⟨[], [], []⟩ := by
  have hI1 := hI.below hb
  have hal := below_alloc (Below.refl _ W1) (.cells #[.int .i64 (n : Int), .slice A1 0 c1, .slice A2 0 c2, .slice A3 0 c3] 44)
  have row : ∀ {v : Value}, Rd (fun k => W.heap.size ≤ k) W1 v [] → RdN (W1.alloc (.cells #[.int .i64 (n : Int), .slice A1 0 c1, .slice A2 0 c2, .slice A3 0 c3] 44)) g v [] := fun {v} h =>
    RdN.below (h.mono (fun k _ hk ho => by
      have h1 := ((own_step hI (W1 := W1) (fun k hk => hb.block k (hk.lt hI))).1 ho).lt hI
      omega)) hI1 hal
  refine ⟨Nat.le_trans hB.size hb.size, fun ho => ?_, A1, A2, A3, c1, c2, c3, heap_alloc_new W1 _, row q1, row q2, row q3⟩
  have h1 := ((own_step hI1 (W1 := W1.alloc (.cells #[.int .i64 (n : Int), .slice A1 0 c1, .slice A2 0 c2, .slice A3 0 c3] 44)) (fun k hk => hal.block k (hk.lt hI1))).1 ho).lt hI1
  omega
set_option maxRecDepth 100000 in
set_option maxHeartbeats 8000000 in
theorem plays_calls (a0 : Int) (A : Option Addr) (c0 : Nat) (l0 : List S39) (w : World) (ha : (Lit.int .i64 a0).wf = true) (hr0 : Kd.C k39 w A l0.length l0) (hc0 : l0.length ≤ c0) (hw0 : ∀ x ∈ l0, (Lit.int .i64 x.f0).wf = true ∧ (Lit.int .i64 x.f1).wf = true) :
    Calls Try.prog 5 #[.int .i64 a0, .slice A l0.length c0] w fun e w' => e = .returned (.bool true) ∧ Below w.heap.size w w' := by
  have HL := Aside0.mk (lives_raw w)
  have HC := Aside0.mk hr0
  have HWF := Aside0.mk hw0
  obtain ⟨ne, hne⟩ : ∃ ne, ne = min l0.length 100 := ⟨_, rfl⟩
  have hnl : ne ≤ l0.length := by omega
  have HEA := Aside0.mk (fun W => early_raw A l0.length c0 ne W hne hc0)
  have hlm : l0.length ≤ 9223372036854775807 := hr0.2.1
  have HNW := Aside0.mk (fun W (hB : Below w.heap.size w W) => new_raw a0 w W hB)
  have HNR := Aside0.mk (fun W => ref_new a0 W)
  have hn8 : sizeOf a0 ≤ 8 := (sizeOf_eq a0).2.2
  generalize sizeOf a0 = n at HNW HNR hn8
  have HN8 := Aside0.mk hn8
  clear hn8
  clear hr0 hw0 hne
  go_enter Try.func5, Try.ntmps5
  go_wp2_with (first
    | (go_at_call 8; refine HL.out.mono ?_; rintro e w1 ⟨rfl, hb⟩; have HB1 := Aside0.mk hb; clear hb HL)
    | (go_at_call 9; refine (HNW.out _ HB1.out).mono ?_; rintro e w2 ⟨g, rfl, hi, hb, _⟩; have HI2 := Aside0.mk hi; have HB2 := Aside0.mk hb; clear hi hb HB1)
    | (go_at_call 24; refine (HNR.out _).mono ?_; rintro e w3 ⟨A1, A2, A3, c1, c2, c3, rfl, q1, q2, q3, hb⟩; have HI3 := Aside0.mk ((HI2.out.below hb).alloc (.cells #[.int .i64 (n : Int), .slice A1 0 c1, .slice A2 0 c2, .slice A3 0 c3] 44)); have HB3 := Aside0.mk (below_alloc (HB2.out.trans (hb.mono HB2.out.size)) (.cells #[.int .i64 (n : Int), .slice A1 0 c1, .slice A2 0 c2, .slice A3 0 c3] 44)); have HR3 := Aside0.mk (start_ref (n := n) HI2.out HB2.out hb q1 q2 q3); clear q1 q2 q3 hb)
    | (go_at_call 17; refine (HEA.out _).mono ?_; rintro e w4 ⟨rfl, rfl⟩))
  obtain ⟨rb, hrb⟩ : ∃ rb, rb = w3.heap.size := ⟨_, rfl⟩
  rw [← hrb] at HR3
  try rw [← hrb]
  clear hrb HI2 HB2 HNW HNR
  go_loopw [7] (fun v6 wr => ∃ (k : Nat) (s : PS), k ≤ ne ∧ v6 = .int .i64 k ∧ Aside0 (PInv s) ∧ Aside0 (IsP w wr g s) ∧ Aside0 (Below w.heap.size w wr) ∧ Aside0 (s.size = n) ∧ ∃ r : Rp, Aside0 (Goes s r) ∧ Aside0 (RefAt w wr g rb n r)) (fun v6 _ => ne - (intOf v6).toNat)
  case atStart => exact ⟨0, ⟨n, [], []⟩, Nat.zero_le _, rfl, ⟨PInv.new _ HN8.out⟩, HI3, HB3, ⟨rfl⟩, ⟨[], [], []⟩, ⟨Goes.new n⟩, HR3⟩
  case round =>
    obtain ⟨k, s, hk, rfl, HV, HI, HB, HSZN, r, HGO, HRF⟩ := hrel
    by_cases hlt : k < ne
    · obtain ⟨ad, hA, hx0, hx1⟩ := at_T39 (Kd.C_below HC.out HB.out) (k : Int) (by omega) (by omega)
      subst hA
      obtain ⟨x, hxe⟩ : ∃ x : S39, x = rd_T39 l0 (k : Int) := ⟨_, rfl⟩
      have hxm : x ∈ l0 := by rw [hxe]; exact rd39_mem (by omega)
      have HID : Aside0 (I64 x.f1) := ⟨(HWF.out x hxm).2⟩
      rw [← hxe, Int.toNat_natCast] at hx0 hx1
      have h0k : (0 : Int) ≤ (k : Int) := by omega
      have hkl : (k : Int) < (ne : Int) := by omega
      obtain ⟨κ, hκ6, hκ⟩ := kind_raw x
      have HKD := Aside0.mk hκ
      clear hxe hxm hκ
      go_upto_block 2 with (go_at_call 18; refine (HKD.out _).mono ?_; rintro e w5 ⟨rfl, hb⟩; have HB5 := Aside0.mk hb; clear hb HKD)
      have HI5 := Aside0.mk (HI.out.below HB5.out)
      have HW5 := Aside0.mk (HB.out.trans (HB5.out.mono HB.out.size))
      have HR5 := Aside0.mk (HRF.out.below HI.out HB5.out)
      clear HI HB HB5 HRF hx0 hx1 HI3 HB3 HR3
      go_cut [9] (fun v9 wc => ∃ (s' : PS) (r' : Rp), v9 = .bool true ∧ Aside0 (PInv s') ∧ Aside0 (Goes s' r') ∧ Aside0 (IsP w wc g s') ∧ Aside0 (Below w.heap.size w wc) ∧ Aside0 (s'.size = n) ∧ Aside0 (RefAt w wc g rb n r'))
      case first =>
        obtain ⟨hbw, hno, A1, A2, A3, c1, c2, c3, hb4, hR1, hR2, hR3⟩ := HR5.out
        have HBK := Aside0.mk hb4
        have HR1 := Aside0.mk hR1
        have HR2 := Aside0.mk hR2
        have HR3 := Aside0.mk hR3
        have HBWW := Aside0.mk hbw
        have HNO := Aside0.mk hno
        have HSM := Aside0.mk (HGO.out.small HV.out)
        obtain ⟨ca0, ca1, ca2, ca3, fa0, fa1, fa2, fa3⟩ := B4.cells hb4
        clear hb4 hR1 hR2 hR3 hbw hno
        have hx : κ = 0 ∨ κ = 1 ∨ κ = 2 ∨ κ = 3 ∨ κ = 4 ∨ κ = 5 := by omega
        rcases hx with rfl | rfl | rfl | rfl | rfl | rfl
        · as_aux_lemma =>
          have hq := HGO.out.make HV.out x.f1
          rw [HSZN.out] at hq
          have HRC := Aside0.mk (ref_make (n := n) x.f1 HSM.out HR1.out HR2.out HR3.out)
          have HMC := Aside0.mk (fun W (hI : IsP w W g s) (hB : Below w.heap.size w W) => make_any x.f1 HID.out HV.out hI hB)
          have hv' : PInv (makeF s x.f1).2 := HV.out.make HID.out
          have hz' : (makeF s x.f1).2.size = n := (size_make' s x.f1).trans HSZN.out
          rw [hq.1] at HRC
          have hg' := hq.2
          clear hq
          generalize (makeF s x.f1).1 = rr at HRC HMC
          generalize (makeF s x.f1).2 = s' at HMC hv' hz' hg'
          generalize (rMake n r x.f1).2 = r' at HRC hg'
          have HV' := Aside0.mk hv'
          have HSZ' := Aside0.mk hz'
          have HGO' := Aside0.mk hg'
          clear hv' hz' hg'
          go_wp2_with (first
            | (go_at_call 25; (with_reducible refine HRC.out.mono ?_); rintro e w6 ⟨vs, rfl, u1, u2, u3, rfl, q1, q2, q3, hb6⟩; have HI6 := Aside0.mk (HI5.out.below hb6); have HW6 := Aside0.mk (HW5.out.trans (hb6.mono HW5.out.size)); have HK6 := Aside0.mk (HBK.out.below hb6); have p1 := RdN.fresh HI5.out hb6 q1; have p2 := RdN.fresh HI5.out hb6 q2; have p3 := RdN.fresh HI5.out hb6 q3; clear q1 q2 q3; obtain ⟨A1', c1', rfl⟩ := slice_rd p1; obtain ⟨A2', c2', rfl⟩ := slice_rd p2; obtain ⟨A3', c3', rfl⟩ := slice_rd p3; have HP := Aside0.mk (ref_put (n := n) HI6.out HW6.out HK6.out HBWW.out (fun ho => HNO.out ((own_step HI5.out (W1 := w6) (fun k hk => hb6.block k (hk.lt HI5.out))).1 ho)) p1 p2 p3); obtain ⟨cb0, cb1, cb2, cb3, fb0, fb1, fb2, fb3⟩ := B4.cells HK6.out; have hl6 : rb < w6.heap.size := blk_lt HK6.out; clear p1 p2 p3 hb6)
            | (go_at_call 10; (with_reducible refine (HMC.out _ HP.out.2.1 HP.out.2.2).mono ?_); rintro e w7 ⟨rfl, hi7, hb7, hk7⟩))
          go_meet
          case rel => exact ⟨s', r', by first | rfl | simp, HV', HGO', ⟨hi7⟩, ⟨hb7⟩, HSZ', ⟨HP.out.1.keep hk7⟩⟩
        · as_aux_lemma =>
          have hq := HGO.out.make HV.out x.f1
          rw [HSZN.out] at hq
          have HRC := Aside0.mk (ref_make (n := n) x.f1 HSM.out HR1.out HR2.out HR3.out)
          have HMC := Aside0.mk (fun W (hI : IsP w W g s) (hB : Below w.heap.size w W) => make_any x.f1 HID.out HV.out hI hB)
          have hv' : PInv (makeF s x.f1).2 := HV.out.make HID.out
          have hz' : (makeF s x.f1).2.size = n := (size_make' s x.f1).trans HSZN.out
          rw [hq.1] at HRC
          have hg' := hq.2
          clear hq
          generalize (makeF s x.f1).1 = rr at HRC HMC
          generalize (makeF s x.f1).2 = s' at HMC hv' hz' hg'
          generalize (rMake n r x.f1).2 = r' at HRC hg'
          have HV' := Aside0.mk hv'
          have HSZ' := Aside0.mk hz'
          have HGO' := Aside0.mk hg'
          clear hv' hz' hg'
          go_wp2_with (first
            | (go_at_call 25; (with_reducible refine HRC.out.mono ?_); rintro e w6 ⟨vs, rfl, u1, u2, u3, rfl, q1, q2, q3, hb6⟩; have HI6 := Aside0.mk (HI5.out.below hb6); have HW6 := Aside0.mk (HW5.out.trans (hb6.mono HW5.out.size)); have HK6 := Aside0.mk (HBK.out.below hb6); have p1 := RdN.fresh HI5.out hb6 q1; have p2 := RdN.fresh HI5.out hb6 q2; have p3 := RdN.fresh HI5.out hb6 q3; clear q1 q2 q3; obtain ⟨A1', c1', rfl⟩ := slice_rd p1; obtain ⟨A2', c2', rfl⟩ := slice_rd p2; obtain ⟨A3', c3', rfl⟩ := slice_rd p3; have HP := Aside0.mk (ref_put (n := n) HI6.out HW6.out HK6.out HBWW.out (fun ho => HNO.out ((own_step HI5.out (W1 := w6) (fun k hk => hb6.block k (hk.lt HI5.out))).1 ho)) p1 p2 p3); obtain ⟨cb0, cb1, cb2, cb3, fb0, fb1, fb2, fb3⟩ := B4.cells HK6.out; have hl6 : rb < w6.heap.size := blk_lt HK6.out; clear p1 p2 p3 hb6)
            | (go_at_call 10; (with_reducible refine (HMC.out _ HP.out.2.1 HP.out.2.2).mono ?_); rintro e w7 ⟨rfl, hi7, hb7, hk7⟩))
          go_meet
          case rel => exact ⟨s', r', by first | rfl | simp, HV', HGO', ⟨hi7⟩, ⟨hb7⟩, HSZ', ⟨HP.out.1.keep hk7⟩⟩
        · as_aux_lemma =>
          have hq := HGO.out.ready HV.out x.f1
          have HRC := Aside0.mk (ref_ready (n := n) x.f1 HSM.out HR1.out HR2.out HR3.out)
          have HMC := Aside0.mk (fun W (hI : IsP w W g s) (hB : Below w.heap.size w W) => ready_any x.f1 HID.out HV.out hI hB)
          have hv' : PInv (readyF s x.f1).2 := HV.out.ready HID.out
          have hz' : (readyF s x.f1).2.size = n := (size_ready' s x.f1).trans HSZN.out
          rw [hq.1] at HRC
          have hg' := hq.2
          clear hq
          generalize (readyF s x.f1).1 = rr at HRC HMC
          generalize (readyF s x.f1).2 = s' at HMC hv' hz' hg'
          generalize (rReady r x.f1).2 = r' at HRC hg'
          have HV' := Aside0.mk hv'
          have HSZ' := Aside0.mk hz'
          have HGO' := Aside0.mk hg'
          clear hv' hz' hg'
          go_wp2_with (first
            | (go_at_call 26; (with_reducible refine HRC.out.mono ?_); rintro e w6 ⟨vs, rfl, u1, u2, u3, rfl, q1, q2, q3, hb6⟩; have HI6 := Aside0.mk (HI5.out.below hb6); have HW6 := Aside0.mk (HW5.out.trans (hb6.mono HW5.out.size)); have HK6 := Aside0.mk (HBK.out.below hb6); have p1 := RdN.fresh HI5.out hb6 q1; have p2 := RdN.fresh HI5.out hb6 q2; have p3 := RdN.fresh HI5.out hb6 q3; clear q1 q2 q3; obtain ⟨A1', c1', rfl⟩ := slice_rd p1; obtain ⟨A2', c2', rfl⟩ := slice_rd p2; obtain ⟨A3', c3', rfl⟩ := slice_rd p3; have HP := Aside0.mk (ref_put (n := n) HI6.out HW6.out HK6.out HBWW.out (fun ho => HNO.out ((own_step HI5.out (W1 := w6) (fun k hk => hb6.block k (hk.lt HI5.out))).1 ho)) p1 p2 p3); obtain ⟨cb0, cb1, cb2, cb3, fb0, fb1, fb2, fb3⟩ := B4.cells HK6.out; have hl6 : rb < w6.heap.size := blk_lt HK6.out; clear p1 p2 p3 hb6)
            | (go_at_call 11; (with_reducible refine (HMC.out _ HP.out.2.1 HP.out.2.2).mono ?_); rintro e w7 ⟨rfl, hi7, hb7, hk7⟩))
          go_meet
          case rel => exact ⟨s', r', by first | rfl | simp, HV', HGO', ⟨hi7⟩, ⟨hb7⟩, HSZ', ⟨HP.out.1.keep hk7⟩⟩
        · as_aux_lemma =>
          have hq := HGO.out.take HV.out
          have HRC := Aside0.mk (ref_take (n := n) HSM.out HR1.out HR2.out HR3.out)
          have HMC := Aside0.mk (fun W (hI : IsP w W g s) (hB : Below w.heap.size w W) => take_any HV.out hI hB)
          have hv' : PInv (takeF s).2.2 := HV.out.take
          have hz' : (takeF s).2.2.size = n := (size_take' s).trans HSZN.out
          rw [hq.1, hq.2.1] at HRC
          have hg' := hq.2.2
          clear hq
          generalize (takeF s).1 = rr at HRC HMC
          generalize (takeF s).2.1 = rq at HRC HMC
          generalize (takeF s).2.2 = s' at HMC hv' hz' hg'
          generalize (rTake r).2.2 = r' at HRC hg'
          have HV' := Aside0.mk hv'
          have HSZ' := Aside0.mk hz'
          have HGO' := Aside0.mk hg'
          clear hv' hz' hg'
          go_wp2_with (first
            | (go_at_call 27; (with_reducible refine HRC.out.mono ?_); rintro e w6 ⟨vs, rfl, u1, u2, u3, rfl, q1, q2, q3, hb6⟩; have HI6 := Aside0.mk (HI5.out.below hb6); have HW6 := Aside0.mk (HW5.out.trans (hb6.mono HW5.out.size)); have HK6 := Aside0.mk (HBK.out.below hb6); have p1 := RdN.fresh HI5.out hb6 q1; have p2 := RdN.fresh HI5.out hb6 q2; have p3 := RdN.fresh HI5.out hb6 q3; clear q1 q2 q3; obtain ⟨A1', c1', rfl⟩ := slice_rd p1; obtain ⟨A2', c2', rfl⟩ := slice_rd p2; obtain ⟨A3', c3', rfl⟩ := slice_rd p3; have HP := Aside0.mk (ref_put (n := n) HI6.out HW6.out HK6.out HBWW.out (fun ho => HNO.out ((own_step HI5.out (W1 := w6) (fun k hk => hb6.block k (hk.lt HI5.out))).1 ho)) p1 p2 p3); obtain ⟨cb0, cb1, cb2, cb3, fb0, fb1, fb2, fb3⟩ := B4.cells HK6.out; have hl6 : rb < w6.heap.size := blk_lt HK6.out; clear p1 p2 p3 hb6)
            | (go_at_call 12; (with_reducible refine (HMC.out _ HP.out.2.1 HP.out.2.2).mono ?_); rintro e w7 ⟨rfl, hi7, hb7, hk7⟩))
          go_meet
          case rel => exact ⟨s', r', by first | rfl | simp, HV', HGO', ⟨hi7⟩, ⟨hb7⟩, HSZ', ⟨HP.out.1.keep hk7⟩⟩
        · as_aux_lemma =>
          have hq := HGO.out.give HV.out x.f1
          have HRC := Aside0.mk (ref_give (n := n) x.f1 HSM.out HR1.out HR2.out HR3.out)
          have HMC := Aside0.mk (fun W (hI : IsP w W g s) (hB : Below w.heap.size w W) => give_any x.f1 HID.out HV.out hI hB)
          have hv' : PInv (giveF s x.f1).2 := HV.out.give HID.out
          have hz' : (giveF s x.f1).2.size = n := (size_give' s x.f1).trans HSZN.out
          rw [hq.1] at HRC
          have hg' := hq.2
          clear hq
          generalize (giveF s x.f1).1 = rr at HRC HMC
          generalize (giveF s x.f1).2 = s' at HMC hv' hz' hg'
          generalize (rGive r x.f1).2 = r' at HRC hg'
          have HV' := Aside0.mk hv'
          have HSZ' := Aside0.mk hz'
          have HGO' := Aside0.mk hg'
          clear hv' hz' hg'
          go_wp2_with (first
            | (go_at_call 28; (with_reducible refine HRC.out.mono ?_); rintro e w6 ⟨vs, rfl, u1, u2, u3, rfl, q1, q2, q3, hb6⟩; have HI6 := Aside0.mk (HI5.out.below hb6); have HW6 := Aside0.mk (HW5.out.trans (hb6.mono HW5.out.size)); have HK6 := Aside0.mk (HBK.out.below hb6); have p1 := RdN.fresh HI5.out hb6 q1; have p2 := RdN.fresh HI5.out hb6 q2; have p3 := RdN.fresh HI5.out hb6 q3; clear q1 q2 q3; obtain ⟨A1', c1', rfl⟩ := slice_rd p1; obtain ⟨A2', c2', rfl⟩ := slice_rd p2; obtain ⟨A3', c3', rfl⟩ := slice_rd p3; have HP := Aside0.mk (ref_put (n := n) HI6.out HW6.out HK6.out HBWW.out (fun ho => HNO.out ((own_step HI5.out (W1 := w6) (fun k hk => hb6.block k (hk.lt HI5.out))).1 ho)) p1 p2 p3); obtain ⟨cb0, cb1, cb2, cb3, fb0, fb1, fb2, fb3⟩ := B4.cells HK6.out; have hl6 : rb < w6.heap.size := blk_lt HK6.out; clear p1 p2 p3 hb6)
            | (go_at_call 14; (with_reducible refine (HMC.out _ HP.out.2.1 HP.out.2.2).mono ?_); rintro e w7 ⟨rfl, hi7, hb7, hk7⟩))
          go_meet
          case rel => exact ⟨s', r', by first | rfl | simp, HV', HGO', ⟨hi7⟩, ⟨hb7⟩, HSZ', ⟨HP.out.1.keep hk7⟩⟩
        · as_aux_lemma =>
          have hq := HGO.out.drop HV.out x.f1
          have HRC := Aside0.mk (ref_drop (n := n) x.f1 HSM.out HR1.out HR2.out HR3.out)
          have HMC := Aside0.mk (fun W (hI : IsP w W g s) (hB : Below w.heap.size w W) => drop_any x.f1 HID.out HV.out hI hB)
          have hv' : PInv (dropF s x.f1).2 := HV.out.drop
          have hz' : (dropF s x.f1).2.size = n := (size_drop' s x.f1).trans HSZN.out
          rw [hq.1] at HRC
          have hg' := hq.2
          clear hq
          generalize (dropF s x.f1).1 = rr at HRC HMC
          generalize (dropF s x.f1).2 = s' at HMC hv' hz' hg'
          generalize (rDrop r x.f1).2 = r' at HRC hg'
          have HV' := Aside0.mk hv'
          have HSZ' := Aside0.mk hz'
          have HGO' := Aside0.mk hg'
          clear hv' hz' hg'
          go_wp2_with (first
            | (go_at_call 29; (with_reducible refine HRC.out.mono ?_); rintro e w6 ⟨vs, rfl, u1, u2, u3, rfl, q1, q2, q3, hb6⟩; have HI6 := Aside0.mk (HI5.out.below hb6); have HW6 := Aside0.mk (HW5.out.trans (hb6.mono HW5.out.size)); have HK6 := Aside0.mk (HBK.out.below hb6); have p1 := RdN.fresh HI5.out hb6 q1; have p2 := RdN.fresh HI5.out hb6 q2; have p3 := RdN.fresh HI5.out hb6 q3; clear q1 q2 q3; obtain ⟨A1', c1', rfl⟩ := slice_rd p1; obtain ⟨A2', c2', rfl⟩ := slice_rd p2; obtain ⟨A3', c3', rfl⟩ := slice_rd p3; have HP := Aside0.mk (ref_put (n := n) HI6.out HW6.out HK6.out HBWW.out (fun ho => HNO.out ((own_step HI5.out (W1 := w6) (fun k hk => hb6.block k (hk.lt HI5.out))).1 ho)) p1 p2 p3); obtain ⟨cb0, cb1, cb2, cb3, fb0, fb1, fb2, fb3⟩ := B4.cells HK6.out; have hl6 : rb < w6.heap.size := blk_lt HK6.out; clear p1 p2 p3 hb6)
            | (go_at_call 22; (with_reducible refine (HMC.out _ HP.out.2.1 HP.out.2.2).mono ?_); rintro e w7 ⟨rfl, hi7, hb7, hk7⟩))
          go_meet
          case rel => exact ⟨s', r', by first | rfl | simp, HV', HGO', ⟨hi7⟩, ⟨hb7⟩, HSZ', ⟨HP.out.1.keep hk7⟩⟩
      case rest =>
       as_aux_lemma =>
        obtain ⟨s', r', rfl, HV', HGO', HI', HB', HSZ', HRF'⟩ := hcut
        clear HV HGO HI5 HW5 HR5 HSZN
        obtain ⟨lm, li, lb⟩ := r'
        obtain ⟨hbw, hno, A1, A2, A3, c1, c2, c3, hb4, hR1, hR2, hR3⟩ := HRF'.out
        dsimp only at hb4 hR1 hR2 hR3
        have HR1 := Aside0.mk hR1
        have HR2 := Aside0.mk hR2
        have HR3 := Aside0.mk hR3
        obtain ⟨ca0, ca1, ca2, ca3, fa0, fa1, fa2, fa3⟩ := B4.cells hb4
        have hx6 : rb < wc.heap.size := blk_lt hb4
        have hln : lm.length + li.length + lb.length = s'.what.length := HGO'.out.len HV'.out
        have hw8 : s'.what.length ≤ 8 := Nat.le_trans HV'.out.size.1 HV'.out.size.2
        have hn8 := HN8.out
        have hsz := HSZ'.out
        have hli : li = s'.stack := HGO'.out.i
        have HLEN := Aside0.mk (fun W (h : IsP w W g s') => len_raw HV'.out h)
        have Ha0 := Aside0.mk (fun W (h : IsP w W g s') => room_b h)
        have HTH := Aside0.mk (fun W (h : IsP w W g s') => there_b x.f1 HID.out h)
        have HRL := Aside0.mk (fun W (h1 : RdN W g (.slice A1 lm.length c1) lm) (h2 : RdN W g (.slice A2 li.length c2) li) (h3 : RdN W g (.slice A3 lb.length c3) lb) => len31 (n : Int) W (Rd.C h1) (le_rd h1) (Rd.C h2) (le_rd h2) (Rd.C h3) (le_rd h3) s'.what.length hln (by omega))
        have HRI := Aside0.mk (fun W (h1 : RdN W g (.slice A1 lm.length c1) lm) (h2 : RdN W g (.slice A2 li.length c2) li) (h3 : RdN W g (.slice A3 lb.length c3) lb) => is33 (n : Int) x.f1 W (Rd.C h1) (le_rd h1) (Rd.C h2) (le_rd h2) (Rd.C h3) (le_rd h3) (by omega) (by omega) (by omega))
        rw [show decide (x.f1 ∈ lm ∨ x.f1 ∈ li ∨ x.f1 ∈ lb) = _ from HGO'.out.dec HV'.out x.f1] at HRI
        have HMK := Aside0.mk (fun W (h : IsP w W g s') => making_raw HV'.out h)
        have HBZ := Aside0.mk (fun W (h : IsP w W g s') => busy_raw HV'.out h)
        have HAL := Aside0.mk (fun W (h : IsP w W g s') => all_raw HV'.out h)
        have HID3 := Aside0.mk (fun W (h : IsP w W g s') => idle_raw HV'.out h)
        rw [those_all] at HAL
        have t1 := HGO'.out.those1 HV'.out
        have t3 := HGO'.out.those3 HV'.out
        have ta := mem_all HGO'.out HV'.out
        have hnd : (lm ++ li ++ lb).Nodup := HGO'.out.nodup HV'.out
        have hn1 : lm.Nodup := HGO'.out.mn
        have hn3 : lb.Nodup := HGO'.out.bn
        have HS1 := Aside0.mk (fun W (h1 : RdN W g (.slice A1 lm.length c1) lm) => sort35 lm (those s' 46) A1 c1 W (Rd.C h1) (le_rd h1) (by omega) hn1 t1.2 t1.1)
        have HS3 := Aside0.mk (fun W (h1 : RdN W g (.slice A3 lb.length c3) lb) => sort35 lb (those s' 40) A3 c3 W (Rd.C h1) (le_rd h1) (by omega) hn3 t3.2 t3.1)
        have HSA := Aside0.mk (fun W (h1 : RdN W g (.slice A1 lm.length c1) lm) (h2 : RdN W g (.slice A2 li.length c2) li) (h3 : RdN W g (.slice A3 lb.length c3) lb) => all36 (n : Int) (keys s'.what) W (Rd.C h1) (le_rd h1) (Rd.C h2) (le_rd h2) (Rd.C h3) (le_rd h3) (by omega) hnd ta.2 ta.1)
        have hmk8 : (those s' 46).length ≤ 8 := Nat.le_trans (List.length_filter_le _ _) (by simpa [keys] using hw8)
        have hbz8 : (those s' 40).length ≤ 8 := Nat.le_trans (List.length_filter_le _ _) (by simpa [keys] using hw8)
        have hal8 : (keys s'.what).length ≤ 8 := by simpa [keys] using hw8
        have hli8 : li.length ≤ 8 := by omega
        obtain ⟨p3, hp3⟩ : ∃ p3 : Int, (n : Int) - (s'.what.length : Int) = p3 := ⟨_, rfl⟩
        have hs4 : wrap64 p3 = p3 := by
          have := HV'.out.size.1
          unfold wrap64
          omega
        rw [hsz, hp3] at Ha0
        rw [← hli] at HID3
        generalize those s' 46 = mk at HMK HS1 hmk8
        generalize those s' 40 = bz at HBZ HS3 hbz8
        generalize keys s'.what = al at HAL HSA hal8
        generalize (!decide (code s'.what x.f1 = 0)) = dq at HTH HRI
        obtain ⟨wl, hwl⟩ : ∃ wl : Nat, s'.what.length = wl := ⟨_, rfl⟩
        rw [hwl] at HLEN HRL hp3
        clear hb4 hR1 hR2 hR3 hbw hno hln hw8 hn8 hsz hli t1 t3 ta hnd hn1 hn3 hwl
        go_upto_region 33 with fail
        refine start_ (n := 28) (S := fun w' => w'.cell? ⟨rb, 0, none⟩ = some (.int .i64 (n : Int)) ∧ w'.cell? ⟨rb, 1, none⟩ = some (.slice A1 lm.length c1) ∧ w'.cell? ⟨rb, 2, none⟩ = some (.slice A2 li.length c2) ∧ w'.cell? ⟨rb, 3, none⟩ = some (.slice A3 lb.length c3)) (ds := []) #[false, false, false, false, false, false, false, false, false, false, false, false, false, false, false, false, false, false, false, false, false, false, false, false, false, false, false, false] (by kernel_rfl) rfl rfl ⟨ca0, ca1, ca2, ca3⟩ (fun hHeld => ?_); refine with_tab plays.tab33 (fun HT_ => ?_)
        refine pure_ (i := 0) (N := some 126) (v := ?_) (a' := ?_) #[true, false, false, false, false, false, false, false, false, false, false, false, false, false, false, false, false, false, false, false, false, false, false, false, false, false, false, false] rfl rfl (any_of HT_.out (by kernel_rfl)) (fun _ _ _ h => h) (Or.inl ⟨by rfl, ?_⟩) ?_ ?_
        rotate_left
        · intro w'
          go_simp
          with_reducible rfl
        rotate_left
        · simp only [Act.put, List.setIfInBounds_toArray, List.set_cons_zero, List.set_cons_succ, i64_w, i32_w]
          rfl
        refine pure_ (i := 1) (N := some 127) (v := ?_) (a' := ?_) #[true, true, false, false, false, false, false, false, false, false, false, false, false, false, false, false, false, false, false, false, false, false, false, false, false, false, false, false] rfl rfl (any_of HT_.out (by kernel_rfl)) (fun _ _ _ h => h) (Or.inl ⟨by rfl, ?_⟩) ?_ ?_
        rotate_left
        · intro w'
          go_simp
          with_reducible rfl
        rotate_left
        · simp only [Act.put, List.setIfInBounds_toArray, List.set_cons_zero, List.set_cons_succ, i64_w, i32_w]
          rfl
        refine pure_ (i := 2) (N := some 128) (v := ?_) (a' := ?_) #[true, true, true, false, false, false, false, false, false, false, false, false, false, false, false, false, false, false, false, false, false, false, false, false, false, false, false, false] rfl rfl (any_of HT_.out (by kernel_rfl)) (fun _ _ _ h => h) (Or.inl ⟨by rfl, ?_⟩) ?_ ?_
        rotate_left
        · intro w'
          go_simp
          with_reducible rfl
        rotate_left
        · simp only [Act.put, List.setIfInBounds_toArray, List.set_cons_zero, List.set_cons_succ, i64_w, i32_w]
          rfl
        refine pure_ (i := 3) (N := some 129) (v := ?_) (a' := ?_) #[true, true, true, true, false, false, false, false, false, false, false, false, false, false, false, false, false, false, false, false, false, false, false, false, false, false, false, false] rfl rfl (any_of HT_.out (by kernel_rfl)) (fun _ _ _ h => h) (Or.inl ⟨by rfl, ?_⟩) ?_ ?_
        rotate_left
        · intro w'
          go_simp
          with_reducible rfl
        rotate_left
        · simp only [Act.put, List.setIfInBounds_toArray, List.set_cons_zero, List.set_cons_succ, i64_w, i32_w]
          rfl
        refine take_ (i := 5) (N := some 131) (v := ?_) (a' := ?_) #[true, true, true, true, false, true, false, false, false, false, false, false, false, false, false, false, false, false, false, false, false, false, false, false, false, false, false, false] rfl rfl (take_of HT_.out (by kernel_rfl)) (fun _ _ _ h => h) (Or.inl ⟨by rfl, ?_⟩) hHeld ?_ ?_
        rotate_left
        · intro w' hS_
          obtain ⟨s0, s1, s2, s3⟩ := hS_
          go_simp
          with_reducible rfl
        rotate_left
        · simp only [Act.put, List.setIfInBounds_toArray, List.set_cons_zero, List.set_cons_succ, i64_w, i32_w]
          rfl
        refine one_ (i := 4) (N := some 130) #[true, true, true, true, true, true, false, false, false, false, false, false, false, false, false, false, false, false, false, false, false, false, false, false, false, false, false, false] rfl rfl (one_of HT_.out (by kernel_rfl)) (by decide) (fun K hK => ?_)
        refine goes_ Try.func30 (by kernel_rfl) rfl #[.pointer (some ⟨g, 0, none⟩)] (by rfl) rfl rfl (by (try simp only [List.map_toArray, List.map_cons, List.map_nil]); first | done | rfl) ?_
        refine (HLEN.out _ (HI'.out.below (below_drew1 (Below.refl _ wc)))).mono ?_
        rintro e wd ⟨rfl, hb_⟩
        have HBwd := Aside0.mk (below_step (below_drew1 (Below.refl _ wc)) hb_)
        clear hb_
        have hswd : (fun w' => w'.cell? ⟨rb, 0, none⟩ = some (.int .i64 (n : Int)) ∧ w'.cell? ⟨rb, 1, none⟩ = some (.slice A1 lm.length c1) ∧ w'.cell? ⟨rb, 2, none⟩ = some (.slice A2 li.length c2) ∧ w'.cell? ⟨rb, 3, none⟩ = some (.slice A3 lb.length c3)) wd := by
          have h_ := HBwd.out
          exact ⟨(h_.cell (p := ⟨rb, 0, none⟩) hx6).trans ca0, (h_.cell (p := ⟨rb, 1, none⟩) hx6).trans ca1, (h_.cell (p := ⟨rb, 2, none⟩) hx6).trans ca2, (h_.cell (p := ⟨rb, 3, none⟩) hx6).trans ca3⟩
        refine ⟨_, rfl, ?_⟩
        refine hK.out _ _ hswd (fun hHeld => ?_)
        clear hK K
        refine norm_ (a' := ?_) ?_ ?_
        rotate_left
        · show Act.put _ (some 130) _ = _
          simp only [Act.put, List.setIfInBounds_toArray, List.set_cons_zero, List.set_cons_succ, i64_w, i32_w]
          rfl
        refine one_ (i := 6) (N := some 132) #[true, true, true, true, true, true, true, false, false, false, false, false, false, false, false, false, false, false, false, false, false, false, false, false, false, false, false, false] rfl rfl (one_of HT_.out (by kernel_rfl)) (by decide) (fun K hK => ?_)
        refine goes_ Try.func31 (by kernel_rfl) rfl #[.agg #[.int .i64 (n : Int), .slice A1 lm.length c1, .slice A2 li.length c2, .slice A3 lb.length c3]] (by rfl) rfl rfl (by (try simp only [List.map_toArray, List.map_cons, List.map_nil]); first | done | rfl) ?_
        refine (HRL.out wd (HR1.out.below HI'.out HBwd.out) (HR2.out.below HI'.out HBwd.out) (HR3.out.below HI'.out HBwd.out)).mono ?_
        rintro e we ⟨rfl, hb_⟩
        have HBwe := Aside0.mk (below_step HBwd.out hb_)
        clear hb_
        have hswe : (fun w' => w'.cell? ⟨rb, 0, none⟩ = some (.int .i64 (n : Int)) ∧ w'.cell? ⟨rb, 1, none⟩ = some (.slice A1 lm.length c1) ∧ w'.cell? ⟨rb, 2, none⟩ = some (.slice A2 li.length c2) ∧ w'.cell? ⟨rb, 3, none⟩ = some (.slice A3 lb.length c3)) we := by
          have h_ := HBwe.out
          exact ⟨(h_.cell (p := ⟨rb, 0, none⟩) hx6).trans ca0, (h_.cell (p := ⟨rb, 1, none⟩) hx6).trans ca1, (h_.cell (p := ⟨rb, 2, none⟩) hx6).trans ca2, (h_.cell (p := ⟨rb, 3, none⟩) hx6).trans ca3⟩
        refine ⟨_, rfl, ?_⟩
        refine hK.out _ _ hswe (fun hHeld => ?_)
        clear hK K
        refine norm_ (a' := ?_) ?_ ?_
        rotate_left
        · show Act.put _ (some 132) _ = _
          simp only [Act.put, List.setIfInBounds_toArray, List.set_cons_zero, List.set_cons_succ, i64_w, i32_w]
          rfl
        refine pure_ (i := 7) (N := some 133) (v := ?_) (a' := ?_) #[true, true, true, true, true, true, true, true, false, false, false, false, false, false, false, false, false, false, false, false, false, false, false, false, false, false, false, false] rfl rfl (any_of HT_.out (by kernel_rfl)) (fun _ _ _ h => h) (Or.inl ⟨by rfl, ?_⟩) ?_ ?_
        rotate_left
        · intro w'
          go_simp
          with_reducible rfl
        rotate_left
        · simp only [Act.put, List.setIfInBounds_toArray, List.set_cons_zero, List.set_cons_succ, i64_w, i32_w]
          rfl
        refine pure_ (i := 8) (N := some 134) (v := ?_) (a' := ?_) #[true, true, true, true, true, true, true, true, true, false, false, false, false, false, false, false, false, false, false, false, false, false, false, false, false, false, false, false] rfl rfl (any_of HT_.out (by kernel_rfl)) (fun _ _ _ h => h) (Or.inl ⟨by rfl, ?_⟩) ?_ ?_
        rotate_left
        · intro w'
          go_simp
          with_reducible rfl
        rotate_left
        · simp only [Act.put, List.setIfInBounds_toArray, List.set_cons_zero, List.set_cons_succ, i64_w, i32_w]
          rfl
        refine pure_ (i := 9) (N := some 135) (v := ?_) (a' := ?_) #[true, true, true, true, true, true, true, true, true, true, false, false, false, false, false, false, false, false, false, false, false, false, false, false, false, false, false, false] rfl rfl (any_of HT_.out (by kernel_rfl)) (fun _ _ _ h => h) (Or.inl ⟨by rfl, ?_⟩) ?_ ?_
        rotate_left
        · intro w'
          go_simp
          with_reducible rfl
        rotate_left
        · simp only [Act.put, List.setIfInBounds_toArray, List.set_cons_zero, List.set_cons_succ, i64_w, i32_w]
          rfl
        refine pure_ (i := 10) (N := some 136) (v := ?_) (a' := ?_) #[true, true, true, true, true, true, true, true, true, true, true, false, false, false, false, false, false, false, false, false, false, false, false, false, false, false, false, false] rfl rfl (any_of HT_.out (by kernel_rfl)) (fun _ _ _ h => h) (Or.inl ⟨by rfl, ?_⟩) ?_ ?_
        rotate_left
        · intro w'
          go_simp
          with_reducible rfl
        rotate_left
        · simp only [Act.put, List.setIfInBounds_toArray, List.set_cons_zero, List.set_cons_succ, i64_w, i32_w]
          rfl
        refine pure_ (i := 12) (N := some 138) (v := ?_) (a' := ?_) #[true, true, true, true, true, true, true, true, true, true, true, false, true, false, false, false, false, false, false, false, false, false, false, false, false, false, false, false] rfl rfl (any_of HT_.out (by kernel_rfl)) (fun _ _ _ h => h) (Or.inl ⟨by rfl, ?_⟩) ?_ ?_
        rotate_left
        · intro w'
          go_simp
          with_reducible rfl
        rotate_left
        · simp only [Act.put, List.setIfInBounds_toArray, List.set_cons_zero, List.set_cons_succ, i64_w, i32_w]
          rfl
        refine take_ (i := 13) (N := some 139) (v := ?_) (a' := ?_) #[true, true, true, true, true, true, true, true, true, true, true, false, true, true, false, false, false, false, false, false, false, false, false, false, false, false, false, false] rfl rfl (take_of HT_.out (by kernel_rfl)) (fun _ _ _ h => h) (Or.inl ⟨by rfl, ?_⟩) hHeld ?_ ?_
        rotate_left
        · intro w' hS_
          obtain ⟨s0, s1, s2, s3⟩ := hS_
          go_simp
          with_reducible rfl
        rotate_left
        · simp only [Act.put, List.setIfInBounds_toArray, List.set_cons_zero, List.set_cons_succ, i64_w, i32_w]
          rfl
        refine take_ (i := 14) (N := some 140) (v := ?_) (a' := ?_) #[true, true, true, true, true, true, true, true, true, true, true, false, true, true, true, false, false, false, false, false, false, false, false, false, false, false, false, false] rfl rfl (take_of HT_.out (by kernel_rfl)) (fun _ _ _ h => h) (Or.inl ⟨by rfl, ?_⟩) hHeld ?_ ?_
        rotate_left
        · intro w' hS_
          obtain ⟨s0, s1, s2, s3⟩ := hS_
          go_simp
          with_reducible rfl
        rotate_left
        · simp only [Act.put, List.setIfInBounds_toArray, List.set_cons_zero, List.set_cons_succ, i64_w, i32_w]
          rfl
        refine one_ (i := 11) (N := some 137) #[true, true, true, true, true, true, true, true, true, true, true, true, true, true, true, false, false, false, false, false, false, false, false, false, false, false, false, false] rfl rfl (one_of HT_.out (by kernel_rfl)) (by decide) (fun K hK => ?_)
        refine goes_ Try.func16 (by kernel_rfl) rfl #[.pointer (some ⟨g, 0, none⟩)] (by rfl) rfl rfl (by (try simp only [List.map_toArray, List.map_cons, List.map_nil]); first | done | rfl) ?_
        refine (Ha0.out _ (HI'.out.below HBwe.out)).mono ?_
        rintro e wf ⟨rfl, hb_⟩
        have HBwf := Aside0.mk (below_step HBwe.out hb_)
        clear hb_
        have hswf : (fun w' => w'.cell? ⟨rb, 0, none⟩ = some (.int .i64 (n : Int)) ∧ w'.cell? ⟨rb, 1, none⟩ = some (.slice A1 lm.length c1) ∧ w'.cell? ⟨rb, 2, none⟩ = some (.slice A2 li.length c2) ∧ w'.cell? ⟨rb, 3, none⟩ = some (.slice A3 lb.length c3)) wf := by
          have h_ := HBwf.out
          exact ⟨(h_.cell (p := ⟨rb, 0, none⟩) hx6).trans ca0, (h_.cell (p := ⟨rb, 1, none⟩) hx6).trans ca1, (h_.cell (p := ⟨rb, 2, none⟩) hx6).trans ca2, (h_.cell (p := ⟨rb, 3, none⟩) hx6).trans ca3⟩
        refine ⟨_, rfl, ?_⟩
        refine hK.out _ _ hswf (fun hHeld => ?_)
        clear hK K
        refine norm_ (a' := ?_) ?_ ?_
        rotate_left
        · show Act.put _ (some 137) _ = _
          simp only [Act.put, List.setIfInBounds_toArray, List.set_cons_zero, List.set_cons_succ, i64_w, i32_w]
          rfl
        refine one_ (i := 15) (N := some 141) #[true, true, true, true, true, true, true, true, true, true, true, true, true, true, true, true, false, false, false, false, false, false, false, false, false, false, false, false] rfl rfl (one_of HT_.out (by kernel_rfl)) (by decide) (fun K hK => ?_)
        refine goes_ Try.func31 (by kernel_rfl) rfl #[.agg #[.int .i64 (n : Int), .slice A1 lm.length c1, .slice A2 li.length c2, .slice A3 lb.length c3]] (by rfl) rfl rfl (by (try simp only [List.map_toArray, List.map_cons, List.map_nil]); first | done | rfl) ?_
        refine (HRL.out wf (HR1.out.below HI'.out HBwf.out) (HR2.out.below HI'.out HBwf.out) (HR3.out.below HI'.out HBwf.out)).mono ?_
        rintro e wh ⟨rfl, hb_⟩
        have HBwh := Aside0.mk (below_step HBwf.out hb_)
        clear hb_
        have hswh : (fun w' => w'.cell? ⟨rb, 0, none⟩ = some (.int .i64 (n : Int)) ∧ w'.cell? ⟨rb, 1, none⟩ = some (.slice A1 lm.length c1) ∧ w'.cell? ⟨rb, 2, none⟩ = some (.slice A2 li.length c2) ∧ w'.cell? ⟨rb, 3, none⟩ = some (.slice A3 lb.length c3)) wh := by
          have h_ := HBwh.out
          exact ⟨(h_.cell (p := ⟨rb, 0, none⟩) hx6).trans ca0, (h_.cell (p := ⟨rb, 1, none⟩) hx6).trans ca1, (h_.cell (p := ⟨rb, 2, none⟩) hx6).trans ca2, (h_.cell (p := ⟨rb, 3, none⟩) hx6).trans ca3⟩
        refine ⟨_, rfl, ?_⟩
        refine hK.out _ _ hswh (fun hHeld => ?_)
        clear hK K
        refine norm_ (a' := ?_) ?_ ?_
        rotate_left
        · show Act.put _ (some 141) _ = _
          simp only [Act.put, List.setIfInBounds_toArray, List.set_cons_zero, List.set_cons_succ, i64_w, i32_w]
          rfl
        refine pure_ (i := 16) (N := some 142) (v := ?_) (a' := ?_) #[true, true, true, true, true, true, true, true, true, true, true, true, true, true, true, true, true, false, false, false, false, false, false, false, false, false, false, false] rfl rfl (any_of HT_.out (by kernel_rfl)) (fun _ _ _ h => h) (Or.inl ⟨by rfl, ?_⟩) ?_ ?_
        rotate_left
        · intro w'
          go_simp
          with_reducible rfl
        rotate_left
        · simp only [Act.put, List.setIfInBounds_toArray, List.set_cons_zero, List.set_cons_succ, i64_w, i32_w]
          rfl
        refine pure_ (i := 17) (N := some 143) (v := ?_) (a' := ?_) #[true, true, true, true, true, true, true, true, true, true, true, true, true, true, true, true, true, true, false, false, false, false, false, false, false, false, false, false] rfl rfl (any_of HT_.out (by kernel_rfl)) (fun _ _ _ h => h) (Or.inl ⟨by rfl, ?_⟩) ?_ ?_
        rotate_left
        · intro w'
          go_simp
          with_reducible rfl
        rotate_left
        · simp only [Act.put, List.setIfInBounds_toArray, List.set_cons_zero, List.set_cons_succ, i64_w, i32_w]
          rfl
        refine pure_ (i := 18) (N := some 144) (v := ?_) (a' := ?_) #[true, true, true, true, true, true, true, true, true, true, true, true, true, true, true, true, true, true, true, false, false, false, false, false, false, false, false, false] rfl rfl (any_of HT_.out (by kernel_rfl)) (fun _ _ _ h => h) (Or.inl ⟨by rfl, ?_⟩) ?_ ?_
        rotate_left
        · intro w'
          go_simp
          with_reducible rfl
        rotate_left
        · simp only [Act.put, List.setIfInBounds_toArray, List.set_cons_zero, List.set_cons_succ, i64_w, i32_w]
          rfl
        refine pure_ (i := 19) (N := some 145) (v := ?_) (a' := ?_) #[true, true, true, true, true, true, true, true, true, true, true, true, true, true, true, true, true, true, true, true, false, false, false, false, false, false, false, false] rfl rfl (any_of HT_.out (by kernel_rfl)) (fun _ _ _ h => h) (Or.inl ⟨by rfl, ?_⟩) ?_ ?_
        rotate_left
        · intro w'
          go_simp
          with_reducible rfl
        rotate_left
        · simp only [Act.put, List.setIfInBounds_toArray, List.set_cons_zero, List.set_cons_succ, i64_w, i32_w]
          rfl
        refine pure_ (i := 20) (N := some 146) (v := ?_) (a' := ?_) #[true, true, true, true, true, true, true, true, true, true, true, true, true, true, true, true, true, true, true, true, true, false, false, false, false, false, false, false] rfl rfl (any_of HT_.out (by kernel_rfl)) (fun _ _ _ h => h) (Or.inl ⟨by rfl, ?_⟩) ?_ ?_
        rotate_left
        · intro w'
          go_simp
          with_reducible rfl
        rotate_left
        · simp only [Act.put, List.setIfInBounds_toArray, List.set_cons_zero, List.set_cons_succ, i64_w, i32_w]
          rfl
        refine pure_ (i := 21) (N := some 147) (v := ?_) (a' := ?_) #[true, true, true, true, true, true, true, true, true, true, true, true, true, true, true, true, true, true, true, true, true, true, false, false, false, false, false, false] rfl rfl (any_of HT_.out (by kernel_rfl)) (fun _ _ _ h => h) (Or.inl ⟨by rfl, ?_⟩) ?_ ?_
        rotate_left
        · intro w'
          go_simp
          with_reducible rfl
        rotate_left
        · simp only [Act.put, List.setIfInBounds_toArray, List.set_cons_zero, List.set_cons_succ, i64_w, i32_w]
          rfl
        refine pure_ (i := 24) (N := some 150) (v := ?_) (a' := ?_) #[true, true, true, true, true, true, true, true, true, true, true, true, true, true, true, true, true, true, true, true, true, true, false, false, true, false, false, false] rfl rfl (any_of HT_.out (by kernel_rfl)) (fun _ _ _ h => h) (Or.inl ⟨by rfl, ?_⟩) ?_ ?_
        rotate_left
        · intro w'
          go_simp
          with_reducible rfl
        rotate_left
        · simp only [Act.put, List.setIfInBounds_toArray, List.set_cons_zero, List.set_cons_succ, i64_w, i32_w]
          rfl
        refine take_ (i := 23) (N := some 149) (v := ?_) (a' := ?_) #[true, true, true, true, true, true, true, true, true, true, true, true, true, true, true, true, true, true, true, true, true, true, false, true, true, false, false, false] rfl rfl (take_of HT_.out (by kernel_rfl)) (fun _ _ _ h => h) (Or.inl ⟨by rfl, ?_⟩) hHeld ?_ ?_
        rotate_left
        · intro w' hS_
          obtain ⟨s0, s1, s2, s3⟩ := hS_
          go_simp
          with_reducible rfl
        rotate_left
        · simp only [Act.put, List.setIfInBounds_toArray, List.set_cons_zero, List.set_cons_succ, i64_w, i32_w]
          rfl
        refine one_ (i := 22) (N := some 148) #[true, true, true, true, true, true, true, true, true, true, true, true, true, true, true, true, true, true, true, true, true, true, true, true, true, false, false, false] rfl rfl (one_of HT_.out (by kernel_rfl)) (by decide) (fun K hK => ?_)
        refine goes_ Try.func32 (by kernel_rfl) rfl #[.pointer (some ⟨g, 0, none⟩), .int .i64 x.f1] (by rfl) rfl rfl (by (try simp only [List.map_toArray, List.map_cons, List.map_nil]); first | done | rfl) ?_
        refine (HTH.out _ (HI'.out.below HBwh.out)).mono ?_
        rintro e wi ⟨rfl, hb_⟩
        have HBwi := Aside0.mk (below_step HBwh.out hb_)
        clear hb_
        have hswi : (fun w' => w'.cell? ⟨rb, 0, none⟩ = some (.int .i64 (n : Int)) ∧ w'.cell? ⟨rb, 1, none⟩ = some (.slice A1 lm.length c1) ∧ w'.cell? ⟨rb, 2, none⟩ = some (.slice A2 li.length c2) ∧ w'.cell? ⟨rb, 3, none⟩ = some (.slice A3 lb.length c3)) wi := by
          have h_ := HBwi.out
          exact ⟨(h_.cell (p := ⟨rb, 0, none⟩) hx6).trans ca0, (h_.cell (p := ⟨rb, 1, none⟩) hx6).trans ca1, (h_.cell (p := ⟨rb, 2, none⟩) hx6).trans ca2, (h_.cell (p := ⟨rb, 3, none⟩) hx6).trans ca3⟩
        refine ⟨_, rfl, ?_⟩
        refine hK.out _ _ hswi (fun hHeld => ?_)
        clear hK K
        refine norm_ (a' := ?_) ?_ ?_
        rotate_left
        · show Act.put _ (some 148) _ = _
          simp only [Act.put, List.setIfInBounds_toArray, List.set_cons_zero, List.set_cons_succ, i64_w, i32_w]
          rfl
        refine one_ (i := 25) (N := some 151) #[true, true, true, true, true, true, true, true, true, true, true, true, true, true, true, true, true, true, true, true, true, true, true, true, true, true, false, false] rfl rfl (one_of HT_.out (by kernel_rfl)) (by decide) (fun K hK => ?_)
        refine goes_ Try.func33 (by kernel_rfl) rfl #[.agg #[.int .i64 (n : Int), .slice A1 lm.length c1, .slice A2 li.length c2, .slice A3 lb.length c3], .int .i64 x.f1] (by rfl) rfl rfl (by (try simp only [List.map_toArray, List.map_cons, List.map_nil]); first | done | rfl) ?_
        refine (HRI.out wi (HR1.out.below HI'.out HBwi.out) (HR2.out.below HI'.out HBwi.out) (HR3.out.below HI'.out HBwi.out)).mono ?_
        rintro e wj ⟨rfl, hb_⟩
        have HBwj := Aside0.mk (below_step HBwi.out hb_)
        clear hb_
        have hswj : (fun w' => w'.cell? ⟨rb, 0, none⟩ = some (.int .i64 (n : Int)) ∧ w'.cell? ⟨rb, 1, none⟩ = some (.slice A1 lm.length c1) ∧ w'.cell? ⟨rb, 2, none⟩ = some (.slice A2 li.length c2) ∧ w'.cell? ⟨rb, 3, none⟩ = some (.slice A3 lb.length c3)) wj := by
          have h_ := HBwj.out
          exact ⟨(h_.cell (p := ⟨rb, 0, none⟩) hx6).trans ca0, (h_.cell (p := ⟨rb, 1, none⟩) hx6).trans ca1, (h_.cell (p := ⟨rb, 2, none⟩) hx6).trans ca2, (h_.cell (p := ⟨rb, 3, none⟩) hx6).trans ca3⟩
        refine ⟨_, rfl, ?_⟩
        refine hK.out _ _ hswj (fun hHeld => ?_)
        clear hK K
        refine norm_ (a' := ?_) ?_ ?_
        rotate_left
        · show Act.put _ (some 151) _ = _
          simp only [Act.put, List.setIfInBounds_toArray, List.set_cons_zero, List.set_cons_succ, i64_w, i32_w]
          rfl
        refine pure_ (i := 26) (N := some 152) (v := ?_) (a' := ?_) #[true, true, true, true, true, true, true, true, true, true, true, true, true, true, true, true, true, true, true, true, true, true, true, true, true, true, true, false] rfl rfl (any_of HT_.out (by kernel_rfl)) (fun _ _ _ h => h) (Or.inl ⟨by rfl, ?_⟩) ?_ ?_
        rotate_left
        · intro w'
          go_simp
          with_reducible rfl
        rotate_left
        · simp only [Act.put, List.setIfInBounds_toArray, List.set_cons_zero, List.set_cons_succ, i64_w, i32_w]
          rfl
        refine pure_ (i := 27) (N := some 153) (v := ?_) (a' := ?_) #[true, true, true, true, true, true, true, true, true, true, true, true, true, true, true, true, true, true, true, true, true, true, true, true, true, true, true, true] rfl rfl (any_of HT_.out (by kernel_rfl)) (fun _ _ _ h => h) (Or.inl ⟨by rfl, ?_⟩) ?_ ?_
        rotate_left
        · intro w'
          go_simp
          with_reducible rfl
        rotate_left
        · simp only [Act.put, List.setIfInBounds_toArray, List.set_cons_zero, List.set_cons_succ, i64_w, i32_w]
          rfl
        refine done_ (done_of HT_.out (by kernel_rfl)) ?_
        clear hHeld
        have HIp := Aside0.mk (HI'.out.below HBwj.out)
        have HWp := Aside0.mk (HB'.out.trans (HBwj.out.mono HB'.out.size))
        have HRp := Aside0.mk (HRF'.out.below HI'.out HBwj.out)
        replace HR1 := Aside0.mk (HR1.out.below HI'.out HBwj.out)
        replace HR2 := Aside0.mk (HR2.out.below HI'.out HBwj.out)
        replace HR3 := Aside0.mk (HR3.out.below HI'.out HBwj.out)
        obtain ⟨cp0, cp1, cp2, cp3⟩ := hswj
        have hl6 : rb < wj.heap.size := Nat.lt_of_lt_of_le hx6 HBwj.out.size
        clear hswd hswe hswf hswh hswi HBwd HBwe HBwf HBwh HBwi HBwj ca0 ca1 ca2 ca3 fa0 fa1 fa2 fa3 HI' HB' HRF' hp3 hs4 hx6 HLEN Ha0 HTH HRL HRI
        go_upto_region 35 with fail
        as_aux_lemma =>
          refine start_ (n := 32) (S := fun w' => w'.cell? ⟨rb, 0, none⟩ = some (.int .i64 (n : Int)) ∧ w'.cell? ⟨rb, 1, none⟩ = some (.slice A1 lm.length c1) ∧ w'.cell? ⟨rb, 2, none⟩ = some (.slice A2 li.length c2) ∧ w'.cell? ⟨rb, 3, none⟩ = some (.slice A3 lb.length c3)) (ds := []) #[false, false, false, false, false, false, false, false, false, false, false, false, false, false, false, false, false, false, false, false, false, false, false, false, false, false, false, false, false, false, false, false] (by kernel_rfl) rfl rfl ⟨cp0, cp1, cp2, cp3⟩ (fun hHeld => ?_); refine with_tab plays.tab35 (fun HT_ => ?_)
          refine pure_ (i := 0) (N := some 154) (v := ?_) (a' := ?_) #[true, false, false, false, false, false, false, false, false, false, false, false, false, false, false, false, false, false, false, false, false, false, false, false, false, false, false, false, false, false, false, false] rfl rfl (any_of HT_.out (by kernel_rfl)) (fun _ _ _ h => h) (Or.inl ⟨by rfl, ?_⟩) ?_ ?_
          rotate_left
          · intro w'
            go_simp
            with_reducible rfl
          rotate_left
          · simp only [Act.put, List.setIfInBounds_toArray, List.set_cons_zero, List.set_cons_succ, i64_w, i32_w]
            rfl
          refine pure_ (i := 2) (N := some 156) (v := ?_) (a' := ?_) #[true, false, true, false, false, false, false, false, false, false, false, false, false, false, false, false, false, false, false, false, false, false, false, false, false, false, false, false, false, false, false, false] rfl rfl (any_of HT_.out (by kernel_rfl)) (fun _ _ _ h => h) (Or.inl ⟨by rfl, ?_⟩) ?_ ?_
          rotate_left
          · intro w'
            go_simp
            with_reducible rfl
          rotate_left
          · simp only [Act.put, List.setIfInBounds_toArray, List.set_cons_zero, List.set_cons_succ, i64_w, i32_w]
            rfl
          refine take_ (i := 3) (N := some 157) (v := ?_) (a' := ?_) #[true, false, true, true, false, false, false, false, false, false, false, false, false, false, false, false, false, false, false, false, false, false, false, false, false, false, false, false, false, false, false, false] rfl rfl (take_of HT_.out (by kernel_rfl)) (fun _ _ _ h => h) (Or.inl ⟨by rfl, ?_⟩) hHeld ?_ ?_
          rotate_left
          · intro w' hS_
            obtain ⟨s0, s1, s2, s3⟩ := hS_
            go_simp
            with_reducible rfl
          rotate_left
          · simp only [Act.put, List.setIfInBounds_toArray, List.set_cons_zero, List.set_cons_succ, i64_w, i32_w]
            rfl
          refine one_ (i := 1) (N := some 155) #[true, true, true, true, false, false, false, false, false, false, false, false, false, false, false, false, false, false, false, false, false, false, false, false, false, false, false, false, false, false, false, false] rfl rfl (one_of HT_.out (by kernel_rfl)) (by decide) (fun K hK => ?_)
          refine goes_ Try.func34 (by kernel_rfl) rfl #[.pointer (some ⟨g, 0, none⟩)] (by rfl) rfl rfl (by (try simp only [List.map_toArray, List.map_cons, List.map_nil]); first | done | rfl) ?_
          refine (HMK.out _ (HIp.out.below (below_drew1 (Below.refl _ wj)))).mono ?_
          rintro e wk ⟨v_, rfl, hR_, hb_⟩
          obtain ⟨Aa, na, rfl⟩ := Kd.R_slice hR_
          have HQa := Aside0.mk (Kd.R_reads' hR_)
          have HBwk := Aside0.mk (below_step (below_drew1 (Below.refl _ wj)) hb_)
          clear hR_ hb_
          have hswk : (fun w' => w'.cell? ⟨rb, 0, none⟩ = some (.int .i64 (n : Int)) ∧ w'.cell? ⟨rb, 1, none⟩ = some (.slice A1 lm.length c1) ∧ w'.cell? ⟨rb, 2, none⟩ = some (.slice A2 li.length c2) ∧ w'.cell? ⟨rb, 3, none⟩ = some (.slice A3 lb.length c3)) wk := by
            have h_ := HBwk.out
            exact ⟨(h_.cell (p := ⟨rb, 0, none⟩) hl6).trans cp0, (h_.cell (p := ⟨rb, 1, none⟩) hl6).trans cp1, (h_.cell (p := ⟨rb, 2, none⟩) hl6).trans cp2, (h_.cell (p := ⟨rb, 3, none⟩) hl6).trans cp3⟩
          refine ⟨_, rfl, ?_⟩
          refine hK.out _ _ hswk (fun hHeld => ?_)
          clear hK K
          refine norm_ (a' := ?_) ?_ ?_
          rotate_left
          · show Act.put _ (some 155) _ = _
            simp only [Act.put, List.setIfInBounds_toArray, List.set_cons_zero, List.set_cons_succ, i64_w, i32_w]
            rfl
          refine one_ (i := 4) (N := some 158) #[true, true, true, true, true, false, false, false, false, false, false, false, false, false, false, false, false, false, false, false, false, false, false, false, false, false, false, false, false, false, false, false] rfl rfl (one_of HT_.out (by kernel_rfl)) (by decide) (fun K hK => ?_)
          refine goes_ Try.func35 (by kernel_rfl) rfl #[.slice A1 lm.length c1] (by rfl) rfl rfl (by (try simp only [List.map_toArray, List.map_cons, List.map_nil]); first | done | rfl) ?_
          refine (HS1.out wk (HR1.out.below HIp.out HBwk.out)).mono ?_
          rintro e wl ⟨v_, rfl, hR_, hb_⟩
          obtain ⟨Ab, nb, rfl⟩ := Kd.R_slice hR_
          have HQb := Aside0.mk (Kd.R_reads' hR_)
          have HBwl := Aside0.mk (below_step HBwk.out hb_)
          have HQa2 := Aside0.mk (Kd.C_below HQa.out.2.2 hb_)
          clear hR_ hb_
          have hswl : (fun w' => w'.cell? ⟨rb, 0, none⟩ = some (.int .i64 (n : Int)) ∧ w'.cell? ⟨rb, 1, none⟩ = some (.slice A1 lm.length c1) ∧ w'.cell? ⟨rb, 2, none⟩ = some (.slice A2 li.length c2) ∧ w'.cell? ⟨rb, 3, none⟩ = some (.slice A3 lb.length c3)) wl := by
            have h_ := HBwl.out
            exact ⟨(h_.cell (p := ⟨rb, 0, none⟩) hl6).trans cp0, (h_.cell (p := ⟨rb, 1, none⟩) hl6).trans cp1, (h_.cell (p := ⟨rb, 2, none⟩) hl6).trans cp2, (h_.cell (p := ⟨rb, 3, none⟩) hl6).trans cp3⟩
          refine ⟨_, rfl, ?_⟩
          refine hK.out _ _ hswl (fun hHeld => ?_)
          clear hK K
          refine norm_ (a' := ?_) ?_ ?_
          rotate_left
          · show Act.put _ (some 158) _ = _
            simp only [Act.put, List.setIfInBounds_toArray, List.set_cons_zero, List.set_cons_succ, i64_w, i32_w]
            rfl
          refine one_ (i := 5) (N := some 159) #[true, true, true, true, true, true, false, false, false, false, false, false, false, false, false, false, false, false, false, false, false, false, false, false, false, false, false, false, false, false, false, false] rfl rfl (one_of HT_.out (by kernel_rfl)) (by decide) (fun K hK => ?_)
          refine goes_ Try.func20 (by kernel_rfl) rfl #[.slice Aa mk.length na, .slice Ab mk.length nb] (by rfl) rfl rfl (by (try simp only [List.map_toArray, List.map_cons, List.map_nil]); first | done | rfl) ?_
          refine (same16 mk Aa Ab na nb wl HQa2.out HQa.out.2.1 HQb.out.2.2 HQb.out.2.1 (by omega)).mono ?_
          rintro e wm ⟨rfl, hb_⟩
          have HBwm := Aside0.mk (below_step HBwl.out hb_)
          clear hb_
          have hswm : (fun w' => w'.cell? ⟨rb, 0, none⟩ = some (.int .i64 (n : Int)) ∧ w'.cell? ⟨rb, 1, none⟩ = some (.slice A1 lm.length c1) ∧ w'.cell? ⟨rb, 2, none⟩ = some (.slice A2 li.length c2) ∧ w'.cell? ⟨rb, 3, none⟩ = some (.slice A3 lb.length c3)) wm := by
            have h_ := HBwm.out
            exact ⟨(h_.cell (p := ⟨rb, 0, none⟩) hl6).trans cp0, (h_.cell (p := ⟨rb, 1, none⟩) hl6).trans cp1, (h_.cell (p := ⟨rb, 2, none⟩) hl6).trans cp2, (h_.cell (p := ⟨rb, 3, none⟩) hl6).trans cp3⟩
          refine ⟨_, rfl, ?_⟩
          refine hK.out _ _ hswm (fun hHeld => ?_)
          clear hK K
          refine norm_ (a' := ?_) ?_ ?_
          rotate_left
          · show Act.put _ (some 159) _ = _
            simp only [Act.put, List.setIfInBounds_toArray, List.set_cons_zero, List.set_cons_succ, i64_w, i32_w]
            rfl
          refine pure_ (i := 6) (N := some 160) (v := ?_) (a' := ?_) #[true, true, true, true, true, true, true, false, false, false, false, false, false, false, false, false, false, false, false, false, false, false, false, false, false, false, false, false, false, false, false, false] rfl rfl (any_of HT_.out (by kernel_rfl)) (fun _ _ _ h => h) (Or.inl ⟨by rfl, ?_⟩) ?_ ?_
          rotate_left
          · intro w'
            go_simp
            with_reducible rfl
          rotate_left
          · simp only [Act.put, List.setIfInBounds_toArray, List.set_cons_zero, List.set_cons_succ, i64_w, i32_w]
            rfl
          refine pure_ (i := 7) (N := some 161) (v := ?_) (a' := ?_) #[true, true, true, true, true, true, true, true, false, false, false, false, false, false, false, false, false, false, false, false, false, false, false, false, false, false, false, false, false, false, false, false] rfl rfl (any_of HT_.out (by kernel_rfl)) (fun _ _ _ h => h) (Or.inl ⟨by rfl, ?_⟩) ?_ ?_
          rotate_left
          · intro w'
            go_simp
            with_reducible rfl
          rotate_left
          · simp only [Act.put, List.setIfInBounds_toArray, List.set_cons_zero, List.set_cons_succ, i64_w, i32_w]
            rfl
          refine pure_ (i := 8) (N := some 162) (v := ?_) (a' := ?_) #[true, true, true, true, true, true, true, true, true, false, false, false, false, false, false, false, false, false, false, false, false, false, false, false, false, false, false, false, false, false, false, false] rfl rfl (any_of HT_.out (by kernel_rfl)) (fun _ _ _ h => h) (Or.inl ⟨by rfl, ?_⟩) ?_ ?_
          rotate_left
          · intro w'
            go_simp
            with_reducible rfl
          rotate_left
          · simp only [Act.put, List.setIfInBounds_toArray, List.set_cons_zero, List.set_cons_succ, i64_w, i32_w]
            rfl
          refine pure_ (i := 10) (N := some 164) (v := ?_) (a' := ?_) #[true, true, true, true, true, true, true, true, true, false, true, false, false, false, false, false, false, false, false, false, false, false, false, false, false, false, false, false, false, false, false, false] rfl rfl (any_of HT_.out (by kernel_rfl)) (fun _ _ _ h => h) (Or.inl ⟨by rfl, ?_⟩) ?_ ?_
          rotate_left
          · intro w'
            go_simp
            with_reducible rfl
          rotate_left
          · simp only [Act.put, List.setIfInBounds_toArray, List.set_cons_zero, List.set_cons_succ, i64_w, i32_w]
            rfl
          refine take_ (i := 11) (N := some 165) (v := ?_) (a' := ?_) #[true, true, true, true, true, true, true, true, true, false, true, true, false, false, false, false, false, false, false, false, false, false, false, false, false, false, false, false, false, false, false, false] rfl rfl (take_of HT_.out (by kernel_rfl)) (fun _ _ _ h => h) (Or.inl ⟨by rfl, ?_⟩) hHeld ?_ ?_
          rotate_left
          · intro w' hS_
            obtain ⟨s0, s1, s2, s3⟩ := hS_
            go_simp
            with_reducible rfl
          rotate_left
          · simp only [Act.put, List.setIfInBounds_toArray, List.set_cons_zero, List.set_cons_succ, i64_w, i32_w]
            rfl
          refine one_ (i := 9) (N := some 163) #[true, true, true, true, true, true, true, true, true, true, true, true, false, false, false, false, false, false, false, false, false, false, false, false, false, false, false, false, false, false, false, false] rfl rfl (one_of HT_.out (by kernel_rfl)) (by decide) (fun K hK => ?_)
          refine goes_ Try.func19 (by kernel_rfl) rfl #[.pointer (some ⟨g, 0, none⟩)] (by rfl) rfl rfl (by (try simp only [List.map_toArray, List.map_cons, List.map_nil]); first | done | rfl) ?_
          refine (HID3.out _ (HIp.out.below HBwm.out)).mono ?_
          rintro e wn ⟨v_, rfl, hR_, hb_⟩
          obtain ⟨Ac, nc, rfl⟩ := Kd.R_slice hR_
          have HQc := Aside0.mk (Kd.R_reads' hR_)
          have HBwn := Aside0.mk (below_step HBwm.out hb_)
          clear hR_ hb_
          have hswn : (fun w' => w'.cell? ⟨rb, 0, none⟩ = some (.int .i64 (n : Int)) ∧ w'.cell? ⟨rb, 1, none⟩ = some (.slice A1 lm.length c1) ∧ w'.cell? ⟨rb, 2, none⟩ = some (.slice A2 li.length c2) ∧ w'.cell? ⟨rb, 3, none⟩ = some (.slice A3 lb.length c3)) wn := by
            have h_ := HBwn.out
            exact ⟨(h_.cell (p := ⟨rb, 0, none⟩) hl6).trans cp0, (h_.cell (p := ⟨rb, 1, none⟩) hl6).trans cp1, (h_.cell (p := ⟨rb, 2, none⟩) hl6).trans cp2, (h_.cell (p := ⟨rb, 3, none⟩) hl6).trans cp3⟩
          refine ⟨_, rfl, ?_⟩
          refine hK.out _ _ hswn (fun hHeld => ?_)
          clear hK K
          refine norm_ (a' := ?_) ?_ ?_
          rotate_left
          · show Act.put _ (some 163) _ = _
            simp only [Act.put, List.setIfInBounds_toArray, List.set_cons_zero, List.set_cons_succ, i64_w, i32_w]
            rfl
          refine one_ (i := 12) (N := some 166) #[true, true, true, true, true, true, true, true, true, true, true, true, true, false, false, false, false, false, false, false, false, false, false, false, false, false, false, false, false, false, false, false] rfl rfl (one_of HT_.out (by kernel_rfl)) (by decide) (fun K hK => ?_)
          refine goes_ Try.func20 (by kernel_rfl) rfl #[.slice Ac li.length nc, .slice A2 li.length c2] (by rfl) rfl rfl (by (try simp only [List.map_toArray, List.map_cons, List.map_nil]); first | done | rfl) ?_
          refine (same16 li Ac A2 nc c2 wn HQc.out.2.2 HQc.out.2.1 (Rd.C (HR2.out.below HIp.out HBwn.out)) (le_rd HR2.out) (by omega)).mono ?_
          rintro e wo ⟨rfl, hb_⟩
          have HBwo := Aside0.mk (below_step HBwn.out hb_)
          clear hb_
          have hswo : (fun w' => w'.cell? ⟨rb, 0, none⟩ = some (.int .i64 (n : Int)) ∧ w'.cell? ⟨rb, 1, none⟩ = some (.slice A1 lm.length c1) ∧ w'.cell? ⟨rb, 2, none⟩ = some (.slice A2 li.length c2) ∧ w'.cell? ⟨rb, 3, none⟩ = some (.slice A3 lb.length c3)) wo := by
            have h_ := HBwo.out
            exact ⟨(h_.cell (p := ⟨rb, 0, none⟩) hl6).trans cp0, (h_.cell (p := ⟨rb, 1, none⟩) hl6).trans cp1, (h_.cell (p := ⟨rb, 2, none⟩) hl6).trans cp2, (h_.cell (p := ⟨rb, 3, none⟩) hl6).trans cp3⟩
          refine ⟨_, rfl, ?_⟩
          refine hK.out _ _ hswo (fun hHeld => ?_)
          clear hK K
          refine norm_ (a' := ?_) ?_ ?_
          rotate_left
          · show Act.put _ (some 166) _ = _
            simp only [Act.put, List.setIfInBounds_toArray, List.set_cons_zero, List.set_cons_succ, i64_w, i32_w]
            rfl
          refine pure_ (i := 13) (N := some 167) (v := ?_) (a' := ?_) #[true, true, true, true, true, true, true, true, true, true, true, true, true, true, false, false, false, false, false, false, false, false, false, false, false, false, false, false, false, false, false, false] rfl rfl (any_of HT_.out (by kernel_rfl)) (fun _ _ _ h => h) (Or.inl ⟨by rfl, ?_⟩) ?_ ?_
          rotate_left
          · intro w'
            go_simp
            with_reducible rfl
          rotate_left
          · simp only [Act.put, List.setIfInBounds_toArray, List.set_cons_zero, List.set_cons_succ, i64_w, i32_w]
            rfl
          refine pure_ (i := 14) (N := some 168) (v := ?_) (a' := ?_) #[true, true, true, true, true, true, true, true, true, true, true, true, true, true, true, false, false, false, false, false, false, false, false, false, false, false, false, false, false, false, false, false] rfl rfl (any_of HT_.out (by kernel_rfl)) (fun _ _ _ h => h) (Or.inl ⟨by rfl, ?_⟩) ?_ ?_
          rotate_left
          · intro w'
            go_simp
            with_reducible rfl
          rotate_left
          · simp only [Act.put, List.setIfInBounds_toArray, List.set_cons_zero, List.set_cons_succ, i64_w, i32_w]
            rfl
          refine pure_ (i := 15) (N := some 169) (v := ?_) (a' := ?_) #[true, true, true, true, true, true, true, true, true, true, true, true, true, true, true, true, false, false, false, false, false, false, false, false, false, false, false, false, false, false, false, false] rfl rfl (any_of HT_.out (by kernel_rfl)) (fun _ _ _ h => h) (Or.inl ⟨by rfl, ?_⟩) ?_ ?_
          rotate_left
          · intro w'
            go_simp
            with_reducible rfl
          rotate_left
          · simp only [Act.put, List.setIfInBounds_toArray, List.set_cons_zero, List.set_cons_succ, i64_w, i32_w]
            rfl
          refine pure_ (i := 16) (N := some 170) (v := ?_) (a' := ?_) #[true, true, true, true, true, true, true, true, true, true, true, true, true, true, true, true, true, false, false, false, false, false, false, false, false, false, false, false, false, false, false, false] rfl rfl (any_of HT_.out (by kernel_rfl)) (fun _ _ _ h => h) (Or.inl ⟨by rfl, ?_⟩) ?_ ?_
          rotate_left
          · intro w'
            go_simp
            with_reducible rfl
          rotate_left
          · simp only [Act.put, List.setIfInBounds_toArray, List.set_cons_zero, List.set_cons_succ, i64_w, i32_w]
            rfl
          refine pure_ (i := 18) (N := some 172) (v := ?_) (a' := ?_) #[true, true, true, true, true, true, true, true, true, true, true, true, true, true, true, true, true, false, true, false, false, false, false, false, false, false, false, false, false, false, false, false] rfl rfl (any_of HT_.out (by kernel_rfl)) (fun _ _ _ h => h) (Or.inl ⟨by rfl, ?_⟩) ?_ ?_
          rotate_left
          · intro w'
            go_simp
            with_reducible rfl
          rotate_left
          · simp only [Act.put, List.setIfInBounds_toArray, List.set_cons_zero, List.set_cons_succ, i64_w, i32_w]
            rfl
          refine take_ (i := 19) (N := some 173) (v := ?_) (a' := ?_) #[true, true, true, true, true, true, true, true, true, true, true, true, true, true, true, true, true, false, true, true, false, false, false, false, false, false, false, false, false, false, false, false] rfl rfl (take_of HT_.out (by kernel_rfl)) (fun _ _ _ h => h) (Or.inl ⟨by rfl, ?_⟩) hHeld ?_ ?_
          rotate_left
          · intro w' hS_
            obtain ⟨s0, s1, s2, s3⟩ := hS_
            go_simp
            with_reducible rfl
          rotate_left
          · simp only [Act.put, List.setIfInBounds_toArray, List.set_cons_zero, List.set_cons_succ, i64_w, i32_w]
            rfl
          refine one_ (i := 17) (N := some 171) #[true, true, true, true, true, true, true, true, true, true, true, true, true, true, true, true, true, true, true, true, false, false, false, false, false, false, false, false, false, false, false, false] rfl rfl (one_of HT_.out (by kernel_rfl)) (by decide) (fun K hK => ?_)
          refine goes_ Try.func15 (by kernel_rfl) rfl #[.pointer (some ⟨g, 0, none⟩)] (by rfl) rfl rfl (by (try simp only [List.map_toArray, List.map_cons, List.map_nil]); first | done | rfl) ?_
          refine (HBZ.out _ (HIp.out.below HBwo.out)).mono ?_
          rintro e wp ⟨v_, rfl, hR_, hb_⟩
          obtain ⟨Ad, nd, rfl⟩ := Kd.R_slice hR_
          have HQd := Aside0.mk (Kd.R_reads' hR_)
          have HBwp := Aside0.mk (below_step HBwo.out hb_)
          clear hR_ hb_
          have hswp : (fun w' => w'.cell? ⟨rb, 0, none⟩ = some (.int .i64 (n : Int)) ∧ w'.cell? ⟨rb, 1, none⟩ = some (.slice A1 lm.length c1) ∧ w'.cell? ⟨rb, 2, none⟩ = some (.slice A2 li.length c2) ∧ w'.cell? ⟨rb, 3, none⟩ = some (.slice A3 lb.length c3)) wp := by
            have h_ := HBwp.out
            exact ⟨(h_.cell (p := ⟨rb, 0, none⟩) hl6).trans cp0, (h_.cell (p := ⟨rb, 1, none⟩) hl6).trans cp1, (h_.cell (p := ⟨rb, 2, none⟩) hl6).trans cp2, (h_.cell (p := ⟨rb, 3, none⟩) hl6).trans cp3⟩
          refine ⟨_, rfl, ?_⟩
          refine hK.out _ _ hswp (fun hHeld => ?_)
          clear hK K
          refine norm_ (a' := ?_) ?_ ?_
          rotate_left
          · show Act.put _ (some 171) _ = _
            simp only [Act.put, List.setIfInBounds_toArray, List.set_cons_zero, List.set_cons_succ, i64_w, i32_w]
            rfl
          refine one_ (i := 20) (N := some 174) #[true, true, true, true, true, true, true, true, true, true, true, true, true, true, true, true, true, true, true, true, true, false, false, false, false, false, false, false, false, false, false, false] rfl rfl (one_of HT_.out (by kernel_rfl)) (by decide) (fun K hK => ?_)
          refine goes_ Try.func35 (by kernel_rfl) rfl #[.slice A3 lb.length c3] (by rfl) rfl rfl (by (try simp only [List.map_toArray, List.map_cons, List.map_nil]); first | done | rfl) ?_
          refine (HS3.out wp (HR3.out.below HIp.out HBwp.out)).mono ?_
          rintro e wq ⟨v_, rfl, hR_, hb_⟩
          obtain ⟨Ae, n5, rfl⟩ := Kd.R_slice hR_
          have HQe := Aside0.mk (Kd.R_reads' hR_)
          have HBwq := Aside0.mk (below_step HBwp.out hb_)
          have HQd2 := Aside0.mk (Kd.C_below HQd.out.2.2 hb_)
          clear hR_ hb_
          have hswq : (fun w' => w'.cell? ⟨rb, 0, none⟩ = some (.int .i64 (n : Int)) ∧ w'.cell? ⟨rb, 1, none⟩ = some (.slice A1 lm.length c1) ∧ w'.cell? ⟨rb, 2, none⟩ = some (.slice A2 li.length c2) ∧ w'.cell? ⟨rb, 3, none⟩ = some (.slice A3 lb.length c3)) wq := by
            have h_ := HBwq.out
            exact ⟨(h_.cell (p := ⟨rb, 0, none⟩) hl6).trans cp0, (h_.cell (p := ⟨rb, 1, none⟩) hl6).trans cp1, (h_.cell (p := ⟨rb, 2, none⟩) hl6).trans cp2, (h_.cell (p := ⟨rb, 3, none⟩) hl6).trans cp3⟩
          refine ⟨_, rfl, ?_⟩
          refine hK.out _ _ hswq (fun hHeld => ?_)
          clear hK K
          refine norm_ (a' := ?_) ?_ ?_
          rotate_left
          · show Act.put _ (some 174) _ = _
            simp only [Act.put, List.setIfInBounds_toArray, List.set_cons_zero, List.set_cons_succ, i64_w, i32_w]
            rfl
          refine one_ (i := 21) (N := some 175) #[true, true, true, true, true, true, true, true, true, true, true, true, true, true, true, true, true, true, true, true, true, true, false, false, false, false, false, false, false, false, false, false] rfl rfl (one_of HT_.out (by kernel_rfl)) (by decide) (fun K hK => ?_)
          refine goes_ Try.func20 (by kernel_rfl) rfl #[.slice Ad bz.length nd, .slice Ae bz.length n5] (by rfl) rfl rfl (by (try simp only [List.map_toArray, List.map_cons, List.map_nil]); first | done | rfl) ?_
          refine (same16 bz Ad Ae nd n5 wq HQd2.out HQd.out.2.1 HQe.out.2.2 HQe.out.2.1 (by omega)).mono ?_
          rintro e ws ⟨rfl, hb_⟩
          have HBws := Aside0.mk (below_step HBwq.out hb_)
          clear hb_
          have hsws : (fun w' => w'.cell? ⟨rb, 0, none⟩ = some (.int .i64 (n : Int)) ∧ w'.cell? ⟨rb, 1, none⟩ = some (.slice A1 lm.length c1) ∧ w'.cell? ⟨rb, 2, none⟩ = some (.slice A2 li.length c2) ∧ w'.cell? ⟨rb, 3, none⟩ = some (.slice A3 lb.length c3)) ws := by
            have h_ := HBws.out
            exact ⟨(h_.cell (p := ⟨rb, 0, none⟩) hl6).trans cp0, (h_.cell (p := ⟨rb, 1, none⟩) hl6).trans cp1, (h_.cell (p := ⟨rb, 2, none⟩) hl6).trans cp2, (h_.cell (p := ⟨rb, 3, none⟩) hl6).trans cp3⟩
          refine ⟨_, rfl, ?_⟩
          refine hK.out _ _ hsws (fun hHeld => ?_)
          clear hK K
          refine norm_ (a' := ?_) ?_ ?_
          rotate_left
          · show Act.put _ (some 175) _ = _
            simp only [Act.put, List.setIfInBounds_toArray, List.set_cons_zero, List.set_cons_succ, i64_w, i32_w]
            rfl
          refine pure_ (i := 22) (N := some 176) (v := ?_) (a' := ?_) #[true, true, true, true, true, true, true, true, true, true, true, true, true, true, true, true, true, true, true, true, true, true, true, false, false, false, false, false, false, false, false, false] rfl rfl (any_of HT_.out (by kernel_rfl)) (fun _ _ _ h => h) (Or.inl ⟨by rfl, ?_⟩) ?_ ?_
          rotate_left
          · intro w'
            go_simp
            with_reducible rfl
          rotate_left
          · simp only [Act.put, List.setIfInBounds_toArray, List.set_cons_zero, List.set_cons_succ, i64_w, i32_w]
            rfl
          refine pure_ (i := 23) (N := some 177) (v := ?_) (a' := ?_) #[true, true, true, true, true, true, true, true, true, true, true, true, true, true, true, true, true, true, true, true, true, true, true, true, false, false, false, false, false, false, false, false] rfl rfl (any_of HT_.out (by kernel_rfl)) (fun _ _ _ h => h) (Or.inl ⟨by rfl, ?_⟩) ?_ ?_
          rotate_left
          · intro w'
            go_simp
            with_reducible rfl
          rotate_left
          · simp only [Act.put, List.setIfInBounds_toArray, List.set_cons_zero, List.set_cons_succ, i64_w, i32_w]
            rfl
          refine pure_ (i := 24) (N := some 178) (v := ?_) (a' := ?_) #[true, true, true, true, true, true, true, true, true, true, true, true, true, true, true, true, true, true, true, true, true, true, true, true, true, false, false, false, false, false, false, false] rfl rfl (any_of HT_.out (by kernel_rfl)) (fun _ _ _ h => h) (Or.inl ⟨by rfl, ?_⟩) ?_ ?_
          rotate_left
          · intro w'
            go_simp
            with_reducible rfl
          rotate_left
          · simp only [Act.put, List.setIfInBounds_toArray, List.set_cons_zero, List.set_cons_succ, i64_w, i32_w]
            rfl
          refine pure_ (i := 25) (N := some 179) (v := ?_) (a' := ?_) #[true, true, true, true, true, true, true, true, true, true, true, true, true, true, true, true, true, true, true, true, true, true, true, true, true, true, false, false, false, false, false, false] rfl rfl (any_of HT_.out (by kernel_rfl)) (fun _ _ _ h => h) (Or.inl ⟨by rfl, ?_⟩) ?_ ?_
          rotate_left
          · intro w'
            go_simp
            with_reducible rfl
          rotate_left
          · simp only [Act.put, List.setIfInBounds_toArray, List.set_cons_zero, List.set_cons_succ, i64_w, i32_w]
            rfl
          refine take_ (i := 27) (N := some 181) (v := ?_) (a' := ?_) #[true, true, true, true, true, true, true, true, true, true, true, true, true, true, true, true, true, true, true, true, true, true, true, true, true, true, false, true, false, false, false, false] rfl rfl (take_of HT_.out (by kernel_rfl)) (fun _ _ _ h => h) (Or.inl ⟨by rfl, ?_⟩) hHeld ?_ ?_
          rotate_left
          · intro w' hS_
            obtain ⟨s0, s1, s2, s3⟩ := hS_
            go_simp
            with_reducible rfl
          rotate_left
          · simp only [Act.put, List.setIfInBounds_toArray, List.set_cons_zero, List.set_cons_succ, i64_w, i32_w]
            rfl
          refine one_ (i := 26) (N := some 180) #[true, true, true, true, true, true, true, true, true, true, true, true, true, true, true, true, true, true, true, true, true, true, true, true, true, true, true, true, false, false, false, false] rfl rfl (one_of HT_.out (by kernel_rfl)) (by decide) (fun K hK => ?_)
          refine goes_ Try.func21 (by kernel_rfl) rfl #[.pointer (some ⟨g, 0, none⟩)] (by rfl) rfl rfl (by (try simp only [List.map_toArray, List.map_cons, List.map_nil]); first | done | rfl) ?_
          refine (HAL.out _ (HIp.out.below HBws.out)).mono ?_
          rintro e wt ⟨v_, rfl, hR_, hb_⟩
          obtain ⟨Af, nf, rfl⟩ := Kd.R_slice hR_
          have HQf := Aside0.mk (Kd.R_reads' hR_)
          have HBwt := Aside0.mk (below_step HBws.out hb_)
          clear hR_ hb_
          have hswt : (fun w' => w'.cell? ⟨rb, 0, none⟩ = some (.int .i64 (n : Int)) ∧ w'.cell? ⟨rb, 1, none⟩ = some (.slice A1 lm.length c1) ∧ w'.cell? ⟨rb, 2, none⟩ = some (.slice A2 li.length c2) ∧ w'.cell? ⟨rb, 3, none⟩ = some (.slice A3 lb.length c3)) wt := by
            have h_ := HBwt.out
            exact ⟨(h_.cell (p := ⟨rb, 0, none⟩) hl6).trans cp0, (h_.cell (p := ⟨rb, 1, none⟩) hl6).trans cp1, (h_.cell (p := ⟨rb, 2, none⟩) hl6).trans cp2, (h_.cell (p := ⟨rb, 3, none⟩) hl6).trans cp3⟩
          refine ⟨_, rfl, ?_⟩
          refine hK.out _ _ hswt (fun hHeld => ?_)
          clear hK K
          refine norm_ (a' := ?_) ?_ ?_
          rotate_left
          · show Act.put _ (some 180) _ = _
            simp only [Act.put, List.setIfInBounds_toArray, List.set_cons_zero, List.set_cons_succ, i64_w, i32_w]
            rfl
          refine one_ (i := 28) (N := some 182) #[true, true, true, true, true, true, true, true, true, true, true, true, true, true, true, true, true, true, true, true, true, true, true, true, true, true, true, true, true, false, false, false] rfl rfl (one_of HT_.out (by kernel_rfl)) (by decide) (fun K hK => ?_)
          refine goes_ Try.func36 (by kernel_rfl) rfl #[.agg #[.int .i64 (n : Int), .slice A1 lm.length c1, .slice A2 li.length c2, .slice A3 lb.length c3]] (by rfl) rfl rfl (by (try simp only [List.map_toArray, List.map_cons, List.map_nil]); first | done | rfl) ?_
          refine (HSA.out wt (HR1.out.below HIp.out HBwt.out) (HR2.out.below HIp.out HBwt.out) (HR3.out.below HIp.out HBwt.out)).mono ?_
          rintro e wu ⟨v_, rfl, hR_, hb_⟩
          obtain ⟨Ag, ng, rfl⟩ := Kd.R_slice hR_
          have HQg := Aside0.mk (Kd.R_reads' hR_)
          have HBwu := Aside0.mk (below_step HBwt.out hb_)
          have HQf2 := Aside0.mk (Kd.C_below HQf.out.2.2 hb_)
          clear hR_ hb_
          have hswu : (fun w' => w'.cell? ⟨rb, 0, none⟩ = some (.int .i64 (n : Int)) ∧ w'.cell? ⟨rb, 1, none⟩ = some (.slice A1 lm.length c1) ∧ w'.cell? ⟨rb, 2, none⟩ = some (.slice A2 li.length c2) ∧ w'.cell? ⟨rb, 3, none⟩ = some (.slice A3 lb.length c3)) wu := by
            have h_ := HBwu.out
            exact ⟨(h_.cell (p := ⟨rb, 0, none⟩) hl6).trans cp0, (h_.cell (p := ⟨rb, 1, none⟩) hl6).trans cp1, (h_.cell (p := ⟨rb, 2, none⟩) hl6).trans cp2, (h_.cell (p := ⟨rb, 3, none⟩) hl6).trans cp3⟩
          refine ⟨_, rfl, ?_⟩
          refine hK.out _ _ hswu (fun hHeld => ?_)
          clear hK K
          refine norm_ (a' := ?_) ?_ ?_
          rotate_left
          · show Act.put _ (some 182) _ = _
            simp only [Act.put, List.setIfInBounds_toArray, List.set_cons_zero, List.set_cons_succ, i64_w, i32_w]
            rfl
          refine one_ (i := 29) (N := some 183) #[true, true, true, true, true, true, true, true, true, true, true, true, true, true, true, true, true, true, true, true, true, true, true, true, true, true, true, true, true, true, false, false] rfl rfl (one_of HT_.out (by kernel_rfl)) (by decide) (fun K hK => ?_)
          refine goes_ Try.func20 (by kernel_rfl) rfl #[.slice Af al.length nf, .slice Ag al.length ng] (by rfl) rfl rfl (by (try simp only [List.map_toArray, List.map_cons, List.map_nil]); first | done | rfl) ?_
          refine (same16 al Af Ag nf ng wu HQf2.out HQf.out.2.1 HQg.out.2.2 HQg.out.2.1 (by omega)).mono ?_
          rintro e wv ⟨rfl, hb_⟩
          have HBwv := Aside0.mk (below_step HBwu.out hb_)
          clear hb_
          have hswv : (fun w' => w'.cell? ⟨rb, 0, none⟩ = some (.int .i64 (n : Int)) ∧ w'.cell? ⟨rb, 1, none⟩ = some (.slice A1 lm.length c1) ∧ w'.cell? ⟨rb, 2, none⟩ = some (.slice A2 li.length c2) ∧ w'.cell? ⟨rb, 3, none⟩ = some (.slice A3 lb.length c3)) wv := by
            have h_ := HBwv.out
            exact ⟨(h_.cell (p := ⟨rb, 0, none⟩) hl6).trans cp0, (h_.cell (p := ⟨rb, 1, none⟩) hl6).trans cp1, (h_.cell (p := ⟨rb, 2, none⟩) hl6).trans cp2, (h_.cell (p := ⟨rb, 3, none⟩) hl6).trans cp3⟩
          refine ⟨_, rfl, ?_⟩
          refine hK.out _ _ hswv (fun hHeld => ?_)
          clear hK K
          refine norm_ (a' := ?_) ?_ ?_
          rotate_left
          · show Act.put _ (some 183) _ = _
            simp only [Act.put, List.setIfInBounds_toArray, List.set_cons_zero, List.set_cons_succ, i64_w, i32_w]
            rfl
          refine pure_ (i := 30) (N := some 184) (v := ?_) (a' := ?_) #[true, true, true, true, true, true, true, true, true, true, true, true, true, true, true, true, true, true, true, true, true, true, true, true, true, true, true, true, true, true, true, false] rfl rfl (any_of HT_.out (by kernel_rfl)) (fun _ _ _ h => h) (Or.inl ⟨by rfl, ?_⟩) ?_ ?_
          rotate_left
          · intro w'
            go_simp
            with_reducible rfl
          rotate_left
          · simp only [Act.put, List.setIfInBounds_toArray, List.set_cons_zero, List.set_cons_succ, i64_w, i32_w]
            rfl
          refine pure_ (i := 31) (N := some 185) (v := ?_) (a' := ?_) #[true, true, true, true, true, true, true, true, true, true, true, true, true, true, true, true, true, true, true, true, true, true, true, true, true, true, true, true, true, true, true, true] rfl rfl (any_of HT_.out (by kernel_rfl)) (fun _ _ _ h => h) (Or.inl ⟨by rfl, ?_⟩) ?_ ?_
          rotate_left
          · intro w'
            go_simp
            with_reducible rfl
          rotate_left
          · simp only [Act.put, List.setIfInBounds_toArray, List.set_cons_zero, List.set_cons_succ, i64_w, i32_w]
            rfl
          refine done_ (done_of HT_.out (by kernel_rfl)) ?_
          clear hHeld
          have HIZ := Aside0.mk (HIp.out.below HBwv.out)
          have HWZ := Aside0.mk (HWp.out.trans (HBwv.out.mono HWp.out.size))
          have HRZ := Aside0.mk (HRp.out.below HIp.out HBwv.out)
          go_wp2
          go_roundw
          case measure => simp [intOf, Go.RowKit.intOf]; omega
          case rel => exact ⟨k + 1, s', by omega, by rw [show ((k : Int) + 1) = ((k + 1 : Nat) : Int) by omega], HV', HIZ, HWZ, HSZ', ⟨lm, li, lb⟩, HGO', HRZ⟩
    · have hke : k = ne := by omega
      subst hke
      have HBE := Aside0.mk HB.out
      clear hk hlt
      go_wp2
      go_ret
      exact ⟨rfl, HBE.out⟩
end Go.Proofs.Yteagjolmikbllaa.Ob
