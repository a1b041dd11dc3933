/-
  The walk of DrainsPlays. Conditions: none.
-/
import Derived.Test.YtmkijdkfogebjaaPwX
import Derived.Test.YtmkijdkfogebjaaWTab
set_option linter.unusedVariables false
set_option linter.unusedSimpArgs false
namespace Go.Proofs.Ytmkijdkfogebjaa.Man
open Go.RowKit Go.Proofs.YtmkijdkfogebjaaW.PrintWords Go.Proofs.YtmkijdkfogebjaaW.PrintLast Go.Proofs.YtmkijdkfogebjaaW.PrintMore Go.Proofs.Ytmkijdkfogebjaa.PA Go.Proofs.Ytmkijdkfogebjaa.Hid Go.Proofs.Ytmkijdkfogebjaa.PG Go.Proofs.Ytmkijdkfogebjaa.Nil
theorem same_eq (a : List ByteArray) (A B : Option Addr) (c d : Nat) (w : World) (hA : Kd.C Kd.string w A a.length a) (ha : a.length ≤ c) (hB : Kd.C Kd.string w B a.length a) (hb : a.length ≤ d) : Calls Try.prog 20 #[.slice A a.length c, .slice B a.length d] w fun e w' => e = .returned (.bool true) ∧ Drawn0 w w' := by
  have := same_raw a a A B c d w hA ha hB hb
  rwa [decide_eq_true rfl] at this
theorem cell_at {W : World} {A : Option Addr} {xs : List Int} (h : Kd.C (Kd.int .i64) W A xs.length xs) {P : Nat} (hP : P < xs.length) : ∃ ad, A = some ad ∧ W.cell? (ad.add P) = some (.int .i64 (xs.getD P 0)) := by
  obtain ⟨ad, hA, hc⟩ := Kd.at_int h (P : Int) (by omega) (by omega)
  rw [Int.toNat_natCast] at hc
  exact ⟨ad, hA, by simpa [rd] using hc⟩
def plays.T31 : Bool × List (List Nat × List Nat) := (true, [([], []), ([0], [0]), ([1], [1]), ([2], [2]), ([3, 2, 2], [2, 3]), ([2], [2]), ([5, 2], [2, 5]), ([4, 6, 4, 2], [2, 4, 6]), ([7, 2], [2, 7]), ([2, 8], [2, 8]), ([9, 7], [9]), ([10], [10]), ([11, 10, 10], [10, 11]), ([10], [10]), ([13, 10], [10, 13]), ([12, 14, 12, 10], [10, 12, 14]), ([15, 10], [10, 15]), ([10, 16], [10, 16]), ([17, 15], [17]), ([18], [18]), ([18], [18]), ([20, 18], [18, 20]), ([19, 21, 18, 18], [18, 19, 21]), ([18], [18]), ([18], [18]), ([24, 18], [18, 24]), ([23, 25, 22, 18], [18, 23, 25]), ([22, 26, 26, 18], [18, 22, 26]), ([27, 18], [18, 27]), ([18, 28], [18, 28]), ([29, 27], [29]), ([30], [30]), ([30], [30]), ([32, 30], [30, 32]), ([31, 33, 30, 30], [30, 31, 33]), ([30], [30]), ([35, 30], [30, 35]), ([30], [30]), ([37, 30], [30, 37]), ([36, 38, 34, 30], [30, 36, 38]), ([34, 39, 30], [30, 34, 39]), ([30, 40], [30, 40]), ([41, 39], [41]), ([42], [42]), ([42], [42]), ([44, 42], [42, 44]), ([43, 45, 42], [42, 43, 45]), ([42, 46], [42, 46]), ([47, 42], [47]), ([48], [48]), ([49, 48, 48], [48, 49]), ([50], [50]), ([50], [50]), ([52, 50], [50, 52]), ([50], [50]), ([53, 54, 50], [50, 53, 54]), ([55, 50], [50, 55]), ([51, 56, 50], [50, 51, 56]), ([50, 57, 48], [48, 50, 57]), ([48, 58], [48, 58])])
theorem plays.tab31 : rtab .any (opsOf Try.f5 31) = plays.T31 := by kernel_rfl
theorem noempty_end {s s' : DS} {nm : ByteArray} {q : Bool} (h : NoEmpty s) (hf : drains_Drains_End.f s nm = some (q, s')) : NoEmpty s' := by
  unfold drains_Drains_End.f at hf
  split at hf
  · obtain ⟨_, rfl⟩ := Prod.mk.inj (Option.some.inj hf)
    exact h.end_ nm
  · cases hf
set_option maxRecDepth 100000 in
set_option maxHeartbeats 8000000 in
theorem plays_calls (A : Option Addr) (n : Nat) (l0 : List S29) (w : World) (hV : Kd.V k29 29 w 0 (fun k => k < w.heap.size) (.slice A l0.length n) l0) :
    Calls Try.prog 5 #[.slice A l0.length n] w fun e w' => e = .returned (.bool true) ∧ Below w.heap.size w w' := by
  have HL := Aside0.mk (fun W => hostlerlaw13_lives.calls true W lives_at)
  have HV := Aside0.mk hV
  clear hV
  go_enter Try.func5, Try.ntmps5
  go_wp2_with (first
    | (go_at_call 8; refine (HL.out _).mono ?_; rintro e w1 ⟨rfl, hb1⟩; have HB1 := Aside0.mk hb1; clear hb1)
    | (go_at_call 9; refine (drains_DNew.calls ⟨[]⟩ w _ HB1.out rfl).mono ?_; rintro e w2 ⟨g, rfl, hi2, hb2, hbb2⟩; have HI2 := Aside0.mk (hi2.alloc (.cells #[.slice none 0 0, .slice none 0 0, .slice none 0 0] 45)); have HB2 := Aside0.mk (below_alloc hb2 (.cells #[.slice none 0 0, .slice none 0 0, .slice none 0 0] 45)); have H02 := Aside0.mk (show w.heap.size ≤ w2.heap.size from hb2.size); clear hi2 hb2 hbb2)
    | (go_at_call 10; refine (early_raw (w0 := w) A n l0 ⟨A, n, rfl, (Kd.V_reads' HV.out).2.1, Kd.F_step (Kd.V_F HV.out) (fun k hk _ => HB2.out.block k hk)⟩ HB2.out).mono ?_; rintro e w3 ⟨v3, rfl, hs3, hb3⟩; have HS3 := Aside0.mk hs3; have HI3 := Aside0.mk (HI2.out.below hb3); have HB3 := Aside0.mk (HB2.out.trans (hb3.mono HB2.out.size)); have HR3 : Aside0 (RefAt w w3 w2.heap.size (rfOf ⟨[]⟩)) := ⟨RefAt.below ⟨H02.out, none, none, none, 0, 0, 0, heap_alloc_new w2 _, ⟨none, 0, rfl, Nat.le_refl _, Kd.C_nil _ _, fun _ h => by cases h⟩, ⟨none, 0, rfl, Nat.le_refl _, Kd.C_nil _ _, fun _ h => by cases h⟩, ⟨none, 0, rfl, Nat.le_refl _, Kd.C_nil _ _, fun _ h => by cases h⟩⟩ hb3⟩; clear hs3 hb3))
  obtain ⟨es, hes⟩ : ∃ es, es = earlyOf l0 := ⟨_, rfl⟩
  have hel : es.length ≤ 80 := by rw [hes]; simp [earlyOf]; omega
  have HNM : Aside0 (∀ x ∈ es, x.f2.size ≤ 20) := ⟨fun x hx => early_name (l := l0) (by rw [← hes]; exact hx)⟩
  rw [← hes] at HS3
  obtain ⟨AS, cS, rfl⟩ := Kd.N_slice HS3.out
  obtain ⟨rb, hrb⟩ : ∃ rb, rb = w2.heap.size := ⟨_, rfl⟩
  rw [← hrb] at HR3
  try rw [← hrb]
  have HRBB := Aside0.mk hrb
  clear hes hrb HV HI2 HB1 HB2 HL H02
  go_loopw [5] (fun v5 wr => ∃ (k : Nat) (s : DS), k ≤ es.length ∧ v5 = .int .i64 k ∧ Aside0 (Inv s k) ∧ Aside0 (NoEmpty s) ∧ Aside0 (IsS66 w wr g s) ∧ Aside0 (Below w.heap.size w wr) ∧ Aside0 (Scr w wr (.slice AS es.length cS) es) ∧ Aside0 (RefAt w wr rb (rfOf s))) (fun v5 _ => es.length - (intOf v5).toNat)
  case atStart => exact ⟨0, ⟨[]⟩, Nat.zero_le _, rfl, ⟨by simp [Inv, namesOf]⟩, ⟨fun x hx => by simp at hx⟩, HI3, HB3, HS3, HR3⟩
  case round =>
    obtain ⟨k, s, hk, rfl, HIN, HNE, HI, HB, HS, HRF⟩ := hrel
    by_cases hlt : k < es.length
    · obtain ⟨ad, A3, c3, hA, hx0, hx1, hx2, hx3, hl3, hi3⟩ := at_T29 (Kd.N_reads' HS.out).2.2 (k : Int) (by omega) (by omega)
      subst hA
      obtain ⟨ce, hce, hMe, hcc⟩ := Kd.N_get HS.out z29 (k : Int) (by omega) (by omega)
      obtain ⟨x, hxe⟩ : ∃ x : S29, x = rd_T29 es (k : Int) := ⟨_, rfl⟩
      have hxe2 : es.getD ((k : Int)).toNat z29 = x := hxe.symm
      rw [hxe2] at hMe
      have HSZ : Aside0 (x.f2.size ≤ 100) := ⟨by have := HNM.out x (by rw [hxe]; exact rd_mem hlt); omega⟩
      rw [← hxe, Int.toNat_natCast] at hx0 hx1 hx2 hx3
      rw [← hxe] at hl3 hi3
      obtain ⟨ua, uc, rfl, ul, ge⟩ := k29_openF hMe
      have hv3 := hcc 3 _ rfl
      rw [add_field _ _ 3 (by omega), Int.toNat_natCast] at hv3
      replace hv3 := Option.some.inj (hv3.symm.trans hx3)
      injection hv3 with hva hvn hvc
      subst hva; subst hvc
      have HMY : Aside0 (∀ W', Below w.heap.size w W' → Kd.C Kd.string W' ua x.f3.length x.f3) := ⟨fun W' hW' => Kd.F_now (Kd.F_step ge (fun k hk hlt => by
        have hkl : k < w.heap.size := by
          rcases hk.1 with h | h
          · exact h
          · exact absurd h hk.2
        rw [hW'.block k hkl, HB.out.block k hkl]))⟩
      have HMC := Aside0.mk hl3
      have h0k : (0 : Int) ≤ (k : Int) := by omega
      have hkl : (k : Int) < (es.length : Int) := by omega
      obtain ⟨κ, hκ5, hκ⟩ := mod_n5 x.f0
      have HKD := Aside0.mk (fun W (h : Kd.C Kd.string W ua x.f3.length x.f3) => hostlerlaw13_Step_kind.calls x.f0 x.f1 x.f2 ua uc x.f3 (κ : Int) W h hl3 (by unfold hostlerlaw13_Step_kind.f; rw [hκ]))
      have HC3 := Aside0.mk hi3
      clear hxe hxe2 hκ hi3 hcc hce hMe ge hl3
      go_upto_block 2 with (first
        | (go_at_call 11; refine (HKD.out _ (Kd.C_alloc HC3.out _)).mono ?_; rintro e w5 ⟨rfl, hb4⟩; have HB4 := Aside0.mk hb4; clear hb4))
      have hbx : w5.heap[wr.heap.size]? = some (.cells #[.int .i64 x.f0, .int .i64 x.f1, .string x.f2, .slice ua x.f3.length uc] 29 (0, 0)) := (HB4.out.block _ (by simp)).trans (heap_alloc_new wr _)
      have h81 : w5.cell? ⟨wr.heap.size, 1, none⟩ = some (.int .i64 x.f1) := (blk_cell hbx 1).trans rfl
      have h82 : w5.cell? ⟨wr.heap.size, 2, none⟩ = some (.string x.f2) := (blk_cell hbx 2).trans rfl
      have h83 : w5.cell? ⟨wr.heap.size, 3, none⟩ = some (.slice ua x.f3.length uc) := (blk_cell hbx 3).trans rfl
      have HX8 := Aside0.mk hbx
      have HB5 := Aside0.mk (below_step (below_alloc (Below.refl _ wr) _) HB4.out)
      have HI5 := Aside0.mk (HI.out.below HB5.out)
      have HW5 := Aside0.mk (HB.out.trans (HB5.out.mono HB.out.size))
      have HS5 := Aside0.mk (HS.out.below HB5.out)
      have HR5 := Aside0.mk (HRF.out.below HB5.out)
      clear hbx hx0 hx1 hx2 hx3 HB4 HI HB HS HRF HKD HC3 HI3 HB3 HS3 HR3 hk
      go_cut [7] (fun v7 wc => ∃ s' : DS, v7 = .bool true ∧ Aside0 (Inv s' (k + 1)) ∧ Aside0 (NoEmpty s') ∧ Aside0 (IsS66 w wc g s') ∧ Aside0 (Below w.heap.size w wc) ∧ Aside0 (Scr w wc (.slice (some ad) es.length cS) es) ∧ Aside0 (RefAt w wc rb (rfOf s')) ∧ Aside0 (wc.heap[wr.heap.size]? = some (.cells #[.int .i64 x.f0, .int .i64 x.f1, .string x.f2, .slice ua x.f3.length uc] 29 (0, 0))))
      case first =>
        obtain ⟨hbw, A0, A1, A2, c0, c1, c2, hb3, hR0, hR1, hR2⟩ := HR5.out
        have HBK := Aside0.mk hb3
        have HR0 := Aside0.mk hR0
        have HR1 := Aside0.mk hR1
        have HR2 := Aside0.mk hR2
        have HBWW := Aside0.mk hbw
        obtain ⟨ca0, ca1, ca2, fa0, fa1, fa2⟩ := B3.cells hb3
        have hL1 := HIN.out.2.1
        have hinv := HIN.out
        clear hb3 hR0 hR1 hR2 hbw
        have hx : κ = 0 ∨ κ = 1 ∨ κ = 2 ∨ κ = 3 ∨ κ = 4 := by omega
        rcases hx with rfl | rfl | rfl | rfl | rfl
        · as_aux_lemma =>
          obtain ⟨s', hf, hv, hr⟩ := ask_plain hinv (by omega) x.f2
          have HNV := Aside0.mk (HNE.out.ask hf)
          have HRC := Aside0.mk (fun (W : World) (v0 v1 v2 : Value) (h0 : RdS 0 W v0 (rfOf s).w) (h1 : RdS 0 W v1 (rfOf s).u) (h2 : RdI 0 W v2 (rfOf s).a) => (ref_ask x.f2 HSZ.out (rfOf s) h0 h1 h2 (Nat.zero_le _) : Calls Try.prog 21 #[.agg #[v0, v1, v2], .string x.f2] W fun e w' => ∃ vs, e = .returned (.tuple #[vs, .int .i64 (refAsk (rfOf s) x.f2).1]) ∧ Back 0 W w' vs _))
          rw [← hr] at HRC
          generalize (refAsk (rfOf s) x.f2).1 = rr at hf HRC
          have HF := Aside0.mk hf
          have HV := Aside0.mk hv
          clear hf hv hr hinv
          go_wp2_with (first
            | (go_at_call 21; (with_reducible refine (HRC.out w5 _ _ _ HR0.out HR1.out HR2.out).mono ?_); rintro e w6 ⟨vs, rfl, u0, u1, u2, rfl, q0, q1, q2, hb6⟩; have HI6 := Aside0.mk (HI5.out.below hb6); have HW6 := Aside0.mk (HW5.out.trans (hb6.mono HW5.out.size)); have HX6 := Aside0.mk ((hb6.block _ (blk_lt HX8.out)).trans HX8.out); have HK6 := Aside0.mk (HBK.out.below hb6); have HS6 := Aside0.mk (HS5.out.below hb6); obtain ⟨A0', c0', rfl⟩ := slice_rd q0; obtain ⟨A1', c1', rfl⟩ := slice_rd q1; obtain ⟨A2', c2', rfl⟩ := slice_rd q2; have HP := Aside0.mk (ref_put (r := rfOf s') HI6.out HW6.out HK6.out HBWW.out q0 q1 q2); obtain ⟨cb0, cb1, cb2, fb0, fb1, fb2⟩ := B3.cells HK6.out; have h86 : w6.cell? ⟨wr.heap.size, 1, none⟩ = some (.int .i64 x.f1) := (blk_cell HX6.out 1).trans rfl; have h862 : w6.cell? ⟨wr.heap.size, 2, none⟩ = some (.string x.f2) := (blk_cell HX6.out 2).trans rfl; have h863 : w6.cell? ⟨wr.heap.size, 3, none⟩ = some (.slice ua x.f3.length uc) := (blk_cell HX6.out 3).trans rfl; have hl6 : rb < w6.heap.size := blk_lt HK6.out; have hl86 : wr.heap.size < w6.heap.size := blk_lt HX6.out; have hn86 : rb ≠ wr.heap.size := fun e => (by have h_ : w6.heap[rb]? = _ := HK6.out; rw [e, HX6.out] at h_; injection h_ with h_; injection h_ with _ h_; cases h_); have hn87 := hn86.symm; have HX9 := Aside0.mk (HP.out.2.2.2 _ _ _ HX6.out (by decide)); clear q0 q1 q2 hb6)
            | (go_at_call 12; (with_reducible refine (drains_Drains_Ask.calls g s x.f2 rr s' w _ HP.out.2.1 HP.out.2.2.1 HF.out).mono ?_); rintro e w7 ⟨rfl, hi7, hb7, hk7⟩))
          go_meet
          case rel => exact ⟨s', by first | rfl | simp, HV, HNV, ⟨hi7⟩, ⟨hb7⟩, ⟨(Scr.keep (HS6.out.step HW6.out HP.out.2.2.1 (fun k hc => by obtain ⟨cells, hc⟩ := hc; exact (HP.out.2.2.2 k cells 29 hc (by decide)).trans hc.symm)) HP.out.2.2.1 hb7 hk7)⟩, ⟨HP.out.1.keep hk7⟩, ⟨Ko.blkc hk7 HX9.out (by decide)⟩⟩
        · as_aux_lemma =>
          obtain ⟨s', hf, hv, hr⟩ := begin_plain hinv (by omega) x.f2 x.f1
          have HNV := Aside0.mk (HNE.out.begin_ hf)
          have hwl : (rfOf s).w.length ≤ 1000 := by have := HIN.out.2.1; exact Nat.le_trans (by simp only [rfOf, namesOf, List.length_map]; exact List.length_filter_le _ _) (by omega : s.row.length ≤ 1000)
          have hul : (rfOf s).u.length ≤ 1000 := by have := HIN.out.2.1; exact Nat.le_trans (by simp only [rfOf, namesOf, List.length_map]; exact List.length_filter_le _ _) (by omega : s.row.length ≤ 1000)
          have hal : (rfOf s).a.length ≤ 1000 := by have := HIN.out.2.1; exact Nat.le_trans (by simp only [rfOf, atsU, List.length_map]; exact List.length_filter_le _ _) (by omega : s.row.length ≤ 1000)
          have HRC := Aside0.mk (fun (W : World) (v0 v1 v2 : Value) (h0 : RdS 0 W v0 (rfOf s).w) (h1 : RdS 0 W v1 (rfOf s).u) (h2 : RdI 0 W v2 (rfOf s).a) => (ref_begin x.f2 x.f1 HSZ.out (rfOf s) h0 h1 h2 (Nat.zero_le _) hwl hul hal : Calls Try.prog 22 #[.agg #[v0, v1, v2], .string x.f2, .int .i64 x.f1] W fun e w' => ∃ vs, e = .returned (.tuple #[vs, .int .i64 (refBegin (rfOf s) x.f2 x.f1).1]) ∧ Back 0 W w' vs _))
          rw [← hr] at HRC
          generalize (refBegin (rfOf s) x.f2 x.f1).1 = rr at hf HRC
          clear hwl hul hal
          have HF := Aside0.mk hf
          have HV := Aside0.mk hv
          clear hf hv hr hinv
          go_wp2_with (first
            | (go_at_call 22; (with_reducible refine (HRC.out w5 _ _ _ HR0.out HR1.out HR2.out).mono ?_); rintro e w6 ⟨vs, rfl, u0, u1, u2, rfl, q0, q1, q2, hb6⟩; have HI6 := Aside0.mk (HI5.out.below hb6); have HW6 := Aside0.mk (HW5.out.trans (hb6.mono HW5.out.size)); have HX6 := Aside0.mk ((hb6.block _ (blk_lt HX8.out)).trans HX8.out); have HK6 := Aside0.mk (HBK.out.below hb6); have HS6 := Aside0.mk (HS5.out.below hb6); obtain ⟨A0', c0', rfl⟩ := slice_rd q0; obtain ⟨A1', c1', rfl⟩ := slice_rd q1; obtain ⟨A2', c2', rfl⟩ := slice_rd q2; have HP := Aside0.mk (ref_put (r := rfOf s') HI6.out HW6.out HK6.out HBWW.out q0 q1 q2); obtain ⟨cb0, cb1, cb2, fb0, fb1, fb2⟩ := B3.cells HK6.out; have h86 : w6.cell? ⟨wr.heap.size, 1, none⟩ = some (.int .i64 x.f1) := (blk_cell HX6.out 1).trans rfl; have h862 : w6.cell? ⟨wr.heap.size, 2, none⟩ = some (.string x.f2) := (blk_cell HX6.out 2).trans rfl; have h863 : w6.cell? ⟨wr.heap.size, 3, none⟩ = some (.slice ua x.f3.length uc) := (blk_cell HX6.out 3).trans rfl; have hl6 : rb < w6.heap.size := blk_lt HK6.out; have hl86 : wr.heap.size < w6.heap.size := blk_lt HX6.out; have hn86 : rb ≠ wr.heap.size := fun e => (by have h_ : w6.heap[rb]? = _ := HK6.out; rw [e, HX6.out] at h_; injection h_ with h_; injection h_ with _ h_; cases h_); have hn87 := hn86.symm; have HX9 := Aside0.mk (HP.out.2.2.2 _ _ _ HX6.out (by decide)); clear q0 q1 q2 hb6)
            | (go_at_call 13; (with_reducible refine (drains_Drains_Begin.calls g s x.f2 x.f1 rr s' w _ HP.out.2.1 HP.out.2.2.1 HF.out).mono ?_); rintro e w7 ⟨rfl, hi7, hb7, hk7⟩))
          go_meet
          case rel => exact ⟨s', by first | rfl | simp, HV, HNV, ⟨hi7⟩, ⟨hb7⟩, ⟨(Scr.keep (HS6.out.step HW6.out HP.out.2.2.1 (fun k hc => by obtain ⟨cells, hc⟩ := hc; exact (HP.out.2.2.2 k cells 29 hc (by decide)).trans hc.symm)) HP.out.2.2.1 hb7 hk7)⟩, ⟨HP.out.1.keep hk7⟩, ⟨Ko.blkc hk7 HX9.out (by decide)⟩⟩
        · as_aux_lemma =>
          obtain ⟨s', hf, hv, hr, hnm⟩ := end_plain hinv (by omega) x.f2
          have HNV : Aside0 (NoEmpty s') := ⟨noempty_end HNE.out hf⟩
          have hwl : (rfOf s).w.length ≤ 1000 := by have := HIN.out.2.1; exact Nat.le_trans (by simp only [rfOf, namesOf, List.length_map]; exact List.length_filter_le _ _) (by omega : s.row.length ≤ 1000)
          have hul : (rfOf s).u.length ≤ 1000 := by have := HIN.out.2.1; exact Nat.le_trans (by simp only [rfOf, namesOf, List.length_map]; exact List.length_filter_le _ _) (by omega : s.row.length ≤ 1000)
          have heq : (rfOf s).u.length = (rfOf s).a.length := by simp [rfOf, namesOf, atsU]
          have HRC := Aside0.mk (fun (W : World) (v0 v1 v2 : Value) (h0 : RdS 0 W v0 (rfOf s).w) (h1 : RdS 0 W v1 (rfOf s).u) (h2 : RdI 0 W v2 (rfOf s).a) => (ref_end x.f2 (rfOf s) h0 h1 h2 (Nat.zero_le _) hwl hul heq : Calls Try.prog 23 #[.agg #[v0, v1, v2], .string x.f2] W fun e w' => ∃ vs, e = .returned (.tuple #[vs, .bool (refEnd (rfOf s) x.f2).1]) ∧ Back 0 W w' vs _))
          rw [← hr] at HRC
          generalize (refEnd (rfOf s) x.f2).1 = rr at hf HRC
          clear hwl hul heq hnm
          replace hv := hv.mono (Nat.le_succ k)
          have HF := Aside0.mk hf
          have HV := Aside0.mk hv
          clear hf hv hr hinv
          go_wp2_with (first
            | (go_at_call 23; (with_reducible refine (HRC.out w5 _ _ _ HR0.out HR1.out HR2.out).mono ?_); rintro e w6 ⟨vs, rfl, u0, u1, u2, rfl, q0, q1, q2, hb6⟩; have HI6 := Aside0.mk (HI5.out.below hb6); have HW6 := Aside0.mk (HW5.out.trans (hb6.mono HW5.out.size)); have HX6 := Aside0.mk ((hb6.block _ (blk_lt HX8.out)).trans HX8.out); have HK6 := Aside0.mk (HBK.out.below hb6); have HS6 := Aside0.mk (HS5.out.below hb6); obtain ⟨A0', c0', rfl⟩ := slice_rd q0; obtain ⟨A1', c1', rfl⟩ := slice_rd q1; obtain ⟨A2', c2', rfl⟩ := slice_rd q2; have HP := Aside0.mk (ref_put (r := rfOf s') HI6.out HW6.out HK6.out HBWW.out q0 q1 q2); obtain ⟨cb0, cb1, cb2, fb0, fb1, fb2⟩ := B3.cells HK6.out; have h86 : w6.cell? ⟨wr.heap.size, 1, none⟩ = some (.int .i64 x.f1) := (blk_cell HX6.out 1).trans rfl; have h862 : w6.cell? ⟨wr.heap.size, 2, none⟩ = some (.string x.f2) := (blk_cell HX6.out 2).trans rfl; have h863 : w6.cell? ⟨wr.heap.size, 3, none⟩ = some (.slice ua x.f3.length uc) := (blk_cell HX6.out 3).trans rfl; have hl6 : rb < w6.heap.size := blk_lt HK6.out; have hl86 : wr.heap.size < w6.heap.size := blk_lt HX6.out; have hn86 : rb ≠ wr.heap.size := fun e => (by have h_ : w6.heap[rb]? = _ := HK6.out; rw [e, HX6.out] at h_; injection h_ with h_; injection h_ with _ h_; cases h_); have hn87 := hn86.symm; have HX9 := Aside0.mk (HP.out.2.2.2 _ _ _ HX6.out (by decide)); clear q0 q1 q2 hb6)
            | (go_at_call 17; (with_reducible refine (drains_Drains_End.calls g s x.f2 rr s' w _ HP.out.2.1 HP.out.2.2.1 HF.out).mono ?_); rintro e w7 ⟨rfl, hi7, hb7, hk7⟩))
          go_meet
          case rel => exact ⟨s', by first | rfl | simp, HV, HNV, ⟨hi7⟩, ⟨hb7⟩, ⟨(Scr.keep (HS6.out.step HW6.out HP.out.2.2.1 (fun k hc => by obtain ⟨cells, hc⟩ := hc; exact (HP.out.2.2.2 k cells 29 hc (by decide)).trans hc.symm)) HP.out.2.2.1 hb7 hk7)⟩, ⟨HP.out.1.keep hk7⟩, ⟨Ko.blkc hk7 HX9.out (by decide)⟩⟩
        · as_aux_lemma =>
          obtain ⟨hn1, hn2, hv, hnv, hr⟩ := first_plain hinv HNE.out x.f3
          have HFL := Aside0.mk (fun (W : World) (B : Nat) (hI : IsS66 w W g s) (hB : Below w.heap.size w W) (hb : W.heap[B]? = some (.cells #[.slice ua x.f3.length uc] 27 (0, 0))) => first_law (l := x.f3) hI hB (by omega) hb HMC.out HMY.out)
          have HRC := Aside0.mk (fun (W : World) (v0 v1 v2 : Value) (hW : Below w.heap.size w W) (h0 : RdS 0 W v0 (rfOf s).w) (h1 : RdS 0 W v1 (rfOf s).u) (h2 : RdI 0 W v2 (rfOf s).a) => ref_first ua uc x.f3 (HMY.out W hW) HMC.out (rfOf s) h0 h1 h2 (Nat.zero_le _))
          rw [← hr, ← hn1, ← hn2] at HRC
          generalize decide (0 ≤ placeOf s.row (headName s.row (mayHead s.row x.f3)) 0) = rb2 at HRC HFL
          generalize headName s.row (mayHead s.row x.f3) = rn at HRC HFL hv hnv
          generalize hs' : (⟨endRow s.row rn⟩ : DS) = s' at HRC HFL hv hnv
          replace hv := hv.mono (Nat.le_succ k)
          have HV := Aside0.mk hv
          have HNV := Aside0.mk hnv
          clear hs' hv hnv hr hn1 hn2 hinv
          go_wp2_with (first
            | (go_at_call 24; (with_reducible refine (HRC.out w5 _ _ _ HW5.out HR0.out HR1.out HR2.out).mono ?_); rintro e w6 ⟨vs, rfl, u0, u1, u2, rfl, q0, q1, q2, hb6⟩; have HI6 := Aside0.mk (HI5.out.below hb6); have HW6 := Aside0.mk (HW5.out.trans (hb6.mono HW5.out.size)); have HX6 := Aside0.mk ((hb6.block _ (blk_lt HX8.out)).trans HX8.out); have HK6 := Aside0.mk (HBK.out.below hb6); have HS6 := Aside0.mk (HS5.out.below hb6); obtain ⟨A0', c0', rfl⟩ := slice_rd q0; obtain ⟨A1', c1', rfl⟩ := slice_rd q1; obtain ⟨A2', c2', rfl⟩ := slice_rd q2; have HP := Aside0.mk (ref_put (r := rfOf s') HI6.out HW6.out HK6.out HBWW.out q0 q1 q2); obtain ⟨cb0, cb1, cb2, fb0, fb1, fb2⟩ := B3.cells HK6.out; have h86 : w6.cell? ⟨wr.heap.size, 1, none⟩ = some (.int .i64 x.f1) := (blk_cell HX6.out 1).trans rfl; have h862 : w6.cell? ⟨wr.heap.size, 2, none⟩ = some (.string x.f2) := (blk_cell HX6.out 2).trans rfl; have h863 : w6.cell? ⟨wr.heap.size, 3, none⟩ = some (.slice ua x.f3.length uc) := (blk_cell HX6.out 3).trans rfl; have hl6 : rb < w6.heap.size := blk_lt HK6.out; have hl86 : wr.heap.size < w6.heap.size := blk_lt HX6.out; have hn86 : rb ≠ wr.heap.size := fun e => (by have h_ : w6.heap[rb]? = _ := HK6.out; rw [e, HX6.out] at h_; injection h_ with h_; injection h_ with _ h_; cases h_); have hn87 := hn86.symm; have HX9 := Aside0.mk (HP.out.2.2.2 _ _ _ HX6.out (by decide)); clear q0 q1 q2 hb6)
            | (go_at_call 26; (with_reducible refine (of_raw ua x.f3.length uc _).mono ?_); rintro e wq ⟨B, rfl, hqb, hbq⟩; have HQB := Aside0.mk hqb; have HBQ := Aside0.mk hbq; clear hqb hbq)
            | (go_at_call 25; (with_reducible refine (HFL.out wq _ (HP.out.2.1.below HBQ.out) (HP.out.2.2.1.trans (HBQ.out.mono HP.out.2.2.1.size)) HQB.out).mono ?_); rintro e w7 ⟨rfl, hi7, hb7, hk7_⟩; have hk7 := (KeptH.of_below HBQ.out).trans hk7_))
          go_meet
          case rel => exact ⟨s', by first | rfl | simp, HV, HNV, ⟨hi7⟩, ⟨hb7⟩, ⟨(Scr.keep (HS6.out.step HW6.out HP.out.2.2.1 (fun k hc => by obtain ⟨cells, hc⟩ := hc; exact (HP.out.2.2.2 k cells 29 hc (by decide)).trans hc.symm)) HP.out.2.2.1 hb7 hk7)⟩, ⟨HP.out.1.keep hk7⟩, ⟨Ko.blkc hk7 HX9.out (by decide)⟩⟩
        · go_wp2
          go_meet
          case rel => exact ⟨s, rfl, ⟨HIN.out.mono (Nat.le_succ k)⟩, HNE, HI5, HW5, HS5, HR5, HX8⟩
      case rest =>
        obtain ⟨s', rfl, HIN', HNE', HI, HB, HS, HRF, HX⟩ := hcut
        clear HIN HNE HI5 HW5 HS5 HR5 HX8 h81 h82 h83
        obtain ⟨hbw, A0, A1, A2, c0, c1, c2, hb3, hR0, hR1, hR2⟩ := HRF.out
        have HR0 := Aside0.mk hR0
        have HR1 := Aside0.mk hR1
        have HR2 := Aside0.mk hR2
        obtain ⟨ca0, ca1, ca2, fa0, fa1, fa2⟩ := B3.cells hb3
        have hq1 : wc.cell? ⟨wr.heap.size, 1, none⟩ = some (.int .i64 x.f1) := (blk_cell HX.out 1).trans rfl
        have hq2 : wc.cell? ⟨wr.heap.size, 2, none⟩ = some (.string x.f2) := (blk_cell HX.out 2).trans rfl
        have hx8l : wr.heap.size < wc.heap.size := blk_lt HX.out
        have hx6l : rb < wc.heap.size := blk_lt hb3
        have hrl : s'.row.length ≤ 1000 := by have := HIN'.out.2.1; omega
        have hul : (rfOf s').u.length ≤ 1000 := Nat.le_trans (by simp only [rfOf, namesOf, List.length_map]; exact List.length_filter_le _ _) hrl
        have heq : (rfOf s').u.length = (rfOf s').a.length := by simp [rfOf, namesOf, atsU]
        have HWA : Aside0 (∀ W, IsS66 w W g s' → Calls Try.prog 15 #[.pointer (some ⟨g, 0, none⟩)] W fun e w' => ∃ v1_ : Value, e = .returned v1_ ∧ Kd.R Kd.string 9 w' W.heap.size (fun _ => True) v1_ (rfOf s').w ∧ Below W.heap.size W w') := ⟨fun W h => waits_raw (by omega) h⟩
        have HUN : Aside0 (∀ W, IsS66 w W g s' → Calls Try.prog 16 #[.pointer (some ⟨g, 0, none⟩)] W fun e w' => ∃ v1_ : Value, e = .returned v1_ ∧ Kd.R Kd.string 9 w' W.heap.size (fun _ => True) v1_ (rfOf s').u ∧ Below W.heap.size W w') := ⟨fun W h => under_raw (by omega) h⟩
        have HDU := Aside0.mk (fun W (h : IsS66 w W g s') => due_raw x.f1 (by omega) h)
        rw [due_plain HIN'.out x.f1] at HDU
        have HRD := Aside0.mk (fun (W : World) (v0 v1 v2 : Value) (h0 : RdS 0 W v0 (rfOf s').w) (h1 : RdS 0 W v1 (rfOf s').u) (h2 : RdI 0 W v2 (rfOf s').a) => ref_due x.f1 (rfOf s') h0 h1 h2 hul heq)
        have HAH : Aside0 (∀ W, IsS66 w W g s' → Calls Try.prog 30 #[.pointer (some ⟨g, 0, none⟩), .string x.f2] W fun e w' => e = .returned (.int .i64 (idxOf (rfOf s').w x.f2 0)) ∧ Below W.heap.size W w') := ⟨fun W h => ahead_raw x.f2 (by omega) h⟩
        have HDL := Aside0.mk (fun W (h : IsS66 w W g s') => deadline_raw x.f2 h)
        have HDP := Aside0.mk (dead_plain HIN'.out x.f2)
        rw [HDP.out.1] at HDL
        have HDQ := Aside0.mk HDP.out.2
        obtain ⟨wl, hwl⟩ : ∃ wl, (rfOf s').w = wl := ⟨_, rfl⟩
        obtain ⟨ul, hul2⟩ : ∃ ul, (rfOf s').u = ul := ⟨_, rfl⟩
        obtain ⟨al, hal⟩ : ∃ al, (rfOf s').a = al := ⟨_, rfl⟩
        obtain ⟨du, hdu⟩ : ∃ du, refDue (rfOf s') x.f1 = du := ⟨_, rfl⟩
        obtain ⟨tv, htv⟩ : ∃ tv, (deadOf s' x.f2).1 = tv := ⟨_, rfl⟩
        obtain ⟨pk, hpk⟩ : ∃ pk, idxOf ul x.f2 0 = pk := ⟨_, rfl⟩
        obtain ⟨pw, hpw⟩ : ∃ pw, idxOf wl x.f2 0 = pw := ⟨_, rfl⟩
        rw [hdu] at HDU HRD
        rw [hwl, hpw] at HAH
        rw [hwl] at HWA HRD HR0 ca0
        rw [hul2] at HUN HRD HR1 ca1 HDL HDQ
        rw [hal] at HRD HR2 ca2 HDQ
        rw [htv] at HDL HDQ
        rw [hpk] at HDL HDQ
        have HPU := Aside0.mk (fun W (h : Kd.C Kd.string W A1 ul.length ul) (hc : ul.length ≤ c1) => place27_raw x.f2 ul A1 c1 W h hc)
        rw [hpk] at HPU
        have HPW := Aside0.mk (fun W (h : Kd.C Kd.string W A0 wl.length wl) (hc : wl.length ≤ c0) => place27_raw x.f2 wl A0 c0 W h hc)
        rw [hpw] at HPW
        have L0 : Aside0 (wl.length ≤ c0) := ⟨by obtain ⟨_, _, e, h, _⟩ := HR0.out; injection e with _ _ e; omega⟩
        have L1 : Aside0 (ul.length ≤ c1) := ⟨by obtain ⟨_, _, e, h, _⟩ := HR1.out; injection e with _ _ e; omega⟩
        clear hb3 hR0 hR1 hR2 hul heq HDP hwl hul2 hal hdu htv hpk hpw hrl hbw
        go_upto_region 31 with (first
          | (go_at_call 27; (with_reducible refine (HPU.out wc (rdsC HR1.out) L1.out).mono ?_); rintro e wm ⟨rfl, hbm⟩; have HBM := Aside0.mk (Drawn0.below hbm); have h8m : wm.cell? ⟨wr.heap.size, 2, none⟩ = some (.string x.f2) := (HBM.out.cell (p := ⟨wr.heap.size, 2, none⟩) hx8l).trans hq2; clear hbm)
          | (go_at_call 28; (with_reducible refine (HDL.out wm (HI.out.below HBM.out)).mono ?_); rintro e wn ⟨rfl, hbn⟩; have HBN := Aside0.mk (below_step HBM.out hbn); clear hbn))
        have HIP := Aside0.mk (HI.out.below HBN.out)
        have HWP := Aside0.mk (HB.out.trans (HBN.out.mono HB.out.size))
        have HSP := Aside0.mk (HS.out.below HBN.out)
        have HRP := Aside0.mk (HRF.out.below HBN.out)
        have hp0 : wn.cell? ⟨rb, 0, none⟩ = some (.slice A0 wl.length c0) := (HBN.out.cell (p := ⟨rb, 0, none⟩) hx6l).trans ca0
        have hp1 : wn.cell? ⟨rb, 1, none⟩ = some (.slice A1 ul.length c1) := (HBN.out.cell (p := ⟨rb, 1, none⟩) hx6l).trans ca1
        have hp2 : wn.cell? ⟨rb, 2, none⟩ = some (.slice A2 al.length c2) := (HBN.out.cell (p := ⟨rb, 2, none⟩) hx6l).trans ca2
        have hp81 : wn.cell? ⟨wr.heap.size, 1, none⟩ = some (.int .i64 x.f1) := (HBN.out.cell (p := ⟨wr.heap.size, 1, none⟩) hx8l).trans hq1
        have hp82 : wn.cell? ⟨wr.heap.size, 2, none⟩ = some (.string x.f2) := (HBN.out.cell (p := ⟨wr.heap.size, 2, none⟩) hx8l).trans hq2
        have hl6 : rb < wn.heap.size := Nat.lt_of_lt_of_le hx6l HBN.out.size
        have hl8 : wr.heap.size < wn.heap.size := Nat.lt_of_lt_of_le hx8l HBN.out.size
        replace HR0 := Aside0.mk (HR0.out.below HBN.out)
        replace HR1 := Aside0.mk (HR1.out.below HBN.out)
        replace HR2 := Aside0.mk (HR2.out.below HBN.out)
        obtain ⟨wp, rfl⟩ : ∃ wp : World, wp = wn := ⟨_, rfl⟩
        clear hq1 hq2 hx6l hx8l HX HI HB HS HRF HPU HDL HBN HBM h8m ca0 ca1 ca2 fa0 fa1 fa2
        by_cases his : 0 ≤ pk
        · as_aux_lemma =>
          have hisb : decide (0 ≤ pk) = true := decide_eq_true his
          obtain ⟨P, rfl, hPl, htv⟩ := HDQ.out his
          obtain ⟨ad2, hA2, hpt⟩ := cell_at (rdiC HR2.out) hPl
          subst hA2
          rw [htv] at hpt
          have hPl2 : (P : Int) < (al.length : Int) := by omega
          have h0P : (0 : Int) ≤ (P : Int) := by omega
          clear htv
          refine start_ (n := 60) (S := fun w' => w'.cell? ⟨rb, 0, none⟩ = some (.slice A0 wl.length c0) ∧ w'.cell? ⟨rb, 1, none⟩ = some (.slice A1 ul.length c1) ∧ w'.cell? ⟨rb, 2, none⟩ = some (.slice (some ad2) al.length c2) ∧ w'.cell? ⟨wr.heap.size, 1, none⟩ = some (.int .i64 x.f1) ∧ w'.cell? ⟨wr.heap.size, 2, none⟩ = some (.string x.f2) ∧ w'.cell? (ad2.add P) = some (.int .i64 tv)) (ds := []) #[false, false, false, false, false, false, false, false, false, false, false, false, false, false, false, false, false, false, false, false, false, false, false, false, false, false, false, false, false, false, false, false, false, false, false, false, false, false, false, false, false, false, false, false, false, false, false, false, false, false, false, false, false, false, false, false, false, false, false, false] (by kernel_rfl) rfl rfl ⟨hp0, hp1, hp2, hp81, hp82, hpt⟩ (fun hHeld => ?_); refine with_tab plays.tab31 (fun HT_ => ?_)
          refine pure_ (i := 0) (N := some 130) (v := ?_) (a' := ?_) #[true, false, false, false, false, false, false, false, false, false, false, false, false, false, false, false, false, false, false, false, false, false, false, false, false, false, false, false, false, false, false, false, false, false, false, false, false, false, false, false, false, false, false, false, false, false, false, false, false, false, false, false, false, false, false, false, false, false, false, false] rfl rfl (any_of HT_.out (by kernel_rfl)) (fun _ _ _ h => h) (Or.inl ⟨by rfl, ?_⟩) ?_ ?_
          rotate_left
          · intro w'
            go_simp
            with_reducible rfl
          rotate_left
          · simp only [Act.put, List.setIfInBounds_toArray, List.set_cons_zero, List.set_cons_succ, i64_w, i32_w]
            rfl
          refine pure_ (i := 1) (N := some 131) (v := ?_) (a' := ?_) #[true, true, false, false, false, false, false, false, false, false, false, false, false, false, false, false, false, false, false, false, false, false, false, false, false, false, false, false, false, false, false, false, false, false, false, false, false, false, false, false, false, false, false, false, false, false, false, false, false, false, false, false, false, false, false, false, false, false, false, false] rfl rfl (any_of HT_.out (by kernel_rfl)) (fun _ _ _ h => h) (Or.inl ⟨by rfl, ?_⟩) ?_ ?_
          rotate_left
          · intro w'
            go_simp
            with_reducible rfl
          rotate_left
          · simp only [Act.put, List.setIfInBounds_toArray, List.set_cons_zero, List.set_cons_succ, i64_w, i32_w]
            rfl
          refine pure_ (i := 2) (N := some 132) (v := ?_) (a' := ?_) #[true, true, true, false, false, false, false, false, false, false, false, false, false, false, false, false, false, false, false, false, false, false, false, false, false, false, false, false, false, false, false, false, false, false, false, false, false, false, false, false, false, false, false, false, false, false, false, false, false, false, false, false, false, false, false, false, false, false, false, false] rfl rfl (any_of HT_.out (by kernel_rfl)) (fun _ _ _ h => h) (Or.inl ⟨by rfl, ?_⟩) ?_ ?_
          rotate_left
          · intro w'
            go_simp
            with_reducible rfl
          rotate_left
          · simp only [Act.put, List.setIfInBounds_toArray, List.set_cons_zero, List.set_cons_succ, i64_w, i32_w]
            rfl
          refine pure_ (i := 3) (N := some 133) (v := ?_) (a' := ?_) #[true, true, true, true, false, false, false, false, false, false, false, false, false, false, false, false, false, false, false, false, false, false, false, false, false, false, false, false, false, false, false, false, false, false, false, false, false, false, false, false, false, false, false, false, false, false, false, false, false, false, false, false, false, false, false, false, false, false, false, false] rfl rfl (any_of HT_.out (by kernel_rfl)) (fun _ _ _ h => h) (Or.inl ⟨by rfl, ?_⟩) ?_ ?_
          rotate_left
          · intro w'
            go_simp
            with_reducible rfl
          rotate_left
          · simp only [Act.put, List.setIfInBounds_toArray, List.set_cons_zero, List.set_cons_succ, i64_w, i32_w]
            rfl
          refine pure_ (i := 5) (N := some 135) (v := ?_) (a' := ?_) #[true, true, true, true, false, true, false, false, false, false, false, false, false, false, false, false, false, false, false, false, false, false, false, false, false, false, false, false, false, false, false, false, false, false, false, false, false, false, false, false, false, false, false, false, false, false, false, false, false, false, false, false, false, false, false, false, false, false, false, false] rfl rfl (any_of HT_.out (by kernel_rfl)) (fun _ _ _ h => h) (Or.inl ⟨by rfl, ?_⟩) ?_ ?_
          rotate_left
          · intro w'
            go_simp
            with_reducible rfl
          rotate_left
          · simp only [Act.put, List.setIfInBounds_toArray, List.set_cons_zero, List.set_cons_succ, i64_w, i32_w]
            rfl
          refine take_ (i := 6) (N := some 136) (v := ?_) (a' := ?_) #[true, true, true, true, false, true, true, false, false, false, false, false, false, false, false, false, false, false, false, false, false, false, false, false, false, false, false, false, false, false, false, false, false, false, false, false, false, false, false, false, false, false, false, false, false, false, false, false, false, false, false, false, false, false, false, false, false, false, false, false] rfl rfl (take_of HT_.out (by kernel_rfl)) (fun _ _ _ h => h) (Or.inl ⟨by rfl, ?_⟩) hHeld ?_ ?_
          rotate_left
          · intro w' hS_
            obtain ⟨s0, s1, s2, s3, s4, s5⟩ := hS_
            go_simp
            with_reducible rfl
          rotate_left
          · simp only [Act.put, List.setIfInBounds_toArray, List.set_cons_zero, List.set_cons_succ, i64_w, i32_w]
            rfl
          refine one_ (i := 4) (N := some 134) #[true, true, true, true, true, true, true, false, false, false, false, false, false, false, false, false, false, false, false, false, false, false, false, false, false, false, false, false, false, false, false, false, false, false, false, false, false, false, false, false, false, false, false, false, false, false, false, false, false, false, false, false, false, false, false, false, false, false, false, false] rfl rfl (one_of HT_.out (by kernel_rfl)) (by decide) (fun K hK => ?_)
          refine goes_ Try.func15 (by kernel_rfl) rfl #[.pointer (some ⟨g, 0, none⟩)] (by rfl) rfl rfl (by (try simp only [List.map_toArray, List.map_cons, List.map_nil]); first | done | rfl) ?_
          refine (HWA.out _ (HIP.out.below (below_drew1 (Below.refl _ wp)))).mono ?_
          rintro e wa ⟨v_, rfl, hR_, hb_⟩
          obtain ⟨Aa, na, rfl⟩ := Kd.R_slice hR_
          have HQa := Aside0.mk (Kd.R_reads' hR_)
          have HBwa := Aside0.mk (below_step (below_drew1 (Below.refl _ wp)) hb_)
          clear hR_ hb_
          have hswa : (fun w' => w'.cell? ⟨rb, 0, none⟩ = some (.slice A0 wl.length c0) ∧ w'.cell? ⟨rb, 1, none⟩ = some (.slice A1 ul.length c1) ∧ w'.cell? ⟨rb, 2, none⟩ = some (.slice (some ad2) al.length c2) ∧ w'.cell? ⟨wr.heap.size, 1, none⟩ = some (.int .i64 x.f1) ∧ w'.cell? ⟨wr.heap.size, 2, none⟩ = some (.string x.f2) ∧ w'.cell? (ad2.add P) = some (.int .i64 tv)) wa := by
            have h_ := HBwa.out
            exact ⟨(h_.cell (p := ⟨rb, 0, none⟩) hl6).trans hp0, (h_.cell (p := ⟨rb, 1, none⟩) hl6).trans hp1, (h_.cell (p := ⟨rb, 2, none⟩) hl6).trans hp2, (h_.cell (p := ⟨wr.heap.size, 1, none⟩) hl8).trans hp81, (h_.cell (p := ⟨wr.heap.size, 2, none⟩) hl8).trans hp82, (h_.cell (World.block_lt_of_cell? wp _ hpt)).trans hpt⟩
          refine ⟨_, rfl, ?_⟩
          refine hK.out _ _ hswa (fun hHeld => ?_)
          clear hK K
          refine norm_ (a' := ?_) ?_ ?_
          rotate_left
          · show Act.put _ (some 134) _ = _
            simp only [Act.put, List.setIfInBounds_toArray, List.set_cons_zero, List.set_cons_succ, i64_w, i32_w]
            rfl
          refine one_ (i := 7) (N := some 137) #[true, true, true, true, true, true, true, true, false, false, false, false, false, false, false, false, false, false, false, false, false, false, false, false, false, false, false, false, false, false, false, false, false, false, false, false, false, false, false, false, false, false, false, false, false, false, false, false, false, false, false, false, false, false, false, false, false, false, false, false] rfl rfl (one_of HT_.out (by kernel_rfl)) (by decide) (fun K hK => ?_)
          refine goes_ Try.func20 (by kernel_rfl) rfl #[.slice Aa wl.length na, .slice A0 wl.length c0] (by rfl) rfl rfl (by (try simp only [List.map_toArray, List.map_cons, List.map_nil]); first | done | rfl) ?_
          refine (same_eq wl Aa A0 na c0 wa HQa.out.2.2 HQa.out.2.1 (rdsC (HR0.out.below HBwa.out)) L0.out).mono ?_
          rintro e wb ⟨rfl, hb_⟩
          have HBwb := Aside0.mk (below_step HBwa.out (Drawn0.below hb_))
          clear hb_
          have hswb : (fun w' => w'.cell? ⟨rb, 0, none⟩ = some (.slice A0 wl.length c0) ∧ w'.cell? ⟨rb, 1, none⟩ = some (.slice A1 ul.length c1) ∧ w'.cell? ⟨rb, 2, none⟩ = some (.slice (some ad2) al.length c2) ∧ w'.cell? ⟨wr.heap.size, 1, none⟩ = some (.int .i64 x.f1) ∧ w'.cell? ⟨wr.heap.size, 2, none⟩ = some (.string x.f2) ∧ w'.cell? (ad2.add P) = some (.int .i64 tv)) wb := by
            have h_ := HBwb.out
            exact ⟨(h_.cell (p := ⟨rb, 0, none⟩) hl6).trans hp0, (h_.cell (p := ⟨rb, 1, none⟩) hl6).trans hp1, (h_.cell (p := ⟨rb, 2, none⟩) hl6).trans hp2, (h_.cell (p := ⟨wr.heap.size, 1, none⟩) hl8).trans hp81, (h_.cell (p := ⟨wr.heap.size, 2, none⟩) hl8).trans hp82, (h_.cell (World.block_lt_of_cell? wp _ hpt)).trans hpt⟩
          refine ⟨_, rfl, ?_⟩
          refine hK.out _ _ hswb (fun hHeld => ?_)
          clear hK K
          refine norm_ (a' := ?_) ?_ ?_
          rotate_left
          · show Act.put _ (some 137) _ = _
            simp only [Act.put, List.setIfInBounds_toArray, List.set_cons_zero, List.set_cons_succ, i64_w, i32_w]
            rfl
          refine pure_ (i := 8) (N := some 138) (v := ?_) (a' := ?_) #[true, true, true, true, true, true, true, true, true, false, false, false, false, false, false, false, false, false, false, false, false, false, false, false, false, false, false, false, false, false, false, false, false, false, false, false, false, false, false, false, false, false, false, false, false, false, false, false, false, false, false, false, false, false, false, false, false, false, false, false] rfl rfl (any_of HT_.out (by kernel_rfl)) (fun _ _ _ h => h) (Or.inl ⟨by rfl, ?_⟩) ?_ ?_
          rotate_left
          · intro w'
            go_simp
            with_reducible rfl
          rotate_left
          · simp only [Act.put, List.setIfInBounds_toArray, List.set_cons_zero, List.set_cons_succ, i64_w, i32_w]
            rfl
          refine pure_ (i := 9) (N := some 139) (v := ?_) (a' := ?_) #[true, true, true, true, true, true, true, true, true, true, false, false, false, false, false, false, false, false, false, false, false, false, false, false, false, false, false, false, false, false, false, false, false, false, false, false, false, false, false, false, false, false, false, false, false, false, false, false, false, false, false, false, false, false, false, false, false, false, false, false] rfl rfl (any_of HT_.out (by kernel_rfl)) (fun _ _ _ h => h) (Or.inl ⟨by rfl, ?_⟩) ?_ ?_
          rotate_left
          · intro w'
            go_simp
            with_reducible rfl
          rotate_left
          · simp only [Act.put, List.setIfInBounds_toArray, List.set_cons_zero, List.set_cons_succ, i64_w, i32_w]
            rfl
          refine pure_ (i := 10) (N := some 140) (v := ?_) (a' := ?_) #[true, true, true, true, true, true, true, true, true, true, true, false, false, false, false, false, false, false, false, false, false, false, false, false, false, false, false, false, false, false, false, false, false, false, false, false, false, false, false, false, false, false, false, false, false, false, false, false, false, false, false, false, false, false, false, false, false, false, false, false] rfl rfl (any_of HT_.out (by kernel_rfl)) (fun _ _ _ h => h) (Or.inl ⟨by rfl, ?_⟩) ?_ ?_
          rotate_left
          · intro w'
            go_simp
            with_reducible rfl
          rotate_left
          · simp only [Act.put, List.setIfInBounds_toArray, List.set_cons_zero, List.set_cons_succ, i64_w, i32_w]
            rfl
          refine pure_ (i := 11) (N := some 141) (v := ?_) (a' := ?_) #[true, true, true, true, true, true, true, true, true, true, true, true, false, false, false, false, false, false, false, false, false, false, false, false, false, false, false, false, false, false, false, false, false, false, false, false, false, false, false, false, false, false, false, false, false, false, false, false, false, false, false, false, false, false, false, false, false, false, false, false] rfl rfl (any_of HT_.out (by kernel_rfl)) (fun _ _ _ h => h) (Or.inl ⟨by rfl, ?_⟩) ?_ ?_
          rotate_left
          · intro w'
            go_simp
            with_reducible rfl
          rotate_left
          · simp only [Act.put, List.setIfInBounds_toArray, List.set_cons_zero, List.set_cons_succ, i64_w, i32_w]
            rfl
          refine pure_ (i := 13) (N := some 143) (v := ?_) (a' := ?_) #[true, true, true, true, true, true, true, true, true, true, true, true, false, true, false, false, false, false, false, false, false, false, false, false, false, false, false, false, false, false, false, false, false, false, false, false, false, false, false, false, false, false, false, false, false, false, false, false, false, false, false, false, false, false, false, false, false, false, false, false] rfl rfl (any_of HT_.out (by kernel_rfl)) (fun _ _ _ h => h) (Or.inl ⟨by rfl, ?_⟩) ?_ ?_
          rotate_left
          · intro w'
            go_simp
            with_reducible rfl
          rotate_left
          · simp only [Act.put, List.setIfInBounds_toArray, List.set_cons_zero, List.set_cons_succ, i64_w, i32_w]
            rfl
          refine take_ (i := 14) (N := some 144) (v := ?_) (a' := ?_) #[true, true, true, true, true, true, true, true, true, true, true, true, false, true, true, false, false, false, false, false, false, false, false, false, false, false, false, false, false, false, false, false, false, false, false, false, false, false, false, false, false, false, false, false, false, false, false, false, false, false, false, false, false, false, false, false, false, false, false, false] rfl rfl (take_of HT_.out (by kernel_rfl)) (fun _ _ _ h => h) (Or.inl ⟨by rfl, ?_⟩) hHeld ?_ ?_
          rotate_left
          · intro w' hS_
            obtain ⟨s0, s1, s2, s3, s4, s5⟩ := hS_
            go_simp
            with_reducible rfl
          rotate_left
          · simp only [Act.put, List.setIfInBounds_toArray, List.set_cons_zero, List.set_cons_succ, i64_w, i32_w]
            rfl
          refine one_ (i := 12) (N := some 142) #[true, true, true, true, true, true, true, true, true, true, true, true, true, true, true, false, false, false, false, false, false, false, false, false, false, false, false, false, false, false, false, false, false, false, false, false, false, false, false, false, false, false, false, false, false, false, false, false, false, false, false, false, false, false, false, false, false, false, false, false] rfl rfl (one_of HT_.out (by kernel_rfl)) (by decide) (fun K hK => ?_)
          refine goes_ Try.func16 (by kernel_rfl) rfl #[.pointer (some ⟨g, 0, none⟩)] (by rfl) rfl rfl (by (try simp only [List.map_toArray, List.map_cons, List.map_nil]); first | done | rfl) ?_
          refine (HUN.out _ (HIP.out.below HBwb.out)).mono ?_
          rintro e wd ⟨v_, rfl, hR_, hb_⟩
          obtain ⟨Ad, nd, rfl⟩ := Kd.R_slice hR_
          have HQd := Aside0.mk (Kd.R_reads' hR_)
          have HBwd := Aside0.mk (below_step HBwb.out hb_)
          clear hR_ hb_
          have hswd : (fun w' => w'.cell? ⟨rb, 0, none⟩ = some (.slice A0 wl.length c0) ∧ w'.cell? ⟨rb, 1, none⟩ = some (.slice A1 ul.length c1) ∧ w'.cell? ⟨rb, 2, none⟩ = some (.slice (some ad2) al.length c2) ∧ w'.cell? ⟨wr.heap.size, 1, none⟩ = some (.int .i64 x.f1) ∧ w'.cell? ⟨wr.heap.size, 2, none⟩ = some (.string x.f2) ∧ w'.cell? (ad2.add P) = some (.int .i64 tv)) wd := by
            have h_ := HBwd.out
            exact ⟨(h_.cell (p := ⟨rb, 0, none⟩) hl6).trans hp0, (h_.cell (p := ⟨rb, 1, none⟩) hl6).trans hp1, (h_.cell (p := ⟨rb, 2, none⟩) hl6).trans hp2, (h_.cell (p := ⟨wr.heap.size, 1, none⟩) hl8).trans hp81, (h_.cell (p := ⟨wr.heap.size, 2, none⟩) hl8).trans hp82, (h_.cell (World.block_lt_of_cell? wp _ hpt)).trans hpt⟩
          refine ⟨_, rfl, ?_⟩
          refine hK.out _ _ hswd (fun hHeld => ?_)
          clear hK K
          refine norm_ (a' := ?_) ?_ ?_
          rotate_left
          · show Act.put _ (some 142) _ = _
            simp only [Act.put, List.setIfInBounds_toArray, List.set_cons_zero, List.set_cons_succ, i64_w, i32_w]
            rfl
          refine one_ (i := 15) (N := some 145) #[true, true, true, true, true, true, true, true, true, true, true, true, true, true, true, true, false, false, false, false, false, false, false, false, false, false, false, false, false, false, false, false, false, false, false, false, false, false, false, false, false, false, false, false, false, false, false, false, false, false, false, false, false, false, false, false, false, false, false, false] rfl rfl (one_of HT_.out (by kernel_rfl)) (by decide) (fun K hK => ?_)
          refine goes_ Try.func20 (by kernel_rfl) rfl #[.slice Ad ul.length nd, .slice A1 ul.length c1] (by rfl) rfl rfl (by (try simp only [List.map_toArray, List.map_cons, List.map_nil]); first | done | rfl) ?_
          refine (same_eq ul Ad A1 nd c1 wd HQd.out.2.2 HQd.out.2.1 (rdsC (HR1.out.below HBwd.out)) L1.out).mono ?_
          rintro e we ⟨rfl, hb_⟩
          have HBwe := Aside0.mk (below_step HBwd.out (Drawn0.below hb_))
          clear hb_
          have hswe : (fun w' => w'.cell? ⟨rb, 0, none⟩ = some (.slice A0 wl.length c0) ∧ w'.cell? ⟨rb, 1, none⟩ = some (.slice A1 ul.length c1) ∧ w'.cell? ⟨rb, 2, none⟩ = some (.slice (some ad2) al.length c2) ∧ w'.cell? ⟨wr.heap.size, 1, none⟩ = some (.int .i64 x.f1) ∧ w'.cell? ⟨wr.heap.size, 2, none⟩ = some (.string x.f2) ∧ w'.cell? (ad2.add P) = some (.int .i64 tv)) we := by
            have h_ := HBwe.out
            exact ⟨(h_.cell (p := ⟨rb, 0, none⟩) hl6).trans hp0, (h_.cell (p := ⟨rb, 1, none⟩) hl6).trans hp1, (h_.cell (p := ⟨rb, 2, none⟩) hl6).trans hp2, (h_.cell (p := ⟨wr.heap.size, 1, none⟩) hl8).trans hp81, (h_.cell (p := ⟨wr.heap.size, 2, none⟩) hl8).trans hp82, (h_.cell (World.block_lt_of_cell? wp _ hpt)).trans hpt⟩
          refine ⟨_, rfl, ?_⟩
          refine hK.out _ _ hswe (fun hHeld => ?_)
          clear hK K
          refine norm_ (a' := ?_) ?_ ?_
          rotate_left
          · show Act.put _ (some 145) _ = _
            simp only [Act.put, List.setIfInBounds_toArray, List.set_cons_zero, List.set_cons_succ, i64_w, i32_w]
            rfl
          refine pure_ (i := 16) (N := some 146) (v := ?_) (a' := ?_) #[true, true, true, true, true, true, true, true, true, true, true, true, true, true, true, true, true, false, false, false, false, false, false, false, false, false, false, false, false, false, false, false, false, false, false, false, false, false, false, false, false, false, false, false, false, false, false, false, false, false, false, false, false, false, false, false, false, false, false, false] rfl rfl (any_of HT_.out (by kernel_rfl)) (fun _ _ _ h => h) (Or.inl ⟨by rfl, ?_⟩) ?_ ?_
          rotate_left
          · intro w'
            go_simp
            with_reducible rfl
          rotate_left
          · simp only [Act.put, List.setIfInBounds_toArray, List.set_cons_zero, List.set_cons_succ, i64_w, i32_w]
            rfl
          refine pure_ (i := 17) (N := some 147) (v := ?_) (a' := ?_) #[true, true, true, true, true, true, true, true, true, true, true, true, true, true, true, true, true, true, false, false, false, false, false, false, false, false, false, false, false, false, false, false, false, false, false, false, false, false, false, false, false, false, false, false, false, false, false, false, false, false, false, false, false, false, false, false, false, false, false, false] rfl rfl (any_of HT_.out (by kernel_rfl)) (fun _ _ _ h => h) (Or.inl ⟨by rfl, ?_⟩) ?_ ?_
          rotate_left
          · intro w'
            go_simp
            with_reducible rfl
          rotate_left
          · simp only [Act.put, List.setIfInBounds_toArray, List.set_cons_zero, List.set_cons_succ, i64_w, i32_w]
            rfl
          refine pure_ (i := 18) (N := some 148) (v := ?_) (a' := ?_) #[true, true, true, true, true, true, true, true, true, true, true, true, true, true, true, true, true, true, true, false, false, false, false, false, false, false, false, false, false, false, false, false, false, false, false, false, false, false, false, false, false, false, false, false, false, false, false, false, false, false, false, false, false, false, false, false, false, false, false, false] rfl rfl (any_of HT_.out (by kernel_rfl)) (fun _ _ _ h => h) (Or.inl ⟨by rfl, ?_⟩) ?_ ?_
          rotate_left
          · intro w'
            go_simp
            with_reducible rfl
          rotate_left
          · simp only [Act.put, List.setIfInBounds_toArray, List.set_cons_zero, List.set_cons_succ, i64_w, i32_w]
            rfl
          refine pure_ (i := 19) (N := some 149) (v := ?_) (a' := ?_) #[true, true, true, true, true, true, true, true, true, true, true, true, true, true, true, true, true, true, true, true, false, false, false, false, false, false, false, false, false, false, false, false, false, false, false, false, false, false, false, false, false, false, false, false, false, false, false, false, false, false, false, false, false, false, false, false, false, false, false, false] rfl rfl (any_of HT_.out (by kernel_rfl)) (fun _ _ _ h => h) (Or.inl ⟨by rfl, ?_⟩) ?_ ?_
          rotate_left
          · intro w'
            go_simp
            with_reducible rfl
          rotate_left
          · simp only [Act.put, List.setIfInBounds_toArray, List.set_cons_zero, List.set_cons_succ, i64_w, i32_w]
            rfl
          refine pure_ (i := 20) (N := some 150) (v := ?_) (a' := ?_) #[true, true, true, true, true, true, true, true, true, true, true, true, true, true, true, true, true, true, true, true, true, false, false, false, false, false, false, false, false, false, false, false, false, false, false, false, false, false, false, false, false, false, false, false, false, false, false, false, false, false, false, false, false, false, false, false, false, false, false, false] rfl rfl (any_of HT_.out (by kernel_rfl)) (fun _ _ _ h => h) (Or.inl ⟨by rfl, ?_⟩) ?_ ?_
          rotate_left
          · intro w'
            go_simp
            with_reducible rfl
          rotate_left
          · simp only [Act.put, List.setIfInBounds_toArray, List.set_cons_zero, List.set_cons_succ, i64_w, i32_w]
            rfl
          refine pure_ (i := 24) (N := some 154) (v := ?_) (a' := ?_) #[true, true, true, true, true, true, true, true, true, true, true, true, true, true, true, true, true, true, true, true, true, false, false, false, true, false, false, false, false, false, false, false, false, false, false, false, false, false, false, false, false, false, false, false, false, false, false, false, false, false, false, false, false, false, false, false, false, false, false, false] rfl rfl (any_of HT_.out (by kernel_rfl)) (fun _ _ _ h => h) (Or.inl ⟨by rfl, ?_⟩) ?_ ?_
          rotate_left
          · intro w'
            go_simp
            with_reducible rfl
          rotate_left
          · simp only [Act.put, List.setIfInBounds_toArray, List.set_cons_zero, List.set_cons_succ, i64_w, i32_w]
            rfl
          refine take_ (i := 21) (N := some 151) (v := ?_) (a' := ?_) #[true, true, true, true, true, true, true, true, true, true, true, true, true, true, true, true, true, true, true, true, true, true, false, false, true, false, false, false, false, false, false, false, false, false, false, false, false, false, false, false, false, false, false, false, false, false, false, false, false, false, false, false, false, false, false, false, false, false, false, false] rfl rfl (take_of HT_.out (by kernel_rfl)) (fun _ _ _ h => h) (Or.inl ⟨by rfl, ?_⟩) hHeld ?_ ?_
          rotate_left
          · intro w' hS_
            obtain ⟨s0, s1, s2, s3, s4, s5⟩ := hS_
            go_simp
            with_reducible rfl
          rotate_left
          · simp only [Act.put, List.setIfInBounds_toArray, List.set_cons_zero, List.set_cons_succ, i64_w, i32_w]
            rfl
          refine take_ (i := 23) (N := some 153) (v := ?_) (a' := ?_) #[true, true, true, true, true, true, true, true, true, true, true, true, true, true, true, true, true, true, true, true, true, true, false, true, true, false, false, false, false, false, false, false, false, false, false, false, false, false, false, false, false, false, false, false, false, false, false, false, false, false, false, false, false, false, false, false, false, false, false, false] rfl rfl (take_of HT_.out (by kernel_rfl)) (fun _ _ _ h => h) (Or.inl ⟨by rfl, ?_⟩) hHeld ?_ ?_
          rotate_left
          · intro w' hS_
            obtain ⟨s0, s1, s2, s3, s4, s5⟩ := hS_
            go_simp
            with_reducible rfl
          rotate_left
          · simp only [Act.put, List.setIfInBounds_toArray, List.set_cons_zero, List.set_cons_succ, i64_w, i32_w]
            rfl
          refine take_ (i := 25) (N := some 155) (v := ?_) (a' := ?_) #[true, true, true, true, true, true, true, true, true, true, true, true, true, true, true, true, true, true, true, true, true, true, false, true, true, true, false, false, false, false, false, false, false, false, false, false, false, false, false, false, false, false, false, false, false, false, false, false, false, false, false, false, false, false, false, false, false, false, false, false] rfl rfl (take_of HT_.out (by kernel_rfl)) (fun _ _ _ h => h) (Or.inl ⟨by rfl, ?_⟩) hHeld ?_ ?_
          rotate_left
          · intro w' hS_
            obtain ⟨s0, s1, s2, s3, s4, s5⟩ := hS_
            go_simp
            with_reducible rfl
          rotate_left
          · simp only [Act.put, List.setIfInBounds_toArray, List.set_cons_zero, List.set_cons_succ, i64_w, i32_w]
            rfl
          refine one_ (i := 22) (N := some 152) #[true, true, true, true, true, true, true, true, true, true, true, true, true, true, true, true, true, true, true, true, true, true, true, true, true, true, false, false, false, false, false, false, false, false, false, false, false, false, false, false, false, false, false, false, false, false, false, false, false, false, false, false, false, false, false, false, false, false, false, false] rfl rfl (one_of HT_.out (by kernel_rfl)) (by decide) (fun K hK => ?_)
          refine goes_ Try.func19 (by kernel_rfl) rfl #[.pointer (some ⟨g, 0, none⟩), .int .i64 x.f1] (by rfl) rfl rfl (by (try simp only [List.map_toArray, List.map_cons, List.map_nil]); first | done | rfl) ?_
          refine (HDU.out _ (HIP.out.below HBwe.out)).mono ?_
          rintro e wf ⟨v_, rfl, hR_, hb_⟩
          obtain ⟨Af, nf, rfl⟩ := Kd.R_slice hR_
          have HQf := Aside0.mk (Kd.R_reads' hR_)
          have HBwf := Aside0.mk (below_step HBwe.out hb_)
          clear hR_ hb_
          have hswf : (fun w' => w'.cell? ⟨rb, 0, none⟩ = some (.slice A0 wl.length c0) ∧ w'.cell? ⟨rb, 1, none⟩ = some (.slice A1 ul.length c1) ∧ w'.cell? ⟨rb, 2, none⟩ = some (.slice (some ad2) al.length c2) ∧ w'.cell? ⟨wr.heap.size, 1, none⟩ = some (.int .i64 x.f1) ∧ w'.cell? ⟨wr.heap.size, 2, none⟩ = some (.string x.f2) ∧ w'.cell? (ad2.add P) = some (.int .i64 tv)) wf := by
            have h_ := HBwf.out
            exact ⟨(h_.cell (p := ⟨rb, 0, none⟩) hl6).trans hp0, (h_.cell (p := ⟨rb, 1, none⟩) hl6).trans hp1, (h_.cell (p := ⟨rb, 2, none⟩) hl6).trans hp2, (h_.cell (p := ⟨wr.heap.size, 1, none⟩) hl8).trans hp81, (h_.cell (p := ⟨wr.heap.size, 2, none⟩) hl8).trans hp82, (h_.cell (World.block_lt_of_cell? wp _ hpt)).trans hpt⟩
          refine ⟨_, rfl, ?_⟩
          refine hK.out _ _ hswf (fun hHeld => ?_)
          clear hK K
          refine norm_ (a' := ?_) ?_ ?_
          rotate_left
          · show Act.put _ (some 152) _ = _
            simp only [Act.put, List.setIfInBounds_toArray, List.set_cons_zero, List.set_cons_succ, i64_w, i32_w]
            rfl
          refine one_ (i := 26) (N := some 156) #[true, true, true, true, true, true, true, true, true, true, true, true, true, true, true, true, true, true, true, true, true, true, true, true, true, true, true, false, false, false, false, false, false, false, false, false, false, false, false, false, false, false, false, false, false, false, false, false, false, false, false, false, false, false, false, false, false, false, false, false] rfl rfl (one_of HT_.out (by kernel_rfl)) (by decide) (fun K hK => ?_)
          refine goes_ Try.func29 (by kernel_rfl) rfl #[.agg #[.slice A0 wl.length c0, .slice A1 ul.length c1, .slice (some ad2) al.length c2], .int .i64 x.f1] (by rfl) rfl rfl (by (try simp only [List.map_toArray, List.map_cons, List.map_nil]); first | done | rfl) ?_
          refine (HRD.out wf _ _ _ (HR0.out.below HBwf.out) (HR1.out.below HBwf.out) (HR2.out.below HBwf.out)).mono ?_
          rintro e wg ⟨v_, rfl, hR_, hb_⟩
          obtain ⟨Ag, ng, rfl⟩ := Kd.R_slice hR_
          have HQg := Aside0.mk (Kd.R_reads' hR_)
          have HQf2 := Aside0.mk (Kd.C_below HQf.out.2.2 hb_)
          have HBwg := Aside0.mk (below_step HBwf.out hb_)
          clear hR_ hb_
          have hswg : (fun w' => w'.cell? ⟨rb, 0, none⟩ = some (.slice A0 wl.length c0) ∧ w'.cell? ⟨rb, 1, none⟩ = some (.slice A1 ul.length c1) ∧ w'.cell? ⟨rb, 2, none⟩ = some (.slice (some ad2) al.length c2) ∧ w'.cell? ⟨wr.heap.size, 1, none⟩ = some (.int .i64 x.f1) ∧ w'.cell? ⟨wr.heap.size, 2, none⟩ = some (.string x.f2) ∧ w'.cell? (ad2.add P) = some (.int .i64 tv)) wg := by
            have h_ := HBwg.out
            exact ⟨(h_.cell (p := ⟨rb, 0, none⟩) hl6).trans hp0, (h_.cell (p := ⟨rb, 1, none⟩) hl6).trans hp1, (h_.cell (p := ⟨rb, 2, none⟩) hl6).trans hp2, (h_.cell (p := ⟨wr.heap.size, 1, none⟩) hl8).trans hp81, (h_.cell (p := ⟨wr.heap.size, 2, none⟩) hl8).trans hp82, (h_.cell (World.block_lt_of_cell? wp _ hpt)).trans hpt⟩
          refine ⟨_, rfl, ?_⟩
          refine hK.out _ _ hswg (fun hHeld => ?_)
          clear hK K
          refine norm_ (a' := ?_) ?_ ?_
          rotate_left
          · show Act.put _ (some 156) _ = _
            simp only [Act.put, List.setIfInBounds_toArray, List.set_cons_zero, List.set_cons_succ, i64_w, i32_w]
            rfl
          refine one_ (i := 27) (N := some 157) #[true, true, true, true, true, true, true, true, true, true, true, true, true, true, true, true, true, true, true, true, true, true, true, true, true, true, true, true, false, false, false, false, false, false, false, false, false, false, false, false, false, false, false, false, false, false, false, false, false, false, false, false, false, false, false, false, false, false, false, false] rfl rfl (one_of HT_.out (by kernel_rfl)) (by decide) (fun K hK => ?_)
          refine goes_ Try.func20 (by kernel_rfl) rfl #[.slice Af du.length nf, .slice Ag du.length ng] (by rfl) rfl rfl (by (try simp only [List.map_toArray, List.map_cons, List.map_nil]); first | done | rfl) ?_
          refine (same_eq du Af Ag nf ng wg HQf2.out HQf.out.2.1 HQg.out.2.2 HQg.out.2.1).mono ?_
          rintro e wh ⟨rfl, hb_⟩
          have HBwh := Aside0.mk (below_step HBwg.out (Drawn0.below hb_))
          clear hb_
          have hswh : (fun w' => w'.cell? ⟨rb, 0, none⟩ = some (.slice A0 wl.length c0) ∧ w'.cell? ⟨rb, 1, none⟩ = some (.slice A1 ul.length c1) ∧ w'.cell? ⟨rb, 2, none⟩ = some (.slice (some ad2) al.length c2) ∧ w'.cell? ⟨wr.heap.size, 1, none⟩ = some (.int .i64 x.f1) ∧ w'.cell? ⟨wr.heap.size, 2, none⟩ = some (.string x.f2) ∧ w'.cell? (ad2.add P) = some (.int .i64 tv)) wh := by
            have h_ := HBwh.out
            exact ⟨(h_.cell (p := ⟨rb, 0, none⟩) hl6).trans hp0, (h_.cell (p := ⟨rb, 1, none⟩) hl6).trans hp1, (h_.cell (p := ⟨rb, 2, none⟩) hl6).trans hp2, (h_.cell (p := ⟨wr.heap.size, 1, none⟩) hl8).trans hp81, (h_.cell (p := ⟨wr.heap.size, 2, none⟩) hl8).trans hp82, (h_.cell (World.block_lt_of_cell? wp _ hpt)).trans hpt⟩
          refine ⟨_, rfl, ?_⟩
          refine hK.out _ _ hswh (fun hHeld => ?_)
          clear hK K
          refine norm_ (a' := ?_) ?_ ?_
          rotate_left
          · show Act.put _ (some 157) _ = _
            simp only [Act.put, List.setIfInBounds_toArray, List.set_cons_zero, List.set_cons_succ, i64_w, i32_w]
            rfl
          refine pure_ (i := 28) (N := some 158) (v := ?_) (a' := ?_) #[true, true, true, true, true, true, true, true, true, true, true, true, true, true, true, true, true, true, true, true, true, true, true, true, true, true, true, true, true, false, false, false, false, false, false, false, false, false, false, false, false, false, false, false, false, false, false, false, false, false, false, false, false, false, false, false, false, false, false, false] rfl rfl (any_of HT_.out (by kernel_rfl)) (fun _ _ _ h => h) (Or.inl ⟨by rfl, ?_⟩) ?_ ?_
          rotate_left
          · intro w'
            go_simp
            with_reducible rfl
          rotate_left
          · simp only [Act.put, List.setIfInBounds_toArray, List.set_cons_zero, List.set_cons_succ, i64_w, i32_w]
            rfl
          refine pure_ (i := 29) (N := some 159) (v := ?_) (a' := ?_) #[true, true, true, true, true, true, true, true, true, true, true, true, true, true, true, true, true, true, true, true, true, true, true, true, true, true, true, true, true, true, false, false, false, false, false, false, false, false, false, false, false, false, false, false, false, false, false, false, false, false, false, false, false, false, false, false, false, false, false, false] rfl rfl (any_of HT_.out (by kernel_rfl)) (fun _ _ _ h => h) (Or.inl ⟨by rfl, ?_⟩) ?_ ?_
          rotate_left
          · intro w'
            go_simp
            with_reducible rfl
          rotate_left
          · simp only [Act.put, List.setIfInBounds_toArray, List.set_cons_zero, List.set_cons_succ, i64_w, i32_w]
            rfl
          refine pure_ (i := 30) (N := some 160) (v := ?_) (a' := ?_) #[true, true, true, true, true, true, true, true, true, true, true, true, true, true, true, true, true, true, true, true, true, true, true, true, true, true, true, true, true, true, true, false, false, false, false, false, false, false, false, false, false, false, false, false, false, false, false, false, false, false, false, false, false, false, false, false, false, false, false, false] rfl rfl (any_of HT_.out (by kernel_rfl)) (fun _ _ _ h => h) (Or.inl ⟨by rfl, ?_⟩) ?_ ?_
          rotate_left
          · intro w'
            go_simp
            with_reducible rfl
          rotate_left
          · simp only [Act.put, List.setIfInBounds_toArray, List.set_cons_zero, List.set_cons_succ, i64_w, i32_w]
            rfl
          refine pure_ (i := 31) (N := some 161) (v := ?_) (a' := ?_) #[true, true, true, true, true, true, true, true, true, true, true, true, true, true, true, true, true, true, true, true, true, true, true, true, true, true, true, true, true, true, true, true, false, false, false, false, false, false, false, false, false, false, false, false, false, false, false, false, false, false, false, false, false, false, false, false, false, false, false, false] rfl rfl (any_of HT_.out (by kernel_rfl)) (fun _ _ _ h => h) (Or.inl ⟨by rfl, ?_⟩) ?_ ?_
          rotate_left
          · intro w'
            go_simp
            with_reducible rfl
          rotate_left
          · simp only [Act.put, List.setIfInBounds_toArray, List.set_cons_zero, List.set_cons_succ, i64_w, i32_w]
            rfl
          refine pure_ (i := 32) (N := some 162) (v := ?_) (a' := ?_) #[true, true, true, true, true, true, true, true, true, true, true, true, true, true, true, true, true, true, true, true, true, true, true, true, true, true, true, true, true, true, true, true, true, false, false, false, false, false, false, false, false, false, false, false, false, false, false, false, false, false, false, false, false, false, false, false, false, false, false, false] rfl rfl (any_of HT_.out (by kernel_rfl)) (fun _ _ _ h => h) (Or.inl ⟨by rfl, ?_⟩) ?_ ?_
          rotate_left
          · intro w'
            go_simp
            with_reducible rfl
          rotate_left
          · simp only [Act.put, List.setIfInBounds_toArray, List.set_cons_zero, List.set_cons_succ, i64_w, i32_w]
            rfl
          refine pure_ (i := 35) (N := some 165) (v := ?_) (a' := ?_) #[true, true, true, true, true, true, true, true, true, true, true, true, true, true, true, true, true, true, true, true, true, true, true, true, true, true, true, true, true, true, true, true, true, false, false, true, false, false, false, false, false, false, false, false, false, false, false, false, false, false, false, false, false, false, false, false, false, false, false, false] rfl rfl (any_of HT_.out (by kernel_rfl)) (fun _ _ _ h => h) (Or.inl ⟨by rfl, ?_⟩) ?_ ?_
          rotate_left
          · intro w'
            go_simp
            with_reducible rfl
          rotate_left
          · simp only [Act.put, List.setIfInBounds_toArray, List.set_cons_zero, List.set_cons_succ, i64_w, i32_w]
            rfl
          refine pure_ (i := 37) (N := some 167) (v := ?_) (a' := ?_) #[true, true, true, true, true, true, true, true, true, true, true, true, true, true, true, true, true, true, true, true, true, true, true, true, true, true, true, true, true, true, true, true, true, false, false, true, false, true, false, false, false, false, false, false, false, false, false, false, false, false, false, false, false, false, false, false, false, false, false, false] rfl rfl (any_of HT_.out (by kernel_rfl)) (fun _ _ _ h => h) (Or.inl ⟨by rfl, ?_⟩) ?_ ?_
          rotate_left
          · intro w'
            go_simp
            with_reducible rfl
          rotate_left
          · simp only [Act.put, List.setIfInBounds_toArray, List.set_cons_zero, List.set_cons_succ, i64_w, i32_w]
            rfl
          refine take_ (i := 33) (N := some 163) (v := ?_) (a' := ?_) #[true, true, true, true, true, true, true, true, true, true, true, true, true, true, true, true, true, true, true, true, true, true, true, true, true, true, true, true, true, true, true, true, true, true, false, true, false, true, false, false, false, false, false, false, false, false, false, false, false, false, false, false, false, false, false, false, false, false, false, false] rfl rfl (take_of HT_.out (by kernel_rfl)) (fun _ _ _ h => h) (Or.inl ⟨by rfl, ?_⟩) hHeld ?_ ?_
          rotate_left
          · intro w' hS_
            obtain ⟨s0, s1, s2, s3, s4, s5⟩ := hS_
            go_simp
            with_reducible rfl
          rotate_left
          · simp only [Act.put, List.setIfInBounds_toArray, List.set_cons_zero, List.set_cons_succ, i64_w, i32_w]
            rfl
          refine take_ (i := 36) (N := some 166) (v := ?_) (a' := ?_) #[true, true, true, true, true, true, true, true, true, true, true, true, true, true, true, true, true, true, true, true, true, true, true, true, true, true, true, true, true, true, true, true, true, true, false, true, true, true, false, false, false, false, false, false, false, false, false, false, false, false, false, false, false, false, false, false, false, false, false, false] rfl rfl (take_of HT_.out (by kernel_rfl)) (fun _ _ _ h => h) (Or.inl ⟨by rfl, ?_⟩) hHeld ?_ ?_
          rotate_left
          · intro w' hS_
            obtain ⟨s0, s1, s2, s3, s4, s5⟩ := hS_
            go_simp
            with_reducible rfl
          rotate_left
          · simp only [Act.put, List.setIfInBounds_toArray, List.set_cons_zero, List.set_cons_succ, i64_w, i32_w]
            rfl
          refine take_ (i := 38) (N := some 168) (v := ?_) (a' := ?_) #[true, true, true, true, true, true, true, true, true, true, true, true, true, true, true, true, true, true, true, true, true, true, true, true, true, true, true, true, true, true, true, true, true, true, false, true, true, true, true, false, false, false, false, false, false, false, false, false, false, false, false, false, false, false, false, false, false, false, false, false] rfl rfl (take_of HT_.out (by kernel_rfl)) (fun _ _ _ h => h) (Or.inl ⟨by rfl, ?_⟩) hHeld ?_ ?_
          rotate_left
          · intro w' hS_
            obtain ⟨s0, s1, s2, s3, s4, s5⟩ := hS_
            go_simp
            with_reducible rfl
          rotate_left
          · simp only [Act.put, List.setIfInBounds_toArray, List.set_cons_zero, List.set_cons_succ, i64_w, i32_w]
            rfl
          refine one_ (i := 34) (N := some 164) #[true, true, true, true, true, true, true, true, true, true, true, true, true, true, true, true, true, true, true, true, true, true, true, true, true, true, true, true, true, true, true, true, true, true, true, true, true, true, true, false, false, false, false, false, false, false, false, false, false, false, false, false, false, false, false, false, false, false, false, false] rfl rfl (one_of HT_.out (by kernel_rfl)) (by decide) (fun K hK => ?_)
          refine goes_ Try.func30 (by kernel_rfl) rfl #[.pointer (some ⟨g, 0, none⟩), .string x.f2] (by rfl) rfl rfl (by (try simp only [List.map_toArray, List.map_cons, List.map_nil]); first | done | rfl) ?_
          refine (HAH.out _ (HIP.out.below HBwh.out)).mono ?_
          rintro e wi ⟨rfl, hb_⟩
          have HBwi := Aside0.mk (below_step HBwh.out hb_)
          clear hb_
          have hswi : (fun w' => w'.cell? ⟨rb, 0, none⟩ = some (.slice A0 wl.length c0) ∧ w'.cell? ⟨rb, 1, none⟩ = some (.slice A1 ul.length c1) ∧ w'.cell? ⟨rb, 2, none⟩ = some (.slice (some ad2) al.length c2) ∧ w'.cell? ⟨wr.heap.size, 1, none⟩ = some (.int .i64 x.f1) ∧ w'.cell? ⟨wr.heap.size, 2, none⟩ = some (.string x.f2) ∧ w'.cell? (ad2.add P) = some (.int .i64 tv)) wi := by
            have h_ := HBwi.out
            exact ⟨(h_.cell (p := ⟨rb, 0, none⟩) hl6).trans hp0, (h_.cell (p := ⟨rb, 1, none⟩) hl6).trans hp1, (h_.cell (p := ⟨rb, 2, none⟩) hl6).trans hp2, (h_.cell (p := ⟨wr.heap.size, 1, none⟩) hl8).trans hp81, (h_.cell (p := ⟨wr.heap.size, 2, none⟩) hl8).trans hp82, (h_.cell (World.block_lt_of_cell? wp _ hpt)).trans hpt⟩
          refine ⟨_, rfl, ?_⟩
          refine hK.out _ _ hswi (fun hHeld => ?_)
          clear hK K
          refine norm_ (a' := ?_) ?_ ?_
          rotate_left
          · show Act.put _ (some 164) _ = _
            simp only [Act.put, List.setIfInBounds_toArray, List.set_cons_zero, List.set_cons_succ, i64_w, i32_w]
            rfl
          refine one_ (i := 39) (N := some 169) #[true, true, true, true, true, true, true, true, true, true, true, true, true, true, true, true, true, true, true, true, true, true, true, true, true, true, true, true, true, true, true, true, true, true, true, true, true, true, true, true, false, false, false, false, false, false, false, false, false, false, false, false, false, false, false, false, false, false, false, false] rfl rfl (one_of HT_.out (by kernel_rfl)) (by decide) (fun K hK => ?_)
          refine goes_ Try.func27 (by kernel_rfl) rfl #[.slice A0 wl.length c0, .string x.f2] (by rfl) rfl rfl (by (try simp only [List.map_toArray, List.map_cons, List.map_nil]); first | done | rfl) ?_
          refine (HPW.out wi (rdsC (HR0.out.below HBwi.out)) L0.out).mono ?_
          rintro e wj ⟨rfl, hb_⟩
          have HBwj := Aside0.mk (below_step HBwi.out (Drawn0.below hb_))
          clear hb_
          have hswj : (fun w' => w'.cell? ⟨rb, 0, none⟩ = some (.slice A0 wl.length c0) ∧ w'.cell? ⟨rb, 1, none⟩ = some (.slice A1 ul.length c1) ∧ w'.cell? ⟨rb, 2, none⟩ = some (.slice (some ad2) al.length c2) ∧ w'.cell? ⟨wr.heap.size, 1, none⟩ = some (.int .i64 x.f1) ∧ w'.cell? ⟨wr.heap.size, 2, none⟩ = some (.string x.f2) ∧ w'.cell? (ad2.add P) = some (.int .i64 tv)) wj := by
            have h_ := HBwj.out
            exact ⟨(h_.cell (p := ⟨rb, 0, none⟩) hl6).trans hp0, (h_.cell (p := ⟨rb, 1, none⟩) hl6).trans hp1, (h_.cell (p := ⟨rb, 2, none⟩) hl6).trans hp2, (h_.cell (p := ⟨wr.heap.size, 1, none⟩) hl8).trans hp81, (h_.cell (p := ⟨wr.heap.size, 2, none⟩) hl8).trans hp82, (h_.cell (World.block_lt_of_cell? wp _ hpt)).trans hpt⟩
          refine ⟨_, rfl, ?_⟩
          refine hK.out _ _ hswj (fun hHeld => ?_)
          clear hK K
          refine norm_ (a' := ?_) ?_ ?_
          rotate_left
          · show Act.put _ (some 169) _ = _
            simp only [Act.put, List.setIfInBounds_toArray, List.set_cons_zero, List.set_cons_succ, i64_w, i32_w]
            rfl
          refine pure_ (i := 40) (N := some 170) (v := ?_) (a' := ?_) #[true, true, true, true, true, true, true, true, true, true, true, true, true, true, true, true, true, true, true, true, true, true, true, true, true, true, true, true, true, true, true, true, true, true, true, true, true, true, true, true, true, false, false, false, false, false, false, false, false, false, false, false, false, false, false, false, false, false, false, false] rfl rfl (any_of HT_.out (by kernel_rfl)) (fun _ _ _ h => h) (Or.inl ⟨by rfl, ?_⟩) ?_ ?_
          rotate_left
          · intro w'
            go_simp
            with_reducible rfl
          rotate_left
          · simp only [Act.put, List.setIfInBounds_toArray, List.set_cons_zero, List.set_cons_succ, i64_w, i32_w]
            rfl
          refine pure_ (i := 41) (N := some 171) (v := ?_) (a' := ?_) #[true, true, true, true, true, true, true, true, true, true, true, true, true, true, true, true, true, true, true, true, true, true, true, true, true, true, true, true, true, true, true, true, true, true, true, true, true, true, true, true, true, true, false, false, false, false, false, false, false, false, false, false, false, false, false, false, false, false, false, false] rfl rfl (any_of HT_.out (by kernel_rfl)) (fun _ _ _ h => h) (Or.inl ⟨by rfl, ?_⟩) ?_ ?_
          rotate_left
          · intro w'
            go_simp
            with_reducible rfl
          rotate_left
          · simp only [Act.put, List.setIfInBounds_toArray, List.set_cons_zero, List.set_cons_succ, i64_w, i32_w]
            rfl
          refine pure_ (i := 42) (N := some 172) (v := ?_) (a' := ?_) #[true, true, true, true, true, true, true, true, true, true, true, true, true, true, true, true, true, true, true, true, true, true, true, true, true, true, true, true, true, true, true, true, true, true, true, true, true, true, true, true, true, true, true, false, false, false, false, false, false, false, false, false, false, false, false, false, false, false, false, false] rfl rfl (any_of HT_.out (by kernel_rfl)) (fun _ _ _ h => h) (Or.inl ⟨by rfl, ?_⟩) ?_ ?_
          rotate_left
          · intro w'
            go_simp
            with_reducible rfl
          rotate_left
          · simp only [Act.put, List.setIfInBounds_toArray, List.set_cons_zero, List.set_cons_succ, i64_w, i32_w]
            rfl
          refine pure_ (i := 43) (N := some 173) (v := ?_) (a' := ?_) #[true, true, true, true, true, true, true, true, true, true, true, true, true, true, true, true, true, true, true, true, true, true, true, true, true, true, true, true, true, true, true, true, true, true, true, true, true, true, true, true, true, true, true, true, false, false, false, false, false, false, false, false, false, false, false, false, false, false, false, false] rfl rfl (any_of HT_.out (by kernel_rfl)) (fun _ _ _ h => h) (Or.inl ⟨by rfl, ?_⟩) ?_ ?_
          rotate_left
          · intro w'
            go_simp
            with_reducible rfl
          rotate_left
          · simp only [Act.put, List.setIfInBounds_toArray, List.set_cons_zero, List.set_cons_succ, i64_w, i32_w]
            rfl
          refine pure_ (i := 44) (N := some 174) (v := ?_) (a' := ?_) #[true, true, true, true, true, true, true, true, true, true, true, true, true, true, true, true, true, true, true, true, true, true, true, true, true, true, true, true, true, true, true, true, true, true, true, true, true, true, true, true, true, true, true, true, true, false, false, false, false, false, false, false, false, false, false, false, false, false, false, false] rfl rfl (any_of HT_.out (by kernel_rfl)) (fun _ _ _ h => h) (Or.inl ⟨by rfl, ?_⟩) ?_ ?_
          rotate_left
          · intro w'
            go_simp
            with_reducible rfl
          rotate_left
          · simp only [Act.put, List.setIfInBounds_toArray, List.set_cons_zero, List.set_cons_succ, i64_w, i32_w]
            rfl
          refine pure_ (i := 45) (N := some 175) (v := ?_) (a' := ?_) #[true, true, true, true, true, true, true, true, true, true, true, true, true, true, true, true, true, true, true, true, true, true, true, true, true, true, true, true, true, true, true, true, true, true, true, true, true, true, true, true, true, true, true, true, true, true, false, false, false, false, false, false, false, false, false, false, false, false, false, false] rfl rfl (any_of HT_.out (by kernel_rfl)) (fun _ _ _ h => h) (Or.inl ⟨by rfl, ?_⟩) ?_ ?_
          rotate_left
          · intro w'
            go_simp
            with_reducible rfl
          rotate_left
          · simp only [Act.put, List.setIfInBounds_toArray, List.set_cons_zero, List.set_cons_succ, i64_w, i32_w]
            rfl
          refine pure_ (i := 46) (N := some 176) (v := ?_) (a' := ?_) #[true, true, true, true, true, true, true, true, true, true, true, true, true, true, true, true, true, true, true, true, true, true, true, true, true, true, true, true, true, true, true, true, true, true, true, true, true, true, true, true, true, true, true, true, true, true, true, false, false, false, false, false, false, false, false, false, false, false, false, false] rfl rfl (any_of HT_.out (by kernel_rfl)) (fun _ _ _ h => h) (Or.inl ⟨by rfl, ?_⟩) ?_ ?_
          rotate_left
          · intro w'
            go_simp
            with_reducible rfl
          rotate_left
          · simp only [Act.put, List.setIfInBounds_toArray, List.set_cons_zero, List.set_cons_succ, i64_w, i32_w]
            rfl
          refine pure_ (i := 47) (N := some 177) (v := ?_) (a' := ?_) #[true, true, true, true, true, true, true, true, true, true, true, true, true, true, true, true, true, true, true, true, true, true, true, true, true, true, true, true, true, true, true, true, true, true, true, true, true, true, true, true, true, true, true, true, true, true, true, true, false, false, false, false, false, false, false, false, false, false, false, false] rfl rfl (any_of HT_.out (by kernel_rfl)) (fun _ _ _ h => h) (Or.inl ⟨by rfl, ?_⟩) ?_ ?_
          rotate_left
          · intro w'
            go_simp
            with_reducible rfl
          rotate_left
          · simp only [Act.put, List.setIfInBounds_toArray, List.set_cons_zero, List.set_cons_succ, i64_w, i32_w]
            rfl
          refine pure_ (i := 48) (N := some 178) (v := ?_) (a' := ?_) #[true, true, true, true, true, true, true, true, true, true, true, true, true, true, true, true, true, true, true, true, true, true, true, true, true, true, true, true, true, true, true, true, true, true, true, true, true, true, true, true, true, true, true, true, true, true, true, true, true, false, false, false, false, false, false, false, false, false, false, false] rfl rfl (any_of HT_.out (by kernel_rfl)) (fun _ _ _ h => h) (Or.inl ⟨by rfl, ?_⟩) ?_ ?_
          rotate_left
          · intro w'
            go_simp
            with_reducible rfl
          rotate_left
          · simp only [Act.put, List.setIfInBounds_toArray, List.set_cons_zero, List.set_cons_succ, i64_w, i32_w]
            rfl
          refine pure_ (i := 49) (N := some 179) (v := ?_) (a' := ?_) #[true, true, true, true, true, true, true, true, true, true, true, true, true, true, true, true, true, true, true, true, true, true, true, true, true, true, true, true, true, true, true, true, true, true, true, true, true, true, true, true, true, true, true, true, true, true, true, true, true, true, false, false, false, false, false, false, false, false, false, false] rfl rfl (any_of HT_.out (by kernel_rfl)) (fun _ _ _ h => h) (Or.inl ⟨by rfl, ?_⟩) ?_ ?_
          rotate_left
          · intro w'
            go_simp
            with_reducible rfl
          rotate_left
          · simp only [Act.put, List.setIfInBounds_toArray, List.set_cons_zero, List.set_cons_succ, i64_w, i32_w]
            rfl
          refine pure_ (i := 50) (N := some 180) (v := ?_) (a' := ?_) #[true, true, true, true, true, true, true, true, true, true, true, true, true, true, true, true, true, true, true, true, true, true, true, true, true, true, true, true, true, true, true, true, true, true, true, true, true, true, true, true, true, true, true, true, true, true, true, true, true, true, true, false, false, false, false, false, false, false, false, false] rfl rfl (any_of HT_.out (by kernel_rfl)) (fun _ _ _ h => h) (Or.inl ⟨by rfl, ?_⟩) ?_ ?_
          rotate_left
          · intro w'
            go_simp
            with_reducible rfl
          rotate_left
          · simp only [Act.put, List.setIfInBounds_toArray, List.set_cons_zero, List.set_cons_succ, i64_w, i32_w]
            rfl
          refine pure_ (i := 51) (N := some 181) (v := ?_) (a' := ?_) #[true, true, true, true, true, true, true, true, true, true, true, true, true, true, true, true, true, true, true, true, true, true, true, true, true, true, true, true, true, true, true, true, true, true, true, true, true, true, true, true, true, true, true, true, true, true, true, true, true, true, true, true, false, false, false, false, false, false, false, false] rfl rfl (any_of HT_.out (by kernel_rfl)) (fun _ _ _ h => h) (Or.inl ⟨by rfl, ?_⟩) ?_ ?_
          rotate_left
          · intro w'
            go_simp
            with_reducible rfl
          rotate_left
          · simp only [Act.put, List.setIfInBounds_toArray, List.set_cons_zero, List.set_cons_succ, i64_w, i32_w]
            rfl
          refine pure_ (i := 52) (N := some 182) (v := ?_) (a' := ?_) #[true, true, true, true, true, true, true, true, true, true, true, true, true, true, true, true, true, true, true, true, true, true, true, true, true, true, true, true, true, true, true, true, true, true, true, true, true, true, true, true, true, true, true, true, true, true, true, true, true, true, true, true, true, false, false, false, false, false, false, false] rfl rfl (any_of HT_.out (by kernel_rfl)) (fun _ _ _ h => h) (Or.inl ⟨by rfl, ?_⟩) ?_ ?_
          rotate_left
          · intro w'
            go_simp
            with_reducible rfl
          rotate_left
          · simp only [Act.put, List.setIfInBounds_toArray, List.set_cons_zero, List.set_cons_succ, i64_w, i32_w]
            rfl
          refine pure_ (i := 54) (N := some 184) (v := ?_) (a' := ?_) #[true, true, true, true, true, true, true, true, true, true, true, true, true, true, true, true, true, true, true, true, true, true, true, true, true, true, true, true, true, true, true, true, true, true, true, true, true, true, true, true, true, true, true, true, true, true, true, true, true, true, true, true, true, false, true, false, false, false, false, false] rfl rfl (any_of HT_.out (by kernel_rfl)) (fun _ _ _ h => h) (Or.inl ⟨by rfl, ?_⟩) ?_ ?_
          rotate_left
          · intro w'
            go_simp
            with_reducible rfl
          rotate_left
          · simp only [Act.put, List.setIfInBounds_toArray, List.set_cons_zero, List.set_cons_succ, i64_w, i32_w]
            rfl
          refine take_ (i := 53) (N := some 183) (v := ?_) (a' := ?_) #[true, true, true, true, true, true, true, true, true, true, true, true, true, true, true, true, true, true, true, true, true, true, true, true, true, true, true, true, true, true, true, true, true, true, true, true, true, true, true, true, true, true, true, true, true, true, true, true, true, true, true, true, true, true, true, false, false, false, false, false] rfl rfl (take_of HT_.out (by kernel_rfl)) (fun _ _ _ h => h) (Or.inl ⟨by rfl, ?_⟩) hHeld ?_ ?_
          rotate_left
          · intro w' hS_
            obtain ⟨s0, s1, s2, s3, s4, s5⟩ := hS_
            go_simp
            with_reducible rfl
          rotate_left
          · simp only [Act.put, List.setIfInBounds_toArray, List.set_cons_zero, List.set_cons_succ, i64_w, i32_w]
            rfl
          refine pure_ (i := 55) (N := some 185) (v := ?_) (a' := ?_) #[true, true, true, true, true, true, true, true, true, true, true, true, true, true, true, true, true, true, true, true, true, true, true, true, true, true, true, true, true, true, true, true, true, true, true, true, true, true, true, true, true, true, true, true, true, true, true, true, true, true, true, true, true, true, true, true, false, false, false, false] rfl rfl (any_of HT_.out (by kernel_rfl)) (fun _ _ _ h => h) (Or.inl ⟨by rfl, ?_⟩) ?_ ?_
          rotate_left
          · intro w'
            go_simp
            with_reducible rfl
          rotate_left
          · simp only [Act.put, List.setIfInBounds_toArray, List.set_cons_zero, List.set_cons_succ, i64_w, i32_w]
            rfl
          refine take_ (i := 56) (N := some 186) (v := ?_) (a' := ?_) #[true, true, true, true, true, true, true, true, true, true, true, true, true, true, true, true, true, true, true, true, true, true, true, true, true, true, true, true, true, true, true, true, true, true, true, true, true, true, true, true, true, true, true, true, true, true, true, true, true, true, true, true, true, true, true, true, true, false, false, false] rfl rfl (take_of HT_.out (by kernel_rfl)) (fun _ _ _ h => h) (Or.inl ⟨by rfl, ?_⟩) hHeld ?_ ?_
          rotate_left
          · intro w' hS_
            obtain ⟨s0, s1, s2, s3, s4, s5⟩ := hS_
            go_simp
            with_reducible rfl
          rotate_left
          · simp only [Act.put, List.setIfInBounds_toArray, List.set_cons_zero, List.set_cons_succ, i64_w, i32_w]
            rfl
          refine pure_ (i := 57) (N := some 187) (v := ?_) (a' := ?_) #[true, true, true, true, true, true, true, true, true, true, true, true, true, true, true, true, true, true, true, true, true, true, true, true, true, true, true, true, true, true, true, true, true, true, true, true, true, true, true, true, true, true, true, true, true, true, true, true, true, true, true, true, true, true, true, true, true, true, false, false] rfl rfl (any_of HT_.out (by kernel_rfl)) (fun _ _ _ h => h) (Or.inl ⟨by rfl, ?_⟩) ?_ ?_
          rotate_left
          · intro w'
            go_simp
            with_reducible rfl
          rotate_left
          · simp only [Act.put, List.setIfInBounds_toArray, List.set_cons_zero, List.set_cons_succ, i64_w, i32_w]
            rfl
          refine pure_ (i := 58) (N := some 188) (v := ?_) (a' := ?_) #[true, true, true, true, true, true, true, true, true, true, true, true, true, true, true, true, true, true, true, true, true, true, true, true, true, true, true, true, true, true, true, true, true, true, true, true, true, true, true, true, true, true, true, true, true, true, true, true, true, true, true, true, true, true, true, true, true, true, true, false] rfl rfl (any_of HT_.out (by kernel_rfl)) (fun _ _ _ h => h) (Or.inl ⟨by rfl, ?_⟩) ?_ ?_
          rotate_left
          · intro w'
            go_simp
            with_reducible rfl
          rotate_left
          · simp only [Act.put, List.setIfInBounds_toArray, List.set_cons_zero, List.set_cons_succ, i64_w, i32_w]
            rfl
          refine pure_ (i := 59) (N := some 189) (v := ?_) (a' := ?_) #[true, true, true, true, true, true, true, true, true, true, true, true, true, true, true, true, true, true, true, true, true, true, true, true, true, true, true, true, true, true, true, true, true, true, true, true, true, true, true, true, true, true, true, true, true, true, true, true, true, true, true, true, true, true, true, true, true, true, true, true] rfl rfl (any_of HT_.out (by kernel_rfl)) (fun _ _ _ h => h) (Or.inl ⟨by rfl, ?_⟩) ?_ ?_
          rotate_left
          · intro w'
            go_simp
            with_reducible rfl
          rotate_left
          · simp only [Act.put, List.setIfInBounds_toArray, List.set_cons_zero, List.set_cons_succ, i64_w, i32_w]
            rfl
          refine done_ (done_of HT_.out (by kernel_rfl)) ?_
          clear hHeld
          have HIZ := Aside0.mk (HIP.out.below HBwj.out)
          have HWZ := Aside0.mk (HWP.out.trans (HBwj.out.mono HWP.out.size))
          have HSZ' := Aside0.mk (HSP.out.below HBwj.out)
          have HRZ := Aside0.mk (HRP.out.below HBwj.out)
          go_wp2
          go_roundw
          case measure => simp [intOf]; omega
          case rel => exact ⟨k + 1, s', by omega, by rw [show ((k : Int) + 1) = ((k + 1 : Nat) : Int) by omega], HIN', HNE', HIZ, HWZ, HSZ', HRZ⟩
        · as_aux_lemma =>
          have hisb : decide (0 ≤ pk) = false := decide_eq_false his
          refine start_ (n := 60) (S := fun w' => w'.cell? ⟨rb, 0, none⟩ = some (.slice A0 wl.length c0) ∧ w'.cell? ⟨rb, 1, none⟩ = some (.slice A1 ul.length c1) ∧ w'.cell? ⟨rb, 2, none⟩ = some (.slice A2 al.length c2) ∧ w'.cell? ⟨wr.heap.size, 1, none⟩ = some (.int .i64 x.f1) ∧ w'.cell? ⟨wr.heap.size, 2, none⟩ = some (.string x.f2) ∧ True) (ds := []) #[false, false, false, false, false, false, false, false, false, false, false, false, false, false, false, false, false, false, false, false, false, false, false, false, false, false, false, false, false, false, false, false, false, false, false, false, false, false, false, false, false, false, false, false, false, false, false, false, false, false, false, false, false, false, false, false, false, false, false, false] (by kernel_rfl) rfl rfl ⟨hp0, hp1, hp2, hp81, hp82, trivial⟩ (fun hHeld => ?_); refine with_tab plays.tab31 (fun HT_ => ?_)
          refine pure_ (i := 0) (N := some 130) (v := ?_) (a' := ?_) #[true, false, false, false, false, false, false, false, false, false, false, false, false, false, false, false, false, false, false, false, false, false, false, false, false, false, false, false, false, false, false, false, false, false, false, false, false, false, false, false, false, false, false, false, false, false, false, false, false, false, false, false, false, false, false, false, false, false, false, false] rfl rfl (any_of HT_.out (by kernel_rfl)) (fun _ _ _ h => h) (Or.inl ⟨by rfl, ?_⟩) ?_ ?_
          rotate_left
          · intro w'
            go_simp
            with_reducible rfl
          rotate_left
          · simp only [Act.put, List.setIfInBounds_toArray, List.set_cons_zero, List.set_cons_succ, i64_w, i32_w]
            rfl
          refine pure_ (i := 1) (N := some 131) (v := ?_) (a' := ?_) #[true, true, false, false, false, false, false, false, false, false, false, false, false, false, false, false, false, false, false, false, false, false, false, false, false, false, false, false, false, false, false, false, false, false, false, false, false, false, false, false, false, false, false, false, false, false, false, false, false, false, false, false, false, false, false, false, false, false, false, false] rfl rfl (any_of HT_.out (by kernel_rfl)) (fun _ _ _ h => h) (Or.inl ⟨by rfl, ?_⟩) ?_ ?_
          rotate_left
          · intro w'
            go_simp
            with_reducible rfl
          rotate_left
          · simp only [Act.put, List.setIfInBounds_toArray, List.set_cons_zero, List.set_cons_succ, i64_w, i32_w]
            rfl
          refine pure_ (i := 2) (N := some 132) (v := ?_) (a' := ?_) #[true, true, true, false, false, false, false, false, false, false, false, false, false, false, false, false, false, false, false, false, false, false, false, false, false, false, false, false, false, false, false, false, false, false, false, false, false, false, false, false, false, false, false, false, false, false, false, false, false, false, false, false, false, false, false, false, false, false, false, false] rfl rfl (any_of HT_.out (by kernel_rfl)) (fun _ _ _ h => h) (Or.inl ⟨by rfl, ?_⟩) ?_ ?_
          rotate_left
          · intro w'
            go_simp
            with_reducible rfl
          rotate_left
          · simp only [Act.put, List.setIfInBounds_toArray, List.set_cons_zero, List.set_cons_succ, i64_w, i32_w]
            rfl
          refine pure_ (i := 3) (N := some 133) (v := ?_) (a' := ?_) #[true, true, true, true, false, false, false, false, false, false, false, false, false, false, false, false, false, false, false, false, false, false, false, false, false, false, false, false, false, false, false, false, false, false, false, false, false, false, false, false, false, false, false, false, false, false, false, false, false, false, false, false, false, false, false, false, false, false, false, false] rfl rfl (any_of HT_.out (by kernel_rfl)) (fun _ _ _ h => h) (Or.inl ⟨by rfl, ?_⟩) ?_ ?_
          rotate_left
          · intro w'
            go_simp
            with_reducible rfl
          rotate_left
          · simp only [Act.put, List.setIfInBounds_toArray, List.set_cons_zero, List.set_cons_succ, i64_w, i32_w]
            rfl
          refine pure_ (i := 5) (N := some 135) (v := ?_) (a' := ?_) #[true, true, true, true, false, true, false, false, false, false, false, false, false, false, false, false, false, false, false, false, false, false, false, false, false, false, false, false, false, false, false, false, false, false, false, false, false, false, false, false, false, false, false, false, false, false, false, false, false, false, false, false, false, false, false, false, false, false, false, false] rfl rfl (any_of HT_.out (by kernel_rfl)) (fun _ _ _ h => h) (Or.inl ⟨by rfl, ?_⟩) ?_ ?_
          rotate_left
          · intro w'
            go_simp
            with_reducible rfl
          rotate_left
          · simp only [Act.put, List.setIfInBounds_toArray, List.set_cons_zero, List.set_cons_succ, i64_w, i32_w]
            rfl
          refine take_ (i := 6) (N := some 136) (v := ?_) (a' := ?_) #[true, true, true, true, false, true, true, false, false, false, false, false, false, false, false, false, false, false, false, false, false, false, false, false, false, false, false, false, false, false, false, false, false, false, false, false, false, false, false, false, false, false, false, false, false, false, false, false, false, false, false, false, false, false, false, false, false, false, false, false] rfl rfl (take_of HT_.out (by kernel_rfl)) (fun _ _ _ h => h) (Or.inl ⟨by rfl, ?_⟩) hHeld ?_ ?_
          rotate_left
          · intro w' hS_
            obtain ⟨s0, s1, s2, s3, s4, s5⟩ := hS_
            go_simp
            with_reducible rfl
          rotate_left
          · simp only [Act.put, List.setIfInBounds_toArray, List.set_cons_zero, List.set_cons_succ, i64_w, i32_w]
            rfl
          refine one_ (i := 4) (N := some 134) #[true, true, true, true, true, true, true, false, false, false, false, false, false, false, false, false, false, false, false, false, false, false, false, false, false, false, false, false, false, false, false, false, false, false, false, false, false, false, false, false, false, false, false, false, false, false, false, false, false, false, false, false, false, false, false, false, false, false, false, false] rfl rfl (one_of HT_.out (by kernel_rfl)) (by decide) (fun K hK => ?_)
          refine goes_ Try.func15 (by kernel_rfl) rfl #[.pointer (some ⟨g, 0, none⟩)] (by rfl) rfl rfl (by (try simp only [List.map_toArray, List.map_cons, List.map_nil]); first | done | rfl) ?_
          refine (HWA.out _ (HIP.out.below (below_drew1 (Below.refl _ wp)))).mono ?_
          rintro e wa ⟨v_, rfl, hR_, hb_⟩
          obtain ⟨Aa, na, rfl⟩ := Kd.R_slice hR_
          have HQa := Aside0.mk (Kd.R_reads' hR_)
          have HBwa := Aside0.mk (below_step (below_drew1 (Below.refl _ wp)) hb_)
          clear hR_ hb_
          have hswa : (fun w' => w'.cell? ⟨rb, 0, none⟩ = some (.slice A0 wl.length c0) ∧ w'.cell? ⟨rb, 1, none⟩ = some (.slice A1 ul.length c1) ∧ w'.cell? ⟨rb, 2, none⟩ = some (.slice A2 al.length c2) ∧ w'.cell? ⟨wr.heap.size, 1, none⟩ = some (.int .i64 x.f1) ∧ w'.cell? ⟨wr.heap.size, 2, none⟩ = some (.string x.f2) ∧ True) wa := by
            have h_ := HBwa.out
            exact ⟨(h_.cell (p := ⟨rb, 0, none⟩) hl6).trans hp0, (h_.cell (p := ⟨rb, 1, none⟩) hl6).trans hp1, (h_.cell (p := ⟨rb, 2, none⟩) hl6).trans hp2, (h_.cell (p := ⟨wr.heap.size, 1, none⟩) hl8).trans hp81, (h_.cell (p := ⟨wr.heap.size, 2, none⟩) hl8).trans hp82, trivial⟩
          refine ⟨_, rfl, ?_⟩
          refine hK.out _ _ hswa (fun hHeld => ?_)
          clear hK K
          refine norm_ (a' := ?_) ?_ ?_
          rotate_left
          · show Act.put _ (some 134) _ = _
            simp only [Act.put, List.setIfInBounds_toArray, List.set_cons_zero, List.set_cons_succ, i64_w, i32_w]
            rfl
          refine one_ (i := 7) (N := some 137) #[true, true, true, true, true, true, true, true, false, false, false, false, false, false, false, false, false, false, false, false, false, false, false, false, false, false, false, false, false, false, false, false, false, false, false, false, false, false, false, false, false, false, false, false, false, false, false, false, false, false, false, false, false, false, false, false, false, false, false, false] rfl rfl (one_of HT_.out (by kernel_rfl)) (by decide) (fun K hK => ?_)
          refine goes_ Try.func20 (by kernel_rfl) rfl #[.slice Aa wl.length na, .slice A0 wl.length c0] (by rfl) rfl rfl (by (try simp only [List.map_toArray, List.map_cons, List.map_nil]); first | done | rfl) ?_
          refine (same_eq wl Aa A0 na c0 wa HQa.out.2.2 HQa.out.2.1 (rdsC (HR0.out.below HBwa.out)) L0.out).mono ?_
          rintro e wb ⟨rfl, hb_⟩
          have HBwb := Aside0.mk (below_step HBwa.out (Drawn0.below hb_))
          clear hb_
          have hswb : (fun w' => w'.cell? ⟨rb, 0, none⟩ = some (.slice A0 wl.length c0) ∧ w'.cell? ⟨rb, 1, none⟩ = some (.slice A1 ul.length c1) ∧ w'.cell? ⟨rb, 2, none⟩ = some (.slice A2 al.length c2) ∧ w'.cell? ⟨wr.heap.size, 1, none⟩ = some (.int .i64 x.f1) ∧ w'.cell? ⟨wr.heap.size, 2, none⟩ = some (.string x.f2) ∧ True) wb := by
            have h_ := HBwb.out
            exact ⟨(h_.cell (p := ⟨rb, 0, none⟩) hl6).trans hp0, (h_.cell (p := ⟨rb, 1, none⟩) hl6).trans hp1, (h_.cell (p := ⟨rb, 2, none⟩) hl6).trans hp2, (h_.cell (p := ⟨wr.heap.size, 1, none⟩) hl8).trans hp81, (h_.cell (p := ⟨wr.heap.size, 2, none⟩) hl8).trans hp82, trivial⟩
          refine ⟨_, rfl, ?_⟩
          refine hK.out _ _ hswb (fun hHeld => ?_)
          clear hK K
          refine norm_ (a' := ?_) ?_ ?_
          rotate_left
          · show Act.put _ (some 137) _ = _
            simp only [Act.put, List.setIfInBounds_toArray, List.set_cons_zero, List.set_cons_succ, i64_w, i32_w]
            rfl
          refine pure_ (i := 8) (N := some 138) (v := ?_) (a' := ?_) #[true, true, true, true, true, true, true, true, true, false, false, false, false, false, false, false, false, false, false, false, false, false, false, false, false, false, false, false, false, false, false, false, false, false, false, false, false, false, false, false, false, false, false, false, false, false, false, false, false, false, false, false, false, false, false, false, false, false, false, false] rfl rfl (any_of HT_.out (by kernel_rfl)) (fun _ _ _ h => h) (Or.inl ⟨by rfl, ?_⟩) ?_ ?_
          rotate_left
          · intro w'
            go_simp
            with_reducible rfl
          rotate_left
          · simp only [Act.put, List.setIfInBounds_toArray, List.set_cons_zero, List.set_cons_succ, i64_w, i32_w]
            rfl
          refine pure_ (i := 9) (N := some 139) (v := ?_) (a' := ?_) #[true, true, true, true, true, true, true, true, true, true, false, false, false, false, false, false, false, false, false, false, false, false, false, false, false, false, false, false, false, false, false, false, false, false, false, false, false, false, false, false, false, false, false, false, false, false, false, false, false, false, false, false, false, false, false, false, false, false, false, false] rfl rfl (any_of HT_.out (by kernel_rfl)) (fun _ _ _ h => h) (Or.inl ⟨by rfl, ?_⟩) ?_ ?_
          rotate_left
          · intro w'
            go_simp
            with_reducible rfl
          rotate_left
          · simp only [Act.put, List.setIfInBounds_toArray, List.set_cons_zero, List.set_cons_succ, i64_w, i32_w]
            rfl
          refine pure_ (i := 10) (N := some 140) (v := ?_) (a' := ?_) #[true, true, true, true, true, true, true, true, true, true, true, false, false, false, false, false, false, false, false, false, false, false, false, false, false, false, false, false, false, false, false, false, false, false, false, false, false, false, false, false, false, false, false, false, false, false, false, false, false, false, false, false, false, false, false, false, false, false, false, false] rfl rfl (any_of HT_.out (by kernel_rfl)) (fun _ _ _ h => h) (Or.inl ⟨by rfl, ?_⟩) ?_ ?_
          rotate_left
          · intro w'
            go_simp
            with_reducible rfl
          rotate_left
          · simp only [Act.put, List.setIfInBounds_toArray, List.set_cons_zero, List.set_cons_succ, i64_w, i32_w]
            rfl
          refine pure_ (i := 11) (N := some 141) (v := ?_) (a' := ?_) #[true, true, true, true, true, true, true, true, true, true, true, true, false, false, false, false, false, false, false, false, false, false, false, false, false, false, false, false, false, false, false, false, false, false, false, false, false, false, false, false, false, false, false, false, false, false, false, false, false, false, false, false, false, false, false, false, false, false, false, false] rfl rfl (any_of HT_.out (by kernel_rfl)) (fun _ _ _ h => h) (Or.inl ⟨by rfl, ?_⟩) ?_ ?_
          rotate_left
          · intro w'
            go_simp
            with_reducible rfl
          rotate_left
          · simp only [Act.put, List.setIfInBounds_toArray, List.set_cons_zero, List.set_cons_succ, i64_w, i32_w]
            rfl
          refine pure_ (i := 13) (N := some 143) (v := ?_) (a' := ?_) #[true, true, true, true, true, true, true, true, true, true, true, true, false, true, false, false, false, false, false, false, false, false, false, false, false, false, false, false, false, false, false, false, false, false, false, false, false, false, false, false, false, false, false, false, false, false, false, false, false, false, false, false, false, false, false, false, false, false, false, false] rfl rfl (any_of HT_.out (by kernel_rfl)) (fun _ _ _ h => h) (Or.inl ⟨by rfl, ?_⟩) ?_ ?_
          rotate_left
          · intro w'
            go_simp
            with_reducible rfl
          rotate_left
          · simp only [Act.put, List.setIfInBounds_toArray, List.set_cons_zero, List.set_cons_succ, i64_w, i32_w]
            rfl
          refine take_ (i := 14) (N := some 144) (v := ?_) (a' := ?_) #[true, true, true, true, true, true, true, true, true, true, true, true, false, true, true, false, false, false, false, false, false, false, false, false, false, false, false, false, false, false, false, false, false, false, false, false, false, false, false, false, false, false, false, false, false, false, false, false, false, false, false, false, false, false, false, false, false, false, false, false] rfl rfl (take_of HT_.out (by kernel_rfl)) (fun _ _ _ h => h) (Or.inl ⟨by rfl, ?_⟩) hHeld ?_ ?_
          rotate_left
          · intro w' hS_
            obtain ⟨s0, s1, s2, s3, s4, s5⟩ := hS_
            go_simp
            with_reducible rfl
          rotate_left
          · simp only [Act.put, List.setIfInBounds_toArray, List.set_cons_zero, List.set_cons_succ, i64_w, i32_w]
            rfl
          refine one_ (i := 12) (N := some 142) #[true, true, true, true, true, true, true, true, true, true, true, true, true, true, true, false, false, false, false, false, false, false, false, false, false, false, false, false, false, false, false, false, false, false, false, false, false, false, false, false, false, false, false, false, false, false, false, false, false, false, false, false, false, false, false, false, false, false, false, false] rfl rfl (one_of HT_.out (by kernel_rfl)) (by decide) (fun K hK => ?_)
          refine goes_ Try.func16 (by kernel_rfl) rfl #[.pointer (some ⟨g, 0, none⟩)] (by rfl) rfl rfl (by (try simp only [List.map_toArray, List.map_cons, List.map_nil]); first | done | rfl) ?_
          refine (HUN.out _ (HIP.out.below HBwb.out)).mono ?_
          rintro e wd ⟨v_, rfl, hR_, hb_⟩
          obtain ⟨Ad, nd, rfl⟩ := Kd.R_slice hR_
          have HQd := Aside0.mk (Kd.R_reads' hR_)
          have HBwd := Aside0.mk (below_step HBwb.out hb_)
          clear hR_ hb_
          have hswd : (fun w' => w'.cell? ⟨rb, 0, none⟩ = some (.slice A0 wl.length c0) ∧ w'.cell? ⟨rb, 1, none⟩ = some (.slice A1 ul.length c1) ∧ w'.cell? ⟨rb, 2, none⟩ = some (.slice A2 al.length c2) ∧ w'.cell? ⟨wr.heap.size, 1, none⟩ = some (.int .i64 x.f1) ∧ w'.cell? ⟨wr.heap.size, 2, none⟩ = some (.string x.f2) ∧ True) wd := by
            have h_ := HBwd.out
            exact ⟨(h_.cell (p := ⟨rb, 0, none⟩) hl6).trans hp0, (h_.cell (p := ⟨rb, 1, none⟩) hl6).trans hp1, (h_.cell (p := ⟨rb, 2, none⟩) hl6).trans hp2, (h_.cell (p := ⟨wr.heap.size, 1, none⟩) hl8).trans hp81, (h_.cell (p := ⟨wr.heap.size, 2, none⟩) hl8).trans hp82, trivial⟩
          refine ⟨_, rfl, ?_⟩
          refine hK.out _ _ hswd (fun hHeld => ?_)
          clear hK K
          refine norm_ (a' := ?_) ?_ ?_
          rotate_left
          · show Act.put _ (some 142) _ = _
            simp only [Act.put, List.setIfInBounds_toArray, List.set_cons_zero, List.set_cons_succ, i64_w, i32_w]
            rfl
          refine one_ (i := 15) (N := some 145) #[true, true, true, true, true, true, true, true, true, true, true, true, true, true, true, true, false, false, false, false, false, false, false, false, false, false, false, false, false, false, false, false, false, false, false, false, false, false, false, false, false, false, false, false, false, false, false, false, false, false, false, false, false, false, false, false, false, false, false, false] rfl rfl (one_of HT_.out (by kernel_rfl)) (by decide) (fun K hK => ?_)
          refine goes_ Try.func20 (by kernel_rfl) rfl #[.slice Ad ul.length nd, .slice A1 ul.length c1] (by rfl) rfl rfl (by (try simp only [List.map_toArray, List.map_cons, List.map_nil]); first | done | rfl) ?_
          refine (same_eq ul Ad A1 nd c1 wd HQd.out.2.2 HQd.out.2.1 (rdsC (HR1.out.below HBwd.out)) L1.out).mono ?_
          rintro e we ⟨rfl, hb_⟩
          have HBwe := Aside0.mk (below_step HBwd.out (Drawn0.below hb_))
          clear hb_
          have hswe : (fun w' => w'.cell? ⟨rb, 0, none⟩ = some (.slice A0 wl.length c0) ∧ w'.cell? ⟨rb, 1, none⟩ = some (.slice A1 ul.length c1) ∧ w'.cell? ⟨rb, 2, none⟩ = some (.slice A2 al.length c2) ∧ w'.cell? ⟨wr.heap.size, 1, none⟩ = some (.int .i64 x.f1) ∧ w'.cell? ⟨wr.heap.size, 2, none⟩ = some (.string x.f2) ∧ True) we := by
            have h_ := HBwe.out
            exact ⟨(h_.cell (p := ⟨rb, 0, none⟩) hl6).trans hp0, (h_.cell (p := ⟨rb, 1, none⟩) hl6).trans hp1, (h_.cell (p := ⟨rb, 2, none⟩) hl6).trans hp2, (h_.cell (p := ⟨wr.heap.size, 1, none⟩) hl8).trans hp81, (h_.cell (p := ⟨wr.heap.size, 2, none⟩) hl8).trans hp82, trivial⟩
          refine ⟨_, rfl, ?_⟩
          refine hK.out _ _ hswe (fun hHeld => ?_)
          clear hK K
          refine norm_ (a' := ?_) ?_ ?_
          rotate_left
          · show Act.put _ (some 145) _ = _
            simp only [Act.put, List.setIfInBounds_toArray, List.set_cons_zero, List.set_cons_succ, i64_w, i32_w]
            rfl
          refine pure_ (i := 16) (N := some 146) (v := ?_) (a' := ?_) #[true, true, true, true, true, true, true, true, true, true, true, true, true, true, true, true, true, false, false, false, false, false, false, false, false, false, false, false, false, false, false, false, false, false, false, false, false, false, false, false, false, false, false, false, false, false, false, false, false, false, false, false, false, false, false, false, false, false, false, false] rfl rfl (any_of HT_.out (by kernel_rfl)) (fun _ _ _ h => h) (Or.inl ⟨by rfl, ?_⟩) ?_ ?_
          rotate_left
          · intro w'
            go_simp
            with_reducible rfl
          rotate_left
          · simp only [Act.put, List.setIfInBounds_toArray, List.set_cons_zero, List.set_cons_succ, i64_w, i32_w]
            rfl
          refine pure_ (i := 17) (N := some 147) (v := ?_) (a' := ?_) #[true, true, true, true, true, true, true, true, true, true, true, true, true, true, true, true, true, true, false, false, false, false, false, false, false, false, false, false, false, false, false, false, false, false, false, false, false, false, false, false, false, false, false, false, false, false, false, false, false, false, false, false, false, false, false, false, false, false, false, false] rfl rfl (any_of HT_.out (by kernel_rfl)) (fun _ _ _ h => h) (Or.inl ⟨by rfl, ?_⟩) ?_ ?_
          rotate_left
          · intro w'
            go_simp
            with_reducible rfl
          rotate_left
          · simp only [Act.put, List.setIfInBounds_toArray, List.set_cons_zero, List.set_cons_succ, i64_w, i32_w]
            rfl
          refine pure_ (i := 18) (N := some 148) (v := ?_) (a' := ?_) #[true, true, true, true, true, true, true, true, true, true, true, true, true, true, true, true, true, true, true, false, false, false, false, false, false, false, false, false, false, false, false, false, false, false, false, false, false, false, false, false, false, false, false, false, false, false, false, false, false, false, false, false, false, false, false, false, false, false, false, false] rfl rfl (any_of HT_.out (by kernel_rfl)) (fun _ _ _ h => h) (Or.inl ⟨by rfl, ?_⟩) ?_ ?_
          rotate_left
          · intro w'
            go_simp
            with_reducible rfl
          rotate_left
          · simp only [Act.put, List.setIfInBounds_toArray, List.set_cons_zero, List.set_cons_succ, i64_w, i32_w]
            rfl
          refine pure_ (i := 19) (N := some 149) (v := ?_) (a' := ?_) #[true, true, true, true, true, true, true, true, true, true, true, true, true, true, true, true, true, true, true, true, false, false, false, false, false, false, false, false, false, false, false, false, false, false, false, false, false, false, false, false, false, false, false, false, false, false, false, false, false, false, false, false, false, false, false, false, false, false, false, false] rfl rfl (any_of HT_.out (by kernel_rfl)) (fun _ _ _ h => h) (Or.inl ⟨by rfl, ?_⟩) ?_ ?_
          rotate_left
          · intro w'
            go_simp
            with_reducible rfl
          rotate_left
          · simp only [Act.put, List.setIfInBounds_toArray, List.set_cons_zero, List.set_cons_succ, i64_w, i32_w]
            rfl
          refine pure_ (i := 20) (N := some 150) (v := ?_) (a' := ?_) #[true, true, true, true, true, true, true, true, true, true, true, true, true, true, true, true, true, true, true, true, true, false, false, false, false, false, false, false, false, false, false, false, false, false, false, false, false, false, false, false, false, false, false, false, false, false, false, false, false, false, false, false, false, false, false, false, false, false, false, false] rfl rfl (any_of HT_.out (by kernel_rfl)) (fun _ _ _ h => h) (Or.inl ⟨by rfl, ?_⟩) ?_ ?_
          rotate_left
          · intro w'
            go_simp
            with_reducible rfl
          rotate_left
          · simp only [Act.put, List.setIfInBounds_toArray, List.set_cons_zero, List.set_cons_succ, i64_w, i32_w]
            rfl
          refine pure_ (i := 24) (N := some 154) (v := ?_) (a' := ?_) #[true, true, true, true, true, true, true, true, true, true, true, true, true, true, true, true, true, true, true, true, true, false, false, false, true, false, false, false, false, false, false, false, false, false, false, false, false, false, false, false, false, false, false, false, false, false, false, false, false, false, false, false, false, false, false, false, false, false, false, false] rfl rfl (any_of HT_.out (by kernel_rfl)) (fun _ _ _ h => h) (Or.inl ⟨by rfl, ?_⟩) ?_ ?_
          rotate_left
          · intro w'
            go_simp
            with_reducible rfl
          rotate_left
          · simp only [Act.put, List.setIfInBounds_toArray, List.set_cons_zero, List.set_cons_succ, i64_w, i32_w]
            rfl
          refine take_ (i := 21) (N := some 151) (v := ?_) (a' := ?_) #[true, true, true, true, true, true, true, true, true, true, true, true, true, true, true, true, true, true, true, true, true, true, false, false, true, false, false, false, false, false, false, false, false, false, false, false, false, false, false, false, false, false, false, false, false, false, false, false, false, false, false, false, false, false, false, false, false, false, false, false] rfl rfl (take_of HT_.out (by kernel_rfl)) (fun _ _ _ h => h) (Or.inl ⟨by rfl, ?_⟩) hHeld ?_ ?_
          rotate_left
          · intro w' hS_
            obtain ⟨s0, s1, s2, s3, s4, s5⟩ := hS_
            go_simp
            with_reducible rfl
          rotate_left
          · simp only [Act.put, List.setIfInBounds_toArray, List.set_cons_zero, List.set_cons_succ, i64_w, i32_w]
            rfl
          refine take_ (i := 23) (N := some 153) (v := ?_) (a' := ?_) #[true, true, true, true, true, true, true, true, true, true, true, true, true, true, true, true, true, true, true, true, true, true, false, true, true, false, false, false, false, false, false, false, false, false, false, false, false, false, false, false, false, false, false, false, false, false, false, false, false, false, false, false, false, false, false, false, false, false, false, false] rfl rfl (take_of HT_.out (by kernel_rfl)) (fun _ _ _ h => h) (Or.inl ⟨by rfl, ?_⟩) hHeld ?_ ?_
          rotate_left
          · intro w' hS_
            obtain ⟨s0, s1, s2, s3, s4, s5⟩ := hS_
            go_simp
            with_reducible rfl
          rotate_left
          · simp only [Act.put, List.setIfInBounds_toArray, List.set_cons_zero, List.set_cons_succ, i64_w, i32_w]
            rfl
          refine take_ (i := 25) (N := some 155) (v := ?_) (a' := ?_) #[true, true, true, true, true, true, true, true, true, true, true, true, true, true, true, true, true, true, true, true, true, true, false, true, true, true, false, false, false, false, false, false, false, false, false, false, false, false, false, false, false, false, false, false, false, false, false, false, false, false, false, false, false, false, false, false, false, false, false, false] rfl rfl (take_of HT_.out (by kernel_rfl)) (fun _ _ _ h => h) (Or.inl ⟨by rfl, ?_⟩) hHeld ?_ ?_
          rotate_left
          · intro w' hS_
            obtain ⟨s0, s1, s2, s3, s4, s5⟩ := hS_
            go_simp
            with_reducible rfl
          rotate_left
          · simp only [Act.put, List.setIfInBounds_toArray, List.set_cons_zero, List.set_cons_succ, i64_w, i32_w]
            rfl
          refine one_ (i := 22) (N := some 152) #[true, true, true, true, true, true, true, true, true, true, true, true, true, true, true, true, true, true, true, true, true, true, true, true, true, true, false, false, false, false, false, false, false, false, false, false, false, false, false, false, false, false, false, false, false, false, false, false, false, false, false, false, false, false, false, false, false, false, false, false] rfl rfl (one_of HT_.out (by kernel_rfl)) (by decide) (fun K hK => ?_)
          refine goes_ Try.func19 (by kernel_rfl) rfl #[.pointer (some ⟨g, 0, none⟩), .int .i64 x.f1] (by rfl) rfl rfl (by (try simp only [List.map_toArray, List.map_cons, List.map_nil]); first | done | rfl) ?_
          refine (HDU.out _ (HIP.out.below HBwe.out)).mono ?_
          rintro e wf ⟨v_, rfl, hR_, hb_⟩
          obtain ⟨Af, nf, rfl⟩ := Kd.R_slice hR_
          have HQf := Aside0.mk (Kd.R_reads' hR_)
          have HBwf := Aside0.mk (below_step HBwe.out hb_)
          clear hR_ hb_
          have hswf : (fun w' => w'.cell? ⟨rb, 0, none⟩ = some (.slice A0 wl.length c0) ∧ w'.cell? ⟨rb, 1, none⟩ = some (.slice A1 ul.length c1) ∧ w'.cell? ⟨rb, 2, none⟩ = some (.slice A2 al.length c2) ∧ w'.cell? ⟨wr.heap.size, 1, none⟩ = some (.int .i64 x.f1) ∧ w'.cell? ⟨wr.heap.size, 2, none⟩ = some (.string x.f2) ∧ True) wf := by
            have h_ := HBwf.out
            exact ⟨(h_.cell (p := ⟨rb, 0, none⟩) hl6).trans hp0, (h_.cell (p := ⟨rb, 1, none⟩) hl6).trans hp1, (h_.cell (p := ⟨rb, 2, none⟩) hl6).trans hp2, (h_.cell (p := ⟨wr.heap.size, 1, none⟩) hl8).trans hp81, (h_.cell (p := ⟨wr.heap.size, 2, none⟩) hl8).trans hp82, trivial⟩
          refine ⟨_, rfl, ?_⟩
          refine hK.out _ _ hswf (fun hHeld => ?_)
          clear hK K
          refine norm_ (a' := ?_) ?_ ?_
          rotate_left
          · show Act.put _ (some 152) _ = _
            simp only [Act.put, List.setIfInBounds_toArray, List.set_cons_zero, List.set_cons_succ, i64_w, i32_w]
            rfl
          refine one_ (i := 26) (N := some 156) #[true, true, true, true, true, true, true, true, true, true, true, true, true, true, true, true, true, true, true, true, true, true, true, true, true, true, true, false, false, false, false, false, false, false, false, false, false, false, false, false, false, false, false, false, false, false, false, false, false, false, false, false, false, false, false, false, false, false, false, false] rfl rfl (one_of HT_.out (by kernel_rfl)) (by decide) (fun K hK => ?_)
          refine goes_ Try.func29 (by kernel_rfl) rfl #[.agg #[.slice A0 wl.length c0, .slice A1 ul.length c1, .slice A2 al.length c2], .int .i64 x.f1] (by rfl) rfl rfl (by (try simp only [List.map_toArray, List.map_cons, List.map_nil]); first | done | rfl) ?_
          refine (HRD.out wf _ _ _ (HR0.out.below HBwf.out) (HR1.out.below HBwf.out) (HR2.out.below HBwf.out)).mono ?_
          rintro e wg ⟨v_, rfl, hR_, hb_⟩
          obtain ⟨Ag, ng, rfl⟩ := Kd.R_slice hR_
          have HQg := Aside0.mk (Kd.R_reads' hR_)
          have HQf2 := Aside0.mk (Kd.C_below HQf.out.2.2 hb_)
          have HBwg := Aside0.mk (below_step HBwf.out hb_)
          clear hR_ hb_
          have hswg : (fun w' => w'.cell? ⟨rb, 0, none⟩ = some (.slice A0 wl.length c0) ∧ w'.cell? ⟨rb, 1, none⟩ = some (.slice A1 ul.length c1) ∧ w'.cell? ⟨rb, 2, none⟩ = some (.slice A2 al.length c2) ∧ w'.cell? ⟨wr.heap.size, 1, none⟩ = some (.int .i64 x.f1) ∧ w'.cell? ⟨wr.heap.size, 2, none⟩ = some (.string x.f2) ∧ True) wg := by
            have h_ := HBwg.out
            exact ⟨(h_.cell (p := ⟨rb, 0, none⟩) hl6).trans hp0, (h_.cell (p := ⟨rb, 1, none⟩) hl6).trans hp1, (h_.cell (p := ⟨rb, 2, none⟩) hl6).trans hp2, (h_.cell (p := ⟨wr.heap.size, 1, none⟩) hl8).trans hp81, (h_.cell (p := ⟨wr.heap.size, 2, none⟩) hl8).trans hp82, trivial⟩
          refine ⟨_, rfl, ?_⟩
          refine hK.out _ _ hswg (fun hHeld => ?_)
          clear hK K
          refine norm_ (a' := ?_) ?_ ?_
          rotate_left
          · show Act.put _ (some 156) _ = _
            simp only [Act.put, List.setIfInBounds_toArray, List.set_cons_zero, List.set_cons_succ, i64_w, i32_w]
            rfl
          refine one_ (i := 27) (N := some 157) #[true, true, true, true, true, true, true, true, true, true, true, true, true, true, true, true, true, true, true, true, true, true, true, true, true, true, true, true, false, false, false, false, false, false, false, false, false, false, false, false, false, false, false, false, false, false, false, false, false, false, false, false, false, false, false, false, false, false, false, false] rfl rfl (one_of HT_.out (by kernel_rfl)) (by decide) (fun K hK => ?_)
          refine goes_ Try.func20 (by kernel_rfl) rfl #[.slice Af du.length nf, .slice Ag du.length ng] (by rfl) rfl rfl (by (try simp only [List.map_toArray, List.map_cons, List.map_nil]); first | done | rfl) ?_
          refine (same_eq du Af Ag nf ng wg HQf2.out HQf.out.2.1 HQg.out.2.2 HQg.out.2.1).mono ?_
          rintro e wh ⟨rfl, hb_⟩
          have HBwh := Aside0.mk (below_step HBwg.out (Drawn0.below hb_))
          clear hb_
          have hswh : (fun w' => w'.cell? ⟨rb, 0, none⟩ = some (.slice A0 wl.length c0) ∧ w'.cell? ⟨rb, 1, none⟩ = some (.slice A1 ul.length c1) ∧ w'.cell? ⟨rb, 2, none⟩ = some (.slice A2 al.length c2) ∧ w'.cell? ⟨wr.heap.size, 1, none⟩ = some (.int .i64 x.f1) ∧ w'.cell? ⟨wr.heap.size, 2, none⟩ = some (.string x.f2) ∧ True) wh := by
            have h_ := HBwh.out
            exact ⟨(h_.cell (p := ⟨rb, 0, none⟩) hl6).trans hp0, (h_.cell (p := ⟨rb, 1, none⟩) hl6).trans hp1, (h_.cell (p := ⟨rb, 2, none⟩) hl6).trans hp2, (h_.cell (p := ⟨wr.heap.size, 1, none⟩) hl8).trans hp81, (h_.cell (p := ⟨wr.heap.size, 2, none⟩) hl8).trans hp82, trivial⟩
          refine ⟨_, rfl, ?_⟩
          refine hK.out _ _ hswh (fun hHeld => ?_)
          clear hK K
          refine norm_ (a' := ?_) ?_ ?_
          rotate_left
          · show Act.put _ (some 157) _ = _
            simp only [Act.put, List.setIfInBounds_toArray, List.set_cons_zero, List.set_cons_succ, i64_w, i32_w]
            rfl
          refine pure_ (i := 28) (N := some 158) (v := ?_) (a' := ?_) #[true, true, true, true, true, true, true, true, true, true, true, true, true, true, true, true, true, true, true, true, true, true, true, true, true, true, true, true, true, false, false, false, false, false, false, false, false, false, false, false, false, false, false, false, false, false, false, false, false, false, false, false, false, false, false, false, false, false, false, false] rfl rfl (any_of HT_.out (by kernel_rfl)) (fun _ _ _ h => h) (Or.inl ⟨by rfl, ?_⟩) ?_ ?_
          rotate_left
          · intro w'
            go_simp
            with_reducible rfl
          rotate_left
          · simp only [Act.put, List.setIfInBounds_toArray, List.set_cons_zero, List.set_cons_succ, i64_w, i32_w]
            rfl
          refine pure_ (i := 29) (N := some 159) (v := ?_) (a' := ?_) #[true, true, true, true, true, true, true, true, true, true, true, true, true, true, true, true, true, true, true, true, true, true, true, true, true, true, true, true, true, true, false, false, false, false, false, false, false, false, false, false, false, false, false, false, false, false, false, false, false, false, false, false, false, false, false, false, false, false, false, false] rfl rfl (any_of HT_.out (by kernel_rfl)) (fun _ _ _ h => h) (Or.inl ⟨by rfl, ?_⟩) ?_ ?_
          rotate_left
          · intro w'
            go_simp
            with_reducible rfl
          rotate_left
          · simp only [Act.put, List.setIfInBounds_toArray, List.set_cons_zero, List.set_cons_succ, i64_w, i32_w]
            rfl
          refine pure_ (i := 30) (N := some 160) (v := ?_) (a' := ?_) #[true, true, true, true, true, true, true, true, true, true, true, true, true, true, true, true, true, true, true, true, true, true, true, true, true, true, true, true, true, true, true, false, false, false, false, false, false, false, false, false, false, false, false, false, false, false, false, false, false, false, false, false, false, false, false, false, false, false, false, false] rfl rfl (any_of HT_.out (by kernel_rfl)) (fun _ _ _ h => h) (Or.inl ⟨by rfl, ?_⟩) ?_ ?_
          rotate_left
          · intro w'
            go_simp
            with_reducible rfl
          rotate_left
          · simp only [Act.put, List.setIfInBounds_toArray, List.set_cons_zero, List.set_cons_succ, i64_w, i32_w]
            rfl
          refine pure_ (i := 31) (N := some 161) (v := ?_) (a' := ?_) #[true, true, true, true, true, true, true, true, true, true, true, true, true, true, true, true, true, true, true, true, true, true, true, true, true, true, true, true, true, true, true, true, false, false, false, false, false, false, false, false, false, false, false, false, false, false, false, false, false, false, false, false, false, false, false, false, false, false, false, false] rfl rfl (any_of HT_.out (by kernel_rfl)) (fun _ _ _ h => h) (Or.inl ⟨by rfl, ?_⟩) ?_ ?_
          rotate_left
          · intro w'
            go_simp
            with_reducible rfl
          rotate_left
          · simp only [Act.put, List.setIfInBounds_toArray, List.set_cons_zero, List.set_cons_succ, i64_w, i32_w]
            rfl
          refine pure_ (i := 32) (N := some 162) (v := ?_) (a' := ?_) #[true, true, true, true, true, true, true, true, true, true, true, true, true, true, true, true, true, true, true, true, true, true, true, true, true, true, true, true, true, true, true, true, true, false, false, false, false, false, false, false, false, false, false, false, false, false, false, false, false, false, false, false, false, false, false, false, false, false, false, false] rfl rfl (any_of HT_.out (by kernel_rfl)) (fun _ _ _ h => h) (Or.inl ⟨by rfl, ?_⟩) ?_ ?_
          rotate_left
          · intro w'
            go_simp
            with_reducible rfl
          rotate_left
          · simp only [Act.put, List.setIfInBounds_toArray, List.set_cons_zero, List.set_cons_succ, i64_w, i32_w]
            rfl
          refine pure_ (i := 35) (N := some 165) (v := ?_) (a' := ?_) #[true, true, true, true, true, true, true, true, true, true, true, true, true, true, true, true, true, true, true, true, true, true, true, true, true, true, true, true, true, true, true, true, true, false, false, true, false, false, false, false, false, false, false, false, false, false, false, false, false, false, false, false, false, false, false, false, false, false, false, false] rfl rfl (any_of HT_.out (by kernel_rfl)) (fun _ _ _ h => h) (Or.inl ⟨by rfl, ?_⟩) ?_ ?_
          rotate_left
          · intro w'
            go_simp
            with_reducible rfl
          rotate_left
          · simp only [Act.put, List.setIfInBounds_toArray, List.set_cons_zero, List.set_cons_succ, i64_w, i32_w]
            rfl
          refine pure_ (i := 37) (N := some 167) (v := ?_) (a' := ?_) #[true, true, true, true, true, true, true, true, true, true, true, true, true, true, true, true, true, true, true, true, true, true, true, true, true, true, true, true, true, true, true, true, true, false, false, true, false, true, false, false, false, false, false, false, false, false, false, false, false, false, false, false, false, false, false, false, false, false, false, false] rfl rfl (any_of HT_.out (by kernel_rfl)) (fun _ _ _ h => h) (Or.inl ⟨by rfl, ?_⟩) ?_ ?_
          rotate_left
          · intro w'
            go_simp
            with_reducible rfl
          rotate_left
          · simp only [Act.put, List.setIfInBounds_toArray, List.set_cons_zero, List.set_cons_succ, i64_w, i32_w]
            rfl
          refine take_ (i := 33) (N := some 163) (v := ?_) (a' := ?_) #[true, true, true, true, true, true, true, true, true, true, true, true, true, true, true, true, true, true, true, true, true, true, true, true, true, true, true, true, true, true, true, true, true, true, false, true, false, true, false, false, false, false, false, false, false, false, false, false, false, false, false, false, false, false, false, false, false, false, false, false] rfl rfl (take_of HT_.out (by kernel_rfl)) (fun _ _ _ h => h) (Or.inl ⟨by rfl, ?_⟩) hHeld ?_ ?_
          rotate_left
          · intro w' hS_
            obtain ⟨s0, s1, s2, s3, s4, s5⟩ := hS_
            go_simp
            with_reducible rfl
          rotate_left
          · simp only [Act.put, List.setIfInBounds_toArray, List.set_cons_zero, List.set_cons_succ, i64_w, i32_w]
            rfl
          refine take_ (i := 36) (N := some 166) (v := ?_) (a' := ?_) #[true, true, true, true, true, true, true, true, true, true, true, true, true, true, true, true, true, true, true, true, true, true, true, true, true, true, true, true, true, true, true, true, true, true, false, true, true, true, false, false, false, false, false, false, false, false, false, false, false, false, false, false, false, false, false, false, false, false, false, false] rfl rfl (take_of HT_.out (by kernel_rfl)) (fun _ _ _ h => h) (Or.inl ⟨by rfl, ?_⟩) hHeld ?_ ?_
          rotate_left
          · intro w' hS_
            obtain ⟨s0, s1, s2, s3, s4, s5⟩ := hS_
            go_simp
            with_reducible rfl
          rotate_left
          · simp only [Act.put, List.setIfInBounds_toArray, List.set_cons_zero, List.set_cons_succ, i64_w, i32_w]
            rfl
          refine take_ (i := 38) (N := some 168) (v := ?_) (a' := ?_) #[true, true, true, true, true, true, true, true, true, true, true, true, true, true, true, true, true, true, true, true, true, true, true, true, true, true, true, true, true, true, true, true, true, true, false, true, true, true, true, false, false, false, false, false, false, false, false, false, false, false, false, false, false, false, false, false, false, false, false, false] rfl rfl (take_of HT_.out (by kernel_rfl)) (fun _ _ _ h => h) (Or.inl ⟨by rfl, ?_⟩) hHeld ?_ ?_
          rotate_left
          · intro w' hS_
            obtain ⟨s0, s1, s2, s3, s4, s5⟩ := hS_
            go_simp
            with_reducible rfl
          rotate_left
          · simp only [Act.put, List.setIfInBounds_toArray, List.set_cons_zero, List.set_cons_succ, i64_w, i32_w]
            rfl
          refine one_ (i := 34) (N := some 164) #[true, true, true, true, true, true, true, true, true, true, true, true, true, true, true, true, true, true, true, true, true, true, true, true, true, true, true, true, true, true, true, true, true, true, true, true, true, true, true, false, false, false, false, false, false, false, false, false, false, false, false, false, false, false, false, false, false, false, false, false] rfl rfl (one_of HT_.out (by kernel_rfl)) (by decide) (fun K hK => ?_)
          refine goes_ Try.func30 (by kernel_rfl) rfl #[.pointer (some ⟨g, 0, none⟩), .string x.f2] (by rfl) rfl rfl (by (try simp only [List.map_toArray, List.map_cons, List.map_nil]); first | done | rfl) ?_
          refine (HAH.out _ (HIP.out.below HBwh.out)).mono ?_
          rintro e wi ⟨rfl, hb_⟩
          have HBwi := Aside0.mk (below_step HBwh.out hb_)
          clear hb_
          have hswi : (fun w' => w'.cell? ⟨rb, 0, none⟩ = some (.slice A0 wl.length c0) ∧ w'.cell? ⟨rb, 1, none⟩ = some (.slice A1 ul.length c1) ∧ w'.cell? ⟨rb, 2, none⟩ = some (.slice A2 al.length c2) ∧ w'.cell? ⟨wr.heap.size, 1, none⟩ = some (.int .i64 x.f1) ∧ w'.cell? ⟨wr.heap.size, 2, none⟩ = some (.string x.f2) ∧ True) wi := by
            have h_ := HBwi.out
            exact ⟨(h_.cell (p := ⟨rb, 0, none⟩) hl6).trans hp0, (h_.cell (p := ⟨rb, 1, none⟩) hl6).trans hp1, (h_.cell (p := ⟨rb, 2, none⟩) hl6).trans hp2, (h_.cell (p := ⟨wr.heap.size, 1, none⟩) hl8).trans hp81, (h_.cell (p := ⟨wr.heap.size, 2, none⟩) hl8).trans hp82, trivial⟩
          refine ⟨_, rfl, ?_⟩
          refine hK.out _ _ hswi (fun hHeld => ?_)
          clear hK K
          refine norm_ (a' := ?_) ?_ ?_
          rotate_left
          · show Act.put _ (some 164) _ = _
            simp only [Act.put, List.setIfInBounds_toArray, List.set_cons_zero, List.set_cons_succ, i64_w, i32_w]
            rfl
          refine one_ (i := 39) (N := some 169) #[true, true, true, true, true, true, true, true, true, true, true, true, true, true, true, true, true, true, true, true, true, true, true, true, true, true, true, true, true, true, true, true, true, true, true, true, true, true, true, true, false, false, false, false, false, false, false, false, false, false, false, false, false, false, false, false, false, false, false, false] rfl rfl (one_of HT_.out (by kernel_rfl)) (by decide) (fun K hK => ?_)
          refine goes_ Try.func27 (by kernel_rfl) rfl #[.slice A0 wl.length c0, .string x.f2] (by rfl) rfl rfl (by (try simp only [List.map_toArray, List.map_cons, List.map_nil]); first | done | rfl) ?_
          refine (HPW.out wi (rdsC (HR0.out.below HBwi.out)) L0.out).mono ?_
          rintro e wj ⟨rfl, hb_⟩
          have HBwj := Aside0.mk (below_step HBwi.out (Drawn0.below hb_))
          clear hb_
          have hswj : (fun w' => w'.cell? ⟨rb, 0, none⟩ = some (.slice A0 wl.length c0) ∧ w'.cell? ⟨rb, 1, none⟩ = some (.slice A1 ul.length c1) ∧ w'.cell? ⟨rb, 2, none⟩ = some (.slice A2 al.length c2) ∧ w'.cell? ⟨wr.heap.size, 1, none⟩ = some (.int .i64 x.f1) ∧ w'.cell? ⟨wr.heap.size, 2, none⟩ = some (.string x.f2) ∧ True) wj := by
            have h_ := HBwj.out
            exact ⟨(h_.cell (p := ⟨rb, 0, none⟩) hl6).trans hp0, (h_.cell (p := ⟨rb, 1, none⟩) hl6).trans hp1, (h_.cell (p := ⟨rb, 2, none⟩) hl6).trans hp2, (h_.cell (p := ⟨wr.heap.size, 1, none⟩) hl8).trans hp81, (h_.cell (p := ⟨wr.heap.size, 2, none⟩) hl8).trans hp82, trivial⟩
          refine ⟨_, rfl, ?_⟩
          refine hK.out _ _ hswj (fun hHeld => ?_)
          clear hK K
          refine norm_ (a' := ?_) ?_ ?_
          rotate_left
          · show Act.put _ (some 169) _ = _
            simp only [Act.put, List.setIfInBounds_toArray, List.set_cons_zero, List.set_cons_succ, i64_w, i32_w]
            rfl
          refine pure_ (i := 40) (N := some 170) (v := ?_) (a' := ?_) #[true, true, true, true, true, true, true, true, true, true, true, true, true, true, true, true, true, true, true, true, true, true, true, true, true, true, true, true, true, true, true, true, true, true, true, true, true, true, true, true, true, false, false, false, false, false, false, false, false, false, false, false, false, false, false, false, false, false, false, false] rfl rfl (any_of HT_.out (by kernel_rfl)) (fun _ _ _ h => h) (Or.inl ⟨by rfl, ?_⟩) ?_ ?_
          rotate_left
          · intro w'
            go_simp
            with_reducible rfl
          rotate_left
          · simp only [Act.put, List.setIfInBounds_toArray, List.set_cons_zero, List.set_cons_succ, i64_w, i32_w]
            rfl
          refine pure_ (i := 41) (N := some 171) (v := ?_) (a' := ?_) #[true, true, true, true, true, true, true, true, true, true, true, true, true, true, true, true, true, true, true, true, true, true, true, true, true, true, true, true, true, true, true, true, true, true, true, true, true, true, true, true, true, true, false, false, false, false, false, false, false, false, false, false, false, false, false, false, false, false, false, false] rfl rfl (any_of HT_.out (by kernel_rfl)) (fun _ _ _ h => h) (Or.inl ⟨by rfl, ?_⟩) ?_ ?_
          rotate_left
          · intro w'
            go_simp
            with_reducible rfl
          rotate_left
          · simp only [Act.put, List.setIfInBounds_toArray, List.set_cons_zero, List.set_cons_succ, i64_w, i32_w]
            rfl
          refine pure_ (i := 42) (N := some 172) (v := ?_) (a' := ?_) #[true, true, true, true, true, true, true, true, true, true, true, true, true, true, true, true, true, true, true, true, true, true, true, true, true, true, true, true, true, true, true, true, true, true, true, true, true, true, true, true, true, true, true, false, false, false, false, false, false, false, false, false, false, false, false, false, false, false, false, false] rfl rfl (any_of HT_.out (by kernel_rfl)) (fun _ _ _ h => h) (Or.inl ⟨by rfl, ?_⟩) ?_ ?_
          rotate_left
          · intro w'
            go_simp
            with_reducible rfl
          rotate_left
          · simp only [Act.put, List.setIfInBounds_toArray, List.set_cons_zero, List.set_cons_succ, i64_w, i32_w]
            rfl
          refine pure_ (i := 43) (N := some 173) (v := ?_) (a' := ?_) #[true, true, true, true, true, true, true, true, true, true, true, true, true, true, true, true, true, true, true, true, true, true, true, true, true, true, true, true, true, true, true, true, true, true, true, true, true, true, true, true, true, true, true, true, false, false, false, false, false, false, false, false, false, false, false, false, false, false, false, false] rfl rfl (any_of HT_.out (by kernel_rfl)) (fun _ _ _ h => h) (Or.inl ⟨by rfl, ?_⟩) ?_ ?_
          rotate_left
          · intro w'
            go_simp
            with_reducible rfl
          rotate_left
          · simp only [Act.put, List.setIfInBounds_toArray, List.set_cons_zero, List.set_cons_succ, i64_w, i32_w]
            rfl
          refine pure_ (i := 44) (N := some 174) (v := ?_) (a' := ?_) #[true, true, true, true, true, true, true, true, true, true, true, true, true, true, true, true, true, true, true, true, true, true, true, true, true, true, true, true, true, true, true, true, true, true, true, true, true, true, true, true, true, true, true, true, true, false, false, false, false, false, false, false, false, false, false, false, false, false, false, false] rfl rfl (any_of HT_.out (by kernel_rfl)) (fun _ _ _ h => h) (Or.inl ⟨by rfl, ?_⟩) ?_ ?_
          rotate_left
          · intro w'
            go_simp
            with_reducible rfl
          rotate_left
          · simp only [Act.put, List.setIfInBounds_toArray, List.set_cons_zero, List.set_cons_succ, i64_w, i32_w]
            rfl
          refine pure_ (i := 45) (N := some 175) (v := ?_) (a' := ?_) #[true, true, true, true, true, true, true, true, true, true, true, true, true, true, true, true, true, true, true, true, true, true, true, true, true, true, true, true, true, true, true, true, true, true, true, true, true, true, true, true, true, true, true, true, true, true, false, false, false, false, false, false, false, false, false, false, false, false, false, false] rfl rfl (any_of HT_.out (by kernel_rfl)) (fun _ _ _ h => h) (Or.inl ⟨by rfl, ?_⟩) ?_ ?_
          rotate_left
          · intro w'
            go_simp
            with_reducible rfl
          rotate_left
          · simp only [Act.put, List.setIfInBounds_toArray, List.set_cons_zero, List.set_cons_succ, i64_w, i32_w]
            rfl
          refine pure_ (i := 46) (N := some 176) (v := ?_) (a' := ?_) #[true, true, true, true, true, true, true, true, true, true, true, true, true, true, true, true, true, true, true, true, true, true, true, true, true, true, true, true, true, true, true, true, true, true, true, true, true, true, true, true, true, true, true, true, true, true, true, false, false, false, false, false, false, false, false, false, false, false, false, false] rfl rfl (any_of HT_.out (by kernel_rfl)) (fun _ _ _ h => h) (Or.inl ⟨by rfl, ?_⟩) ?_ ?_
          rotate_left
          · intro w'
            go_simp
            with_reducible rfl
          rotate_left
          · simp only [Act.put, List.setIfInBounds_toArray, List.set_cons_zero, List.set_cons_succ, i64_w, i32_w]
            rfl
          refine pure_ (i := 47) (N := some 177) (v := ?_) (a' := ?_) #[true, true, true, true, true, true, true, true, true, true, true, true, true, true, true, true, true, true, true, true, true, true, true, true, true, true, true, true, true, true, true, true, true, true, true, true, true, true, true, true, true, true, true, true, true, true, true, true, false, false, false, false, false, false, false, false, false, false, false, false] rfl rfl (any_of HT_.out (by kernel_rfl)) (fun _ _ _ h => h) (Or.inl ⟨by rfl, ?_⟩) ?_ ?_
          rotate_left
          · intro w'
            go_simp
            with_reducible rfl
          rotate_left
          · simp only [Act.put, List.setIfInBounds_toArray, List.set_cons_zero, List.set_cons_succ, i64_w, i32_w]
            rfl
          refine pure_ (i := 48) (N := some 178) (v := ?_) (a' := ?_) #[true, true, true, true, true, true, true, true, true, true, true, true, true, true, true, true, true, true, true, true, true, true, true, true, true, true, true, true, true, true, true, true, true, true, true, true, true, true, true, true, true, true, true, true, true, true, true, true, true, false, false, false, false, false, false, false, false, false, false, false] rfl rfl (any_of HT_.out (by kernel_rfl)) (fun _ _ _ h => h) (Or.inl ⟨by rfl, ?_⟩) ?_ ?_
          rotate_left
          · intro w'
            go_simp
            with_reducible rfl
          rotate_left
          · simp only [Act.put, List.setIfInBounds_toArray, List.set_cons_zero, List.set_cons_succ, i64_w, i32_w]
            rfl
          refine pure_ (i := 49) (N := some 179) (v := ?_) (a' := ?_) #[true, true, true, true, true, true, true, true, true, true, true, true, true, true, true, true, true, true, true, true, true, true, true, true, true, true, true, true, true, true, true, true, true, true, true, true, true, true, true, true, true, true, true, true, true, true, true, true, true, true, false, false, false, false, false, false, false, false, false, false] rfl rfl (any_of HT_.out (by kernel_rfl)) (fun _ _ _ h => h) (Or.inl ⟨by rfl, ?_⟩) ?_ ?_
          rotate_left
          · intro w'
            go_simp
            with_reducible rfl
          rotate_left
          · simp only [Act.put, List.setIfInBounds_toArray, List.set_cons_zero, List.set_cons_succ, i64_w, i32_w]
            rfl
          refine pure_ (i := 50) (N := some 180) (v := ?_) (a' := ?_) #[true, true, true, true, true, true, true, true, true, true, true, true, true, true, true, true, true, true, true, true, true, true, true, true, true, true, true, true, true, true, true, true, true, true, true, true, true, true, true, true, true, true, true, true, true, true, true, true, true, true, true, false, false, false, false, false, false, false, false, false] rfl rfl (any_of HT_.out (by kernel_rfl)) (fun _ _ _ h => h) (Or.inl ⟨by rfl, ?_⟩) ?_ ?_
          rotate_left
          · intro w'
            go_simp
            with_reducible rfl
          rotate_left
          · simp only [Act.put, List.setIfInBounds_toArray, List.set_cons_zero, List.set_cons_succ, i64_w, i32_w]
            rfl
          refine pure_ (i := 51) (N := some 181) (v := undef) (a' := ?_) #[true, true, true, true, true, true, true, true, true, true, true, true, true, true, true, true, true, true, true, true, true, true, true, true, true, true, true, true, true, true, true, true, true, true, true, true, true, true, true, true, true, true, true, true, true, true, true, true, true, true, true, true, false, false, false, false, false, false, false, false] rfl rfl (any_of HT_.out (by kernel_rfl)) (fun _ _ _ h => h) (Or.inr ⟨by rfl, rfl⟩) ?_ ?_
          rotate_left
          · simp only [Act.put, List.setIfInBounds_toArray, List.set_cons_zero, List.set_cons_succ, i64_w, i32_w]
            rfl
          refine pure_ (i := 52) (N := some 182) (v := undef) (a' := ?_) #[true, true, true, true, true, true, true, true, true, true, true, true, true, true, true, true, true, true, true, true, true, true, true, true, true, true, true, true, true, true, true, true, true, true, true, true, true, true, true, true, true, true, true, true, true, true, true, true, true, true, true, true, true, false, false, false, false, false, false, false] rfl rfl (any_of HT_.out (by kernel_rfl)) (fun _ _ _ h => h) (Or.inr ⟨by rfl, rfl⟩) ?_ ?_
          rotate_left
          · simp only [Act.put, List.setIfInBounds_toArray, List.set_cons_zero, List.set_cons_succ, i64_w, i32_w]
            rfl
          refine pure_ (i := 53) (N := some 183) (v := undef) (a' := ?_) #[true, true, true, true, true, true, true, true, true, true, true, true, true, true, true, true, true, true, true, true, true, true, true, true, true, true, true, true, true, true, true, true, true, true, true, true, true, true, true, true, true, true, true, true, true, true, true, true, true, true, true, true, true, true, false, false, false, false, false, false] rfl rfl (any_of HT_.out (by kernel_rfl)) (fun _ _ _ h => h) (Or.inr ⟨by rfl, rfl⟩) ?_ ?_
          rotate_left
          · simp only [Act.put, List.setIfInBounds_toArray, List.set_cons_zero, List.set_cons_succ, i64_w, i32_w]
            rfl
          refine pure_ (i := 54) (N := some 184) (v := undef) (a' := ?_) #[true, true, true, true, true, true, true, true, true, true, true, true, true, true, true, true, true, true, true, true, true, true, true, true, true, true, true, true, true, true, true, true, true, true, true, true, true, true, true, true, true, true, true, true, true, true, true, true, true, true, true, true, true, true, true, false, false, false, false, false] rfl rfl (any_of HT_.out (by kernel_rfl)) (fun _ _ _ h => h) (Or.inr ⟨by rfl, rfl⟩) ?_ ?_
          rotate_left
          · simp only [Act.put, List.setIfInBounds_toArray, List.set_cons_zero, List.set_cons_succ, i64_w, i32_w]
            rfl
          refine pure_ (i := 55) (N := some 185) (v := undef) (a' := ?_) #[true, true, true, true, true, true, true, true, true, true, true, true, true, true, true, true, true, true, true, true, true, true, true, true, true, true, true, true, true, true, true, true, true, true, true, true, true, true, true, true, true, true, true, true, true, true, true, true, true, true, true, true, true, true, true, true, false, false, false, false] rfl rfl (any_of HT_.out (by kernel_rfl)) (fun _ _ _ h => h) (Or.inr ⟨by rfl, rfl⟩) ?_ ?_
          rotate_left
          · simp only [Act.put, List.setIfInBounds_toArray, List.set_cons_zero, List.set_cons_succ, i64_w, i32_w]
            rfl
          refine pure_ (i := 56) (N := some 186) (v := undef) (a' := ?_) #[true, true, true, true, true, true, true, true, true, true, true, true, true, true, true, true, true, true, true, true, true, true, true, true, true, true, true, true, true, true, true, true, true, true, true, true, true, true, true, true, true, true, true, true, true, true, true, true, true, true, true, true, true, true, true, true, true, false, false, false] rfl rfl (any_of HT_.out (by kernel_rfl)) (fun _ _ _ h => h) (Or.inr ⟨by rfl, rfl⟩) ?_ ?_
          rotate_left
          · simp only [Act.put, List.setIfInBounds_toArray, List.set_cons_zero, List.set_cons_succ, i64_w, i32_w]
            rfl
          refine pure_ (i := 57) (N := some 187) (v := undef) (a' := ?_) #[true, true, true, true, true, true, true, true, true, true, true, true, true, true, true, true, true, true, true, true, true, true, true, true, true, true, true, true, true, true, true, true, true, true, true, true, true, true, true, true, true, true, true, true, true, true, true, true, true, true, true, true, true, true, true, true, true, true, false, false] rfl rfl (any_of HT_.out (by kernel_rfl)) (fun _ _ _ h => h) (Or.inr ⟨by rfl, rfl⟩) ?_ ?_
          rotate_left
          · simp only [Act.put, List.setIfInBounds_toArray, List.set_cons_zero, List.set_cons_succ, i64_w, i32_w]
            rfl
          refine pure_ (i := 58) (N := some 188) (v := ?_) (a' := ?_) #[true, true, true, true, true, true, true, true, true, true, true, true, true, true, true, true, true, true, true, true, true, true, true, true, true, true, true, true, true, true, true, true, true, true, true, true, true, true, true, true, true, true, true, true, true, true, true, true, true, true, true, true, true, true, true, true, true, true, true, false] rfl rfl (any_of HT_.out (by kernel_rfl)) (fun _ _ _ h => h) (Or.inl ⟨by rfl, ?_⟩) ?_ ?_
          rotate_left
          · intro w'
            go_simp
            with_reducible rfl
          rotate_left
          · simp only [Act.put, List.setIfInBounds_toArray, List.set_cons_zero, List.set_cons_succ, i64_w, i32_w]
            rfl
          refine pure_ (i := 59) (N := some 189) (v := ?_) (a' := ?_) #[true, true, true, true, true, true, true, true, true, true, true, true, true, true, true, true, true, true, true, true, true, true, true, true, true, true, true, true, true, true, true, true, true, true, true, true, true, true, true, true, true, true, true, true, true, true, true, true, true, true, true, true, true, true, true, true, true, true, true, true] rfl rfl (any_of HT_.out (by kernel_rfl)) (fun _ _ _ h => h) (Or.inl ⟨by rfl, ?_⟩) ?_ ?_
          rotate_left
          · intro w'
            go_simp
            with_reducible rfl
          rotate_left
          · simp only [Act.put, List.setIfInBounds_toArray, List.set_cons_zero, List.set_cons_succ, i64_w, i32_w]
            rfl
          refine done_ (done_of HT_.out (by kernel_rfl)) ?_
          clear hHeld
          have HIZ := Aside0.mk (HIP.out.below HBwj.out)
          have HWZ := Aside0.mk (HWP.out.trans (HBwj.out.mono HWP.out.size))
          have HSZ' := Aside0.mk (HSP.out.below HBwj.out)
          have HRZ := Aside0.mk (HRP.out.below HBwj.out)
          go_wp2
          go_roundw
          case measure => simp [intOf]; omega
          case rel => exact ⟨k + 1, s', by omega, by rw [show ((k : Int) + 1) = ((k + 1 : Nat) : Int) by omega], HIN', HNE', HIZ, HWZ, HSZ', HRZ⟩
    · have hke : k = es.length := by omega
      subst hke
      have HBE := Aside0.mk HB.out
      clear hk hlt
      go_wp2
      go_ret
      exact ⟨rfl, HBE.out⟩
theorem plays_law (A : Option Addr) (n : Nat) (l0 : List S29) (w : World) (hr0 : Kd.C k29 w A l0.length l0) (hc0 : l0.length ≤ n) :
    Calls Try.prog 5 #[.slice A l0.length n] w fun e w' => e = .returned (.bool true) ∧ Below w.heap.size w w' :=
  plays_calls A n l0 w (Kd.V_mk hc0 (Kd.C_F (Kd.heap_iso _ (Kd.heap_pair (Kd.heap_int _) (Kd.heap_pair (Kd.heap_int _) (Kd.heap_pair Kd.heap_string (Kd.heap_slice _ Kd.heap_string))))) hr0))
end Go.Proofs.Ytmkijdkfogebjaa.Man
