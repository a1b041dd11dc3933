/-
  Contracts of the queue's Ids and Expire. Conditions: none.
-/
import Derived.Test.YtdcnmjdohjodhaaMd
import Derived.Deep.LoopGhost
import Derived.WalkMore
set_option linter.unusedVariables false
set_option linter.unusedSimpArgs false
namespace Go.Proofs.Ytdcnmjdohjodhaa.Man
open Go.RowKit Go.Conc Go.Proofs.Ytdcnmjdohjodhaa.Comm Go.Proofs.YtdcnmjdohjodhaaW.PrintWords Go.Proofs.YtdcnmjdohjodhaaW.PrintLast Go.Proofs.YtdcnmjdohjodhaaW.PrintMore Go.Proofs.Ytdcnmjdohjodhaa.PE Go.Proofs.Ytdcnmjdohjodhaa.PA Go.Proofs.Ytdcnmjdohjodhaa.PF Go.Proofs.Ytdcnmjdohjodhaa.Hid

def queue_Queue_Ids.f (s : QS) : Option (List Int × QS) := some (s.row.map (·.f0), s)
set_option maxHeartbeats 4000000 in
theorem ids_raw (g : Nat) (s : QS) (w0 w : World) (hI : IsS62 w0 w g s) :
    Calls Try.prog 15 #[.pointer (some ⟨g, 0, none⟩)] w fun e w' => ∃ v1_ : Value, e = .returned v1_ ∧ Kd.R (Kd.int .i64) 3 w' w.heap.size (fun _ => True) v1_ (s.row.map (·.f0)) ∧ Below w.heap.size w w' := by
  have HLEN := Aside0.mk (len_raw g s w0 w hI)
  have HI := Aside0.mk hI
  have hlr : s.row.length ≤ 16 := by
    obtain ⟨c, A, n, sn, rc, buf, hb, hc, hl, hr, hn, hC, hR, hg, hgc⟩ := hI.open_
    omega
  clear hI
  go_enter Try.func15, Try.ntmps15
  go_wp2_with (go_at_call 13; refine HLEN.out.mono ?_; rintro e w' ⟨rfl, rfl⟩)
  go_loopw [3, 7] (fun v3 v7 wr => ∃ k : Nat, k ≤ s.row.length ∧ v7 = .int .i64 k ∧ Aside0 (Kd.R (Kd.int .i64) 3 wr w.heap.size (fun _ => True) v3 ((s.row.take k).map (·.f0))) ∧ Aside0 (Below w.heap.size w wr)) (fun _ v7 _ => s.row.length - (intOf v7).toNat)
  case atStart => exact ⟨0, Nat.zero_le _, rfl, ⟨Kd.R_nil _ _ _ _ _⟩, ⟨Below.refl _ _⟩⟩
  case round =>
    obtain ⟨k, hk, rfl, HO, HB⟩ := hrel
    by_cases hlt : k < s.row.length
    · obtain ⟨c, A, n, sn, rc, buf, hgb, hcb, hl, hr, hn, hC, hR, hg, hgc⟩ := (HI.out.below HB.out).open_
      have h1 : wr.cell? ⟨g, 1, none⟩ = some (.slice A s.row.length n) := (blk_cell hgb 1).trans rfl
      obtain ⟨ad, rfl, hx, _⟩ := at_T65 hC (k : Int) (by omega) (by omega)
      obtain ⟨x, hxe⟩ : ∃ x : Int, x = (rd_T65 s.row (k : Int)).f0 := ⟨_, rfl⟩
      rw [← hxe, Int.toNat_natCast] at hx
      have HX : Aside0 ((s.row.take (k + 1)).map (·.f0) = (s.row.take k).map (·.f0) ++ [x]) := ⟨by
        rw [List.take_succ_eq_append_getElem hlt, List.map_append, hxe]
        simp [rd_T65, List.getD, hlt]⟩
      have h0k : (0 : Int) ≤ (k : Int) := by omega
      have hkl : (k : Int) < (s.row.length : Int) := by omega
      have hlen : ((s.row.take k).map (·.f0)).length = k := by simp; omega
      have HLEN2 := Aside0.mk hlen
      generalize (s.row.take k).map (·.f0) = xs at HO HX HLEN2
      clear hgb hcb hl hn hC hR hxe hlen
      go_wp2_with (at_builtin; refine Kd.R_append (Kd.int .i64) (w0 := w) w.heap.size rfl (.tmp 10) (.tmp 19) 38 3 (.int .i64 0) 8 rfl Try.underlying38 info3 rfl (by decide) (by omega) _ xs x [.int .i64 x] (fun _ => True) (fun _ => False) rfl rfl rfl (fun _ h => h.elim) (fun _ _ => trivial) ?aO ?aB ?aS ?aL ?_; (case aO => exact HO.out); (case aB => exact HB.out); (case aS => exact HB.out.size); (case aL => have := HLEN2.out; omega); intro v1 w1 ho hb hg hat; have HO1 := Aside0.mk ho; have HB1 := Aside0.mk hb; clear ho hb hg hat)
      exact ⟨⟨k + 1, by omega, by rw [show ((k : Int) + 1) = ((k + 1 : Nat) : Int) by omega], ⟨by rw [HX.out]; exact HO1.out⟩, HB1⟩, by simp [intOf]; omega⟩
    · have hke : k = s.row.length := by omega
      subst hke
      rw [List.take_length] at HO
      clear hk
      go_wp2
      go_ret
      exact ⟨_, rfl, HO.out, HB.out⟩
theorem queue_Queue_Ids.calls (g : Nat) (s : QS) (r1 : List Int) (s' : QS) (w0 w : World) (hI : IsS62 w0 w g s) (hB : Below w0.heap.size w0 w) (h : queue_Queue_Ids.f s = some (r1, s')) :
    Calls Try.prog 15 #[.pointer (some ⟨g, 0, none⟩)] w fun e w' => ∃ v1_ : Value, e = .returned v1_ ∧ Kd.R (Kd.int .i64) 3 w' w.heap.size (fun _ => True) v1_ r1 ∧ IsS62 w0 w' g s' ∧ Below w0.heap.size w0 w' ∧ KeptH TQ w w' := by
  obtain ⟨rfl, rfl⟩ := Prod.mk.inj (Option.some.inj h)
  refine (ids_raw g s w0 w hI).mono ?_
  rintro e w' ⟨v, rfl, hR, hb⟩
  exact ⟨v, rfl, hR, done_below hI hB hb⟩

/-! #### Expire -/
/-- Is it past? -/
def late (now wait : Int) (x : S65) : Bool := ((sat_Add.f x.f1 wait).bind fun t => sat_Past.f now t).getD false
def expLoop (now wait : Int) : Nat → List S65 → List Int → List Int × List S65
  | 0, row, acc => (acc, row)
  | n + 1, row, acc => match row.find? (late now wait) with
    | none => (acc, row)
    | some x => expLoop now wait n (row.eraseIdx (placeOf row x.f0 0).toNat) (acc ++ [x.f0])
def queue_Queue_Expire.f (s : QS) (now wait : Int) : Option (List Int × QS) := some ((expLoop now wait s.row.length s.row []).1, { s with row := (expLoop now wait s.row.length s.row []).2 })
theorem sat_Past_some (a b : Int) : ∃ r, sat_Past.f a b = some r := by
  unfold sat_Past.f sat_Sub.f sat_Cut.f
  simp
theorem sat_Add_some (a b : Int) : ∃ r, sat_Add.f a b = some r := by
  unfold sat_Add.f sat_Cut.f
  simp
theorem late_eq (now wait : Int) (x : S65) : ∃ t, sat_Add.f x.f1 wait = some t ∧ sat_Past.f now t = some (late now wait x) := by
  obtain ⟨t, ht⟩ := sat_Add_some x.f1 wait
  obtain ⟨r, hr⟩ := sat_Past_some now t
  exact ⟨t, ht, by unfold late; rw [ht, Option.bind_some, hr]; rfl⟩
theorem bcell {W w1 : World} (hb : Below W.heap.size W w1) : (∀ b o, b < W.heap.size → w1.cell? ⟨b, o, none⟩ = W.cell? ⟨b, o, none⟩) ∧ (∀ b o, b < W.heap.size → w1.frozen? ⟨b, o, none⟩ = W.frozen? ⟨b, o, none⟩) :=
  ⟨fun b o h => hb.cell (p := ⟨b, o, none⟩) h, fun b o h => hb.frozen (p := ⟨b, o, none⟩) h⟩
/-- The first one that is so, or none. -/
theorem first_of {α : Type} (p : α → Bool) : ∀ (l : List α), ∃ i, i ≤ l.length ∧ (∀ j (h : j < l.length), j < i → p l[j] = false) ∧ (∀ h : i < l.length, p l[i] = true ∧ l.find? p = some l[i]) ∧ (i = l.length → l.find? p = none)
  | [] => ⟨0, Nat.le_refl _, fun j h => by simp at h, fun h => by simp at h, fun _ => rfl⟩
  | x :: l => by
    by_cases c : p x = true
    · exact ⟨0, Nat.zero_le _, fun j _ h => by omega, fun _ => ⟨c, by simp [List.find?, c]⟩, fun h => by simp at h⟩
    · obtain ⟨i, h1, h2, h3, h4⟩ := first_of p l
      refine ⟨i + 1, by simpa using h1, fun j h hj => ?_, fun h => ?_, fun h => ?_⟩
      · cases j with
        | zero => simpa using c
        | succ j => exact h2 j (by simpa using h) (by omega)
      · have := h3 (by simpa using h)
        refine ⟨by simpa using this.1, ?_⟩
        rw [List.find?, show p x = false by simpa using c]
        simpa using this.2
      · rw [List.find?, show p x = false by simpa using c]
        exact h4 (by simpa using h)
theorem placeOf_mem (id : Int) : ∀ (xs : List S65) (j : Int), 0 ≤ j → ∀ x ∈ xs, x.f0 = id → 0 ≤ placeOf xs id j
  | [], _, _, x, hx, _ => by simp at hx
  | y :: l, j, hj, x, hx, he => by
    unfold placeOf
    by_cases c : y.f0 = id
    · rw [if_pos c]; exact hj
    · rw [if_neg c]
      rcases List.mem_cons.1 hx with rfl | hx
      · exact absurd he c
      · exact placeOf_mem id l (j + 1) (by omega) x hx he
set_option maxHeartbeats 16000000 in
theorem expire_raw (g : Nat) (s : QS) (a1 a2 : Int) (w0 w : World) (hI : IsS62 w0 w g s) (hB : Below w0.heap.size w0 w) :
    Calls Try.prog 20 #[.pointer (some ⟨g, 0, none⟩), .int .i64 a1, .int .i64 a2] w fun e w' => ∃ v1_ : Value, e = .returned v1_ ∧ Kd.R (Kd.int .i64) 3 w' w.heap.size (fun _ => True) v1_ (expLoop a1 a2 s.row.length s.row []).1 ∧
      IsS62 w0 w' g { s with row := (expLoop a1 a2 s.row.length s.row []).2 } ∧ Below w0.heap.size w0 w' ∧ KeptH TQ w w' := by
  have HI := Aside0.mk hI
  have HB := Aside0.mk hB
  clear hI hB
  obtain ⟨RES, hres⟩ : ∃ RES, RES = expLoop a1 a2 s.row.length s.row [] := ⟨_, rfl⟩
  rw [← hres]
  have HRES := Aside0.mk hres.symm
  clear hres
  go_enter Try.func20, Try.ntmps20
  go_wp2
  go_step3
  go_wp2
  go_step3
  go_wp2
  go_loopg [7] (s.row.length) (fun n v7 wr => ∃ (row : List S65) (acc : List Int), n = row.length ∧ Aside0 (expLoop a1 a2 n row acc = RES) ∧ Aside0 (acc.length + row.length ≤ 16) ∧ Aside0 (Kd.R (Kd.int .i64) 3 wr w.heap.size (fun _ => True) v7 acc) ∧ Aside0 (IsS62 w0 wr g { s with row := row }) ∧ Aside0 (Below w0.heap.size w0 wr) ∧ Aside0 (KeptH TQ w wr))
  case atStart =>
    refine ⟨s.row, [], rfl, HRES, ⟨?_⟩, ⟨Kd.R_nil _ _ _ _ _⟩, HI, HB, ⟨KeptH.refl _ _⟩⟩
    obtain ⟨c, A, n, sn, rc, buf, hb, hc, hl, hr, hn, hC, hR, hg, hgc⟩ := HI.out.open_
    simp; omega
  case round =>
    obtain ⟨row, acc, rfl, HEX, HLN, HO, HIR, HBR, HKR⟩ := hrel
    have HLEN := Aside0.mk (len_raw g { s with row := row } w0 wr HIR.out)
    by_cases hrow : row.length = 0
    · have hr0 : row = [] := List.eq_nil_of_length_eq_zero hrow
      subst hr0
      have HRS : Aside0 (RES = (acc, [])) := ⟨HEX.out.symm⟩
      clear HEX hrow
      go_wp2_with (go_at_call 13; refine HLEN.out.mono ?_; rintro e w' ⟨rfl, rfl⟩)
      rw [Exit.noGoto_ret]
      go_ret
      rw [HRS.out]
      exact ⟨_, rfl, HO.out, HIR.out, HBR.out, HKR.out⟩
    · obtain ⟨i, hi, hno, hyes, hnone⟩ := first_of (late a1 a2) row
      obtain ⟨c, A, n, sn, rc, buf, hgb, hcb, hl, hr, hn, hC, hR, hg, hgc⟩ := HIR.out.open_
      have h1 : wr.cell? ⟨g, 1, none⟩ = some (.slice A row.length n) := (blk_cell hgb 1).trans rfl
      have hgl : g < wr.heap.size := blk_lt hgb
      have HC := Aside0.mk hC
      have hlr : row.length ≤ 16 := by have : ({ s with row := row } : QS).row.length = row.length := rfl; omega
      have hpos : ((row.length : Int) > 0) := by omega
      have hpd : decide (0 < row.length) = true := by simp; omega
      clear hgb hcb hl hn hC hR hrow
      go_wp2_with (go_at_call 13; refine HLEN.out.mono ?_; rintro e w' ⟨rfl, rfl⟩)
      obtain ⟨wo, rfl⟩ : ∃ wo : World, wo = wr := ⟨_, rfl⟩
      obtain ⟨vo, rfl⟩ : ∃ vo : Value, vo = u7 := ⟨_, rfl⟩
      have H1 := Aside0.mk h1
      have HNO := Aside0.mk hno
      have HYES := Aside0.mk hyes
      have HNONE := Aside0.mk hnone
      clear h1 hno hyes hnone
      go_loopg [7, 18] (row.length) (fun m v7' v18 wr' => ∃ k : Nat, k ≤ i ∧ m + k = row.length ∧ v7' = vo ∧ v18 = .int .i64 k ∧ Aside0 (Below wo.heap.size wo wr'))
      case atStart => exact ⟨0, Nat.zero_le _, rfl, rfl, rfl, ⟨Below.refl _ _⟩⟩
      case round =>
        obtain ⟨k, hki, hnk, rfl, rfl, HB2⟩ := hrel
        by_cases hkl : k < row.length
        · obtain ⟨ad, rfl, hx0, hx1⟩ := at_T65 (Kd.C_below HC.out HB2.out) (k : Int) (by omega) (by omega)
          have hxe : rd_T65 row (k : Int) = row[k] := by simp [rd_T65, List.getD, hkl]
          rw [hxe, Int.toNat_natCast] at hx0 hx1
          obtain ⟨t, ht, hp⟩ := late_eq a1 a2 row[k]
          obtain ⟨x, hx⟩ : ∃ x, x = row[k] := ⟨_, rfl⟩
          rw [← hx] at hx0 hx1 ht hp
          have hkl' : (k : Int) < (row.length : Int) := by omega
          have hk0 : (0 : Int) ≤ (k : Int) := by omega
          have HT := Aside0.mk ht
          have HX := Aside0.mk hx
          by_cases hlt : k < i
          · have hf : late a1 a2 x = false := by rw [hx]; exact HNO.out k hkl hlt
            rw [hf] at hp
            have HP := Aside0.mk hp
            clear hxe ht hx hp hf
            go_wp2_with (first
              | (go_at_call 35; refine (sat_Add.calls x.f1 a2 t _ HT.out).mono ?_; rintro e w1 ⟨rfl, hb1⟩; have HB1 := Aside0.mk hb1; obtain ⟨hc1, hf1⟩ := bcell hb1)
              | (go_at_call 34; refine (sat_Past.calls a1 t false _ HP.out).mono ?_; rintro e w3 ⟨rfl, hb3⟩; have HB3 := Aside0.mk hb3; clear hc1 hf1))
            go_roundg (gk - 1)
            case measure => omega
            case rel => exact ⟨k + 1, by omega, by omega, rfl, by rw [show ((k : Int) + 1) = ((k + 1 : Nat) : Int) by omega], ⟨below_step (below_step (below_alloc HB2.out _) HB1.out) HB3.out⟩⟩
          · have hke : k = i := by omega
            subst hke
            obtain ⟨hl1, hfind⟩ := HYES.out hkl
            rw [← hx] at hl1 hfind
            rw [hl1] at hp
            have HP := Aside0.mk hp
            have hmem : x ∈ row := by rw [hx]; exact List.getElem_mem hkl
            have hpl := placeOf_mem x.f0 row 0 (by omega) x hmem rfl
            have hpr : placeOf row x.f0 0 < (row.length : Int) := by rcases placeOf_range x.f0 row 0 (by omega) with h | h <;> omega
            obtain ⟨row', hrow'⟩ : ∃ row', row' = row.eraseIdx (placeOf row x.f0 0).toNat := ⟨_, rfl⟩
            have hrl : row'.length = row.length - 1 := by rw [hrow', List.length_eraseIdx_of_lt (by omega)]
            have HEX2 : Aside0 (expLoop a1 a2 (row.length - 1) row' (acc ++ [x.f0]) = RES) := ⟨by
              rw [← HEX.out]
              obtain ⟨m, hm⟩ : ∃ m, row.length = m + 1 := ⟨row.length - 1, by omega⟩
              rw [hm, expLoop, hfind, hrow']
              rfl⟩
            have HRM : Aside0 (queue_Queue_Remove.f { s with row := row } x.f0 = some (true, { s with row := row' })) := ⟨by unfold queue_Queue_Remove.f; rw [if_neg (by show ¬ placeOf row x.f0 0 < 0; omega), hrow']⟩
            have HRL := Aside0.mk hrl
            have hm1 : row.length - 1 < row.length := by omega
            clear hxe ht hx hp hl1 hfind hmem hpl hpr hrow' hrl
            go_wp2_with (first
              | (go_at_call 35; refine (sat_Add.calls x.f1 a2 t _ HT.out).mono ?_; rintro e w1 ⟨rfl, hb1⟩; have HB1 := Aside0.mk hb1; obtain ⟨hc1, hf1⟩ := bcell hb1)
              | (go_at_call 34; refine (sat_Past.calls a1 t true _ HP.out).mono ?_; rintro e w3 ⟨rfl, hb3⟩; have HB3 := Aside0.mk hb3; have HW3 := Aside0.mk (below_step (below_step (below_alloc HB2.out (.cells #[.int .i64 x.f0, .int .i64 x.f1] 65)) HB1.out) HB3.out); have h93 : w3.cell? ⟨wr.heap.size, 0, none⟩ = some (.int .i64 x.f0) := ((HB3.out.cell (p := ⟨wr.heap.size, 0, none⟩) (Nat.lt_of_lt_of_le (by simp) HB1.out.size)).trans ((HB1.out.cell (p := ⟨wr.heap.size, 0, none⟩) (by simp)).trans (by simp [go_sem]))); clear hc1 hf1)
              | (at_builtin; refine Kd.R_append (Kd.int .i64) (w0 := w3) w.heap.size rfl (.tmp 28) (.tmp 31) 38 3 (.int .i64 0) 8 rfl Try.underlying38 info3 rfl (by decide) (by omega) _ acc x.f0 [.int .i64 x.f0] (fun _ => True) (fun _ => False) rfl rfl rfl (fun _ h => h.elim) (fun _ _ => trivial) ?aO ?aB ?aS ?aL ?_; (case aO => exact Kd.R_below HO.out HW3.out); (case aB => exact Below.refl _ _); (case aS => exact Nat.le_trans HKR.out.1.1 HW3.out.size); (case aL => have := HLN.out; omega); intro v1 w4 ho hb4 hg4 hat; have HO4 := Aside0.mk ho; have HB4 := Aside0.mk hb4; have HG4 := Aside0.mk hg4; have h94 : w4.cell? ⟨wr.heap.size, 0, none⟩ = some (.int .i64 x.f0) := cell_grown hg4 h93 (fun e => by have h8 := Kd.R_lt HO.out _ e.symm; have h9 := HB2.out.size; exact absurd h8 (Nat.not_lt.2 h9)); clear ho hb4 hg4 hat))
            have hO3 := Kd.R_below HO.out HW3.out
            have hI3 := HIR.out.below HW3.out
            have hI4 := hI3.grown HG4.out (hI3.own_ne hO3 (by decide))
            have hB3 := HBR.out.trans (HW3.out.mono HBR.out.size)
            have hww : w0.heap.size ≤ w.heap.size := HB.out.size
            have hB4 : Below w0.heap.size w0 w4 := hB3.grown HG4.out hB3.size (fun k h => Nat.le_trans hww (Kd.R_base hO3 k h))
            have hK4 : KeptH TQ w w4 := (HKR.out.below HW3.out).grown HG4.out (fun k h => .inr (Kd.R_base hO3 k h))
            have HRE := Aside0.mk (queue_Queue_Remove.calls g { s with row := row } x.f0 true { s with row := row' } w0 w4 hI4 hB4 HRM.out)
            have HK4 := Aside0.mk hK4
            clear hO3 hI3 hI4 hB3 hww hB4 hK4
            go_wp2_with (go_at_call 17; refine HRE.out.mono ?_; rintro e w5 ⟨rfl, hi5, hb5, hk5⟩)
            have HI5 := Aside0.mk hi5
            have HB5 := Aside0.mk hb5
            have HK5 := Aside0.mk (HK4.out.trans hk5)
            have HO5 := Aside0.mk (Kd.R_mono (Ko.R_keep (Ko.R_apart (T := TQ) HO4.out (by decide)) hk5 (fun _ h => h.2)) (fun _ h => h.1))
            clear hi5 hb5 hk5
            go_roundg (row.length - 1)
            case measure => exact hm1
            case rel => exact ⟨row', acc ++ [x.f0], by rw [HRL.out], HEX2, ⟨by rw [List.length_append, HRL.out]; have := HLN.out; simp; omega⟩, HO5, HI5, HB5, HK5⟩
        · have hke : k = row.length := by omega
          have hie : i = row.length := by omega
          have HRS : Aside0 (RES = (acc, row)) := ⟨by
            rw [← HEX.out]
            obtain ⟨m, hm⟩ : ∃ m, row.length = m + 1 := ⟨row.length - 1, by omega⟩
            rw [hm, expLoop, HNONE.out hie]⟩
          subst hke
          clear hie
          go_wp2
          rw [Exit.noGoto_ret]
          go_ret
          rw [HRS.out]
          exact ⟨_, rfl, Kd.R_below HO.out HB2.out, HIR.out.below HB2.out, HBR.out.trans (HB2.out.mono HBR.out.size), HKR.out.below HB2.out⟩
theorem queue_Queue_Expire.calls (g : Nat) (s : QS) (a1 a2 : Int) (r1 : List Int) (s' : QS) (w0 w : World) (hI : IsS62 w0 w g s) (hB : Below w0.heap.size w0 w) (h : queue_Queue_Expire.f s a1 a2 = some (r1, s')) :
    Calls Try.prog 20 #[.pointer (some ⟨g, 0, none⟩), .int .i64 a1, .int .i64 a2] w fun e w' => ∃ v1_ : Value, e = .returned v1_ ∧ Kd.R (Kd.int .i64) 3 w' w.heap.size (fun _ => True) v1_ r1 ∧ IsS62 w0 w' g s' ∧ Below w0.heap.size w0 w' ∧ KeptH TQ w w' := by
  obtain ⟨rfl, rfl⟩ := Prod.mk.inj (Option.some.inj h)
  exact expire_raw g s a1 a2 w0 w hI hB
end Go.Proofs.Ytdcnmjdohjodhaa.Man
