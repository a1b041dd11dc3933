/-
  The walk of WheelOnce. Conditions: none.
-/
import Derived.Test.YtfflhppieogkbaaWop
set_option linter.unusedVariables false
set_option linter.unusedSimpArgs false
set_option maxRecDepth 100000
namespace Go.Proofs.Ytfflhppieogkbaa.Hp
open Go Go.RowKit Go.Proofs.YtfflhppieogkbaaW.PrintWords Go.Proofs.YtfflhppieogkbaaW.PrintLast Go.Proofs.YtfflhppieogkbaaW.PrintMore Go.Proofs.Ytfflhppieogkbaa.Mp Go.Proofs.Ytfflhppieogkbaa.PA
attribute [local go_sem] max2_int min2_int max_two min_two
theorem mod_n (x : Int) (m : Nat) (h0 : 0 < m) (h9 : m ≤ 1000) : ∃ n : Nat, wrap64 (Int.tmod (IntKind.u64.wrap x) (m : Int)) = (n : Int) ∧ n < m := by
  have hw : 0 ≤ IntKind.u64.wrap x := by
    unfold IntKind.wrap
    simp [IntKind.bits, IntKind.signed]
    omega
  have h1 : 0 ≤ Int.tmod (IntKind.u64.wrap x) (m : Int) := Int.tmod_nonneg _ hw
  have h2 : Int.tmod (IntKind.u64.wrap x) (m : Int) < m := Int.tmod_lt_of_pos _ (by omega)
  exact ⟨(Int.tmod (IntKind.u64.wrap x) (m : Int)).toNat, by unfold wrap64; omega, by omega⟩
def nthb (l : List Bool) (i : Nat) : Bool := l.getD i false
theorem at_bools {w : World} {A : Option Addr} {n : Nat} {xs : List Bool} (h : Kd.C Kd.bool w A n xs) {i : Nat} (h1 : i < n) : ∃ ad, A = some ad ∧ w.cell? (ad.add i) = some (.bool (nthb xs i)) := by
  obtain ⟨ad, c, e, hl, hK, hc⟩ := Kd.C_get h false (i : Int) (by omega) (by omega)
  refine ⟨ad, e, ?_⟩
  have hc0 := hc 0 (.bool (nthb xs i)) (by
    have hK' : c = [.bool (xs.getD i false)] := hK
    rw [hK']; rfl)
  have e1 : (i : Int).toNat * Kd.bool.sz + 0 = i := by show (i : Int).toNat * 1 + 0 = i; omega
  rwa [e1] at hc0
/-- An element of a row of whole numbers is written. -/
theorem ints_put {W : World} {base g n cap i : Nat} {ok : Nat → Prop} {xs : List Int} (h : kI.R 3 W base ok (.slice (some ⟨g, 0, none⟩) n cap) xs) (hi : i < n) (x : Int) :
    kI.R 3 (W.setCell ⟨g, i, none⟩ (.int .i64 x)) base ok (.slice (some ⟨g, 0, none⟩) n cap) (xs.set i x) ∧ W.grownBy (W.setCell ⟨g, i, none⟩ (.int .i64 x)) (some g) := by
  obtain ⟨hn, hnc, hC⟩ := Kd.R_reads' h
  obtain ⟨ad, c, e, hcl, hK, hc⟩ := Kd.C_get hC 0 (i : Int) (by omega) (by omega)
  injection e with e
  subst e
  have h1 := Kd.R_seg (d := kI) h (i : Int) (by omega) (by omega) (c := c) (seg := [.int .i64 x]) (j := 0) hcl (fun j u hu => by
    have := hc j u hu
    rwa [add_plain] at this) (by show 0 + 1 ≤ 1; omega) (x' := x) (okp := fun _ => False) (by
      have hK' : c = [.int .i64 (xs.getD i 0)] := hK
      rw [hK']
      rfl) (fun k hk => hk.elim)
  simpa only [World.setCells, show kI.sz = 1 from rfl, Nat.add_zero, Nat.mul_one, Int.toNat_natCast] using h1
theorem ints_cell {W : World} {base g n cap i : Nat} {ok : Nat → Prop} {xs : List Int} (h : kI.R 3 W base ok (.slice (some ⟨g, 0, none⟩) n cap) xs) (hi : i < n) : W.cell? ⟨g, i, none⟩ = some (.int .i64 (nth xs i)) := by
  obtain ⟨hn, hnc, hC⟩ := Kd.R_reads' h
  obtain ⟨ad, e, h2⟩ := at_ints hC (show i < xs.length by omega)
  injection e with e
  subst e
  simpa [add_plain] using h2
theorem IsW.row_grown {w0 W1 W2 : World} {g : Nat} {s : WS} {v : Value} {acc : List Int} {base : Nat} (hI : IsW w0 W1 g s) (hR : kI.R 3 W1 base (fun k => ¬ Own W1 g k) v acc) (hg : W1.grownBy W2 v.ownBlock) : IsW w0 W2 g s ∧ ∀ k, Own W2 g k ↔ Own W1 g k := by
  obtain ⟨xs, hI, hl⟩ := hI
  have hm : ∀ k, Own W1 g k → W2.heap[k]? = W1.heap[k]? := fun k ho => hg.block k (ho.lt hI) (fun e => hR.1 k e.symm ho)
  exact ⟨⟨xs, hI.step hm, hl⟩, fun k => own_step hI hm⟩
set_option maxHeartbeats 8000000 in
theorem once_calls (A0 : Option Addr) (c0 : Nat) (l0 : List Int) (A1 : Option Addr) (c1 : Nat) (l1 : List Bool) (A2 : Option Addr) (c2 : Nat) (lt : List Int) (w : World) (hr0 : Kd.C kI w A0 l0.length l0) (hc0 : l0.length ≤ c0) (hw0 : ∀ x ∈ l0, (Lit.int .i64 x).wf = true)
    (hr1 : Kd.C Kd.bool w A1 l1.length l1) (hc1 : l1.length ≤ c1) (hw1 : ∀ x ∈ l1, True) (hr2 : Kd.C kI w A2 lt.length lt) (hc2 : lt.length ≤ c2) (hw2 : ∀ x ∈ lt, (Lit.int .i64 x).wf = true) :
    Calls Try.prog 4 #[.slice A0 l0.length c0, .slice A1 l1.length c1, .slice A2 lt.length c2] w fun e w' => e = .returned (.bool true) ∧ Below w.heap.size w w' := by
  obtain ⟨na, hna⟩ : ∃ n, l0.length = n := ⟨_, rfl⟩
  obtain ⟨nb, hnb⟩ : ∃ n, l1.length = n := ⟨_, rfl⟩
  obtain ⟨nc, hnc⟩ : ∃ n, lt.length = n := ⟨_, rfl⟩
  obtain ⟨ne, hne⟩ : ∃ ne : Nat, min na 30 = ne := ⟨_, rfl⟩
  rw [hna] at hr0 hc0 ⊢
  rw [hnb] at hr1 hc1 ⊢
  rw [hnc] at hr2 hc2 ⊢
  have hmn : (if (30 : Int) < (na : Int) then (30 : Int) else (na : Int)) = (ne : Int) := by
    rw [← hne]
    split <;> omega
  have hne1 : ne ≤ na := by omega
  have hne2 : ne ≤ 30 := by omega
  have hnec : ne ≤ c0 := by omega
  have HL := Aside0.mk (lives_raw w)
  have HR0 := Aside0.mk hr0
  have HR1 := Aside0.mk hr1
  have HR2 := Aside0.mk hr2
  have HN := Aside0.mk (fun (W : World) (h : Below w.heap.size w W) => new_raw w W h)
  clear hr0 hr1 hr2 hw0 hw1 hw2 hna hnb hnc hne
  go_enter Try.func4, Try.ntmps4
  go_upto_block 0 with (first
    | (go_at_call 9; refine HL.out.mono ?_; rintro e wa ⟨rfl, hb⟩; have BA := Aside0.mk hb; clear hb)
    | (go_at_call 14; refine (HN.out wa BA.out).mono ?_; rintro e wb ⟨g, rfl, hi, hb, _⟩; have KB := Aside0.mk hi; have BB := Aside0.mk (below_step BA.out hb); clear hi hb))
  go_wp2
  go_loopw [8, 9] (fun v8 v9 wr => ∃ (i : Nat) (own : List Int) (A : Option Addr) (n : Nat) (l : PL), v8 = .slice A i n ∧ v9 = .int .i64 (i : Int) ∧ i ≤ ne ∧ Aside0 (own.length = i) ∧ Aside0 (kI.R 3 wr w.heap.size (fun k => ¬ Own wr g k) (.slice A i n) own) ∧ Aside0 (IsW w wr g ⟨l, i⟩) ∧ Aside0 (Says l own (-1)) ∧ Aside0 (∀ j, j < own.length → 0 ≤ nth own j ∧ nth own j ≤ 99) ∧ Aside0 (Below w.heap.size w wr)) (fun _ v9 _ => ne - (intOf v9).toNat)
  case atStart => exact ⟨0, [], none, 0, [], rfl, rfl, Nat.zero_le _, ⟨rfl⟩, ⟨Kd.R_nil _ _ _ _ _⟩, KB, ⟨Says.nil⟩, ⟨fun j h => by simp at h⟩, BB⟩
  case round =>
    obtain ⟨i, own, A, n, l, rfl, rfl, hi, HLN, HR, HI, HS, HO, HB⟩ := hrel
    by_cases hlt : i < ne
    · have hd1 : decide ((i : Int) < (ne : Int)) = true := decide_eq_true (by omega)
      have hd1n : decide (i < ne) = true := decide_eq_true hlt
      obtain ⟨ad, rfl, hcell0⟩ := at_ints HR0.out (show i < na by omega)
      have hcell : wr.cell? (ad.add i) = some (.int .i64 (nth l0 i)) := (HB.out.cell (World.block_lt_of_cell? w _ hcell0)).trans hcell0
      obtain ⟨v, hv0, hv9⟩ := mod_n (nth l0 i) 100 (by omega) (by omega)
      obtain ⟨x, hx⟩ : ∃ x, nth l0 i = x := ⟨_, rfl⟩
      rw [hx] at hcell hv0
      have hv : wrap64 (Int.tmod (IntKind.u64.wrap x) 100) = (v : Int) := hv0
      clear hv0
      have HV9 := Aside0.mk hv9
      have HI9 := Aside0.mk (show i ≤ 30 by omega)
      clear hcell0 hx hv9
      go_upto_region 10 with (((with_reducible refine gate_builtin (b := .append) (xs := #[.tmp 31, .tmp 39]) rfl ?_); (try (refine gate_guard (by rfl) ?_; dsimp only)); at_builtin; refine Kd.R_append kI (w0 := w) w.heap.size rfl (.tmp 31) (.tmp 39) 27 3 (.int .i64 0) 8 rfl Try.underlying27 info3 rfl (by decide) (by omega) (.slice A i n) own (v : Int) [.int .i64 (v : Int)] (fun k => ¬ Own wr g k) (fun _ => False) rfl rfl rfl (fun _ h => h.elim) (fun k hk ho => absurd (HI.out.olt ho) (by omega)) ?aO ?aB ?aS ?aL ?_; (case aO => exact HR.out); (case aB => exact HB.out); (case aS => exact HB.out.size); (case aL => have := HLN.out; have := HI9.out; omega); intro v4 w4 hR4 hb4 hg4 hat4; obtain ⟨b4, n4, rfl, _, _, hc4⟩ := ints_some hR4 (by simp); have HR4 := Aside0.mk hR4; have HG4 := Aside0.mk hg4; have HB4 := Aside0.mk hb4; have HC4 := Aside0.mk hc4; clear hR4 hb4 hg4 hat4 hc4))
      rw [HLN.out]
      have hIR := HI.out.row_grown HR.out HG4.out
      have KI4 := Aside0.mk hIR.1
      have HR4' : Aside0 (kI.R 3 w4 w.heap.size (fun k => ¬ Own w4 g k) (.slice (some ⟨b4, 0, none⟩) (i + 1) n4) (own ++ [(v : Int)])) := ⟨by
        have h := Kd.R_mono HR4.out (ok' := fun k => ¬ Own w4 g k) (fun k hk ho => hk ((hIR.2 k).1 ho))
        rwa [show (own ++ [(v : Int)]).length = i + 1 by rw [List.length_append, HLN.out]; rfl] at h⟩
      have h4i : w4.cell? ⟨b4, i, none⟩ = some (.int .i64 (v : Int)) := by
        have := HC4.out i (by rw [List.length_append, HLN.out]; exact Nat.lt_succ_self i)
        rw [this]
        congr 2
        have hl := HLN.out
        subst hl
        simp
      have HSET : Aside0 (Calls Try.prog 15 #[.pointer (some ⟨g, 0, none⟩), .int .i64 (i : Int), .int .i64 (v : Int)] w4 fun e w' => (∃ q : Bool, e = .returned (.bool q)) ∧ IsW w w' g ⟨put l (i : Int) (v : Int), i + 1⟩ ∧ Kp g w4 w') := ⟨by
        have hlen : l.length ≤ 1000 := by
          obtain ⟨xs, ⟨mb, vv, hb, hg, hM, hgm, hRR, hH, hC, hG⟩, hl⟩ := KI4.out
          have h1 : l.length ≤ xs.length := by
            have hnd : (l.map (fun p => (⟨p.2, p.1⟩ : E66))).Nodup := by
              refine List.pairwise_map.2 ((HS.out.rise).imp (fun {a b} h e => ?_))
              have : a.1 = b.1 := congrArg E66.f1 e
              omega
            have := hnd.length_le_of_subset (l₂ := xs) (fun y hy => by
              obtain ⟨p, hp, rfl⟩ := List.mem_map.1 hy
              exact hC p hp)
            simpa using this
          have h2 := HI9.out
          have h3 : xs.length ≤ i := hl
          omega
        have := set_any (i : Int) (v : Int) (wfI (by omega) (by have := HI9.out; omega)) KI4.out HB4.out (show i ≤ 1000 by have := HI9.out; omega) hlen
        rw [cut_id (by omega) (by have := HV9.out; omega)] at this
        exact this.mono (by
          rintro e w' ⟨rfl, h1, h2⟩
          exact ⟨⟨_, rfl⟩, h1, h2⟩)⟩
      clear hIR hv
      go_wp2_with (go_at_call 15; (with_reducible refine HSET.out.mono ?_); rintro e w5 ⟨⟨q, rfl⟩, hi5, hk5⟩; have KI5 := Aside0.mk hi5; have KK5 := Aside0.mk hk5; clear hi5 hk5)
      go_roundw
      case measure => simp [intOf]; omega
      case rel =>
        refine ⟨i + 1, own ++ [(v : Int)], _, _, _, rfl, by first | rfl | (congr 1; omega), by omega, ⟨by rw [List.length_append, HLN.out]; rfl⟩, ⟨KK5.out.row2 HR4'.out⟩, KI5, ⟨?_⟩, ⟨fun j hj => ?_⟩, ⟨KK5.out.below HB4.out KI4.out⟩⟩
        · have := HS.out.set (v := (v : Int)) (by omega)
          rwa [HLN.out] at this
        · by_cases e : j < own.length
          · rw [nth_snoc _ _ _ e]
            exact HO.out j e
          · have e2 : j = own.length := by simp at hj; omega
            rw [e2, nth_last]
            have := HV9.out
            omega
    · have hie : i = ne := by omega
      subst hie
      have hd1 : decide ((i : Int) < (i : Int)) = false := decide_eq_false (by omega)
      clear hlt hi
      have HO2 : Aside0 (∀ j', j' < own.length → -1 ≤ nth own j' ∧ nth own j' ≤ 99) := ⟨fun j h => by have := HO.out j h; omega⟩
      have HO3 : Aside0 (∀ j', 0 ≤ j' → j' < own.length → 0 ≤ nth own j') := ⟨fun j _ h => (HO.out j h).1⟩
      go_upto_block 2 with fail
      go_wp2
      go_loopw [10] (fun v10 w2 => ∃ (j : Nat) (own2 : List Int) (l2 : PL), v10 = .int .i64 (j : Int) ∧ j ≤ i ∧ Aside0 (own2.length = i) ∧ Aside0 (kI.R 3 w2 w.heap.size (fun k => ¬ Own w2 g k) (.slice A i n) own2) ∧ Aside0 (IsW w w2 g ⟨l2, i⟩) ∧ Aside0 (Says l2 own2 (-1)) ∧ Aside0 (∀ j', j' < own2.length → -1 ≤ nth own2 j' ∧ nth own2 j' ≤ 99) ∧ Aside0 (∀ j', j ≤ j' → j' < own2.length → 0 ≤ nth own2 j') ∧ Aside0 (Below w.heap.size w w2)) (fun v10 _ => i - (intOf v10).toNat)
      case atStart => exact ⟨0, own, l, rfl, Nat.zero_le _, HLN, HR, HI, HS, HO2, HO3, HB⟩
      case round =>
        clear HLN HR HI HS HO HO2 HO3 HB
        obtain ⟨j, own2, l2, rfl, hj, HLN, HR, HI, HS, HO, HP, HB⟩ := hrel
        by_cases hlt : j < i
        · have hd3 : decide ((j : Int) < (i : Int)) = true := decide_eq_true (by omega)
          have hd3n : decide (j < i) = true := decide_eq_true hlt
          by_cases hb1 : j < nb
          · have hd4 : decide ((j : Int) < (nb : Int)) = true := decide_eq_true (by omega)
            have hd4n : decide (j < nb) = true := decide_eq_true hb1
            obtain ⟨ad1, rfl, hcb⟩ := at_bools HR1.out hb1
            have hcb2 : wr.cell? (ad1.add j) = some (.bool (nthb l1 j)) := (HB.out.cell (World.block_lt_of_cell? w _ hcb)).trans hcb
            clear hcb
            cases hq : nthb l1 j with
            | false =>
              rw [hq] at hcb2
              have HP2 : Aside0 (∀ j', j + 1 ≤ j' → j' < own2.length → 0 ≤ nth own2 j') := ⟨fun j' h h2 => HP.out j' (by omega) h2⟩
              clear hq
              go_wp2
              go_roundw
              case measure => simp [intOf]; omega
              case rel => exact ⟨j + 1, own2, l2, by first | rfl | (congr 1; omega), by omega, HLN, HR, HI, HS, HO, HP2, HB⟩
            | true =>
              rw [hq] at hcb2
              clear hq
              have hjl : j < own2.length := by have := HLN.out; omega
              have hji : I64 (j : Int) := wfI (by omega) (by omega)
              have HC1 : Aside0 (Calls Try.prog 16 #[.pointer (some ⟨g, 0, none⟩), .int .i64 (j : Int)] wr fun e w' => e = .returned (.bool true) ∧ IsW w w' g ⟨rem l2 (j : Int), i⟩ ∧ Kp g wr w') := ⟨by
                have := cancel_any (j : Int) hji HI.out
                rwa [show (⟨l2, i⟩ : WS).ats = l2 from rfl, HS.out.there hjl (by have := HP.out j (Nat.le_refl _) hjl; omega)] at this⟩
              have HS2 := HS.out.cancel hjl (v := -1) (Int.le_refl _)
              have hjl2 : j < (own2.set j (-1)).length := by simpa using hjl
              have hn1 : nth (own2.set j (-1)) j = -1 := by rw [nth_set _ _ _ _ hjl, if_pos rfl]
              have HC2 : Aside0 (∀ W, IsW w W g ⟨rem l2 (j : Int), i⟩ → Calls Try.prog 16 #[.pointer (some ⟨g, 0, none⟩), .int .i64 (j : Int)] W fun e w' => e = .returned (.bool false) ∧ IsW w w' g ⟨rem (rem l2 (j : Int)) (j : Int), i⟩ ∧ Kp g W w') := ⟨fun W hi => by
                have := cancel_any (j : Int) hji hi
                rwa [show (⟨rem l2 (j : Int), i⟩ : WS).ats = rem l2 (j : Int) from rfl, HS2.gone (by rw [hn1]; exact Int.le_refl _)] at this⟩
              have HS3 : Aside0 (Says (rem (rem l2 (j : Int)) (j : Int)) (own2.set j (-1)) (-1)) := ⟨by
                have := HS2.cancel hjl2 (v := -1) (Int.le_refl _)
                rwa [List.set_set] at this⟩
              have HO3 : Aside0 (∀ j', j' < (own2.set j (-1)).length → -1 ≤ nth (own2.set j (-1)) j' ∧ nth (own2.set j (-1)) j' ≤ 99) := ⟨fun j' h => by
                have h2 : j' < own2.length := by simpa using h
                rw [nth_set _ _ _ _ h2]
                split
                · omega
                · exact HO.out j' h2⟩
              have HP3 : Aside0 (∀ j', j + 1 ≤ j' → j' < (own2.set j (-1)).length → 0 ≤ nth (own2.set j (-1)) j') := ⟨fun j' h1 h => by
                have h2 : j' < own2.length := by simpa using h
                rw [nth_set _ _ _ _ h2, if_neg (by omega)]
                exact HP.out j' (by omega) h2⟩
              have HLN3 : Aside0 ((own2.set j (-1)).length = i) := ⟨by rw [List.length_set]; exact HLN.out⟩
              obtain ⟨bo, no, hAe, -⟩ := ints_some HR.out (by omega)
              injection hAe with hAe hmm hnn
              subst hAe
              clear hji HS2 hjl2 hn1 hmm hnn hjl
              go_upto_region 17 with (first
                | (go_at_call 16; (with_reducible refine HC1.out.mono ?_); rintro e w5 ⟨rfl, hi5, hk5⟩; have KI5 := Aside0.mk hi5; have KK5 := Aside0.mk hk5; clear hi5 hk5)
                | (go_at_call 16; (with_reducible refine (HC2.out w5 KI5.out).mono ?_); rintro e w6 ⟨rfl, hi6, hk6⟩; have KI6 := Aside0.mk hi6; have KK6 := Aside0.mk (KK5.out.trans hk6); have HR6 := Aside0.mk ((KK5.out.trans hk6).row2 HR.out); have hf6 : w6.frozen? ⟨bo, j, none⟩ = false := (by obtain ⟨cs, hcs⟩ := Kd.R_typed ((KK5.out.trans hk6).row2 HR.out) bo rfl; exact blk_frozen hcs j); have hc6 : w6.cell? ⟨bo, j, none⟩ = some (.int .i64 (nth own2 j)) := ints_cell ((KK5.out.trans hk6).row2 HR.out) hlt; clear hi6 hk6))
              go_wp2
              have hput := ints_put HR6.out hlt (-1)
              have hIR := KI6.out.row_grown HR6.out hput.2
              go_roundw
              case measure => simp [intOf]; omega
              case rel =>
                refine ⟨j + 1, own2.set j (-1), _, by first | rfl | (congr 1; omega), by omega, HLN3, ⟨Kd.R_mono hput.1 (fun k hk ho => hk ((hIR.2 k).1 ho))⟩, ⟨hIR.1⟩, HS3, HO3, HP3, ⟨below_set (KK6.out.below HB.out HI.out) (by show w.heap.size ≤ bo; exact Kd.R_base HR6.out bo rfl)⟩⟩
          · have hd4 : decide ((j : Int) < (nb : Int)) = false := decide_eq_false (by omega)
            have hd4n : decide (j < nb) = false := decide_eq_false hb1
            have HP2 : Aside0 (∀ j', j + 1 ≤ j' → j' < own2.length → 0 ≤ nth own2 j') := ⟨fun j' h h2 => HP.out j' (by omega) h2⟩
            go_wp2
            go_roundw
            case measure => simp [intOf]; omega
            case rel => exact ⟨j + 1, own2, l2, by first | rfl | (congr 1; omega), by omega, HLN, HR, HI, HS, HO, HP2, HB⟩
        · have hje : j = i := by omega
          subst hje
          clear hlt hj
          have hd3 : decide ((j : Int) < (j : Int)) = false := decide_eq_false (by omega)
          go_upto_block 4 with fail
          go_wp2
          go_loopw [11, 12, 13] (fun v11 v12 v13 w2 => ∃ (q now : Nat) (last : Int) (l3 : PL), v11 = .int .i64 (now : Int) ∧ v12 = .int .i64 last ∧ v13 = .int .i64 (q : Int) ∧ q ≤ 30 ∧ now ≤ 240 ∧ -1 ≤ last ∧ last ≤ 240 ∧ (q ≤ nc → last ≤ (now : Int) ∧ now ≤ 8 * q) ∧ Aside0 (kI.R 3 w2 w.heap.size (fun k => ¬ Own w2 g k) (.slice A j n) own2) ∧ Aside0 (IsW w w2 g ⟨l3, j⟩) ∧ Aside0 (Says l3 own2 last) ∧ Aside0 (Below w.heap.size w w2)) (fun _ _ v13 _ => 30 - (intOf v13).toNat)
          case atStart => exact ⟨0, 0, -1, l2, rfl, rfl, rfl, by omega, by omega, by omega, by omega, fun _ => ⟨by omega, by omega⟩, HR, HI, HS, HB⟩
          case round =>
            clear HR HI HS HB HP
            obtain ⟨q, now, last, l3, rfl, rfl, rfl, hq, hnow, hla1, hla2, hrel2, HR, HI, HS, HB⟩ := hrel
            by_cases hgo : q ≤ nc ∧ q < 30
            · obtain ⟨hgo1, hgo2⟩ := hgo
              have hd1a : decide ((q : Int) ≤ (nc : Int)) = true := decide_eq_true (by omega)
              have hd1b : decide (q ≤ nc) = true := decide_eq_true hgo1
              have hd2a : decide ((q : Int) < 30) = true := decide_eq_true (by omega)
              have hd2b : decide (q < 30) = true := decide_eq_true hgo2
              have HDUEA : Aside0 (∀ now2 : Nat, now2 ≤ 240 → (last ≤ (now2 : Int) ∨ 99 ≤ (now2 : Int)) → Calls Try.prog 17 #[.pointer (some ⟨g, 0, none⟩), .int .i64 (now2 : Int)] wr (fun e w' => ∃ v : Value, e = .returned v ∧ kI.R 3 w' wr.heap.size (fun k => ¬ Own w' g k) v (ints (hits own2 last (now2 : Int) own2.length)) ∧ IsW w w' g ⟨rest l3 (now2 : Int), j⟩ ∧ Kp g wr w') ∧ Says (rest l3 (now2 : Int)) own2 (now2 : Int)) := ⟨fun now2 h9 hn => by
                have h := due_any (now2 : Int) HI.out HB.out (show j ≤ 90000 by omega)
                rw [show (⟨l3, j⟩ : WS).ats = l3 from rfl, HS.out.due hla1 (fun j' h => (HO.out j' h).2) (by omega) (by omega)] at h
                exact ⟨h, HS.out.rest hla1 (fun j' h => (HO.out j' h).2) (by omega) (by omega) hn⟩⟩
              by_cases hqn : q < nc
              · have hd3a : decide ((q : Int) < (nc : Int)) = true := decide_eq_true (by omega)
                have hd3b : decide (q < nc) = true := decide_eq_true hqn
                obtain ⟨ad, rfl, hcell0⟩ := at_ints HR2.out hqn
                have hcell : wr.cell? (ad.add q) = some (.int .i64 (nth lt q)) := (HB.out.cell (World.block_lt_of_cell? w _ hcell0)).trans hcell0
                obtain ⟨v, hv0, hv9⟩ := mod_n (nth lt q) 9 (by omega) (by omega)
                obtain ⟨x, hx⟩ : ∃ x, nth lt q = x := ⟨_, rfl⟩
                rw [hx] at hcell hv0
                have hv : wrap64 (Int.tmod (IntKind.u64.wrap x) 9) = (v : Int) := hv0
                clear hv0
                obtain ⟨now2, hn2⟩ : ∃ n2 : Nat, now + v = n2 := ⟨_, rfl⟩
                have hn3 : (now : Int) + (v : Int) = (now2 : Int) := by omega
                have h9 : now2 ≤ 240 := by have := (hrel2 hgo1).2; omega
                have hlan : last ≤ (now2 : Int) := by have := (hrel2 hgo1).1; omega
                have hnx : q + 1 ≤ nc → (now2 : Int) ≤ (now2 : Int) ∧ now2 ≤ 8 * (q + 1) := fun _ => ⟨Int.le_refl _, by have := (hrel2 hgo1).2; omega⟩
                have HDUE := Aside0.mk (HDUEA.out now2 h9 (.inl hlan)).1
                have HS5 := Aside0.mk (HDUEA.out now2 h9 (.inl hlan)).2
                have HNX := Aside0.mk hnx
                clear hcell0 hx hn2 hrel2 hnx
                go_upto_region 25 with fail
                clear hv
                go_upto_block 6 with (go_at_call 17; (with_reducible refine HDUE.out.mono ?_); rintro e w5 ⟨v, rfl, hr5, hi5, hk5⟩; obtain ⟨A5, n5, rfl⟩ := Kd.R_slice hr5; have HD5 := Aside0.mk hr5; have KI5 := Aside0.mk hi5; have KK5 := Aside0.mk hk5; clear hr5 hi5 hk5)
                have HR5 := Aside0.mk (KK5.out.row2 HR.out)
                have HB5 := Aside0.mk (KK5.out.below HB.out HI.out)
                have HAT := Aside0.mk (fun (k : Nat) (h : k < j) => hits_at own2 last (now2 : Int) (n := own2.length) (by rw [HLN.out]; exact h))
                obtain ⟨D, hD⟩ : ∃ D, ints (hits own2 last (now2 : Int) own2.length) = D := ⟨_, rfl⟩
                have HDN : Aside0 ((hits own2 last (now2 : Int) j).length = D.length) := ⟨by rw [← hD, HLN.out]; simp [ints]⟩
                rw [hD] at HD5 HAT ⊢
                obtain ⟨dl, hdl⟩ : ∃ dl, D.length = dl := ⟨_, rfl⟩
                rw [hdl] at HD5 HAT HDN ⊢
                clear hD
                go_wp2
                go_loopw [15, 16] (fun v15 v16 w6 => ∃ (k c : Nat), v15 = .int .i64 (c : Int) ∧ v16 = .int .i64 (k : Int) ∧ k ≤ j ∧ Aside0 (c = (hits own2 last (now2 : Int) k).length) ∧ Aside0 (w6 = w5)) (fun _ v16 _ => j - (intOf v16).toNat)
                case atStart => exact ⟨0, 0, rfl, rfl, Nat.zero_le _, ⟨rfl⟩, ⟨rfl⟩⟩
                case round =>
                  obtain ⟨k, c, rfl, rfl, hk, HC, HW⟩ := hrel
                  have hw6 := HW.out
                  subst hw6
                  by_cases hkj : k < j
                  · have hd5 : decide ((k : Int) < (j : Int)) = true := decide_eq_true (by omega)
                    have hd5n : decide (k < j) = true := decide_eq_true hkj
                    obtain ⟨bo, no, hAe, -⟩ := ints_some HR5.out (by have := HLN.out; omega)
                    injection hAe with hAe hmm hnn
                    subst hAe
                    have hco := ints_cell HR5.out hkj
                    obtain ⟨y, hy⟩ : ∃ y, nth own2 k = y := ⟨_, rfl⟩
                    rw [hy] at hco
                    have hck : c ≤ k := by rw [HC.out]; exact hits_le _ _ _ _
                    clear hmm hnn
                    by_cases h1 : last < y
                    · have hd6 : decide (last < y) = true := decide_eq_true h1
                      by_cases h2 : y ≤ (now2 : Int)
                      · have hd7 : decide (y ≤ (now2 : Int)) = true := decide_eq_true h2
                        have hh : hit own2 last (now2 : Int) k = true := by unfold hit; rw [hy, hd6, hd7]; rfl
                        obtain ⟨hat1, hat2⟩ := HAT.out k hkj hh
                        rw [← HC.out] at hat1 hat2
                        obtain ⟨bd, nd, hAe, -⟩ := ints_some HD5.out (by omega)
                        injection hAe with hAe hmm hnn
                        subst hAe
                        have hcd := ints_cell HD5.out hat1
                        rw [hat2] at hcd
                        have HC2 : Aside0 (c + 1 = (hits own2 last (now2 : Int) (k + 1)).length) := ⟨by rw [hits_succ, if_pos hh, List.length_append, HC.out]; rfl⟩
                        have hd8 : decide ((dl : Int) ≤ (c : Int)) = false := decide_eq_false (by omega)
                        have hd8n : decide (dl ≤ c) = false := decide_eq_false (by omega)
                        clear hh hat2 hy hmm hnn h1 h2
                        go_wp2
                        go_roundw
                        case measure => simp [intOf]; omega
                        case rel => exact ⟨k + 1, c + 1, by first | rfl | (congr 1; omega), by first | rfl | (congr 1; omega), by omega, HC2, by first | exact ⟨rfl⟩ | exact ⟨trivial⟩⟩
                      · have hd7 : decide (y ≤ (now2 : Int)) = false := decide_eq_false h2
                        have HC2 : Aside0 (c = (hits own2 last (now2 : Int) (k + 1)).length) := ⟨by rw [hits_succ, if_neg (by unfold hit; rw [hy, hd7]; simp), HC.out]⟩
                        clear hy h1 h2
                        go_wp2
                        go_roundw
                        case measure => simp [intOf]; omega
                        case rel => exact ⟨k + 1, c, rfl, by first | rfl | (congr 1; omega), by omega, HC2, by first | exact ⟨rfl⟩ | exact ⟨trivial⟩⟩
                    · have hd6 : decide (last < y) = false := decide_eq_false h1
                      have HC2 : Aside0 (c = (hits own2 last (now2 : Int) (k + 1)).length) := ⟨by rw [hits_succ, if_neg (by unfold hit; rw [hy, hd6]; simp), HC.out]⟩
                      clear hy h1
                      go_wp2
                      go_roundw
                      case measure => simp [intOf]; omega
                      case rel => exact ⟨k + 1, c, rfl, by first | rfl | (congr 1; omega), by omega, HC2, by first | exact ⟨rfl⟩ | exact ⟨trivial⟩⟩
                  · have hkj2 : k = j := by omega
                    subst hkj2
                    have hcd : c = dl := by rw [HC.out]; exact HDN.out
                    subst hcd
                    have hd5 : decide ((k : Int) < (k : Int)) = false := decide_eq_false (by omega)
                    have hd9 : ((c : Int) == (c : Int)) = true := by simp
                    clear hkj hk
                    go_wp2
                    go_roundw
                    case measure => simp [intOf]; omega
                    case rel => exact ⟨q + 1, now2, (now2 : Int), rest l3 (now2 : Int), rfl, rfl, by first | rfl | (congr 1; omega), by omega, by omega, by omega, by omega, HNX.out, HR5, KI5, HS5, HB5⟩
              · have hqe : q = nc := by omega
                subst hqe
                have hd3a : decide ((q : Int) < (q : Int)) = false := decide_eq_false (by omega)
                obtain ⟨now2, hn2⟩ : ∃ n2 : Nat, 200 = n2 := ⟨_, rfl⟩
                have hn3 : (200 : Int) = (now2 : Int) := by omega
                have HDUE := Aside0.mk (HDUEA.out now2 (by omega) (.inr (by omega))).1
                have HS5 := Aside0.mk (HDUEA.out now2 (by omega) (.inr (by omega))).2
                have hnx : q + 1 ≤ q → (now2 : Int) ≤ (now2 : Int) ∧ now2 ≤ 8 * (q + 1) := fun h => by omega
                have HNX := Aside0.mk hnx
                clear hrel2 hnx hqn hgo1 hd1a hd1b
                go_upto_region 25 with fail
                go_upto_block 6 with (go_at_call 17; (with_reducible refine HDUE.out.mono ?_); rintro e w5 ⟨v, rfl, hr5, hi5, hk5⟩; obtain ⟨A5, n5, rfl⟩ := Kd.R_slice hr5; have HD5 := Aside0.mk hr5; have KI5 := Aside0.mk hi5; have KK5 := Aside0.mk hk5; clear hr5 hi5 hk5)
                have HR5 := Aside0.mk (KK5.out.row2 HR.out)
                have HB5 := Aside0.mk (KK5.out.below HB.out HI.out)
                have HAT := Aside0.mk (fun (k : Nat) (h : k < j) => hits_at own2 last (now2 : Int) (n := own2.length) (by rw [HLN.out]; exact h))
                obtain ⟨D, hD⟩ : ∃ D, ints (hits own2 last (now2 : Int) own2.length) = D := ⟨_, rfl⟩
                have HDN : Aside0 ((hits own2 last (now2 : Int) j).length = D.length) := ⟨by rw [← hD, HLN.out]; simp [ints]⟩
                rw [hD] at HD5 HAT ⊢
                obtain ⟨dl, hdl⟩ : ∃ dl, D.length = dl := ⟨_, rfl⟩
                rw [hdl] at HD5 HAT HDN ⊢
                clear hD
                go_wp2
                go_loopw [15, 16] (fun v15 v16 w6 => ∃ (k c : Nat), v15 = .int .i64 (c : Int) ∧ v16 = .int .i64 (k : Int) ∧ k ≤ j ∧ Aside0 (c = (hits own2 last (now2 : Int) k).length) ∧ Aside0 (w6 = w5)) (fun _ v16 _ => j - (intOf v16).toNat)
                case atStart => exact ⟨0, 0, rfl, rfl, Nat.zero_le _, ⟨rfl⟩, ⟨rfl⟩⟩
                case round =>
                  obtain ⟨k, c, rfl, rfl, hk, HC, HW⟩ := hrel
                  have hw6 := HW.out
                  subst hw6
                  by_cases hkj : k < j
                  · have hd5 : decide ((k : Int) < (j : Int)) = true := decide_eq_true (by omega)
                    have hd5n : decide (k < j) = true := decide_eq_true hkj
                    obtain ⟨bo, no, hAe, -⟩ := ints_some HR5.out (by have := HLN.out; omega)
                    injection hAe with hAe hmm hnn
                    subst hAe
                    have hco := ints_cell HR5.out hkj
                    obtain ⟨y, hy⟩ : ∃ y, nth own2 k = y := ⟨_, rfl⟩
                    rw [hy] at hco
                    have hck : c ≤ k := by rw [HC.out]; exact hits_le _ _ _ _
                    clear hmm hnn
                    by_cases h1 : last < y
                    · have hd6 : decide (last < y) = true := decide_eq_true h1
                      by_cases h2 : y ≤ (now2 : Int)
                      · have hd7 : decide (y ≤ (now2 : Int)) = true := decide_eq_true h2
                        have hh : hit own2 last (now2 : Int) k = true := by unfold hit; rw [hy, hd6, hd7]; rfl
                        obtain ⟨hat1, hat2⟩ := HAT.out k hkj hh
                        rw [← HC.out] at hat1 hat2
                        obtain ⟨bd, nd, hAe, -⟩ := ints_some HD5.out (by omega)
                        injection hAe with hAe hmm hnn
                        subst hAe
                        have hcd := ints_cell HD5.out hat1
                        rw [hat2] at hcd
                        have HC2 : Aside0 (c + 1 = (hits own2 last (now2 : Int) (k + 1)).length) := ⟨by rw [hits_succ, if_pos hh, List.length_append, HC.out]; rfl⟩
                        have hd8 : decide ((dl : Int) ≤ (c : Int)) = false := decide_eq_false (by omega)
                        have hd8n : decide (dl ≤ c) = false := decide_eq_false (by omega)
                        clear hh hat2 hy hmm hnn h1 h2
                        go_wp2
                        go_roundw
                        case measure => simp [intOf]; omega
                        case rel => exact ⟨k + 1, c + 1, by first | rfl | (congr 1; omega), by first | rfl | (congr 1; omega), by omega, HC2, by first | exact ⟨rfl⟩ | exact ⟨trivial⟩⟩
                      · have hd7 : decide (y ≤ (now2 : Int)) = false := decide_eq_false h2
                        have HC2 : Aside0 (c = (hits own2 last (now2 : Int) (k + 1)).length) := ⟨by rw [hits_succ, if_neg (by unfold hit; rw [hy, hd7]; simp), HC.out]⟩
                        clear hy h1 h2
                        go_wp2
                        go_roundw
                        case measure => simp [intOf]; omega
                        case rel => exact ⟨k + 1, c, rfl, by first | rfl | (congr 1; omega), by omega, HC2, by first | exact ⟨rfl⟩ | exact ⟨trivial⟩⟩
                    · have hd6 : decide (last < y) = false := decide_eq_false h1
                      have HC2 : Aside0 (c = (hits own2 last (now2 : Int) (k + 1)).length) := ⟨by rw [hits_succ, if_neg (by unfold hit; rw [hy, hd6]; simp), HC.out]⟩
                      clear hy h1
                      go_wp2
                      go_roundw
                      case measure => simp [intOf]; omega
                      case rel => exact ⟨k + 1, c, rfl, by first | rfl | (congr 1; omega), by omega, HC2, by first | exact ⟨rfl⟩ | exact ⟨trivial⟩⟩
                  · have hkj2 : k = j := by omega
                    subst hkj2
                    have hcd : c = dl := by rw [HC.out]; exact HDN.out
                    subst hcd
                    have hd5 : decide ((k : Int) < (k : Int)) = false := decide_eq_false (by omega)
                    have hd9 : ((c : Int) == (c : Int)) = true := by simp
                    clear hkj hk
                    go_wp2
                    go_roundw
                    case measure => simp [intOf]; omega
                    case rel => exact ⟨q + 1, now2, (now2 : Int), rest l3 (now2 : Int), rfl, rfl, by first | rfl | (congr 1; omega), by omega, by omega, by omega, by omega, HNX.out, HR5, KI5, HS5, HB5⟩
            · have hla200 : (200 : Int) ≤ last ∨ last < 200 := by omega
              have HLE : Aside0 (∀ hz : l3 = [], Calls Try.prog 18 #[.pointer (some ⟨g, 0, none⟩)] wr fun e w' => e = .returned (.int .i64 0) ∧ wr = w') := ⟨fun hz => by
                have := len_any HI.out
                rwa [show (⟨l3, j⟩ : WS).ats = l3 from rfl, hz] at this⟩
              have HZ : Aside0 (200 ≤ last → l3 = []) := ⟨fun h => by
                refine List.eq_nil_iff_forall_not_mem.2 (fun p hp => ?_)
                obtain ⟨j', _, hj', ht, hlo⟩ := (HS.out.mem p.1 p.2).1 hp
                have := HO.out j' hj'
                omega⟩
              by_cases hqc : q ≤ nc
              · have hd1a : decide ((q : Int) ≤ (nc : Int)) = true := decide_eq_true (by omega)
                have hd1b : decide (q ≤ nc) = true := decide_eq_true hqc
                have hd2a : decide ((q : Int) < 30) = false := decide_eq_false (by omega)
                have hd2b : decide (q < 30) = false := decide_eq_false (by omega)
                clear hgo hrel2
                rcases hla200 with hla | hla
                · have hd4a : decide (last < 200) = false := decide_eq_false (by omega)
                  have HLE2 := Aside0.mk (HLE.out (HZ.out hla))
                  go_wp2_with (go_at_call 18; (with_reducible refine HLE2.out.mono ?_); rintro e w5 ⟨rfl, rfl⟩)
                  go_ret
                  exact ⟨rfl, HB.out⟩
                · have hd4a : decide (last < 200) = true := decide_eq_true hla
                  go_wp2
                  go_ret
                  exact ⟨rfl, HB.out⟩
              · have hd1a : decide ((q : Int) ≤ (nc : Int)) = false := decide_eq_false (by omega)
                have hd1b : decide (q ≤ nc) = false := decide_eq_false hqc
                clear hgo hrel2
                rcases hla200 with hla | hla
                · have hd4a : decide (last < 200) = false := decide_eq_false (by omega)
                  have HLE2 := Aside0.mk (HLE.out (HZ.out hla))
                  go_wp2_with (go_at_call 18; (with_reducible refine HLE2.out.mono ?_); rintro e w5 ⟨rfl, rfl⟩)
                  go_ret
                  exact ⟨rfl, HB.out⟩
                · have hd4a : decide (last < 200) = true := decide_eq_true hla
                  go_wp2
                  go_ret
                  exact ⟨rfl, HB.out⟩
end Go.Proofs.Ytfflhppieogkbaa.Hp
