/-
  The walk of WheelNext. Conditions: none.
-/
import Derived.Test.YtfflhppieogkbaaWnp
set_option linter.unusedVariables false
set_option linter.unusedSimpArgs false
set_option maxRecDepth 100000
namespace Go.Proofs.Ytfflhppieogkbaa.Hp
open Go Go.RowKit Go.Proofs.YtfflhppieogkbaaW.PrintWords Go.Proofs.YtfflhppieogkbaaW.PrintLast Go.Proofs.YtfflhppieogkbaaW.PrintMore Go.Proofs.Ytfflhppieogkbaa.Mp Go.Proofs.Ytfflhppieogkbaa.PA
def next.T17 : Bool × List (List Nat × List Nat) := (true, [([], []), ([0], [0]), ([1], [1]), ([2], [2]), ([3], [3]), ([4, 3, 3], [3, 4]), ([3], [3]), ([3], [3]), ([7, 3], [3, 7]), ([6, 8, 3], [3, 6, 8]), ([5, 9, 3], [3, 5, 9]), ([3, 10], [3, 10]), ([11, 5], [11]), ([12], [12]), ([12], [12]), ([12], [12]), ([15, 12], [12, 15]), ([14, 16, 12], [12, 14, 16]), ([13, 17, 12, 12], [12, 13, 17]), ([18, 12], [12, 18]), ([12, 19], [12, 19]), ([20, 18], [20]), ([21], [21]), ([22, 21, 21], [21, 22]), ([21], [21]), ([21], [21]), ([25, 21], [21, 25]), ([24, 26, 21], [21, 24, 26]), ([23, 27, 23, 21], [21, 23, 27]), ([28, 21], [21, 28]), ([21, 29], [21, 29])])
theorem next.tab17 : rtab .any (opsOf Try.f6 17) = next.T17 := by kernel_rfl
theorem same_loop (a : List Int) (ha : a.length ≤ 100000) : ∀ (d i k : Nat), a.length - i = d → i ≤ a.length → d < k → hostlerref01_Same.l0 k a a (i : Int) = some true := by
  intro d
  induction d with
  | zero =>
    intro i k hd hi hk
    obtain ⟨k, rfl⟩ : ∃ m, k = m + 1 := ⟨k - 1, by omega⟩
    rw [hostlerref01_Same.l0, if_neg (by omega)]
  | succ d ih =>
    intro i k hd hi hk
    obtain ⟨k, rfl⟩ : ∃ m, k = m + 1 := ⟨k - 1, by omega⟩
    have hw : wrap64 ((i : Int) + 1) = ((i + 1 : Nat) : Int) := by unfold wrap64; omega
    rw [hostlerref01_Same.l0, if_pos (by omega), if_pos (by omega), if_pos (by omega), if_pos rfl, hw]
    exact ih (i + 1) k (by omega) (by omega) (by omega)
theorem same23 (a : List Int) (A B : Option Addr) (c d : Nat) (w : World) (hA : kI.C w A a.length a) (ha : a.length ≤ c) (hB : kI.C w B a.length a) (hb : a.length ≤ d) (hl : a.length ≤ 1000) :
    Calls Try.prog 23 #[.slice A a.length c, .slice B a.length d] w fun e w' => e = .returned (.bool true) ∧ Below w.heap.size w w' := by
  refine (hostlerref01_Same.calls (a.length + 1) A c a B d a true w hA ha hB hb ?_).mono ?_
  · unfold hostlerref01_Same.f
    rw [if_pos rfl]
    exact same_loop a (by omega) a.length 0 _ (by omega) (by omega) (by omega)
  · rintro e w' ⟨rfl, hb⟩
    exact ⟨rfl, Drawn0.below hb⟩
theorem put_ticks {l : PL} (h : Ticks l) (k x : Int) : Ticks (put l k (cut x)) := fun p hp => by
  rcases mem_put.1 hp with rfl | ⟨h1, _⟩
  · exact cut_range x
  · exact h p h1
theorem put_len {l : PL} (hr : Rising l) (k v : Int) : (put l k v).length ≤ l.length + 1 := by
  cases h : Mp.look l k with
  | none => rw [len_put_new v h]; exact Nat.le_refl _
  | some u => rw [len_put_old hr v h]; omega
theorem next_some {w0 W : World} {g : Nat} {s : WS} {T : Int} (hI : IsW w0 W g s) (hB : Below w0.heap.size w0 W) (hm : s.m ≤ 90000) (hT : Least s.ats T) : Calls Try.prog 20 #[.pointer (some ⟨g, 0, none⟩)] W fun e w' => e = .returned (.tuple #[.int .i64 T, .bool true]) ∧ IsW w0 w' g s ∧ Kp g W w' := (next_any hI hB hm).mono (by
  rintro e w' ⟨hn, h1, h2⟩
  refine ⟨?_, h1, h2⟩
  rcases hn with ⟨h, _⟩ | ⟨p, hp, rfl, hle⟩
  · obtain ⟨⟨p, hp, _⟩, _⟩ := hT
    rw [h] at hp
    simp at hp
  · rw [Least.unique (S := p.2) hT ⟨⟨p, hp, rfl⟩, hle⟩])
theorem next_none {w0 W : World} {g : Nat} {s : WS} (hI : IsW w0 W g s) (hB : Below w0.heap.size w0 W) (hm : s.m ≤ 90000) (hz : s.ats = []) : Calls Try.prog 20 #[.pointer (some ⟨g, 0, none⟩)] W fun e w' => e = .returned (.tuple #[.int .i64 0, .bool false]) ∧ IsW w0 w' g s ∧ Kp g W w' := (next_any hI hB hm).mono (by
  rintro e w' ⟨hn, h1, h2⟩
  refine ⟨?_, h1, h2⟩
  rcases hn with ⟨_, h⟩ | ⟨p, hp, _⟩
  · exact h
  · rw [hz] at hp; simp at hp)
theorem keys_by {w0 W : World} {g : Nat} {s : WS} (hI : IsW w0 W g s) (hl : s.ats.length ≤ 1000000) :
    Calls Try.prog 22 #[.pointer (some ⟨g, 0, none⟩)] W fun e w' => ∃ v : Value, e = .returned v ∧ kI.R 3 w' W.heap.size (fun k => ¬ Own w' g k) v (byTick s.ats) ∧ Below W.heap.size W w' := (keys_any hI hl).mono (by
  rintro e w' ⟨v, ks, rfl, hby, hR, hb⟩
  rw [← hby.eq]
  exact ⟨v, rfl, hI.new_row hb hR, hb⟩)
set_option maxHeartbeats 8000000 in
theorem next_calls (A0 : Option Addr) (c0 : Nat) (l0 : List Int) (w : World) (hr0 : Kd.C kI w A0 l0.length l0) (hc0 : l0.length ≤ c0) (hw0 : ∀ x ∈ l0, (Lit.int .i64 x).wf = true) :
    Calls Try.prog 6 #[.slice A0 l0.length c0] w fun e w' => e = .returned (.bool true) ∧ Below w.heap.size w w' := by
  obtain ⟨ne, hne⟩ : ∃ ne, l0.length = ne := ⟨_, rfl⟩
  rw [hne] at hr0 hc0 ⊢
  have HL := Aside0.mk (lives_raw w)
  have HR0 := Aside0.mk hr0
  have HN := Aside0.mk (fun (W : World) (h : Below w.heap.size w W) => new_raw w W h)
  clear hr0 hw0 hne
  go_enter Try.func6, Try.ntmps6
  go_upto_block 0 with (first
    | (go_at_call 9; refine HL.out.mono ?_; rintro e wa ⟨rfl, hb⟩; have BA := Aside0.mk hb; clear hb)
    | (go_at_call 14; refine (HN.out wa BA.out).mono ?_; rintro e wb ⟨g, rfl, hi, hb, _⟩; have KB := Aside0.mk hi; have BB := Aside0.mk (below_step BA.out hb); clear hi hb))
  go_wp2
  go_loopw [4] (fun v4 wr => ∃ (i : Nat) (l : PL), v4 = .int .i64 (i : Int) ∧ i ≤ ne ∧ i ≤ 30 ∧ Aside0 (IsW w wr g ⟨l, i⟩) ∧ Aside0 (l.length ≤ i) ∧ Aside0 (Ticks l) ∧ Aside0 (Below w.heap.size w wr)) (fun v4 _ => 30 - (intOf v4).toNat)
  case atStart => exact ⟨0, [], rfl, Nat.zero_le _, Nat.zero_le _, KB, ⟨Nat.le_refl _⟩, ⟨fun p hp => by simp at hp⟩, BB⟩
  case round =>
    obtain ⟨i, l, rfl, hi, hi2, HI, HLN, HT, HB⟩ := hrel
    by_cases hgo : i < ne ∧ i < 30
    · obtain ⟨hlt, hlt2⟩ := hgo
      have hd1 : decide ((i : Int) < (ne : Int)) = true := decide_eq_true (by omega)
      have hd1n : decide (i < ne) = true := decide_eq_true hlt
      have hd2 : decide ((i : Int) < 30) = true := decide_eq_true (by omega)
      have hd2n : decide (i < 30) = true := decide_eq_true hlt2
      obtain ⟨ad, rfl, hcell0⟩ := at_ints HR0.out hlt
      have hcell : wr.cell? (ad.add i) = some (.int .i64 (nth l0 i)) := (HB.out.cell (World.block_lt_of_cell? w _ hcell0)).trans hcell0
      obtain ⟨x, hx⟩ : ∃ x, nth l0 i = x := ⟨_, rfl⟩
      rw [hx] at hcell
      have HSET := Aside0.mk (set_any (i : Int) x (wfI (by omega) (by omega)) HI.out HB.out (show i ≤ 1000 by omega) (show l.length ≤ 1000 by have := HLN.out; omega))
      have HLN2 : Aside0 ((put l (i : Int) (cut x)).length ≤ i + 1) := ⟨by have := put_len HI.out.rise (i : Int) (cut x); have h2 := HLN.out; exact Nat.le_trans this (by show l.length + 1 ≤ i + 1; omega)⟩
      clear hcell0 hx
      go_wp2_with (go_at_call 15; (with_reducible refine HSET.out.mono ?_); rintro e w5 ⟨rfl, hi5, hk5⟩; have KI5 := Aside0.mk hi5; have KK5 := Aside0.mk hk5; clear hi5 hk5)
      go_roundw
      case measure => simp [intOf]; omega
      case rel => exact ⟨i + 1, put l (i : Int) (cut x), by first | rfl | (congr 1; omega), by omega, by omega, KI5, HLN2, ⟨put_ticks HT.out _ _⟩, ⟨KK5.out.below HB.out HI.out⟩⟩
    · have HLN30 : Aside0 (l.length + 0 ≤ 30) := ⟨by have := HLN.out; omega⟩
      have HM := Aside0.mk (show i ≤ 90000 by omega)
      by_cases hlt : i < ne
      · have hd1 : decide ((i : Int) < (ne : Int)) = true := decide_eq_true (by omega)
        have hd1n : decide (i < ne) = true := decide_eq_true hlt
        have hd2 : decide ((i : Int) < 30) = false := decide_eq_false (by omega)
        have hd2n : decide (i < 30) = false := decide_eq_false (by omega)
        clear hgo hlt hi hi2
        go_upto_block 2 with fail
        go_wp2
        go_loopw [5] (fun v5 w2 => ∃ (k : Nat) (l2 : PL), v5 = .int .i64 (k : Int) ∧ Aside0 (IsW w w2 g ⟨l2, i⟩) ∧ Aside0 (l2.length + k ≤ 30) ∧ Aside0 (Ticks l2) ∧ Aside0 (Below w.heap.size w w2)) (fun v5 _ => 40 - (intOf v5).toNat)
        case atStart => exact ⟨0, l, rfl, HI, HLN30, HT, HB⟩
        case round =>
          clear HI HLN30 HT HB HLN
          obtain ⟨k, l2, rfl, HI, HLN, HT, HB⟩ := hrel
          have hk30 : k ≤ 30 := by have := HLN.out; omega
          have hd3 : decide ((k : Int) < 40) = true := decide_eq_true (by omega)
          have hd3n : decide (k < 40) = true := decide_eq_true (by omega)
          have HLE0 := Aside0.mk (len_any HI.out)
          by_cases hz : l2 = []
          · subst hz
            have HNX := Aside0.mk (next_none HI.out HB.out HM.out rfl)
            have HLE1 : Aside0 (∀ W, IsW w W g ⟨[], i⟩ → Calls Try.prog 18 #[.pointer (some ⟨g, 0, none⟩)] W fun e w' => e = .returned (.int .i64 0) ∧ W = w') := ⟨fun W h => len_any h⟩
            have HLE2 := Aside0.mk (HLE1.out _ HI.out)
            clear HLE0
            go_wp2_with (first
              | (go_at_call 18; (with_reducible refine HLE2.out.mono ?_); rintro e w' ⟨rfl, rfl⟩)
              | (go_at_call 20; (with_reducible refine HNX.out.mono ?_); rintro e w3 ⟨rfl, hi3, hk3⟩; have KI3 := Aside0.mk hi3; have BB3 := Aside0.mk (hk3.below HB.out HI.out); have HLE3 := Aside0.mk (HLE1.out _ hi3); clear hi3 hk3)
              | (go_at_call 18; (with_reducible refine HLE3.out.mono ?_); rintro e w' ⟨rfl, rfl⟩))
            go_ret
            exact ⟨rfl, BB3.out⟩
          · obtain ⟨Tk, hTk⟩ := least_is hz
            have hTr := least_range HT.out hTk
            have hrise := HI.out.rise
            have hsplit := byTick_split hrise HT.out hTk
            have hdl0 := due_some HT.out hTk
            have hdr := due_len l2 Tk
            have hbl := byTick_len l2
            have hbr := byTick_len (rest l2 Tk)
            obtain ⟨px, hpx, hx1, hx2⟩ := byTick_zero hrise HT.out hTk
            have HX := Aside0.mk (show nth (byTick l2) 0 = px.1 from hx1)
            have hpI : I64 px.1 := by
              obtain ⟨xs, hX, _⟩ := HI.out
              exact (hX.keyI px hpx).1
            have HAT : Aside0 (∀ W, IsW w W g ⟨l2, i⟩ → Calls Try.prog 19 #[.pointer (some ⟨g, 0, none⟩), .int .i64 px.1] W fun e w' => e = .returned (.tuple #[.int .i64 Tk, .bool true]) ∧ W = w') := ⟨fun W h => by
              have := at_raw px.1 hpI h
              rwa [show (⟨l2, i⟩ : WS).ats = l2 from rfl, code_of hrise hpx, hx2, (look_some hrise).2 (show (px.1, px.2) ∈ l2 from hpx)] at this⟩
            have HNX := Aside0.mk (next_some HI.out HB.out HM.out hTk)
            have HKE1 : Aside0 (∀ W, IsW w W g ⟨l2, i⟩ → Calls Try.prog 22 #[.pointer (some ⟨g, 0, none⟩)] W fun e w' => ∃ v : Value, e = .returned v ∧ kI.R 3 w' W.heap.size (fun k => ¬ Own w' g k) v (byTick l2) ∧ Below W.heap.size W w') := ⟨fun W h => keys_by h (show l2.length ≤ 1000000 by have := HLN.out; omega)⟩
            have HLE1 : Aside0 (∀ W, IsW w W g ⟨l2, i⟩ → Calls Try.prog 18 #[.pointer (some ⟨g, 0, none⟩)] W fun e w' => e = .returned (.int .i64 ((byTick l2).length : Int)) ∧ W = w') := ⟨fun W h => by rw [hbl]; exact len_any h⟩
            have HD1 : Aside0 (0 < Tk → ∀ W, IsW w W g ⟨l2, i⟩ → Below w.heap.size w W → Calls Try.prog 17 #[.pointer (some ⟨g, 0, none⟩), .int .i64 (Tk - 1)] W fun e w' => ∃ v : Value, e = .returned v ∧ kI.R 3 w' W.heap.size (fun k => ¬ Own w' g k) v [] ∧ IsW w w' g ⟨l2, i⟩ ∧ Kp g W w') := ⟨fun h0 W h hb => by
              have := due_any (Tk - 1) h hb HM.out
              rwa [show (⟨l2, i⟩ : WS).ats = l2 from rfl, (due_none HT.out hTk h0).1, (due_none HT.out hTk h0).2] at this⟩
            have HD2 : Aside0 (∀ W, IsW w W g ⟨l2, i⟩ → Below w.heap.size w W → Calls Try.prog 17 #[.pointer (some ⟨g, 0, none⟩), .int .i64 Tk] W fun e w' => ∃ v : Value, e = .returned v ∧ kI.R 3 w' W.heap.size (fun k => ¬ Own w' g k) v (due l2 Tk) ∧ IsW w w' g ⟨rest l2 Tk, i⟩ ∧ Kp g W w') := ⟨fun W h hb => due_any Tk h hb HM.out⟩
            have HLE : Aside0 (∀ W, IsW w W g ⟨rest l2 Tk, i⟩ → Calls Try.prog 18 #[.pointer (some ⟨g, 0, none⟩)] W fun e w' => e = .returned (.int .i64 ((byTick (rest l2 Tk)).length : Int)) ∧ W = w') := ⟨fun W h => by rw [hbr]; exact len_any h⟩
            have HKE2 : Aside0 (∀ W, IsW w W g ⟨rest l2 Tk, i⟩ → Calls Try.prog 22 #[.pointer (some ⟨g, 0, none⟩)] W fun e w' => ∃ v : Value, e = .returned v ∧ kI.R 3 w' W.heap.size (fun k => ¬ Own w' g k) v (byTick (rest l2 Tk)) ∧ Below W.heap.size W w') := ⟨fun W h => keys_by h (show (rest l2 Tk).length ≤ 1000000 by have := HLN.out; omega)⟩
            have HT2 := Aside0.mk (rest_ticks HT.out Tk)
            have hlr : (rest l2 Tk).length + (k + 1) ≤ 30 := by have := HLN.out; omega
            have HLR := Aside0.mk hlr
            obtain ⟨ks, hks⟩ : ∃ ks, byTick l2 = ks := ⟨_, rfl⟩
            obtain ⟨D, hD⟩ : ∃ D, due l2 Tk = D := ⟨_, rfl⟩
            obtain ⟨K2, hK2⟩ : ∃ K2, byTick (rest l2 Tk) = K2 := ⟨_, rfl⟩
            rw [hks] at HKE1 HLE1 HX hbl hsplit
            rw [hD] at HD2 hdl0 hdr hsplit
            rw [hK2] at HLE HKE2 hbr hsplit
            have HSP := Aside0.mk hsplit
            obtain ⟨n, hn⟩ : ∃ n, ks.length = n := ⟨_, rfl⟩
            obtain ⟨dl, hdl⟩ : ∃ dl, D.length = dl := ⟨_, rfl⟩
            obtain ⟨r, hr⟩ : ∃ r, K2.length = r := ⟨_, rfl⟩
            have hndr : n = dl + r := by rw [← hn, hsplit, List.length_append, hdl, hr]
            rw [hn] at HLE1
            rw [hr] at HLE
            rw [hdl] at hdl0
            have HNN := Aside0.mk hn
            have HDL := Aside0.mk hdl
            have HRR := Aside0.mk hr
            have hn30 : n ≤ 30 := by have := HLN.out; omega
            obtain ⟨hT0, hT9⟩ := hTr
            have hnp : 0 < n := by omega
            have hd4 : decide (0 < (n : Int)) = true := decide_eq_true (by omega)
            have hd4n : decide (0 < n) = true := decide_eq_true hnp
            have hd5 : decide ((dl : Int) = 0) = false := decide_eq_false (by omega)
            have hd5n : decide (dl = 0) = false := decide_eq_false (by omega)
            have hd5b : ((dl : Int) == 0) = false := by rw [beq_eq_false_iff_ne]; omega
            have hd5c : (dl == 0) = false := by rw [beq_eq_false_iff_ne]; omega
            have hsub : (n : Int) - (dl : Int) = (r : Int) := by omega
            have hsubn : n - dl = r := by omega
            have hdn : dl ≤ n := by omega
            have hlel := Aside0.mk (HLE1.out wr HI.out)
            clear HLE0 hsplit hn hdl hr hks hD hK2 hz hTk hrise hdr hbl hbr hpx hx1 hx2 hpI hlr hnp hndr
            by_cases hTp : 0 < Tk
            · have hd6 : decide (0 < Tk) = true := decide_eq_true hTp
              replace HD1 := Aside0.mk (HD1.out hTp)
              clear hTp
              go_upto_region 13 with (first
                | (go_at_call 18; (with_reducible refine hlel.out.mono ?_); rintro e w' ⟨rfl, rfl⟩)
                | (go_at_call 20; (with_reducible refine HNX.out.mono ?_); rintro e w1 ⟨rfl, hi1, hk1⟩; have K1 := Aside0.mk hi1; have B1 := Aside0.mk (hk1.below HB.out HI.out); clear hi1 hk1)
                | (go_at_call 22; (with_reducible refine (HKE1.out w1 K1.out).mono ?_); rintro e w2 ⟨v2, rfl, hR2, hb2⟩; obtain ⟨A5, n5, rfl⟩ := Kd.R_slice hR2; have HR2 := Aside0.mk hR2; have B2 := Aside0.mk (below_step B1.out hb2); have K2' := Aside0.mk (K1.out.below hb2); have HLE3 := Aside0.mk (HLE1.out w2 K2'.out); clear hR2 hb2)
                | (go_at_call 18; (with_reducible refine HLE3.out.mono ?_); rintro e w' ⟨rfl, rfl⟩))
              rw [HNN.out] at HR2 ⊢
              have hn5 : n ≤ n5 := (Kd.R_reads' HR2.out).2.1
              obtain ⟨ad5, hA5, hc5⟩ := at_ints (Kd.R_reads' HR2.out).2.2 (show 0 < ks.length by rw [HNN.out]; omega)
              subst hA5
              rw [HX.out] at hc5
              have hc5 : w2.cell? ad5 = some (.int .i64 px.1) := hc5
              go_upto_region 14 with (go_at_call 19; (with_reducible refine (HAT.out w2 K2'.out).mono ?_); rintro e w' ⟨rfl, rfl⟩)
              clear hc5
              go_upto_region 17 with (first
                | (go_at_call 17; (with_reducible refine (HD1.out w2 K2'.out B2.out).mono ?_); rintro e w3 ⟨v3, rfl, hR3, hi3, hk3⟩; obtain ⟨A3, n3, rfl⟩ := row_nil_len hR3; have K3 := Aside0.mk hi3; have B3 := Aside0.mk (hk3.below B2.out K2'.out); have HR3 := Aside0.mk (hk3.row2 HR2.out); have HD2' := Aside0.mk (HD2.out w3 hi3 B3.out); clear hR3 hi3 hk3)
                | (go_at_call 17; (with_reducible refine HD2'.out.mono ?_); rintro e w4 ⟨v4, rfl, hR4, hi4, hk4⟩; obtain ⟨A4, n4, rfl⟩ := Kd.R_slice hR4; have HR4 := Aside0.mk hR4; have K4 := Aside0.mk hi4; have B4 := Aside0.mk (hk4.below B3.out K3.out); have HRK := Aside0.mk (hk4.row2 HR3.out); clear hR4 hi4 hk4))
              obtain ⟨A5, hA5⟩ : ∃ A5, some ad5 = A5 := ⟨_, rfl⟩
              rw [hA5] at HRK ⊢
              clear hA5
              rw [HDL.out] at HR4 ⊢
              have HCK := Aside0.mk (Kd.R_reads' HRK.out).2.2
              have hdl5 : dl ≤ n5 := by omega
              have hn4 : dl ≤ n4 := (Kd.R_reads' HR4.out).2.1
              have HSA : Aside0 (∀ W, Below w4.heap.size w4 W → Calls Try.prog 23 #[.slice A4 dl n4, .slice A5 dl n5] W fun e w' => e = .returned (.bool true) ∧ Below W.heap.size W w') := ⟨fun W hb => by
                have h1 := Kd.C_below (Kd.R_reads' HR4.out).2.2 hb
                have h2 := Kd.C_take (m := dl) (Kd.C_below HCK.out hb) (by rw [HNN.out]; exact hdn)
                rw [show ks.take dl = D by rw [HSP.out, ← HDL.out, List.take_left']; rfl] at h2
                have := same23 D A4 A5 n4 n5 W h1 (by rw [HDL.out]; exact hn4) h2 (by rw [HDL.out]; omega) (by rw [HDL.out]; omega)
                rwa [HDL.out] at this⟩
              have HSB : Aside0 (∀ (W : World) (A6 : Option Addr) (n6 : Nat), r ≤ n6 → kI.C W A6 K2.length K2 → Below w4.drew.heap.size w4.drew W → Calls Try.prog 23 #[.slice A6 r n6, .slice (if n5 = dl then A5 else A5.map (·.add dl)) r (n5 - dl)] W fun e w' => e = .returned (.bool true) ∧ Below W.heap.size W w') := ⟨fun W A6 n6 h6 hc6 hb => by
                have h2 := Kd.C_drop (m := dl) (c := n5) (Kd.C_below (Kd.C_drew HCK.out) hb) (by rw [HNN.out]; exact hdn) (by rw [HNN.out]; exact hn5)
                rw [show ks.drop dl = K2 by rw [HSP.out, ← HDL.out, List.drop_left']; rfl] at h2
                rw [show dl * kI.sz = dl from Nat.mul_one dl] at h2
                have := same23 K2 A6 _ n6 (n5 - dl) W hc6 (by rw [HRR.out]; exact h6) h2 (by rw [HRR.out]; omega) (by rw [HRR.out]; omega)
                rwa [HRR.out] at this⟩
              have hwr : wrap64 (r : Int) = (r : Int) := IntWalk.wrap64_in _ (by omega)
              refine start_ (n := 31) (S := fun w' => True) (ds := []) #[false, false, false, false, false, false, false, false, false, false, false, false, false, false, false, false, false, false, false, false, false, false, false, false, false, false, false, false, false, false, false] (by kernel_rfl) rfl rfl trivial (fun hHeld => ?_); refine with_tab next.tab17 (fun HT_ => ?_)
              refine pure_ (i := 0) (N := some 93) (v := ?_) (a' := ?_) #[true, false, false, false, false, false, false, false, false, false, false, false, false, false, false, false, false, false, false, false, false, false, false, false, false, false, false, false, false, false, false] rfl rfl (any_of HT_.out (by kernel_rfl)) (fun _ _ _ h => h) (Or.inl ⟨by rfl, ?_⟩) ?_ ?_
              rotate_left
              · intro w'
                go_simp
                with_reducible rfl
              rotate_left
              · simp only [Act.put, List.setIfInBounds_toArray, List.set_cons_zero, List.set_cons_succ, i64_w, i32_w]
                rfl
              refine pure_ (i := 1) (N := some 94) (v := ?_) (a' := ?_) #[true, true, false, false, false, false, false, false, false, false, false, false, false, false, false, false, false, false, false, false, false, false, false, false, false, false, false, false, false, false, false] rfl rfl (any_of HT_.out (by kernel_rfl)) (fun _ _ _ h => h) (Or.inl ⟨by rfl, ?_⟩) ?_ ?_
              rotate_left
              · intro w'
                go_simp
                with_reducible rfl
              rotate_left
              · simp only [Act.put, List.setIfInBounds_toArray, List.set_cons_zero, List.set_cons_succ, i64_w, i32_w]
                rfl
              refine pure_ (i := 2) (N := some 95) (v := ?_) (a' := ?_) #[true, true, true, false, false, false, false, false, false, false, false, false, false, false, false, false, false, false, false, false, false, false, false, false, false, false, false, false, false, false, false] rfl rfl (any_of HT_.out (by kernel_rfl)) (fun _ _ _ h => h) (Or.inl ⟨by rfl, ?_⟩) ?_ ?_
              rotate_left
              · intro w'
                go_simp
                with_reducible rfl
              rotate_left
              · simp only [Act.put, List.setIfInBounds_toArray, List.set_cons_zero, List.set_cons_succ, i64_w, i32_w]
                rfl
              refine pure_ (i := 3) (N := some 96) (v := ?_) (a' := ?_) #[true, true, true, true, false, false, false, false, false, false, false, false, false, false, false, false, false, false, false, false, false, false, false, false, false, false, false, false, false, false, false] rfl rfl (any_of HT_.out (by kernel_rfl)) (fun _ _ _ h => h) (Or.inl ⟨by rfl, ?_⟩) ?_ ?_
              rotate_left
              · intro w'
                go_simp
                with_reducible rfl
              rotate_left
              · simp only [Act.put, List.setIfInBounds_toArray, List.set_cons_zero, List.set_cons_succ, i64_w, i32_w]
                rfl
              refine pure_ (i := 4) (N := some 97) (v := ?_) (a' := ?_) #[true, true, true, true, true, false, false, false, false, false, false, false, false, false, false, false, false, false, false, false, false, false, false, false, false, false, false, false, false, false, false] rfl rfl (any_of HT_.out (by kernel_rfl)) (fun _ _ _ h => h) (Or.inl ⟨by rfl, ?_⟩) ?_ ?_
              rotate_left
              · intro w'
                go_simp
                with_reducible rfl
              rotate_left
              · simp only [Act.put, List.setIfInBounds_toArray, List.set_cons_zero, List.set_cons_succ, i64_w, i32_w]
                rfl
              refine pure_ (i := 6) (N := some 99) (v := ?_) (a' := ?_) #[true, true, true, true, true, false, true, false, false, false, false, false, false, false, false, false, false, false, false, false, false, false, false, false, false, false, false, false, false, false, false] rfl rfl (any_of HT_.out (by kernel_rfl)) (fun _ _ _ h => h) (Or.inl ⟨by rfl, ?_⟩) ?_ ?_
              rotate_left
              · intro w'
                go_simp
                with_reducible rfl
              rotate_left
              · simp only [Act.put, List.setIfInBounds_toArray, List.set_cons_zero, List.set_cons_succ, i64_w, i32_w]
                rfl
              refine pure_ (i := 7) (N := some 100) (v := ?_) (a' := ?_) #[true, true, true, true, true, false, true, true, false, false, false, false, false, false, false, false, false, false, false, false, false, false, false, false, false, false, false, false, false, false, false] rfl rfl (any_of HT_.out (by kernel_rfl)) (fun _ _ _ h => h) (Or.inl ⟨by rfl, ?_⟩) ?_ ?_
              rotate_left
              · intro w'
                go_simp
                with_reducible rfl
              rotate_left
              · simp only [Act.put, List.setIfInBounds_toArray, List.set_cons_zero, List.set_cons_succ, i64_w, i32_w]
                rfl
              refine pure_ (i := 8) (N := some 101) (v := ?_) (a' := ?_) #[true, true, true, true, true, false, true, true, true, false, false, false, false, false, false, false, false, false, false, false, false, false, false, false, false, false, false, false, false, false, false] rfl rfl (any_of HT_.out (by kernel_rfl)) (fun _ _ _ h => h) (Or.inl ⟨by rfl, ?_⟩) ?_ ?_
              rotate_left
              · intro w'
                go_simp
                with_reducible rfl
              rotate_left
              · simp only [Act.put, List.setIfInBounds_toArray, List.set_cons_zero, List.set_cons_succ, i64_w, i32_w]
                rfl
              refine pure_ (i := 9) (N := some 102) (v := ?_) (a' := ?_) #[true, true, true, true, true, false, true, true, true, true, false, false, false, false, false, false, false, false, false, false, false, false, false, false, false, false, false, false, false, false, false] rfl rfl (any_of HT_.out (by kernel_rfl)) (fun _ _ _ h => h) (Or.inl ⟨by rfl, ?_⟩) ?_ ?_
              rotate_left
              · intro w'
                go_simp
                with_reducible rfl
              rotate_left
              · simp only [Act.put, List.setIfInBounds_toArray, List.set_cons_zero, List.set_cons_succ, i64_w, i32_w]
                rfl
              refine one_ (i := 5) (N := some 98) #[true, true, true, true, true, true, true, true, true, true, false, false, false, false, false, false, false, false, false, false, false, false, false, false, false, false, false, false, false, false, false] rfl rfl (one_of HT_.out (by kernel_rfl)) (by decide) (fun K hK => ?_)
              refine goes_ Try.func18 (by kernel_rfl) rfl #[.pointer (some ⟨g, 0, none⟩)] (by rfl) rfl rfl (by (try simp only [List.map_toArray, List.map_cons, List.map_nil]); first | done | rfl) ?_
              refine (HLE.out _ (K4.out.below (below_drew1 (Below.refl _ _)))).mono ?_
              rintro e w' ⟨rfl, rfl⟩
              refine ⟨_, rfl, ?_⟩
              refine hK.out _ _ trivial (fun hHeld => ?_)
              clear hK K
              refine norm_ (a' := ?_) ?_ ?_
              rotate_left
              · show Act.put _ (some 98) _ = _
                simp only [Act.put, List.setIfInBounds_toArray, List.set_cons_zero, List.set_cons_succ, i64_w, i32_w]
                rfl
              refine pure_ (i := 10) (N := some 103) (v := ?_) (a' := ?_) #[true, true, true, true, true, true, true, true, true, true, true, false, false, false, false, false, false, false, false, false, false, false, false, false, false, false, false, false, false, false, false] rfl rfl (any_of HT_.out (by kernel_rfl)) (fun _ _ _ h => h) (Or.inl ⟨by rfl, ?_⟩) ?_ ?_
              rotate_left
              · intro w'
                go_simp
                with_reducible rfl
              rotate_left
              · simp only [Act.put, List.setIfInBounds_toArray, List.set_cons_zero, List.set_cons_succ, i64_w, i32_w]
                rfl
              refine pure_ (i := 11) (N := some 104) (v := ?_) (a' := ?_) #[true, true, true, true, true, true, true, true, true, true, true, true, false, false, false, false, false, false, false, false, false, false, false, false, false, false, false, false, false, false, false] rfl rfl (any_of HT_.out (by kernel_rfl)) (fun _ _ _ h => h) (Or.inl ⟨by rfl, ?_⟩) ?_ ?_
              rotate_left
              · intro w'
                go_simp
                with_reducible rfl
              rotate_left
              · simp only [Act.put, List.setIfInBounds_toArray, List.set_cons_zero, List.set_cons_succ, i64_w, i32_w]
                rfl
              refine pure_ (i := 12) (N := some 105) (v := ?_) (a' := ?_) #[true, true, true, true, true, true, true, true, true, true, true, true, true, false, false, false, false, false, false, false, false, false, false, false, false, false, false, false, false, false, false] rfl rfl (any_of HT_.out (by kernel_rfl)) (fun _ _ _ h => h) (Or.inl ⟨by rfl, ?_⟩) ?_ ?_
              rotate_left
              · intro w'
                go_simp
                with_reducible rfl
              rotate_left
              · simp only [Act.put, List.setIfInBounds_toArray, List.set_cons_zero, List.set_cons_succ, i64_w, i32_w]
                rfl
              refine pure_ (i := 13) (N := some 106) (v := ?_) (a' := ?_) #[true, true, true, true, true, true, true, true, true, true, true, true, true, true, false, false, false, false, false, false, false, false, false, false, false, false, false, false, false, false, false] rfl rfl (any_of HT_.out (by kernel_rfl)) (fun _ _ _ h => h) (Or.inl ⟨by rfl, ?_⟩) ?_ ?_
              rotate_left
              · intro w'
                go_simp
                with_reducible rfl
              rotate_left
              · simp only [Act.put, List.setIfInBounds_toArray, List.set_cons_zero, List.set_cons_succ, i64_w, i32_w]
                rfl
              refine pure_ (i := 14) (N := some 107) (v := ?_) (a' := ?_) #[true, true, true, true, true, true, true, true, true, true, true, true, true, true, true, false, false, false, false, false, false, false, false, false, false, false, false, false, false, false, false] rfl rfl (any_of HT_.out (by kernel_rfl)) (fun _ _ _ h => h) (Or.inl ⟨by rfl, ?_⟩) ?_ ?_
              rotate_left
              · intro w'
                go_simp
                with_reducible rfl
              rotate_left
              · simp only [Act.put, List.setIfInBounds_toArray, List.set_cons_zero, List.set_cons_succ, i64_w, i32_w]
                rfl
              refine pure_ (i := 15) (N := some 108) (v := ?_) (a' := ?_) #[true, true, true, true, true, true, true, true, true, true, true, true, true, true, true, true, false, false, false, false, false, false, false, false, false, false, false, false, false, false, false] rfl rfl (any_of HT_.out (by kernel_rfl)) (fun _ _ _ h => h) (Or.inl ⟨by rfl, ?_⟩) ?_ ?_
              rotate_left
              · intro w'
                go_simp
                with_reducible rfl
              rotate_left
              · simp only [Act.put, List.setIfInBounds_toArray, List.set_cons_zero, List.set_cons_succ, i64_w, i32_w]
                rfl
              refine pure_ (i := 16) (N := some 109) (v := ?_) (a' := ?_) #[true, true, true, true, true, true, true, true, true, true, true, true, true, true, true, true, true, false, false, false, false, false, false, false, false, false, false, false, false, false, false] rfl rfl (any_of HT_.out (by kernel_rfl)) (fun _ _ _ h => h) (Or.inl ⟨by rfl, ?_⟩) ?_ ?_
              rotate_left
              · intro w'
                go_simp
                with_reducible rfl
              rotate_left
              · simp only [Act.put, List.setIfInBounds_toArray, List.set_cons_zero, List.set_cons_succ, i64_w, i32_w]
                rfl
              refine pure_ (i := 17) (N := some 110) (v := ?_) (a' := ?_) #[true, true, true, true, true, true, true, true, true, true, true, true, true, true, true, true, true, true, false, false, false, false, false, false, false, false, false, false, false, false, false] rfl rfl (any_of HT_.out (by kernel_rfl)) (fun _ _ _ h => h) (Or.inl ⟨by rfl, ?_⟩) ?_ ?_
              rotate_left
              · intro w'
                go_simp
                with_reducible rfl
              rotate_left
              · simp only [Act.put, List.setIfInBounds_toArray, List.set_cons_zero, List.set_cons_succ, i64_w, i32_w]
                rfl
              refine one_ (i := 18) (N := some 111) #[true, true, true, true, true, true, true, true, true, true, true, true, true, true, true, true, true, true, true, false, false, false, false, false, false, false, false, false, false, false, false] rfl rfl (one_of HT_.out (by kernel_rfl)) (by decide) (fun K hK => ?_)
              refine goes_ Try.func23 (by kernel_rfl) rfl #[.slice A4 dl n4, .slice A5 dl n5] (by rfl) rfl rfl (by (try simp only [List.map_toArray, List.map_cons, List.map_nil]); first | done | rfl) ?_
              refine (HSA.out _ (below_drew1 (Below.refl _ _))).mono ?_
              rintro e w5 ⟨rfl, hb5⟩
              have HB5 := Aside0.mk hb5
              clear hb5
              refine ⟨_, rfl, ?_⟩
              refine hK.out _ _ trivial (fun hHeld => ?_)
              clear hK K
              refine norm_ (a' := ?_) ?_ ?_
              rotate_left
              · show Act.put _ (some 111) _ = _
                simp only [Act.put, List.setIfInBounds_toArray, List.set_cons_zero, List.set_cons_succ, i64_w, i32_w]
                rfl
              refine pure_ (i := 19) (N := some 112) (v := ?_) (a' := ?_) #[true, true, true, true, true, true, true, true, true, true, true, true, true, true, true, true, true, true, true, true, false, false, false, false, false, false, false, false, false, false, false] rfl rfl (any_of HT_.out (by kernel_rfl)) (fun _ _ _ h => h) (Or.inl ⟨by rfl, ?_⟩) ?_ ?_
              rotate_left
              · intro w'
                go_simp
                with_reducible rfl
              rotate_left
              · simp only [Act.put, List.setIfInBounds_toArray, List.set_cons_zero, List.set_cons_succ, i64_w, i32_w]
                rfl
              refine pure_ (i := 20) (N := some 113) (v := ?_) (a' := ?_) #[true, true, true, true, true, true, true, true, true, true, true, true, true, true, true, true, true, true, true, true, true, false, false, false, false, false, false, false, false, false, false] rfl rfl (any_of HT_.out (by kernel_rfl)) (fun _ _ _ h => h) (Or.inl ⟨by rfl, ?_⟩) ?_ ?_
              rotate_left
              · intro w'
                go_simp
                with_reducible rfl
              rotate_left
              · simp only [Act.put, List.setIfInBounds_toArray, List.set_cons_zero, List.set_cons_succ, i64_w, i32_w]
                rfl
              refine pure_ (i := 21) (N := some 114) (v := ?_) (a' := ?_) #[true, true, true, true, true, true, true, true, true, true, true, true, true, true, true, true, true, true, true, true, true, true, false, false, false, false, false, false, false, false, false] rfl rfl (any_of HT_.out (by kernel_rfl)) (fun _ _ _ h => h) (Or.inl ⟨by rfl, ?_⟩) ?_ ?_
              rotate_left
              · intro w'
                go_simp
                with_reducible rfl
              rotate_left
              · simp only [Act.put, List.setIfInBounds_toArray, List.set_cons_zero, List.set_cons_succ, i64_w, i32_w]
                rfl
              refine pure_ (i := 22) (N := some 115) (v := ?_) (a' := ?_) #[true, true, true, true, true, true, true, true, true, true, true, true, true, true, true, true, true, true, true, true, true, true, true, false, false, false, false, false, false, false, false] rfl rfl (any_of HT_.out (by kernel_rfl)) (fun _ _ _ h => h) (Or.inl ⟨by rfl, ?_⟩) ?_ ?_
              rotate_left
              · intro w'
                go_simp
                with_reducible rfl
              rotate_left
              · simp only [Act.put, List.setIfInBounds_toArray, List.set_cons_zero, List.set_cons_succ, i64_w, i32_w]
                rfl
              refine pure_ (i := 24) (N := some 117) (v := ?_) (a' := ?_) #[true, true, true, true, true, true, true, true, true, true, true, true, true, true, true, true, true, true, true, true, true, true, true, false, true, false, false, false, false, false, false] rfl rfl (any_of HT_.out (by kernel_rfl)) (fun _ _ _ h => h) (Or.inl ⟨by rfl, ?_⟩) ?_ ?_
              rotate_left
              · intro w'
                go_simp
                with_reducible rfl
              rotate_left
              · simp only [Act.put, List.setIfInBounds_toArray, List.set_cons_zero, List.set_cons_succ, i64_w, i32_w]
                rfl
              refine pure_ (i := 25) (N := some 118) (v := ?_) (a' := ?_) #[true, true, true, true, true, true, true, true, true, true, true, true, true, true, true, true, true, true, true, true, true, true, true, false, true, true, false, false, false, false, false] rfl rfl (any_of HT_.out (by kernel_rfl)) (fun _ _ _ h => h) (Or.inl ⟨by rfl, ?_⟩) ?_ ?_
              rotate_left
              · intro w'
                go_simp
                with_reducible rfl
              rotate_left
              · simp only [Act.put, List.setIfInBounds_toArray, List.set_cons_zero, List.set_cons_succ, i64_w, i32_w]
                rfl
              refine pure_ (i := 26) (N := some 119) (v := ?_) (a' := ?_) #[true, true, true, true, true, true, true, true, true, true, true, true, true, true, true, true, true, true, true, true, true, true, true, false, true, true, true, false, false, false, false] rfl rfl (any_of HT_.out (by kernel_rfl)) (fun _ _ _ h => h) (Or.inl ⟨by rfl, ?_⟩) ?_ ?_
              rotate_left
              · intro w'
                go_simp
                with_reducible rfl
              rotate_left
              · simp only [Act.put, List.setIfInBounds_toArray, List.set_cons_zero, List.set_cons_succ, i64_w, i32_w]
                rfl
              refine pure_ (i := 27) (N := some 120) (v := ?_) (a' := ?_) #[true, true, true, true, true, true, true, true, true, true, true, true, true, true, true, true, true, true, true, true, true, true, true, false, true, true, true, true, false, false, false] rfl rfl (any_of HT_.out (by kernel_rfl)) (fun _ _ _ h => h) (Or.inl ⟨by rfl, ?_⟩) ?_ ?_
              rotate_left
              · intro w'
                go_simp
                with_reducible rfl
              rotate_left
              · simp only [Act.put, List.setIfInBounds_toArray, List.set_cons_zero, List.set_cons_succ, i64_w, i32_w]
                rfl
              refine one_ (i := 23) (N := some 116) #[true, true, true, true, true, true, true, true, true, true, true, true, true, true, true, true, true, true, true, true, true, true, true, true, true, true, true, true, false, false, false] rfl rfl (one_of HT_.out (by kernel_rfl)) (by decide) (fun K hK => ?_)
              refine goes_ Try.func22 (by kernel_rfl) rfl #[.pointer (some ⟨g, 0, none⟩)] (by rfl) rfl rfl (by (try simp only [List.map_toArray, List.map_cons, List.map_nil]); first | done | rfl) ?_
              refine (HKE2.out _ (K4.out.below (below_step (below_drew1 (Below.refl _ _)) HB5.out))).mono ?_
              rintro e w6 ⟨v6, rfl, hR6, hb6⟩
              obtain ⟨A6, n6, hv6⟩ := Kd.R_slice hR6
              rw [HRR.out] at hv6
              subst hv6
              have HB6 := Aside0.mk (below_step HB5.out hb6)
              have HR6 := Aside0.mk (Kd.R_reads' hR6)
              clear hR6 hb6
              refine ⟨_, rfl, ?_⟩
              refine hK.out _ _ trivial (fun hHeld => ?_)
              clear hK K
              refine norm_ (a' := ?_) ?_ ?_
              rotate_left
              · show Act.put _ (some 116) _ = _
                simp only [Act.put, List.setIfInBounds_toArray, List.set_cons_zero, List.set_cons_succ, i64_w, i32_w]
                rfl
              refine one_ (i := 28) (N := some 121) #[true, true, true, true, true, true, true, true, true, true, true, true, true, true, true, true, true, true, true, true, true, true, true, true, true, true, true, true, true, false, false] rfl rfl (one_of HT_.out (by kernel_rfl)) (by decide) (fun K hK => ?_)
              refine goes_ Try.func23 (by kernel_rfl) rfl #[.slice A6 r n6, .slice (if n5 = dl then A5 else A5.map (·.add dl)) r (n5 - dl)] (by rfl) rfl rfl (by (try simp only [List.map_toArray, List.map_cons, List.map_nil]); first | done | rfl) ?_
              refine (HSB.out w6 A6 n6 HR6.out.2.1 HR6.out.2.2 HB6.out).mono ?_
              rintro e w7 ⟨rfl, hb7⟩
              have HB7 := Aside0.mk (below_step HB6.out hb7)
              clear hb7
              refine ⟨_, rfl, ?_⟩
              refine hK.out _ _ trivial (fun hHeld => ?_)
              clear hK K
              refine norm_ (a' := ?_) ?_ ?_
              rotate_left
              · show Act.put _ (some 121) _ = _
                simp only [Act.put, List.setIfInBounds_toArray, List.set_cons_zero, List.set_cons_succ, i64_w, i32_w]
                rfl
              refine pure_ (i := 29) (N := some 122) (v := ?_) (a' := ?_) #[true, true, true, true, true, true, true, true, true, true, true, true, true, true, true, true, true, true, true, true, true, true, true, true, true, true, true, true, true, true, false] rfl rfl (any_of HT_.out (by kernel_rfl)) (fun _ _ _ h => h) (Or.inl ⟨by rfl, ?_⟩) ?_ ?_
              rotate_left
              · intro w'
                go_simp
                with_reducible rfl
              rotate_left
              · simp only [Act.put, List.setIfInBounds_toArray, List.set_cons_zero, List.set_cons_succ, i64_w, i32_w]
                rfl
              refine pure_ (i := 30) (N := some 123) (v := ?_) (a' := ?_) #[true, true, true, true, true, true, true, true, true, true, true, true, true, true, true, true, true, true, true, true, true, true, true, true, true, true, true, true, true, true, true] rfl rfl (any_of HT_.out (by kernel_rfl)) (fun _ _ _ h => h) (Or.inl ⟨by rfl, ?_⟩) ?_ ?_
              rotate_left
              · intro w'
                go_simp
                with_reducible rfl
              rotate_left
              · simp only [Act.put, List.setIfInBounds_toArray, List.set_cons_zero, List.set_cons_succ, i64_w, i32_w]
                rfl
              refine done_ (done_of HT_.out (by kernel_rfl)) ?_
              clear hHeld hwr
              go_wp2
              go_roundw
              case measure => simp [intOf]; omega
              case rel => exact ⟨k + 1, rest l2 Tk, by first | rfl | (congr 1; omega), ⟨K4.out.below (below_step (below_drew1 (Below.refl _ _)) HB7.out)⟩, HLR, HT2, ⟨below_step (below_drew1 B4.out) HB7.out⟩⟩

            · have hTz : Tk = 0 := by omega
              subst hTz
              clear hTp HD1
              go_upto_region 13 with (first
                | (go_at_call 18; (with_reducible refine hlel.out.mono ?_); rintro e w' ⟨rfl, rfl⟩)
                | (go_at_call 20; (with_reducible refine HNX.out.mono ?_); rintro e w1 ⟨rfl, hi1, hk1⟩; have K1 := Aside0.mk hi1; have B1 := Aside0.mk (hk1.below HB.out HI.out); clear hi1 hk1)
                | (go_at_call 22; (with_reducible refine (HKE1.out w1 K1.out).mono ?_); rintro e w2 ⟨v2, rfl, hR2, hb2⟩; obtain ⟨A5, n5, rfl⟩ := Kd.R_slice hR2; have HR2 := Aside0.mk hR2; have B2 := Aside0.mk (below_step B1.out hb2); have K2' := Aside0.mk (K1.out.below hb2); have HLE3 := Aside0.mk (HLE1.out w2 K2'.out); clear hR2 hb2)
                | (go_at_call 18; (with_reducible refine HLE3.out.mono ?_); rintro e w' ⟨rfl, rfl⟩))
              rw [HNN.out] at HR2 ⊢
              have hn5 : n ≤ n5 := (Kd.R_reads' HR2.out).2.1
              obtain ⟨ad5, hA5, hc5⟩ := at_ints (Kd.R_reads' HR2.out).2.2 (show 0 < ks.length by rw [HNN.out]; omega)
              subst hA5
              rw [HX.out] at hc5
              have hc5 : w2.cell? ad5 = some (.int .i64 px.1) := hc5
              go_upto_region 14 with (go_at_call 19; (with_reducible refine (HAT.out w2 K2'.out).mono ?_); rintro e w' ⟨rfl, rfl⟩)
              clear hc5
              have HD2' := Aside0.mk (HD2.out w2 K2'.out B2.out)
              go_upto_region 17 with (go_at_call 17; (with_reducible refine HD2'.out.mono ?_); rintro e w4 ⟨v4, rfl, hR4, hi4, hk4⟩; obtain ⟨A4, n4, rfl⟩ := Kd.R_slice hR4; have HR4 := Aside0.mk hR4; have K4 := Aside0.mk hi4; have B4 := Aside0.mk (hk4.below B2.out K2'.out); have HRK := Aside0.mk (hk4.row2 HR2.out); clear hR4 hi4 hk4)
              obtain ⟨A5, hA5⟩ : ∃ A5, some ad5 = A5 := ⟨_, rfl⟩
              rw [hA5] at HRK ⊢
              clear hA5
              rw [HDL.out] at HR4 ⊢
              have HCK := Aside0.mk (Kd.R_reads' HRK.out).2.2
              have hdl5 : dl ≤ n5 := by omega
              have hn4 : dl ≤ n4 := (Kd.R_reads' HR4.out).2.1
              have HSA : Aside0 (∀ W, Below w4.heap.size w4 W → Calls Try.prog 23 #[.slice A4 dl n4, .slice A5 dl n5] W fun e w' => e = .returned (.bool true) ∧ Below W.heap.size W w') := ⟨fun W hb => by
                have h1 := Kd.C_below (Kd.R_reads' HR4.out).2.2 hb
                have h2 := Kd.C_take (m := dl) (Kd.C_below HCK.out hb) (by rw [HNN.out]; exact hdn)
                rw [show ks.take dl = D by rw [HSP.out, ← HDL.out, List.take_left']; rfl] at h2
                have := same23 D A4 A5 n4 n5 W h1 (by rw [HDL.out]; exact hn4) h2 (by rw [HDL.out]; omega) (by rw [HDL.out]; omega)
                rwa [HDL.out] at this⟩
              have HSB : Aside0 (∀ (W : World) (A6 : Option Addr) (n6 : Nat), r ≤ n6 → kI.C W A6 K2.length K2 → Below w4.drew.heap.size w4.drew W → Calls Try.prog 23 #[.slice A6 r n6, .slice (if n5 = dl then A5 else A5.map (·.add dl)) r (n5 - dl)] W fun e w' => e = .returned (.bool true) ∧ Below W.heap.size W w') := ⟨fun W A6 n6 h6 hc6 hb => by
                have h2 := Kd.C_drop (m := dl) (c := n5) (Kd.C_below (Kd.C_drew HCK.out) hb) (by rw [HNN.out]; exact hdn) (by rw [HNN.out]; exact hn5)
                rw [show ks.drop dl = K2 by rw [HSP.out, ← HDL.out, List.drop_left']; rfl] at h2
                rw [show dl * kI.sz = dl from Nat.mul_one dl] at h2
                have := same23 K2 A6 _ n6 (n5 - dl) W hc6 (by rw [HRR.out]; exact h6) h2 (by rw [HRR.out]; omega) (by rw [HRR.out]; omega)
                rwa [HRR.out] at this⟩
              have hwr : wrap64 (r : Int) = (r : Int) := IntWalk.wrap64_in _ (by omega)
              refine start_ (n := 31) (S := fun w' => True) (ds := []) #[false, false, false, false, false, false, false, false, false, false, false, false, false, false, false, false, false, false, false, false, false, false, false, false, false, false, false, false, false, false, false] (by kernel_rfl) rfl rfl trivial (fun hHeld => ?_); refine with_tab next.tab17 (fun HT_ => ?_)
              refine pure_ (i := 0) (N := some 93) (v := ?_) (a' := ?_) #[true, false, false, false, false, false, false, false, false, false, false, false, false, false, false, false, false, false, false, false, false, false, false, false, false, false, false, false, false, false, false] rfl rfl (any_of HT_.out (by kernel_rfl)) (fun _ _ _ h => h) (Or.inl ⟨by rfl, ?_⟩) ?_ ?_
              rotate_left
              · intro w'
                go_simp
                with_reducible rfl
              rotate_left
              · simp only [Act.put, List.setIfInBounds_toArray, List.set_cons_zero, List.set_cons_succ, i64_w, i32_w]
                rfl
              refine pure_ (i := 1) (N := some 94) (v := ?_) (a' := ?_) #[true, true, false, false, false, false, false, false, false, false, false, false, false, false, false, false, false, false, false, false, false, false, false, false, false, false, false, false, false, false, false] rfl rfl (any_of HT_.out (by kernel_rfl)) (fun _ _ _ h => h) (Or.inl ⟨by rfl, ?_⟩) ?_ ?_
              rotate_left
              · intro w'
                go_simp
                with_reducible rfl
              rotate_left
              · simp only [Act.put, List.setIfInBounds_toArray, List.set_cons_zero, List.set_cons_succ, i64_w, i32_w]
                rfl
              refine pure_ (i := 2) (N := some 95) (v := ?_) (a' := ?_) #[true, true, true, false, false, false, false, false, false, false, false, false, false, false, false, false, false, false, false, false, false, false, false, false, false, false, false, false, false, false, false] rfl rfl (any_of HT_.out (by kernel_rfl)) (fun _ _ _ h => h) (Or.inl ⟨by rfl, ?_⟩) ?_ ?_
              rotate_left
              · intro w'
                go_simp
                with_reducible rfl
              rotate_left
              · simp only [Act.put, List.setIfInBounds_toArray, List.set_cons_zero, List.set_cons_succ, i64_w, i32_w]
                rfl
              refine pure_ (i := 3) (N := some 96) (v := ?_) (a' := ?_) #[true, true, true, true, false, false, false, false, false, false, false, false, false, false, false, false, false, false, false, false, false, false, false, false, false, false, false, false, false, false, false] rfl rfl (any_of HT_.out (by kernel_rfl)) (fun _ _ _ h => h) (Or.inl ⟨by rfl, ?_⟩) ?_ ?_
              rotate_left
              · intro w'
                go_simp
                with_reducible rfl
              rotate_left
              · simp only [Act.put, List.setIfInBounds_toArray, List.set_cons_zero, List.set_cons_succ, i64_w, i32_w]
                rfl
              refine pure_ (i := 4) (N := some 97) (v := ?_) (a' := ?_) #[true, true, true, true, true, false, false, false, false, false, false, false, false, false, false, false, false, false, false, false, false, false, false, false, false, false, false, false, false, false, false] rfl rfl (any_of HT_.out (by kernel_rfl)) (fun _ _ _ h => h) (Or.inl ⟨by rfl, ?_⟩) ?_ ?_
              rotate_left
              · intro w'
                go_simp
                with_reducible rfl
              rotate_left
              · simp only [Act.put, List.setIfInBounds_toArray, List.set_cons_zero, List.set_cons_succ, i64_w, i32_w]
                rfl
              refine pure_ (i := 6) (N := some 99) (v := ?_) (a' := ?_) #[true, true, true, true, true, false, true, false, false, false, false, false, false, false, false, false, false, false, false, false, false, false, false, false, false, false, false, false, false, false, false] rfl rfl (any_of HT_.out (by kernel_rfl)) (fun _ _ _ h => h) (Or.inl ⟨by rfl, ?_⟩) ?_ ?_
              rotate_left
              · intro w'
                go_simp
                with_reducible rfl
              rotate_left
              · simp only [Act.put, List.setIfInBounds_toArray, List.set_cons_zero, List.set_cons_succ, i64_w, i32_w]
                rfl
              refine pure_ (i := 7) (N := some 100) (v := ?_) (a' := ?_) #[true, true, true, true, true, false, true, true, false, false, false, false, false, false, false, false, false, false, false, false, false, false, false, false, false, false, false, false, false, false, false] rfl rfl (any_of HT_.out (by kernel_rfl)) (fun _ _ _ h => h) (Or.inl ⟨by rfl, ?_⟩) ?_ ?_
              rotate_left
              · intro w'
                go_simp
                with_reducible rfl
              rotate_left
              · simp only [Act.put, List.setIfInBounds_toArray, List.set_cons_zero, List.set_cons_succ, i64_w, i32_w]
                rfl
              refine pure_ (i := 8) (N := some 101) (v := ?_) (a' := ?_) #[true, true, true, true, true, false, true, true, true, false, false, false, false, false, false, false, false, false, false, false, false, false, false, false, false, false, false, false, false, false, false] rfl rfl (any_of HT_.out (by kernel_rfl)) (fun _ _ _ h => h) (Or.inl ⟨by rfl, ?_⟩) ?_ ?_
              rotate_left
              · intro w'
                go_simp
                with_reducible rfl
              rotate_left
              · simp only [Act.put, List.setIfInBounds_toArray, List.set_cons_zero, List.set_cons_succ, i64_w, i32_w]
                rfl
              refine pure_ (i := 9) (N := some 102) (v := ?_) (a' := ?_) #[true, true, true, true, true, false, true, true, true, true, false, false, false, false, false, false, false, false, false, false, false, false, false, false, false, false, false, false, false, false, false] rfl rfl (any_of HT_.out (by kernel_rfl)) (fun _ _ _ h => h) (Or.inl ⟨by rfl, ?_⟩) ?_ ?_
              rotate_left
              · intro w'
                go_simp
                with_reducible rfl
              rotate_left
              · simp only [Act.put, List.setIfInBounds_toArray, List.set_cons_zero, List.set_cons_succ, i64_w, i32_w]
                rfl
              refine one_ (i := 5) (N := some 98) #[true, true, true, true, true, true, true, true, true, true, false, false, false, false, false, false, false, false, false, false, false, false, false, false, false, false, false, false, false, false, false] rfl rfl (one_of HT_.out (by kernel_rfl)) (by decide) (fun K hK => ?_)
              refine goes_ Try.func18 (by kernel_rfl) rfl #[.pointer (some ⟨g, 0, none⟩)] (by rfl) rfl rfl (by (try simp only [List.map_toArray, List.map_cons, List.map_nil]); first | done | rfl) ?_
              refine (HLE.out _ (K4.out.below (below_drew1 (Below.refl _ _)))).mono ?_
              rintro e w' ⟨rfl, rfl⟩
              refine ⟨_, rfl, ?_⟩
              refine hK.out _ _ trivial (fun hHeld => ?_)
              clear hK K
              refine norm_ (a' := ?_) ?_ ?_
              rotate_left
              · show Act.put _ (some 98) _ = _
                simp only [Act.put, List.setIfInBounds_toArray, List.set_cons_zero, List.set_cons_succ, i64_w, i32_w]
                rfl
              refine pure_ (i := 10) (N := some 103) (v := ?_) (a' := ?_) #[true, true, true, true, true, true, true, true, true, true, true, false, false, false, false, false, false, false, false, false, false, false, false, false, false, false, false, false, false, false, false] rfl rfl (any_of HT_.out (by kernel_rfl)) (fun _ _ _ h => h) (Or.inl ⟨by rfl, ?_⟩) ?_ ?_
              rotate_left
              · intro w'
                go_simp
                with_reducible rfl
              rotate_left
              · simp only [Act.put, List.setIfInBounds_toArray, List.set_cons_zero, List.set_cons_succ, i64_w, i32_w]
                rfl
              refine pure_ (i := 11) (N := some 104) (v := ?_) (a' := ?_) #[true, true, true, true, true, true, true, true, true, true, true, true, false, false, false, false, false, false, false, false, false, false, false, false, false, false, false, false, false, false, false] rfl rfl (any_of HT_.out (by kernel_rfl)) (fun _ _ _ h => h) (Or.inl ⟨by rfl, ?_⟩) ?_ ?_
              rotate_left
              · intro w'
                go_simp
                with_reducible rfl
              rotate_left
              · simp only [Act.put, List.setIfInBounds_toArray, List.set_cons_zero, List.set_cons_succ, i64_w, i32_w]
                rfl
              refine pure_ (i := 12) (N := some 105) (v := ?_) (a' := ?_) #[true, true, true, true, true, true, true, true, true, true, true, true, true, false, false, false, false, false, false, false, false, false, false, false, false, false, false, false, false, false, false] rfl rfl (any_of HT_.out (by kernel_rfl)) (fun _ _ _ h => h) (Or.inl ⟨by rfl, ?_⟩) ?_ ?_
              rotate_left
              · intro w'
                go_simp
                with_reducible rfl
              rotate_left
              · simp only [Act.put, List.setIfInBounds_toArray, List.set_cons_zero, List.set_cons_succ, i64_w, i32_w]
                rfl
              refine pure_ (i := 13) (N := some 106) (v := ?_) (a' := ?_) #[true, true, true, true, true, true, true, true, true, true, true, true, true, true, false, false, false, false, false, false, false, false, false, false, false, false, false, false, false, false, false] rfl rfl (any_of HT_.out (by kernel_rfl)) (fun _ _ _ h => h) (Or.inl ⟨by rfl, ?_⟩) ?_ ?_
              rotate_left
              · intro w'
                go_simp
                with_reducible rfl
              rotate_left
              · simp only [Act.put, List.setIfInBounds_toArray, List.set_cons_zero, List.set_cons_succ, i64_w, i32_w]
                rfl
              refine pure_ (i := 14) (N := some 107) (v := ?_) (a' := ?_) #[true, true, true, true, true, true, true, true, true, true, true, true, true, true, true, false, false, false, false, false, false, false, false, false, false, false, false, false, false, false, false] rfl rfl (any_of HT_.out (by kernel_rfl)) (fun _ _ _ h => h) (Or.inl ⟨by rfl, ?_⟩) ?_ ?_
              rotate_left
              · intro w'
                go_simp
                with_reducible rfl
              rotate_left
              · simp only [Act.put, List.setIfInBounds_toArray, List.set_cons_zero, List.set_cons_succ, i64_w, i32_w]
                rfl
              refine pure_ (i := 15) (N := some 108) (v := ?_) (a' := ?_) #[true, true, true, true, true, true, true, true, true, true, true, true, true, true, true, true, false, false, false, false, false, false, false, false, false, false, false, false, false, false, false] rfl rfl (any_of HT_.out (by kernel_rfl)) (fun _ _ _ h => h) (Or.inl ⟨by rfl, ?_⟩) ?_ ?_
              rotate_left
              · intro w'
                go_simp
                with_reducible rfl
              rotate_left
              · simp only [Act.put, List.setIfInBounds_toArray, List.set_cons_zero, List.set_cons_succ, i64_w, i32_w]
                rfl
              refine pure_ (i := 16) (N := some 109) (v := ?_) (a' := ?_) #[true, true, true, true, true, true, true, true, true, true, true, true, true, true, true, true, true, false, false, false, false, false, false, false, false, false, false, false, false, false, false] rfl rfl (any_of HT_.out (by kernel_rfl)) (fun _ _ _ h => h) (Or.inl ⟨by rfl, ?_⟩) ?_ ?_
              rotate_left
              · intro w'
                go_simp
                with_reducible rfl
              rotate_left
              · simp only [Act.put, List.setIfInBounds_toArray, List.set_cons_zero, List.set_cons_succ, i64_w, i32_w]
                rfl
              refine pure_ (i := 17) (N := some 110) (v := ?_) (a' := ?_) #[true, true, true, true, true, true, true, true, true, true, true, true, true, true, true, true, true, true, false, false, false, false, false, false, false, false, false, false, false, false, false] rfl rfl (any_of HT_.out (by kernel_rfl)) (fun _ _ _ h => h) (Or.inl ⟨by rfl, ?_⟩) ?_ ?_
              rotate_left
              · intro w'
                go_simp
                with_reducible rfl
              rotate_left
              · simp only [Act.put, List.setIfInBounds_toArray, List.set_cons_zero, List.set_cons_succ, i64_w, i32_w]
                rfl
              refine one_ (i := 18) (N := some 111) #[true, true, true, true, true, true, true, true, true, true, true, true, true, true, true, true, true, true, true, false, false, false, false, false, false, false, false, false, false, false, false] rfl rfl (one_of HT_.out (by kernel_rfl)) (by decide) (fun K hK => ?_)
              refine goes_ Try.func23 (by kernel_rfl) rfl #[.slice A4 dl n4, .slice A5 dl n5] (by rfl) rfl rfl (by (try simp only [List.map_toArray, List.map_cons, List.map_nil]); first | done | rfl) ?_
              refine (HSA.out _ (below_drew1 (Below.refl _ _))).mono ?_
              rintro e w5 ⟨rfl, hb5⟩
              have HB5 := Aside0.mk hb5
              clear hb5
              refine ⟨_, rfl, ?_⟩
              refine hK.out _ _ trivial (fun hHeld => ?_)
              clear hK K
              refine norm_ (a' := ?_) ?_ ?_
              rotate_left
              · show Act.put _ (some 111) _ = _
                simp only [Act.put, List.setIfInBounds_toArray, List.set_cons_zero, List.set_cons_succ, i64_w, i32_w]
                rfl
              refine pure_ (i := 19) (N := some 112) (v := ?_) (a' := ?_) #[true, true, true, true, true, true, true, true, true, true, true, true, true, true, true, true, true, true, true, true, false, false, false, false, false, false, false, false, false, false, false] rfl rfl (any_of HT_.out (by kernel_rfl)) (fun _ _ _ h => h) (Or.inl ⟨by rfl, ?_⟩) ?_ ?_
              rotate_left
              · intro w'
                go_simp
                with_reducible rfl
              rotate_left
              · simp only [Act.put, List.setIfInBounds_toArray, List.set_cons_zero, List.set_cons_succ, i64_w, i32_w]
                rfl
              refine pure_ (i := 20) (N := some 113) (v := ?_) (a' := ?_) #[true, true, true, true, true, true, true, true, true, true, true, true, true, true, true, true, true, true, true, true, true, false, false, false, false, false, false, false, false, false, false] rfl rfl (any_of HT_.out (by kernel_rfl)) (fun _ _ _ h => h) (Or.inl ⟨by rfl, ?_⟩) ?_ ?_
              rotate_left
              · intro w'
                go_simp
                with_reducible rfl
              rotate_left
              · simp only [Act.put, List.setIfInBounds_toArray, List.set_cons_zero, List.set_cons_succ, i64_w, i32_w]
                rfl
              refine pure_ (i := 21) (N := some 114) (v := ?_) (a' := ?_) #[true, true, true, true, true, true, true, true, true, true, true, true, true, true, true, true, true, true, true, true, true, true, false, false, false, false, false, false, false, false, false] rfl rfl (any_of HT_.out (by kernel_rfl)) (fun _ _ _ h => h) (Or.inl ⟨by rfl, ?_⟩) ?_ ?_
              rotate_left
              · intro w'
                go_simp
                with_reducible rfl
              rotate_left
              · simp only [Act.put, List.setIfInBounds_toArray, List.set_cons_zero, List.set_cons_succ, i64_w, i32_w]
                rfl
              refine pure_ (i := 22) (N := some 115) (v := ?_) (a' := ?_) #[true, true, true, true, true, true, true, true, true, true, true, true, true, true, true, true, true, true, true, true, true, true, true, false, false, false, false, false, false, false, false] rfl rfl (any_of HT_.out (by kernel_rfl)) (fun _ _ _ h => h) (Or.inl ⟨by rfl, ?_⟩) ?_ ?_
              rotate_left
              · intro w'
                go_simp
                with_reducible rfl
              rotate_left
              · simp only [Act.put, List.setIfInBounds_toArray, List.set_cons_zero, List.set_cons_succ, i64_w, i32_w]
                rfl
              refine pure_ (i := 24) (N := some 117) (v := ?_) (a' := ?_) #[true, true, true, true, true, true, true, true, true, true, true, true, true, true, true, true, true, true, true, true, true, true, true, false, true, false, false, false, false, false, false] rfl rfl (any_of HT_.out (by kernel_rfl)) (fun _ _ _ h => h) (Or.inl ⟨by rfl, ?_⟩) ?_ ?_
              rotate_left
              · intro w'
                go_simp
                with_reducible rfl
              rotate_left
              · simp only [Act.put, List.setIfInBounds_toArray, List.set_cons_zero, List.set_cons_succ, i64_w, i32_w]
                rfl
              refine pure_ (i := 25) (N := some 118) (v := ?_) (a' := ?_) #[true, true, true, true, true, true, true, true, true, true, true, true, true, true, true, true, true, true, true, true, true, true, true, false, true, true, false, false, false, false, false] rfl rfl (any_of HT_.out (by kernel_rfl)) (fun _ _ _ h => h) (Or.inl ⟨by rfl, ?_⟩) ?_ ?_
              rotate_left
              · intro w'
                go_simp
                with_reducible rfl
              rotate_left
              · simp only [Act.put, List.setIfInBounds_toArray, List.set_cons_zero, List.set_cons_succ, i64_w, i32_w]
                rfl
              refine pure_ (i := 26) (N := some 119) (v := ?_) (a' := ?_) #[true, true, true, true, true, true, true, true, true, true, true, true, true, true, true, true, true, true, true, true, true, true, true, false, true, true, true, false, false, false, false] rfl rfl (any_of HT_.out (by kernel_rfl)) (fun _ _ _ h => h) (Or.inl ⟨by rfl, ?_⟩) ?_ ?_
              rotate_left
              · intro w'
                go_simp
                with_reducible rfl
              rotate_left
              · simp only [Act.put, List.setIfInBounds_toArray, List.set_cons_zero, List.set_cons_succ, i64_w, i32_w]
                rfl
              refine pure_ (i := 27) (N := some 120) (v := ?_) (a' := ?_) #[true, true, true, true, true, true, true, true, true, true, true, true, true, true, true, true, true, true, true, true, true, true, true, false, true, true, true, true, false, false, false] rfl rfl (any_of HT_.out (by kernel_rfl)) (fun _ _ _ h => h) (Or.inl ⟨by rfl, ?_⟩) ?_ ?_
              rotate_left
              · intro w'
                go_simp
                with_reducible rfl
              rotate_left
              · simp only [Act.put, List.setIfInBounds_toArray, List.set_cons_zero, List.set_cons_succ, i64_w, i32_w]
                rfl
              refine one_ (i := 23) (N := some 116) #[true, true, true, true, true, true, true, true, true, true, true, true, true, true, true, true, true, true, true, true, true, true, true, true, true, true, true, true, false, false, false] rfl rfl (one_of HT_.out (by kernel_rfl)) (by decide) (fun K hK => ?_)
              refine goes_ Try.func22 (by kernel_rfl) rfl #[.pointer (some ⟨g, 0, none⟩)] (by rfl) rfl rfl (by (try simp only [List.map_toArray, List.map_cons, List.map_nil]); first | done | rfl) ?_
              refine (HKE2.out _ (K4.out.below (below_step (below_drew1 (Below.refl _ _)) HB5.out))).mono ?_
              rintro e w6 ⟨v6, rfl, hR6, hb6⟩
              obtain ⟨A6, n6, hv6⟩ := Kd.R_slice hR6
              rw [HRR.out] at hv6
              subst hv6
              have HB6 := Aside0.mk (below_step HB5.out hb6)
              have HR6 := Aside0.mk (Kd.R_reads' hR6)
              clear hR6 hb6
              refine ⟨_, rfl, ?_⟩
              refine hK.out _ _ trivial (fun hHeld => ?_)
              clear hK K
              refine norm_ (a' := ?_) ?_ ?_
              rotate_left
              · show Act.put _ (some 116) _ = _
                simp only [Act.put, List.setIfInBounds_toArray, List.set_cons_zero, List.set_cons_succ, i64_w, i32_w]
                rfl
              refine one_ (i := 28) (N := some 121) #[true, true, true, true, true, true, true, true, true, true, true, true, true, true, true, true, true, true, true, true, true, true, true, true, true, true, true, true, true, false, false] rfl rfl (one_of HT_.out (by kernel_rfl)) (by decide) (fun K hK => ?_)
              refine goes_ Try.func23 (by kernel_rfl) rfl #[.slice A6 r n6, .slice (if n5 = dl then A5 else A5.map (·.add dl)) r (n5 - dl)] (by rfl) rfl rfl (by (try simp only [List.map_toArray, List.map_cons, List.map_nil]); first | done | rfl) ?_
              refine (HSB.out w6 A6 n6 HR6.out.2.1 HR6.out.2.2 HB6.out).mono ?_
              rintro e w7 ⟨rfl, hb7⟩
              have HB7 := Aside0.mk (below_step HB6.out hb7)
              clear hb7
              refine ⟨_, rfl, ?_⟩
              refine hK.out _ _ trivial (fun hHeld => ?_)
              clear hK K
              refine norm_ (a' := ?_) ?_ ?_
              rotate_left
              · show Act.put _ (some 121) _ = _
                simp only [Act.put, List.setIfInBounds_toArray, List.set_cons_zero, List.set_cons_succ, i64_w, i32_w]
                rfl
              refine pure_ (i := 29) (N := some 122) (v := ?_) (a' := ?_) #[true, true, true, true, true, true, true, true, true, true, true, true, true, true, true, true, true, true, true, true, true, true, true, true, true, true, true, true, true, true, false] rfl rfl (any_of HT_.out (by kernel_rfl)) (fun _ _ _ h => h) (Or.inl ⟨by rfl, ?_⟩) ?_ ?_
              rotate_left
              · intro w'
                go_simp
                with_reducible rfl
              rotate_left
              · simp only [Act.put, List.setIfInBounds_toArray, List.set_cons_zero, List.set_cons_succ, i64_w, i32_w]
                rfl
              refine pure_ (i := 30) (N := some 123) (v := ?_) (a' := ?_) #[true, true, true, true, true, true, true, true, true, true, true, true, true, true, true, true, true, true, true, true, true, true, true, true, true, true, true, true, true, true, true] rfl rfl (any_of HT_.out (by kernel_rfl)) (fun _ _ _ h => h) (Or.inl ⟨by rfl, ?_⟩) ?_ ?_
              rotate_left
              · intro w'
                go_simp
                with_reducible rfl
              rotate_left
              · simp only [Act.put, List.setIfInBounds_toArray, List.set_cons_zero, List.set_cons_succ, i64_w, i32_w]
                rfl
              refine done_ (done_of HT_.out (by kernel_rfl)) ?_
              clear hHeld hwr
              go_wp2
              go_roundw
              case measure => simp [intOf]; omega
              case rel => exact ⟨k + 1, rest l2 0, by first | rfl | (congr 1; omega), ⟨K4.out.below (below_step (below_drew1 (Below.refl _ _)) HB7.out)⟩, HLR, HT2, ⟨below_step (below_drew1 B4.out) HB7.out⟩⟩
      · have hd1 : decide ((i : Int) < (ne : Int)) = false := decide_eq_false (by omega)
        have hd1n : decide (i < ne) = false := decide_eq_false hlt
        clear hgo hlt hi hi2
        go_upto_block 2 with fail
        go_wp2
        go_loopw [5] (fun v5 w2 => ∃ (k : Nat) (l2 : PL), v5 = .int .i64 (k : Int) ∧ Aside0 (IsW w w2 g ⟨l2, i⟩) ∧ Aside0 (l2.length + k ≤ 30) ∧ Aside0 (Ticks l2) ∧ Aside0 (Below w.heap.size w w2)) (fun v5 _ => 40 - (intOf v5).toNat)
        case atStart => exact ⟨0, l, rfl, HI, HLN30, HT, HB⟩
        case round =>
          clear HI HLN30 HT HB HLN
          obtain ⟨k, l2, rfl, HI, HLN, HT, HB⟩ := hrel
          have hk30 : k ≤ 30 := by have := HLN.out; omega
          have hd3 : decide ((k : Int) < 40) = true := decide_eq_true (by omega)
          have hd3n : decide (k < 40) = true := decide_eq_true (by omega)
          have HLE0 := Aside0.mk (len_any HI.out)
          by_cases hz : l2 = []
          · subst hz
            have HNX := Aside0.mk (next_none HI.out HB.out HM.out rfl)
            have HLE1 : Aside0 (∀ W, IsW w W g ⟨[], i⟩ → Calls Try.prog 18 #[.pointer (some ⟨g, 0, none⟩)] W fun e w' => e = .returned (.int .i64 0) ∧ W = w') := ⟨fun W h => len_any h⟩
            have HLE2 := Aside0.mk (HLE1.out _ HI.out)
            clear HLE0
            go_wp2_with (first
              | (go_at_call 18; (with_reducible refine HLE2.out.mono ?_); rintro e w' ⟨rfl, rfl⟩)
              | (go_at_call 20; (with_reducible refine HNX.out.mono ?_); rintro e w3 ⟨rfl, hi3, hk3⟩; have KI3 := Aside0.mk hi3; have BB3 := Aside0.mk (hk3.below HB.out HI.out); have HLE3 := Aside0.mk (HLE1.out _ hi3); clear hi3 hk3)
              | (go_at_call 18; (with_reducible refine HLE3.out.mono ?_); rintro e w' ⟨rfl, rfl⟩))
            go_ret
            exact ⟨rfl, BB3.out⟩
          · obtain ⟨Tk, hTk⟩ := least_is hz
            have hTr := least_range HT.out hTk
            have hrise := HI.out.rise
            have hsplit := byTick_split hrise HT.out hTk
            have hdl0 := due_some HT.out hTk
            have hdr := due_len l2 Tk
            have hbl := byTick_len l2
            have hbr := byTick_len (rest l2 Tk)
            obtain ⟨px, hpx, hx1, hx2⟩ := byTick_zero hrise HT.out hTk
            have HX := Aside0.mk (show nth (byTick l2) 0 = px.1 from hx1)
            have hpI : I64 px.1 := by
              obtain ⟨xs, hX, _⟩ := HI.out
              exact (hX.keyI px hpx).1
            have HAT : Aside0 (∀ W, IsW w W g ⟨l2, i⟩ → Calls Try.prog 19 #[.pointer (some ⟨g, 0, none⟩), .int .i64 px.1] W fun e w' => e = .returned (.tuple #[.int .i64 Tk, .bool true]) ∧ W = w') := ⟨fun W h => by
              have := at_raw px.1 hpI h
              rwa [show (⟨l2, i⟩ : WS).ats = l2 from rfl, code_of hrise hpx, hx2, (look_some hrise).2 (show (px.1, px.2) ∈ l2 from hpx)] at this⟩
            have HNX := Aside0.mk (next_some HI.out HB.out HM.out hTk)
            have HKE1 : Aside0 (∀ W, IsW w W g ⟨l2, i⟩ → Calls Try.prog 22 #[.pointer (some ⟨g, 0, none⟩)] W fun e w' => ∃ v : Value, e = .returned v ∧ kI.R 3 w' W.heap.size (fun k => ¬ Own w' g k) v (byTick l2) ∧ Below W.heap.size W w') := ⟨fun W h => keys_by h (show l2.length ≤ 1000000 by have := HLN.out; omega)⟩
            have HLE1 : Aside0 (∀ W, IsW w W g ⟨l2, i⟩ → Calls Try.prog 18 #[.pointer (some ⟨g, 0, none⟩)] W fun e w' => e = .returned (.int .i64 ((byTick l2).length : Int)) ∧ W = w') := ⟨fun W h => by rw [hbl]; exact len_any h⟩
            have HD1 : Aside0 (0 < Tk → ∀ W, IsW w W g ⟨l2, i⟩ → Below w.heap.size w W → Calls Try.prog 17 #[.pointer (some ⟨g, 0, none⟩), .int .i64 (Tk - 1)] W fun e w' => ∃ v : Value, e = .returned v ∧ kI.R 3 w' W.heap.size (fun k => ¬ Own w' g k) v [] ∧ IsW w w' g ⟨l2, i⟩ ∧ Kp g W w') := ⟨fun h0 W h hb => by
              have := due_any (Tk - 1) h hb HM.out
              rwa [show (⟨l2, i⟩ : WS).ats = l2 from rfl, (due_none HT.out hTk h0).1, (due_none HT.out hTk h0).2] at this⟩
            have HD2 : Aside0 (∀ W, IsW w W g ⟨l2, i⟩ → Below w.heap.size w W → Calls Try.prog 17 #[.pointer (some ⟨g, 0, none⟩), .int .i64 Tk] W fun e w' => ∃ v : Value, e = .returned v ∧ kI.R 3 w' W.heap.size (fun k => ¬ Own w' g k) v (due l2 Tk) ∧ IsW w w' g ⟨rest l2 Tk, i⟩ ∧ Kp g W w') := ⟨fun W h hb => due_any Tk h hb HM.out⟩
            have HLE : Aside0 (∀ W, IsW w W g ⟨rest l2 Tk, i⟩ → Calls Try.prog 18 #[.pointer (some ⟨g, 0, none⟩)] W fun e w' => e = .returned (.int .i64 ((byTick (rest l2 Tk)).length : Int)) ∧ W = w') := ⟨fun W h => by rw [hbr]; exact len_any h⟩
            have HKE2 : Aside0 (∀ W, IsW w W g ⟨rest l2 Tk, i⟩ → Calls Try.prog 22 #[.pointer (some ⟨g, 0, none⟩)] W fun e w' => ∃ v : Value, e = .returned v ∧ kI.R 3 w' W.heap.size (fun k => ¬ Own w' g k) v (byTick (rest l2 Tk)) ∧ Below W.heap.size W w') := ⟨fun W h => keys_by h (show (rest l2 Tk).length ≤ 1000000 by have := HLN.out; omega)⟩
            have HT2 := Aside0.mk (rest_ticks HT.out Tk)
            have hlr : (rest l2 Tk).length + (k + 1) ≤ 30 := by have := HLN.out; omega
            have HLR := Aside0.mk hlr
            obtain ⟨ks, hks⟩ : ∃ ks, byTick l2 = ks := ⟨_, rfl⟩
            obtain ⟨D, hD⟩ : ∃ D, due l2 Tk = D := ⟨_, rfl⟩
            obtain ⟨K2, hK2⟩ : ∃ K2, byTick (rest l2 Tk) = K2 := ⟨_, rfl⟩
            rw [hks] at HKE1 HLE1 HX hbl hsplit
            rw [hD] at HD2 hdl0 hdr hsplit
            rw [hK2] at HLE HKE2 hbr hsplit
            have HSP := Aside0.mk hsplit
            obtain ⟨n, hn⟩ : ∃ n, ks.length = n := ⟨_, rfl⟩
            obtain ⟨dl, hdl⟩ : ∃ dl, D.length = dl := ⟨_, rfl⟩
            obtain ⟨r, hr⟩ : ∃ r, K2.length = r := ⟨_, rfl⟩
            have hndr : n = dl + r := by rw [← hn, hsplit, List.length_append, hdl, hr]
            rw [hn] at HLE1
            rw [hr] at HLE
            rw [hdl] at hdl0
            have HNN := Aside0.mk hn
            have HDL := Aside0.mk hdl
            have HRR := Aside0.mk hr
            have hn30 : n ≤ 30 := by have := HLN.out; omega
            obtain ⟨hT0, hT9⟩ := hTr
            have hnp : 0 < n := by omega
            have hd4 : decide (0 < (n : Int)) = true := decide_eq_true (by omega)
            have hd4n : decide (0 < n) = true := decide_eq_true hnp
            have hd5 : decide ((dl : Int) = 0) = false := decide_eq_false (by omega)
            have hd5n : decide (dl = 0) = false := decide_eq_false (by omega)
            have hd5b : ((dl : Int) == 0) = false := by rw [beq_eq_false_iff_ne]; omega
            have hd5c : (dl == 0) = false := by rw [beq_eq_false_iff_ne]; omega
            have hsub : (n : Int) - (dl : Int) = (r : Int) := by omega
            have hsubn : n - dl = r := by omega
            have hdn : dl ≤ n := by omega
            have hlel := Aside0.mk (HLE1.out wr HI.out)
            clear HLE0 hsplit hn hdl hr hks hD hK2 hz hTk hrise hdr hbl hbr hpx hx1 hx2 hpI hlr hnp hndr
            by_cases hTp : 0 < Tk
            · have hd6 : decide (0 < Tk) = true := decide_eq_true hTp
              replace HD1 := Aside0.mk (HD1.out hTp)
              clear hTp
              go_upto_region 13 with (first
                | (go_at_call 18; (with_reducible refine hlel.out.mono ?_); rintro e w' ⟨rfl, rfl⟩)
                | (go_at_call 20; (with_reducible refine HNX.out.mono ?_); rintro e w1 ⟨rfl, hi1, hk1⟩; have K1 := Aside0.mk hi1; have B1 := Aside0.mk (hk1.below HB.out HI.out); clear hi1 hk1)
                | (go_at_call 22; (with_reducible refine (HKE1.out w1 K1.out).mono ?_); rintro e w2 ⟨v2, rfl, hR2, hb2⟩; obtain ⟨A5, n5, rfl⟩ := Kd.R_slice hR2; have HR2 := Aside0.mk hR2; have B2 := Aside0.mk (below_step B1.out hb2); have K2' := Aside0.mk (K1.out.below hb2); have HLE3 := Aside0.mk (HLE1.out w2 K2'.out); clear hR2 hb2)
                | (go_at_call 18; (with_reducible refine HLE3.out.mono ?_); rintro e w' ⟨rfl, rfl⟩))
              rw [HNN.out] at HR2 ⊢
              have hn5 : n ≤ n5 := (Kd.R_reads' HR2.out).2.1
              obtain ⟨ad5, hA5, hc5⟩ := at_ints (Kd.R_reads' HR2.out).2.2 (show 0 < ks.length by rw [HNN.out]; omega)
              subst hA5
              rw [HX.out] at hc5
              have hc5 : w2.cell? ad5 = some (.int .i64 px.1) := hc5
              go_upto_region 14 with (go_at_call 19; (with_reducible refine (HAT.out w2 K2'.out).mono ?_); rintro e w' ⟨rfl, rfl⟩)
              clear hc5
              go_upto_region 17 with (first
                | (go_at_call 17; (with_reducible refine (HD1.out w2 K2'.out B2.out).mono ?_); rintro e w3 ⟨v3, rfl, hR3, hi3, hk3⟩; obtain ⟨A3, n3, rfl⟩ := row_nil_len hR3; have K3 := Aside0.mk hi3; have B3 := Aside0.mk (hk3.below B2.out K2'.out); have HR3 := Aside0.mk (hk3.row2 HR2.out); have HD2' := Aside0.mk (HD2.out w3 hi3 B3.out); clear hR3 hi3 hk3)
                | (go_at_call 17; (with_reducible refine HD2'.out.mono ?_); rintro e w4 ⟨v4, rfl, hR4, hi4, hk4⟩; obtain ⟨A4, n4, rfl⟩ := Kd.R_slice hR4; have HR4 := Aside0.mk hR4; have K4 := Aside0.mk hi4; have B4 := Aside0.mk (hk4.below B3.out K3.out); have HRK := Aside0.mk (hk4.row2 HR3.out); clear hR4 hi4 hk4))
              obtain ⟨A5, hA5⟩ : ∃ A5, some ad5 = A5 := ⟨_, rfl⟩
              rw [hA5] at HRK ⊢
              clear hA5
              rw [HDL.out] at HR4 ⊢
              have HCK := Aside0.mk (Kd.R_reads' HRK.out).2.2
              have hdl5 : dl ≤ n5 := by omega
              have hn4 : dl ≤ n4 := (Kd.R_reads' HR4.out).2.1
              have HSA : Aside0 (∀ W, Below w4.heap.size w4 W → Calls Try.prog 23 #[.slice A4 dl n4, .slice A5 dl n5] W fun e w' => e = .returned (.bool true) ∧ Below W.heap.size W w') := ⟨fun W hb => by
                have h1 := Kd.C_below (Kd.R_reads' HR4.out).2.2 hb
                have h2 := Kd.C_take (m := dl) (Kd.C_below HCK.out hb) (by rw [HNN.out]; exact hdn)
                rw [show ks.take dl = D by rw [HSP.out, ← HDL.out, List.take_left']; rfl] at h2
                have := same23 D A4 A5 n4 n5 W h1 (by rw [HDL.out]; exact hn4) h2 (by rw [HDL.out]; omega) (by rw [HDL.out]; omega)
                rwa [HDL.out] at this⟩
              have HSB : Aside0 (∀ (W : World) (A6 : Option Addr) (n6 : Nat), r ≤ n6 → kI.C W A6 K2.length K2 → Below w4.drew.heap.size w4.drew W → Calls Try.prog 23 #[.slice A6 r n6, .slice (if n5 = dl then A5 else A5.map (·.add dl)) r (n5 - dl)] W fun e w' => e = .returned (.bool true) ∧ Below W.heap.size W w') := ⟨fun W A6 n6 h6 hc6 hb => by
                have h2 := Kd.C_drop (m := dl) (c := n5) (Kd.C_below (Kd.C_drew HCK.out) hb) (by rw [HNN.out]; exact hdn) (by rw [HNN.out]; exact hn5)
                rw [show ks.drop dl = K2 by rw [HSP.out, ← HDL.out, List.drop_left']; rfl] at h2
                rw [show dl * kI.sz = dl from Nat.mul_one dl] at h2
                have := same23 K2 A6 _ n6 (n5 - dl) W hc6 (by rw [HRR.out]; exact h6) h2 (by rw [HRR.out]; omega) (by rw [HRR.out]; omega)
                rwa [HRR.out] at this⟩
              have hwr : wrap64 (r : Int) = (r : Int) := IntWalk.wrap64_in _ (by omega)
              refine start_ (n := 31) (S := fun w' => True) (ds := []) #[false, false, false, false, false, false, false, false, false, false, false, false, false, false, false, false, false, false, false, false, false, false, false, false, false, false, false, false, false, false, false] (by kernel_rfl) rfl rfl trivial (fun hHeld => ?_); refine with_tab next.tab17 (fun HT_ => ?_)
              refine pure_ (i := 0) (N := some 93) (v := ?_) (a' := ?_) #[true, false, false, false, false, false, false, false, false, false, false, false, false, false, false, false, false, false, false, false, false, false, false, false, false, false, false, false, false, false, false] rfl rfl (any_of HT_.out (by kernel_rfl)) (fun _ _ _ h => h) (Or.inl ⟨by rfl, ?_⟩) ?_ ?_
              rotate_left
              · intro w'
                go_simp
                with_reducible rfl
              rotate_left
              · simp only [Act.put, List.setIfInBounds_toArray, List.set_cons_zero, List.set_cons_succ, i64_w, i32_w]
                rfl
              refine pure_ (i := 1) (N := some 94) (v := ?_) (a' := ?_) #[true, true, false, false, false, false, false, false, false, false, false, false, false, false, false, false, false, false, false, false, false, false, false, false, false, false, false, false, false, false, false] rfl rfl (any_of HT_.out (by kernel_rfl)) (fun _ _ _ h => h) (Or.inl ⟨by rfl, ?_⟩) ?_ ?_
              rotate_left
              · intro w'
                go_simp
                with_reducible rfl
              rotate_left
              · simp only [Act.put, List.setIfInBounds_toArray, List.set_cons_zero, List.set_cons_succ, i64_w, i32_w]
                rfl
              refine pure_ (i := 2) (N := some 95) (v := ?_) (a' := ?_) #[true, true, true, false, false, false, false, false, false, false, false, false, false, false, false, false, false, false, false, false, false, false, false, false, false, false, false, false, false, false, false] rfl rfl (any_of HT_.out (by kernel_rfl)) (fun _ _ _ h => h) (Or.inl ⟨by rfl, ?_⟩) ?_ ?_
              rotate_left
              · intro w'
                go_simp
                with_reducible rfl
              rotate_left
              · simp only [Act.put, List.setIfInBounds_toArray, List.set_cons_zero, List.set_cons_succ, i64_w, i32_w]
                rfl
              refine pure_ (i := 3) (N := some 96) (v := ?_) (a' := ?_) #[true, true, true, true, false, false, false, false, false, false, false, false, false, false, false, false, false, false, false, false, false, false, false, false, false, false, false, false, false, false, false] rfl rfl (any_of HT_.out (by kernel_rfl)) (fun _ _ _ h => h) (Or.inl ⟨by rfl, ?_⟩) ?_ ?_
              rotate_left
              · intro w'
                go_simp
                with_reducible rfl
              rotate_left
              · simp only [Act.put, List.setIfInBounds_toArray, List.set_cons_zero, List.set_cons_succ, i64_w, i32_w]
                rfl
              refine pure_ (i := 4) (N := some 97) (v := ?_) (a' := ?_) #[true, true, true, true, true, false, false, false, false, false, false, false, false, false, false, false, false, false, false, false, false, false, false, false, false, false, false, false, false, false, false] rfl rfl (any_of HT_.out (by kernel_rfl)) (fun _ _ _ h => h) (Or.inl ⟨by rfl, ?_⟩) ?_ ?_
              rotate_left
              · intro w'
                go_simp
                with_reducible rfl
              rotate_left
              · simp only [Act.put, List.setIfInBounds_toArray, List.set_cons_zero, List.set_cons_succ, i64_w, i32_w]
                rfl
              refine pure_ (i := 6) (N := some 99) (v := ?_) (a' := ?_) #[true, true, true, true, true, false, true, false, false, false, false, false, false, false, false, false, false, false, false, false, false, false, false, false, false, false, false, false, false, false, false] rfl rfl (any_of HT_.out (by kernel_rfl)) (fun _ _ _ h => h) (Or.inl ⟨by rfl, ?_⟩) ?_ ?_
              rotate_left
              · intro w'
                go_simp
                with_reducible rfl
              rotate_left
              · simp only [Act.put, List.setIfInBounds_toArray, List.set_cons_zero, List.set_cons_succ, i64_w, i32_w]
                rfl
              refine pure_ (i := 7) (N := some 100) (v := ?_) (a' := ?_) #[true, true, true, true, true, false, true, true, false, false, false, false, false, false, false, false, false, false, false, false, false, false, false, false, false, false, false, false, false, false, false] rfl rfl (any_of HT_.out (by kernel_rfl)) (fun _ _ _ h => h) (Or.inl ⟨by rfl, ?_⟩) ?_ ?_
              rotate_left
              · intro w'
                go_simp
                with_reducible rfl
              rotate_left
              · simp only [Act.put, List.setIfInBounds_toArray, List.set_cons_zero, List.set_cons_succ, i64_w, i32_w]
                rfl
              refine pure_ (i := 8) (N := some 101) (v := ?_) (a' := ?_) #[true, true, true, true, true, false, true, true, true, false, false, false, false, false, false, false, false, false, false, false, false, false, false, false, false, false, false, false, false, false, false] rfl rfl (any_of HT_.out (by kernel_rfl)) (fun _ _ _ h => h) (Or.inl ⟨by rfl, ?_⟩) ?_ ?_
              rotate_left
              · intro w'
                go_simp
                with_reducible rfl
              rotate_left
              · simp only [Act.put, List.setIfInBounds_toArray, List.set_cons_zero, List.set_cons_succ, i64_w, i32_w]
                rfl
              refine pure_ (i := 9) (N := some 102) (v := ?_) (a' := ?_) #[true, true, true, true, true, false, true, true, true, true, false, false, false, false, false, false, false, false, false, false, false, false, false, false, false, false, false, false, false, false, false] rfl rfl (any_of HT_.out (by kernel_rfl)) (fun _ _ _ h => h) (Or.inl ⟨by rfl, ?_⟩) ?_ ?_
              rotate_left
              · intro w'
                go_simp
                with_reducible rfl
              rotate_left
              · simp only [Act.put, List.setIfInBounds_toArray, List.set_cons_zero, List.set_cons_succ, i64_w, i32_w]
                rfl
              refine one_ (i := 5) (N := some 98) #[true, true, true, true, true, true, true, true, true, true, false, false, false, false, false, false, false, false, false, false, false, false, false, false, false, false, false, false, false, false, false] rfl rfl (one_of HT_.out (by kernel_rfl)) (by decide) (fun K hK => ?_)
              refine goes_ Try.func18 (by kernel_rfl) rfl #[.pointer (some ⟨g, 0, none⟩)] (by rfl) rfl rfl (by (try simp only [List.map_toArray, List.map_cons, List.map_nil]); first | done | rfl) ?_
              refine (HLE.out _ (K4.out.below (below_drew1 (Below.refl _ _)))).mono ?_
              rintro e w' ⟨rfl, rfl⟩
              refine ⟨_, rfl, ?_⟩
              refine hK.out _ _ trivial (fun hHeld => ?_)
              clear hK K
              refine norm_ (a' := ?_) ?_ ?_
              rotate_left
              · show Act.put _ (some 98) _ = _
                simp only [Act.put, List.setIfInBounds_toArray, List.set_cons_zero, List.set_cons_succ, i64_w, i32_w]
                rfl
              refine pure_ (i := 10) (N := some 103) (v := ?_) (a' := ?_) #[true, true, true, true, true, true, true, true, true, true, true, false, false, false, false, false, false, false, false, false, false, false, false, false, false, false, false, false, false, false, false] rfl rfl (any_of HT_.out (by kernel_rfl)) (fun _ _ _ h => h) (Or.inl ⟨by rfl, ?_⟩) ?_ ?_
              rotate_left
              · intro w'
                go_simp
                with_reducible rfl
              rotate_left
              · simp only [Act.put, List.setIfInBounds_toArray, List.set_cons_zero, List.set_cons_succ, i64_w, i32_w]
                rfl
              refine pure_ (i := 11) (N := some 104) (v := ?_) (a' := ?_) #[true, true, true, true, true, true, true, true, true, true, true, true, false, false, false, false, false, false, false, false, false, false, false, false, false, false, false, false, false, false, false] rfl rfl (any_of HT_.out (by kernel_rfl)) (fun _ _ _ h => h) (Or.inl ⟨by rfl, ?_⟩) ?_ ?_
              rotate_left
              · intro w'
                go_simp
                with_reducible rfl
              rotate_left
              · simp only [Act.put, List.setIfInBounds_toArray, List.set_cons_zero, List.set_cons_succ, i64_w, i32_w]
                rfl
              refine pure_ (i := 12) (N := some 105) (v := ?_) (a' := ?_) #[true, true, true, true, true, true, true, true, true, true, true, true, true, false, false, false, false, false, false, false, false, false, false, false, false, false, false, false, false, false, false] rfl rfl (any_of HT_.out (by kernel_rfl)) (fun _ _ _ h => h) (Or.inl ⟨by rfl, ?_⟩) ?_ ?_
              rotate_left
              · intro w'
                go_simp
                with_reducible rfl
              rotate_left
              · simp only [Act.put, List.setIfInBounds_toArray, List.set_cons_zero, List.set_cons_succ, i64_w, i32_w]
                rfl
              refine pure_ (i := 13) (N := some 106) (v := ?_) (a' := ?_) #[true, true, true, true, true, true, true, true, true, true, true, true, true, true, false, false, false, false, false, false, false, false, false, false, false, false, false, false, false, false, false] rfl rfl (any_of HT_.out (by kernel_rfl)) (fun _ _ _ h => h) (Or.inl ⟨by rfl, ?_⟩) ?_ ?_
              rotate_left
              · intro w'
                go_simp
                with_reducible rfl
              rotate_left
              · simp only [Act.put, List.setIfInBounds_toArray, List.set_cons_zero, List.set_cons_succ, i64_w, i32_w]
                rfl
              refine pure_ (i := 14) (N := some 107) (v := ?_) (a' := ?_) #[true, true, true, true, true, true, true, true, true, true, true, true, true, true, true, false, false, false, false, false, false, false, false, false, false, false, false, false, false, false, false] rfl rfl (any_of HT_.out (by kernel_rfl)) (fun _ _ _ h => h) (Or.inl ⟨by rfl, ?_⟩) ?_ ?_
              rotate_left
              · intro w'
                go_simp
                with_reducible rfl
              rotate_left
              · simp only [Act.put, List.setIfInBounds_toArray, List.set_cons_zero, List.set_cons_succ, i64_w, i32_w]
                rfl
              refine pure_ (i := 15) (N := some 108) (v := ?_) (a' := ?_) #[true, true, true, true, true, true, true, true, true, true, true, true, true, true, true, true, false, false, false, false, false, false, false, false, false, false, false, false, false, false, false] rfl rfl (any_of HT_.out (by kernel_rfl)) (fun _ _ _ h => h) (Or.inl ⟨by rfl, ?_⟩) ?_ ?_
              rotate_left
              · intro w'
                go_simp
                with_reducible rfl
              rotate_left
              · simp only [Act.put, List.setIfInBounds_toArray, List.set_cons_zero, List.set_cons_succ, i64_w, i32_w]
                rfl
              refine pure_ (i := 16) (N := some 109) (v := ?_) (a' := ?_) #[true, true, true, true, true, true, true, true, true, true, true, true, true, true, true, true, true, false, false, false, false, false, false, false, false, false, false, false, false, false, false] rfl rfl (any_of HT_.out (by kernel_rfl)) (fun _ _ _ h => h) (Or.inl ⟨by rfl, ?_⟩) ?_ ?_
              rotate_left
              · intro w'
                go_simp
                with_reducible rfl
              rotate_left
              · simp only [Act.put, List.setIfInBounds_toArray, List.set_cons_zero, List.set_cons_succ, i64_w, i32_w]
                rfl
              refine pure_ (i := 17) (N := some 110) (v := ?_) (a' := ?_) #[true, true, true, true, true, true, true, true, true, true, true, true, true, true, true, true, true, true, false, false, false, false, false, false, false, false, false, false, false, false, false] rfl rfl (any_of HT_.out (by kernel_rfl)) (fun _ _ _ h => h) (Or.inl ⟨by rfl, ?_⟩) ?_ ?_
              rotate_left
              · intro w'
                go_simp
                with_reducible rfl
              rotate_left
              · simp only [Act.put, List.setIfInBounds_toArray, List.set_cons_zero, List.set_cons_succ, i64_w, i32_w]
                rfl
              refine one_ (i := 18) (N := some 111) #[true, true, true, true, true, true, true, true, true, true, true, true, true, true, true, true, true, true, true, false, false, false, false, false, false, false, false, false, false, false, false] rfl rfl (one_of HT_.out (by kernel_rfl)) (by decide) (fun K hK => ?_)
              refine goes_ Try.func23 (by kernel_rfl) rfl #[.slice A4 dl n4, .slice A5 dl n5] (by rfl) rfl rfl (by (try simp only [List.map_toArray, List.map_cons, List.map_nil]); first | done | rfl) ?_
              refine (HSA.out _ (below_drew1 (Below.refl _ _))).mono ?_
              rintro e w5 ⟨rfl, hb5⟩
              have HB5 := Aside0.mk hb5
              clear hb5
              refine ⟨_, rfl, ?_⟩
              refine hK.out _ _ trivial (fun hHeld => ?_)
              clear hK K
              refine norm_ (a' := ?_) ?_ ?_
              rotate_left
              · show Act.put _ (some 111) _ = _
                simp only [Act.put, List.setIfInBounds_toArray, List.set_cons_zero, List.set_cons_succ, i64_w, i32_w]
                rfl
              refine pure_ (i := 19) (N := some 112) (v := ?_) (a' := ?_) #[true, true, true, true, true, true, true, true, true, true, true, true, true, true, true, true, true, true, true, true, false, false, false, false, false, false, false, false, false, false, false] rfl rfl (any_of HT_.out (by kernel_rfl)) (fun _ _ _ h => h) (Or.inl ⟨by rfl, ?_⟩) ?_ ?_
              rotate_left
              · intro w'
                go_simp
                with_reducible rfl
              rotate_left
              · simp only [Act.put, List.setIfInBounds_toArray, List.set_cons_zero, List.set_cons_succ, i64_w, i32_w]
                rfl
              refine pure_ (i := 20) (N := some 113) (v := ?_) (a' := ?_) #[true, true, true, true, true, true, true, true, true, true, true, true, true, true, true, true, true, true, true, true, true, false, false, false, false, false, false, false, false, false, false] rfl rfl (any_of HT_.out (by kernel_rfl)) (fun _ _ _ h => h) (Or.inl ⟨by rfl, ?_⟩) ?_ ?_
              rotate_left
              · intro w'
                go_simp
                with_reducible rfl
              rotate_left
              · simp only [Act.put, List.setIfInBounds_toArray, List.set_cons_zero, List.set_cons_succ, i64_w, i32_w]
                rfl
              refine pure_ (i := 21) (N := some 114) (v := ?_) (a' := ?_) #[true, true, true, true, true, true, true, true, true, true, true, true, true, true, true, true, true, true, true, true, true, true, false, false, false, false, false, false, false, false, false] rfl rfl (any_of HT_.out (by kernel_rfl)) (fun _ _ _ h => h) (Or.inl ⟨by rfl, ?_⟩) ?_ ?_
              rotate_left
              · intro w'
                go_simp
                with_reducible rfl
              rotate_left
              · simp only [Act.put, List.setIfInBounds_toArray, List.set_cons_zero, List.set_cons_succ, i64_w, i32_w]
                rfl
              refine pure_ (i := 22) (N := some 115) (v := ?_) (a' := ?_) #[true, true, true, true, true, true, true, true, true, true, true, true, true, true, true, true, true, true, true, true, true, true, true, false, false, false, false, false, false, false, false] rfl rfl (any_of HT_.out (by kernel_rfl)) (fun _ _ _ h => h) (Or.inl ⟨by rfl, ?_⟩) ?_ ?_
              rotate_left
              · intro w'
                go_simp
                with_reducible rfl
              rotate_left
              · simp only [Act.put, List.setIfInBounds_toArray, List.set_cons_zero, List.set_cons_succ, i64_w, i32_w]
                rfl
              refine pure_ (i := 24) (N := some 117) (v := ?_) (a' := ?_) #[true, true, true, true, true, true, true, true, true, true, true, true, true, true, true, true, true, true, true, true, true, true, true, false, true, false, false, false, false, false, false] rfl rfl (any_of HT_.out (by kernel_rfl)) (fun _ _ _ h => h) (Or.inl ⟨by rfl, ?_⟩) ?_ ?_
              rotate_left
              · intro w'
                go_simp
                with_reducible rfl
              rotate_left
              · simp only [Act.put, List.setIfInBounds_toArray, List.set_cons_zero, List.set_cons_succ, i64_w, i32_w]
                rfl
              refine pure_ (i := 25) (N := some 118) (v := ?_) (a' := ?_) #[true, true, true, true, true, true, true, true, true, true, true, true, true, true, true, true, true, true, true, true, true, true, true, false, true, true, false, false, false, false, false] rfl rfl (any_of HT_.out (by kernel_rfl)) (fun _ _ _ h => h) (Or.inl ⟨by rfl, ?_⟩) ?_ ?_
              rotate_left
              · intro w'
                go_simp
                with_reducible rfl
              rotate_left
              · simp only [Act.put, List.setIfInBounds_toArray, List.set_cons_zero, List.set_cons_succ, i64_w, i32_w]
                rfl
              refine pure_ (i := 26) (N := some 119) (v := ?_) (a' := ?_) #[true, true, true, true, true, true, true, true, true, true, true, true, true, true, true, true, true, true, true, true, true, true, true, false, true, true, true, false, false, false, false] rfl rfl (any_of HT_.out (by kernel_rfl)) (fun _ _ _ h => h) (Or.inl ⟨by rfl, ?_⟩) ?_ ?_
              rotate_left
              · intro w'
                go_simp
                with_reducible rfl
              rotate_left
              · simp only [Act.put, List.setIfInBounds_toArray, List.set_cons_zero, List.set_cons_succ, i64_w, i32_w]
                rfl
              refine pure_ (i := 27) (N := some 120) (v := ?_) (a' := ?_) #[true, true, true, true, true, true, true, true, true, true, true, true, true, true, true, true, true, true, true, true, true, true, true, false, true, true, true, true, false, false, false] rfl rfl (any_of HT_.out (by kernel_rfl)) (fun _ _ _ h => h) (Or.inl ⟨by rfl, ?_⟩) ?_ ?_
              rotate_left
              · intro w'
                go_simp
                with_reducible rfl
              rotate_left
              · simp only [Act.put, List.setIfInBounds_toArray, List.set_cons_zero, List.set_cons_succ, i64_w, i32_w]
                rfl
              refine one_ (i := 23) (N := some 116) #[true, true, true, true, true, true, true, true, true, true, true, true, true, true, true, true, true, true, true, true, true, true, true, true, true, true, true, true, false, false, false] rfl rfl (one_of HT_.out (by kernel_rfl)) (by decide) (fun K hK => ?_)
              refine goes_ Try.func22 (by kernel_rfl) rfl #[.pointer (some ⟨g, 0, none⟩)] (by rfl) rfl rfl (by (try simp only [List.map_toArray, List.map_cons, List.map_nil]); first | done | rfl) ?_
              refine (HKE2.out _ (K4.out.below (below_step (below_drew1 (Below.refl _ _)) HB5.out))).mono ?_
              rintro e w6 ⟨v6, rfl, hR6, hb6⟩
              obtain ⟨A6, n6, hv6⟩ := Kd.R_slice hR6
              rw [HRR.out] at hv6
              subst hv6
              have HB6 := Aside0.mk (below_step HB5.out hb6)
              have HR6 := Aside0.mk (Kd.R_reads' hR6)
              clear hR6 hb6
              refine ⟨_, rfl, ?_⟩
              refine hK.out _ _ trivial (fun hHeld => ?_)
              clear hK K
              refine norm_ (a' := ?_) ?_ ?_
              rotate_left
              · show Act.put _ (some 116) _ = _
                simp only [Act.put, List.setIfInBounds_toArray, List.set_cons_zero, List.set_cons_succ, i64_w, i32_w]
                rfl
              refine one_ (i := 28) (N := some 121) #[true, true, true, true, true, true, true, true, true, true, true, true, true, true, true, true, true, true, true, true, true, true, true, true, true, true, true, true, true, false, false] rfl rfl (one_of HT_.out (by kernel_rfl)) (by decide) (fun K hK => ?_)
              refine goes_ Try.func23 (by kernel_rfl) rfl #[.slice A6 r n6, .slice (if n5 = dl then A5 else A5.map (·.add dl)) r (n5 - dl)] (by rfl) rfl rfl (by (try simp only [List.map_toArray, List.map_cons, List.map_nil]); first | done | rfl) ?_
              refine (HSB.out w6 A6 n6 HR6.out.2.1 HR6.out.2.2 HB6.out).mono ?_
              rintro e w7 ⟨rfl, hb7⟩
              have HB7 := Aside0.mk (below_step HB6.out hb7)
              clear hb7
              refine ⟨_, rfl, ?_⟩
              refine hK.out _ _ trivial (fun hHeld => ?_)
              clear hK K
              refine norm_ (a' := ?_) ?_ ?_
              rotate_left
              · show Act.put _ (some 121) _ = _
                simp only [Act.put, List.setIfInBounds_toArray, List.set_cons_zero, List.set_cons_succ, i64_w, i32_w]
                rfl
              refine pure_ (i := 29) (N := some 122) (v := ?_) (a' := ?_) #[true, true, true, true, true, true, true, true, true, true, true, true, true, true, true, true, true, true, true, true, true, true, true, true, true, true, true, true, true, true, false] rfl rfl (any_of HT_.out (by kernel_rfl)) (fun _ _ _ h => h) (Or.inl ⟨by rfl, ?_⟩) ?_ ?_
              rotate_left
              · intro w'
                go_simp
                with_reducible rfl
              rotate_left
              · simp only [Act.put, List.setIfInBounds_toArray, List.set_cons_zero, List.set_cons_succ, i64_w, i32_w]
                rfl
              refine pure_ (i := 30) (N := some 123) (v := ?_) (a' := ?_) #[true, true, true, true, true, true, true, true, true, true, true, true, true, true, true, true, true, true, true, true, true, true, true, true, true, true, true, true, true, true, true] rfl rfl (any_of HT_.out (by kernel_rfl)) (fun _ _ _ h => h) (Or.inl ⟨by rfl, ?_⟩) ?_ ?_
              rotate_left
              · intro w'
                go_simp
                with_reducible rfl
              rotate_left
              · simp only [Act.put, List.setIfInBounds_toArray, List.set_cons_zero, List.set_cons_succ, i64_w, i32_w]
                rfl
              refine done_ (done_of HT_.out (by kernel_rfl)) ?_
              clear hHeld hwr
              go_wp2
              go_roundw
              case measure => simp [intOf]; omega
              case rel => exact ⟨k + 1, rest l2 Tk, by first | rfl | (congr 1; omega), ⟨K4.out.below (below_step (below_drew1 (Below.refl _ _)) HB7.out)⟩, HLR, HT2, ⟨below_step (below_drew1 B4.out) HB7.out⟩⟩

            · have hTz : Tk = 0 := by omega
              subst hTz
              clear hTp HD1
              go_upto_region 13 with (first
                | (go_at_call 18; (with_reducible refine hlel.out.mono ?_); rintro e w' ⟨rfl, rfl⟩)
                | (go_at_call 20; (with_reducible refine HNX.out.mono ?_); rintro e w1 ⟨rfl, hi1, hk1⟩; have K1 := Aside0.mk hi1; have B1 := Aside0.mk (hk1.below HB.out HI.out); clear hi1 hk1)
                | (go_at_call 22; (with_reducible refine (HKE1.out w1 K1.out).mono ?_); rintro e w2 ⟨v2, rfl, hR2, hb2⟩; obtain ⟨A5, n5, rfl⟩ := Kd.R_slice hR2; have HR2 := Aside0.mk hR2; have B2 := Aside0.mk (below_step B1.out hb2); have K2' := Aside0.mk (K1.out.below hb2); have HLE3 := Aside0.mk (HLE1.out w2 K2'.out); clear hR2 hb2)
                | (go_at_call 18; (with_reducible refine HLE3.out.mono ?_); rintro e w' ⟨rfl, rfl⟩))
              rw [HNN.out] at HR2 ⊢
              have hn5 : n ≤ n5 := (Kd.R_reads' HR2.out).2.1
              obtain ⟨ad5, hA5, hc5⟩ := at_ints (Kd.R_reads' HR2.out).2.2 (show 0 < ks.length by rw [HNN.out]; omega)
              subst hA5
              rw [HX.out] at hc5
              have hc5 : w2.cell? ad5 = some (.int .i64 px.1) := hc5
              go_upto_region 14 with (go_at_call 19; (with_reducible refine (HAT.out w2 K2'.out).mono ?_); rintro e w' ⟨rfl, rfl⟩)
              clear hc5
              have HD2' := Aside0.mk (HD2.out w2 K2'.out B2.out)
              go_upto_region 17 with (go_at_call 17; (with_reducible refine HD2'.out.mono ?_); rintro e w4 ⟨v4, rfl, hR4, hi4, hk4⟩; obtain ⟨A4, n4, rfl⟩ := Kd.R_slice hR4; have HR4 := Aside0.mk hR4; have K4 := Aside0.mk hi4; have B4 := Aside0.mk (hk4.below B2.out K2'.out); have HRK := Aside0.mk (hk4.row2 HR2.out); clear hR4 hi4 hk4)
              obtain ⟨A5, hA5⟩ : ∃ A5, some ad5 = A5 := ⟨_, rfl⟩
              rw [hA5] at HRK ⊢
              clear hA5
              rw [HDL.out] at HR4 ⊢
              have HCK := Aside0.mk (Kd.R_reads' HRK.out).2.2
              have hdl5 : dl ≤ n5 := by omega
              have hn4 : dl ≤ n4 := (Kd.R_reads' HR4.out).2.1
              have HSA : Aside0 (∀ W, Below w4.heap.size w4 W → Calls Try.prog 23 #[.slice A4 dl n4, .slice A5 dl n5] W fun e w' => e = .returned (.bool true) ∧ Below W.heap.size W w') := ⟨fun W hb => by
                have h1 := Kd.C_below (Kd.R_reads' HR4.out).2.2 hb
                have h2 := Kd.C_take (m := dl) (Kd.C_below HCK.out hb) (by rw [HNN.out]; exact hdn)
                rw [show ks.take dl = D by rw [HSP.out, ← HDL.out, List.take_left']; rfl] at h2
                have := same23 D A4 A5 n4 n5 W h1 (by rw [HDL.out]; exact hn4) h2 (by rw [HDL.out]; omega) (by rw [HDL.out]; omega)
                rwa [HDL.out] at this⟩
              have HSB : Aside0 (∀ (W : World) (A6 : Option Addr) (n6 : Nat), r ≤ n6 → kI.C W A6 K2.length K2 → Below w4.drew.heap.size w4.drew W → Calls Try.prog 23 #[.slice A6 r n6, .slice (if n5 = dl then A5 else A5.map (·.add dl)) r (n5 - dl)] W fun e w' => e = .returned (.bool true) ∧ Below W.heap.size W w') := ⟨fun W A6 n6 h6 hc6 hb => by
                have h2 := Kd.C_drop (m := dl) (c := n5) (Kd.C_below (Kd.C_drew HCK.out) hb) (by rw [HNN.out]; exact hdn) (by rw [HNN.out]; exact hn5)
                rw [show ks.drop dl = K2 by rw [HSP.out, ← HDL.out, List.drop_left']; rfl] at h2
                rw [show dl * kI.sz = dl from Nat.mul_one dl] at h2
                have := same23 K2 A6 _ n6 (n5 - dl) W hc6 (by rw [HRR.out]; exact h6) h2 (by rw [HRR.out]; omega) (by rw [HRR.out]; omega)
                rwa [HRR.out] at this⟩
              have hwr : wrap64 (r : Int) = (r : Int) := IntWalk.wrap64_in _ (by omega)
              refine start_ (n := 31) (S := fun w' => True) (ds := []) #[false, false, false, false, false, false, false, false, false, false, false, false, false, false, false, false, false, false, false, false, false, false, false, false, false, false, false, false, false, false, false] (by kernel_rfl) rfl rfl trivial (fun hHeld => ?_); refine with_tab next.tab17 (fun HT_ => ?_)
              refine pure_ (i := 0) (N := some 93) (v := ?_) (a' := ?_) #[true, false, false, false, false, false, false, false, false, false, false, false, false, false, false, false, false, false, false, false, false, false, false, false, false, false, false, false, false, false, false] rfl rfl (any_of HT_.out (by kernel_rfl)) (fun _ _ _ h => h) (Or.inl ⟨by rfl, ?_⟩) ?_ ?_
              rotate_left
              · intro w'
                go_simp
                with_reducible rfl
              rotate_left
              · simp only [Act.put, List.setIfInBounds_toArray, List.set_cons_zero, List.set_cons_succ, i64_w, i32_w]
                rfl
              refine pure_ (i := 1) (N := some 94) (v := ?_) (a' := ?_) #[true, true, false, false, false, false, false, false, false, false, false, false, false, false, false, false, false, false, false, false, false, false, false, false, false, false, false, false, false, false, false] rfl rfl (any_of HT_.out (by kernel_rfl)) (fun _ _ _ h => h) (Or.inl ⟨by rfl, ?_⟩) ?_ ?_
              rotate_left
              · intro w'
                go_simp
                with_reducible rfl
              rotate_left
              · simp only [Act.put, List.setIfInBounds_toArray, List.set_cons_zero, List.set_cons_succ, i64_w, i32_w]
                rfl
              refine pure_ (i := 2) (N := some 95) (v := ?_) (a' := ?_) #[true, true, true, false, false, false, false, false, false, false, false, false, false, false, false, false, false, false, false, false, false, false, false, false, false, false, false, false, false, false, false] rfl rfl (any_of HT_.out (by kernel_rfl)) (fun _ _ _ h => h) (Or.inl ⟨by rfl, ?_⟩) ?_ ?_
              rotate_left
              · intro w'
                go_simp
                with_reducible rfl
              rotate_left
              · simp only [Act.put, List.setIfInBounds_toArray, List.set_cons_zero, List.set_cons_succ, i64_w, i32_w]
                rfl
              refine pure_ (i := 3) (N := some 96) (v := ?_) (a' := ?_) #[true, true, true, true, false, false, false, false, false, false, false, false, false, false, false, false, false, false, false, false, false, false, false, false, false, false, false, false, false, false, false] rfl rfl (any_of HT_.out (by kernel_rfl)) (fun _ _ _ h => h) (Or.inl ⟨by rfl, ?_⟩) ?_ ?_
              rotate_left
              · intro w'
                go_simp
                with_reducible rfl
              rotate_left
              · simp only [Act.put, List.setIfInBounds_toArray, List.set_cons_zero, List.set_cons_succ, i64_w, i32_w]
                rfl
              refine pure_ (i := 4) (N := some 97) (v := ?_) (a' := ?_) #[true, true, true, true, true, false, false, false, false, false, false, false, false, false, false, false, false, false, false, false, false, false, false, false, false, false, false, false, false, false, false] rfl rfl (any_of HT_.out (by kernel_rfl)) (fun _ _ _ h => h) (Or.inl ⟨by rfl, ?_⟩) ?_ ?_
              rotate_left
              · intro w'
                go_simp
                with_reducible rfl
              rotate_left
              · simp only [Act.put, List.setIfInBounds_toArray, List.set_cons_zero, List.set_cons_succ, i64_w, i32_w]
                rfl
              refine pure_ (i := 6) (N := some 99) (v := ?_) (a' := ?_) #[true, true, true, true, true, false, true, false, false, false, false, false, false, false, false, false, false, false, false, false, false, false, false, false, false, false, false, false, false, false, false] rfl rfl (any_of HT_.out (by kernel_rfl)) (fun _ _ _ h => h) (Or.inl ⟨by rfl, ?_⟩) ?_ ?_
              rotate_left
              · intro w'
                go_simp
                with_reducible rfl
              rotate_left
              · simp only [Act.put, List.setIfInBounds_toArray, List.set_cons_zero, List.set_cons_succ, i64_w, i32_w]
                rfl
              refine pure_ (i := 7) (N := some 100) (v := ?_) (a' := ?_) #[true, true, true, true, true, false, true, true, false, false, false, false, false, false, false, false, false, false, false, false, false, false, false, false, false, false, false, false, false, false, false] rfl rfl (any_of HT_.out (by kernel_rfl)) (fun _ _ _ h => h) (Or.inl ⟨by rfl, ?_⟩) ?_ ?_
              rotate_left
              · intro w'
                go_simp
                with_reducible rfl
              rotate_left
              · simp only [Act.put, List.setIfInBounds_toArray, List.set_cons_zero, List.set_cons_succ, i64_w, i32_w]
                rfl
              refine pure_ (i := 8) (N := some 101) (v := ?_) (a' := ?_) #[true, true, true, true, true, false, true, true, true, false, false, false, false, false, false, false, false, false, false, false, false, false, false, false, false, false, false, false, false, false, false] rfl rfl (any_of HT_.out (by kernel_rfl)) (fun _ _ _ h => h) (Or.inl ⟨by rfl, ?_⟩) ?_ ?_
              rotate_left
              · intro w'
                go_simp
                with_reducible rfl
              rotate_left
              · simp only [Act.put, List.setIfInBounds_toArray, List.set_cons_zero, List.set_cons_succ, i64_w, i32_w]
                rfl
              refine pure_ (i := 9) (N := some 102) (v := ?_) (a' := ?_) #[true, true, true, true, true, false, true, true, true, true, false, false, false, false, false, false, false, false, false, false, false, false, false, false, false, false, false, false, false, false, false] rfl rfl (any_of HT_.out (by kernel_rfl)) (fun _ _ _ h => h) (Or.inl ⟨by rfl, ?_⟩) ?_ ?_
              rotate_left
              · intro w'
                go_simp
                with_reducible rfl
              rotate_left
              · simp only [Act.put, List.setIfInBounds_toArray, List.set_cons_zero, List.set_cons_succ, i64_w, i32_w]
                rfl
              refine one_ (i := 5) (N := some 98) #[true, true, true, true, true, true, true, true, true, true, false, false, false, false, false, false, false, false, false, false, false, false, false, false, false, false, false, false, false, false, false] rfl rfl (one_of HT_.out (by kernel_rfl)) (by decide) (fun K hK => ?_)
              refine goes_ Try.func18 (by kernel_rfl) rfl #[.pointer (some ⟨g, 0, none⟩)] (by rfl) rfl rfl (by (try simp only [List.map_toArray, List.map_cons, List.map_nil]); first | done | rfl) ?_
              refine (HLE.out _ (K4.out.below (below_drew1 (Below.refl _ _)))).mono ?_
              rintro e w' ⟨rfl, rfl⟩
              refine ⟨_, rfl, ?_⟩
              refine hK.out _ _ trivial (fun hHeld => ?_)
              clear hK K
              refine norm_ (a' := ?_) ?_ ?_
              rotate_left
              · show Act.put _ (some 98) _ = _
                simp only [Act.put, List.setIfInBounds_toArray, List.set_cons_zero, List.set_cons_succ, i64_w, i32_w]
                rfl
              refine pure_ (i := 10) (N := some 103) (v := ?_) (a' := ?_) #[true, true, true, true, true, true, true, true, true, true, true, false, false, false, false, false, false, false, false, false, false, false, false, false, false, false, false, false, false, false, false] rfl rfl (any_of HT_.out (by kernel_rfl)) (fun _ _ _ h => h) (Or.inl ⟨by rfl, ?_⟩) ?_ ?_
              rotate_left
              · intro w'
                go_simp
                with_reducible rfl
              rotate_left
              · simp only [Act.put, List.setIfInBounds_toArray, List.set_cons_zero, List.set_cons_succ, i64_w, i32_w]
                rfl
              refine pure_ (i := 11) (N := some 104) (v := ?_) (a' := ?_) #[true, true, true, true, true, true, true, true, true, true, true, true, false, false, false, false, false, false, false, false, false, false, false, false, false, false, false, false, false, false, false] rfl rfl (any_of HT_.out (by kernel_rfl)) (fun _ _ _ h => h) (Or.inl ⟨by rfl, ?_⟩) ?_ ?_
              rotate_left
              · intro w'
                go_simp
                with_reducible rfl
              rotate_left
              · simp only [Act.put, List.setIfInBounds_toArray, List.set_cons_zero, List.set_cons_succ, i64_w, i32_w]
                rfl
              refine pure_ (i := 12) (N := some 105) (v := ?_) (a' := ?_) #[true, true, true, true, true, true, true, true, true, true, true, true, true, false, false, false, false, false, false, false, false, false, false, false, false, false, false, false, false, false, false] rfl rfl (any_of HT_.out (by kernel_rfl)) (fun _ _ _ h => h) (Or.inl ⟨by rfl, ?_⟩) ?_ ?_
              rotate_left
              · intro w'
                go_simp
                with_reducible rfl
              rotate_left
              · simp only [Act.put, List.setIfInBounds_toArray, List.set_cons_zero, List.set_cons_succ, i64_w, i32_w]
                rfl
              refine pure_ (i := 13) (N := some 106) (v := ?_) (a' := ?_) #[true, true, true, true, true, true, true, true, true, true, true, true, true, true, false, false, false, false, false, false, false, false, false, false, false, false, false, false, false, false, false] rfl rfl (any_of HT_.out (by kernel_rfl)) (fun _ _ _ h => h) (Or.inl ⟨by rfl, ?_⟩) ?_ ?_
              rotate_left
              · intro w'
                go_simp
                with_reducible rfl
              rotate_left
              · simp only [Act.put, List.setIfInBounds_toArray, List.set_cons_zero, List.set_cons_succ, i64_w, i32_w]
                rfl
              refine pure_ (i := 14) (N := some 107) (v := ?_) (a' := ?_) #[true, true, true, true, true, true, true, true, true, true, true, true, true, true, true, false, false, false, false, false, false, false, false, false, false, false, false, false, false, false, false] rfl rfl (any_of HT_.out (by kernel_rfl)) (fun _ _ _ h => h) (Or.inl ⟨by rfl, ?_⟩) ?_ ?_
              rotate_left
              · intro w'
                go_simp
                with_reducible rfl
              rotate_left
              · simp only [Act.put, List.setIfInBounds_toArray, List.set_cons_zero, List.set_cons_succ, i64_w, i32_w]
                rfl
              refine pure_ (i := 15) (N := some 108) (v := ?_) (a' := ?_) #[true, true, true, true, true, true, true, true, true, true, true, true, true, true, true, true, false, false, false, false, false, false, false, false, false, false, false, false, false, false, false] rfl rfl (any_of HT_.out (by kernel_rfl)) (fun _ _ _ h => h) (Or.inl ⟨by rfl, ?_⟩) ?_ ?_
              rotate_left
              · intro w'
                go_simp
                with_reducible rfl
              rotate_left
              · simp only [Act.put, List.setIfInBounds_toArray, List.set_cons_zero, List.set_cons_succ, i64_w, i32_w]
                rfl
              refine pure_ (i := 16) (N := some 109) (v := ?_) (a' := ?_) #[true, true, true, true, true, true, true, true, true, true, true, true, true, true, true, true, true, false, false, false, false, false, false, false, false, false, false, false, false, false, false] rfl rfl (any_of HT_.out (by kernel_rfl)) (fun _ _ _ h => h) (Or.inl ⟨by rfl, ?_⟩) ?_ ?_
              rotate_left
              · intro w'
                go_simp
                with_reducible rfl
              rotate_left
              · simp only [Act.put, List.setIfInBounds_toArray, List.set_cons_zero, List.set_cons_succ, i64_w, i32_w]
                rfl
              refine pure_ (i := 17) (N := some 110) (v := ?_) (a' := ?_) #[true, true, true, true, true, true, true, true, true, true, true, true, true, true, true, true, true, true, false, false, false, false, false, false, false, false, false, false, false, false, false] rfl rfl (any_of HT_.out (by kernel_rfl)) (fun _ _ _ h => h) (Or.inl ⟨by rfl, ?_⟩) ?_ ?_
              rotate_left
              · intro w'
                go_simp
                with_reducible rfl
              rotate_left
              · simp only [Act.put, List.setIfInBounds_toArray, List.set_cons_zero, List.set_cons_succ, i64_w, i32_w]
                rfl
              refine one_ (i := 18) (N := some 111) #[true, true, true, true, true, true, true, true, true, true, true, true, true, true, true, true, true, true, true, false, false, false, false, false, false, false, false, false, false, false, false] rfl rfl (one_of HT_.out (by kernel_rfl)) (by decide) (fun K hK => ?_)
              refine goes_ Try.func23 (by kernel_rfl) rfl #[.slice A4 dl n4, .slice A5 dl n5] (by rfl) rfl rfl (by (try simp only [List.map_toArray, List.map_cons, List.map_nil]); first | done | rfl) ?_
              refine (HSA.out _ (below_drew1 (Below.refl _ _))).mono ?_
              rintro e w5 ⟨rfl, hb5⟩
              have HB5 := Aside0.mk hb5
              clear hb5
              refine ⟨_, rfl, ?_⟩
              refine hK.out _ _ trivial (fun hHeld => ?_)
              clear hK K
              refine norm_ (a' := ?_) ?_ ?_
              rotate_left
              · show Act.put _ (some 111) _ = _
                simp only [Act.put, List.setIfInBounds_toArray, List.set_cons_zero, List.set_cons_succ, i64_w, i32_w]
                rfl
              refine pure_ (i := 19) (N := some 112) (v := ?_) (a' := ?_) #[true, true, true, true, true, true, true, true, true, true, true, true, true, true, true, true, true, true, true, true, false, false, false, false, false, false, false, false, false, false, false] rfl rfl (any_of HT_.out (by kernel_rfl)) (fun _ _ _ h => h) (Or.inl ⟨by rfl, ?_⟩) ?_ ?_
              rotate_left
              · intro w'
                go_simp
                with_reducible rfl
              rotate_left
              · simp only [Act.put, List.setIfInBounds_toArray, List.set_cons_zero, List.set_cons_succ, i64_w, i32_w]
                rfl
              refine pure_ (i := 20) (N := some 113) (v := ?_) (a' := ?_) #[true, true, true, true, true, true, true, true, true, true, true, true, true, true, true, true, true, true, true, true, true, false, false, false, false, false, false, false, false, false, false] rfl rfl (any_of HT_.out (by kernel_rfl)) (fun _ _ _ h => h) (Or.inl ⟨by rfl, ?_⟩) ?_ ?_
              rotate_left
              · intro w'
                go_simp
                with_reducible rfl
              rotate_left
              · simp only [Act.put, List.setIfInBounds_toArray, List.set_cons_zero, List.set_cons_succ, i64_w, i32_w]
                rfl
              refine pure_ (i := 21) (N := some 114) (v := ?_) (a' := ?_) #[true, true, true, true, true, true, true, true, true, true, true, true, true, true, true, true, true, true, true, true, true, true, false, false, false, false, false, false, false, false, false] rfl rfl (any_of HT_.out (by kernel_rfl)) (fun _ _ _ h => h) (Or.inl ⟨by rfl, ?_⟩) ?_ ?_
              rotate_left
              · intro w'
                go_simp
                with_reducible rfl
              rotate_left
              · simp only [Act.put, List.setIfInBounds_toArray, List.set_cons_zero, List.set_cons_succ, i64_w, i32_w]
                rfl
              refine pure_ (i := 22) (N := some 115) (v := ?_) (a' := ?_) #[true, true, true, true, true, true, true, true, true, true, true, true, true, true, true, true, true, true, true, true, true, true, true, false, false, false, false, false, false, false, false] rfl rfl (any_of HT_.out (by kernel_rfl)) (fun _ _ _ h => h) (Or.inl ⟨by rfl, ?_⟩) ?_ ?_
              rotate_left
              · intro w'
                go_simp
                with_reducible rfl
              rotate_left
              · simp only [Act.put, List.setIfInBounds_toArray, List.set_cons_zero, List.set_cons_succ, i64_w, i32_w]
                rfl
              refine pure_ (i := 24) (N := some 117) (v := ?_) (a' := ?_) #[true, true, true, true, true, true, true, true, true, true, true, true, true, true, true, true, true, true, true, true, true, true, true, false, true, false, false, false, false, false, false] rfl rfl (any_of HT_.out (by kernel_rfl)) (fun _ _ _ h => h) (Or.inl ⟨by rfl, ?_⟩) ?_ ?_
              rotate_left
              · intro w'
                go_simp
                with_reducible rfl
              rotate_left
              · simp only [Act.put, List.setIfInBounds_toArray, List.set_cons_zero, List.set_cons_succ, i64_w, i32_w]
                rfl
              refine pure_ (i := 25) (N := some 118) (v := ?_) (a' := ?_) #[true, true, true, true, true, true, true, true, true, true, true, true, true, true, true, true, true, true, true, true, true, true, true, false, true, true, false, false, false, false, false] rfl rfl (any_of HT_.out (by kernel_rfl)) (fun _ _ _ h => h) (Or.inl ⟨by rfl, ?_⟩) ?_ ?_
              rotate_left
              · intro w'
                go_simp
                with_reducible rfl
              rotate_left
              · simp only [Act.put, List.setIfInBounds_toArray, List.set_cons_zero, List.set_cons_succ, i64_w, i32_w]
                rfl
              refine pure_ (i := 26) (N := some 119) (v := ?_) (a' := ?_) #[true, true, true, true, true, true, true, true, true, true, true, true, true, true, true, true, true, true, true, true, true, true, true, false, true, true, true, false, false, false, false] rfl rfl (any_of HT_.out (by kernel_rfl)) (fun _ _ _ h => h) (Or.inl ⟨by rfl, ?_⟩) ?_ ?_
              rotate_left
              · intro w'
                go_simp
                with_reducible rfl
              rotate_left
              · simp only [Act.put, List.setIfInBounds_toArray, List.set_cons_zero, List.set_cons_succ, i64_w, i32_w]
                rfl
              refine pure_ (i := 27) (N := some 120) (v := ?_) (a' := ?_) #[true, true, true, true, true, true, true, true, true, true, true, true, true, true, true, true, true, true, true, true, true, true, true, false, true, true, true, true, false, false, false] rfl rfl (any_of HT_.out (by kernel_rfl)) (fun _ _ _ h => h) (Or.inl ⟨by rfl, ?_⟩) ?_ ?_
              rotate_left
              · intro w'
                go_simp
                with_reducible rfl
              rotate_left
              · simp only [Act.put, List.setIfInBounds_toArray, List.set_cons_zero, List.set_cons_succ, i64_w, i32_w]
                rfl
              refine one_ (i := 23) (N := some 116) #[true, true, true, true, true, true, true, true, true, true, true, true, true, true, true, true, true, true, true, true, true, true, true, true, true, true, true, true, false, false, false] rfl rfl (one_of HT_.out (by kernel_rfl)) (by decide) (fun K hK => ?_)
              refine goes_ Try.func22 (by kernel_rfl) rfl #[.pointer (some ⟨g, 0, none⟩)] (by rfl) rfl rfl (by (try simp only [List.map_toArray, List.map_cons, List.map_nil]); first | done | rfl) ?_
              refine (HKE2.out _ (K4.out.below (below_step (below_drew1 (Below.refl _ _)) HB5.out))).mono ?_
              rintro e w6 ⟨v6, rfl, hR6, hb6⟩
              obtain ⟨A6, n6, hv6⟩ := Kd.R_slice hR6
              rw [HRR.out] at hv6
              subst hv6
              have HB6 := Aside0.mk (below_step HB5.out hb6)
              have HR6 := Aside0.mk (Kd.R_reads' hR6)
              clear hR6 hb6
              refine ⟨_, rfl, ?_⟩
              refine hK.out _ _ trivial (fun hHeld => ?_)
              clear hK K
              refine norm_ (a' := ?_) ?_ ?_
              rotate_left
              · show Act.put _ (some 116) _ = _
                simp only [Act.put, List.setIfInBounds_toArray, List.set_cons_zero, List.set_cons_succ, i64_w, i32_w]
                rfl
              refine one_ (i := 28) (N := some 121) #[true, true, true, true, true, true, true, true, true, true, true, true, true, true, true, true, true, true, true, true, true, true, true, true, true, true, true, true, true, false, false] rfl rfl (one_of HT_.out (by kernel_rfl)) (by decide) (fun K hK => ?_)
              refine goes_ Try.func23 (by kernel_rfl) rfl #[.slice A6 r n6, .slice (if n5 = dl then A5 else A5.map (·.add dl)) r (n5 - dl)] (by rfl) rfl rfl (by (try simp only [List.map_toArray, List.map_cons, List.map_nil]); first | done | rfl) ?_
              refine (HSB.out w6 A6 n6 HR6.out.2.1 HR6.out.2.2 HB6.out).mono ?_
              rintro e w7 ⟨rfl, hb7⟩
              have HB7 := Aside0.mk (below_step HB6.out hb7)
              clear hb7
              refine ⟨_, rfl, ?_⟩
              refine hK.out _ _ trivial (fun hHeld => ?_)
              clear hK K
              refine norm_ (a' := ?_) ?_ ?_
              rotate_left
              · show Act.put _ (some 121) _ = _
                simp only [Act.put, List.setIfInBounds_toArray, List.set_cons_zero, List.set_cons_succ, i64_w, i32_w]
                rfl
              refine pure_ (i := 29) (N := some 122) (v := ?_) (a' := ?_) #[true, true, true, true, true, true, true, true, true, true, true, true, true, true, true, true, true, true, true, true, true, true, true, true, true, true, true, true, true, true, false] rfl rfl (any_of HT_.out (by kernel_rfl)) (fun _ _ _ h => h) (Or.inl ⟨by rfl, ?_⟩) ?_ ?_
              rotate_left
              · intro w'
                go_simp
                with_reducible rfl
              rotate_left
              · simp only [Act.put, List.setIfInBounds_toArray, List.set_cons_zero, List.set_cons_succ, i64_w, i32_w]
                rfl
              refine pure_ (i := 30) (N := some 123) (v := ?_) (a' := ?_) #[true, true, true, true, true, true, true, true, true, true, true, true, true, true, true, true, true, true, true, true, true, true, true, true, true, true, true, true, true, true, true] rfl rfl (any_of HT_.out (by kernel_rfl)) (fun _ _ _ h => h) (Or.inl ⟨by rfl, ?_⟩) ?_ ?_
              rotate_left
              · intro w'
                go_simp
                with_reducible rfl
              rotate_left
              · simp only [Act.put, List.setIfInBounds_toArray, List.set_cons_zero, List.set_cons_succ, i64_w, i32_w]
                rfl
              refine done_ (done_of HT_.out (by kernel_rfl)) ?_
              clear hHeld hwr
              go_wp2
              go_roundw
              case measure => simp [intOf]; omega
              case rel => exact ⟨k + 1, rest l2 0, by first | rfl | (congr 1; omega), ⟨K4.out.below (below_step (below_drew1 (Below.refl _ _)) HB7.out)⟩, HLR, HT2, ⟨below_step (below_drew1 B4.out) HB7.out⟩⟩
end Go.Proofs.Ytfflhppieogkbaa.Hp
