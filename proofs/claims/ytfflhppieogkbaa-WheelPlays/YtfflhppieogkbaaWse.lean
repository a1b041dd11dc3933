/-
  The walk of WheelSets. Conditions: none.
-/
import Derived.Test.YtfflhppieogkbaaLn
set_option linter.unusedVariables false
set_option linter.unusedSimpArgs false
set_option maxRecDepth 100000
namespace Go.Proofs.Ytfflhppieogkbaa.Hp
open Go Go.RowKit Go.Proofs.YtfflhppieogkbaaW.PrintWords Go.Proofs.YtfflhppieogkbaaW.PrintLast Go.Proofs.YtfflhppieogkbaaW.PrintMore Go.Proofs.Ytfflhppieogkbaa.Mp Go.Proofs.Ytfflhppieogkbaa.PA
theorem cut01 (x : Int) : hostlerref01_Cut.f x = some (cut x) := by
  unfold hostlerref01_Cut.f cut mn mx
  (repeat' split) <;> first | rfl | (congr 1; omega) | omega
theorem cut01_call (x : Int) (w : World) : Calls Try.prog 21 #[.int .i64 x] w fun e w' => e = .returned (.int .i64 (cut x)) ∧ Below w.heap.size w w' := (hostlerref01_Cut.calls x (cut x) w (cut01 x)).mono (by
  rintro e w' ⟨rfl, nd, rfl⟩
  exact ⟨rfl, by repeat (first | exact Below.refl _ _ | apply pw_below_drewN | apply below_drew1)⟩)
theorem cut_cut (x : Int) : cut (cut x) = cut x := by
  have := cut_range x
  generalize cut x = y at this ⊢
  unfold cut mn mx
  (repeat' split) <;> omega
theorem cut_id {x : Int} (h0 : 0 ≤ x) (h1 : x ≤ 1099511627776) : cut x = x := by
  unfold cut mn mx
  (repeat' split) <;> omega
/-- The k-th of the ticks that came in. -/
def nth (l : List Int) (i : Nat) : Int := l.getD i 0
theorem at_ints {w : World} {A : Option Addr} {n : Nat} {xs : List Int} (h : Kd.C kI w A n xs) {i : Nat} (h1 : i < n) : ∃ ad, A = some ad ∧ w.cell? (ad.add i) = some (.int .i64 (nth xs i)) := by
  obtain ⟨ad, c, e, hl, hK, hc⟩ := Kd.C_get h 0 (i : Int) (by omega) (by omega)
  refine ⟨ad, e, ?_⟩
  have hc0 := hc 0 (.int .i64 (nth xs i)) (by
    have hK' : c = [.int .i64 (xs.getD i 0)] := hK
    rw [hK']; rfl)
  have e1 : (i : Int).toNat * kI.sz + 0 = i := by show (i : Int).toNat * 1 + 0 = i; omega
  rwa [e1] at hc0
/-- The state behind the i-th Set of one key. -/
def stA (key : Int) (l : List Int) : Nat → WS
  | 0 => ⟨[], 0⟩
  | j + 1 => ⟨[(key, cut (nth l j))], j + 1⟩
theorem stA_put (key : Int) (l : List Int) (i : Nat) : (⟨put (stA key l i).ats key (cut (nth l i)), (stA key l i).m + 1⟩ : WS) = stA key l (i + 1) := by
  cases i with
  | zero => rfl
  | succ j =>
    show (⟨put [(key, cut (nth l j))] key (cut (nth l (j + 1))), j + 1 + 1⟩ : WS) = ⟨[(key, cut (nth l (j + 1)))], j + 1 + 1⟩
    unfold put rem
    simp [insP]
theorem stA_had (key : Int) (l : List Int) (i : Nat) : (Mp.look (stA key l i).ats key).isSome = decide (0 < i) := by
  cases i with
  | zero => rfl
  | succ j => simp [stA, Mp.look]
theorem stA_m (key : Int) (l : List Int) (i : Nat) : (stA key l i).m = i := by cases i <;> rfl
theorem stA_len (key : Int) (l : List Int) (i : Nat) : (stA key l i).ats.length ≤ 1 := by cases i <;> simp [stA]
variable {w0 W : World} {g : Nat}
theorem sets_facts {key : Int} {l : List Int} {j : Nat} (hk : I64 key) (hj : j < 100) (hI : IsW w0 W g (stA key l (j + 1))) (hB : Below w0.heap.size w0 W) :
    (Calls Try.prog 19 #[.pointer (some ⟨g, 0, none⟩), .int .i64 key] W fun e w' => e = .returned (.tuple #[.int .i64 (cut (nth l j)), .bool true]) ∧ W = w') ∧
    (Calls Try.prog 20 #[.pointer (some ⟨g, 0, none⟩)] W fun e w' => e = .returned (.tuple #[.int .i64 (cut (nth l j)), .bool true]) ∧ IsW w0 w' g (stA key l (j + 1)) ∧ Kp g W w') := by
  constructor
  · have := at_raw key hk hI
    simpa [stA, code, Mp.look] using this
  · refine (next_any hI hB (by rw [stA_m]; omega)).mono ?_
    rintro e w' ⟨hn, h1, h2⟩
    refine ⟨?_, h1, h2⟩
    rcases hn with ⟨h, _⟩ | ⟨p, hp, rfl, _⟩
    · simp [stA] at h
    · have : p = (key, cut (nth l j)) := by simpa [stA] using hp
      rw [this]
theorem sets_len {key : Int} {l : List Int} {j : Nat} (hI : IsW w0 W g (stA key l (j + 1))) : Calls Try.prog 18 #[.pointer (some ⟨g, 0, none⟩)] W fun e w' => e = .returned (.int .i64 1) ∧ W = w' := len_any hI
theorem due_ahead {key y : Int} (h0 : 0 < y) (h1 : y ≤ 1099511627776) : due [(key, y)] (y - 1) = [] ∧ rest [(key, y)] (y - 1) = [(key, y)] := by
  have : past (y - 1) y = false := by
    unfold past
    rw [cut_id (by omega) h1, cut_id (by omega) (by omega)]
    exact decide_eq_false (by omega)
  simp [due, rest, this]
theorem due_at (key y : Int) : due [(key, y)] y = [key] ∧ rest [(key, y)] y = [] := by
  have : past y y = true := by
    unfold past
    exact decide_eq_true (Int.le_refl _)
  simp [due, rest, this]
theorem row_nil_len {W : World} {base : Nat} {ok : Nat → Prop} {v : Value} (h : kI.R 3 W base ok v []) : ∃ A n, v = .slice A 0 n := Kd.R_slice h
set_option maxHeartbeats 8000000 in
theorem sets_calls (key : Int) (A0 : Option Addr) (c0 : Nat) (l0 : List Int) (w : World) (hkw : (Lit.int .i64 key).wf = true) (hr0 : Kd.C kI w A0 l0.length l0) (hc0 : l0.length ≤ c0) (hw0 : ∀ x ∈ l0, (Lit.int .i64 x).wf = true) :
    Calls Try.prog 5 #[.int .i64 key, .slice A0 l0.length c0] w fun e w' => e = .returned (.bool true) ∧ Below w.heap.size w w' := by
  obtain ⟨ne, hne⟩ : ∃ ne, l0.length = ne := ⟨_, rfl⟩
  rw [hne] at hr0 hc0 ⊢
  have hk : I64 key := hkw
  have HL := Aside0.mk (lives_raw w)
  have HR := Aside0.mk hr0
  have HN := Aside0.mk (fun (W : World) (h : Below w.heap.size w W) => new_raw w W h)
  have HK := Aside0.mk hk
  have HCA : Aside0 (∀ (g : Nat) (W : World), IsW w W g ⟨[], 0⟩ → Calls Try.prog 16 #[.pointer (some ⟨g, 0, none⟩), .int .i64 key] W fun e w' => e = .returned (.bool false) ∧ IsW w w' g (stA key l0 0) ∧ Kp g W w') := ⟨fun g W hI => cancel_any key hk hI⟩
  have HNE := Aside0.mk hne
  clear hr0 hkw hk hw0 hne
  go_enter Try.func5, Try.ntmps5
  go_upto_region 6 with (first
    | (go_at_call 9; refine HL.out.mono ?_; rintro e wa ⟨rfl, hb⟩; have BA := Aside0.mk hb; clear hb)
    | (go_at_call 14; refine (HN.out wa BA.out).mono ?_; rintro e wb ⟨g, rfl, hi, hb, _⟩; have KB := Aside0.mk hi; have BB := Aside0.mk (below_step BA.out hb); clear hi hb)
    | (go_at_call 16; refine (HCA.out g wb KB.out).mono ?_; rintro e wc ⟨rfl, hi, hk⟩; have KC := Aside0.mk hi; have BC := Aside0.mk (hk.below BB.out KB.out); clear hi hk))
  go_upto_block 0 with fail
  go_wp2
  go_loopw [6] (fun v6 wr => ∃ i : Nat, v6 = .int .i64 (i : Int) ∧ i ≤ ne ∧ i ≤ 20 ∧ Aside0 (IsW w wr g (stA key l0 i)) ∧ Aside0 (Below w.heap.size w wr)) (fun v6 _ => 20 - (intOf v6).toNat)
  case atStart => exact ⟨0, rfl, Nat.zero_le _, Nat.zero_le _, KC, BC⟩
  case round =>
    obtain ⟨i, rfl, hi, hi2, HI, HB⟩ := hrel
    by_cases hgo : i < ne ∧ i < 20
    · obtain ⟨hlt, hlt2⟩ := hgo
      have hd1 : decide ((i : Int) < (ne : Int)) = true := decide_eq_true (by omega)
      have hd2 : decide ((i : Int) < 20) = true := decide_eq_true (by omega)
      obtain ⟨ad, rfl, hcell⟩ := at_ints HR.out hlt
      have HCX : Aside0 (∀ W, Below w.heap.size w W → W.cell? (ad.add i) = some (.int .i64 (nth l0 i))) := ⟨fun W hb => (hb.cell (World.block_lt_of_cell? w _ hcell)).trans hcell⟩
      obtain ⟨x, hx⟩ : ∃ x, nth l0 i = x := ⟨_, rfl⟩
      obtain ⟨y, hy⟩ : ∃ y, cut x = y := ⟨_, rfl⟩
      obtain ⟨q, hq⟩ : ∃ q, decide (0 < (i : Int)) = q := ⟨_, rfl⟩
      have hq2 : decide (0 < i) = q := by rw [← hq]; exact decide_eq_decide.2 (by omega)
      have HSET : Aside0 (Calls Try.prog 15 #[.pointer (some ⟨g, 0, none⟩), .int .i64 key, .int .i64 x] wr fun e w' => e = .returned (.bool q) ∧ IsW w w' g (stA key l0 (i + 1)) ∧ Kp g wr w') := ⟨by
        have := set_any key x HK.out HI.out HB.out (by rw [stA_m]; omega) (by have := stA_len key l0 i; omega)
        rw [← hx, stA_put, stA_had, show decide (0 < i) = q by rw [← hq]; exact decide_eq_decide.2 (by omega)] at this
        rw [← hx]
        exact this⟩
      have HAT : Aside0 (∀ W, Below w.heap.size w W → IsW w W g (stA key l0 (i + 1)) → (Calls Try.prog 19 #[.pointer (some ⟨g, 0, none⟩), .int .i64 key] W fun e w' => e = .returned (.tuple #[.int .i64 y, .bool true]) ∧ W = w')) := ⟨fun W hb hi => by
        have := (sets_facts HK.out (by omega) hi hb).1
        rwa [hx, hy] at this⟩
      have HNX : Aside0 (∀ W, Below w.heap.size w W → IsW w W g (stA key l0 (i + 1)) → (Calls Try.prog 20 #[.pointer (some ⟨g, 0, none⟩)] W fun e w' => e = .returned (.tuple #[.int .i64 y, .bool true]) ∧ IsW w w' g (stA key l0 (i + 1)) ∧ Kp g W w')) := ⟨fun W hb hi => by
        have := (sets_facts HK.out (by omega) hi hb).2
        rwa [hx, hy] at this⟩
      have HCU : Aside0 (∀ W, Calls Try.prog 21 #[.int .i64 x] W fun e w' => e = .returned (.int .i64 y) ∧ Below W.heap.size W w') := ⟨fun W => by rw [← hy]; exact cut01_call x W⟩
      rw [hx] at HCX
      have hc0 := HCX.out wr HB.out
      clear hcell hx hy
      go_wp2_with (first
        | (go_at_call 15; refine HSET.out.mono ?_; rintro e w1 ⟨rfl, hi, hk⟩; have K1 := Aside0.mk hi; have B1 := Aside0.mk (hk.below HB.out HI.out); clear hi hk)
        | (go_at_call 19; refine (HAT.out w1 B1.out K1.out).mono ?_; rintro e w2 ⟨rfl, rfl⟩)
        | (go_at_call 20; refine (HNX.out w1 B1.out K1.out).mono ?_; rintro e w3 ⟨rfl, hi, hk⟩; have K3 := Aside0.mk hi; have B3 := Aside0.mk (hk.below B1.out K1.out); have hc3 := HCX.out w3 B3.out; clear hi hk)
        | (go_at_call 21; refine (HCU.out w3).mono ?_; rintro e w4 ⟨rfl, hb⟩; have B4 := Aside0.mk (below_step B3.out hb); have K4 := Aside0.mk (K3.out.below hb); clear hb)
        | (go_at_call 18; refine (sets_len K4.out).mono ?_; rintro e w5 ⟨rfl, rfl⟩))
      go_roundw
      case measure => simp [intOf]; omega
      case rel => exact ⟨i + 1, by first | rfl | (congr 1; omega), by omega, by omega, K4, B4⟩
    · have hie : (i = ne ∧ i ≤ 20) ∨ (i = 20 ∧ 20 < ne) := by omega
      clear hgo
      have HNR := Aside0.mk HR.out
      rcases Nat.eq_zero_or_pos i with h0 | hp
      · subst h0
        have hz : ne = 0 := by omega
        subst hz
        have HLE : Aside0 (Calls Try.prog 18 #[.pointer (some ⟨g, 0, none⟩)] wr fun e w' => e = .returned (.int .i64 0) ∧ wr = w') := ⟨len_any HI.out⟩
        clear hi hi2 hie
        go_wp2_with (go_at_call 18; refine HLE.out.mono ?_; rintro e w2 ⟨rfl, rfl⟩)
        go_ret
        exact ⟨rfl, HB.out⟩
      · obtain ⟨y, hst, hy1, hy2, HATX⟩ : ∃ y : Int, stA key l0 i = ⟨[(key, y)], i⟩ ∧ 0 ≤ y ∧ y ≤ 1099511627776 ∧ Aside0 (∀ W, Below w.heap.size w W → IsW w W g (stA key l0 i) → (Calls Try.prog 19 #[.pointer (some ⟨g, 0, none⟩), .int .i64 key] W fun e w' => e = .returned (.tuple #[.int .i64 y, .bool true]) ∧ W = w')) := by
          obtain ⟨j, rfl⟩ : ∃ j, i = j + 1 := ⟨i - 1, by omega⟩
          exact ⟨cut (nth l0 j), rfl, (cut_range _).1, (cut_range _).2, ⟨fun W hb hi => (sets_facts HK.out (by omega) hi hb).1⟩⟩
        rw [hst] at HATX
        have hi90 : i ≤ 90000 := by omega
        have K0 : Aside0 (IsW w wr g ⟨[(key, y)], i⟩) := ⟨by rw [← hst]; exact HI.out⟩
        have B0 := Aside0.mk HB.out
        have HAT := HATX
        have HD1 : Aside0 (0 < y → ∀ W, Below w.heap.size w W → IsW w W g ⟨[(key, y)], i⟩ → (Calls Try.prog 17 #[.pointer (some ⟨g, 0, none⟩), .int .i64 (y - 1)] W fun e w' => ∃ v : Value, e = .returned v ∧ kI.R 3 w' W.heap.size (fun k => ¬ Own w' g k) v [] ∧ IsW w w' g ⟨[(key, y)], i⟩ ∧ Kp g W w')) := ⟨fun h0 W hb hi => by
          have := due_any (y - 1) hi hb hi90
          rwa [show (⟨[(key, y)], i⟩ : WS).ats = [(key, y)] from rfl, (due_ahead h0 hy2).1, (due_ahead h0 hy2).2] at this⟩
        have HD2 : Aside0 (∀ W, Below w.heap.size w W → IsW w W g ⟨[(key, y)], i⟩ → (Calls Try.prog 17 #[.pointer (some ⟨g, 0, none⟩), .int .i64 y] W fun e w' => ∃ v : Value, e = .returned v ∧ kI.R 3 w' W.heap.size (fun k => ¬ Own w' g k) v [key] ∧ IsW w w' g ⟨[], i⟩ ∧ Kp g W w')) := ⟨fun W hb hi => by
          have := due_any y hi hb hi90
          rwa [show (⟨[(key, y)], i⟩ : WS).ats = [(key, y)] from rfl, (due_at key y).1, (due_at key y).2] at this⟩
        have HD3 : Aside0 (∀ W, Below w.heap.size w W → IsW w W g ⟨[], i⟩ → (Calls Try.prog 17 #[.pointer (some ⟨g, 0, none⟩), .int .i64 1099511627776] W fun e w' => ∃ v : Value, e = .returned v ∧ kI.R 3 w' W.heap.size (fun k => ¬ Own w' g k) v [] ∧ IsW w w' g ⟨[], i⟩ ∧ Kp g W w')) := ⟨fun W hb hi => due_any 1099511627776 hi hb hi90⟩
        have HLE : Aside0 (∀ W, IsW w W g ⟨[], i⟩ → Calls Try.prog 18 #[.pointer (some ⟨g, 0, none⟩)] W fun e w' => e = .returned (.int .i64 0) ∧ W = w') := ⟨fun W hi => len_any hi⟩
        clear hst
        have hne0 : decide ((ne : Int) = 0) = false := decide_eq_false (by omega)
        have hne1 : ((ne : Int) == 0) = false := by rw [beq_eq_false_iff_ne]; omega
        have hne2 : decide (ne = 0) = false := decide_eq_false (by omega)
        have hne3 : (ne == 0) = false := by rw [beq_eq_false_iff_ne]; omega
        by_cases hlt : i < ne
        · have hd1 : decide ((i : Int) < (ne : Int)) = true := decide_eq_true (by omega)
          have hd1n : decide (i < ne) = true := decide_eq_true hlt
          have hd2n : decide (i < 20) = false := decide_eq_false (by omega)
          have hd2 : decide ((i : Int) < 20) = false := decide_eq_false (by omega)
          by_cases hyp : 0 < y
          · have hyd : decide (0 < y) = true := decide_eq_true hyp
            replace HD1 := Aside0.mk (HD1.out hyp)
            clear hi hi2 hie hlt hyp hp HATX
            go_wp2_with (first
              | (go_at_call 19; (with_reducible refine (HAT.out _ B0.out K0.out).mono ?_); rintro e w2 ⟨rfl, rfl⟩)
              | (go_at_call 17; (with_reducible refine (HD1.out _ B0.out K0.out).mono ?_); rintro e wd ⟨v, rfl, hr, hi, hk⟩; have KD := Aside0.mk hi; have BD := Aside0.mk (hk.below B0.out K0.out); obtain ⟨A1, n1, rfl⟩ := row_nil_len hr; clear hr hi hk)
              | (go_at_call 17; (with_reducible refine (HD2.out _ BD.out KD.out).mono ?_); rintro e we ⟨v, rfl, hr, hi, hk⟩; have KE := Aside0.mk hi; have BE := Aside0.mk (hk.below BD.out KD.out); obtain ⟨b2, n2, rfl, _, _, hc2⟩ := ints_some hr Nat.zero_lt_one; have hc20 : we.cell? ⟨b2, 0, none⟩ = some (.int .i64 key) := hc2 0 Nat.zero_lt_one; clear hr hi hk hc2)
              | (go_at_call 17; (with_reducible refine (HD3.out _ BE.out KE.out).mono ?_); rintro e wf ⟨v, rfl, hr, hi, hk⟩; have KF := Aside0.mk hi; have BF := Aside0.mk (hk.below BE.out KE.out); obtain ⟨A3, n3, rfl⟩ := row_nil_len hr; clear hr hi hk)
              | (go_at_call 18; (with_reducible refine (HLE.out _ KF.out).mono ?_); rintro e w2 ⟨rfl, rfl⟩))
            go_ret
            exact ⟨rfl, BF.out⟩
          · have hyz : y = 0 := by omega
            subst hyz
            clear HD1 hyp hi hi2 hie hlt hp HATX
            go_wp2_with (first
              | (go_at_call 19; (with_reducible refine (HAT.out _ B0.out K0.out).mono ?_); rintro e w2 ⟨rfl, rfl⟩)
              | (go_at_call 17; (with_reducible refine (HD2.out _ B0.out K0.out).mono ?_); rintro e we ⟨v, rfl, hr, hi, hk⟩; have KE := Aside0.mk hi; have BE := Aside0.mk (hk.below B0.out K0.out); obtain ⟨b2, n2, rfl, _, _, hc2⟩ := ints_some hr Nat.zero_lt_one; have hc20 : we.cell? ⟨b2, 0, none⟩ = some (.int .i64 key) := hc2 0 Nat.zero_lt_one; clear hr hi hk hc2)
              | (go_at_call 17; (with_reducible refine (HD3.out _ BE.out KE.out).mono ?_); rintro e wf ⟨v, rfl, hr, hi, hk⟩; have KF := Aside0.mk hi; have BF := Aside0.mk (hk.below BE.out KE.out); obtain ⟨A3, n3, rfl⟩ := row_nil_len hr; clear hr hi hk)
              | (go_at_call 18; (with_reducible refine (HLE.out _ KF.out).mono ?_); rintro e w2 ⟨rfl, rfl⟩))
            go_ret
            exact ⟨rfl, BF.out⟩
        · have hd1 : decide ((i : Int) < (ne : Int)) = false := decide_eq_false (by omega)
          have hd1n : decide (i < ne) = false := decide_eq_false hlt
          by_cases hyp : 0 < y
          · have hyd : decide (0 < y) = true := decide_eq_true hyp
            replace HD1 := Aside0.mk (HD1.out hyp)
            clear hi hi2 hie hlt hyp hp HATX
            go_wp2_with (first
              | (go_at_call 19; (with_reducible refine (HAT.out _ B0.out K0.out).mono ?_); rintro e w2 ⟨rfl, rfl⟩)
              | (go_at_call 17; (with_reducible refine (HD1.out _ B0.out K0.out).mono ?_); rintro e wd ⟨v, rfl, hr, hi, hk⟩; have KD := Aside0.mk hi; have BD := Aside0.mk (hk.below B0.out K0.out); obtain ⟨A1, n1, rfl⟩ := row_nil_len hr; clear hr hi hk)
              | (go_at_call 17; (with_reducible refine (HD2.out _ BD.out KD.out).mono ?_); rintro e we ⟨v, rfl, hr, hi, hk⟩; have KE := Aside0.mk hi; have BE := Aside0.mk (hk.below BD.out KD.out); obtain ⟨b2, n2, rfl, _, _, hc2⟩ := ints_some hr Nat.zero_lt_one; have hc20 : we.cell? ⟨b2, 0, none⟩ = some (.int .i64 key) := hc2 0 Nat.zero_lt_one; clear hr hi hk hc2)
              | (go_at_call 17; (with_reducible refine (HD3.out _ BE.out KE.out).mono ?_); rintro e wf ⟨v, rfl, hr, hi, hk⟩; have KF := Aside0.mk hi; have BF := Aside0.mk (hk.below BE.out KE.out); obtain ⟨A3, n3, rfl⟩ := row_nil_len hr; clear hr hi hk)
              | (go_at_call 18; (with_reducible refine (HLE.out _ KF.out).mono ?_); rintro e w2 ⟨rfl, rfl⟩))
            go_ret
            exact ⟨rfl, BF.out⟩
          · have hyz : y = 0 := by omega
            subst hyz
            clear HD1 hyp hi hi2 hie hlt hp HATX
            go_wp2_with (first
              | (go_at_call 19; (with_reducible refine (HAT.out _ B0.out K0.out).mono ?_); rintro e w2 ⟨rfl, rfl⟩)
              | (go_at_call 17; (with_reducible refine (HD2.out _ B0.out K0.out).mono ?_); rintro e we ⟨v, rfl, hr, hi, hk⟩; have KE := Aside0.mk hi; have BE := Aside0.mk (hk.below B0.out K0.out); obtain ⟨b2, n2, rfl, _, _, hc2⟩ := ints_some hr Nat.zero_lt_one; have hc20 : we.cell? ⟨b2, 0, none⟩ = some (.int .i64 key) := hc2 0 Nat.zero_lt_one; clear hr hi hk hc2)
              | (go_at_call 17; (with_reducible refine (HD3.out _ BE.out KE.out).mono ?_); rintro e wf ⟨v, rfl, hr, hi, hk⟩; have KF := Aside0.mk hi; have BF := Aside0.mk (hk.below BE.out KE.out); obtain ⟨A3, n3, rfl⟩ := row_nil_len hr; clear hr hi hk)
              | (go_at_call 18; (with_reducible refine (HLE.out _ KF.out).mono ?_); rintro e w2 ⟨rfl, rfl⟩))
            go_ret
            exact ⟨rfl, BF.out⟩
end Go.Proofs.Ytfflhppieogkbaa.Hp
