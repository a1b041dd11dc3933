/-
  The laws' example over the wheel; a wheel that isn't there. Conditions: none.
-/
import Derived.Test.YtfflhppieogkbaaDu
set_option linter.unusedVariables false
set_option linter.unusedSimpArgs false
set_option maxRecDepth 100000
namespace Go.Proofs.Ytfflhppieogkbaa.Hp
open Go Go.RowKit Go.Proofs.YtfflhppieogkbaaW.PrintWords Go.Proofs.YtfflhppieogkbaaW.PrintLast Go.Proofs.YtfflhppieogkbaaW.PrintMore Go.Proofs.Ytfflhppieogkbaa.Mp Go.Proofs.Ytfflhppieogkbaa.PA
theorem ints_some {W : World} {base : Nat} {ok : Nat → Prop} {v : Value} {xs : List Int} (h : kI.R 3 W base ok v xs) (hne : 0 < xs.length) : ∃ b n, v = .slice (some ⟨b, 0, none⟩) xs.length n ∧ base ≤ b ∧ xs.length ≤ n ∧ ∀ j (hj : j < xs.length), W.cell? ⟨b, j, none⟩ = some (.int .i64 xs[j]) := by
  have hown : W.ownsRow base 3 1 v xs.length (encs (Value.int .i64) xs) := Kd.own_of_R h
  rcases hown.2 with ⟨_, h0⟩ | ⟨b, cap, cur, rfl, hb, hh, h1, _, h3, h4⟩
  · omega
  · refine ⟨b, cap, rfl, hb, h1, fun j hj => ?_⟩
    have h5 : (cur.toList.take (xs.length * 1))[j]? = (encs (Value.int .i64) xs)[j]? := by rw [h4]
    rw [List.getElem?_take_of_lt (by omega), Array.getElem?_toList] at h5
    simp only [encs, List.getElem?_map, List.getElem?_eq_getElem hj, Option.map_some] at h5
    simp only [World.cell?, hh]
    exact h5
def kindF (k : Int) : Int := wrap64 (Int.tdiv (mx k 0) 4294967296)
section
attribute [local go_sem] max2_int min2_int max_two min_two
theorem kind_call (k : Int) (w : World) : Calls Try.prog 12 #[.int .i64 k] w fun e w' => e = .returned (.int .i64 (kindF k)) ∧ w = w' := by
  unfold kindF
  obtain ⟨j, hj⟩ : ∃ j : Int, mx k 0 = j := ⟨_, rfl⟩
  have hj_ : (if k < 0 then 0 else k) = j := hj
  rw [hj]
  clear hj
  go_enter Try.func12, Try.ntmps12
  go_wp2
  go_ret
  exact ⟨rfl, rfl⟩
end
theorem mx0 {k : Int} (h : 0 ≤ k) : mx k 0 = k := by unfold mx; rw [if_neg (by omega)]
theorem kindF_eq {k : Int} (h0 : 0 ≤ k) (h1 : k ≤ 9223372036854775807) : kindF k = k / 4294967296 := by
  unfold kindF
  rw [mx0 h0, Int.tdiv_eq_ediv_of_nonneg h0, IntWalk.wrap64_in _ (by omega)]
theorem i3 : I64 3 := show (Lit.int .i64 3).wf = true by decide
theorem i7 : I64 7 := show (Lit.int .i64 7).wf = true by decide
def l0 : WS := ⟨[], 0⟩
def l1 : WS := ⟨[(7, 10)], 1⟩
def l2 : WS := ⟨[(3, 10), (7, 10)], 2⟩
def l4 : WS := ⟨[], 2⟩
set_option maxHeartbeats 4000000 in
theorem lives_raw (w : World) : Calls Try.prog 9 #[] w fun e w' => e = .returned (.bool true) ∧ Below w.heap.size w w' := by
  have HN := Aside0.mk (new_raw w w (Below.refl _ _))
  have H1 : Aside0 (∀ (g : Nat) (W : World) (hI : IsW w W g l0) (hB : Below w.heap.size w W), Calls Try.prog 15 #[.pointer (some ⟨g, 0, none⟩), .int .i64 7, .int .i64 10] W fun e w' => e = .returned (.bool false) ∧ IsW w w' g l1 ∧ Kp g W w') := Aside0.mk (fun (g : Nat) (W : World) (hI : IsW w W g l0) (hB : Below w.heap.size w W) => set_any 7 10 i7 hI hB (by decide) (by decide))
  have H2 : Aside0 (∀ (g : Nat) (W : World) (hI : IsW w W g l1) (hB : Below w.heap.size w W), Calls Try.prog 15 #[.pointer (some ⟨g, 0, none⟩), .int .i64 3, .int .i64 10] W fun e w' => e = .returned (.bool false) ∧ IsW w w' g l2 ∧ Kp g W w') := Aside0.mk (fun (g : Nat) (W : World) (hI : IsW w W g l1) (hB : Below w.heap.size w W) => set_any 3 10 i3 hI hB (by decide) (by decide))
  have H3 : Aside0 (∀ (g : Nat) (W : World) (hI : IsW w W g l2) (hB : Below w.heap.size w W), Calls Try.prog 17 #[.pointer (some ⟨g, 0, none⟩), .int .i64 9] W fun e w' => ∃ v : Value, e = .returned v ∧ kI.R 3 w' W.heap.size (fun k => ¬ Own w' g k) v [] ∧ IsW w w' g l2 ∧ Kp g W w') := Aside0.mk (fun (g : Nat) (W : World) (hI : IsW w W g l2) (hB : Below w.heap.size w W) => due_any 9 hI hB (by decide))
  have H4 : Aside0 (∀ (g : Nat) (W : World) (hI : IsW w W g l2) (hB : Below w.heap.size w W), Calls Try.prog 17 #[.pointer (some ⟨g, 0, none⟩), .int .i64 12] W fun e w' => ∃ v : Value, e = .returned v ∧ kI.R 3 w' W.heap.size (fun k => ¬ Own w' g k) v [3, 7] ∧ IsW w w' g l4 ∧ Kp g W w') := Aside0.mk (fun (g : Nat) (W : World) (hI : IsW w W g l2) (hB : Below w.heap.size w W) => due_any 12 hI hB (by decide))
  have H5 : Aside0 (∀ (g : Nat) (W : World) (hI : IsW w W g l4), Calls Try.prog 18 #[.pointer (some ⟨g, 0, none⟩)] W fun e w' => e = .returned (.int .i64 0) ∧ W = w') := Aside0.mk (fun (g : Nat) (W : World) (hI : IsW w W g l4) => len_any hI)
  have H6 : Aside0 (∀ W : World, Calls Try.prog 10 #[.int .i64 2, .int .i64 5] W fun e w' => e = .returned (.int .i64 8589934597) ∧ Below W.heap.size W w') := Aside0.mk (fun W => wheel_Key.calls 2 5 8589934597 W rfl)
  have H7 : Aside0 (∀ W : World, Calls Try.prog 12 #[.int .i64 8589934597] W fun e w' => e = .returned (.int .i64 2) ∧ W = w') := Aside0.mk (fun W => by have := kind_call 8589934597 W; rwa [show kindF 8589934597 = 2 by rw [kindF_eq (by decide) (by decide)]; decide] at this)
  go_enter Try.func9, Try.ntmps9
  go_wp2_with (first
    | (go_at_call 14; refine HN.out.mono ?_; rintro e wa ⟨g, rfl, hi, hb, _⟩; have KA := Aside0.mk hi; have BA := Aside0.mk hb; clear hi hb HN)
    | (go_at_call 15; refine (H1.out g wa KA.out BA.out).mono ?_; rintro e wb ⟨rfl, hi, hk⟩; have KB := Aside0.mk hi; have BB := Aside0.mk (hk.below BA.out KA.out); clear hi hk H1 KA BA)
    | (go_at_call 15; refine (H2.out g wb KB.out BB.out).mono ?_; rintro e wc ⟨rfl, hi, hk⟩; have KC := Aside0.mk hi; have BC := Aside0.mk (hk.below BB.out KB.out); clear hi hk H2 KB BB)
    | (go_at_call 17; refine (H3.out g wc KC.out BC.out).mono ?_; rintro e wd ⟨v3, rfl, hr, hi, hk⟩; have KD := Aside0.mk hi; have BD := Aside0.mk (hk.below BC.out KC.out); obtain ⟨A3, n3, rfl⟩ := Kd.R_slice hr; clear hi hk H3 KC BC hr)
    | (go_at_call 17; refine (H4.out g wd KD.out BD.out).mono ?_; rintro e we ⟨v4, rfl, hr, hi, hk⟩; have KE := Aside0.mk hi; have BE := Aside0.mk (hk.below BD.out KD.out); obtain ⟨b4, n4, rfl, _, _, hc4⟩ := ints_some hr (by decide); have hc40 : we.cell? ⟨b4, 0, none⟩ = some (.int .i64 3) := hc4 0 (by decide); have hc41 : we.cell? ⟨b4, 1, none⟩ = some (.int .i64 7) := hc4 1 (by decide); clear hc4; clear hi hk H4 KD BD hr)
    | (go_at_call 18; refine (H5.out g we KE.out).mono ?_; rintro e wf ⟨rfl, rfl⟩)
    | (go_at_call 10; refine (H6.out we).mono ?_; rintro e wh ⟨rfl, hb⟩; have BH := Aside0.mk (below_step BE.out hb); clear hb)
    | (go_at_call 12; refine (H7.out _).mono ?_; rintro e wi ⟨rfl, rfl⟩))
  go_ret
  exact ⟨rfl, BH.out⟩
theorem due_nil (now : Int) (w : World) : Calls Try.prog 17 #[.pointer none, .int .i64 now] w fun e w' => e = .returned (.slice none 0 0) ∧ Below w.heap.size w w' := by
  go_enter Try.func17, Try.ntmps17
  go_wp2
  refine wp_loop_once ?_
  go_wp2_with (first
    | (go_at_call 33; (with_reducible refine (first_nil _).mono ?_); rintro e w1 ⟨rfl, hb1⟩; have HB1 := Aside0.mk hb1; clear hb1)
    | (go_at_call 35; (with_reducible refine (sort_row (ok := fun _ => True) (base := 0) (xs := []) (Kd.R_nil _ _ _ _ _) (by decide)).mono ?_); rintro e w2 ⟨rfl, _, hg2⟩; have HB2 := Aside0.mk ((below_alloc HB1.out (.cells #[.int .i64 0, .int .i64 0] 66)).trans (show Below _ _ w2 from ⟨hg2.os, hg2.tape, hg2.output, hg2.size, fun k hk => hg2.block k (Nat.lt_of_lt_of_le hk (below_alloc HB1.out (.cells #[.int .i64 0, .int .i64 0] 66)).size) (fun e => by simp [Value.ownBlock] at e)⟩)); clear hg2))
  go_ret
  exact ⟨rfl, HB2.out⟩
set_option maxHeartbeats 4000000 in
theorem nil_calls (key at_ : Int) (w : World) (hk : (Lit.int .i64 key).wf = true) (ha : (Lit.int .i64 at_).wf = true) : Calls Try.prog 8 #[.int .i64 key, .int .i64 at_] w fun e w' => e = .returned (.bool true) ∧ Below w.heap.size w w' := by
  have HL := Aside0.mk (lives_raw w)
  go_enter Try.func8, Try.ntmps8
  go_wp2_with (first
    | (go_at_call 9; refine HL.out.mono ?_; rintro e wa ⟨rfl, hb⟩; have BA := Aside0.mk hb; clear hb HL)
    | (go_at_call 19; refine (at_nil key _).mono ?_; rintro e w' ⟨rfl, rfl⟩)
    | (go_at_call 20; refine (next_nil _).mono ?_; rintro e wb ⟨rfl, hb⟩; have BB := Aside0.mk (below_step BA.out hb); clear hb BA)
    | (go_at_call 15; refine (set_nil key at_ _).mono ?_; rintro e w' ⟨rfl, rfl⟩)
    | (go_at_call 16; refine (cancel_nil key _).mono ?_; rintro e w' ⟨rfl, rfl⟩)
    | (go_at_call 17; refine (due_nil at_ _).mono ?_; rintro e wc ⟨rfl, hb⟩; have BC := Aside0.mk (below_step BB.out hb); clear hb BB)
    | (go_at_call 18; refine (len_nil _).mono ?_; rintro e w' ⟨rfl, rfl⟩)
    | (go_at_call 22; refine (keys_nil _).mono ?_; rintro e wd ⟨rfl, hb⟩; have BD := Aside0.mk (below_step BC.out hb); clear hb BC))
  go_ret
  exact ⟨rfl, BD.out⟩
end Go.Proofs.Ytfflhppieogkbaa.Hp
