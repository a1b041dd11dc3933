/-
  The pure statement of ChoosePicks. Conditions: none.
-/
import Derived.Test.YthloffjgbgmpkaaPCx1
import Derived.Test.YthloffjgbgmpkaaPlainChoose
set_option linter.unusedVariables false
set_option linter.unusedSimpArgs false
namespace Go.Proofs.Ythloffjgbgmpkaa.Pure
open Go.RowKit Go.Proofs.Ythloffjgbgmpkaa.PA Go.Proofs.Ythloffjgbgmpkaa.Man Go.Proofs.Ythloffjgbgmpkaa.PC Go.Proofs.Ythloffjgbgmpkaa.Plain Go.Proofs.YthloffjgbgmpkaaW.PrintWords Go.Proofs.YthloffjgbgmpkaaW.PrintLast
theorem lives_at : hostlerlaw17_lives.f 30 = some true := by decide +kernel
theorem lives_mono (k : Nat) : hostlerlaw17_lives.f (30 + k) = some true := by
  induction k with
  | zero => exact lives_at
  | succ k ih => exact hostlerlaw17_lives.mono _ _ ih
theorem rsum_is {h : S43} (hs : SmallH (conv h)) : hostlerref17_sum.f h.f0 h.f1 h.f2 h.f3 h.f4 = some (sumv (conv h)) := by
  have := small_mx hs
  unfold hostlerref17_sum.f
  show some (wrap64 (wrap64 (mx (conv h).f1 0 + mx (conv h).f2 0) + mx (conv h).f3 0)) = _
  rw [wrap_in (x := mx (conv h).f1 0 + mx (conv h).f2 0) (by omega) (by omega), wrap_in (by omega) (by omega)]
  rfl
theorem ok43 {m : List S43} (h : Ok (m.map conv)) (i : Nat) (hi : i < m.length) : SmallH (conv (rd_T43 m i)) := by
  rw [← rd_conv m i hi]
  exact ok_at h i (by simpa using hi)
theorem rserve_loop (m : List S43) (hl : Ok (m.map conv)) : ∀ (d n : Nat) (b : Int) (k : Nat), n + d = m.length → d < k → Best (fun i => pS (conv (rd_T43 m i))) (fun i => mx (rd_T43 m i).f3 0) n b →
    ∃ b', hostlerref17_Serve.l0 k m b n = some (mx b' 0, decide (b' ≥ 0)) ∧ Best (fun i => pS (conv (rd_T43 m i))) (fun i => mx (rd_T43 m i).f3 0) m.length b' := by
  intro d
  induction d with
  | zero =>
    intro n b k hn hk hb
    obtain ⟨k, rfl⟩ : ∃ m, k = m + 1 := ⟨k - 1, by omega⟩
    unfold hostlerref17_Serve.l0
    rw [if_neg (by omega)]
    exact ⟨b, rfl, by rw [← hn]; exact hb⟩
  | succ d ih =>
    intro n b k hn hk hb
    obtain ⟨k, rfl⟩ : ∃ m, k = m + 1 := ⟨k - 1, by omega⟩
    have h20 : m.length ≤ 20 := by have := hl.1; simpa using this
    have hlt := best_lt hb
    unfold hostlerref17_Serve.l0
    rw [if_pos (by omega), if_pos (by omega), cast1 n (by omega)]
    by_cases h0 : (rd_T43 m n).f0 = 0
    · rw [if_pos h0]
      by_cases h2 : (rd_T43 m n).f2 > 0
      · rw [if_pos h2]
        have hp : pS (conv (rd_T43 m n)) = true := by simp [pS, conv, h0, h2]
        by_cases hb0 : b < 0
        · rw [if_pos hb0]
          exact ih (n + 1) n k (by omega) (by omega) (best_first hb hp hb0)
        · have hbn : ((b.toNat : Nat) : Int) = b := Int.toNat_of_nonneg (by omega)
          rw [if_neg hb0, if_pos (by omega), if_pos (by omega)]
          by_cases hv : mx (rd_T43 m n).f3 0 < mx (rd_T43 m b).f3 0
          · rw [if_pos hv]
            exact ih (n + 1) n k (by omega) (by omega) (best_less hb hp hb0 (by show mx (rd_T43 m n).f3 0 < mx (rd_T43 m (b.toNat : Int)).f3 0; rw [hbn]; exact hv))
          · rw [if_neg hv]
            exact ih (n + 1) b k (by omega) (by omega) (best_stays hb hb0 (by show ¬ mx (rd_T43 m n).f3 0 < mx (rd_T43 m (b.toNat : Int)).f3 0; rw [hbn]; exact hv))
      · rw [if_neg h2]
        exact ih (n + 1) b k (by omega) (by omega) (best_no hb (by show pS (conv (rd_T43 m n)) = false; simp [pS, conv]; intro _; omega))
    · rw [if_neg h0]
      exact ih (n + 1) b k (by omega) (by omega) (best_no hb (by show pS (conv (rd_T43 m n)) = false; simp [pS, conv, h0]))
theorem ropen_loop (m : List S43) (hl : Ok (m.map conv)) (each : Int) : ∀ (d n : Nat) (b : Int) (k : Nat), n + d = m.length → d < k → Best (fun i => pO each (conv (rd_T43 m i))) (fun i => sumv (conv (rd_T43 m i))) n b →
    ∃ b', hostlerref17_Open.l0 k m each b n = some (mx b' 0, decide (b' ≥ 0)) ∧ Best (fun i => pO each (conv (rd_T43 m i))) (fun i => sumv (conv (rd_T43 m i))) m.length b' := by
  intro d
  induction d with
  | zero =>
    intro n b k hn hk hb
    obtain ⟨k, rfl⟩ : ∃ m, k = m + 1 := ⟨k - 1, by omega⟩
    unfold hostlerref17_Open.l0
    rw [if_neg (by omega)]
    exact ⟨b, rfl, by rw [← hn]; exact hb⟩
  | succ d ih =>
    intro n b k hn hk hb
    obtain ⟨k, rfl⟩ : ∃ m, k = m + 1 := ⟨k - 1, by omega⟩
    have h20 : m.length ≤ 20 := by have := hl.1; simpa using this
    have hlt := best_lt hb
    have hno : pO each (conv (rd_T43 m n)) = false → ∃ b', hostlerref17_Open.l0 k m each b ((n + 1 : Nat) : Int) = some (mx b' 0, decide (b' ≥ 0)) ∧ Best (fun i => pO each (conv (rd_T43 m i))) (fun i => sumv (conv (rd_T43 m i))) m.length b' :=
      fun h => ih (n + 1) b k (by omega) (by omega) (best_no hb h)
    unfold hostlerref17_Open.l0
    rw [if_pos (by omega), if_pos (by omega), cast1 n (by omega)]
    by_cases h0 : (rd_T43 m n).f0 = 0
    · rw [if_pos h0]
      by_cases h4 : (rd_T43 m n).f4 = true
      · rw [if_pos h4, rsum_is (ok43 hl n (by omega)), Option.bind_some]
        by_cases hs : sumv (conv (rd_T43 m n)) < each
        · rw [if_pos hs]
          have hp : pO each (conv (rd_T43 m n)) = true := by simp only [pO, hs]; simp [conv, h0, h4]
          by_cases hb0 : b < 0
          · rw [if_pos hb0]
            exact ih (n + 1) n k (by omega) (by omega) (best_first hb hp hb0)
          · have hbn : ((b.toNat : Nat) : Int) = b := Int.toNat_of_nonneg (by omega)
            have hsb := ok43 hl b.toNat (by omega)
            rw [hbn] at hsb
            rw [if_neg hb0, Option.bind_some, if_pos (by omega), if_pos (by omega), rsum_is hsb, Option.bind_some]
            by_cases hv : sumv (conv (rd_T43 m n)) < sumv (conv (rd_T43 m b))
            · rw [if_pos hv]
              exact ih (n + 1) n k (by omega) (by omega) (best_less hb hp hb0 (by show sumv (conv (rd_T43 m n)) < sumv (conv (rd_T43 m (b.toNat : Int))); rw [hbn]; exact hv))
            · rw [if_neg hv]
              exact ih (n + 1) b k (by omega) (by omega) (best_stays hb hb0 (by show ¬ sumv (conv (rd_T43 m n)) < sumv (conv (rd_T43 m (b.toNat : Int))); rw [hbn]; exact hv))
        · rw [if_neg hs]
          exact hno (by simp only [pO, hs]; simp)
      · rw [if_neg h4]
        exact hno (by simp only [pO, conv]; simp [h4])
    · rw [if_neg h0]
      exact hno (by simp only [pO, conv]; simp [h0])
theorem rwarm_loop (m : List S43) (hl : Ok (m.map conv)) (each warm : Int) : ∀ (d n : Nat) (k : Nat), n + d = m.length → d < k → (∀ i, i < n → pW each warm (conv (rd_T43 m i)) = false) →
    ∃ b', hostlerref17_Warm.l0 k m each warm n = some (mx b' 0, decide (b' ≥ 0)) ∧ Best (fun i => pW each warm (conv (rd_T43 m i))) (fun _ => 0) m.length b' := by
  intro d
  induction d with
  | zero =>
    intro n k hn hk hb
    obtain ⟨k, rfl⟩ : ∃ m, k = m + 1 := ⟨k - 1, by omega⟩
    unfold hostlerref17_Warm.l0
    rw [if_neg (by omega)]
    exact ⟨-1, rfl, .inl ⟨rfl, fun i hi => hb i (by omega)⟩⟩
  | succ d ih =>
    intro n k hn hk hb
    obtain ⟨k, rfl⟩ : ∃ m, k = m + 1 := ⟨k - 1, by omega⟩
    have h20 : m.length ≤ 20 := by have := hl.1; simpa using this
    have hs43 := ok43 hl n (by omega)
    have hmx := small_mx hs43
    have hno : pW each warm (conv (rd_T43 m n)) = false → ∃ b', hostlerref17_Warm.l0 k m each warm ((n + 1 : Nat) : Int) = some (mx b' 0, decide (b' ≥ 0)) ∧ Best (fun i => pW each warm (conv (rd_T43 m i))) (fun _ => 0) m.length b' :=
      fun h => ih (n + 1) k (by omega) (by omega) (fun i hi => by
        by_cases h1 : i = n
        · rw [h1]; exact h
        · exact hb i (by omega))
    have e : wrap64 (mx (rd_T43 m n).f1 0 + mx (rd_T43 m n).f2 0) = own (conv (rd_T43 m n)) := by
      show wrap64 (mx (conv (rd_T43 m n)).f1 0 + mx (conv (rd_T43 m n)).f2 0) = _
      rw [wrap_in (by omega) (by omega)]
      rfl
    unfold hostlerref17_Warm.l0
    rw [if_pos (by omega), if_pos (by omega), cast1 n (by omega), e]
    by_cases h0 : (rd_T43 m n).f0 = 0
    · rw [if_pos h0]
      by_cases h4 : (rd_T43 m n).f4 = true
      · rw [if_pos h4, rsum_is hs43, Option.bind_some]
        by_cases hs : sumv (conv (rd_T43 m n)) < each
        · rw [if_pos hs]
          have hp : pO each (conv (rd_T43 m n)) = true := by simp only [pO, hs]; simp [conv, h0, h4]
          by_cases hw : own (conv (rd_T43 m n)) < warm
          · rw [if_pos hw]
            have hpw : pW each warm (conv (rd_T43 m n)) = true := by simp [pW, hp, hw]
            refine ⟨n, ?_, .inr ⟨n, rfl, by omega, hpw, fun i hi hPi => ?_⟩⟩
            · have e1 : mx (n : Int) 0 = n := by unfold mx; split <;> omega
              have e2 : decide ((n : Int) ≥ 0) = true := by simp
              rw [e1, e2]
            · by_cases h1 : i < n
              · have := hb i h1
                rw [show pW each warm (conv (rd_T43 m i)) = true from hPi] at this
                cases this
              · exact .inr ⟨rfl, by omega⟩
          · rw [if_neg hw]
            exact hno (by simp [pW, hw])
        · rw [if_neg hs]
          exact hno (by simp only [pW, pO, hs]; simp)
      · rw [if_neg h4]
        exact hno (by simp only [pW, pO, conv]; simp [h4])
    · rw [if_neg h0]
      exact hno (by simp only [pW, pO, conv]; simp [h0])
theorem rall_loop (m : List S43) (hl : Ok (m.map conv)) : ∀ (d n : Nat) (s : Int) (k : Nat), n + d = m.length → d < k → 0 ≤ s → s ≤ 3000 * n → hostlerref17_All.l0 k m s n = some (s + sumAll ((m.drop n).map conv)) := by
  intro d
  induction d with
  | zero =>
    intro n s k hn hk h0 h1
    obtain ⟨k, rfl⟩ : ∃ m, k = m + 1 := ⟨k - 1, by omega⟩
    unfold hostlerref17_All.l0
    rw [if_neg (by omega), List.drop_eq_nil_of_le (by omega)]
    simp [sumAll]
  | succ d ih =>
    intro n s k hn hk h0 h1
    obtain ⟨k, rfl⟩ : ∃ m, k = m + 1 := ⟨k - 1, by omega⟩
    have h20 : m.length ≤ 20 := by have := hl.1; simpa using this
    have hs := ok43 hl n (by omega)
    have hb := sumv_bd hs
    unfold hostlerref17_All.l0
    rw [if_pos (by omega), if_pos (by omega), rsum_is hs, Option.bind_some, cast1 n (by omega), wrap_in (by omega) (by omega), ih (n + 1) _ k (by omega) (by omega) (by omega) (by omega), drop_rd43 m n (by omega)]
    simp only [List.map_cons, sumAll]
    congr 1
    omega
theorem ChoosePicks : hostlerlaw17_ChoosePicks.Pure := by
  intro l0 a1 a2 _ _ _ _ _
  refine ⟨100, ?_⟩
  obtain ⟨m, hm, h20, hsm⟩ := few_is l0 100 (by omega)
  have hok := ok_conv h20 hsm
  have hlen : (m.map conv).length = m.length := by simp
  obtain ⟨b1, e1, B1⟩ := serve_is (m.map conv) hok 100 (by omega)
  obtain ⟨b2, e2, B2⟩ := rserve_loop m hok m.length 0 (-1) 100 (by omega) (by omega) (best_zero _ _)
  obtain ⟨b3, e3, B3⟩ := open_is (m.map conv) hok a1 100 (by omega)
  obtain ⟨b4, e4, B4⟩ := ropen_loop m hok a1 m.length 0 (-1) 100 (by omega) (by omega) (best_zero _ _)
  obtain ⟨b5, e5, B5⟩ := warm_is (m.map conv) hok a1 a2 100 (by omega)
  obtain ⟨b6, e6, B6⟩ := rwarm_loop m hok a1 a2 m.length 0 100 (by omega) (by omega) (fun i hi => by omega)
  rw [hlen] at B1 B3 B5
  obtain rfl : b1 = b2 := best_one B1 B2 (fun i hi => by show pS _ = pS _; rw [rd_conv m i hi]) (fun i hi => by show mx (rd_T32 (m.map conv) i).f3 0 = _; rw [rd_conv m i hi]; rfl)
  obtain rfl : b3 = b4 := best_one B3 B4 (fun i hi => by show pO _ _ = pO _ _; rw [rd_conv m i hi]) (fun i hi => by show sumv _ = sumv _; rw [rd_conv m i hi])
  obtain rfl : b5 = b6 := best_one B5 B6 (fun i hi => by show pW _ _ _ = pW _ _ _; rw [rd_conv m i hi]) (fun i hi => rfl)
  have e7 := all_is (m.map conv) hok 100 (by omega)
  have e8 := rall_loop m hok m.length 0 0 100 (by omega) (by omega) (by omega) (by omega)
  rw [List.drop_zero, Int.zero_add] at e8
  unfold hostlerlaw17_ChoosePicks.f hostlerref17_Serve.f hostlerref17_Open.f hostlerref17_Warm.f hostlerref17_All.f
  rw [lives_mono 70, Option.bind_some, if_pos rfl, hm, Option.bind_some, as_is m h20 100 (by omega), Option.bind_some, e1, Option.bind_some]
  simp only [Int.natCast_zero, Int.ofNat_zero, Int.cast_ofNat_Int] at e2 e4 e6 e8
  rw [e2, Option.bind_some, e3, Option.bind_some, e4, Option.bind_some, e5, Option.bind_some, e6, Option.bind_some, if_pos rfl, if_pos (by simp), if_pos rfl, if_pos (by simp), if_pos rfl, if_pos (by simp), e7, Option.bind_some, e8, Option.bind_some]
  simp
end Go.Proofs.Ythloffjgbgmpkaa.Pure
