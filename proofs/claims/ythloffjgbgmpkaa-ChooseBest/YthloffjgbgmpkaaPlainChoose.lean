/-
  Plain facts of the choice of a host: the best of those that could be, with no program in sight. Conditions: none.
-/
import Derived.Test.YthloffjgbgmpkaaManB
set_option linter.unusedVariables false
set_option linter.unusedSimpArgs false
namespace Go.Proofs.Ythloffjgbgmpkaa.Plain
open Go.RowKit Go.Proofs.Ythloffjgbgmpkaa.PA Go.Proofs.Ythloffjgbgmpkaa.Man Go.Proofs.YthloffjgbgmpkaaW.PrintWords Go.Proofs.YthloffjgbgmpkaaW.PrintLast

theorem wrap_in {x : Int} (h1 : -9223372036854775808 ≤ x) (h2 : x ≤ 9223372036854775807) : wrap64 x = x := by
  unfold wrap64
  omega
/-- The best place, from 0 to n, of those that could be (P), by V; -1: none. -/
def Best (P : Nat → Bool) (V : Nat → Int) (n : Nat) (b : Int) : Prop :=
  (b = -1 ∧ ∀ i, i < n → P i = false) ∨ ∃ j : Nat, b = (j : Int) ∧ j < n ∧ P j = true ∧ ∀ i, i < n → P i = true → V j < V i ∨ (V j = V i ∧ j ≤ i)
theorem best_zero (P : Nat → Bool) (V : Nat → Int) : Best P V 0 (-1) := .inl ⟨rfl, fun i h => by omega⟩
theorem best_no {P : Nat → Bool} {V : Nat → Int} {n : Nat} {b : Int} (h : Best P V n b) (hp : P n = false) : Best P V (n + 1) b := by
  rcases h with ⟨hb, hn⟩ | ⟨j, hb, hj, hP, hn⟩
  · refine .inl ⟨hb, fun i hi => ?_⟩
    by_cases h1 : i = n
    · rw [h1]; exact hp
    · exact hn i (by omega)
  · refine .inr ⟨j, hb, by omega, hP, fun i hi hPi => ?_⟩
    by_cases h1 : i = n
    · rw [h1, hp] at hPi; cases hPi
    · exact hn i (by omega) hPi
theorem best_first {P : Nat → Bool} {V : Nat → Int} {n : Nat} {b : Int} (h : Best P V n b) (hp : P n = true) (hb : b < 0) : Best P V (n + 1) n := by
  rcases h with ⟨_, hn⟩ | ⟨j, hj, _⟩
  · refine .inr ⟨n, rfl, by omega, hp, fun i hi hPi => ?_⟩
    by_cases h1 : i = n
    · rw [h1]; exact .inr ⟨rfl, Nat.le_refl _⟩
    · rw [hn i (by omega)] at hPi; cases hPi
  · omega
theorem best_less {P : Nat → Bool} {V : Nat → Int} {n : Nat} {b : Int} (h : Best P V n b) (hp : P n = true) (hb : ¬ b < 0) (hv : V n < V b.toNat) : Best P V (n + 1) n := by
  rcases h with ⟨h0, _⟩ | ⟨j, rfl, hj, hP, hn⟩
  · omega
  · rw [Int.toNat_natCast] at hv
    refine .inr ⟨n, rfl, by omega, hp, fun i hi hPi => ?_⟩
    by_cases h1 : i = n
    · rw [h1]; exact .inr ⟨rfl, Nat.le_refl _⟩
    · have := hn i (by omega) hPi
      exact .inl (by omega)
theorem best_stays {P : Nat → Bool} {V : Nat → Int} {n : Nat} {b : Int} (h : Best P V n b) (hb : ¬ b < 0) (hv : ¬ V n < V b.toNat) : Best P V (n + 1) b := by
  rcases h with ⟨h0, _⟩ | ⟨j, rfl, hj, hP, hn⟩
  · omega
  · rw [Int.toNat_natCast] at hv
    refine .inr ⟨j, rfl, by omega, hP, fun i hi hPi => ?_⟩
    by_cases h1 : i = n
    · rw [h1]
      by_cases h2 : V j = V n
      · exact .inr ⟨h2, by omega⟩
      · exact .inl (by omega)
    · exact hn i (by omega) hPi
theorem best_lt {P : Nat → Bool} {V : Nat → Int} {n : Nat} {b : Int} (h : Best P V n b) : -1 ≤ b ∧ b < n := by
  rcases h with ⟨h0, _⟩ | ⟨j, rfl, hj, _⟩ <;> omega
theorem best_one {P P' : Nat → Bool} {V V' : Nat → Int} {n : Nat} {b b' : Int} (h : Best P V n b) (h' : Best P' V' n b') (hP : ∀ i, i < n → P i = P' i) (hV : ∀ i, i < n → V i = V' i) : b = b' := by
  rcases h with ⟨rfl, hn⟩ | ⟨j, rfl, hj, hPj, hn⟩
  · rcases h' with ⟨rfl, _⟩ | ⟨j', rfl, hj', hPj', _⟩
    · rfl
    · rw [← hP j' hj', hn j' hj'] at hPj'; cases hPj'
  · rcases h' with ⟨rfl, hn'⟩ | ⟨j', rfl, hj', hPj', hn'⟩
    · rw [hP j hj, hn' j hj] at hPj; cases hPj
    · have h1 := hn j' hj' (by rw [hP j' hj']; exact hPj')
      have h2 := hn' j hj (by rw [← hP j hj]; exact hPj)
      rw [← hV j hj, ← hV j' hj'] at h2
      omega

/-! ### The hosts -/
def conv (h : S43) : S32 := ⟨h.f0, h.f1, h.f2, h.f3, h.f4⟩
def Small (f1 f2 f3 : Int) : Prop := (-1000 ≤ f1 ∧ f1 ≤ 1000) ∧ (-1000 ≤ f2 ∧ f2 ≤ 1000) ∧ (-1000 ≤ f3 ∧ f3 ≤ 1000)
def sumv (h : S32) : Int := mx h.f1 0 + mx h.f2 0 + mx h.f3 0
def own (h : S32) : Int := mx h.f1 0 + mx h.f2 0
theorem mx_bd {x : Int} (h : x ≤ 1000) : 0 ≤ mx x 0 ∧ mx x 0 ≤ 1000 := by unfold mx; split <;> omega
def SmallH (h : S32) : Prop := Small h.f1 h.f2 h.f3
theorem small_mx {h : S32} (hs : SmallH h) : (0 ≤ mx h.f1 0 ∧ mx h.f1 0 ≤ 1000) ∧ (0 ≤ mx h.f2 0 ∧ mx h.f2 0 ≤ 1000) ∧ (0 ≤ mx h.f3 0 ∧ mx h.f3 0 ≤ 1000) := ⟨mx_bd hs.1.2, mx_bd hs.2.1.2, mx_bd hs.2.2.2⟩
theorem sum_is {h : S32} (hs : SmallH h) : choose_sum.f h.f0 h.f1 h.f2 h.f3 h.f4 = some (sumv h) := by
  have := small_mx hs
  unfold choose_sum.f choose_right.f
  rw [Option.bind_some]
  show some (wrap64 (wrap64 (mx h.f1 0 + mx h.f2 0) + mx h.f3 0)) = _
  rw [wrap_in (x := mx h.f1 0 + mx h.f2 0) (by omega) (by omega), wrap_in (by omega) (by omega)]
  rfl
/-- A list of hosts as the laws have them. -/
def Ok (l : List S32) : Prop := l.length ≤ 20 ∧ ∀ x ∈ l, SmallH x
theorem ok_at {l : List S32} (h : Ok l) (i : Nat) (hi : i < l.length) : SmallH (rd_T32 l i) := h.2 _ (by simp [rd_T32, List.getD_eq_getElem?_getD, hi])
def pS (h : S32) : Bool := decide (h.f0 = 0) && decide (h.f2 > 0)
def pO (each : Int) (h : S32) : Bool := decide (h.f0 = 0) && (h.f4 && decide (sumv h < each))
def pW (each warm : Int) (h : S32) : Bool := pO each h && decide (own h < warm)
theorem serve1_is (h : S32) : choose_Serve_1.f h.f0 h.f1 h.f2 h.f3 h.f4 = some (pS h) := by
  unfold choose_Serve_1.f state_Serves.f pS
  rw [Option.bind_some]
  by_cases h0 : h.f0 = 0 <;> simp [h0]
theorem opens_is {h : S32} (hs : SmallH h) (each : Int) : choose_opens.f h.f0 h.f1 h.f2 h.f3 h.f4 each = some (pO each h) := by
  unfold choose_opens.f state_Opens.f pO
  rw [Option.bind_some, sum_is hs]
  by_cases h0 : h.f0 = 0 <;> cases h4 : h.f4 <;> simp [h0]
theorem open1_is {h : S32} (hs : SmallH h) (each : Int) : LO.choose_Open_1.f h.f0 h.f1 h.f2 h.f3 h.f4 [each] = some (pO each h) := by
  unfold LO.choose_Open_1.f
  rw [if_pos (by simp), show rd [each] 0 = each from rfl, opens_is hs, Option.bind_some]
theorem warm1_is {h : S32} (hs : SmallH h) (each warm : Int) : LO.choose_Warm_1.f h.f0 h.f1 h.f2 h.f3 h.f4 [each] [warm] = some (pW each warm h) := by
  have := small_mx hs
  unfold LO.choose_Warm_1.f pW
  rw [if_pos (by simp), show rd [each] 0 = each from rfl, show rd [warm] 0 = warm from rfl, opens_is hs, Option.bind_some, sum_is hs, Option.bind_some]
  have e : wrap64 (sumv h - mx h.f3 0) = own h := by
    unfold sumv own
    rw [wrap_in (by omega) (by omega)]
    omega
  cases pO each h with
  | false => rfl
  | true =>
    rw [if_pos rfl]
    unfold choose_right.f
    rw [Option.bind_some, if_pos (show (0 : Int) < (([warm] : List Int).length : Int) by simp)]
    show some (decide (wrap64 (sumv h - mx h.f3 0) < warm)) = _
    rw [e]
    rfl
theorem cast1 (n : Nat) (h : n ≤ 1000) : wrap64 ((n : Int) + 1) = ((n + 1 : Nat) : Int) := by
  rw [wrap_in (by omega) (by omega)]
  omega
/-- The loop of Serve. -/
theorem serve_loop (l : List S32) (hl : Ok l) : ∀ (d n : Nat) (b : Int) (k : Nat), n + d = l.length → d < k → Best (fun i => pS (rd_T32 l i)) (fun i => mx (rd_T32 l i).f3 0) n b →
    ∃ b', LS.choose_Host_int.l0 k l b l (l.length : Int) n = some (mx b' 0, decide (b' ≥ 0)) ∧ Best (fun i => pS (rd_T32 l i)) (fun i => mx (rd_T32 l i).f3 0) l.length b' := by
  intro d
  induction d with
  | zero =>
    intro n b k hn hk hb
    obtain ⟨k, rfl⟩ : ∃ m, k = m + 1 := ⟨k - 1, by omega⟩
    unfold LS.choose_Host_int.l0
    rw [if_neg (by omega)]
    exact ⟨b, rfl, by rw [← hn]; exact hb⟩
  | succ d ih =>
    intro n b k hn hk hb
    obtain ⟨k, rfl⟩ : ∃ m, k = m + 1 := ⟨k - 1, by omega⟩
    have h20 := hl.1
    have hlt := best_lt hb
    unfold LS.choose_Host_int.l0
    rw [if_pos (by omega), if_pos (by omega), if_pos (by omega), serve1_is, Option.bind_some, cast1 n (by omega)]
    cases hp : pS (rd_T32 l n) with
    | false =>
      rw [if_neg (by simp)]
      exact ih (n + 1) b k (by omega) (by omega) (best_no hb hp)
    | true =>
      rw [if_pos rfl]
      by_cases hb0 : b < 0
      · rw [if_pos hb0]
        exact ih (n + 1) n k (by omega) (by omega) (best_first hb hp hb0)
      · rw [if_neg hb0]
        unfold choose_Serve_2.f
        rw [Option.bind_some, if_pos (by omega), if_pos (by omega), Option.bind_some]
        by_cases hv : mx (rd_T32 l n).f3 0 < mx (rd_T32 l b).f3 0
        · rw [if_pos hv]
          exact ih (n + 1) n k (by omega) (by omega) (best_less hb hp hb0 (by show mx (rd_T32 l n).f3 0 < mx (rd_T32 l (b.toNat : Int)).f3 0; rw [Int.toNat_of_nonneg (by omega)]; exact hv))
        · rw [if_neg hv]
          exact ih (n + 1) b k (by omega) (by omega) (best_stays hb hb0 (by show ¬ mx (rd_T32 l n).f3 0 < mx (rd_T32 l (b.toNat : Int)).f3 0; rw [Int.toNat_of_nonneg (by omega)]; exact hv))
/-- What Serve, Open and Warm answer. -/
theorem serve_is (l : List S32) (hl : Ok l) (k : Nat) (hk : 20 < k) : ∃ b, choose_Serve.f k l = some (mx b 0, decide (b ≥ 0)) ∧ Best (fun i => pS (rd_T32 l i)) (fun i => mx (rd_T32 l i).f3 0) l.length b := by
  have := hl.1
  exact serve_loop l hl l.length 0 (-1) k (by omega) (by omega) (best_zero _ _)
theorem open_loop (l : List S32) (hl : Ok l) (each : Int) : ∀ (d n : Nat) (b : Int) (k : Nat), n + d = l.length → d < k → Best (fun i => pO each (rd_T32 l i)) (fun i => sumv (rd_T32 l i)) n b →
    ∃ b', LO.choose_Host_int.l0 k l [each] b l (l.length : Int) n = some (mx b' 0, decide (b' ≥ 0)) ∧ Best (fun i => pO each (rd_T32 l i)) (fun i => sumv (rd_T32 l i)) l.length b' := by
  intro d
  induction d with
  | zero =>
    intro n b k hn hk hb
    obtain ⟨k, rfl⟩ : ∃ m, k = m + 1 := ⟨k - 1, by omega⟩
    unfold LO.choose_Host_int.l0
    rw [if_neg (by omega)]
    exact ⟨b, rfl, by rw [← hn]; exact hb⟩
  | succ d ih =>
    intro n b k hn hk hb
    obtain ⟨k, rfl⟩ : ∃ m, k = m + 1 := ⟨k - 1, by omega⟩
    have h20 := hl.1
    have hlt := best_lt hb
    unfold LO.choose_Host_int.l0
    rw [if_pos (by omega), if_pos (by omega), if_pos (by omega), open1_is (ok_at hl n (by omega)), Option.bind_some, cast1 n (by omega)]
    cases hp : pO each (rd_T32 l n) with
    | false =>
      rw [if_neg (by simp)]
      exact ih (n + 1) b k (by omega) (by omega) (best_no hb hp)
    | true =>
      rw [if_pos rfl]
      by_cases hb0 : b < 0
      · rw [if_pos hb0]
        exact ih (n + 1) n k (by omega) (by omega) (best_first hb hp hb0)
      · have hbn : ((b.toNat : Nat) : Int) = b := Int.toNat_of_nonneg (by omega)
        have hsb := ok_at hl b.toNat (by omega)
        rw [hbn] at hsb
        rw [if_neg hb0, sum_is (ok_at hl n (by omega)), Option.bind_some, if_pos (by omega), if_pos (by omega), sum_is hsb, Option.bind_some]
        by_cases hv : sumv (rd_T32 l n) < sumv (rd_T32 l b)
        · rw [if_pos hv]
          exact ih (n + 1) n k (by omega) (by omega) (best_less hb hp hb0 (by show sumv (rd_T32 l n) < sumv (rd_T32 l (b.toNat : Int)); rw [hbn]; exact hv))
        · rw [if_neg hv]
          exact ih (n + 1) b k (by omega) (by omega) (best_stays hb hb0 (by show ¬ sumv (rd_T32 l n) < sumv (rd_T32 l (b.toNat : Int)); rw [hbn]; exact hv))
theorem open_is (l : List S32) (hl : Ok l) (each : Int) (k : Nat) (hk : 20 < k) : ∃ b, choose_Open.f k l each = some (mx b 0, decide (b ≥ 0)) ∧ Best (fun i => pO each (rd_T32 l i)) (fun i => sumv (rd_T32 l i)) l.length b := by
  have := hl.1
  exact open_loop l hl each l.length 0 (-1) k (by omega) (by omega) (best_zero _ _)
theorem warm_loop (l : List S32) (hl : Ok l) (each warm : Int) : ∀ (d n : Nat) (k : Nat), n + d = l.length → d < k → (∀ i, i < n → pW each warm (rd_T32 l i) = false) →
    ∃ b', LO.choose_Host.l0 k l [each] [warm] (l.length : Int) n = some b' ∧ Best (fun i => pW each warm (rd_T32 l i)) (fun _ => 0) l.length b' := by
  intro d
  induction d with
  | zero =>
    intro n k hn hk hb
    obtain ⟨k, rfl⟩ : ∃ m, k = m + 1 := ⟨k - 1, by omega⟩
    unfold LO.choose_Host.l0
    rw [if_neg (by omega)]
    exact ⟨-1, rfl, .inl ⟨rfl, fun i hi => hb i (by omega)⟩⟩
  | succ d ih =>
    intro n k hn hk hb
    obtain ⟨k, rfl⟩ : ∃ m, k = m + 1 := ⟨k - 1, by omega⟩
    have h20 := hl.1
    unfold LO.choose_Host.l0
    rw [if_pos (by omega), if_pos (by omega), if_pos (by omega), warm1_is (ok_at hl n (by omega)), Option.bind_some, cast1 n (by omega)]
    cases hp : pW each warm (rd_T32 l n) with
    | false =>
      rw [if_neg (by simp)]
      refine ih (n + 1) k (by omega) (by omega) (fun i hi => ?_)
      by_cases h1 : i = n
      · rw [h1]; exact hp
      · exact hb i (by omega)
    | true =>
      rw [if_pos rfl]
      refine ⟨n, rfl, .inr ⟨n, rfl, by omega, hp, fun i hi hPi => ?_⟩⟩
      by_cases h1 : i < n
      · have := hb i h1; rw [show pW each warm (rd_T32 l i) = true from hPi] at this; cases this
      · exact .inr ⟨rfl, by omega⟩
theorem warm_is (l : List S32) (hl : Ok l) (each warm : Int) (k : Nat) (hk : 20 < k) : ∃ b, choose_Warm.f k l each warm = some (mx b 0, decide (b ≥ 0)) ∧ Best (fun i => pW each warm (rd_T32 l i)) (fun _ => 0) l.length b := by
  have := hl.1
  obtain ⟨b, h1, h2⟩ := warm_loop l hl each warm l.length 0 k (by omega) (by omega) (fun i hi => by omega)
  refine ⟨b, ?_, h2⟩
  unfold choose_Warm.f LO.choose_Host.f
  rw [show (0 : Int) = ((0 : Nat) : Int) from rfl, h1]
  rfl
/-- All, and few, and as. -/
def sumAll : List S32 → Int
  | [] => 0
  | h :: l => sumv h + sumAll l
theorem sumv_bd {h : S32} (hs : SmallH h) : 0 ≤ sumv h ∧ sumv h ≤ 3000 := by
  have := small_mx hs
  unfold sumv
  omega
theorem drop_rd32 (l : List S32) (i : Nat) (h : i < l.length) : l.drop i = rd_T32 l (i : Int) :: l.drop (i + 1) := by
  rw [List.drop_eq_getElem_cons h]
  simp [rd_T32, List.getD_eq_getElem?_getD, h]
theorem all_loop (l : List S32) (hl : Ok l) : ∀ (d n : Nat) (s : Int) (k : Nat), n + d = l.length → d < k → 0 ≤ s → s ≤ 3000 * n → choose_All.l0 k s l (l.length : Int) n = some (s + sumAll (l.drop n)) := by
  intro d
  induction d with
  | zero =>
    intro n s k hn hk h0 h1
    obtain ⟨k, rfl⟩ : ∃ m, k = m + 1 := ⟨k - 1, by omega⟩
    unfold choose_All.l0
    rw [if_neg (by omega), List.drop_eq_nil_of_le (by omega)]
    simp [sumAll]
  | succ d ih =>
    intro n s k hn hk h0 h1
    obtain ⟨k, rfl⟩ : ∃ m, k = m + 1 := ⟨k - 1, by omega⟩
    have h20 := hl.1
    have hs := ok_at hl n (by omega)
    have hb := sumv_bd hs
    unfold choose_All.l0
    rw [if_pos (by omega), if_pos (by omega), if_pos (by omega), sum_is hs, Option.bind_some, cast1 n (by omega), wrap_in (by omega) (by omega), ih (n + 1) _ k (by omega) (by omega) (by omega) (by omega), drop_rd32 l n (by omega)]
    simp only [sumAll]
    congr 1
    omega
theorem all_is (l : List S32) (hl : Ok l) (k : Nat) (hk : 20 < k) : choose_All.f k l = some (sumAll l) := by
  have := hl.1
  have h := all_loop l hl l.length 0 0 k (by omega) (by omega) (by omega) (by omega)
  rw [List.drop_zero] at h
  unfold choose_All.f
  rw [show (0 : Int) = ((0 : Nat) : Int) from rfl] at h ⊢
  rw [h]
  simp
theorem one_is (l : List S32) (hl : Ok l) (n : Nat) (hn : n < l.length) (k : Nat) (hk : 20 < k) : choose_All.f k ((l.take (n + 1)).drop n) = some (sumv (rd_T32 l n)) := by
  have e : (l.take (n + 1)).drop n = [rd_T32 l n] := by
    rw [List.drop_take, show n + 1 - n = 1 by omega, drop_rd32 l n hn]
    rfl
  rw [e, all_is _ ⟨by simp, fun x hx => by rw [List.mem_singleton.1 hx]; exact ok_at hl n hn⟩ k hk]
  simp [sumAll]
theorem near_is (n : Int) : ∃ m, hostlerlaw17_near.f n = some m ∧ -1000 ≤ m ∧ m ≤ 1000 := by
  refine ⟨_, rfl, ?_, ?_⟩ <;> (unfold mn mx; split <;> split <;> omega)
theorem few_loop (l : List S43) : ∀ (d n : Nat) (a : List S43) (k : Nat), n + d = 20 → 2 * d + 2 < k → a.length = n → (∀ x ∈ a, Small x.f1 x.f2 x.f3) →
    ∃ m, hostlerlaw17_few.l0 k l a n = some m ∧ m.length ≤ 20 ∧ ∀ x ∈ m, Small x.f1 x.f2 x.f3 := by
  intro d
  induction d with
  | zero =>
    intro n a k hn hk ha hs
    obtain ⟨k, rfl⟩ : ∃ m, k = m + 2 := ⟨k - 2, by omega⟩
    unfold hostlerlaw17_few.l0
    have e : decide ((n : Int) < 20) = false := by simp; omega
    rw [e, ite_self]
    unfold hostlerlaw17_few.j1
    rw [if_neg (by simp)]
    exact ⟨a, rfl, by omega, hs⟩
  | succ d ih =>
    intro n a k hn hk ha hs
    obtain ⟨k, rfl⟩ : ∃ m, k = m + 2 := ⟨k - 2, by omega⟩
    unfold hostlerlaw17_few.l0
    by_cases hnl : (n : Int) < l.length
    · rw [if_pos hnl, show decide ((n : Int) < 20) = true by simp; omega]
      unfold hostlerlaw17_few.j1
      obtain ⟨m1, e1, b1⟩ := near_is (rd_T43 l n).f1
      obtain ⟨m2, e2, b2⟩ := near_is (rd_T43 l n).f2
      obtain ⟨m3, e3, b3⟩ := near_is (rd_T43 l n).f3
      rw [if_pos rfl, if_pos (by omega), if_pos hnl, e1, Option.bind_some, e2, Option.bind_some, e3, Option.bind_some, if_pos (by omega), cast1 n (by omega)]
      refine ih (n + 1) _ k (by omega) (by omega) (by simp [ha]) (fun x hx => ?_)
      rcases List.mem_append.1 hx with h1 | h1
      · exact hs x h1
      · rw [List.mem_singleton.1 h1]
        exact ⟨b1, b2, b3⟩
    · rw [if_neg hnl]
      unfold hostlerlaw17_few.j1
      rw [if_neg (by simp)]
      exact ⟨a, rfl, by omega, hs⟩
theorem few_is (l : List S43) (k : Nat) (hk : 42 < k) : ∃ m, hostlerlaw17_few.f k l = some m ∧ m.length ≤ 20 ∧ ∀ x ∈ m, Small x.f1 x.f2 x.f3 := few_loop l 20 0 [] k (by omega) (by omega) rfl (by simp)
theorem drop_rd43 (l : List S43) (i : Nat) (h : i < l.length) : l.drop i = rd_T43 l (i : Int) :: l.drop (i + 1) := by
  rw [List.drop_eq_getElem_cons h]
  simp [rd_T43, List.getD_eq_getElem?_getD, h]
theorem as_loop (l : List S43) (hl : l.length ≤ 20) : ∀ (d n : Nat) (a : List S32) (k : Nat), n + d = l.length → d < k → a.length = n → hostlerlaw17_as.l0 k l a n = some (a ++ (l.drop n).map conv) := by
  intro d
  induction d with
  | zero =>
    intro n a k hn hk ha
    obtain ⟨k, rfl⟩ : ∃ m, k = m + 1 := ⟨k - 1, by omega⟩
    unfold hostlerlaw17_as.l0
    rw [if_neg (by omega), List.drop_eq_nil_of_le (by omega)]
    simp
  | succ d ih =>
    intro n a k hn hk ha
    obtain ⟨k, rfl⟩ : ∃ m, k = m + 1 := ⟨k - 1, by omega⟩
    unfold hostlerlaw17_as.l0
    rw [if_pos (by omega), if_pos (by omega), if_pos (by omega), cast1 n (by omega), ih (n + 1) _ k (by omega) (by omega) (by simp [ha]), drop_rd43 l n (by omega)]
    simp [conv]
theorem as_is (l : List S43) (hl : l.length ≤ 20) (k : Nat) (hk : 20 < k) : hostlerlaw17_as.f k l = some (l.map conv) := by
  have h := as_loop l hl l.length 0 [] k (by omega) (by omega) rfl
  rw [List.drop_zero, List.nil_append] at h
  exact h
theorem ok_conv {m : List S43} (h1 : m.length ≤ 20) (h2 : ∀ x ∈ m, Small x.f1 x.f2 x.f3) : Ok (m.map conv) := ⟨by simpa using h1, fun x hx => by
  obtain ⟨y, hy, rfl⟩ := List.mem_map.1 hx
  exact h2 y hy⟩
theorem rd_conv (m : List S43) (i : Nat) (h : i < m.length) : rd_T32 (m.map conv) i = conv (rd_T43 m i) := by
  simp [rd_T32, rd_T43, List.getD_eq_getElem?_getD, h]
end Go.Proofs.Ythloffjgbgmpkaa.Plain
