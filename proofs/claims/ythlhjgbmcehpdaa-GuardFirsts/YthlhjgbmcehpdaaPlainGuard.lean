/-
  Plain laws on the capacity of hosts (no Go in sight). Conditions: as each lemma says.
-/
import Derived.Test.YthlhjgbmcehpdaaPAx2
import Derived.Test.YthlhjgbmcehpdaaPAx9
namespace Go.Proofs.Ythlhjgbmcehpdaa.PlainGuard
open Go.RowKit Go.Proofs.Ythlhjgbmcehpdaa.PA Go.Proofs.YthlhjgbmcehpdaaW.PrintWords
set_option linter.unusedVariables false

theorem wrap_in {n : Int} (h0 : -9223372036854775808 ≤ n) (h1 : n ≤ 9223372036854775807) : wrap64 n = n := by unfold wrap64; omega
theorem cast1 (i : Nat) : ((i : Int) + 1) = ((i + 1 : Nat) : Int) := by omega
theorem drop_at (l : List Int) (i : Nat) (h : i < l.length) : l.drop i = rd l (i : Int) :: l.drop (i + 1) := by
  rw [List.drop_eq_getElem_cons h]
  simp [rd, List.getD_eq_getElem?_getD, h]
/-- How many are active. -/
def act : List Int → Int
  | [] => 0
  | x :: xs => act xs + if x = 0 then 1 else 0
theorem act_bd (l : List Int) : 0 ≤ act l ∧ act l ≤ l.length := by
  induction l with
  | nil => exact ⟨Int.le_refl _, Int.le_refl _⟩
  | cons x xs ih =>
    simp only [act, List.length_cons]
    split <;> omega
theorem active_go (l : List Int) (hl : l.length ≤ 1000) (d : Nat) : ∀ (k i : Nat) (n : Int), i + d = l.length → d < k → 0 ≤ n → n ≤ i →
    guard_active.l0 k n l (l.length : Int) (i : Int) = some (n + act (l.drop i)) := by
  induction d with
  | zero =>
    intro k i n hi hk h0 h1
    obtain ⟨k, rfl⟩ : ∃ m, k = m + 1 := ⟨k - 1, by omega⟩
    rw [guard_active.l0, if_neg (by omega), List.drop_eq_nil_of_le (by omega)]
    simp [act]
  | succ d ih =>
    intro k i n hi hk h0 h1
    obtain ⟨k, rfl⟩ : ∃ m, k = m + 1 := ⟨k - 1, by omega⟩
    rw [guard_active.l0, if_pos (by omega), if_pos (by omega), if_pos (by omega), drop_at l i (by omega), wrap_in (n := (i : Int) + 1) (by omega) (by omega), wrap_in (n := n + 1) (by omega) (by omega), cast1]
    simp only [act]
    by_cases hs : rd l (i : Int) = 0
    · rw [if_pos hs, if_pos hs, ih k (i + 1) (n + 1) (by omega) (by omega) (by omega) (by omega)]
      congr 1; omega
    · rw [if_neg hs, if_neg hs, ih k (i + 1) n (by omega) (by omega) (by omega) (by omega)]
      congr 1; omega
theorem active_is (l : List Int) (hl : l.length ≤ 1000) (k : Nat) (hk : l.length < k) : guard_active.f k l = some (act l) := by
  unfold guard_active.f
  have := active_go l hl l.length k 0 0 (by omega) hk (by omega) (by omega)
  simpa using this
theorem mx_zero (e : Int) (h : 0 ≤ e) : mx e 0 = e := by unfold mx; split <;> omega
theorem prod_bd {a b : Int} {A B : Int} (a0 : 0 ≤ a) (a1 : a ≤ A) (b0 : 0 ≤ b) (b1 : b ≤ B) : 0 ≤ a * b ∧ a * b ≤ A * B :=
  ⟨Int.mul_nonneg a0 b0, Int.mul_le_mul a1 b1 b0 (by omega)⟩
/-- The capacity. -/
def cap (l : List Int) (e : Int) : Int := act l * mx e 0
theorem cap_bd (l : List Int) (e : Int) (hl : l.length ≤ 40) (he : e ≤ 1000) : 0 ≤ cap l e ∧ cap l e ≤ 40000 := by
  have h := act_bd l
  have hm : 0 ≤ mx e 0 ∧ mx e 0 ≤ 1000 := by unfold mx; split <;> omega
  have := prod_bd h.1 (show act l ≤ 40 by omega) hm.1 hm.2
  unfold cap
  omega
theorem cap_is (l : List Int) (e : Int) (hl : l.length ≤ 40) (he : e ≤ 1000) (k : Nat) (hk : l.length < k) : guard_Capacity.f k l e = some (cap l e) := by
  unfold guard_Capacity.f
  have h := cap_bd l e hl he
  rw [active_is l (by omega) k hk, Option.bind_some]
  show some (wrap64 (cap l e)) = _
  rw [wrap_in (by omega) (by omega)]
/-- The capacity without a host. -/
def without (l : List Int) (i e : Int) : Int := if 0 ≤ i ∧ i < l.length ∧ rd l i = 0 then cap l e - mx e 0 else cap l e
theorem without_is (l : List Int) (i e : Int) (hl : l.length ≤ 40) (he : e ≤ 1000) (k : Nat) (hk : l.length < k) : guard_Without.f k l i e = some (without l i e) := by
  unfold guard_Without.f without
  have h := cap_bd l e hl he
  have hm : 0 ≤ mx e 0 ∧ mx e 0 ≤ 1000 := by unfold mx; split <;> omega
  rw [cap_is l e hl he k hk, Option.bind_some]
  by_cases h0 : i ≥ 0
  · rw [if_pos h0]
    by_cases h1 : i < (l.length : Int)
    · rw [if_pos h1, if_pos (by omega)]
      by_cases h2 : rd l i = 0
      · rw [if_pos h2, if_pos ⟨by omega, h1, h2⟩, wrap_in (by omega) (by omega)]
      · rw [if_neg h2, if_neg (by omega)]
    · rw [if_neg h1, if_neg (by omega)]
  · rw [if_neg h0, if_neg (by omega)]
/-- May a host leave? -/
def may (l : List Int) (i e g : Int) : Bool := decide (0 ≤ i) && decide (i < l.length) && (decide (rd l i ≠ 0) || decide (cap l e - mx e 0 ≥ g))
theorem may_is (l : List Int) (i e g : Int) (hl : l.length ≤ 40) (he : e ≤ 1000) (k : Nat) (hk : l.length < k) : guard_May.f k l i e g = some (may l i e g) := by
  unfold guard_May.f may
  by_cases h0 : i < 0
  · rw [if_pos h0, decide_eq_false (show ¬ 0 ≤ i by omega)]; rfl
  · rw [if_neg h0, decide_eq_true (show 0 ≤ i by omega)]
    by_cases h1 : i ≥ (l.length : Int)
    · rw [if_pos h1, decide_eq_false (show ¬ i < (l.length : Int) by omega)]; rfl
    · rw [if_neg h1, decide_eq_true (show i < (l.length : Int) by omega), if_pos (by omega), if_pos (by omega)]
      by_cases h2 : rd l i = 0
      · rw [if_pos h2, without_is l i e hl he k hk, Option.bind_some]
        unfold without
        rw [if_pos ⟨by omega, by omega, h2⟩]
        simp [h2]
      · rw [if_neg h2]; simp [h2]
/-- How many may leave. -/
def spare (l : List Int) (e g : Int) : Int := if g ≤ 0 then act l else if cap l e - g < 0 then 0 else if e ≤ 0 then 0 else mn (act l) ((cap l e - g) / e)
theorem spare_is (l : List Int) (e g : Int) (hl : l.length ≤ 40) (he : e ≤ 1000) (hg : g ≤ 1000) (k : Nat) (hk : l.length < k) : guard_Spare.f k l e g = some (spare l e g) := by
  unfold guard_Spare.f spare
  have h := cap_bd l e hl he
  rw [active_is l (by omega) k hk, Option.bind_some, cap_is l e hl he k hk, Option.bind_some]
  by_cases h0 : g ≤ 0
  · rw [if_pos h0, if_pos h0]
  · rw [if_neg h0, if_neg h0]
    have hm : mx g 0 = g := mx_zero g (by omega)
    rw [hm, wrap_in (by omega) (by omega)]
    by_cases h1 : cap l e - g < 0
    · rw [if_pos h1, if_pos h1]
    · rw [if_neg h1, if_neg h1]
      by_cases h2 : e ≤ 0
      · rw [if_pos h2, if_pos h2]
      · rw [if_neg h2, if_neg h2, if_neg (by omega), Int.tdiv_eq_ediv_of_nonneg (by omega)]
        have hd : 0 ≤ (cap l e - g) / e := Int.ediv_nonneg (by omega) (by omega)
        have hd2 : (cap l e - g) / e ≤ cap l e - g := Int.ediv_le_self _ (by omega)
        rw [wrap_in (by omega) (by omega)]
theorem near_is (n : Int) : ∃ m, hostlerlaw11_near.f n = some m ∧ -1000 ≤ m ∧ m ≤ 1000 := by
  refine ⟨_, rfl, ?_, ?_⟩ <;> (unfold mn mx; split <;> split <;> omega)
theorem few_is (l : List Int) : ∃ m : List Int, hostlerlaw11_few.f l = some m ∧ m.length ≤ 20 := by
  have h : 0 ≤ mn (l.length : Int) 20 ∧ mn (l.length : Int) 20 ≤ (l.length : Int) ∧ mn (l.length : Int) 20 ≤ 20 := by unfold mn; split <;> omega
  unfold hostlerlaw11_few.f
  rw [if_pos h.1, if_pos h.2.1]
  exact ⟨_, rfl, by rw [List.length_take]; omega⟩
theorem each_is (a : Int) : 1 ≤ wrap64 (1 + wrap64 (Int.tmod (IntKind.u64.wrap a) 8)) ∧ wrap64 (1 + wrap64 (Int.tmod (IntKind.u64.wrap a) 8)) ≤ 8 := by
  rw [IntKind.wrap_u64]
  have h : 0 ≤ a % 18446744073709551616 := by omega
  rw [Int.tmod_eq_emod_of_nonneg h]
  unfold wrap64
  omega
theorem lives_is : hostlerlaw11_lives.f 100 = some true := by decide +kernel
theorem lives_mono (n : Nat) : hostlerlaw11_lives.f (100 + n) = some true := by
  induction n with
  | zero => exact lives_is
  | succ n ih => exact hostlerlaw11_lives.mono (100 + n) _ ih
/-- What the number of those that may leave is good for. -/
theorem spare_facts (l : List Int) (e g : Int) (hl : l.length ≤ 40) (h1 : 1 ≤ e) (h8 : e ≤ 8) :
    0 ≤ spare l e g ∧ spare l e g * e ≤ cap l e ∧ cap l e % e = 0 ∧ (cap l e ≥ g → cap l e - spare l e g * e ≥ g ∧ (spare l e g * e = cap l e ∨ cap l e - (spare l e g + 1) * e < g)) ∧ (cap l e < g → spare l e g = 0) := by
  have ha := act_bd l
  unfold spare cap
  rw [mx_zero e (by omega)]
  have hc : e = 1 ∨ e = 2 ∨ e = 3 ∨ e = 4 ∨ e = 5 ∨ e = 6 ∨ e = 7 ∨ e = 8 := by omega
  rcases hc with rfl | rfl | rfl | rfl | rfl | rfl | rfl | rfl
  all_goals
    unfold mn
    repeat' split
    all_goals omega
end Go.Proofs.Ythlhjgbmcehpdaa.PlainGuard
