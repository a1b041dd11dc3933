/-
  Plain laws on the walk of a state through events (no Go in sight). Conditions: as each lemma says.
-/
import Derived.Test.YthlhjgbmcehpdaaPAx8
namespace Go.Proofs.Ythlhjgbmcehpdaa.PlainState
open Go.RowKit Go.Proofs.Ythlhjgbmcehpdaa.Man Go.Proofs.Ythlhjgbmcehpdaa.PA Go.Proofs.YthlhjgbmcehpdaaW.PrintWords
set_option linter.unusedVariables false

/-- One event. -/
def stp (s e : Int) : Int × Bool := if toS s e = -1 then (s, false) else (toS s e, true)
theorem next_stp (s e : Int) : state_Next.f s e = some (stp s e) := rfl
/-- Events: the last state, and how many did something. -/
def walkL : Int → List Int → Int × Int
  | s, [] => (s, 0)
  | s, e :: es => ((walkL (stp s e).1 es).1, (walkL (stp s e).1 es).2 + if (stp s e).2 = true then 1 else 0)
theorem drop_at (l : List Int) (i : Nat) (h : i < l.length) : l.drop i = rd l (i : Int) :: l.drop (i + 1) := by
  rw [List.drop_eq_getElem_cons h]
  simp [rd, List.getD_eq_getElem?_getD, h]
theorem wrap_in {n : Int} (h0 : -9223372036854775808 ≤ n) (h1 : n ≤ 9223372036854775807) : wrap64 n = n := by unfold wrap64; omega
theorem cast1 (i : Nat) : ((i : Int) + 1) = ((i + 1 : Nat) : Int) := by omega

theorem walk_go (l : List Int) (hl : l.length ≤ 1000) (d : Nat) : ∀ (k i : Nat) (s n : Int), i + d = l.length → d < k → 0 ≤ n → n ≤ i →
    state_Walk.l0 k s n l (l.length : Int) (i : Int) = some ((walkL s (l.drop i)).1, n + (walkL s (l.drop i)).2) := by
  induction d with
  | zero =>
    intro k i s n hi hk h0 h1
    obtain ⟨k, rfl⟩ : ∃ m, k = m + 1 := ⟨k - 1, by omega⟩
    simp only [state_Walk.l0]
    rw [if_neg (by omega), List.drop_eq_nil_of_le (by omega)]
    simp [walkL]
  | succ d ih =>
    intro k i s n hi hk h0 h1
    obtain ⟨k, rfl⟩ : ∃ m, k = m + 1 := ⟨k - 1, by omega⟩
    simp only [state_Walk.l0]
    rw [if_pos (by omega), if_pos (by omega), if_pos (by omega), next_stp, drop_at l i (by omega), Option.bind_some, wrap_in (n := (i : Int) + 1) (by omega) (by omega), wrap_in (n := n + 1) (by omega) (by omega), cast1]
    simp only [walkL]
    by_cases hs : (stp s (rd l (i : Int))).2 = true
    · rw [if_pos hs, if_pos hs, ih k (i + 1) _ (n + 1) (by omega) (by omega) (by omega) (by omega)]
      simp only [Option.some.injEq, Prod.mk.injEq, true_and]
      omega
    · rw [if_neg hs, if_neg hs, ih k (i + 1) _ n (by omega) (by omega) (by omega) (by omega)]
      simp
theorem walk_is (l : List Int) (hl : l.length ≤ 1000) (k : Nat) (hk : l.length < k) (s : Int) : state_Walk.f k s l = some (walkL s l) := by
  unfold state_Walk.f
  have := walk_go l hl l.length k 0 s 0 (by omega) hk (by omega) (by omega)
  simpa using this
theorem ref_go (l : List Int) (hl : l.length ≤ 1000) (d : Nat) : ∀ (k i : Nat) (s n : Int), i + d = l.length → d < k → 0 ≤ n → n ≤ i →
    hostlerref10_Walk.l0 k s l n (i : Int) = some ((walkL s (l.drop i)).1, n + (walkL s (l.drop i)).2) := by
  induction d with
  | zero =>
    intro k i s n hi hk h0 h1
    obtain ⟨k, rfl⟩ : ∃ m, k = m + 1 := ⟨k - 1, by omega⟩
    simp only [hostlerref10_Walk.l0]
    rw [if_neg (by omega), List.drop_eq_nil_of_le (by omega)]
    simp [walkL]
  | succ d ih =>
    intro k i s n hi hk h0 h1
    obtain ⟨k, rfl⟩ : ∃ m, k = m + 1 := ⟨k - 1, by omega⟩
    simp only [hostlerref10_Walk.l0]
    rw [if_pos (by omega), if_pos (by omega), show hostlerref10_Next.f s (rd l (i : Int)) = some (stp s (rd l (i : Int))) from rfl, drop_at l i (by omega), Option.bind_some, wrap_in (n := (i : Int) + 1) (by omega) (by omega), wrap_in (n := n + 1) (by omega) (by omega), cast1]
    simp only [walkL]
    by_cases hs : (stp s (rd l (i : Int))).2 = true
    · rw [if_pos hs, if_pos hs, ih k (i + 1) _ (n + 1) (by omega) (by omega) (by omega) (by omega)]
      simp only [Option.some.injEq, Prod.mk.injEq, true_and]
      omega
    · rw [if_neg hs, if_neg hs, ih k (i + 1) _ n (by omega) (by omega) (by omega) (by omega)]
      simp
theorem ref_is (l : List Int) (hl : l.length ≤ 1000) (k : Nat) (hk : l.length < k) (s : Int) : hostlerref10_Walk.f k s l = some (walkL s l) := by
  unfold hostlerref10_Walk.f
  have := ref_go l hl l.length k 0 s 0 (by omega) hk (by omega) (by omega)
  simpa using this
/-- The document's example. -/
theorem lives_is : hostlerlaw10_lives.f 100 = some true := by decide +kernel
theorem lives_mono (n : Nat) : hostlerlaw10_lives.f (100 + n) = some true := by
  induction n with
  | zero => exact lives_is
  | succ n ih => exact hostlerlaw10_lives.mono (100 + n) _ ih
theorem mn_len (l : List Int) (n : Int) (hn : 0 ≤ n) : 0 ≤ mn (l.length : Int) n ∧ mn (l.length : Int) n ≤ (l.length : Int) ∧ mn (l.length : Int) n ≤ n := by unfold mn; split <;> omega
theorem take_len (l : List Int) (n : Nat) : (l.take n).length ≤ n := by rw [List.length_take]; omega
theorem name_eq (s : Int) : hostlerref10_Name.f s = state_Name.f s := by
  unfold hostlerref10_Name.f state_Name.f
  by_cases h : s < 0
  · rw [if_pos h, if_pos h]
  · rw [if_neg h, if_neg h]
    by_cases h' : s ≥ 4
    · rw [if_pos h', if_pos (by omega)]
    · rw [if_neg h', if_neg (by omega)]; rfl
theorem name_some (s : Int) : ∃ b, state_Name.f s = some b := by
  unfold state_Name.f
  by_cases h : s < 0
  · exact ⟨_, by rw [if_pos h]⟩
  · rw [if_neg h]
    by_cases h' : s ≥ 4
    · exact ⟨_, by rw [if_pos h']⟩
    · rw [if_neg h']
      exact ⟨_, by unfold state_names.f; rw [Option.bind_some, if_pos (by omega), if_pos (by simp; omega)]⟩
theorem event_eq (e : Int) : hostlerref10_Event.f e = state_Event.f e := by
  unfold hostlerref10_Event.f state_Event.f
  by_cases h : e < 0
  · rw [if_pos h]
    repeat rw [if_neg (by omega)]
  · rw [if_neg h]
    by_cases h' : e > 6
    · rw [if_pos h']
      repeat rw [if_neg (by omega)]
    · rw [if_neg h', Option.bind_some, if_pos (by omega), if_pos (by simp; omega)]
      rcases range7 (s := e) (by omega) (by omega) with rfl | rfl | rfl | rfl | rfl | rfl | rfl <;> rfl
end Go.Proofs.Ythlhjgbmcehpdaa.PlainState
