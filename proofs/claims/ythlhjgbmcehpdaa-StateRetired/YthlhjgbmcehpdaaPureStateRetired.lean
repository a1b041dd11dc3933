/-
  The pure statement of StateRetired: a retired host serves only behind Undrain or Enter. Conditions: none.
-/
import Derived.Test.YthlhjgbmcehpdaaPAx7
import Derived.Test.YthlhjgbmcehpdaaPlainState
namespace Go.Proofs.Ythlhjgbmcehpdaa.Pure
open Go.RowKit Go.Proofs.Ythlhjgbmcehpdaa.PA Go.Proofs.YthlhjgbmcehpdaaW.PrintWords Go.Proofs.YthlhjgbmcehpdaaW.PrintLast
open Go.Proofs.Ythlhjgbmcehpdaa.PlainState Go.Proofs.Ythlhjgbmcehpdaa.Man

theorem stp_range {s : Int} (h0 : 0 ≤ s) (h1 : s ≤ 3) (e : Int) : 0 ≤ (stp s e).1 ∧ (stp s e).1 ≤ 3 := by
  unfold stp toS
  repeat' split
  all_goals first | omega | (simp; omega)
theorem stp_three {e : Int} (h1 : e ≠ 1) (h6 : e ≠ 6) : (stp 3 e).1 = 3 := by
  have : toS 3 e = -1 := by
    unfold toS
    rw [if_neg (by omega), if_neg (by omega), if_neg (by omega), if_pos rfl, if_neg h1, if_neg h6]
  unfold stp
  rw [if_pos this]
/-- What follows behind an event. -/
theorem j2_is (l : List Int) (k : Nat) (s : Int) (out : Bool) (i : Nat) (hi : i < l.length) (hi2 : i < 40) (h0 : 0 ≤ s) (h1 : s ≤ 3) (ho : out = false → (stp s (rd l (i : Int))).1 = 3) :
    hostlerlaw10_StateRetired.j2 (k + 1) l s out (i : Int) = hostlerlaw10_StateRetired.l0 k l (stp s (rd l (i : Int))).1 out ((i + 1 : Nat) : Int) := by
  rw [hostlerlaw10_StateRetired.j2, if_pos (by omega), if_pos (by omega), next_stp, Option.bind_some, wrap_in (n := (i : Int) + 1) (by omega) (by omega), cast1]
  have hr := stp_range h0 h1 (rd l (i : Int))
  generalize (stp s (rd l (i : Int))).1 = t at hr ho ⊢
  cases out with
  | true =>
    rw [if_pos rfl]
    by_cases ht : t = 0
    · rw [if_pos ht, if_neg (by omega), if_neg (by omega)]
    · have hb : (t == 0) = false := beq_eq_false_iff_ne.mpr ht
      rw [if_neg ht]
      simp only [state_Serves.f, state_Opens.f, Option.bind_some, hb]
      rw [if_neg (by simp), if_neg (by simp), if_neg (by omega), if_neg (by omega)]
  | false =>
    have ht3 := ho rfl
    subst ht3
    rw [if_neg (by simp), if_pos rfl, if_neg (by omega)]
    simp only [state_Serves.f, state_Opens.f, Option.bind_some]
    rw [if_neg (by decide), if_neg (by decide), if_neg (by omega), if_neg (by omega)]
theorem loop_ret (l : List Int) (d : Nat) : ∀ (k i : Nat) (s : Int) (out : Bool), i + d = 40 → 3 * d + 3 ≤ k → 0 ≤ s → s ≤ 3 → (out = false → s = 3) → hostlerlaw10_StateRetired.l0 k l s out (i : Int) = some true := by
  induction d with
  | zero =>
    intro k i s out hi hk _ _ _
    obtain ⟨k, rfl⟩ : ∃ m, k = m + 2 := ⟨k - 2, by omega⟩
    rw [hostlerlaw10_StateRetired.l0, show decide ((i : Int) < 40) = false from decide_eq_false (by omega)]
    split <;> (rw [hostlerlaw10_StateRetired.j1, if_neg (by simp)])
  | succ d ih =>
    intro k i s out hi hk h0 h1 ho
    obtain ⟨k, rfl⟩ : ∃ m, k = m + 3 := ⟨k - 3, by omega⟩
    by_cases hl : i < l.length
    · rw [hostlerlaw10_StateRetired.l0, if_pos (by omega), show decide ((i : Int) < 40) = true from decide_eq_true (by omega), hostlerlaw10_StateRetired.j1, if_pos rfl]
      have hr := stp_range h0 h1 (rd l (i : Int))
      cases out with
      | true =>
        rw [if_pos rfl, j2_is l k s true i hl (by omega) h0 h1 (by simp)]
        exact ih k (i + 1) _ true (by omega) (by omega) hr.1 hr.2 (by simp)
      | false =>
        obtain rfl := ho rfl
        rw [if_neg (by simp), if_pos (by omega), if_pos (by omega)]
        by_cases e1 : rd l (i : Int) = 1
        · rw [if_pos e1, j2_is l k 3 true i hl (by omega) h0 h1 (by simp)]
          exact ih k (i + 1) _ true (by omega) (by omega) hr.1 hr.2 (by simp)
        · rw [if_neg e1]
          by_cases e6 : rd l (i : Int) = 6
          · rw [show (rd l (i : Int) == 6) = true from beq_iff_eq.mpr e6, j2_is l k 3 true i hl (by omega) h0 h1 (by simp)]
            exact ih k (i + 1) _ true (by omega) (by omega) hr.1 hr.2 (by simp)
          · have h3 := stp_three e1 e6
            rw [show (rd l (i : Int) == 6) = false from beq_eq_false_iff_ne.mpr e6, j2_is l k 3 false i hl (by omega) h0 h1 (fun _ => h3)]
            exact ih k (i + 1) _ false (by omega) (by omega) hr.1 hr.2 (fun _ => h3)
    · rw [hostlerlaw10_StateRetired.l0, if_neg (by omega), hostlerlaw10_StateRetired.j1, if_neg (by simp)]
theorem StateRetired : hostlerlaw10_StateRetired.Pure := by
  intro l _ _ _
  refine ⟨500, ?_⟩
  unfold hostlerlaw10_StateRetired.f
  rw [lives_mono 400, Option.bind_some, if_pos rfl]
  exact loop_ret l 40 500 0 3 false (by omega) (by omega) (by omega) (by omega) (fun _ => rfl)
end Go.Proofs.Ythlhjgbmcehpdaa.Pure
