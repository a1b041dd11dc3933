/-
  The pure statement of QueueRow. Conditions: none.
-/
import Derived.Test.YtdcnmjdohjodhaaPGx1
import Derived.Test.YtdcnmjdohjodhaaPureQ
set_option linter.unusedVariables false
set_option linter.unusedSimpArgs false
namespace Go.Proofs.Ytdcnmjdohjodhaa.Pure
open Go.RowKit Go.Proofs.Ytdcnmjdohjodhaa.PE Go.Proofs.Ytdcnmjdohjodhaa.PA Go.Proofs.Ytdcnmjdohjodhaa.PF Go.Proofs.Ytdcnmjdohjodhaa.Man Go.Proofs.Ytdcnmjdohjodhaa.PG Go.Proofs.YtdcnmjdohjodhaaW.PrintWords Go.Proofs.YtdcnmjdohjodhaaW.PrintLast Go.Proofs.Ytdcnmjdohjodhaa.PureQ
theorem row_loop (R : Nat) (hR : R ≤ 16) (l1 : List Bool) : ∀ (d i out n : Nat) (s : QS) (k : Nat), 100 - i ≤ d → 3 * d + 5 ≤ k → s.room = R → s.row.map (·.f0) = ids out n → n ≤ R → out + n ≤ i → i ≤ 100 →
    hostlerlaw12_QueueRow.l0 k (R : Int) l1 ((out + n : Nat) : Int) (out : Int) (i : Int) s = some true := by
  intro d
  induction d with
  | zero =>
    intro i out n s k hd hk hroom hrow hn ho hi
    obtain ⟨k, rfl⟩ : ∃ m, k = m + 2 := ⟨k - 2, by omega⟩
    have hl : s.row.length = n := by rw [← ids_length n out, ← hrow, List.length_map]
    have hj : hostlerlaw12_QueueRow.j1 (k + 1) (R : Int) l1 ((out + n : Nat) : Int) (out : Int) (i : Int) false s = some true := by
      simp only [hostlerlaw12_QueueRow.j1]
      rw [if_neg (by decide)]
      simp only [queue_Queue_Len.f, Option.bind_some]
      rw [w64 _ (by omega) (by omega), if_pos (by omega)]
      simp; omega
    simp only [hostlerlaw12_QueueRow.l0]
    have e : decide ((i : Int) < 100) = false := decide_eq_false (by omega)
    rw [e, ite_self]
    exact hj
  | succ d ih =>
    intro i out n s k hd hk hroom hrow hn ho hi
    obtain ⟨k, rfl⟩ : ∃ m, k = m + 3 := ⟨k - 3, by omega⟩
    have hl : s.row.length = n := by rw [← ids_length n out, ← hrow, List.length_map]
    have hj : hostlerlaw12_QueueRow.j1 (k + 2) (R : Int) l1 ((out + n : Nat) : Int) (out : Int) (i : Int) false s = some true := by
      simp only [hostlerlaw12_QueueRow.j1]
      rw [if_neg (by decide)]
      simp only [queue_Queue_Len.f, Option.bind_some]
      rw [w64 _ (by omega) (by omega), if_pos (by omega)]
      simp; omega
    simp only [hostlerlaw12_QueueRow.l0]
    by_cases h1 : (i : Int) < (l1.length : Int)
    · rw [if_pos h1]
      by_cases h2 : (i : Int) < 100
      · rw [decide_eq_true h2]
        simp only [hostlerlaw12_QueueRow.j1]
        rw [if_pos trivial, if_pos (by omega), if_pos h1, w64 (i + 1) (by omega) (by omega), w64 (((out + n : Nat) : Int) + 1) (by omega) (by omega), w64 (((out + n : Nat) : Int) - out) (by omega) (by omega)]
        split
        · rw [push_new s out n _ hrow]
          by_cases h3 : n < s.room
          · rw [if_pos h3, Option.bind_some]
            dsimp only
            rw [decide_eq_true (show ((out + n : Nat) : Int) - out < R by omega), if_neg (by decide), if_pos rfl]
            exact ih (i + 1) out (n + 1) _ (k + 1) (by omega) (by omega) hroom (by rw [ids_snoc]; simp [hrow]) (by omega) (by omega) (by omega)
          · rw [if_neg h3, Option.bind_some]
            dsimp only
            rw [decide_eq_false (show ¬ ((out + n : Nat) : Int) - out < R by omega), if_neg (by decide), if_neg (by decide), if_pos rfl]
            simp only [queue_Queue_Place.f, Option.bind_some]
            rw [show placeOf s.row ((out + n : Nat) : Int) 0 = -1 by rw [placeOf_ix, hrow, ixOf_ids, if_neg (by omega)], if_pos rfl]
            exact ih (i + 1) out n _ (k + 1) (by omega) (by omega) hroom hrow (by omega) (by omega) (by omega)
        · cases n with
          | zero =>
            have hr0 : s.row = [] := List.length_eq_zero_iff.mp hl
            have hp : queue_Queue_Pop.f s = some (0, false, s) := by unfold queue_Queue_Pop.f; rw [hr0]
            rw [hp, Option.bind_some]
            dsimp only
            rw [decide_eq_false (show ¬ ((out + 0 : Nat) : Int) > out by omega), if_neg (by decide), if_neg (by decide)]
            simp only [hostlerlaw12_QueueRow.j2]
            rw [if_neg (by decide), if_neg (by decide), w64 (i + 1) (by omega) (by omega)]
            exact ih (i + 1) out 0 _ k (by omega) (by omega) hroom hrow (by omega) (by omega) (by omega)
          | succ n =>
            obtain ⟨x, l, hr0⟩ : ∃ x l, s.row = x :: l := by
              cases hh : s.row with
              | nil => rw [hh] at hl; simp at hl
              | cons x l => exact ⟨x, l, rfl⟩
            have hp : queue_Queue_Pop.f s = some (x.f0, true, { s with row := l }) := by unfold queue_Queue_Pop.f; rw [hr0]
            rw [hr0, ids, List.map_cons] at hrow
            obtain ⟨hx, hrow⟩ := List.cons.inj hrow
            rw [hp, Option.bind_some]
            dsimp only
            rw [decide_eq_true (show ((out + (n + 1) : Nat) : Int) > out by omega), if_neg (by decide), if_pos rfl, show (x.f0 != (out : Int)) = false by simp [hx]]
            simp only [hostlerlaw12_QueueRow.j2]
            rw [if_neg (by decide), if_pos trivial, w64 (i + 1) (by omega) (by omega), w64 ((out : Int) + 1) (by omega) (by omega)]
            have := ih (i + 1) (out + 1) n { s with row := l } k (by omega) (by omega) hroom hrow (by omega) (by omega) (by omega)
            rw [show out + 1 + n = out + (n + 1) by omega] at this
            exact this
      · rw [decide_eq_false h2]
        exact hj
    · rw [if_neg h1]
      exact hj
theorem QueueRow : hostlerlaw12_QueueRow.Pure := by
  intro a0 l1 _ _ _ _
  obtain ⟨n, hn, hn17⟩ := mod_n a0 17 (by decide) (by decide)
  refine ⟨305, ?_⟩
  unfold hostlerlaw12_QueueRow.f
  rw [lives_at, Option.bind_some, if_pos rfl, show wrap64 (Int.tmod (IntKind.u64.wrap a0) 17) = (n : Int) from hn, new_f n (by omega), Option.bind_some]
  exact row_loop n (by omega) l1 100 0 0 0 ⟨n, []⟩ 305 (by omega) (by omega) rfl rfl (by omega) (by omega) (by omega)

end Go.Proofs.Ytdcnmjdohjodhaa.Pure
