/-
  Plain facts of the queue's laws. Conditions: none.
-/
import Derived.Test.YtdcnmjdohjodhaaMe
set_option linter.unusedVariables false
set_option linter.unusedSimpArgs false
namespace Go.Proofs.Ytdcnmjdohjodhaa.PureQH
open Go.RowKit Go.Proofs.Ytdcnmjdohjodhaa.PE Go.Proofs.Ytdcnmjdohjodhaa.PA Go.Proofs.Ytdcnmjdohjodhaa.PF Go.Proofs.Ytdcnmjdohjodhaa.Man Go.Proofs.YtdcnmjdohjodhaaW.PrintWords Go.Proofs.YtdcnmjdohjodhaaW.PrintLast Go.Proofs.YtdcnmjdohjodhaaW.PrintMore
theorem wrap_in {x : Int} (h0 : -9223372036854775808 ≤ x) (h1 : x ≤ 9223372036854775807) : wrap64 x = x := by
  unfold wrap64
  omega
theorem mod_n (x : Int) (m : Nat) (h0 : 0 < m) (h9 : m ≤ 1000) : ∃ n : Nat, wrap64 (Int.tmod (IntKind.u64.wrap x) (m : Int)) = (n : Int) ∧ n < m := by
  have hw : 0 ≤ IntKind.u64.wrap x := by
    unfold IntKind.wrap
    simp [IntKind.bits, IntKind.signed]
    omega
  have h1 : 0 ≤ Int.tmod (IntKind.u64.wrap x) (m : Int) := Int.tmod_nonneg _ hw
  have h2 : Int.tmod (IntKind.u64.wrap x) (m : Int) < m := Int.tmod_lt_of_pos _ (by omega)
  rw [wrap_in (by omega) (by omega)]
  exact ⟨(Int.tmod (IntKind.u64.wrap x) (m : Int)).toNat, by omega, by omega⟩
theorem placeOf_none : ∀ (row : List S65) (id j : Int), (∀ x ∈ row, x.f0 ≠ id) → placeOf row id j = -1
  | [], _, _, _ => rfl
  | x :: l, id, j, h => by
    rw [placeOf, if_neg (h x (by simp))]
    exact placeOf_none l id (j + 1) (fun y hy => h y (by simp [hy]))
/-- Where an id stands among ids. -/
def ixOf : List Int → Int → Int → Int
  | [], _, _ => -1
  | x :: l, id, j => if x = id then j else ixOf l id (j + 1)
theorem placeOf_ix : ∀ (row : List S65) (id j : Int), placeOf row id j = ixOf (row.map (·.f0)) id j
  | [], _, _ => rfl
  | x :: l, id, j => by
    rw [placeOf, List.map_cons, ixOf, placeOf_ix l id (j + 1)]
theorem new_f (n : Nat) (h : n ≤ 16) : queue_New.f (n : Int) = some ⟨n, []⟩ := by
  unfold queue_New.f mn mx
  congr 2
  split <;> split <;> omega
theorem w64 (n : Int) (h0 : -1000000 ≤ n) (h : n ≤ 1000000) : wrap64 n = n := wrap_in (by omega) (by omega)
theorem ixOf_none : ∀ (l : List Int) (id j : Int), (∀ x ∈ l, x ≠ id) → ixOf l id j = -1
  | [], _, _, _ => rfl
  | x :: l, id, j, h => by
    rw [ixOf, if_neg (h x (by simp))]
    exact ixOf_none l id (j + 1) (fun y hy => h y (by simp [hy]))
/-- The numbers from 'out', n of them. -/
def ids : Nat → Nat → List Int
  | _, 0 => []
  | out, n + 1 => (out : Int) :: ids (out + 1) n
theorem ids_mem : ∀ (n out : Nat) (x : Int), x ∈ ids out n → (out : Int) ≤ x ∧ x < (out + n : Nat)
  | 0, _, _, h => by simp [ids] at h
  | n + 1, out, x, h => by
    rcases List.mem_cons.mp h with rfl | h
    · omega
    · have := ids_mem n (out + 1) x h
      omega
theorem ids_length : ∀ (n out : Nat), (ids out n).length = n
  | 0, _ => rfl
  | n + 1, out => by simp [ids, ids_length n]
theorem ids_snoc : ∀ (n out : Nat), ids out (n + 1) = ids out n ++ [((out + n : Nat) : Int)]
  | 0, out => by simp [ids]
  | n + 1, out => by
    rw [ids, ids_snoc n (out + 1)]
    simp [ids]
    omega
theorem ixOf_ids : ∀ (n out : Nat) (id j : Int), ixOf (ids out n) id j = if (out : Int) ≤ id ∧ id < (out + n : Nat) then j + (id - out) else -1
  | 0, out, id, j => by
    rw [if_neg (by omega)]
    rfl
  | n + 1, out, id, j => by
    rw [ids, ixOf, ixOf_ids n (out + 1) id (j + 1)]
    split
    · rename_i h
      rw [if_pos (by omega)]
      omega
    · rename_i h
      split
      · rename_i h2
        rw [if_pos (by omega)]
        omega
      · rename_i h2
        rw [if_neg (by omega)]
theorem push_new (s : QS) (out n : Nat) (t : Int) (hr : s.row.map (·.f0) = ids out n) :
    queue_Queue_Push.f s ((out + n : Nat) : Int) t = if n < s.room then some (0, { s with row := s.row ++ [⟨((out + n : Nat) : Int), mn (mx t 0) 1099511627776⟩] }) else some (7, s) := by
  have hl : s.row.length = n := by rw [← ids_length n out, ← hr, List.length_map]
  unfold queue_Queue_Push.f
  have hp : placeOf s.row ((out + n : Nat) : Int) 0 = -1 := by
    rw [placeOf_ix, hr, ixOf_ids, if_neg (by omega)]
  rw [hp, if_neg (by decide), hl]
theorem same_l0 (a : List Int) (ha : a.length ≤ 100000) : ∀ (d i k : Nat), a.length - i = d → i ≤ a.length → d < k → hostlerref01_Same.l0 k a a (i : Int) = some true := by
  intro d
  induction d with
  | zero =>
    intro i k hd hi hk
    obtain ⟨k, rfl⟩ : ∃ m, k = m + 1 := ⟨k - 1, by omega⟩
    rw [hostlerref01_Same.l0, if_neg (by omega)]
  | succ d ih =>
    intro i k hd hi hk
    obtain ⟨k, rfl⟩ : ∃ m, k = m + 1 := ⟨k - 1, by omega⟩
    rw [hostlerref01_Same.l0, if_pos (by omega), if_pos (by omega), if_pos (by omega), if_pos rfl, w64 _ (by omega) (by omega)]
    exact ih (i + 1) k (by omega) (by omega) (by omega)
theorem same_f (a : List Int) (k : Nat) (ha : a.length ≤ 100000) (hk : a.length < k) : hostlerref01_Same.f k a a = some true := by
  unfold hostlerref01_Same.f
  rw [if_pos rfl]
  exact same_l0 a ha a.length 0 k (by omega) (by omega) hk
theorem placeOf_bd : ∀ (row : List S65) (id j : Int), placeOf row id j = -1 ∨ (j ≤ placeOf row id j ∧ placeOf row id j < j + row.length)
  | [], _, _ => .inl rfl
  | x :: l, id, j => by
    rw [placeOf]
    split
    · right
      simp
      omega
    · rcases placeOf_bd l id (j + 1) with h | h
      · exact .inl h
      · right
        simp
        omega
end Go.Proofs.Ytdcnmjdohjodhaa.PureQH
