/-
  The pure statement of QueueRoom. Conditions: none.
-/
import Derived.Test.YtdcnmjdohjodhaaPHx2
import Derived.Test.YtdcnmjdohjodhaaPureQH
set_option linter.unusedVariables false
set_option linter.unusedSimpArgs false
namespace Go.Proofs.Ytdcnmjdohjodhaa.Pure
open Go.RowKit Go.Proofs.Ytdcnmjdohjodhaa.PE Go.Proofs.Ytdcnmjdohjodhaa.PA Go.Proofs.Ytdcnmjdohjodhaa.PF Go.Proofs.Ytdcnmjdohjodhaa.Man Go.Proofs.Ytdcnmjdohjodhaa.PH Go.Proofs.YtdcnmjdohjodhaaW.PrintWords Go.Proofs.YtdcnmjdohjodhaaW.PrintLast Go.Proofs.YtdcnmjdohjodhaaW.PrintMore Go.Proofs.Ytdcnmjdohjodhaa.PureQH
theorem lives_at : hostlerlaw12_lives.f = some true := by decide +kernel
theorem map_erase : ∀ (l : List S65) (P : Nat), (l.eraseIdx P).map (·.f0) = (l.map (·.f0)).eraseIdx P
  | [], _ => rfl
  | _ :: _, 0 => rfl
  | x :: l, P + 1 => by simp [map_erase l P]
theorem l1_ok (R : Nat) (l1 : List S37) (i : Int) (was : List Int) (p : Int) (P : Nat) (hw : was.length ≤ 16) (hp : p = (P : Int) ∨ p = -1 ∧ P = was.length) (s : QS) (k0 : Nat) (want : List Int) (hwant : want = was.eraseIdx P)
    (hj4 : ∀ k, k0 ≤ k → hostlerlaw12_QueueRoom.j4 k (R : Int) l1 i want s = some true) :
    ∀ (d j k : Nat), was.length - j = d → j ≤ was.length → k0 + d + 1 ≤ k → hostlerlaw12_QueueRoom.l1 k (R : Int) l1 i was ((was.take j).eraseIdx P) p (j : Int) s = some true := by
  intro d
  induction d with
  | zero =>
    intro j k hd hj hk
    obtain ⟨k, rfl⟩ : ∃ m, k = m + 1 := ⟨k - 1, by omega⟩
    rw [hostlerlaw12_QueueRoom.l1, if_neg (by omega), List.take_of_length_le (by omega), ← hwant]
    exact hj4 k (by omega)
  | succ d ih =>
    intro j k hd hj hk
    obtain ⟨k, rfl⟩ : ∃ m, k = m + 1 := ⟨k - 1, by omega⟩
    have hlt : j < was.length := by omega
    have hs := List.take_succ_eq_append_getElem hlt
    have htl : (was.take j).length = j := by simp; omega
    have hrd : rd was (j : Int) = was[j] := by
      simp only [rd, Int.toNat_natCast, List.getD]
      rw [List.getElem?_eq_getElem hlt]
      rfl
    have hnx := ih (j + 1) k (by omega) (by omega) (by omega)
    rw [hostlerlaw12_QueueRoom.l1, if_pos (by omega), w64 _ (by omega) (by omega)]
    by_cases hjp : (j : Int) = p
    · have hjP : j = P := by omega
      rw [if_pos hjp]
      rw [hs, ← hjP, List.eraseIdx_append_of_length_le (by omega), htl, Nat.sub_self] at hnx
      rw [← hjP, List.eraseIdx_of_length_le (by omega)]
      simpa using hnx
    · rw [if_neg hjp, if_pos (by omega), if_pos (by
        have := List.length_eraseIdx_le (was.take j) P
        omega), hrd]
      rw [hs] at hnx
      by_cases hPj : P < j
      · rw [List.eraseIdx_append_of_lt_length (by omega)] at hnx
        exact hnx
      · rw [List.eraseIdx_of_length_le (by rw [List.length_append, htl]; simp; omega)] at hnx
        rw [List.eraseIdx_of_length_le (by omega)]
        exact hnx
theorem l0_ok (R : Nat) (hR : R ≤ 16) (l1 : List S37) (hl1 : l1.length ≤ 100) : ∀ (d i : Nat) (s : QS) (k : Nat), l1.length - i = d → i ≤ l1.length → 25 * d + 30 ≤ k → s.room = R → s.row.length ≤ R →
    hostlerlaw12_QueueRoom.l0 k (R : Int) l1 (i : Int) s = some true := by
  intro d
  induction d with
  | zero =>
    intro i s k hd hi hk hroom hlen
    obtain ⟨k, rfl⟩ : ∃ m, k = m + 1 := ⟨k - 1, by omega⟩
    rw [hostlerlaw12_QueueRoom.l0, if_neg (by omega)]
  | succ d ih =>
    intro i s k hd hi hk hroom hlen
    have hj4 : ∀ (s' : QS) (k : Nat), 25 * d + 31 ≤ k → s'.room = R → s'.row.length ≤ R → hostlerlaw12_QueueRoom.j4 k (R : Int) l1 (i : Int) (s'.row.map (·.f0)) s' = some true := by
      intro s' k hk hroom hlen
      obtain ⟨k, rfl⟩ : ∃ m, k = m + 1 := ⟨k - 1, by omega⟩
      rw [hostlerlaw12_QueueRoom.j4]
      simp only [queue_Queue_Ids.f, queue_Queue_Len.f, queue_Queue_Room.f, Option.bind_some]
      rw [same_f _ k (by simp; omega) (by simp; omega), Option.bind_some, if_pos rfl, w64 _ (by omega) (by omega), if_pos (by omega), w64 _ (by omega) (by omega)]
      exact ih (i + 1) s' k (by omega) (by omega) (by omega) hroom hlen
    obtain ⟨k, rfl⟩ : ∃ m, k = m + 4 := ⟨k - 4, by omega⟩
    obtain ⟨x, hx⟩ : ∃ x, x = rd_T37 l1 (i : Int) := ⟨_, rfl⟩
    obtain ⟨t, ht, ht5⟩ := mod_n x.f0 5 (by decide) (by decide)
    have hpush : ∀ k, 25 * d + 32 ≤ k → ∀ t, hostlerlaw12_QueueRoom.j1 k (R : Int) l1 (i : Int) (s.row.map (·.f0)) [] t true s x.f0 x.f1 x.f2 x.f3 = some true := by
      intro k hk t
      obtain ⟨k, rfl⟩ : ∃ m, k = m + 1 := ⟨k - 1, by omega⟩
      rw [hostlerlaw12_QueueRoom.j1, if_pos rfl, if_pos (by simp; omega), Option.bind_some]
      unfold queue_Queue_Push.f
      split
      · rw [Option.bind_some]
        dsimp only
        rw [if_neg (by decide), List.nil_append]
        exact hj4 s k (by omega) hroom hlen
      · split
        · rw [Option.bind_some]
          dsimp only
          rw [if_pos rfl, if_pos (by simp; omega)]
          have := hj4 { s with row := s.row ++ [⟨x.f1, mn (mx x.f2 0) 1099511627776⟩] } k (by omega) hroom (by simp; omega)
          simpa using this
        · rw [Option.bind_some]
          dsimp only
          rw [if_neg (by decide), List.nil_append]
          exact hj4 s k (by omega) hroom hlen
    have hpop : ∀ k, 25 * d + 32 ≤ k → ∀ t, hostlerlaw12_QueueRoom.j2 k (R : Int) l1 (i : Int) (s.row.map (·.f0)) [] t true s x.f0 x.f1 x.f2 x.f3 = some true := by
      intro k hk t
      obtain ⟨k, rfl⟩ : ∃ m, k = m + 1 := ⟨k - 1, by omega⟩
      rw [hostlerlaw12_QueueRoom.j2, if_pos rfl]
      cases hr : s.row with
      | nil =>
        have hp : queue_Queue_Pop.f s = some (0, false, s) := by unfold queue_Queue_Pop.f; rw [hr]
        rw [hp, Option.bind_some, if_neg (by simp)]
        have := hj4 s k (by omega) hroom hlen
        rw [hr] at this
        exact this
      | cons y l =>
        have hp : queue_Queue_Pop.f s = some (y.f0, true, { s with row := l }) := by unfold queue_Queue_Pop.f; rw [hr]
        rw [hr] at hlen
        rw [hp, Option.bind_some, if_pos (by simp only [List.map_cons, List.length_cons]; omega), if_pos (by simp only [List.map_cons, List.length_cons]; omega), Option.bind_some, if_pos (by simp at hlen ⊢; omega)]
        exact hj4 { s with row := l } k (by omega) hroom (by simp only [List.length_cons] at hlen; show l.length ≤ R; omega)
    have hrem : ∀ k, 25 * d + 51 ≤ k → hostlerlaw12_QueueRoom.j2 k (R : Int) l1 (i : Int) (s.row.map (·.f0)) [] 3 false s x.f0 x.f1 x.f2 x.f3 = some true := by
      intro k hk
      obtain ⟨k, rfl⟩ : ∃ m, k = m + 1 := ⟨k - 1, by omega⟩
      rw [hostlerlaw12_QueueRoom.j2, if_neg (by decide), if_pos rfl]
      simp only [queue_Queue_Place.f, Option.bind_some]
      unfold queue_Queue_Remove.f
      have hb := placeOf_bd s.row x.f1 0
      by_cases hp : placeOf s.row x.f1 0 < 0
      · rw [if_pos hp, Option.bind_some]
        dsimp only
        rw [decide_eq_false (by omega), if_neg (by decide)]
        have hw : (s.row.map (·.f0)) = (s.row.map (·.f0)).eraseIdx (s.row.map (·.f0)).length := (List.eraseIdx_of_length_le (Nat.le_refl _)).symm
        have := l1_ok R l1 i (s.row.map (·.f0)) (placeOf s.row x.f1 0) (s.row.map (·.f0)).length (by simp; omega) (.inr ⟨by omega, rfl⟩) s (25 * d + 31) _ hw (fun k hk => hj4 s k hk hroom hlen) (s.row.map (·.f0)).length 0 k (by omega) (by omega) (by simp; omega)
        simpa using this
      · rw [if_neg hp, Option.bind_some]
        dsimp only
        rw [decide_eq_true (by omega), if_neg (by decide)]
        obtain ⟨P, hP⟩ : ∃ P : Nat, placeOf s.row x.f1 0 = (P : Int) := ⟨(placeOf s.row x.f1 0).toNat, by omega⟩
        rw [hP, Int.toNat_natCast]
        have hw : ({ s with row := s.row.eraseIdx P } : QS).row.map (·.f0) = (s.row.map (·.f0)).eraseIdx P := map_erase _ _
        have hle := List.length_eraseIdx_le s.row P
        have := l1_ok R l1 i (s.row.map (·.f0)) (P : Int) P (by simp; omega) (.inl rfl) { s with row := s.row.eraseIdx P } (25 * d + 31) _ hw (fun k hk => hj4 _ k hk hroom (by simp only; omega)) (s.row.map (·.f0)).length 0 k (by omega) (by omega) (by simp; omega)
        simpa using this
    rw [hostlerlaw12_QueueRoom.l0, if_pos (by omega), if_pos (by omega), ← hx]
    simp only [queue_Queue_Ids.f, hostlerlaw12_Step_kind.f, Option.bind_some]
    have ht' : wrap64 (Int.tmod (IntKind.u64.wrap x.f0) 5) = (t : Int) := ht
    rw [ht']
    have h5 : (t : Int) = 0 ∨ (t : Int) = 1 ∨ (t : Int) = 2 ∨ (t : Int) = 3 ∨ (t : Int) = 4 := by omega
    clear ht ht'
    generalize (t : Int) = u at h5
    clear ht5
    rcases h5 with rfl | rfl | rfl | rfl | rfl
    · rw [if_pos rfl]
      exact hpush (k + 3) (by omega) _
    · rw [if_neg (by decide)]
      exact hpush (k + 3) (by omega) _
    · rw [if_neg (by decide), hostlerlaw12_QueueRoom.j1, if_neg (by decide), if_pos rfl]
      exact hpop (k + 2) (by omega) _
    · rw [if_neg (by decide), hostlerlaw12_QueueRoom.j1, if_neg (by decide), if_neg (by decide)]
      exact hrem (k + 2) (by omega)
    · rw [if_neg (by decide), hostlerlaw12_QueueRoom.j1, if_neg (by decide), if_neg (by decide)]
      exact hpop (k + 2) (by omega) _
theorem QueueRoom : hostlerlaw12_QueueRoom.Pure := by
  intro a0 l1 _ _ _ _
  obtain ⟨n, hn, hn17⟩ := mod_n a0 17 (by decide) (by decide)
  refine ⟨2600, ?_⟩
  unfold hostlerlaw12_QueueRoom.f
  have hm0 : 0 ≤ mn (l1.length : Int) 100 := by unfold mn; split <;> omega
  have hm1 : mn (l1.length : Int) 100 ≤ (l1.length : Int) := by unfold mn; split <;> omega
  have hm2 : mn (l1.length : Int) 100 ≤ 100 := by unfold mn; split <;> omega
  rw [lives_at, Option.bind_some, if_pos rfl, show wrap64 (Int.tmod (IntKind.u64.wrap a0) 17) = (n : Int) from hn, new_f n (by omega), Option.bind_some, if_pos hm0, if_pos hm1]
  have hlen : (l1.take (mn (l1.length : Int) 100).toNat).length ≤ 100 := by simp; omega
  exact l0_ok n (by omega) _ hlen _ 0 ⟨n, []⟩ 2600 rfl (by omega) (by omega) rfl (by simp)
end Go.Proofs.Ytdcnmjdohjodhaa.Pure
