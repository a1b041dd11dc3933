/-
  The pure statement of QueueLate. Conditions: none.
-/
import Derived.Test.YtdcnmjdohjodhaaPGx2
import Derived.Test.YtdcnmjdohjodhaaPureQ
set_option linter.unusedVariables false
set_option linter.unusedSimpArgs false
namespace Go.Proofs.Ytdcnmjdohjodhaa.Pure
open Go.RowKit Go.Proofs.Ytdcnmjdohjodhaa.PE Go.Proofs.Ytdcnmjdohjodhaa.PA Go.Proofs.Ytdcnmjdohjodhaa.PF Go.Proofs.Ytdcnmjdohjodhaa.Man Go.Proofs.Ytdcnmjdohjodhaa.PG Go.Proofs.YtdcnmjdohjodhaaW.PrintWords Go.Proofs.YtdcnmjdohjodhaaW.PrintLast Go.Proofs.YtdcnmjdohjodhaaW.PrintMore Go.Proofs.Ytdcnmjdohjodhaa.PureQ
/-- A row of ids in order, each with its time. -/
def mkRow : Nat → List Int → List S65
  | _, [] => []
  | j, t :: ts => ⟨(j : Int), t⟩ :: mkRow (j + 1) ts
theorem mkRow_ids : ∀ (ts : List Int) (j : Nat), (mkRow j ts).map (·.f0) = ids j ts.length
  | [], _ => rfl
  | t :: ts, j => by simp [mkRow, ids, mkRow_ids ts (j + 1)]
theorem mkRow_length : ∀ (ts : List Int) (j : Nat), (mkRow j ts).length = ts.length
  | [], _ => rfl
  | t :: ts, j => by simp [mkRow, mkRow_length ts (j + 1)]
theorem mkRow_snoc : ∀ (ts : List Int) (j : Nat) (t : Int), mkRow j (ts ++ [t]) = mkRow j ts ++ [⟨((j + ts.length : Nat) : Int), t⟩]
  | [], j, t => by simp [mkRow]
  | x :: ts, j, t => by
    rw [List.cons_append, mkRow, mkRow_snoc ts (j + 1) t]
    simp [mkRow]
    omega
theorem late_at (now wait : Int) (x : S65) (h0 : 0 ≤ now ∧ now ≤ 10000) (h1 : 0 ≤ wait ∧ wait ≤ 10000) (h2 : 0 ≤ x.f1 ∧ x.f1 ≤ 10000) : late now wait x = decide (x.f1 + wait ≤ now) := by
  have e : ∀ a : Int, 0 ≤ a → a ≤ 20000 → mn (mx a 0) 1099511627776 = a := by
    intro a ha hb
    unfold mx mn
    split <;> split <;> omega
  unfold late sat_Add.f sat_Past.f sat_Sub.f sat_Cut.f
  simp only [Option.bind_some, Option.getD_some]
  rw [e _ h2.1 (by omega), e _ h1.1 (by omega), e _ h0.1 (by omega), w64 (x.f1 + wait) (by omega) (by omega)]
  have e2 : mn (x.f1 + wait) 1099511627776 = x.f1 + wait := by
    unfold mn
    split <;> omega
  rw [e2, e _ (by omega) (by omega), w64 _ (by omega) (by omega)]
  unfold mx
  by_cases h : x.f1 + wait ≤ now
  · rw [decide_eq_true h]
    split <;> simp <;> omega
  · rw [decide_eq_false h]
    split <;> simp <;> omega
theorem exp_at (now wait : Int) (h0 : 0 ≤ now ∧ now ≤ 10000) (h1 : 0 ≤ wait ∧ wait ≤ 10000) : ∀ (ts : List Int) (j n : Nat) (acc : List Int), (∀ t ∈ ts, 0 ≤ t ∧ t ≤ 10000) → ts.Pairwise (· ≤ ·) → ts.length ≤ n →
    ∃ m, m ≤ ts.length ∧ expLoop now wait n (mkRow j ts) acc = (acc ++ ids j m, mkRow (j + m) (ts.drop m)) ∧ (∀ i, i < m → rd ts (i : Int) + wait ≤ now) ∧ (∀ i, m ≤ i → i < ts.length → now < rd ts (i : Int) + wait) := by
  intro ts
  induction ts with
  | nil =>
    intro j n acc _ _ _
    refine ⟨0, by simp, ?_, fun i h => by omega, fun i _ h => by simp at h⟩
    cases n <;> simp [expLoop, mkRow, ids]
  | cons t ts ih =>
    intro j n acc hb hs hn
    obtain ⟨n, rfl⟩ : ∃ m, n = m + 1 := ⟨n - 1, by simp at hn; omega⟩
    have hs2 := List.pairwise_cons.mp hs
    have hl : ∀ x ∈ mkRow j (t :: ts), ∃ u ∈ (t :: ts), x.f1 = u := by
      intro x hx
      have : ∀ (us : List Int) (i : Nat), x ∈ mkRow i us → ∃ u ∈ us, x.f1 = u := by
        intro us
        induction us with
        | nil => intro i h; simp [mkRow] at h
        | cons v us ih2 =>
          intro i h
          rcases List.mem_cons.mp h with rfl | h
          · exact ⟨v, by simp, rfl⟩
          · obtain ⟨u, hu, e⟩ := ih2 _ h
            exact ⟨u, by simp [hu], e⟩
      exact this _ _ hx
    by_cases ht : t + wait ≤ now
    · have hlt : late now wait ⟨(j : Int), t⟩ = true := by rw [late_at now wait ⟨(j : Int), t⟩ h0 h1 (hb t (by simp))]; exact decide_eq_true ht
      obtain ⟨m, hm, he, hlo, hhi⟩ := ih (j + 1) n (acc ++ [(j : Int)]) (fun u hu => hb u (by simp [hu])) hs2.2 (by simp at hn; omega)
      refine ⟨m + 1, by simp; omega, ?_, ?_, ?_⟩
      · rw [mkRow, expLoop, List.find?_cons_of_pos hlt]
        dsimp only
        rw [show (placeOf (⟨(j : Int), t⟩ :: mkRow (j + 1) ts) (j : Int) 0).toNat = 0 by rw [placeOf, if_pos rfl]; rfl, List.eraseIdx_zero, List.tail_cons, he]
        simp [ids, Nat.add_assoc, Nat.add_comm 1 m]
      · intro i hi
        cases i with
        | zero => simpa [rd] using ht
        | succ i => simpa [rd] using hlo i (by omega)
      · intro i hi hi2
        cases i with
        | zero => omega
        | succ i => simpa [rd] using hhi i (by omega) (by simp at hi2; omega)
    · refine ⟨0, by simp, ?_, fun i h => by omega, ?_⟩
      · rw [expLoop, List.find?_eq_none.mpr]
        · simp [ids]
        · intro x hx
          obtain ⟨u, hu, e⟩ := hl x hx
          have hu2 : t ≤ u := by
            rcases List.mem_cons.mp hu with rfl | h
            · omega
            · exact hs2.1 u h
          rw [late_at now wait x h0 h1 (by rw [e]; exact hb u hu)]
          simp; omega
      · intro i _ hi
        have hmem : rd (t :: ts) (i : Int) ∈ (t :: ts) := by
          simp only [rd, Int.toNat_natCast]
          rw [show (t :: ts).getD i 0 = (t :: ts)[i] by rw [List.getD, List.getElem?_eq_getElem hi]; rfl]
          exact List.getElem_mem hi
        rcases List.mem_cons.mp hmem with h | h
        · omega
        · have := hs2.1 _ h
          omega
theorem rd_ids : ∀ (n out i : Nat), i < n → rd (ids out n) (i : Int) = ((out + i : Nat) : Int)
  | 0, _, _, h => by omega
  | n + 1, out, 0, _ => by simp [ids, rd]
  | n + 1, out, i + 1, h => by
    have := rd_ids n (out + 1) i (by omega)
    simp only [rd, Int.toNat_natCast] at this ⊢
    rw [ids, List.getD_cons_succ, this]
    omega
theorem late_l1 (w now : Int) (ats : List Int) (m : Nat) (hw : 0 ≤ w ∧ w ≤ 10000) (hnow : 0 ≤ now ∧ now ≤ 10000) (hb : ∀ t ∈ ats, 0 ≤ t ∧ t ≤ 10000) (hs : ats.Pairwise (· ≤ ·)) (hm : m ≤ ats.length) (hlen : ats.length ≤ 16)
    (hlo : ∀ i, i < m → rd ats (i : Int) + w ≤ now) (hhi : ∀ i, m ≤ i → i < ats.length → now < rd ats (i : Int) + w) (s : QS) (hrow : s.row = mkRow m (ats.drop m)) :
    ∀ (d i k : Nat), ats.length - i ≤ d → i ≤ ats.length → d < k → hostlerlaw12_QueueLate.l1 k w now ats (ids 0 m) (i : Int) s = some true := by
  have hl : s.row.length = ats.length - m := by rw [hrow, mkRow_length, List.length_drop]
  intro d
  induction d with
  | zero =>
    intro i k hd hi hk
    obtain ⟨k, rfl⟩ : ∃ m, k = m + 1 := ⟨k - 1, by omega⟩
    rw [hostlerlaw12_QueueLate.l1, if_neg (by omega)]
    obtain ⟨m2, hm2, he, hlo2, _⟩ := exp_at now w hnow hw (ats.drop m) m (ats.drop m).length [] (fun t ht => hb t (List.mem_of_mem_drop ht)) (hs.sublist (List.drop_sublist m ats)) (Nat.le_refl _)
    have h20 : m2 = 0 := by
      rcases Nat.eq_zero_or_pos m2 with h | h
      · exact h
      · exfalso
        have h1 := hlo2 0 h
        rw [List.length_drop] at hm2
        have h2 := hhi m (Nat.le_refl _) (by omega)
        have : rd (ats.drop m) ((0 : Nat) : Int) = rd ats (m : Int) := by
          simp [rd, List.getD, List.getElem?_drop]
        omega
    subst h20
    unfold queue_Queue_Expire.f
    rw [hrow, mkRow_length, he]
    simp only [Option.bind_some, ids, List.append_nil]
    rw [if_pos (show ((([] : List Int).length : Nat) : Int) = 0 from rfl)]
    simp only [queue_Queue_Len.f, Option.bind_some, Nat.add_zero, List.drop_zero]
    rw [mkRow_length, ids_length, List.length_drop, w64 _ (by omega) (by omega)]
    simp; omega
  | succ d ih =>
    intro i k hd hi hk
    by_cases hlt : i < ats.length
    · obtain ⟨k, rfl⟩ : ∃ m, k = m + 1 := ⟨k - 1, by omega⟩
      have hbi : 0 ≤ rd ats (i : Int) ∧ rd ats (i : Int) ≤ 10000 := by
        refine hb _ ?_
        simp only [rd, Int.toNat_natCast]
        rw [show ats.getD i 0 = ats[i] by simp [List.getD, hlt]]
        exact List.getElem_mem hlt
      rw [hostlerlaw12_QueueLate.l1, if_pos (by omega), if_pos (by omega), w64 (now - rd ats (i : Int)) (by omega) (by omega), ids_length, w64 ((i : Int) + 1) (by omega) (by omega)]
      by_cases him : i < m
      · have h1 := hlo i him
        rw [if_neg (by rw [decide_eq_true (show now - rd ats (i : Int) ≥ w by omega), decide_eq_true (show (i : Int) < (m : Int) by omega)]; decide), if_pos (by omega), if_pos (by omega), rd_ids m 0 i him, if_pos (by omega)]
        exact ih (i + 1) k (by omega) (by omega) (by omega)
      · have h1 := hhi i (by omega) hlt
        rw [if_neg (by rw [decide_eq_false (show ¬ now - rd ats (i : Int) ≥ w by omega), decide_eq_false (show ¬ (i : Int) < (m : Int) by omega)]; decide), if_neg (by omega)]
        simp only [queue_Queue_Place.f, Option.bind_some]
        have hp : placeOf s.row (i : Int) 0 = (i : Int) - m := by
          rw [placeOf_ix, hrow, mkRow_ids, ixOf_ids, List.length_drop, if_pos (by omega)]
          omega
        rw [hp, w64 _ (by omega) (by omega), if_pos rfl]
        exact ih (i + 1) k (by omega) (by omega) (by omega)
    · exact ih i k (by omega) hi (by omega)
theorem late_l0 (steps : List Int) (w more : Nat) (hw : w < 30) (hmo : more < 30) : ∀ (d : Nat) (now : Int) (ats : List Int) (s : QS) (k : Nat), 16 - ats.length ≤ d → 2 * d + 25 ≤ k → ats.length ≤ 16 → s.room = 16 → s.row = mkRow 0 ats →
    0 ≤ now → now ≤ 9 * ats.length → (∀ t ∈ ats, 0 ≤ t ∧ t ≤ now) → ats.Pairwise (· ≤ ·) →
    hostlerlaw12_QueueLate.l0 k steps (w : Int) (more : Int) now ats (ats.length : Int) s = some true := by
  intro d
  induction d with
  | zero =>
    intro now ats s k hd hk hlen hroom hrow hn0 hn1 hb hs
    obtain ⟨k, rfl⟩ : ∃ m, k = m + 2 := ⟨k - 2, by omega⟩
    rw [hostlerlaw12_QueueLate.l0, decide_eq_false (show ¬ (ats.length : Int) < 16 by omega), ite_self, hostlerlaw12_QueueLate.j1, if_neg (by decide), w64 _ (by omega) (by omega)]
    obtain ⟨m, hm, he, hlo, hhi⟩ := exp_at (now + more) w (by omega) (by omega) ats 0 ats.length [] (fun t ht => by have := hb t ht; omega) hs (Nat.le_refl _)
    unfold queue_Queue_Expire.f
    rw [hrow, mkRow_length, he, Option.bind_some]
    rw [List.nil_append, Nat.zero_add]
    exact late_l1 w (now + more) ats m (by omega) (by omega) (fun t ht => by have := hb t ht; omega) hs hm hlen hlo hhi _ rfl ats.length 0 k (by omega) (by omega) (by omega)
  | succ d ih =>
    intro now ats s k hd hk hlen hroom hrow hn0 hn1 hb hs
    obtain ⟨k, rfl⟩ : ∃ m, k = m + 2 := ⟨k - 2, by omega⟩
    have hend : hostlerlaw12_QueueLate.j1 (k + 1) steps (w : Int) (more : Int) now ats (ats.length : Int) false s = some true := by
      rw [hostlerlaw12_QueueLate.j1, if_neg (by decide), w64 _ (by omega) (by omega)]
      obtain ⟨m, hm, he, hlo, hhi⟩ := exp_at (now + more) w (by omega) (by omega) ats 0 ats.length [] (fun t ht => by have := hb t ht; omega) hs (Nat.le_refl _)
      unfold queue_Queue_Expire.f
      rw [hrow, mkRow_length, he, Option.bind_some]
      rw [List.nil_append, Nat.zero_add]
      exact late_l1 w (now + more) ats m (by omega) (by omega) (fun t ht => by have := hb t ht; omega) hs hm hlen hlo hhi _ rfl ats.length 0 k (by omega) (by omega) (by omega)
    rw [hostlerlaw12_QueueLate.l0]
    by_cases h1 : (ats.length : Int) < (steps.length : Int)
    · rw [if_pos h1]
      by_cases h2 : (ats.length : Int) < 16
      · rw [decide_eq_true h2, hostlerlaw12_QueueLate.j1, if_pos rfl, if_pos (by omega), if_pos h1, if_pos (by omega)]
        obtain ⟨e, he, he9⟩ := mod_n (rd steps (ats.length : Int)) 9 (by decide) (by decide)
        have he' : wrap64 (Int.tmod (IntKind.u64.wrap (rd steps (ats.length : Int))) 9) = (e : Int) := he
        rw [he', w64 (now + e) (by omega) (by omega), w64 ((ats.length : Int) + 1) (by omega) (by omega)]
        have hl : s.row.length = ats.length := by rw [hrow, mkRow_length]
        have hp := push_new s 0 ats.length (now + e) (by rw [hrow, mkRow_ids])
        rw [Nat.zero_add, if_pos (by omega)] at hp
        rw [hp, Option.bind_some]
        dsimp only
        rw [if_pos rfl]
        have ht : mn (mx (now + e) 0) 1099511627776 = now + e := by
          unfold mx mn
          split <;> split <;> omega
        have := ih (now + e) (ats ++ [now + e]) { s with row := s.row ++ [⟨(ats.length : Int), mn (mx (now + e) 0) 1099511627776⟩] } k (by simp; omega) (by omega) (by simp; omega) hroom
          (by rw [ht, mkRow_snoc, ← hrow, Nat.zero_add]) (by omega) (by simp; omega)
          (fun t h => by
            rcases List.mem_append.mp h with h | h
            · have := hb t h
              omega
            · simp at h
              omega)
          (List.pairwise_append.mpr ⟨hs, by simp, fun a ha b hb2 => by
            simp at hb2
            have := hb a ha
            omega⟩)
        rw [List.length_append, List.length_singleton, Int.natCast_add] at this
        exact this
      · rw [decide_eq_false h2]
        exact hend
    · rw [if_neg h1]
      exact hend
theorem QueueLate : hostlerlaw12_QueueLate.Pure := by
  intro l0 a1 a2 _ _ _ _ _
  obtain ⟨n, hn, hn30⟩ := mod_n a1 30 (by decide) (by decide)
  obtain ⟨m, hm, hm30⟩ := mod_n a2 30 (by decide) (by decide)
  refine ⟨60, ?_⟩
  unfold hostlerlaw12_QueueLate.f
  rw [lives_at, Option.bind_some, if_pos rfl, show wrap64 (Int.tmod (IntKind.u64.wrap a1) 30) = (n : Int) from hn, show wrap64 (Int.tmod (IntKind.u64.wrap a2) 30) = (m : Int) from hm, show queue_New.f 16 = some ⟨16, []⟩ from new_f 16 (by omega), Option.bind_some]
  exact late_l0 l0 n m hn30 hm30 16 0 [] ⟨16, []⟩ 60 (by simp) (by omega) (by simp) rfl rfl (by omega) (by simp) (by simp) (by simp)
end Go.Proofs.Ytdcnmjdohjodhaa.Pure
