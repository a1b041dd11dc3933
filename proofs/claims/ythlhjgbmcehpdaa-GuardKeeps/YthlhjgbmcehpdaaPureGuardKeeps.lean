/-
  The pure statement of GuardKeeps: the capacity never falls past the guard, whoever asks. Conditions: none.
-/
import Derived.Test.YthlhjgbmcehpdaaPCx1
import Derived.Test.YthlhjgbmcehpdaaPlainGuard
set_option linter.unusedVariables false
namespace Go.Proofs.Ythlhjgbmcehpdaa.Pure
open Go.RowKit Go.Proofs.Ythlhjgbmcehpdaa.PC Go.Proofs.Ythlhjgbmcehpdaa.PA Go.Proofs.YthlhjgbmcehpdaaW.PrintWords Go.Proofs.YthlhjgbmcehpdaaW.PrintLast
open Go.Proofs.Ythlhjgbmcehpdaa.PlainGuard

theorem act_setK (l : List Int) : ∀ (i : Nat), i < l.length → act (l.set i 1) = if rd l (i : Int) = 0 then act l - 1 else act l := by
  induction l with
  | nil => intro i hi; simp at hi
  | cons x xs ih =>
    intro i hi
    cases i with
    | zero =>
      have hx : rd (x :: xs) ((0 : Nat) : Int) = x := rfl
      rw [hx, List.set_cons_zero]
      simp only [act]
      rw [if_neg (show ¬ (1 : Int) = 0 by omega)]
      split <;> omega
    | succ i =>
      have hr : rd (x :: xs) ((i + 1 : Nat) : Int) = rd xs (i : Int) := by unfold rd; rw [Int.toNat_natCast, Int.toNat_natCast, List.getD_cons_succ]
      rw [hr, List.set_cons_succ]
      simp only [act]
      rw [ih i (by simp at hi; omega)]
      generalize (if x = 0 then (1 : Int) else 0) = u
      split <;> omega
theorem idx_in (a : Int) (n : Nat) (h0 : 0 < n) (h1 : n ≤ 1000) : 0 ≤ wrap64 (Int.tmod (IntKind.u64.wrap a) (IntKind.u64.wrap (n : Int))) ∧ wrap64 (Int.tmod (IntKind.u64.wrap a) (IntKind.u64.wrap (n : Int))) < n ∧ ¬ IntKind.u64.wrap (n : Int) = 0 := by
  rw [IntKind.wrap_u64, IntKind.wrap_u64]
  have h : 0 ≤ a % 18446744073709551616 := by omega
  have hn : (n : Int) % 18446744073709551616 = n := by omega
  rw [hn, Int.tmod_eq_emod_of_nonneg h]
  have q0 := Int.emod_nonneg (a % 18446744073709551616) (b := (n : Int)) (by omega)
  have q1 := Int.emod_lt_of_pos (a % 18446744073709551616) (b := (n : Int)) (by omega)
  rw [wrap_in (by omega) (by omega)]
  exact ⟨q0, q1, by omega⟩
/-- What holds at each round's head: a0 were active, left have left. -/
def Inv (a0 e g : Int) (n : Nat) (own : List Int) (left : Int) : Prop := own.length = n ∧ act own = a0 - left ∧ 0 ≤ left ∧ (left = 0 ∨ a0 * e - left * e ≥ g)
theorem round_keeps (a0 e g s : Int) (ha0 : a0 ≤ 40) (n : Nat) (hn0 : 0 < n) (hn : n ≤ 20) (h1 : 1 ≤ e) (h8 : e ≤ 8) (asks own : List Int) (left : Int) (k i : Nat) (hi : i < asks.length) (hi2 : i < 40) (hk : 100 ≤ k) (hinv : Inv a0 e g n own left) :
    ∃ own' left', Inv a0 e g n own' left' ∧ hostlerlaw11_GuardKeeps.l0 (k + 5) asks own e g s left (i : Int) = hostlerlaw11_GuardKeeps.l0 k asks own' e g s left' ((i + 1 : Nat) : Int) := by
  obtain ⟨v1, v2, v3, v4⟩ := hinv
  have hbd := act_bd own
  have hcb := cap_bd own e (by omega) (by omega)
  have hm : mx e 0 = e := mx_zero e (by omega)
  obtain ⟨q0, q1, qz⟩ := idx_in (rd asks (i : Int)) own.length (by omega) (by omega)
  rw [hostlerlaw11_GuardKeeps.l0, if_pos (by omega), decide_eq_true (show (i : Int) < 40 by omega), hostlerlaw11_GuardKeeps.j1, if_pos rfl, if_neg (by omega), if_pos (by omega), if_pos (by omega), if_neg qz, cap_is own e (by omega) (by omega) _ (by omega), Option.bind_some]
  generalize wrap64 (Int.tmod (IntKind.u64.wrap (rd asks (i : Int))) (IntKind.u64.wrap (own.length : Int))) = q at q0 q1 ⊢
  rw [may_is own q e g (by omega) (by omega) _ (by omega), Option.bind_some]
  obtain ⟨j, rfl⟩ := Int.eq_ofNat_of_zero_le q0
  have hmay : may own (j : Int) e g = (decide (rd own (j : Int) ≠ 0) || decide (cap own e - e ≥ g)) := by
    unfold may
    rw [decide_eq_true q0, decide_eq_true q1, hm]
    simp
  have hset := act_setK own j (by omega)
  have hlen : (own.set j 1).length = own.length := List.length_set
  have hwr : wrap64 ((i : Int) + 1) = ((i + 1 : Nat) : Int) := by rw [wrap_in (by omega) (by omega)]; omega
  by_cases hz : rd own (j : Int) = 0
  · by_cases hg : cap own e - e ≥ g
    · -- it may leave, and was active
      have hmt : may own (j : Int) e g = true := by rw [hmay, decide_eq_true hg]; simp
      have hleft : left < a0 := by
        have h3 : 1 ≤ act own := by
          have hb := act_bd (own.set j 1)
          rw [hset, if_pos hz] at hb
          omega
        omega
      have hc2 : cap (own.set j 1) e = cap own e - e := by
        unfold cap
        rw [hset, if_pos hz, Int.sub_mul, Int.one_mul, hm]
      have hcap : cap own e = a0 * e - left * e := by unfold cap; rw [v2, hm, Int.sub_mul]
      refine ⟨own.set j 1, left + 1, ⟨by omega, by rw [hset, if_pos hz]; omega, by omega, .inr ?_⟩, ?_⟩
      · rw [Int.add_mul, Int.one_mul]; omega
      rw [hmt, if_pos rfl, if_pos q0, if_pos q1, show (rd own (j : Int) == 0) = true from beq_iff_eq.mpr hz, hostlerlaw11_GuardKeeps.j2, if_pos rfl, wrap_in (n := left + 1) (by omega) (by omega), hostlerlaw11_GuardKeeps.j3, if_pos rfl, if_pos q0, if_pos q1, Int.toNat_natCast, hostlerlaw11_GuardKeeps.j4,
        cap_is _ e (by omega) (by omega) _ (by omega), Option.bind_some, hc2]
      unfold guard_Fell.f
      rw [if_pos (by omega), Option.bind_some, decide_eq_false (by omega), if_neg (by simp), if_neg (by omega), if_pos rfl, hwr]
    · -- the guard keeps it
      have hmf : may own (j : Int) e g = false := by rw [hmay, decide_eq_false hg]; simp [hz]
      refine ⟨own, left, ⟨v1, v2, v3, v4⟩, ?_⟩
      rw [hmf, if_neg (by simp), hostlerlaw11_GuardKeeps.j2, if_neg (by simp), hostlerlaw11_GuardKeeps.j3, if_neg (by simp), hostlerlaw11_GuardKeeps.j4, cap_is _ e (by omega) (by omega) _ (by omega), Option.bind_some]
      unfold guard_Fell.f
      rw [if_neg (by omega), Option.bind_some, if_neg (by simp), if_neg (by omega), if_neg (by simp), if_pos q0, if_pos q1, if_pos hz, hwr]
  · -- it wasn't active
    have hmt : may own (j : Int) e g = true := by rw [hmay, decide_eq_true hz]; simp
    have hc2 : cap (own.set j 1) e = cap own e := by
      unfold cap
      rw [hset, if_neg hz]
    refine ⟨own.set j 1, left, ⟨by omega, by rw [hset, if_neg hz]; omega, v3, v4⟩, ?_⟩
    rw [hmt, if_pos rfl, if_pos q0, if_pos q1, show (rd own (j : Int) == 0) = false from beq_eq_false_iff_ne.mpr hz, hostlerlaw11_GuardKeeps.j2, if_neg (by simp), hostlerlaw11_GuardKeeps.j3, if_pos rfl, if_pos q0, if_pos q1, Int.toNat_natCast, hostlerlaw11_GuardKeeps.j4,
      cap_is _ e (by omega) (by omega) _ (by omega), Option.bind_some, hc2]
    unfold guard_Fell.f
    rw [if_neg (by omega), Option.bind_some, if_neg (by simp), if_neg (by omega), if_pos rfl, hwr]
theorem left_le (l : List Int) (e g left : Int) (hl : l.length ≤ 40) (h1 : 1 ≤ e) (h8 : e ≤ 8) (h0 : 0 ≤ left) (ha : left ≤ act l) (h : left = 0 ∨ act l * e - left * e ≥ g) : left ≤ spare l e g := by
  have hb := act_bd l
  unfold spare cap
  rw [mx_zero e (by omega)]
  have hc : e = 1 ∨ e = 2 ∨ e = 3 ∨ e = 4 ∨ e = 5 ∨ e = 6 ∨ e = 7 ∨ e = 8 := by omega
  rcases hc with rfl | rfl | rfl | rfl | rfl | rfl | rfl | rfl
  all_goals
    unfold mn
    repeat' split
    all_goals omega
theorem loop_keeps (a0 e g s : Int) (ha0 : a0 ≤ 40) (n : Nat) (hn : n ≤ 20) (h1 : 1 ≤ e) (h8 : e ≤ 8) (asks : List Int) (hs : ∀ own left, Inv a0 e g n own left → left ≤ s) (d : Nat) : ∀ (k i : Nat) (own : List Int) (left : Int), i + d = 40 → 200 + 5 * d ≤ k → Inv a0 e g n own left →
    hostlerlaw11_GuardKeeps.l0 k asks own e g s left (i : Int) = some true := by
  induction d with
  | zero =>
    intro k i own left hi hk hinv
    obtain ⟨k, rfl⟩ : ∃ m, k = m + 2 := ⟨k - 2, by omega⟩
    rw [hostlerlaw11_GuardKeeps.l0, show decide ((i : Int) < 40) = false from decide_eq_false (by omega)]
    split <;> (rw [hostlerlaw11_GuardKeeps.j1, if_neg (by simp), decide_eq_true (hs own left hinv)])
  | succ d ih =>
    intro k i own left hi hk hinv
    by_cases hl : i < asks.length
    · by_cases hn0 : 0 < n
      · obtain ⟨k, rfl⟩ : ∃ m, k = m + 5 := ⟨k - 5, by omega⟩
        obtain ⟨own', left', hinv', e1⟩ := round_keeps a0 e g s ha0 n hn0 hn h1 h8 asks own left k i hl (by omega) (by omega) hinv
        rw [e1]
        exact ih k (i + 1) own' left' (by omega) (by omega) hinv'
      · obtain ⟨k, rfl⟩ : ∃ m, k = m + 2 := ⟨k - 2, by omega⟩
        have hz := hinv.1
        rw [hostlerlaw11_GuardKeeps.l0, if_pos (by omega), decide_eq_true (show (i : Int) < 40 by omega), hostlerlaw11_GuardKeeps.j1, if_pos rfl, if_pos (by omega)]
    · obtain ⟨k, rfl⟩ : ∃ m, k = m + 2 := ⟨k - 2, by omega⟩
      rw [hostlerlaw11_GuardKeeps.l0, if_neg (by omega), hostlerlaw11_GuardKeeps.j1, if_neg (by simp), decide_eq_true (hs own left hinv)]
theorem GuardKeeps : hostlerlaw11_GuardKeeps.Pure := by
  intro l0 l1 a b _ _ _ _ _ _ _ _
  refine ⟨500, ?_⟩
  obtain ⟨l, hl, hl20⟩ := few_is l0
  obtain ⟨g, hg, hg0, hg1⟩ := near_is b
  have he := each_is a
  unfold hostlerlaw11_GuardKeeps.f
  generalize wrap64 (1 + wrap64 (Int.tmod (IntKind.u64.wrap a) 8)) = e at he ⊢
  rw [lives_mono 400, Option.bind_some, if_pos rfl, hl, Option.bind_some, if_pos (by simp; omega), Option.bind_some, List.nil_append, hg, Option.bind_some, spare_is l e g (by omega) (by omega) (by omega) 500 (by omega), Option.bind_some]
  have hal := act_bd l
  refine loop_keeps (act l) e g _ (by omega) l.length hl20 he.1 he.2 l1 (fun own left hinv => ?_) 40 500 0 l 0 (by omega) (by omega) ⟨rfl, by omega, by omega, .inl rfl⟩
  obtain ⟨v1, v2, v3, v4⟩ := hinv
  have hbd := act_bd own
  exact left_le l e g left (by omega) he.1 he.2 v3 (by omega) v4
end Go.Proofs.Ythlhjgbmcehpdaa.Pure
