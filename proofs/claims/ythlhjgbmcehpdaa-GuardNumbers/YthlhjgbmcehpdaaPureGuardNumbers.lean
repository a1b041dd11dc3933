/-
  The pure statement of GuardNumbers: the program's numbers are the document's. Conditions: none.
-/
import Derived.Test.YthlhjgbmcehpdaaPureGuardFirsts
import Derived.Test.YthlhjgbmcehpdaaPBx2
set_option linter.unusedVariables false
namespace Go.Proofs.Ythlhjgbmcehpdaa.Pure
open Go.RowKit Go.Proofs.Ythlhjgbmcehpdaa.PB Go.Proofs.Ythlhjgbmcehpdaa.PA Go.Proofs.Ythlhjgbmcehpdaa.ManB Go.Proofs.YthlhjgbmcehpdaaW.PrintWords Go.Proofs.YthlhjgbmcehpdaaW.PrintLast
open Go.Proofs.Ythlhjgbmcehpdaa.PlainGuard

theorem mul_one_more (a e : Int) : (a + 1) * e = a * e + e := by rw [Int.add_mul, Int.one_mul]
theorem refcap_go (l : List Int) (e : Int) (hl : l.length ≤ 40) (he : e ≤ 1000) (d : Nat) : ∀ (k i : Nat) (n : Int), i + d = l.length → d < k → 0 ≤ n → n ≤ 1000 * i →
    hostlerref11_Capacity.l0 k l e n (i : Int) = some (n + cap (l.drop i) e) := by
  induction d with
  | zero =>
    intro k i n hi hk h0 h1
    obtain ⟨k, rfl⟩ : ∃ m, k = m + 1 := ⟨k - 1, by omega⟩
    rw [hostlerref11_Capacity.l0, if_neg (by omega), List.drop_eq_nil_of_le (by omega)]
    simp [cap, act]
  | succ d ih =>
    intro k i n hi hk h0 h1
    obtain ⟨k, rfl⟩ : ∃ m, k = m + 1 := ⟨k - 1, by omega⟩
    rw [hostlerref11_Capacity.l0, if_pos (by omega), if_pos (by omega), PlainGuard.drop_at l i (by omega), wrap_in (n := (i : Int) + 1) (by omega) (by omega), cast1]
    have hcap : cap (rd l (i : Int) :: l.drop (i + 1)) e = cap (l.drop (i + 1)) e + (if rd l (i : Int) = 0 then mx e 0 else 0) := by
      unfold cap
      simp only [act]
      split
      · rw [mul_one_more]
      · simp
    rw [hcap]
    by_cases hs : rd l (i : Int) = 0
    · rw [if_pos hs, if_pos hs]
      by_cases h2 : e > 0
      · rw [if_pos h2, wrap_in (n := n + e) (by omega) (by omega), ih k (i + 1) (n + e) (by omega) (by omega) (by omega) (by omega), mx_zero e (by omega)]
        congr 1; omega
      · rw [if_neg h2, ih k (i + 1) n (by omega) (by omega) (by omega) (by omega), show mx e 0 = 0 from by unfold mx; split <;> omega]
        congr 1; omega
    · rw [if_neg hs, if_neg hs, ih k (i + 1) n (by omega) (by omega) (by omega) (by omega)]
      congr 1; omega
theorem refcap_is (l : List Int) (e : Int) (hl : l.length ≤ 40) (he : e ≤ 1000) (k : Nat) (hk : l.length < k) : hostlerref11_Capacity.f k l e = some (cap l e) := by
  unfold hostlerref11_Capacity.f
  have := refcap_go l e hl he l.length k 0 0 (by omega) hk (by omega) (by omega)
  simpa using this
/-- A list without a place. -/
def wo : List Int → Int → List Int
  | [], _ => []
  | x :: xs, i => if i = 0 then wo xs (i - 1) else x :: wo xs (i - 1)
theorem wo_len (l : List Int) : ∀ i, (wo l i).length ≤ l.length := by
  induction l with
  | nil => intro i; exact Nat.le_refl _
  | cons x xs ih =>
    intro i
    unfold wo
    have := ih (i - 1)
    split <;> simp <;> omega
theorem act_append (a b : List Int) : act (a ++ b) = act a + act b := by
  induction a with
  | nil => simp [act]
  | cons x xs ih => simp only [List.cons_append, act, ih]; omega
theorem act_wo_neg (l : List Int) : ∀ i, i < 0 → act (wo l i) = act l := by
  induction l with
  | nil => intro i _; rfl
  | cons x xs ih =>
    intro i hi
    unfold wo
    rw [if_neg (by omega)]
    simp only [act, ih (i - 1) (by omega)]
theorem act_wo (l : List Int) : ∀ i, act (wo l i) = if 0 ≤ i ∧ i < l.length ∧ rd l i = 0 then act l - 1 else act l := by
  induction l with
  | nil => intro i; rw [if_neg (by simp; omega)]; rfl
  | cons x xs ih =>
    intro i
    have hlen : (((x :: xs).length : Nat) : Int) = xs.length + 1 := by simp
    unfold wo
    by_cases h0 : i = 0
    · subst h0
      rw [if_pos rfl, act_wo_neg xs (0 - 1) (by omega), hlen]
      have hr : rd (x :: xs) 0 = x := rfl
      rw [hr]
      by_cases hx : x = 0
      · rw [if_pos ⟨by omega, by omega, hx⟩]
        simp only [act, if_pos hx]
        omega
      · rw [if_neg (by omega)]
        simp only [act, if_neg hx]
        omega
    · rw [if_neg h0, hlen]
      simp only [act, ih (i - 1)]
      generalize (if x = 0 then (1 : Int) else 0) = u
      by_cases hi : i < 0
      · rw [if_neg (by omega), if_neg (by omega)]
      · have hr : rd (x :: xs) i = rd xs (i - 1) := by
          unfold rd
          rw [show i.toNat = (i - 1).toNat + 1 by omega, List.getD_cons_succ]
        rw [hr]
        by_cases hc : 0 ≤ i - 1 ∧ i - 1 < (xs.length : Int) ∧ rd xs (i - 1) = 0
        · rw [if_pos hc, if_pos ⟨by omega, by omega, hc.2.2⟩]; omega
        · rw [if_neg hc, if_neg (by omega)]
theorem refwo_go (l : List Int) (j e : Int) (hl : l.length ≤ 40) (he : e ≤ 1000) (d : Nat) : ∀ (k i : Nat) (acc : List Int), i + d = l.length → 100 + d < k → acc.length ≤ i →
    ∃ k', 100 ≤ k' ∧ hostlerref11_Without.l0 k l j e acc (i : Int) = (hostlerref11_Capacity.f k' (acc ++ wo (l.drop i) (j - i)) e).bind fun t => some t := by
  induction d with
  | zero =>
    intro k i acc hi hk ha
    obtain ⟨k, rfl⟩ : ∃ m, k = m + 1 := ⟨k - 1, by omega⟩
    refine ⟨k, by omega, ?_⟩
    rw [hostlerref11_Without.l0, if_neg (by omega), List.drop_eq_nil_of_le (by omega)]
    simp [wo]
  | succ d ih =>
    intro k i acc hi hk ha
    obtain ⟨k, rfl⟩ : ∃ m, k = m + 1 := ⟨k - 1, by omega⟩
    rw [hostlerref11_Without.l0, if_pos (by omega), PlainGuard.drop_at l i (by omega), wrap_in (n := (i : Int) + 1) (by omega) (by omega), cast1]
    have hji : j - ((i + 1 : Nat) : Int) = j - i - 1 := by omega
    by_cases h : (i : Int) = j
    · obtain ⟨k', hk', e1⟩ := ih k (i + 1) acc (by omega) (by omega) (by omega)
      refine ⟨k', hk', ?_⟩
      rw [if_pos h, e1, hji, wo, if_pos (by omega)]
    · obtain ⟨k', hk', e1⟩ := ih k (i + 1) (acc ++ [rd l (i : Int)]) (by omega) (by omega) (by simp; omega)
      refine ⟨k', hk', ?_⟩
      rw [if_neg h, if_pos (by omega), if_pos (by omega), e1, hji, wo, if_neg (by omega)]
      simp
theorem refwithout_is (l : List Int) (i e : Int) (hl : l.length ≤ 40) (he : e ≤ 1000) (k : Nat) (hk : 200 ≤ k) : hostlerref11_Without.f k l i e = some (without l i e) := by
  unfold hostlerref11_Without.f
  obtain ⟨k', hk', e1⟩ := refwo_go l i e hl he l.length k 0 [] (by omega) (by omega) (by simp)
  have e2 : hostlerref11_Without.l0 k l i e [] 0 = _ := e1
  have hw := wo_len l i
  rw [e2]
  simp only [List.nil_append, List.drop_zero, Int.natCast_zero, Int.sub_zero]
  rw [refcap_is _ e (by omega) he k' (by omega), Option.bind_some]
  unfold without cap
  rw [act_wo]
  split
  · rw [Int.sub_mul, Int.one_mul]
  · rfl
theorem refmay_is (l : List Int) (i e g : Int) (hl : l.length ≤ 40) (he : e ≤ 1000) (k : Nat) (hk : 200 ≤ k) : hostlerref11_May.f k l i e g = some (may l i e g) := by
  unfold hostlerref11_May.f may
  by_cases h0 : i < 0
  · rw [if_pos h0, decide_eq_false (show ¬ 0 ≤ i by omega)]; rfl
  · rw [if_neg h0, decide_eq_true (show 0 ≤ i by omega)]
    by_cases h1 : i ≥ (l.length : Int)
    · rw [if_pos h1, decide_eq_false (show ¬ i < (l.length : Int) by omega)]; rfl
    · rw [if_neg h1, decide_eq_true (show i < (l.length : Int) by omega), if_pos (by omega), if_pos (by omega)]
      by_cases h2 : rd l i = 0
      · rw [if_pos h2, refwithout_is l i e hl he k hk, Option.bind_some]
        unfold without
        rw [if_pos ⟨by omega, by omega, h2⟩]
        simp [h2]
      · rw [if_neg h2]; simp [h2]
theorem reffirst_go (l l1 : List Int) (e g : Int) (hl : l.length ≤ 40) (hl1 : l1.length ≤ 40) (he : e ≤ 1000) (d : Nat) : ∀ (k i : Nat), i + d = l1.length → 200 + d < k →
    hostlerref11_First.l0 k l l1 e g (i : Int) = some (firstP (fun x => may l x e g) (l1.drop i)) := by
  induction d with
  | zero =>
    intro k i hi hk
    obtain ⟨k, rfl⟩ : ∃ m, k = m + 1 := ⟨k - 1, by omega⟩
    rw [hostlerref11_First.l0, if_neg (by omega), List.drop_eq_nil_of_le (by omega)]
    rfl
  | succ d ih =>
    intro k i hi hk
    obtain ⟨k, rfl⟩ : ∃ m, k = m + 1 := ⟨k - 1, by omega⟩
    rw [hostlerref11_First.l0, if_pos (by omega), if_pos (by omega), refmay_is l _ e g hl he k (by omega), Option.bind_some, PlainGuard.drop_at l1 i (by omega), wrap_in (n := (i : Int) + 1) (by omega) (by omega), cast1]
    unfold firstP
    by_cases h : may l (rd l1 (i : Int)) e g = true
    · rw [if_pos h, if_pos h]
    · rw [if_neg h, if_neg h]
      exact ih k (i + 1) (by omega) (by omega)
theorem reffirst_is (l l1 : List Int) (e g : Int) (hl : l.length ≤ 40) (hl1 : l1.length ≤ 40) (he : e ≤ 1000) (k : Nat) (hk : 300 ≤ k) : hostlerref11_First.f k l l1 e g = some (firstP (fun x => may l x e g) l1) := by
  unfold hostlerref11_First.f
  have := reffirst_go l l1 e g hl hl1 he l1.length k 0 (by omega) (by omega)
  simpa using this
/-- How many of r more may leave, one behind the other, at capacity c. -/
def gr (r c e g : Int) : Int := if g ≤ 0 then r else if c - g < 0 then 0 else if e ≤ 0 then 0 else mn r ((c - g) / e)
theorem spare_gr (l : List Int) (e g : Int) : spare l e g = gr (act l) (cap l e) e g := rfl
/-- One leaves. -/
theorem gr_step (r c e g : Int) (he : 0 < e) (hr : 0 ≤ r) (h : c - e ≥ g) (hc : e ≤ c) : gr (r + 1) c e g = 1 + gr r (c - e) e g := by
  unfold gr
  by_cases h0 : g ≤ 0
  · rw [if_pos h0, if_pos h0]; omega
  · rw [if_neg h0, if_neg h0, if_neg (by omega), if_neg (by omega), if_neg (by omega), if_neg (by omega)]
    have e1 : (c - g) / e = (c - e - g) / e + 1 := by
      rw [show c - g = (c - e - g) + e * 1 by omega, Int.add_mul_ediv_left _ _ (by omega)]
    rw [e1]
    unfold mn
    split <;> split <;> omega
/-- None may leave any more. -/
theorem gr_none (r c e g : Int) (he : 0 < e) (hr : 0 < r) (hc : e ≤ c) (h : c - e < g) : gr r c e g = 0 := by
  unfold gr
  rw [if_neg (by omega)]
  by_cases h1 : c - g < 0
  · rw [if_pos h1]
  · rw [if_neg h1, if_neg (by omega)]
    have e1 : (c - g) / e = 0 := Int.ediv_eq_zero_of_lt (by omega) (by omega)
    rw [e1]
    unfold mn
    split <;> omega
theorem gr_zero (c e g : Int) (hc : 0 ≤ c) (he : 0 ≤ e): gr 0 c e g = 0 := by
  unfold gr
  by_cases h0 : g ≤ 0
  · rw [if_pos h0]
  · rw [if_neg h0]
    by_cases h1 : c - g < 0
    · rw [if_pos h1]
    · rw [if_neg h1]
      by_cases h2 : e ≤ 0
      · rw [if_pos h2]
      · rw [if_neg h2]
        have := Int.ediv_nonneg (a := c - g) (b := e) (by omega) (by omega)
        unfold mn
        split <;> omega
/-- With nothing a host, either all may leave or none. -/
theorem gr_e0 (r c e g : Int) (he : e ≤ 0) (hr : 0 ≤ r) (hc : c = 0) : gr r c e g = if g ≤ 0 then r else 0 := by
  unfold gr
  by_cases h0 : g ≤ 0
  · rw [if_pos h0, if_pos h0]
  · rw [if_neg h0, if_neg h0, if_pos (by omega)]
theorem act_set (l : List Int) : ∀ (i : Nat), i < l.length → rd l (i : Int) = 0 → act (l.set i 1) = act l - 1 := by
  induction l with
  | nil => intro i hi _; simp at hi
  | cons x xs ih =>
    intro i hi h
    cases i with
    | zero =>
      have hx : x = 0 := h
      simp only [List.set_cons_zero, act, if_pos hx]
      rw [if_neg (by omega)]
      omega
    | succ i =>
      have hr : rd xs (i : Int) = 0 := by
        have : rd (x :: xs) ((i + 1 : Nat) : Int) = rd xs (i : Int) := by unfold rd; rw [Int.toNat_natCast, Int.toNat_natCast, List.getD_cons_succ]
        rw [← this]; exact h
      simp only [List.set_cons_succ, act]
      rw [ih i (by simp at hi; omega) hr]
      omega
theorem drop_set_lt (l : List Int) (i : Nat) (v : Int) : (l.set i v).drop (i + 1) = l.drop (i + 1) := by
  rw [List.drop_set_of_lt (by omega)]
theorem refspare_go (e g : Int) (he : e ≤ 1000) (d : Nat) : ∀ (k i : Nat) (l : List Int) (n : Int), l.length ≤ 40 → i + d = l.length → 300 + d < k → 0 ≤ n → n ≤ i →
    hostlerref11_Spare.l0 k e g l n (i : Int) = some (n + gr (act (l.drop i)) (cap l e) e g) := by
  induction d with
  | zero =>
    intro k i l n hl hi hk h0 h1
    obtain ⟨k, rfl⟩ : ∃ m, k = m + 1 := ⟨k - 1, by omega⟩
    rw [hostlerref11_Spare.l0, if_neg (by omega), List.drop_eq_nil_of_le (by omega)]
    have hc := cap_bd l e hl he
    by_cases h2 : 0 ≤ e
    · simp only [act, gr_zero _ e g hc.1 h2, Int.add_zero]
    · have hz : cap l e = 0 := by unfold cap; rw [show mx e 0 = 0 from by unfold mx; split <;> omega, Int.mul_zero]
      simp only [act, gr_e0 0 _ e g (by omega) (by omega) hz]
      split <;> simp
  | succ d ih =>
    intro k i l n hl hi hk h0 h1
    obtain ⟨k, rfl⟩ : ∃ m, k = m + 1 := ⟨k - 1, by omega⟩
    have hc := cap_bd l e hl he
    have hab := act_bd (l.drop (i + 1))
    have hm : 0 ≤ mx e 0 := by unfold mx; split <;> omega
    rw [hostlerref11_Spare.l0, if_pos (by omega), refmay_is l _ e g hl he k (by omega), Option.bind_some, if_pos (by omega), wrap_in (n := (i : Int) + 1) (by omega) (by omega), wrap_in (n := n + 1) (by omega) (by omega), PlainGuard.drop_at l i (by omega), cast1]
    by_cases hs : rd l (i : Int) = 0
    · have hact1 : act (rd l (i : Int) :: l.drop (i + 1)) = act (l.drop (i + 1)) + 1 := by simp only [act, if_pos hs]
      have hle : mx e 0 ≤ cap l e := by
        have h3 : 1 ≤ act l := by
          have := act_append (l.take i) (l.drop i)
          rw [List.take_append_drop, PlainGuard.drop_at l i (by omega), hact1] at this
          have := act_bd (l.take i)
          omega
        unfold cap
        have q := Int.mul_le_mul_of_nonneg_right h3 hm
        rw [Int.one_mul] at q
        exact q
      have hmay : may l (i : Int) e g = decide (cap l e - mx e 0 ≥ g) := by
        unfold may
        rw [decide_eq_true (show (0 : Int) ≤ i by omega), decide_eq_true (show (i : Int) < l.length by omega), decide_eq_false (show ¬ rd l (i : Int) ≠ 0 by simp [hs])]
        simp
      rw [if_pos hs, hmay, hact1]
      by_cases hge : cap l e - mx e 0 ≥ g
      · rw [decide_eq_true hge, if_pos rfl, Int.toNat_natCast]
        have hcs : cap (l.set i 1) e = cap l e - mx e 0 := by
          unfold cap
          rw [act_set l i (by omega) hs, Int.sub_mul, Int.one_mul]
        rw [ih k (i + 1) (l.set i 1) (n + 1) (by simp; omega) (by simp; omega) (by omega) (by omega) (by omega), drop_set_lt, hcs]
        congr 1
        by_cases hep : 0 < e
        · rw [mx_zero e (by omega)] at hge hle ⊢
          rw [gr_step _ _ e g hep hab.1 hge hle]
          omega
        · have hm0 : mx e 0 = 0 := by unfold mx; split <;> omega
          have hz : cap l e = 0 := by unfold cap; rw [hm0, Int.mul_zero]
          rw [hm0, hz, gr_e0 _ _ e g (by omega) hab.1 (by omega), gr_e0 _ _ e g (by omega) (by omega) rfl]
          rw [hm0, hz] at hge
          rw [if_pos (by omega), if_pos (by omega)]
          omega
      · rw [decide_eq_false hge, if_neg (by simp), ih k (i + 1) l n hl (by omega) (by omega) (by omega) (by omega)]
        congr 1
        by_cases hep : 0 < e
        · rw [mx_zero e (by omega)] at hge hle
          rw [gr_none (act (l.drop (i + 1)) + 1) _ e g hep (by omega) hle (by omega)]
          by_cases hz : act (l.drop (i + 1)) = 0
          · rw [hz, gr_zero _ e g hc.1 (by omega)]
          · rw [gr_none _ _ e g hep (by omega) hle (by omega)]
        · have hm0 : mx e 0 = 0 := by unfold mx; split <;> omega
          have hz : cap l e = 0 := by unfold cap; rw [hm0, Int.mul_zero]
          rw [hm0, hz] at hge
          rw [hz, gr_e0 _ _ e g (by omega) hab.1 rfl, gr_e0 _ _ e g (by omega) (by omega) rfl, if_neg (by omega), if_neg (by omega)]
    · have hact1 : act (rd l (i : Int) :: l.drop (i + 1)) = act (l.drop (i + 1)) := by simp only [act, if_neg hs]; omega
      rw [if_neg hs, hact1, ih k (i + 1) l n hl (by omega) (by omega) (by omega) (by omega)]
theorem refspare_is (l : List Int) (e g : Int) (hl : l.length ≤ 40) (he : e ≤ 1000) (k : Nat) (hk : 400 ≤ k) : hostlerref11_Spare.f k l e g = some (spare l e g) := by
  unfold hostlerref11_Spare.f
  rw [if_pos (by simp; omega), List.nil_append]
  have := refspare_go e g he l.length k 0 l 0 hl (by omega) (by omega) (by omega) (by omega)
  simpa [spare_gr] using this
theorem GuardNumbers : hostlerlaw11_GuardNumbers.Pure := by
  intro l0 l1 i a b _ _ _ _ _ _ _ _ _
  refine ⟨500, ?_⟩
  obtain ⟨l, hl, hl20⟩ := few_is l0
  obtain ⟨m, hm, hm20⟩ := few_is l1
  obtain ⟨e, he, he0, he1⟩ := near_is a
  obtain ⟨g, hg, hg0, hg1⟩ := near_is b
  unfold hostlerlaw11_GuardNumbers.f
  rw [lives_mono 400, Option.bind_some, if_pos rfl, hl, Option.bind_some, hm, Option.bind_some, he, Option.bind_some, hg, Option.bind_some, first_is l m e g (by omega) (by omega) 500 (by omega), Option.bind_some, reffirst_is l m e g (by omega) (by omega) (by omega) 500 (by omega), Option.bind_some,
    cap_is l e (by omega) (by omega) 500 (by omega), Option.bind_some, refcap_is l e (by omega) (by omega) 500 (by omega), Option.bind_some, if_pos rfl, may_is l i e g (by omega) (by omega) 500 (by omega), Option.bind_some, refmay_is l i e g (by omega) (by omega) 500 (by omega), Option.bind_some, if_pos (by simp),
    without_is l i e (by omega) (by omega) 500 (by omega), Option.bind_some, refwithout_is l i e (by omega) (by omega) 500 (by omega), Option.bind_some, if_pos rfl, spare_is l e g (by omega) (by omega) (by omega) 500 (by omega), Option.bind_some, refspare_is l e g (by omega) (by omega) 500 (by omega), Option.bind_some, if_pos rfl, if_pos rfl]
  simp
end Go.Proofs.Ythlhjgbmcehpdaa.Pure
