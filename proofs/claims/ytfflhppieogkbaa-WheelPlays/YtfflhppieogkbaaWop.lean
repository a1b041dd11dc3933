/-
  WheelOnce, plain: what the wheel has, told by each key's own deadline. Conditions: none.
-/
import Derived.Test.YtfflhppieogkbaaWse
set_option linter.unusedVariables false
set_option linter.unusedSimpArgs false
namespace Go.Proofs.Ytfflhppieogkbaa.Hp
open Go Go.RowKit Go.Proofs.Ytfflhppieogkbaa.Mp
theorem nth_eq {l : List Int} {j : Nat} (h : j < l.length) : nth l j = l[j] := by simp [nth, List.getD, h]
theorem nth_snoc (l : List Int) (v : Int) (j : Nat) (h : j < l.length) : nth (l ++ [v]) j = nth l j := by
  rw [nth_eq (by simp; omega), nth_eq h, List.getElem_append_left h]
theorem nth_last (l : List Int) (v : Int) : nth (l ++ [v]) l.length = v := by
  rw [nth_eq (by simp)]
  simp
theorem nth_set (l : List Int) (i j : Nat) (v : Int) (h : j < l.length) : nth (l.set i v) j = if i = j then v else nth l j := by
  rw [nth_eq (by simpa using h), nth_eq h, List.getElem_set]
/-- The wheel has just the keys whose own deadline is above lo. -/
structure Says (l : PL) (own : List Int) (lo : Int) : Prop where
  rise : Rising l
  mem : ∀ k t, (k, t) ∈ l ↔ ∃ j : Nat, k = (j : Int) ∧ j < own.length ∧ nth own j = t ∧ lo < t
variable {l : PL} {own : List Int} {lo now : Int}
theorem Says.nil : Says [] [] (-1) := ⟨List.Pairwise.nil, fun k t => by simp⟩
theorem Says.set (h : Says l own lo) {v : Int} (hv : lo < v) : Says (put l (own.length : Int) v) (own ++ [v]) lo := by
  refine ⟨h.rise.put _ _, fun k t => ?_⟩
  rw [mem_put, h.mem]
  constructor
  · rintro (e | ⟨⟨j, rfl, hj, ht, hl⟩, hne⟩)
    · injection e with e1 e2
      exact ⟨own.length, e1, by simp, by rw [e2]; exact nth_last own v, by rw [e2]; exact hv⟩
    · exact ⟨j, rfl, by simp; omega, by rw [nth_snoc _ _ _ hj]; exact ht, hl⟩
  · rintro ⟨j, rfl, hj, ht, hl⟩
    by_cases e : j = own.length
    · left
      rw [e, nth_last] at ht
      rw [e, ht]
    · right
      have hj2 : j < own.length := by simp at hj; omega
      rw [nth_snoc _ _ _ hj2] at ht
      exact ⟨⟨j, rfl, hj2, ht, hl⟩, fun e2 => e (by simp only at e2; omega)⟩
theorem Says.there (h : Says l own lo) {i : Nat} (hi : i < own.length) (hl : lo < nth own i) : (Mp.look l (i : Int)).isSome = true := by
  rw [(look_some h.rise).2 ((h.mem _ _).2 ⟨i, rfl, hi, rfl, hl⟩)]
  rfl
theorem Says.gone (h : Says l own lo) {i : Nat} (hl : nth own i ≤ lo) : (Mp.look l (i : Int)).isSome = false := by
  rw [look_none.2 (fun v hv => ?_)]
  · rfl
  · obtain ⟨j, e, _, ht, hlo⟩ := (h.mem _ _).1 hv
    have : i = j := by omega
    subst this
    omega
theorem Says.cancel (h : Says l own lo) {i : Nat} (hi : i < own.length) {v : Int} (hv : v ≤ lo) : Says (rem l (i : Int)) (own.set i v) lo := by
  refine ⟨h.rise.rem _, fun k t => ?_⟩
  rw [mem_rem, h.mem]
  constructor
  · rintro ⟨⟨j, rfl, hj, ht, hl⟩, hne⟩
    have hij : ¬ i = j := fun e => hne (by rw [e])
    exact ⟨j, rfl, by simpa using hj, by rw [nth_set _ _ _ _ hj, if_neg hij]; exact ht, hl⟩
  · rintro ⟨j, rfl, hj, ht, hl⟩
    have hj2 : j < own.length := by simpa using hj
    rw [nth_set _ _ _ _ hj2] at ht
    by_cases hij : i = j
    · rw [if_pos hij] at ht; omega
    · rw [if_neg hij] at ht
      exact ⟨⟨j, rfl, hj2, ht, hl⟩, fun e => hij (by simp only at e; omega)⟩
theorem past_le {t : Int} (h0 : 0 ≤ t) (h1 : t ≤ 1099511627776) (h2 : 0 ≤ now) (h3 : now ≤ 1099511627776) : past now t = decide (t ≤ now) := by
  unfold past
  rw [cut_id h0 h1, cut_id h2 h3]
theorem Says.rest (h : Says l own lo) (hlo : -1 ≤ lo) (ho : ∀ j, j < own.length → nth own j ≤ 99) (h2 : 0 ≤ now) (h3 : now ≤ 1000) (hn : lo ≤ now ∨ 99 ≤ now) : Says (rest l now) own now := by
  refine ⟨List.Pairwise.sublist List.filter_sublist h.rise, fun k t => ?_⟩
  unfold Hp.rest
  rw [List.mem_filter, h.mem]
  constructor
  · rintro ⟨⟨j, rfl, hj, ht, hl⟩, hp⟩
    have := ho j hj
    rw [past_le (by show 0 ≤ t; omega) (by show t ≤ _; omega) h2 (by omega)] at hp
    exact ⟨j, rfl, hj, ht, by simpa using hp⟩
  · rintro ⟨j, rfl, hj, ht, hl⟩
    have := ho j hj
    refine ⟨⟨j, rfl, hj, ht, by omega⟩, ?_⟩
    rw [past_le (by show 0 ≤ t; omega) (by show t ≤ _; omega) h2 (by omega)]
    simpa using hl
/-- Who is due. -/
def hit (own : List Int) (lo now : Int) (j : Nat) : Bool := decide (lo < nth own j) && decide (nth own j ≤ now)
def hits (own : List Int) (lo now : Int) (n : Nat) : List Nat := (List.range n).filter (hit own lo now)
def ints (l : List Nat) : List Int := l.map (fun (j : Nat) => (j : Int))
theorem Says.due (h : Says l own lo) (hlo : -1 ≤ lo) (ho : ∀ j, j < own.length → nth own j ≤ 99) (h2 : 0 ≤ now) (h3 : now ≤ 1000) : due l now = ints (hits own lo now own.length) := by
  have hr1 : (Hp.due l now).Pairwise (· < ·) := List.pairwise_map.2 (List.Pairwise.sublist List.filter_sublist h.rise)
  have hr2 : (ints (hits own lo now own.length)).Pairwise (· < ·) := by
    refine List.pairwise_map.2 (List.Pairwise.sublist List.filter_sublist (List.pairwise_lt_range.imp (fun h => ?_)))
    omega
  have hm : ∀ k, k ∈ Hp.due l now ↔ k ∈ ints (hits own lo now own.length) := fun k => by
    unfold Hp.due ints hits
    rw [List.mem_map, List.mem_map]
    constructor
    · rintro ⟨p, hp, rfl⟩
      obtain ⟨hp1, hp2⟩ := List.mem_filter.1 hp
      obtain ⟨j, e, hj, ht, hl⟩ := (h.mem p.1 p.2).1 hp1
      have := ho j hj
      rw [past_le (by omega) (by omega) h2 (by omega)] at hp2
      refine ⟨j, List.mem_filter.2 ⟨List.mem_range.2 hj, ?_⟩, e.symm⟩
      unfold hit
      rw [ht, decide_eq_true hl]
      simpa using hp2
    · rintro ⟨j, hj, rfl⟩
      obtain ⟨hj1, hj2⟩ := List.mem_filter.1 hj
      have hj1 := List.mem_range.1 hj1
      have := ho j hj1
      unfold hit at hj2
      simp only [Bool.and_eq_true, decide_eq_true_eq] at hj2
      refine ⟨((j : Int), nth own j), List.mem_filter.2 ⟨(h.mem _ _).2 ⟨j, rfl, hj1, rfl, hj2.1⟩, ?_⟩, rfl⟩
      rw [past_le (by show 0 ≤ nth own j; omega) (by show nth own j ≤ _; omega) h2 (by omega)]
      simpa using hj2.2
  refine List.Perm.eq_of_pairwise (le := fun a b => a ≤ b) (fun a b _ _ h1 h2 => by omega) (hr1.imp (fun h => by omega)) (hr2.imp (fun h => by omega)) ?_
  exact (List.perm_ext_iff_of_nodup (hr1.imp (fun h => by omega)) (hr2.imp (fun h => by omega))).2 hm
theorem hits_succ (own : List Int) (lo now : Int) (j : Nat) : hits own lo now (j + 1) = if hit own lo now j = true then hits own lo now j ++ [j] else hits own lo now j := by
  unfold hits
  rw [List.range_succ, List.filter_append]
  split
  · rename_i h; simp [List.filter_cons, h]
  · rename_i h; simp [List.filter_cons, h]
theorem hits_prefix (own : List Int) (lo now : Int) {j n : Nat} (h : j ≤ n) : hits own lo now j <+: hits own lo now n := by
  induction n with
  | zero => have : j = 0 := by omega
            subst this; exact List.prefix_rfl
  | succ n ih =>
    by_cases e : j = n + 1
    · subst e; exact List.prefix_rfl
    · refine (ih (by omega)).trans ?_
      rw [hits_succ]
      split
      · exact List.prefix_append _ _
      · exact List.prefix_rfl
theorem hits_le (own : List Int) (lo now : Int) (n : Nat) : (hits own lo now n).length ≤ n := by
  have := List.length_filter_le (hit own lo now) (List.range n)
  simpa [hits] using this
theorem hits_at (own : List Int) (lo now : Int) {j n : Nat} (h : j < n) (hh : hit own lo now j = true) : (hits own lo now j).length < (ints (hits own lo now n)).length ∧ nth (ints (hits own lo now n)) (hits own lo now j).length = (j : Int) := by
  obtain ⟨r, hr⟩ := hits_prefix own lo now (show j + 1 ≤ n from h)
  rw [hits_succ, if_pos hh] at hr
  have hl : (hits own lo now j).length < (ints (hits own lo now n)).length := by
    rw [← hr]; simp [ints]
  refine ⟨hl, ?_⟩
  rw [nth_eq hl]
  simp only [ints, List.getElem_map, ← hr]
  simp
end Go.Proofs.Ytfflhppieogkbaa.Hp
