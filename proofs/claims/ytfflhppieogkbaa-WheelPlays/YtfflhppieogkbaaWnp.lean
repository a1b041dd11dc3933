/-
  WheelNext, plain: the keys by tick begin with those that are due at the least tick. Conditions: none.
-/
import Derived.Test.YtfflhppieogkbaaKg
import Derived.Test.YtfflhppieogkbaaWop
set_option linter.unusedVariables false
set_option linter.unusedSimpArgs false
namespace Go.Proofs.Ytfflhppieogkbaa.Hp
open Go Go.RowKit Go.Proofs.YtfflhppieogkbaaW.PrintWords Go.Proofs.Ytfflhppieogkbaa.Mp Go.Proofs.Ytfflhppieogkbaa.PA
instance (l : PL) (x y : Int) : Decidable (Lt l x y) := inferInstanceAs (Decidable (_ ∨ _))
def byTick (l : PL) : List Int := (keys l).mergeSort (fun x y => !decide (Lt l y x))
theorem byTick_is (l : PL) : ByTick l (byTick l) := by
  refine ⟨List.mergeSort_perm _ _, ?_⟩
  have ht : ∀ a b c : Int, (!decide (Lt l b a)) = true → (!decide (Lt l c b)) = true → (!decide (Lt l c a)) = true := by
    intro a b c h1 h2
    simp only [Bool.not_eq_true', decide_eq_false_iff_not] at *
    unfold Lt at *
    omega
  have hto : ∀ a b : Int, ((!decide (Lt l b a)) || (!decide (Lt l a b))) = true := by
    intro a b
    simp only [Bool.or_eq_true, Bool.not_eq_true', decide_eq_false_iff_not]
    unfold Lt
    omega
  refine (List.pairwise_mergeSort ht hto (keys l)).imp (fun h => ?_)
  simpa only [Bool.not_eq_true', decide_eq_false_iff_not] using h
theorem ByTick.eq {l : PL} {ks : List Int} (h : ByTick l ks) : ks = byTick l := h.unique (byTick_is l)
theorem byTick_len (l : PL) : (byTick l).length = l.length := by rw [(byTick_is l).1.length_eq]; simp [keys]
/-- Ticks lie where Cut lays them. -/
def Ticks (l : PL) : Prop := ∀ p ∈ l, 0 ≤ p.2 ∧ p.2 ≤ 1099511627776
def Least (l : PL) (T : Int) : Prop := (∃ p ∈ l, p.2 = T) ∧ ∀ q ∈ l, T ≤ q.2
theorem least_is : ∀ {l : PL}, l ≠ [] → ∃ T, Least l T
  | [], h => absurd rfl h
  | [p], _ => ⟨p.2, ⟨p, by simp, rfl⟩, fun q hq => by rw [List.mem_singleton.1 hq]; exact Int.le_refl _⟩
  | p :: q :: r, _ => by
    obtain ⟨T, ⟨x, hx, he⟩, hl⟩ := least_is (l := q :: r) (by simp)
    by_cases h : p.2 ≤ T
    · exact ⟨p.2, ⟨p, by simp, rfl⟩, fun y hy => by
        rcases List.mem_cons.1 hy with rfl | hy
        · exact Int.le_refl _
        · exact Int.le_trans h (hl y hy)⟩
    · exact ⟨T, ⟨x, List.mem_cons_of_mem _ hx, he⟩, fun y hy => by
        rcases List.mem_cons.1 hy with rfl | hy
        · omega
        · exact hl y hy⟩
theorem Least.unique {l : PL} {T S : Int} (h : Least l T) (k : Least l S) : T = S := by
  obtain ⟨⟨p, hp, rfl⟩, h2⟩ := h
  obtain ⟨⟨q, hq, rfl⟩, k2⟩ := k
  have := h2 q hq
  have := k2 p hp
  omega
theorem code_of {l : PL} (hr : Rising l) {p : Int × Int} (hp : p ∈ l) : code l p.1 = p.2 := by
  unfold code
  rw [(look_some hr).2 (show (p.1, p.2) ∈ l from hp)]
  rfl
variable {l : PL} {T : Int}
theorem due_len (l : PL) (T : Int) : (due l T).length + (rest l T).length = l.length := by
  unfold due rest
  rw [List.length_map]
  have := (List.filter_append_perm (fun p : Int × Int => past T p.2) l).length_eq
  rw [List.length_append] at this
  exact this
theorem past_ticks {t now : Int} (h : 0 ≤ t ∧ t ≤ 1099511627776) (h2 : 0 ≤ now ∧ now ≤ 1099511627776) : past now t = decide (t ≤ now) := past_le h.1 h.2 h2.1 h2.2
theorem least_range (ht : Ticks l) (h : Least l T) : 0 ≤ T ∧ T ≤ 1099511627776 := by
  obtain ⟨⟨p, hp, rfl⟩, _⟩ := h
  exact ht p hp
theorem due_none (ht : Ticks l) (h : Least l T) (h0 : 0 < T) : due l (T - 1) = [] ∧ rest l (T - 1) = l := by
  have hr := least_range ht h
  have hp : ∀ p ∈ l, past (T - 1) p.2 = false := fun p hp => by
    rw [past_ticks (ht p hp) ⟨by omega, by omega⟩]
    have := h.2 p hp
    exact decide_eq_false (by omega)
  unfold due rest
  constructor
  · rw [List.filter_eq_nil_iff.2 (fun p hp' => by rw [hp p hp']; decide)]
    rfl
  · exact List.filter_eq_self.2 (fun p hp' => by rw [hp p hp']; rfl)
theorem due_some (ht : Ticks l) (h : Least l T) : 0 < (due l T).length := by
  obtain ⟨p, hp, he⟩ := h.1
  have hr := least_range ht h
  have : p.1 ∈ due l T := by
    unfold due
    refine List.mem_map.2 ⟨p, List.mem_filter.2 ⟨hp, ?_⟩, rfl⟩
    rw [past_ticks (ht p hp) hr]
    exact decide_eq_true (by omega)
  exact List.length_pos_of_mem this
theorem rest_ticks (ht : Ticks l) (T : Int) : Ticks (rest l T) := fun p hp => ht p (List.mem_filter.1 hp).1
theorem rest_rising (hr : Rising l) (T : Int) : Rising (rest l T) := List.Pairwise.sublist List.filter_sublist hr
theorem byTick_split (hr : Rising l) (ht : Ticks l) (h : Least l T) : byTick l = due l T ++ byTick (rest l T) := by
  have hT := least_range ht h
  refine (ByTick.eq ⟨?_, ?_⟩).symm
  · refine (List.Perm.append_left _ (byTick_is (rest l T)).1).trans ?_
    unfold due rest keys
    rw [← List.map_append]
    exact (List.filter_append_perm (fun p : Int × Int => past T p.2) l).map _
  · have hd : ∀ x ∈ due l T, code l x = T := fun x hx => by
      unfold due at hx
      obtain ⟨p, hp, rfl⟩ := List.mem_map.1 hx
      obtain ⟨hp1, hp2⟩ := List.mem_filter.1 hp
      rw [code_of hr hp1]
      rw [past_ticks (ht p hp1) hT] at hp2
      have := h.2 p hp1
      have := of_decide_eq_true hp2
      omega
    have hre : ∀ y ∈ byTick (rest l T), T < code l y ∧ code (rest l T) y = code l y := fun y hy => by
      have hy2 := (byTick_is (rest l T)).1.mem_iff.1 hy
      unfold keys at hy2
      obtain ⟨p, hp, rfl⟩ := List.mem_map.1 hy2
      obtain ⟨hp1, hp2⟩ := List.mem_filter.1 hp
      rw [code_of hr hp1, code_of (rest_rising hr T) hp]
      rw [past_ticks (ht p hp1) hT] at hp2
      refine ⟨?_, rfl⟩
      have hp3 : decide (p.2 ≤ T) = false := by simpa using hp2
      have := of_decide_eq_false hp3
      omega
    refine List.pairwise_append.2 ⟨?_, ?_, fun x hx y hy => ?_⟩
    · have hpw : (due l T).Pairwise (· < ·) := List.pairwise_map.2 (List.Pairwise.sublist List.filter_sublist hr)
      refine hpw.imp_of_mem (fun {a b} ha hb hab => ?_)
      unfold Lt
      rw [hd a ha, hd b hb]
      omega
    · refine (byTick_is (rest l T)).2.imp_of_mem (fun {a b} ha hb hab => ?_)
      unfold Lt at hab ⊢
      rw [(hre a ha).2, (hre b hb).2] at hab
      exact hab
    · unfold Lt
      rw [hd x hx]
      have := (hre y hy).1
      omega
theorem byTick_zero (hr : Rising l) (ht : Ticks l) (h : Least l T) : ∃ p ∈ l, nth (byTick l) 0 = p.1 ∧ p.2 = T := by
  have hp := due_some ht h
  have e : nth (byTick l) 0 = nth (due l T) 0 := by
    rw [byTick_split hr ht h, nth_eq (by simp; omega), nth_eq hp, List.getElem_append_left hp]
  have hm : nth (due l T) 0 ∈ due l T := by rw [nth_eq hp]; exact List.getElem_mem hp
  obtain ⟨p, hp1, hp2⟩ := List.mem_map.1 hm
  obtain ⟨hp3, hp4⟩ := List.mem_filter.1 hp1
  refine ⟨p, hp3, by rw [e, hp2], ?_⟩
  rw [past_ticks (ht p hp3) (least_range ht h)] at hp4
  have := h.2 p hp3
  have := of_decide_eq_true hp4
  omega
end Go.Proofs.Ytfflhppieogkbaa.Hp
