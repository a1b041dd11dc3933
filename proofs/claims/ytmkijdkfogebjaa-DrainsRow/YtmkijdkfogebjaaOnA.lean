/-
  What the drains' methods keep: names told apart, not more than sixteen that wait. Conditions: none.
-/
import Derived.Test.YtmkijdkfogebjaaPD
set_option linter.unusedVariables false
set_option linter.unusedSimpArgs false
namespace Go.Proofs.Ytmkijdkfogebjaa.Man
open Go.RowKit Go.Proofs.YtmkijdkfogebjaaW.PrintWords Go.Proofs.YtmkijdkfogebjaaW.PrintLast Go.Proofs.Ytmkijdkfogebjaa.PA Go.Proofs.Ytmkijdkfogebjaa.Na
def Inv (s : DS) (b : Nat) : Prop := (s.row.map (·.f0)).Nodup ∧ s.row.length ≤ b ∧ (namesOf s.row false).length ≤ 16
theorem Inv.mono {s : DS} {b c : Nat} (h : Inv s b) (hc : b ≤ c) : Inv s c := ⟨h.1, Nat.le_trans h.2.1 hc, h.2.2⟩
theorem namesOf_append (a b : List S69) (u : Bool) : namesOf (a ++ b) u = namesOf a u ++ namesOf b u := by simp [namesOf]
theorem inv_end {s : DS} {b : Nat} (h : Inv s b) (nm : ByteArray) : Inv ⟨endRow s.row nm⟩ b ∧ nm ∉ (endRow s.row nm).map (·.f0) := by
  rw [endRow_eq nm s.row h.1]
  have hs : (s.row.filter (fun x => !decide (x.f0 = nm))).Sublist s.row := List.filter_sublist
  refine ⟨⟨h.1.sublist (hs.map _), Nat.le_trans hs.length_le h.2.1, Nat.le_trans (((hs.filter _).map _).length_le) h.2.2⟩, ?_⟩
  intro hm
  obtain ⟨x, hx, he⟩ := List.mem_map.1 hm
  have := (List.mem_filter.1 hx).2
  simp [he] at this
theorem inv_add {s : DS} {b : Nat} (h : Inv s b) (x : S69) (hn : x.f0 ∉ s.row.map (·.f0)) (hw : x.f2 = false → (namesOf s.row false).length < 16) : Inv ⟨s.row ++ [x]⟩ (b + 1) := by
  refine ⟨?_, by simpa using h.2.1, ?_⟩
  · simp only [List.map_append, List.map_cons, List.map_nil]
    rw [List.nodup_append]
    exact ⟨h.1, by simp, fun a ha c hc => by
      have : c = x.f0 := by simpa using hc
      rw [this]
      rintro rfl
      exact hn ha⟩
  · rw [namesOf_append]
    have := h.2.2
    cases hx : x.f2 with
    | true => simp [namesOf, hx]; simpa [namesOf] using this
    | false =>
      have := hw hx
      have e : (namesOf [x] false).length = 1 := by simp [namesOf, hx]
      rw [List.length_append, e]
      omega
theorem inv_ask {s : DS} {b : Nat} (h : Inv s b) (hb : b ≤ 1000) (nm : ByteArray) : ∃ r s', drains_Drains_Ask.f s nm = some (r, s') ∧ Inv s' (b + 1) := by
  unfold drains_Drains_Ask.f
  rw [if_pos (Nat.le_trans h.2.1 hb)]
  by_cases h1 : nameB nm = true
  · rw [if_pos h1]
    by_cases h2 : placeOf s.row nm 0 < 0
    · rw [if_pos h2]
      by_cases h3 : (namesOf s.row false).length < 16
      · rw [if_pos h3]
        exact ⟨_, _, rfl, inv_add h _ ((place_neg nm s.row 0 (by omega)).1 h2) (fun _ => h3)⟩
      · rw [if_neg h3]
        exact ⟨_, _, rfl, h.mono (by omega)⟩
    · rw [if_neg h2]
      exact ⟨_, _, rfl, h.mono (by omega)⟩
  · rw [if_neg h1]
    exact ⟨_, _, rfl, h.mono (by omega)⟩
theorem inv_begin {s : DS} {b : Nat} (h : Inv s b) (hb : b ≤ 1000) (nm : ByteArray) (dl : Int) : ∃ r s', drains_Drains_Begin.f s nm dl = some (r, s') ∧ Inv s' (b + 1) := by
  unfold drains_Drains_Begin.f
  rw [if_pos (Nat.le_trans h.2.1 hb)]
  by_cases h1 : nameB nm = true
  · rw [if_pos h1]
    by_cases h2 : placeOf s.row nm 0 < 0
    · rw [if_pos h2]
      exact ⟨_, _, rfl, inv_add h _ ((place_neg nm s.row 0 (by omega)).1 h2) (fun h => by cases h)⟩
    · rw [if_neg h2]
      by_cases h3 : (rd_T69 s.row (placeOf s.row nm 0)).f2 = true
      · rw [if_pos h3]
        exact ⟨_, _, rfl, h.mono (by omega)⟩
      · rw [if_neg h3]
        obtain ⟨he, hn⟩ := inv_end h nm
        exact ⟨_, _, rfl, inv_add he _ hn (fun h => by cases h)⟩
  · rw [if_neg h1]
    exact ⟨_, _, rfl, h.mono (by omega)⟩
theorem mem_names (row : List S69) (nm : ByteArray) : nm ∈ row.map (·.f0) ↔ nm ∈ namesOf row false ∨ nm ∈ namesOf row true := by
  unfold namesOf
  simp only [List.mem_map, List.mem_filter]
  constructor
  · rintro ⟨x, hx, rfl⟩
    cases hu : x.f2
    · exact .inl ⟨x, ⟨hx, by simp [hu]⟩, rfl⟩
    · exact .inr ⟨x, ⟨hx, by simp [hu]⟩, rfl⟩
  · rintro (⟨x, ⟨hx, _⟩, rfl⟩ | ⟨x, ⟨hx, _⟩, rfl⟩)
    · exact ⟨x, hx, rfl⟩
    · exact ⟨x, hx, rfl⟩
theorem was_eq (row : List S69) (nm : ByteArray) : (hasB nm (namesOf row false) || hasB nm (namesOf row true)) = decide (0 ≤ placeOf row nm 0) := by
  have h := place_neg nm row 0 (by omega)
  rw [mem_names] at h
  rw [Bool.eq_iff_iff, Bool.or_eq_true, hasB_iff, hasB_iff, decide_eq_true_iff]
  constructor
  · intro h2
    apply Classical.byContradiction
    intro h3
    exact h.1 (by omega) h2
  · intro h2
    apply Classical.byContradiction
    intro h3
    have := h.2 h3
    omega
theorem names_nodup {s : DS} {b : Nat} (h : Inv s b) (u : Bool) : (namesOf s.row u).Nodup := h.1.sublist ((List.filter_sublist).map _)
theorem names_apart {s : DS} {b : Nat} (h : Inv s b) (nm : ByteArray) (h1 : nm ∈ namesOf s.row false) : nm ∉ namesOf s.row true := by
  intro h2
  unfold namesOf at h1 h2
  obtain ⟨x, hx, ex⟩ := List.mem_map.1 h1
  obtain ⟨y, hy, ey⟩ := List.mem_map.1 h2
  have hx2 := List.mem_filter.1 hx
  have hy2 := List.mem_filter.1 hy
  have hxy : x = y := by
    have hn := h.1
    rw [List.Nodup, List.pairwise_map] at hn
    obtain ⟨i, hi, ei⟩ := List.getElem_of_mem hx2.1
    obtain ⟨j, hj, ej⟩ := List.getElem_of_mem hy2.1
    rcases Nat.lt_trichotomy i j with hl | rfl | hl
    · exact absurd (by rw [ei, ej, ex, ey]) (List.pairwise_iff_getElem.1 hn i j hi hj hl)
    · rw [← ei, ← ej]
    · exact absurd (by rw [ei, ej, ex, ey]) (List.pairwise_iff_getElem.1 hn j i hj hi hl)
  subst hxy
  have h3 := hx2.2
  have h4 := hy2.2
  simp only [beq_iff_eq] at h3 h4
  rw [h3] at h4
  cases h4
theorem nodup_take {l : List ByteArray} (h : l.Nodup) (k : Nat) (hk : k < l.length) : hasB l[k] (l.take k) = false := by
  apply hasB_no
  intro hm
  obtain ⟨i, hi, e⟩ := List.mem_take_iff_getElem.1 hm
  have := List.pairwise_iff_getElem.1 h i k (by omega) hk (by omega)
  exact this e
end Go.Proofs.Ytmkijdkfogebjaa.Man
