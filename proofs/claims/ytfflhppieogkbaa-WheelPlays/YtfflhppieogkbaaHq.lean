/-
  A heap by its parents, plain. Conditions: none.
-/
import Derived.Test.YtfflhppieogkbaaSx
set_option linter.unusedVariables false
set_option linter.unusedSimpArgs false
namespace Go.Proofs.Ytfflhppieogkbaa.Hp
/-- The tick at a place. -/
def tk (xs : List E66) (i : Nat) : Int := (rd_T66 xs (i : Int)).f0
theorem rd_get (xs : List E66) (i : Nat) (h : i < xs.length) : rd_T66 xs (i : Int) = xs[i] := by simp [rd_T66, List.getD, h]
theorem swp_length (xs : List E66) (i k : Nat) : (swp xs i k).length = xs.length := by simp [swp]
theorem rd_swp (xs : List E66) (i k j : Nat) (hi : i < xs.length) (hk : k < xs.length) (hj : j < xs.length) : rd_T66 (swp xs i k) (j : Int) = if j = k then rd_T66 xs (i : Int) else if j = i then rd_T66 xs (k : Int) else rd_T66 xs (j : Int) := by
  rw [rd_get _ j (by rw [swp_length]; exact hj), rd_get xs j hj]
  simp only [swp, List.getElem_set]
  by_cases h1 : k = j
  · subst h1
    simp
  · have h3 : ¬ j = k := fun e => h1 e.symm
    by_cases h2 : i = j
    · subst h2
      simp [h1, h3]
    · have h4 : ¬ j = i := fun e => h2 e.symm
      simp [h1, h2, h3, h4]
theorem mem_rd {xs : List E66} {x : E66} : x ∈ xs ↔ ∃ j, j < xs.length ∧ rd_T66 xs (j : Int) = x := by
  rw [List.mem_iff_getElem]
  constructor
  · rintro ⟨j, h, e⟩
    exact ⟨j, h, by rw [rd_get xs j h]; exact e⟩
  · rintro ⟨j, h, e⟩
    exact ⟨j, h, by rw [← rd_get xs j h]; exact e⟩
theorem mem_swp (xs : List E66) (i k : Nat) (hi : i < xs.length) (hk : k < xs.length) (x : E66) : x ∈ swp xs i k ↔ x ∈ xs := by
  rw [mem_rd, mem_rd, swp_length]
  constructor
  · rintro ⟨j, h, e⟩
    rw [rd_swp xs i k j hi hk h] at e
    by_cases h1 : j = k
    · rw [if_pos h1] at e; exact ⟨i, hi, e⟩
    · rw [if_neg h1] at e
      by_cases h2 : j = i
      · rw [if_pos h2] at e; exact ⟨k, hk, e⟩
      · rw [if_neg h2] at e; exact ⟨j, h, e⟩
  · rintro ⟨j, h, e⟩
    by_cases h1 : j = i
    · refine ⟨k, hk, ?_⟩
      rw [rd_swp xs i k k hi hk hk, if_pos rfl, ← h1]; exact e
    · by_cases h2 : j = k
      · refine ⟨i, hi, ?_⟩
        rw [rd_swp xs i k i hi hk hi]
        by_cases h3 : i = k
        · exact absurd (h2.trans h3.symm) h1
        · rw [if_neg h3, if_pos rfl, ← h2]; exact e
      · refine ⟨j, h, ?_⟩
        rw [rd_swp xs i k j hi hk h, if_neg h2, if_neg h1]; exact e
theorem tk_swp (xs : List E66) (i k j : Nat) (hi : i < xs.length) (hk : k < xs.length) (hj : j < xs.length) : tk (swp xs i k) j = if j = k then tk xs i else if j = i then tk xs k else tk xs j := by
  unfold tk
  rw [rd_swp xs i k j hi hk hj]
  split
  · rfl
  · split <;> rfl
/-- A heap: each one's parent isn't above it. -/
def Heap (xs : List E66) : Prop := ∀ i, 1 ≤ i → i < xs.length → tk xs ((i - 1) / 2) ≤ tk xs i
/-- A heap but for the edge above j. -/
def HeapBut (xs : List E66) (j : Nat) : Prop := (∀ i, 1 ≤ i → i < xs.length → i ≠ j → tk xs ((i - 1) / 2) ≤ tk xs i) ∧ ∀ i, 1 ≤ i → i < xs.length → (i - 1) / 2 = j → 1 ≤ j → tk xs ((j - 1) / 2) ≤ tk xs i
theorem HeapBut.stop {xs : List E66} {j : Nat} (h : HeapBut xs j) (hs : j = 0 ∨ tk xs ((j - 1) / 2) ≤ tk xs j) : Heap xs := fun i h1 hl => by
  by_cases e : i = j
  · subst e
    rcases hs with e | e
    · omega
    · exact e
  · exact h.1 i h1 hl e
theorem HeapBut.up {xs : List E66} {j : Nat} (h : HeapBut xs j) (hj : 1 ≤ j) (hl : j < xs.length) (hlt : tk xs j < tk xs ((j - 1) / 2)) : HeapBut (swp xs ((j - 1) / 2) j) ((j - 1) / 2) := by
  obtain ⟨p, hp⟩ : ∃ p, (j - 1) / 2 = p := ⟨_, rfl⟩
  rw [hp] at hlt ⊢
  have hpj : p < j := by omega
  have hpl : p < xs.length := by omega
  have key : ∀ i, i < xs.length → tk (swp xs p j) i = if i = j then tk xs p else if i = p then tk xs j else tk xs i := fun i hi => tk_swp xs p j i hpl hl hi
  have hh : ∀ i, 1 ≤ i → i < xs.length → i ≠ j → tk xs ((i - 1) / 2) ≤ tk xs i := h.1
  refine ⟨fun i h1 hil hne => ?_, fun i h1 hil hc hp1 => ?_⟩
  · rw [swp_length] at hil
    rw [key i hil, key ((i - 1) / 2) (by omega)]
    by_cases e1 : i = j
    · subst e1
      rw [if_pos rfl, hp, if_neg (by omega), if_pos rfl]
      omega
    · rw [if_neg e1, if_neg hne]
      by_cases e2 : (i - 1) / 2 = j
      · rw [if_pos e2]
        have := h.2 i h1 hil e2 hj
        rw [hp] at this
        exact this
      · rw [if_neg e2]
        by_cases e3 : (i - 1) / 2 = p
        · rw [if_pos e3]
          have := hh i h1 hil e1
          rw [e3] at this
          omega
        · rw [if_neg e3]
          exact hh i h1 hil e1
  · rw [swp_length] at hil
    rw [key i hil, key ((p - 1) / 2) (by omega), if_neg (by omega : ¬ (p - 1) / 2 = j), if_neg (by omega : ¬ (p - 1) / 2 = p)]
    have h3 := hh p hp1 hpl (by omega)
    by_cases e1 : i = j
    · rw [if_pos e1]; exact h3
    · rw [if_neg e1, if_neg (by omega)]
      have := hh i h1 hil e1
      rw [hc] at this
      omega
/-- The first is the least. -/
theorem Heap.least {xs : List E66} (h : Heap xs) : ∀ i, i < xs.length → tk xs 0 ≤ tk xs i := by
  intro i
  induction i using Nat.strongRecOn with
  | _ i ih =>
    intro hi
    rcases Nat.eq_zero_or_pos i with rfl | hp
    · exact Int.le_refl _
    · exact Int.le_trans (ih ((i - 1) / 2) (by omega) (by omega)) (h i hp hi)
/-- The first n are a heap. -/
def HeapTo (xs : List E66) (n : Nat) : Prop := ∀ i, 1 ≤ i → i < n → tk xs ((i - 1) / 2) ≤ tk xs i
/-- The first n are a heap but for the edges below i. -/
def DownBut (xs : List E66) (n i : Nat) : Prop := (∀ c, 1 ≤ c → c < n → (c - 1) / 2 ≠ i → tk xs ((c - 1) / 2) ≤ tk xs c) ∧ ∀ c, 1 ≤ c → c < n → (c - 1) / 2 = i → 1 ≤ i → tk xs ((i - 1) / 2) ≤ tk xs c
theorem DownBut.stop {xs : List E66} {n i : Nat} (h : DownBut xs n i) (hs : ∀ c, 1 ≤ c → c < n → (c - 1) / 2 = i → tk xs i ≤ tk xs c) : HeapTo xs n := fun c h1 hl => by
  by_cases e : (c - 1) / 2 = i
  · rw [e]; exact hs c h1 hl e
  · exact h.1 c h1 hl e
theorem DownBut.down {xs : List E66} {n i j : Nat} (h : DownBut xs n i) (hn : n ≤ xs.length) (hj : 1 ≤ j) (hjn : j < n) (hp : (j - 1) / 2 = i) (hmin : ∀ c, 1 ≤ c → c < n → (c - 1) / 2 = i → tk xs j ≤ tk xs c) (hlt : tk xs j < tk xs i) : DownBut (swp xs i j) n j := by
  have hij : i < j := by omega
  have key : ∀ c, c < n → tk (swp xs i j) c = if c = j then tk xs i else if c = i then tk xs j else tk xs c := fun c hc => tk_swp xs i j c (by omega) (by omega) (by omega)
  refine ⟨fun c h1 hc hne => ?_, fun c h1 hc he hj1 => ?_⟩
  · rw [key c hc, key ((c - 1) / 2) (by omega), if_neg hne]
    by_cases e1 : c = j
    · subst e1
      rw [if_pos rfl, hp, if_pos rfl]
      omega
    · rw [if_neg e1]
      by_cases e2 : (c - 1) / 2 = i
      · rw [if_pos e2]
        by_cases e3 : c = i
        · omega
        · rw [if_neg e3]
          exact hmin c h1 hc e2
      · rw [if_neg e2]
        by_cases e3 : c = i
        · rw [if_pos e3]
          have := h.2 j hj hjn hp (by omega)
          rw [e3]
          exact this
        · rw [if_neg e3]
          exact h.1 c h1 hc e2
  · rw [key c hc, hp, key i (by omega), if_neg (by omega : ¬ i = j), if_pos rfl, if_neg (by omega : ¬ c = j), if_neg (by omega : ¬ c = i)]
    have := h.1 c h1 hc (by omega)
    rw [he] at this
    exact this
end Go.Proofs.Ytfflhppieogkbaa.Hp
