/-
  diff.Name: what it answers, in plain words. Conditions: none.
-/
import Derived.Test.YtmkijdkfogebjaaNb
set_option linter.unusedVariables false
set_option linter.unusedSimpArgs false
namespace Go.Proofs.Ytmkijdkfogebjaa.Na
open Go.RowKit Go.Lib Go.Proofs.YtmkijdkfogebjaaW.PrintWords Go.Proofs.YtmkijdkfogebjaaW.PrintLast
def byteAt (s : ByteArray) (i : Nat) : Nat := (s.get! i).toNat
theorem dec_ascii (s : ByteArray) (pos : Nat) (h : byteAt s pos < 128) : Utf8.decode s pos = (byteAt s pos, 1) := by
  unfold byteAt at h ⊢
  unfold Utf8.decode
  simp only [Nat.add_zero]
  rw [if_pos h]
theorem dec_big (s : ByteArray) (pos : Nat) (h : ¬ byteAt s pos < 128) : 128 ≤ (Utf8.decode s pos).1 := by
  unfold byteAt at h
  unfold Utf8.decode
  simp only [Nat.add_zero]
  rw [if_neg h]
  split
  · split
    · assumption
    · decide
  · split
    · split
      · rename_i h2
        simp only [Bool.and_eq_true, decide_eq_true_eq] at h2
        show 128 ≤ _
        have := h2.1
        simp only at this ⊢
        omega
      · decide
    · split
      · split
        · rename_i h2
          simp only [Bool.and_eq_true, decide_eq_true_eq] at h2
          have := h2.1
          simp only at this ⊢
          omega
        · decide
      · decide
theorem okB_small (b : Nat) (h : okB b = true) : b < 128 := by
  unfold okB at h
  have := of_decide_eq_true h
  omega
theorem okB_dec (s : ByteArray) (pos : Nat) : okB (Utf8.decode s pos).1 = okB (byteAt s pos) := by
  by_cases h : byteAt s pos < 128
  · rw [dec_ascii s pos h]
  · have h1 := dec_big s pos h
    have e1 : okB (Utf8.decode s pos).1 = false := by
      cases e : okB (Utf8.decode s pos).1 with
      | false => rfl
      | true =>
        have := okB_small _ e
        omega
    have e2 : okB (byteAt s pos) = false := by
      cases e : okB (byteAt s pos) with
      | false => rfl
      | true =>
        have := okB_small _ e
        omega
    rw [e1, e2]
theorem badFrom_iff (s : ByteArray) : ∀ (f pos : Nat), s.size ≤ pos + f → (badFrom s f pos < 0 ↔ ∀ i, pos ≤ i → i < s.size → okB (byteAt s i) = true) := by
  intro f
  induction f with
  | zero =>
    intro pos h
    constructor
    · intro _ i h1 h2
      omega
    · intro _
      simp [badFrom]
  | succ f ih =>
    intro pos h
    rw [badFrom]
    by_cases hp : pos < s.size
    · rw [if_pos hp, okB_dec]
      by_cases hb : okB (byteAt s pos) = true
      · rw [if_pos hb, dec_ascii s pos (okB_small _ hb), ih (pos + 1) (by omega)]
        constructor
        · intro h1 i h2 h3
          rcases Nat.lt_or_ge pos i with h4 | h4
          · exact h1 i h4 h3
          · rw [show i = pos by omega]
            exact hb
        · intro h1 i h2 h3
          exact h1 i (by omega) h3
      · rw [if_neg hb]
        constructor
        · intro h1
          omega
        · intro h1
          exact absurd (h1 pos (Nat.le_refl _) hp) hb
    · rw [if_neg hp]
      constructor
      · intro _ i h1 h2
        omega
      · intro _
        decide
/-- A name that may be. -/
def nameB (s : ByteArray) : Bool := decide (1 ≤ s.size) && decide (s.size ≤ 16) && decide (∀ i, i < s.size → okB (byteAt s i) = true)
theorem nameB_bad (s : ByteArray) : decide (0 ≤ badFrom s s.size 0) = !decide (∀ i, i < s.size → okB (byteAt s i) = true) := by
  have h := badFrom_iff s s.size 0 (by omega)
  by_cases hb : ∀ i, i < s.size → okB (byteAt s i) = true
  · have h1 := h.mpr (fun i _ hi => hb i hi)
    rw [decide_eq_true hb, decide_eq_false (by omega)]
    rfl
  · have h1 : ¬ badFrom s s.size 0 < 0 := fun h2 => hb (fun i hi => h.mp h2 i (Nat.zero_le _) hi)
    rw [decide_eq_false hb, decide_eq_true (by omega)]
    rfl
set_option maxHeartbeats 1000000 in
theorem name_raw (s : ByteArray) (w : World) : Calls Try.prog 32 #[.string s] w fun e w' => e = .returned (.bool (nameB s)) ∧ Below w.heap.size w w' := by
  have hC := fun w => containsFunc48 s w
  rw [nameB_bad] at hC
  unfold nameB
  generalize decide (∀ i, i < s.size → okB (byteAt s i) = true) = b at hC ⊢
  by_cases h1 : s.size = 0
  · have he : s = ⟨#[]⟩ := by
      cases s with
      | mk d =>
        congr 1
        exact Array.eq_empty_of_size_eq_zero h1
    subst he
    go_enter Try.func32, Try.ntmps32
    go_wp2
    go_ret
    exact ⟨rfl, by repeat (first | exact Below.refl _ _ | apply pw_below_drewN | apply below_drew1)⟩
  · have hne : s.toList ≠ [] := by
      rw [Lib.toList_data]
      intro e
      apply h1
      have : s.data.toList.length = 0 := by rw [e]; rfl
      simpa using this
    have hem : s.toList.isEmpty = false := by
      cases h : s.toList with
      | nil => exact absurd h hne
      | cons x l => rfl
    have h3 : decide (1 ≤ s.size) = true := decide_eq_true (by omega)
    by_cases h2 : (s.size : Int) ≤ 16
    · have h4 : decide (s.size ≤ 16) = true := decide_eq_true (by omega)
      rw [h3, h4]
      go_enter Try.func32, Try.ntmps32
      go_wp2_with (go_at_call 48; refine (hC _).mono ?_; rintro e w' ⟨rfl, hb⟩)
      go_ret
      exact ⟨by simp [hem], hb⟩
    · have h4 : decide (s.size ≤ 16) = false := decide_eq_false (by omega)
      have h5 : decide ((s.size : Int) ≤ 16) = false := decide_eq_false h2
      rw [h3, h4]
      go_enter Try.func32, Try.ntmps32
      go_wp2
      go_ret
      exact ⟨by simp [hem], by repeat (first | exact Below.refl _ _ | apply pw_below_drewN | apply below_drew1)⟩
def diff_Name.f (s : ByteArray) : Option Bool := some (nameB s)
theorem diff_Name.calls (a0 : ByteArray) (r : Bool) (w : World) (h : diff_Name.f a0 = some r) : Calls Try.prog 32 #[.string a0] w fun e w' => e = .returned (.bool r) ∧ Below w.heap.size w w' := by
  obtain rfl := Option.some.inj h
  exact name_raw a0 w
end Go.Proofs.Ytmkijdkfogebjaa.Na
