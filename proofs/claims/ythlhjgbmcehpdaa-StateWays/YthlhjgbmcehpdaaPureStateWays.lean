/-
  The pure statement of StateWays: from each state to each in three events. Conditions: none.
-/
import Derived.Test.YthlhjgbmcehpdaaPAx2
import Derived.Test.YthlhjgbmcehpdaaPlainState
namespace Go.Proofs.Ythlhjgbmcehpdaa.Pure
open Go.RowKit Go.Proofs.Ythlhjgbmcehpdaa.PA Go.Proofs.YthlhjgbmcehpdaaW.PrintWords Go.Proofs.YthlhjgbmcehpdaaW.PrintLast
open Go.Proofs.Ythlhjgbmcehpdaa.PlainState Go.Proofs.Ythlhjgbmcehpdaa.Man

theorem mod4 (a : Int) : wrap64 (Int.tmod (IntKind.u64.wrap a) 4) = 0 ∨ wrap64 (Int.tmod (IntKind.u64.wrap a) 4) = 1 ∨ wrap64 (Int.tmod (IntKind.u64.wrap a) 4) = 2 ∨ wrap64 (Int.tmod (IntKind.u64.wrap a) 4) = 3 := by
  rw [IntKind.wrap_u64]
  have h : 0 ≤ a % 18446744073709551616 := by omega
  rw [Int.tmod_eq_emod_of_nonneg h]
  unfold wrap64
  omega
/-- What a third event finds. -/
def g2 (t x y : Int) (f : Bool) (c : Int) : Bool := f || x == t || y == t || (stp y c).1 == t
def f2 (t x y : Int) (f : Bool) : Bool := [0, 1, 2, 3, 4, 5, 6].foldl (g2 t x y) f
def f1 (t x : Int) (f : Bool) : Bool := [0, 1, 2, 3, 4, 5, 6].foldl (fun f b => f2 t x (stp x b).1 f) f
def f0 (s t : Int) (f : Bool) : Bool := [0, 1, 2, 3, 4, 5, 6].foldl (fun f a => if (stp s a).2 = true then f1 t (stp s a).1 f else f) f
theorem l2_step (k : Nat) (s t : Int) (f : Bool) (a x b y c : Int) (h : c < 7) (h0 : 0 ≤ c) : hostlerlaw10_StateWays.l2 (k + 1) s t f a x b y c = hostlerlaw10_StateWays.l2 k s t (g2 t x y f c) a x b y (c + 1) := by
  rw [hostlerlaw10_StateWays.l2, if_pos h, next_stp, Option.bind_some, wrap_in (n := c + 1) (by omega) (by omega)]
  unfold g2
  by_cases hf : f = true
  · subst hf; simp
  · rw [if_neg hf]
    simp only [Bool.not_eq_true] at hf
    subst hf
    by_cases h1 : x = t
    · rw [if_pos h1]; simp [h1]
    · rw [if_neg h1]
      by_cases h2 : y = t
      · rw [if_pos h2]; simp [h2]
      · rw [if_neg h2, beq_eq_false_iff_ne.mpr h1, beq_eq_false_iff_ne.mpr h2]; rfl
theorem l2_end (k : Nat) (s t : Int) (f : Bool) (a x b y : Int) (h0 : 0 ≤ b) (h1 : b < 7) : hostlerlaw10_StateWays.l2 (k + 1) s t f a x b y 7 = hostlerlaw10_StateWays.l1 k s t f a x (b + 1) := by
  rw [hostlerlaw10_StateWays.l2, if_neg (by omega), wrap_in (n := b + 1) (by omega) (by omega)]
theorem l1_step (k : Nat) (s t : Int) (f : Bool) (a x b : Int) (h0 : 0 ≤ b) (h1 : b < 7) : hostlerlaw10_StateWays.l1 (k + 9) s t f a x b = hostlerlaw10_StateWays.l1 k s t (f2 t x (stp x b).1 f) a x (b + 1) := by
  rw [show k + 9 = (k + 1 + 1 + 1 + 1 + 1 + 1 + 1 + 1) + 1 from rfl, hostlerlaw10_StateWays.l1, if_pos h1, next_stp, Option.bind_some, l2_step _ _ _ _ _ _ _ _ _ (by omega) (by omega), l2_step _ _ _ _ _ _ _ _ _ (by omega) (by omega), l2_step _ _ _ _ _ _ _ _ _ (by omega) (by omega),
    l2_step _ _ _ _ _ _ _ _ _ (by omega) (by omega), l2_step _ _ _ _ _ _ _ _ _ (by omega) (by omega), l2_step _ _ _ _ _ _ _ _ _ (by omega) (by omega), l2_step _ _ _ _ _ _ _ _ _ (by omega) (by omega)]
  exact l2_end _ _ _ _ _ _ _ _ h0 h1
theorem l1_end (k : Nat) (s t : Int) (f : Bool) (a x : Int) (h0 : 0 ≤ a) (h1 : a < 7) : hostlerlaw10_StateWays.l1 (k + 1) s t f a x 7 = hostlerlaw10_StateWays.l0 k s t f (a + 1) := by
  rw [hostlerlaw10_StateWays.l1, if_neg (by omega), wrap_in (n := a + 1) (by omega) (by omega)]
theorem l1_next {k : Nat} (hk : 9 ≤ k) (s t : Int) (f : Bool) (a x b : Int) (h0 : 0 ≤ b) (h1 : b < 7) : hostlerlaw10_StateWays.l1 k s t f a x b = hostlerlaw10_StateWays.l1 (k - 9) s t (f2 t x (stp x b).1 f) a x (b + 1) := by
  obtain ⟨k, rfl⟩ : ∃ m, k = m + 9 := ⟨k - 9, by omega⟩
  exact l1_step k s t f a x b h0 h1
theorem l1_fin {k : Nat} (q : Nat) (hk : k = q + 1) (s t : Int) (f : Bool) (a x : Int) (h0 : 0 ≤ a) (h1 : a < 7) : hostlerlaw10_StateWays.l1 k s t f a x 7 = hostlerlaw10_StateWays.l0 q s t f (a + 1) := by
  subst hk
  exact l1_end q s t f a x h0 h1
set_option maxRecDepth 100000 in
theorem l1_all (k : Nat) (s t : Int) (f : Bool) (a x : Int) (hk : 64 ≤ k) (h0 : 0 ≤ a) (h1 : a < 7) (q : Nat) (hq : k = q + 64) : hostlerlaw10_StateWays.l1 k s t f a x 0 = hostlerlaw10_StateWays.l0 q s t (f1 t x f) (a + 1) := by
  have e1 := l1_next (k := k) (by omega) s t f a x 0 (by omega) (by omega)
  have e2 := l1_next (k := k - 9) (by omega) s t (f2 t x (stp x 0).1 f) a x 1 (by omega) (by omega)
  have e3 := l1_next (k := k - 9 - 9) (by omega) s t (f2 t x (stp x 1).1 (f2 t x (stp x 0).1 f)) a x 2 (by omega) (by omega)
  have e4 := l1_next (k := k - 9 - 9 - 9) (by omega) s t (f2 t x (stp x 2).1 (f2 t x (stp x 1).1 (f2 t x (stp x 0).1 f))) a x 3 (by omega) (by omega)
  have e5 := l1_next (k := k - 9 - 9 - 9 - 9) (by omega) s t (f2 t x (stp x 3).1 (f2 t x (stp x 2).1 (f2 t x (stp x 1).1 (f2 t x (stp x 0).1 f)))) a x 4 (by omega) (by omega)
  have e6 := l1_next (k := k - 9 - 9 - 9 - 9 - 9) (by omega) s t (f2 t x (stp x 4).1 (f2 t x (stp x 3).1 (f2 t x (stp x 2).1 (f2 t x (stp x 1).1 (f2 t x (stp x 0).1 f))))) a x 5 (by omega) (by omega)
  have e7 := l1_next (k := k - 9 - 9 - 9 - 9 - 9 - 9) (by omega) s t (f2 t x (stp x 5).1 (f2 t x (stp x 4).1 (f2 t x (stp x 3).1 (f2 t x (stp x 2).1 (f2 t x (stp x 1).1 (f2 t x (stp x 0).1 f)))))) a x 6 (by omega) (by omega)
  exact e1.trans (e2.trans (e3.trans (e4.trans (e5.trans (e6.trans (e7.trans (l1_fin q (by omega) s t _ a x h0 h1)))))))
/-- An event that did something is refused at once. -/
def Once (s : Int) : Prop := ∀ a : Int, 0 ≤ a → a < 7 → (stp s a).2 = true → (stp (stp s a).1 a).2 = false
theorem l0_step (k : Nat) (s t : Int) (f : Bool) (a : Int) (h0 : 0 ≤ a) (h1 : a < 7) (ho : Once s) : ∃ k', k ≤ k' ∧ hostlerlaw10_StateWays.l0 (k + 65) s t f a = hostlerlaw10_StateWays.l0 k' s t (if (stp s a).2 = true then f1 t (stp s a).1 f else f) (a + 1) := by
  by_cases h : (stp s a).2 = true
  · refine ⟨k, Nat.le_refl _, ?_⟩
    obtain ⟨q, hq⟩ : ∃ q, q = k + 64 := ⟨_, rfl⟩
    rw [show k + 65 = q + 1 from by omega, hostlerlaw10_StateWays.l0, if_pos h1, next_stp, Option.bind_some, if_pos h, if_pos h, next_stp, Option.bind_some, if_neg (by simp [ho a h0 h1 h])]
    exact l1_all q s t f a _ (by omega) h0 h1 k (by omega)
  · refine ⟨k + 64, by omega, ?_⟩
    obtain ⟨q, hq⟩ : ∃ q, q = k + 64 := ⟨_, rfl⟩
    rw [← hq, show k + 65 = q + 1 from by omega, hostlerlaw10_StateWays.l0, if_pos h1, next_stp, Option.bind_some, if_neg h, if_neg h, wrap_in (n := a + 1) (by omega) (by omega)]
theorem l0_end (k : Nat) (s t : Int) (f : Bool) (hk : 0 < k) : hostlerlaw10_StateWays.l0 k s t f 7 = some f := by
  obtain ⟨k, rfl⟩ : ∃ m, k = m + 1 := ⟨k - 1, by omega⟩
  rw [hostlerlaw10_StateWays.l0, if_neg (by omega)]
theorem l0_next {k : Nat} (hk : 65 ≤ k) (s t : Int) (f : Bool) (a : Int) (h0 : 0 ≤ a) (h1 : a < 7) (ho : Once s) : ∃ k', k - 65 ≤ k' ∧ hostlerlaw10_StateWays.l0 k s t f a = hostlerlaw10_StateWays.l0 k' s t (if (stp s a).2 = true then f1 t (stp s a).1 f else f) (a + 1) := by
  obtain ⟨k, rfl⟩ : ∃ m, k = m + 65 := ⟨k - 65, by omega⟩
  obtain ⟨k', h, e⟩ := l0_step k s t f a h0 h1 ho
  exact ⟨k', by omega, e⟩
theorem l0_all (k : Nat) (hk : 500 ≤ k) (s t : Int) (f : Bool) (ho : Once s) : hostlerlaw10_StateWays.l0 k s t f 0 = some (f0 s t f) := by
  obtain ⟨k1, h1, e1⟩ := l0_next (k := k) (by omega) s t f 0 (by omega) (by omega) ho
  obtain ⟨k2, h2, e2⟩ := l0_next (k := k1) (by omega) s t (if (stp s 0).2 = true then f1 t (stp s 0).1 f else f) 1 (by omega) (by omega) ho
  obtain ⟨k3, h3, e3⟩ := l0_next (k := k2) (by omega) s t _ 2 (by omega) (by omega) ho
  obtain ⟨k4, h4, e4⟩ := l0_next (k := k3) (by omega) s t _ 3 (by omega) (by omega) ho
  obtain ⟨k5, h5, e5⟩ := l0_next (k := k4) (by omega) s t _ 4 (by omega) (by omega) ho
  obtain ⟨k6, h6, e6⟩ := l0_next (k := k5) (by omega) s t _ 5 (by omega) (by omega) ho
  obtain ⟨k7, h7, e7⟩ := l0_next (k := k6) (by omega) s t _ 6 (by omega) (by omega) ho
  exact e1.trans (e2.trans (e3.trans (e4.trans (e5.trans (e6.trans (e7.trans (l0_end k7 s t _ (by omega))))))))
theorem once_of {s : Int} (h : s = 0 ∨ s = 1 ∨ s = 2 ∨ s = 3) : Once s := by
  intro a h0 h1
  rcases h with rfl | rfl | rfl | rfl <;> rcases range7 h0 h1 with rfl | rfl | rfl | rfl | rfl | rfl | rfl <;> decide
theorem StateWays : hostlerlaw10_StateWays.Pure := by
  intro a0 a1 _ _
  refine ⟨500, ?_⟩
  unfold hostlerlaw10_StateWays.f
  rw [lives_mono 400, Option.bind_some, if_pos rfl, l0_all _ (by omega) _ _ _ (once_of (mod4 a0))]
  generalize hx : wrap64 (Int.tmod (IntKind.u64.wrap a0) 4) = x
  generalize hy : wrap64 (Int.tmod (IntKind.u64.wrap a1) 4) = y
  have h1 := mod4 a0
  have h2 := mod4 a1
  rw [hx] at h1
  rw [hy] at h2
  rcases h1 with rfl | rfl | rfl | rfl <;> rcases h2 with rfl | rfl | rfl | rfl <;> decide +kernel
end Go.Proofs.Ythlhjgbmcehpdaa.Pure
