/-
  The pure statement of StateWalks: events of two lists, one behind the other. Conditions: none.
-/
import Derived.Test.YthlhjgbmcehpdaaPAx6
import Derived.Test.YthlhjgbmcehpdaaPlainState
namespace Go.Proofs.Ythlhjgbmcehpdaa.Pure
open Go.RowKit Go.Proofs.Ythlhjgbmcehpdaa.PA Go.Proofs.YthlhjgbmcehpdaaW.PrintWords Go.Proofs.YthlhjgbmcehpdaaW.PrintLast
open Go.Proofs.Ythlhjgbmcehpdaa.PlainState Go.Proofs.Ythlhjgbmcehpdaa.Man

theorem walkL_append (a b : List Int) : ∀ s, walkL s (a ++ b) = ((walkL (walkL s a).1 b).1, (walkL s a).2 + (walkL (walkL s a).1 b).2) := by
  induction a with
  | nil => intro s; simp [walkL]
  | cons e es ih =>
    intro s
    simp only [List.cons_append, walkL]
    rw [ih]
    simp only [Prod.mk.injEq, true_and]
    omega
/-- The events that did something. -/
def didL : Int → List Int → List Int
  | _, [] => []
  | s, e :: es => if (stp s e).2 = true then e :: didL (stp s e).1 es else didL (stp s e).1 es
theorem stp_no {s e : Int} (h : ¬ (stp s e).2 = true) : (stp s e).1 = s := by
  unfold stp at h ⊢
  split <;> simp_all
theorem did_walk (l : List Int) : ∀ s, walkL s (didL s l) = walkL s l ∧ (walkL s l).2 = ((didL s l).length : Int) ∧ (didL s l).length ≤ l.length := by
  induction l with
  | nil => intro s; simp [didL, walkL]
  | cons e es ih =>
    intro s
    obtain ⟨h1, h2, h3⟩ := ih (stp s e).1
    by_cases h : (stp s e).2 = true
    · simp only [didL, if_pos h, walkL, List.length_cons, h1]
      exact ⟨trivial, by rw [h2]; omega, by omega⟩
    · have hs := stp_no h
      rw [hs] at h1 h2 h3
      simp only [didL, if_neg h, walkL, List.length_cons, hs, h1]
      exact ⟨by simp, by rw [h2]; omega, by omega⟩
/-- What the statement asks behind its loop. -/
def tail (k : Nat) (x0 : Int) (x1 x2 x7 x8 : List Int) (x9 : Int) : Option Bool := (state_Walk.f k x0 x1).bind fun bt207 => ((state_Walk.f k bt207.1 x2).bind fun bt209 => ((state_Walk.f k x0 x7).bind fun bt211 => ((state_Walk.f k x0 x8).bind fun bt213 => (if bt209.1 = bt211.1 then (if (wrap64 (bt207.2 + bt209.2)) = bt211.2 then (if bt213.1 = bt211.1 then (if bt213.2 = bt211.2 then (if bt213.2 = (x8.length : Int) then (some (bt211.1 == x9)) else (some false)) else (some false)) else (some false)) else (some false)) else (some false)))))
theorem loop_is (s0 : Int) (x1 x2 x7 : List Int) (hl : x7.length ≤ 100) (d : Nat) : ∀ (k i : Nat) (x8 : List Int) (s : Int), i + d = x7.length → 200 + d < k → x8.length ≤ i →
    ∃ k', 200 ≤ k' ∧ hostlerlaw10_StateWalks.l0 k s0 x1 x2 x7 x8 s (i : Int) = tail k' s0 x1 x2 x7 (x8 ++ didL s (x7.drop i)) (walkL s (x7.drop i)).1 := by
  induction d with
  | zero =>
    intro k i x8 s hi hk h8
    obtain ⟨k, rfl⟩ : ∃ m, k = m + 1 := ⟨k - 1, by omega⟩
    refine ⟨k, by omega, ?_⟩
    rw [hostlerlaw10_StateWalks.l0, if_neg (by omega), List.drop_eq_nil_of_le (by omega)]
    simp [didL, walkL, tail]
  | succ d ih =>
    intro k i x8 s hi hk h8
    obtain ⟨k, rfl⟩ : ∃ m, k = m + 1 := ⟨k - 1, by omega⟩
    rw [hostlerlaw10_StateWalks.l0, if_pos (by omega), if_pos (by omega), next_stp, drop_at x7 i (by omega), Option.bind_some, wrap_in (n := (i : Int) + 1) (by omega) (by omega), cast1]
    by_cases h : (stp s (rd x7 (i : Int))).2 = true
    · obtain ⟨k', hk', e⟩ := ih k (i + 1) (x8 ++ [rd x7 (i : Int)]) (stp s (rd x7 (i : Int))).1 (by omega) (by omega) (by simp; omega)
      refine ⟨k', hk', ?_⟩
      rw [if_pos h, if_pos (by omega), e]
      simp only [didL, if_pos h, walkL, List.append_assoc, List.singleton_append]
    · obtain ⟨k', hk', e⟩ := ih k (i + 1) x8 (stp s (rd x7 (i : Int))).1 (by omega) (by omega) (by omega)
      refine ⟨k', hk', ?_⟩
      rw [if_neg h, e]
      simp only [didL, if_neg h, walkL]
theorem walkL_bd (l : List Int) (s : Int) : 0 ≤ (walkL s l).2 ∧ (walkL s l).2 ≤ (l.length : Int) := by
  obtain ⟨_, h2, h3⟩ := did_walk l s
  rw [h2]
  omega
theorem StateWalks : hostlerlaw10_StateWalks.Pure := by
  intro a0 l1 l2 _ _ _ _ _ _ _
  refine ⟨500, ?_⟩
  obtain ⟨m0, m1, m2⟩ := mn_len l1 20 (by decide)
  obtain ⟨n0, n1, n2⟩ := mn_len l2 20 (by decide)
  have ht := PlainState.take_len l1 (mn (l1.length : Int) 20).toNat
  have hu := PlainState.take_len l2 (mn (l2.length : Int) 20).toNat
  unfold hostlerlaw10_StateWalks.f
  rw [lives_mono 400, Option.bind_some, if_pos rfl, if_pos m0, if_pos m1, if_pos n0, if_pos n1]
  generalize l1.take (mn (l1.length : Int) 20).toNat = a at ht ⊢
  generalize l2.take (mn (l2.length : Int) 20).toNat = b at hu ⊢
  generalize wrap64 (Int.tmod (IntKind.u64.wrap a0) 4) = s
  rw [if_pos (by simp; omega), Option.bind_some, List.nil_append, if_pos (by omega)]
  obtain ⟨k', hk', e⟩ := loop_is s a b (a ++ b) (by simp; omega) (a ++ b).length 500 0 [] s (by omega) (by simp; omega) (by simp)
  have e' : hostlerlaw10_StateWalks.l0 500 s a b (a ++ b) [] s 0 = _ := e
  rw [e']
  simp only [List.drop_zero, List.nil_append]
  obtain ⟨d1, d2, d3⟩ := did_walk (a ++ b) s
  have hab : (a ++ b).length ≤ 40 := by simp; omega
  unfold tail
  rw [walk_is a (by omega) k' (by omega), Option.bind_some, walk_is b (by omega) k' (by omega), Option.bind_some, walk_is (a ++ b) (by omega) k' (by omega), Option.bind_some, walk_is (didL s (a ++ b)) (by omega) k' (by omega), Option.bind_some, d1]
  have w := walkL_append a b s
  have b1 := walkL_bd a s
  have b2 := walkL_bd b (walkL s a).1
  rw [if_pos (by rw [w]), if_pos (by rw [w]; exact wrap_in (by omega) (by omega)), if_pos rfl, if_pos rfl, if_pos d2]
  simp
end Go.Proofs.Ythlhjgbmcehpdaa.Pure
