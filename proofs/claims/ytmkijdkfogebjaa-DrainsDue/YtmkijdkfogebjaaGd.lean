/-
  Good names: what the reference makes of numbers. Conditions: none.
-/
import Derived.Test.YtmkijdkfogebjaaOnA
set_option linter.unusedVariables false
set_option linter.unusedSimpArgs false
namespace Go.Proofs.Ytmkijdkfogebjaa.Man
open Go.RowKit Go.Proofs.YtmkijdkfogebjaaW.PrintWords Go.Proofs.YtmkijdkfogebjaaW.PrintLast Go.Proofs.Ytmkijdkfogebjaa.PA Go.Proofs.Ytmkijdkfogebjaa.Na
def six : List ByteArray := [⟨#[104, 48]⟩, ⟨#[104, 49]⟩, ⟨#[104, 50]⟩, ⟨#[104, 51]⟩, ⟨#[104, 52]⟩, ⟨#[104, 53]⟩]
theorem has_any (x : ByteArray) (l : List ByteArray) (k : Nat) (hm : l.length ≤ 9223372036854775807) (hk : l.length < k) : hostlerref09_Has.f k l x = some (hasB x l) := by
  have := has_loop x l hm l.length k 0 (by omega) (by omega) hk
  simpa [hostlerref09_Has.f] using this
theorem len_le {α : Type} [DecidableEq α] : ∀ (s l : List α), l.Nodup → (∀ x ∈ l, x ∈ s) → l.length ≤ s.length
  | [], l, _, h => by
    cases l with
    | nil => simp
    | cons x l => exact absurd (h x (by simp)) (by simp)
  | a :: s, l, hn, h => by
    have h1 : (l.filter (fun x => !decide (x = a))).length ≤ s.length := len_le s _ (hn.sublist List.filter_sublist) (fun x hx => by
      have h2 := List.mem_filter.1 hx
      rcases List.mem_cons.1 (h x h2.1) with rfl | h3
      · simp at h2
      · exact h3)
    have h4 : ∀ l : List α, l.Nodup → l.length ≤ (l.filter (fun x => !decide (x = a))).length + 1 := by
      intro l
      induction l with
      | nil => intro _; simp
      | cons x l ih =>
        intro hn
        rw [List.nodup_cons] at hn
        by_cases hx : x = a
        · subst hx
          have : l.filter (fun y => !decide (y = x)) = l := by
            rw [List.filter_eq_self]
            intro y hy
            have : y ≠ x := fun e => hn.1 (e ▸ hy)
            simp [this]
          simp [List.filter_cons, this]
        · have := ih hn.2
          simp [List.filter_cons, hx]
          omega
    have := h4 l hn
    simp only [List.length_cons]
    omega
theorem six_ok : ∀ x ∈ six, nameB x = true := by decide +kernel
theorem mod6 (x : Int) : ∃ n : Nat, wrap64 (Int.tmod (IntKind.u64.wrap x) 6) = (n : Int) ∧ n < 6 := by
  have hw : 0 ≤ IntKind.u64.wrap x := by
    unfold IntKind.wrap
    simp [IntKind.bits, IntKind.signed]
    omega
  have h1 : 0 ≤ Int.tmod (IntKind.u64.wrap x) 6 := Int.tmod_nonneg _ hw
  have h2 : Int.tmod (IntKind.u64.wrap x) 6 < 6 := Int.tmod_lt_of_pos _ (by omega)
  exact ⟨(Int.tmod (IntKind.u64.wrap x) 6).toNat, by unfold wrap64; omega, by omega⟩
def GoodNames (l : List ByteArray) : Prop := l.Nodup ∧ ∀ x ∈ l, x ∈ six
theorem GoodNames.len {l : List ByteArray} (h : GoodNames l) : l.length ≤ 6 := len_le six l h.1 h.2
theorem good_loop (x0 : List Int) (hm : x0.length ≤ 9223372036854775807) (d : Nat) : ∀ (k j : Nat) (acc : List ByteArray), j ≤ x0.length → x0.length - j = d → d + 8 < k → GoodNames acc → ∃ l, hostlerref09_Good.l0 k x0 acc six (j : Int) = some l ∧ GoodNames l := by
  induction d with
  | zero =>
    intro k j acc hj hd hk ha
    obtain ⟨k, rfl⟩ : ∃ m, k = m + 1 := ⟨k - 1, by omega⟩
    refine ⟨acc, ?_, ha⟩
    simp only [hostlerref09_Good.l0]
    rw [if_neg (by omega)]
  | succ d ih =>
    intro k j acc hj hd hk ha
    obtain ⟨k, rfl⟩ : ∃ m, k = m + 1 := ⟨k - 1, by omega⟩
    have hw : wrap64 ((j : Int) + 1) = ((j + 1 : Nat) : Int) := by unfold wrap64; omega
    obtain ⟨n, hn, hn6⟩ := mod6 (rd x0 (j : Int))
    have ha6 := ha.len
    simp only [hostlerref09_Good.l0]
    rw [if_pos (by omega), if_pos (by omega), hn, if_pos (by omega), if_pos (by show (n : Int) < (six.length : Int); simp [six]; omega), has_any _ acc k (by omega) (by omega), Option.bind_some, hw]
    have hin : rdOf ByteArray.empty six (n : Int) ∈ six := by
      have : rdOf ByteArray.empty six (n : Int) = six[n]'(by simp [six]; omega) := by simp [rdOf, List.getD, show n < six.length by simp [six]; omega]
      rw [this]
      exact List.getElem_mem _
    cases hh : hasB (rdOf ByteArray.empty six (n : Int)) acc with
    | true =>
      rw [if_pos rfl]
      exact ih k (j + 1) acc (by omega) (by omega) (by omega) ha
    | false =>
      rw [if_neg (by decide), if_pos (by omega)]
      refine ih k (j + 1) _ (by omega) (by omega) (by omega) ⟨?_, ?_⟩
      · rw [List.nodup_append]
        refine ⟨ha.1, by simp, fun a h1 c h2 => ?_⟩
        have : c = rdOf ByteArray.empty six (n : Int) := by simpa using h2
        rw [this]
        rintro rfl
        rw [(hasB_iff _ _).2 h1] at hh
        cases hh
      · intro x hx
        rcases List.mem_append.1 hx with h | h
        · exact ha.2 x h
        · rw [show x = _ from by simpa using h]
          exact hin
theorem good_some (x0 : List Int) (hm : x0.length ≤ 9223372036854775807) : ∃ l, hostlerref09_Good.f (x0.length + 9) x0 = some l ∧ GoodNames l := by
  have := good_loop x0 hm x0.length (x0.length + 9) 0 [] (by omega) (by omega) (by omega) ⟨by simp, by simp⟩
  exact this
end Go.Proofs.Ytmkijdkfogebjaa.Man
