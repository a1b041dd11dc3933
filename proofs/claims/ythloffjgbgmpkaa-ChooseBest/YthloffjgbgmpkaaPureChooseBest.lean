/-
  The pure statement of ChooseBest. Conditions: none.
-/
import Derived.Test.YthloffjgbgmpkaaPDx2
import Derived.Test.YthloffjgbgmpkaaPlainChoose
set_option linter.unusedVariables false
set_option linter.unusedSimpArgs false
namespace Go.Proofs.Ythloffjgbgmpkaa.Pure
open Go.RowKit Go.Proofs.Ythloffjgbgmpkaa.PA Go.Proofs.Ythloffjgbgmpkaa.Man Go.Proofs.Ythloffjgbgmpkaa.PD Go.Proofs.Ythloffjgbgmpkaa.Plain Go.Proofs.YthloffjgbgmpkaaW.PrintWords Go.Proofs.YthloffjgbgmpkaaW.PrintLast
theorem lives_at : hostlerlaw17_lives.f 30 = some true := by decide +kernel
theorem lives_mono (k : Nat) : hostlerlaw17_lives.f (30 + k) = some true := by
  induction k with
  | zero => exact lives_at
  | succ k ih => exact hostlerlaw17_lives.mono _ _ ih
theorem mx_nat (j : Nat) : mx (j : Int) 0 = j := by unfold mx; split <;> omega
theorem step3 (l : List S32) (hl : Ok l) (a1 x6 : Int) (x7 : Bool) (b2 : Int) (B2 : Best (fun i => pO a1 (rd_T32 l i)) (fun i => sumv (rd_T32 l i)) l.length b2) (n : Nat) (hn : n < l.length) (k : Nat) (hk : 22 < k) :
    hostlerlaw17_ChooseBest.j3 (k + 1) a1 l x6 x7 (mx b2 0) (decide (b2 ≥ 0)) n (sumv (rd_T32 l n)) (pO a1 (rd_T32 l n)) false = hostlerlaw17_ChooseBest.l0 k a1 l x6 x7 (mx b2 0) (decide (b2 ≥ 0)) ((n + 1 : Nat) : Int) := by
  have h20 := hl.1
  unfold hostlerlaw17_ChooseBest.j3
  rw [if_neg (by simp), cast1 n (by omega)]
  rcases B2 with ⟨rfl, hb⟩ | ⟨j, rfl, hj, hPj, hbest⟩
  · have h0 : pO a1 (rd_T32 l n) = false := hb n hn
    rw [h0, if_neg (by simp), show decide ((-1 : Int) ≥ 0) = false by decide, if_neg (show ¬ (false = true) by simp)]
    split <;> rfl
  · have e2 : decide ((j : Int) ≥ 0) = true := by simp
    rw [e2, mx_nat]
    cases h0 : pO a1 (rd_T32 l n) with
    | false =>
      rw [if_neg (by simp)]
      by_cases hnj : (n : Int) = j
      · have : n = j := by omega
        subst this
        rw [show pO a1 (rd_T32 l n) = true from hPj] at h0
        cases h0
      · rw [if_neg hnj]
    | true =>
      have hv := hbest n hn h0
      have hone := one_is l hl j hj k (by omega)
      have hv' : sumv (rd_T32 l j) < sumv (rd_T32 l n) ∨ (sumv (rd_T32 l j) = sumv (rd_T32 l n) ∧ j ≤ n) := hv
      rw [if_pos rfl, if_pos rfl, cast1 j (by omega), Int.toNat_natCast, Int.toNat_natCast, hone, if_pos (by omega), if_pos (by omega), if_pos (by omega), Option.bind_some, if_neg (by omega), Option.bind_some]
      by_cases he : sumv (rd_T32 l n) = sumv (rd_T32 l j)
      · rw [if_pos he, if_neg (by omega)]
        split <;> rfl
      · rw [if_neg he]
        split <;> rfl
theorem step2 (l : List S32) (hl : Ok l) (a1 x8 : Int) (x9 : Bool) (b1 : Int) (B1 : Best (fun i => pS (rd_T32 l i)) (fun i => mx (rd_T32 l i).f3 0) l.length b1) (n : Nat) (hn : n < l.length) (k : Nat) (x12 : Int) (x14 : Bool) :
    hostlerlaw17_ChooseBest.j2 (k + 1) a1 l (mx b1 0) (decide (b1 ≥ 0)) x8 x9 n x12 (pS (rd_T32 l n)) x14 = hostlerlaw17_ChooseBest.j3 k a1 l (mx b1 0) (decide (b1 ≥ 0)) x8 x9 n x12 x14 false := by
  unfold hostlerlaw17_ChooseBest.j2
  rcases B1 with ⟨rfl, hb⟩ | ⟨j, rfl, hj, hPj, hbest⟩
  · have h0 : pS (rd_T32 l n) = false := hb n hn
    rw [h0, if_neg (by simp), show decide ((-1 : Int) ≥ 0) = false by decide, if_neg (show ¬ (false = true) by simp)]
    split <;> rfl
  · have e2 : decide ((j : Int) ≥ 0) = true := by simp
    rw [e2, mx_nat]
    cases h0 : pS (rd_T32 l n) with
    | false =>
      rw [if_neg (by simp)]
      by_cases hnj : (n : Int) = j
      · have : n = j := by omega
        subst this
        rw [show pS (rd_T32 l n) = true from hPj] at h0
        cases h0
      · rw [if_neg hnj]
    | true =>
      have hv : mx (rd_T32 l j).f3 0 < mx (rd_T32 l n).f3 0 ∨ (mx (rd_T32 l j).f3 0 = mx (rd_T32 l n).f3 0 ∧ j ≤ n) := hbest n hn h0
      rw [if_pos rfl, if_pos rfl, if_pos (by omega), if_pos (by omega), if_pos (by omega), if_pos (by omega), if_neg (by omega)]
      by_cases he : mx (rd_T32 l n).f3 0 = mx (rd_T32 l j).f3 0
      · rw [if_pos he, if_neg (by omega)]
        split <;> rfl
      · rw [if_neg he]
        split <;> rfl
theorem step1 (l : List S32) (hl : Ok l) (a1 x6 x8 : Int) (x7 x9 : Bool) (n : Nat) (hn : n < l.length) (k : Nat) (x13 : Bool) :
    hostlerlaw17_ChooseBest.j1 (k + 1) a1 l x6 x7 x8 x9 n (sumv (rd_T32 l n)) x13 = hostlerlaw17_ChooseBest.j2 k a1 l x6 x7 x8 x9 n (sumv (rd_T32 l n)) x13 (pO a1 (rd_T32 l n)) := by
  unfold hostlerlaw17_ChooseBest.j1 pO
  rw [if_pos (by omega), if_pos (by omega)]
  by_cases h0 : (rd_T32 l n).f0 = 0
  · by_cases h4 : (rd_T32 l n).f4 = true
    · simp [h0, h4]
    · simp [h0, h4]
  · simp [h0]
theorem best_loop (l : List S32) (hl : Ok l) (a1 : Int) (b1 b2 : Int) (B1 : Best (fun i => pS (rd_T32 l i)) (fun i => mx (rd_T32 l i).f3 0) l.length b1) (B2 : Best (fun i => pO a1 (rd_T32 l i)) (fun i => sumv (rd_T32 l i)) l.length b2) :
    ∀ (d n k : Nat), n + d = l.length → 4 * d + 30 < k → hostlerlaw17_ChooseBest.l0 k a1 l (mx b1 0) (decide (b1 ≥ 0)) (mx b2 0) (decide (b2 ≥ 0)) n = some true := by
  intro d
  induction d with
  | zero =>
    intro n k hn hk
    obtain ⟨k, rfl⟩ : ∃ m, k = m + 1 := ⟨k - 1, by omega⟩
    have hlt1 := best_lt B1
    have hlt2 := best_lt B2
    unfold hostlerlaw17_ChooseBest.l0
    rw [if_neg (by omega)]
    rcases B1 with ⟨rfl, _⟩ | ⟨j1, rfl, hj1, _⟩ <;> rcases B2 with ⟨rfl, _⟩ | ⟨j2, rfl, hj2, _⟩
    · have e : mx (-1) 0 = 0 := by decide
      simp [e]
    · have e : mx (-1) 0 = 0 := by decide
      have : l ≠ [] := by intro hnil; rw [hnil] at hlt1 hlt2; simp at hlt1 hlt2; omega
      simp [e, this]
    · have e : mx (-1) 0 = 0 := by decide
      have : l ≠ [] := by intro hnil; rw [hnil] at hlt1 hlt2; simp at hlt1 hlt2; omega
      simp [e, this]
    · have : l ≠ [] := by intro hnil; rw [hnil] at hlt1 hlt2; simp at hlt1 hlt2; omega
      simp [this]
  | succ d ih =>
    intro n k hn hk
    obtain ⟨k, rfl⟩ : ∃ m, k = m + 4 := ⟨k - 4, by omega⟩
    have h20 := hl.1
    have hone := one_is l hl n (by omega) (k + 3) (by omega)
    unfold hostlerlaw17_ChooseBest.l0
    rw [if_pos (by omega), if_pos (by omega), cast1 n (by omega), if_pos (by omega), if_pos (by omega), Int.toNat_natCast, Int.toNat_natCast, hone, Option.bind_some]
    have e : (if (rd_T32 l n).f0 = 0 then hostlerlaw17_ChooseBest.j1 (k + 3) a1 l (mx b1 0) (decide (b1 ≥ 0)) (mx b2 0) (decide (b2 ≥ 0)) n (sumv (rd_T32 l n)) (decide ((rd_T32 l n).f2 > 0)) else hostlerlaw17_ChooseBest.j1 (k + 3) a1 l (mx b1 0) (decide (b1 ≥ 0)) (mx b2 0) (decide (b2 ≥ 0)) n (sumv (rd_T32 l n)) false) =
        hostlerlaw17_ChooseBest.j1 (k + 3) a1 l (mx b1 0) (decide (b1 ≥ 0)) (mx b2 0) (decide (b2 ≥ 0)) n (sumv (rd_T32 l n)) (pS (rd_T32 l n)) := by
      by_cases h0 : (rd_T32 l n).f0 = 0 <;> simp [pS, h0]
    rw [e, step1 l hl a1 _ _ _ _ n (by omega) (k + 2), step2 l hl a1 _ _ b1 B1 n (by omega) (k + 1), step3 l hl a1 _ _ b2 B2 n (by omega) k (by omega)]
    exact ih (n + 1) k (by omega) (by omega)
theorem ChooseBest : hostlerlaw17_ChooseBest.Pure := by
  intro l0 a1 _ _ _ _
  refine ⟨300, ?_⟩
  obtain ⟨m, hm, h20, hsm⟩ := few_is l0 300 (by omega)
  have hok := ok_conv h20 hsm
  have h1 := hok.1
  obtain ⟨b1, e1, B1⟩ := serve_is (m.map conv) hok 300 (by omega)
  obtain ⟨b2, e2, B2⟩ := open_is (m.map conv) hok a1 300 (by omega)
  unfold hostlerlaw17_ChooseBest.f
  rw [lives_mono 270, Option.bind_some, if_pos rfl, hm, Option.bind_some, as_is m h20 300 (by omega), Option.bind_some, e1, Option.bind_some, e2, Option.bind_some]
  exact best_loop (m.map conv) hok a1 b1 b2 B1 B2 (m.map conv).length 0 300 (by omega) (by omega)
end Go.Proofs.Ythloffjgbgmpkaa.Pure
