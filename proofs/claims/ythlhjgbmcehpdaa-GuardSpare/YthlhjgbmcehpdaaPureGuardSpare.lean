/-
  The pure statement of GuardSpare: as many hosts as may leave, and one more. Conditions: none.
-/
import Derived.Test.YthlhjgbmcehpdaaPAx2
import Derived.Test.YthlhjgbmcehpdaaPlainGuard
namespace Go.Proofs.Ythlhjgbmcehpdaa.Pure
open Go.RowKit Go.Proofs.Ythlhjgbmcehpdaa.PA Go.Proofs.YthlhjgbmcehpdaaW.PrintWords Go.Proofs.YthlhjgbmcehpdaaW.PrintLast
open Go.Proofs.Ythlhjgbmcehpdaa.PlainGuard

theorem GuardSpare : hostlerlaw11_GuardSpare.Pure := by
  intro l0 a b _ _ _ _ _
  refine ⟨100, ?_⟩
  obtain ⟨l, hl, hl20⟩ := few_is l0
  obtain ⟨g, hg, hg0, hg1⟩ := near_is b
  have he := each_is a
  unfold hostlerlaw11_GuardSpare.f
  generalize wrap64 (1 + wrap64 (Int.tmod (IntKind.u64.wrap a) 8)) = e at he ⊢
  obtain ⟨f1, f2, f3, f4, f5⟩ := spare_facts l e g (by omega) he.1 he.2
  have hc := cap_bd l e (by omega) (by omega)
  rw [lives_is, Option.bind_some, if_pos rfl, hl, Option.bind_some, hg, Option.bind_some, cap_is l e (by omega) (by omega) 100 (by omega), Option.bind_some, spare_is l e g (by omega) (by omega) (by omega) 100 (by omega), Option.bind_some]
  generalize hn : spare l e g = n at f1 f2 f4 f5 ⊢
  generalize hcc : cap l e = c at f2 f3 f4 f5 hc ⊢
  have hp := Int.mul_nonneg f1 (show 0 ≤ e by omega)
  have hp1 : (n + 1) * e = n * e + e := by rw [Int.add_mul, Int.one_mul]
  have hnb : n ≤ n * e := by have q := Int.mul_le_mul_of_nonneg_left he.1 f1; rw [Int.mul_one] at q; exact q
  rw [hp1] at f4
  rw [if_neg (by omega), wrap_in (n := n * e) (by omega) (by omega), if_neg (by omega), if_neg (by omega), Int.tmod_eq_emod_of_nonneg (by omega), if_pos f3, wrap_in (n := c - n * e) (by omega) (by omega), wrap_in (n := n + 1) (by omega) (by omega), hp1, wrap_in (n := n * e + e) (by omega) (by omega), wrap_in (n := c - (n * e + e)) (by omega) (by omega)]
  by_cases h : c ≥ g
  · obtain ⟨k1, k2⟩ := f4 h
    rw [if_pos h, if_pos k1]
    by_cases h2 : n * e = c
    · rw [if_pos h2]
    · rw [if_neg h2, if_pos (by omega)]
  · rw [if_neg h, if_pos (by omega), f5 (by omega)]
    rfl
end Go.Proofs.Ythlhjgbmcehpdaa.Pure
