/-
  The first steps, as a cut of what came in. Conditions: none.
-/
import Derived.Test.YtdcnmjdohjodhaaPEx1
import Derived.Test.YtdcnmjdohjodhaaMe
set_option linter.unusedVariables false
set_option linter.unusedSimpArgs false
namespace Go.Proofs.Ytdcnmjdohjodhaa.Man
open Go.RowKit Go.Proofs.YtdcnmjdohjodhaaW.PrintWords Go.Proofs.YtdcnmjdohjodhaaW.PrintLast Go.Proofs.YtdcnmjdohjodhaaW.PrintMore Go.Proofs.Ytdcnmjdohjodhaa.PE Go.Proofs.Ytdcnmjdohjodhaa.PF
attribute [local go_sem] max2_int min2_int max_two min_two max_three min_three max_four min_four
set_option maxHeartbeats 2000000 in
theorem early_raw (A0 : Option Addr) (len c0 n : Nat) (j : Int) (w : World) (hn : Aside0 (n = j.toNat)) (hj : mn (len : Int) 100 = j) (hc : len ≤ c0) :
    Calls Try.prog 14 #[.slice A0 len c0] w fun e w' => e = .returned (.slice A0 n c0) ∧ w = w' := by
  have hj2 : (if 100 < (len : Int) then 100 else (len : Int)) = j := hj
  have c3 : 0 ≤ j := by rw [← hj2]; split <;> omega
  have q5 : j ≤ (len : Int) := by rw [← hj2]; split <;> omega
  have c3b0 := eq_true c3
  have c3b1 : decide (0 ≤ j) = true := decide_eq_true c3
  have c4b0 := eq_true q5
  have c4b1 : decide (j ≤ (len : Int)) = true := decide_eq_true q5
  obtain ⟨i05, hi05, _, hsz5, _⟩ := info_parts info37
  have hcut5 := cut_to (P := Try.prog) 34 37 .i64 Try.underlying34 hi05 A0 len c0 j c3 q5 hc
  rw [← hn.out] at hcut5
  clear hi05 hsz5 hj hn c3 q5
  go_enter Try.func14, Try.ntmps14
  go_wp2
  go_ret
  exact ⟨rfl, rfl⟩
end Go.Proofs.Ytdcnmjdohjodhaa.Man
