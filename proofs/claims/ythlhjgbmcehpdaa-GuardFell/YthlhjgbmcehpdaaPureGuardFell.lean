/-
  The pure statement of GuardFell. Conditions: none.
-/
import Derived.Test.YthlhjgbmcehpdaaPAx5
namespace Go.Proofs.Ythlhjgbmcehpdaa.Pure
open Go.RowKit Go.Proofs.Ythlhjgbmcehpdaa.PA Go.Proofs.YthlhjgbmcehpdaaW.PrintWords Go.Proofs.YthlhjgbmcehpdaaW.PrintLast

theorem lives11 : hostlerlaw11_lives.f 100 = some true := by decide +kernel
theorem GuardFell : hostlerlaw11_GuardFell.Pure := by
  intro a b c _ _ _
  refine ⟨100, ?_⟩
  unfold hostlerlaw11_GuardFell.f
  rw [lives11, Option.bind_some, if_pos rfl]
  unfold guard_Fell.f
  by_cases h : b < a
  · simp [h]
  · simp [h]
end Go.Proofs.Ythlhjgbmcehpdaa.Pure
