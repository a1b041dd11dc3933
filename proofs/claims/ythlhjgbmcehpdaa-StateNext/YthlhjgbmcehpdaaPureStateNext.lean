/-
  The pure statement of StateNext: the state behind any event, and any events, is the document's. Conditions: none.
-/
import Derived.Test.YthlhjgbmcehpdaaPAx8
import Derived.Test.YthlhjgbmcehpdaaPlainState
namespace Go.Proofs.Ythlhjgbmcehpdaa.Pure
open Go.RowKit Go.Proofs.Ythlhjgbmcehpdaa.PA Go.Proofs.YthlhjgbmcehpdaaW.PrintWords Go.Proofs.YthlhjgbmcehpdaaW.PrintLast
open Go.Proofs.Ythlhjgbmcehpdaa.PlainState Go.Proofs.Ythlhjgbmcehpdaa.Man

theorem StateNext : hostlerlaw10_StateNext.Pure := by
  intro a0 a1 l2 _ _ _ _ _
  refine ⟨100, ?_⟩
  obtain ⟨m0, m1, m2⟩ := mn_len l2 40 (by decide)
  unfold hostlerlaw10_StateNext.f
  rw [lives_is, Option.bind_some, if_pos rfl, if_pos m0, if_pos m1, next_stp, Option.bind_some, show hostlerref10_Next.f a0 a1 = some (stp a0 a1) from rfl, Option.bind_some]
  have ht := PlainState.take_len l2 (mn (l2.length : Int) 40).toNat
  rw [walk_is _ (by omega) 100 (by omega), Option.bind_some, ref_is _ (by omega) 100 (by omega), Option.bind_some]
  obtain ⟨b, hb⟩ := name_some a0
  obtain ⟨c, hc⟩ : ∃ c, state_Event.f a1 = some c := ⟨_, rfl⟩
  simp only [name_eq, event_eq, hb, hc, Option.bind_some, state_Serves.f, state_Opens.f]
  simp
end Go.Proofs.Ythlhjgbmcehpdaa.Pure
