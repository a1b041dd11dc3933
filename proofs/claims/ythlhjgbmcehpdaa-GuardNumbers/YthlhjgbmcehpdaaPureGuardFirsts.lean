/-
  The pure statement of GuardFirsts: the first one that may leave. Conditions: none.
-/
import Derived.Test.YthlhjgbmcehpdaaPBx3
import Derived.Test.YthlhjgbmcehpdaaPlainGuard
namespace Go.Proofs.Ythlhjgbmcehpdaa.Pure
open Go.RowKit Go.Proofs.Ythlhjgbmcehpdaa.PB Go.Proofs.Ythlhjgbmcehpdaa.PA Go.Proofs.Ythlhjgbmcehpdaa.ManB Go.Proofs.YthlhjgbmcehpdaaW.PrintWords Go.Proofs.YthlhjgbmcehpdaaW.PrintLast
open Go.Proofs.Ythlhjgbmcehpdaa.PlainGuard

theorem first_is (l l1 : List Int) (e g : Int) (hl : l.length ≤ 40) (he : e ≤ 1000) (k : Nat) (hk : l.length < k) : guard_First.f k l l1 e g = some (firstP (fun x => may l x e g) l1) := by
  unfold guard_First.f
  rw [if_pos (List.all_eq_true.mpr fun x _ => by rw [may_is l x e g hl he k hk]; rfl)]
  congr 1
  exact firstP_congr l1 fun x _ => by unfold mayB; rw [may_is l x e g hl he k hk]; rfl
theorem loop_first (l : List Int) (l1 : List Int) (e g : Int) (hl : l.length ≤ 40) (hl1 : l1.length ≤ 40) (he : e ≤ 1000) (r : Int × Bool) (d : Nat) : ∀ (k i : Nat), i + d = l1.length → 100 + d < k → firstP (fun x => may l x e g) (l1.drop i) = r →
    hostlerlaw11_GuardFirsts.l0 k l l1 e g r.1 r.2 (i : Int) = some true := by
  induction d with
  | zero =>
    intro k i hi hk hr
    obtain ⟨k, rfl⟩ : ∃ m, k = m + 1 := ⟨k - 1, by omega⟩
    rw [List.drop_eq_nil_of_le (by omega)] at hr
    subst hr
    rw [hostlerlaw11_GuardFirsts.l0, if_neg (by omega)]
    simp [firstP]
  | succ d ih =>
    intro k i hi hk hr
    obtain ⟨k, rfl⟩ : ∃ m, k = m + 1 := ⟨k - 1, by omega⟩
    rw [PlainGuard.drop_at l1 i (by omega)] at hr
    unfold firstP at hr
    rw [hostlerlaw11_GuardFirsts.l0, if_pos (by omega), if_pos (by omega), may_is l _ e g hl he k (by omega), Option.bind_some]
    by_cases h : may l (rd l1 (i : Int)) e g = true
    · rw [if_pos h] at hr ⊢
      subst hr
      simp
    · rw [if_neg h] at hr ⊢
      rw [wrap_in (n := (i : Int) + 1) (by omega) (by omega), cast1]
      exact ih k (i + 1) (by omega) (by omega) hr
theorem GuardFirsts : hostlerlaw11_GuardFirsts.Pure := by
  intro l0 l1 a b _ _ _ _ _ _ _ _
  refine ⟨500, ?_⟩
  obtain ⟨l, hl, hl20⟩ := few_is l0
  obtain ⟨m, hm, hm20⟩ := few_is l1
  obtain ⟨e, he, he0, he1⟩ := near_is a
  obtain ⟨g, hg, hg0, hg1⟩ := near_is b
  unfold hostlerlaw11_GuardFirsts.f
  rw [lives_mono 400, Option.bind_some, if_pos rfl, hl, Option.bind_some, hm, Option.bind_some, he, Option.bind_some, hg, Option.bind_some, first_is l m e g (by omega) (by omega) 500 (by omega), Option.bind_some]
  exact loop_first l m e g (by omega) (by omega) (by omega) _ m.length 500 0 (by omega) (by omega) rfl
end Go.Proofs.Ythlhjgbmcehpdaa.Pure
