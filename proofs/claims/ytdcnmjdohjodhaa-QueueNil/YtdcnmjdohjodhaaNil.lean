/-
  A queue that isn't there: what its methods answer; the law's walk. Conditions: none.
-/
import Derived.Test.YtdcnmjdohjodhaaPHx1
import Derived.Test.YtdcnmjdohjodhaaMe
set_option linter.unusedVariables false
set_option linter.unusedSimpArgs false
namespace Go.Proofs.Ytdcnmjdohjodhaa.Nil
open Go.RowKit Go.Proofs.YtdcnmjdohjodhaaW.PrintWords Go.Proofs.YtdcnmjdohjodhaaW.PrintLast Go.Proofs.YtdcnmjdohjodhaaW.PrintMore Go.Proofs.Ytdcnmjdohjodhaa.Hid Go.Proofs.Ytdcnmjdohjodhaa.Man Go.Proofs.Ytdcnmjdohjodhaa.PH
set_option maxHeartbeats 1000000 in
theorem len_nil (w : World) : Calls Try.prog 13 #[.pointer none] w fun e w' => e = .returned (.int .i64 0) ∧ w = w' := by
  go_enter Try.func13, Try.ntmps13
  go_wp2
  go_ret
  exact ⟨rfl, rfl⟩
set_option maxHeartbeats 1000000 in
theorem room_nil (w : World) : Calls Try.prog 19 #[.pointer none] w fun e w' => e = .returned (.int .i64 0) ∧ w = w' := by
  go_enter Try.func19, Try.ntmps19
  go_wp2
  go_ret
  exact ⟨rfl, rfl⟩
set_option maxHeartbeats 1000000 in
theorem place_nil (a1 : Int) (w : World) : Calls Try.prog 11 #[.pointer none, .int .i64 a1] w fun e w' => e = .returned (.int .i64 (-1)) ∧ Below w.heap.size w w' := by
  go_enter Try.func11, Try.ntmps11
  go_wp2
  go_ret
  exact ⟨rfl, (Below.refl _ w).alloc (Nat.le_refl _) _⟩
set_option maxHeartbeats 1000000 in
theorem peek_nil_ (w : World) : Calls Try.prog 28 #[.pointer none] w fun e w' => e = .returned (.tuple #[.int .i64 0, .bool false]) ∧ w = w' := by
  go_enter Try.func28, Try.ntmps28
  go_wp2_with (go_at_call 13; refine (len_nil _).mono ?_; rintro e w' ⟨rfl, rfl⟩)
  go_ret2
  exact ⟨rfl, rfl⟩
set_option maxHeartbeats 1000000 in
theorem pop_nil_ (w : World) : Calls Try.prog 12 #[.pointer none] w fun e w' => e = .returned (.tuple #[.int .i64 0, .bool false]) ∧ w = w' := by
  go_enter Try.func12, Try.ntmps12
  go_wp2_with (go_at_call 28; refine (peek_nil_ _).mono ?_; rintro e w' ⟨rfl, rfl⟩)
  go_ret2
  exact ⟨rfl, rfl⟩
set_option maxHeartbeats 1000000 in
theorem since_nil (a1 : Int) (w : World) : Calls Try.prog 27 #[.pointer none, .int .i64 a1] w fun e w' => e = .returned (.tuple #[.int .i64 0, .bool false]) ∧ Below w.heap.size w w' := by
  go_enter Try.func27, Try.ntmps27
  go_wp2_with (go_at_call 11; refine (place_nil a1 _).mono ?_; rintro e w' ⟨rfl, hb⟩)
  go_ret2
  exact ⟨rfl, hb⟩
set_option maxHeartbeats 1000000 in
theorem push_nil (a1 a2 : Int) (w : World) : Calls Try.prog 10 #[.pointer none, .int .i64 a1, .int .i64 a2] w fun e w' => e = .returned (.int .i64 1) ∧ w = w' := by
  go_enter Try.func10, Try.ntmps10
  go_wp2
  go_ret
  exact ⟨rfl, rfl⟩
set_option maxHeartbeats 1000000 in
theorem remove_nil (a1 : Int) (w : World) : Calls Try.prog 17 #[.pointer none, .int .i64 a1] w fun e w' => e = .returned (.bool false) ∧ Below w.heap.size w w' := by
  go_enter Try.func17, Try.ntmps17
  go_wp2_with (go_at_call 11; refine (place_nil a1 _).mono ?_; rintro e w' ⟨rfl, hb⟩)
  go_ret
  exact ⟨rfl, hb⟩
set_option maxHeartbeats 1000000 in
theorem expire_nil (a1 a2 : Int) (w : World) : Calls Try.prog 20 #[.pointer none, .int .i64 a1, .int .i64 a2] w fun e w' => e = .returned (.slice none 0 0) ∧ w = w' := by
  go_enter Try.func20, Try.ntmps20
  go_wp2
  go_step3
  go_wp2
  go_step3
  go_wp2
  go_loopg [7] 0 (fun n v7 wr => v7 = .slice none 0 0 ∧ w = wr)
  case atStart => exact ⟨rfl, rfl⟩
  case round =>
    obtain ⟨rfl, rfl⟩ := hrel
    go_wp2_with (go_at_call 13; refine (len_nil _).mono ?_; rintro e w' ⟨rfl, rfl⟩)
    rw [Exit.noGoto_ret]
    go_ret
    exact ⟨rfl, rfl⟩
set_option maxHeartbeats 1000000 in
theorem ids_nil_ (w : World) : Calls Try.prog 15 #[.pointer none] w fun e w' => e = .returned (.slice none 0 0) ∧ w = w' := by
  go_enter Try.func15, Try.ntmps15
  go_wp2_with (go_at_call 13; refine (len_nil _).mono ?_; rintro e w' ⟨rfl, rfl⟩)
  go_loopw [3, 7] (fun v3 v7 wr => v3 = .slice none 0 0 ∧ v7 = .int .i64 0 ∧ w = wr) (fun _ v7 _ => 0)
  case atStart => exact ⟨rfl, rfl, rfl⟩
  case round =>
    obtain ⟨rfl, rfl, rfl⟩ := hrel
    go_wp2
    go_ret
    exact ⟨rfl, rfl⟩
theorem lives_at : hostlerlaw12_lives.f = some true := by decide +kernel
set_option maxHeartbeats 4000000 in
theorem queueNil_calls (a0 a1 : Int) (w : World) : Calls Try.prog 7 #[.int .i64 a0, .int .i64 a1] w fun e w' => e = .returned (.bool true) ∧ Below w.heap.size w w' := by
  have hl := hostlerlaw12_lives.calls true w lives_at
  go_enter Try.func7, Try.ntmps7
  go_wp2_with (first
    | (go_at_call 8; refine hl.mono ?_; rintro e w1 ⟨rfl, hb1⟩; have HB := Aside0.mk hb1; clear hb1 hl)
    | (go_at_call 12; refine (pop_nil_ _).mono ?_; rintro e w' ⟨rfl, rfl⟩)
    | (go_at_call 28; refine (peek_nil_ _).mono ?_; rintro e w' ⟨rfl, rfl⟩)
    | (go_at_call 27; refine (since_nil a0 _).mono ?_; rintro e w2 ⟨rfl, hb2⟩; have HB2 := Aside0.mk (below_step HB.out hb2); clear HB hb2; have HB := HB2; clear HB2)
    | (go_at_call 10; refine (push_nil a0 a1 _).mono ?_; rintro e w' ⟨rfl, rfl⟩)
    | (go_at_call 17; refine (remove_nil a0 _).mono ?_; rintro e w3 ⟨rfl, hb2⟩; have HB2 := Aside0.mk (below_step HB.out hb2); clear HB hb2; have HB := HB2; clear HB2)
    | (go_at_call 20; refine (expire_nil a1 1 _).mono ?_; rintro e w' ⟨rfl, rfl⟩)
    | (go_at_call 13; refine (len_nil _).mono ?_; rintro e w' ⟨rfl, rfl⟩)
    | (go_at_call 19; refine (room_nil _).mono ?_; rintro e w' ⟨rfl, rfl⟩)
    | (go_at_call 15; refine (ids_nil_ _).mono ?_; rintro e w' ⟨rfl, rfl⟩)
    | (go_at_call 11; refine (place_nil a0 _).mono ?_; rintro e w4 ⟨rfl, hb2⟩; have HB2 := Aside0.mk (below_step HB.out hb2); clear HB hb2; have HB := HB2; clear HB2))
  go_ret
  exact ⟨rfl, HB.out⟩
end Go.Proofs.Ytdcnmjdohjodhaa.Nil
