/-
  Drains that aren't there: what their methods answer; the law's walk. Conditions: none.
-/
import Derived.Test.YtmkijdkfogebjaaPGx1
set_option linter.unusedVariables false
set_option linter.unusedSimpArgs false
namespace Go.Proofs.Ytmkijdkfogebjaa.Nil
open Go.RowKit Go.Proofs.YtmkijdkfogebjaaW.PrintWords Go.Proofs.YtmkijdkfogebjaaW.PrintLast Go.Proofs.YtmkijdkfogebjaaW.PrintMore Go.Proofs.Ytmkijdkfogebjaa.Hid Go.Proofs.Ytmkijdkfogebjaa.Man Go.Proofs.Ytmkijdkfogebjaa.PG Go.Proofs.Ytmkijdkfogebjaa.PA
set_option maxHeartbeats 1000000 in
theorem place_nil (a1 : ByteArray) (w : World) : Calls Try.prog 33 #[.pointer none, .string a1] w fun e w' => e = .returned (.int .i64 (-1)) ∧ Below w.heap.size w w' := by
  go_enter Try.func33, Try.ntmps33
  go_wp2
  go_ret
  exact ⟨rfl, (Below.refl _ w).alloc (Nat.le_refl _) _⟩
set_option maxHeartbeats 1000000 in
theorem names_nil (u : Bool) (w : World) : Calls Try.prog 35 #[.pointer none, .bool u] w fun e w' => e = .returned (.slice none 0 0) ∧ w = w' := by
  go_enter Try.func35, Try.ntmps35
  go_wp2
  go_ret
  exact ⟨rfl, rfl⟩
set_option maxHeartbeats 1000000 in
theorem waits_nil (w : World) : Calls Try.prog 15 #[.pointer none] w fun e w' => e = .returned (.slice none 0 0) ∧ w = w' := by
  go_enter Try.func15, Try.ntmps15
  go_wp2_with (go_at_call 35; refine (names_nil false _).mono ?_; rintro e w' ⟨rfl, rfl⟩)
  go_ret
  exact ⟨rfl, rfl⟩
set_option maxHeartbeats 1000000 in
theorem under_nil (w : World) : Calls Try.prog 16 #[.pointer none] w fun e w' => e = .returned (.slice none 0 0) ∧ w = w' := by
  go_enter Try.func16, Try.ntmps16
  go_wp2_with (go_at_call 35; refine (names_nil true _).mono ?_; rintro e w' ⟨rfl, rfl⟩)
  go_ret
  exact ⟨rfl, rfl⟩
set_option maxHeartbeats 1000000 in
theorem ask_nil (a1 : ByteArray) (w : World) : Calls Try.prog 12 #[.pointer none, .string a1] w fun e w' => e = .returned (.int .i64 1) ∧ w = w' := by
  go_enter Try.func12, Try.ntmps12
  go_wp2
  go_ret
  exact ⟨rfl, rfl⟩
set_option maxHeartbeats 1000000 in
theorem begin_nil (a1 : ByteArray) (a2 : Int) (w : World) : Calls Try.prog 13 #[.pointer none, .string a1, .int .i64 a2] w fun e w' => e = .returned (.int .i64 1) ∧ Below w.heap.size w w' := by
  go_enter Try.func13, Try.ntmps13
  go_wp2_with (go_at_call 33; refine (place_nil a1 _).mono ?_; rintro e w' ⟨rfl, hb⟩)
  go_ret
  exact ⟨rfl, hb⟩
set_option maxHeartbeats 1000000 in
theorem end_nil (a1 : ByteArray) (w : World) : Calls Try.prog 17 #[.pointer none, .string a1] w fun e w' => e = .returned (.bool false) ∧ Below w.heap.size w w' := by
  go_enter Try.func17, Try.ntmps17
  go_wp2_with (go_at_call 33; refine (place_nil a1 _).mono ?_; rintro e w' ⟨rfl, hb⟩)
  go_ret
  exact ⟨rfl, hb⟩
set_option maxHeartbeats 1000000 in
theorem deadline_nil (a1 : ByteArray) (w : World) : Calls Try.prog 28 #[.pointer none, .string a1] w fun e w' => e = .returned (.tuple #[.int .i64 0, .bool false]) ∧ Below w.heap.size w w' := by
  go_enter Try.func28, Try.ntmps28
  go_wp2_with (go_at_call 33; refine (place_nil a1 _).mono ?_; rintro e w' ⟨rfl, hb⟩)
  go_ret2
  exact ⟨rfl, hb⟩
set_option maxHeartbeats 1000000 in
theorem first_nil (b : Nat) (w : World) : Calls Try.prog 25 #[.pointer none, .func (.func 45) #[] #[.pointer (some ⟨b, 0, none⟩)]] w fun e w' => e = .returned (.tuple #[.string ⟨#[]⟩, .bool false]) ∧ w = w' := by
  go_enter Try.func25, Try.ntmps25
  go_wp2
  go_step3
  go_wp2
  rw [Exit.noGoto_ret]
  go_ret2
  exact ⟨rfl, rfl⟩
set_option maxHeartbeats 1000000 in
theorem of_raw (A : Option Addr) (n c : Nat) (w : World) : Calls Try.prog 26 #[.slice A n c] w fun e w' => e = .returned (.func (.func 45) #[] #[.pointer (some ⟨w.heap.size, 0, none⟩)]) ∧ w' = w.alloc (.cells #[.slice A n c] 27) := by
  go_enter Try.func26, Try.ntmps26
  go_wp2
  go_ret
  exact ⟨rfl, rfl⟩
set_option maxHeartbeats 1000000 in
theorem ahead_nil (a1 : ByteArray) (w : World) : Calls Try.prog 30 #[.pointer none, .string a1] w fun e w' => e = .returned (.int .i64 (-1)) ∧ Below w.heap.size w w' := by
  have hi := slices_Index_string_string.calls 1 none 0 [] a1 (-1) w (Kd.R_reads' (Kd.R_nil Kd.string 9 w 0 (fun _ => True))).2.2 (Nat.le_refl _) rfl
  go_enter Try.func30, Try.ntmps30
  go_wp2_with (first
    | (go_at_call 15; refine (waits_nil _).mono ?_; rintro e w' ⟨rfl, rfl⟩)
    | (go_at_call 47; refine hi.mono ?_; rintro e w' ⟨rfl, hb⟩))
  go_ret
  exact ⟨rfl, Drawn0.below hb⟩
set_option maxHeartbeats 1000000 in
theorem idx53_nil (v : Value) (w : World) : Calls Try.prog 53 #[.slice none 0 0, v] w fun e w' => e = .returned (.int .i64 (-1)) ∧ w = w' := by
  go_enter Try.func53, Try.ntmps53
  go_wp2
  go_loopw [8] (fun v8 wr => v8 = .int .i64 0 ∧ w = wr) (fun _ _ => 0)
  case atStart => exact ⟨rfl, rfl⟩
  case round =>
    obtain ⟨rfl, rfl⟩ := hrel
    go_wp2
    go_ret
    exact ⟨rfl, rfl⟩
set_option maxHeartbeats 1000000 in
theorem due_nil (a1 : Int) (w : World) : Calls Try.prog 19 #[.pointer none, .int .i64 a1] w fun e w' => e = .returned (.slice none 0 0) ∧ Below w.heap.size w w' := by
  have hdf : ∀ (v : Value) (w : World), Calls Try.prog 38 #[.slice none 0 0, v] w fun e w' => e = .returned (.slice none 0 0) ∧ w = w' := by
    intro v w
    go_enter Try.func38, Try.ntmps38
    go_wp2_with (go_at_call 53; refine (idx53_nil v _).mono ?_; rintro e w' ⟨rfl, rfl⟩)
    go_ret
    exact ⟨rfl, rfl⟩
  go_enter Try.func19, Try.ntmps19
  go_wp2_with (first
    | (go_at_call 16; refine (under_nil _).mono ?_; rintro e w' ⟨rfl, rfl⟩)
    | (go_at_call 38; refine (hdf _ _).mono ?_; rintro e w' ⟨rfl, rfl⟩))
  go_ret
  exact ⟨rfl, below_alloc (below_alloc (Below.refl _ w) _) _⟩
theorem lives_at : hostlerlaw13_lives.f = some true := by decide +kernel
set_option maxHeartbeats 4000000 in
theorem drainsNil_calls (a0 : ByteArray) (a1 : Int) (w : World) : Calls Try.prog 7 #[.string a0, .int .i64 a1] w fun e w' => e = .returned (.bool true) ∧ Below w.heap.size w w' := by
  have hl := hostlerlaw13_lives.calls true w lives_at
  go_enter Try.func7, Try.ntmps7
  go_wp2_with (first
    | (go_at_call 8; refine hl.mono ?_; rintro e w1 ⟨rfl, hb1⟩; have HB := Aside0.mk hb1; clear hb1 hl)
    | (go_at_call 26; refine (of_raw _ _ _ _).mono ?_; rintro e w2 ⟨rfl, rfl⟩; have HB2 := Aside0.mk (below_alloc (below_alloc HB.out (.cells #[.string a0] 9)) (.cells #[.slice (some ⟨w1.heap.size, 0, none⟩) 1 1] 27)); clear HB; have HB := HB2; clear HB2)
    | (go_at_call 25; refine (first_nil _ _).mono ?_; rintro e w' ⟨rfl, rfl⟩)
    | (go_at_call 28; refine (deadline_nil a0 _).mono ?_; rintro e w2 ⟨rfl, hb2⟩; have HB2 := Aside0.mk (below_step HB.out hb2); clear HB hb2; have HB := HB2; clear HB2)
    | (go_at_call 12; refine (ask_nil a0 _).mono ?_; rintro e w' ⟨rfl, rfl⟩)
    | (go_at_call 13; refine (begin_nil a0 a1 _).mono ?_; rintro e w3 ⟨rfl, hb2⟩; have HB2 := Aside0.mk (below_step HB.out hb2); clear HB hb2; have HB := HB2; clear HB2)
    | (go_at_call 17; refine (end_nil a0 _).mono ?_; rintro e w4 ⟨rfl, hb2⟩; have HB2 := Aside0.mk (below_step HB.out hb2); clear HB hb2; have HB := HB2; clear HB2)
    | (go_at_call 19; refine (due_nil a1 _).mono ?_; rintro e w5 ⟨rfl, hb2⟩; have HB2 := Aside0.mk (below_step HB.out hb2); clear HB hb2; have HB := HB2; clear HB2)
    | (go_at_call 15; refine (waits_nil _).mono ?_; rintro e w' ⟨rfl, rfl⟩)
    | (go_at_call 16; refine (under_nil _).mono ?_; rintro e w' ⟨rfl, rfl⟩)
    | (go_at_call 30; refine (ahead_nil a0 _).mono ?_; rintro e w6 ⟨rfl, hb2⟩; have HB2 := Aside0.mk (below_step HB.out hb2); clear HB hb2; have HB := HB2; clear HB2))
  go_ret
  exact ⟨rfl, HB.out⟩
end Go.Proofs.Ytmkijdkfogebjaa.Nil
