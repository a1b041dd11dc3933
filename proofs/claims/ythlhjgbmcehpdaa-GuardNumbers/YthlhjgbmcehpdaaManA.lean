/-
  The contracts of state.table and state.Next: what they answer, at all arguments. Conditions: none.
-/
import Derived.Test.YthlhjgbmcehpdaaProg
import Derived.WalkKit
import Derived.WalkSpells
import Derived.WalkLawsBesides
import Derived.Handy
import Derived.Deep.WholeRow
set_option linter.unusedVariables false
set_option linter.unusedSimpArgs false
namespace Go.Proofs.Ythlhjgbmcehpdaa.Man
open Go.RowKit

def tabA : Array Value := #[.int .i64 1, .int .i64 (-1), .int .i64 2, .int .i64 (-1), .int .i64 (-1), .int .i64 1, .int .i64 (-1), .int .i64 (-1), .int .i64 0, .int .i64 (-1), .int .i64 (-1), .int .i64 3, .int .i64 (-1), .int .i64 0, .int .i64 1, .int .i64 (-1), .int .i64 (-1), .int .i64 0, .int .i64 (-1), .int .i64 1, .int .i64 (-1), .int .i64 (-1), .int .i64 0, .int .i64 (-1), .int .i64 (-1), .int .i64 (-1), .int .i64 (-1), .int .i64 0]
def row0 : Array Value := #[.int .i64 1, .int .i64 (-1), .int .i64 2, .int .i64 (-1), .int .i64 (-1), .int .i64 1, .int .i64 (-1)]
def row1 : Array Value := #[.int .i64 (-1), .int .i64 0, .int .i64 (-1), .int .i64 (-1), .int .i64 3, .int .i64 (-1), .int .i64 0]
def row2 : Array Value := #[.int .i64 1, .int .i64 (-1), .int .i64 (-1), .int .i64 0, .int .i64 (-1), .int .i64 1, .int .i64 (-1)]
def row3 : Array Value := #[.int .i64 (-1), .int .i64 0, .int .i64 (-1), .int .i64 (-1), .int .i64 (-1), .int .i64 (-1), .int .i64 0]
theorem size52 : (Try.prog.info? 52).map (·.size) = some 28 := by kernel_rfl
theorem one_all : (tabA.all fun x => x.oneCell') = true := by kernel_rfl

set_option maxHeartbeats 1000000 in
theorem table_calls (w : World) : Calls Try.prog 40 #[] w fun e w' => e = .returned (.agg tabA) ∧ ∃ bs, w' = w.alloc (.cells bs 52) := by
  go_enter Try.func40, Try.ntmps40
  go_wp2_with (refine wpList_store_row rfl 52 _ _ rfl w.heap.size tabA rfl rfl 52 _ (heap_alloc_new w _) size52 rfl one_all ?_; rw [World.setRow_alloc_new])
  refine bodyPost_ret (results_cell_row rfl _ _ w.heap.size 52 tabA (0, 0) _ rfl (heap_alloc_new w _) Try.underlying52 rfl size52) rfl ?_
  exact ⟨rfl, _, rfl⟩

/-- Where an event leads from a state; -1: nowhere. -/
def toS (s e : Int) : Int :=
  if s = 0 then (if e = 0 then 1 else if e = 2 then 2 else if e = 5 then 1 else -1)
  else if s = 1 then (if e = 1 then 0 else if e = 4 then 3 else if e = 6 then 0 else -1)
  else if s = 2 then (if e = 0 then 1 else if e = 3 then 0 else if e = 5 then 1 else -1)
  else if s = 3 then (if e = 1 then 0 else if e = 6 then 0 else -1)
  else -1

theorem ix0 (w : World) : (Instr.index 52 (.agg tabA) (.int .i64 0)).run Try.prog w = .ok (.agg row0) w := by kernel_rfl
theorem ix1 (w : World) : (Instr.index 52 (.agg tabA) (.int .i64 1)).run Try.prog w = .ok (.agg row1) w := by kernel_rfl
theorem ix2 (w : World) : (Instr.index 52 (.agg tabA) (.int .i64 2)).run Try.prog w = .ok (.agg row2) w := by kernel_rfl
theorem ix3 (w : World) : (Instr.index 52 (.agg tabA) (.int .i64 3)).run Try.prog w = .ok (.agg row3) w := by kernel_rfl
theorem iy00 (w : World) : (Instr.index 51 (.agg row0) (.int .i64 0)).run Try.prog w = .ok (.int .i64 1) w := by kernel_rfl
theorem iy01 (w : World) : (Instr.index 51 (.agg row0) (.int .i64 1)).run Try.prog w = .ok (.int .i64 (-1)) w := by kernel_rfl
theorem iy02 (w : World) : (Instr.index 51 (.agg row0) (.int .i64 2)).run Try.prog w = .ok (.int .i64 2) w := by kernel_rfl
theorem iy03 (w : World) : (Instr.index 51 (.agg row0) (.int .i64 3)).run Try.prog w = .ok (.int .i64 (-1)) w := by kernel_rfl
theorem iy04 (w : World) : (Instr.index 51 (.agg row0) (.int .i64 4)).run Try.prog w = .ok (.int .i64 (-1)) w := by kernel_rfl
theorem iy05 (w : World) : (Instr.index 51 (.agg row0) (.int .i64 5)).run Try.prog w = .ok (.int .i64 1) w := by kernel_rfl
theorem iy06 (w : World) : (Instr.index 51 (.agg row0) (.int .i64 6)).run Try.prog w = .ok (.int .i64 (-1)) w := by kernel_rfl
theorem iy10 (w : World) : (Instr.index 51 (.agg row1) (.int .i64 0)).run Try.prog w = .ok (.int .i64 (-1)) w := by kernel_rfl
theorem iy11 (w : World) : (Instr.index 51 (.agg row1) (.int .i64 1)).run Try.prog w = .ok (.int .i64 0) w := by kernel_rfl
theorem iy12 (w : World) : (Instr.index 51 (.agg row1) (.int .i64 2)).run Try.prog w = .ok (.int .i64 (-1)) w := by kernel_rfl
theorem iy13 (w : World) : (Instr.index 51 (.agg row1) (.int .i64 3)).run Try.prog w = .ok (.int .i64 (-1)) w := by kernel_rfl
theorem iy14 (w : World) : (Instr.index 51 (.agg row1) (.int .i64 4)).run Try.prog w = .ok (.int .i64 3) w := by kernel_rfl
theorem iy15 (w : World) : (Instr.index 51 (.agg row1) (.int .i64 5)).run Try.prog w = .ok (.int .i64 (-1)) w := by kernel_rfl
theorem iy16 (w : World) : (Instr.index 51 (.agg row1) (.int .i64 6)).run Try.prog w = .ok (.int .i64 0) w := by kernel_rfl
theorem iy20 (w : World) : (Instr.index 51 (.agg row2) (.int .i64 0)).run Try.prog w = .ok (.int .i64 1) w := by kernel_rfl
theorem iy21 (w : World) : (Instr.index 51 (.agg row2) (.int .i64 1)).run Try.prog w = .ok (.int .i64 (-1)) w := by kernel_rfl
theorem iy22 (w : World) : (Instr.index 51 (.agg row2) (.int .i64 2)).run Try.prog w = .ok (.int .i64 (-1)) w := by kernel_rfl
theorem iy23 (w : World) : (Instr.index 51 (.agg row2) (.int .i64 3)).run Try.prog w = .ok (.int .i64 0) w := by kernel_rfl
theorem iy24 (w : World) : (Instr.index 51 (.agg row2) (.int .i64 4)).run Try.prog w = .ok (.int .i64 (-1)) w := by kernel_rfl
theorem iy25 (w : World) : (Instr.index 51 (.agg row2) (.int .i64 5)).run Try.prog w = .ok (.int .i64 1) w := by kernel_rfl
theorem iy26 (w : World) : (Instr.index 51 (.agg row2) (.int .i64 6)).run Try.prog w = .ok (.int .i64 (-1)) w := by kernel_rfl
theorem iy30 (w : World) : (Instr.index 51 (.agg row3) (.int .i64 0)).run Try.prog w = .ok (.int .i64 (-1)) w := by kernel_rfl
theorem iy31 (w : World) : (Instr.index 51 (.agg row3) (.int .i64 1)).run Try.prog w = .ok (.int .i64 0) w := by kernel_rfl
theorem iy32 (w : World) : (Instr.index 51 (.agg row3) (.int .i64 2)).run Try.prog w = .ok (.int .i64 (-1)) w := by kernel_rfl
theorem iy33 (w : World) : (Instr.index 51 (.agg row3) (.int .i64 3)).run Try.prog w = .ok (.int .i64 (-1)) w := by kernel_rfl
theorem iy34 (w : World) : (Instr.index 51 (.agg row3) (.int .i64 4)).run Try.prog w = .ok (.int .i64 (-1)) w := by kernel_rfl
theorem iy35 (w : World) : (Instr.index 51 (.agg row3) (.int .i64 5)).run Try.prog w = .ok (.int .i64 (-1)) w := by kernel_rfl
theorem iy36 (w : World) : (Instr.index 51 (.agg row3) (.int .i64 6)).run Try.prog w = .ok (.int .i64 0) w := by kernel_rfl
set_option maxHeartbeats 1000000 in
theorem next00 (w : World) : Calls Try.prog 21 #[.int .i64 0, .int .i64 0] w fun x w' => x = .returned (.tuple #[.int .i64 1, .bool true]) ∧ Below w.heap.size w w' := by
  have i1 := ix0
  have i2 := iy00
  go_enter Try.func21, Try.ntmps21
  go_wp2_with (go_at_call 40; refine (table_calls _).mono ?_; rintro e w' ⟨rfl, bs, rfl⟩)
  go_ret2
  exact ⟨rfl, by go_grown⟩
set_option maxHeartbeats 1000000 in
theorem next01 (w : World) : Calls Try.prog 21 #[.int .i64 0, .int .i64 1] w fun x w' => x = .returned (.tuple #[.int .i64 0, .bool false]) ∧ Below w.heap.size w w' := by
  have i1 := ix0
  have i2 := iy01
  go_enter Try.func21, Try.ntmps21
  go_wp2_with (go_at_call 40; refine (table_calls _).mono ?_; rintro e w' ⟨rfl, bs, rfl⟩)
  go_ret2
  exact ⟨rfl, by go_grown⟩
set_option maxHeartbeats 1000000 in
theorem next02 (w : World) : Calls Try.prog 21 #[.int .i64 0, .int .i64 2] w fun x w' => x = .returned (.tuple #[.int .i64 2, .bool true]) ∧ Below w.heap.size w w' := by
  have i1 := ix0
  have i2 := iy02
  go_enter Try.func21, Try.ntmps21
  go_wp2_with (go_at_call 40; refine (table_calls _).mono ?_; rintro e w' ⟨rfl, bs, rfl⟩)
  go_ret2
  exact ⟨rfl, by go_grown⟩
set_option maxHeartbeats 1000000 in
theorem next03 (w : World) : Calls Try.prog 21 #[.int .i64 0, .int .i64 3] w fun x w' => x = .returned (.tuple #[.int .i64 0, .bool false]) ∧ Below w.heap.size w w' := by
  have i1 := ix0
  have i2 := iy03
  go_enter Try.func21, Try.ntmps21
  go_wp2_with (go_at_call 40; refine (table_calls _).mono ?_; rintro e w' ⟨rfl, bs, rfl⟩)
  go_ret2
  exact ⟨rfl, by go_grown⟩
set_option maxHeartbeats 1000000 in
theorem next04 (w : World) : Calls Try.prog 21 #[.int .i64 0, .int .i64 4] w fun x w' => x = .returned (.tuple #[.int .i64 0, .bool false]) ∧ Below w.heap.size w w' := by
  have i1 := ix0
  have i2 := iy04
  go_enter Try.func21, Try.ntmps21
  go_wp2_with (go_at_call 40; refine (table_calls _).mono ?_; rintro e w' ⟨rfl, bs, rfl⟩)
  go_ret2
  exact ⟨rfl, by go_grown⟩
set_option maxHeartbeats 1000000 in
theorem next05 (w : World) : Calls Try.prog 21 #[.int .i64 0, .int .i64 5] w fun x w' => x = .returned (.tuple #[.int .i64 1, .bool true]) ∧ Below w.heap.size w w' := by
  have i1 := ix0
  have i2 := iy05
  go_enter Try.func21, Try.ntmps21
  go_wp2_with (go_at_call 40; refine (table_calls _).mono ?_; rintro e w' ⟨rfl, bs, rfl⟩)
  go_ret2
  exact ⟨rfl, by go_grown⟩
set_option maxHeartbeats 1000000 in
theorem next06 (w : World) : Calls Try.prog 21 #[.int .i64 0, .int .i64 6] w fun x w' => x = .returned (.tuple #[.int .i64 0, .bool false]) ∧ Below w.heap.size w w' := by
  have i1 := ix0
  have i2 := iy06
  go_enter Try.func21, Try.ntmps21
  go_wp2_with (go_at_call 40; refine (table_calls _).mono ?_; rintro e w' ⟨rfl, bs, rfl⟩)
  go_ret2
  exact ⟨rfl, by go_grown⟩
set_option maxHeartbeats 1000000 in
theorem next10 (w : World) : Calls Try.prog 21 #[.int .i64 1, .int .i64 0] w fun x w' => x = .returned (.tuple #[.int .i64 1, .bool false]) ∧ Below w.heap.size w w' := by
  have i1 := ix1
  have i2 := iy10
  go_enter Try.func21, Try.ntmps21
  go_wp2_with (go_at_call 40; refine (table_calls _).mono ?_; rintro e w' ⟨rfl, bs, rfl⟩)
  go_ret2
  exact ⟨rfl, by go_grown⟩
set_option maxHeartbeats 1000000 in
theorem next11 (w : World) : Calls Try.prog 21 #[.int .i64 1, .int .i64 1] w fun x w' => x = .returned (.tuple #[.int .i64 0, .bool true]) ∧ Below w.heap.size w w' := by
  have i1 := ix1
  have i2 := iy11
  go_enter Try.func21, Try.ntmps21
  go_wp2_with (go_at_call 40; refine (table_calls _).mono ?_; rintro e w' ⟨rfl, bs, rfl⟩)
  go_ret2
  exact ⟨rfl, by go_grown⟩
set_option maxHeartbeats 1000000 in
theorem next12 (w : World) : Calls Try.prog 21 #[.int .i64 1, .int .i64 2] w fun x w' => x = .returned (.tuple #[.int .i64 1, .bool false]) ∧ Below w.heap.size w w' := by
  have i1 := ix1
  have i2 := iy12
  go_enter Try.func21, Try.ntmps21
  go_wp2_with (go_at_call 40; refine (table_calls _).mono ?_; rintro e w' ⟨rfl, bs, rfl⟩)
  go_ret2
  exact ⟨rfl, by go_grown⟩
set_option maxHeartbeats 1000000 in
theorem next13 (w : World) : Calls Try.prog 21 #[.int .i64 1, .int .i64 3] w fun x w' => x = .returned (.tuple #[.int .i64 1, .bool false]) ∧ Below w.heap.size w w' := by
  have i1 := ix1
  have i2 := iy13
  go_enter Try.func21, Try.ntmps21
  go_wp2_with (go_at_call 40; refine (table_calls _).mono ?_; rintro e w' ⟨rfl, bs, rfl⟩)
  go_ret2
  exact ⟨rfl, by go_grown⟩
set_option maxHeartbeats 1000000 in
theorem next14 (w : World) : Calls Try.prog 21 #[.int .i64 1, .int .i64 4] w fun x w' => x = .returned (.tuple #[.int .i64 3, .bool true]) ∧ Below w.heap.size w w' := by
  have i1 := ix1
  have i2 := iy14
  go_enter Try.func21, Try.ntmps21
  go_wp2_with (go_at_call 40; refine (table_calls _).mono ?_; rintro e w' ⟨rfl, bs, rfl⟩)
  go_ret2
  exact ⟨rfl, by go_grown⟩
set_option maxHeartbeats 1000000 in
theorem next15 (w : World) : Calls Try.prog 21 #[.int .i64 1, .int .i64 5] w fun x w' => x = .returned (.tuple #[.int .i64 1, .bool false]) ∧ Below w.heap.size w w' := by
  have i1 := ix1
  have i2 := iy15
  go_enter Try.func21, Try.ntmps21
  go_wp2_with (go_at_call 40; refine (table_calls _).mono ?_; rintro e w' ⟨rfl, bs, rfl⟩)
  go_ret2
  exact ⟨rfl, by go_grown⟩
set_option maxHeartbeats 1000000 in
theorem next16 (w : World) : Calls Try.prog 21 #[.int .i64 1, .int .i64 6] w fun x w' => x = .returned (.tuple #[.int .i64 0, .bool true]) ∧ Below w.heap.size w w' := by
  have i1 := ix1
  have i2 := iy16
  go_enter Try.func21, Try.ntmps21
  go_wp2_with (go_at_call 40; refine (table_calls _).mono ?_; rintro e w' ⟨rfl, bs, rfl⟩)
  go_ret2
  exact ⟨rfl, by go_grown⟩
set_option maxHeartbeats 1000000 in
theorem next20 (w : World) : Calls Try.prog 21 #[.int .i64 2, .int .i64 0] w fun x w' => x = .returned (.tuple #[.int .i64 1, .bool true]) ∧ Below w.heap.size w w' := by
  have i1 := ix2
  have i2 := iy20
  go_enter Try.func21, Try.ntmps21
  go_wp2_with (go_at_call 40; refine (table_calls _).mono ?_; rintro e w' ⟨rfl, bs, rfl⟩)
  go_ret2
  exact ⟨rfl, by go_grown⟩
set_option maxHeartbeats 1000000 in
theorem next21 (w : World) : Calls Try.prog 21 #[.int .i64 2, .int .i64 1] w fun x w' => x = .returned (.tuple #[.int .i64 2, .bool false]) ∧ Below w.heap.size w w' := by
  have i1 := ix2
  have i2 := iy21
  go_enter Try.func21, Try.ntmps21
  go_wp2_with (go_at_call 40; refine (table_calls _).mono ?_; rintro e w' ⟨rfl, bs, rfl⟩)
  go_ret2
  exact ⟨rfl, by go_grown⟩
set_option maxHeartbeats 1000000 in
theorem next22 (w : World) : Calls Try.prog 21 #[.int .i64 2, .int .i64 2] w fun x w' => x = .returned (.tuple #[.int .i64 2, .bool false]) ∧ Below w.heap.size w w' := by
  have i1 := ix2
  have i2 := iy22
  go_enter Try.func21, Try.ntmps21
  go_wp2_with (go_at_call 40; refine (table_calls _).mono ?_; rintro e w' ⟨rfl, bs, rfl⟩)
  go_ret2
  exact ⟨rfl, by go_grown⟩
set_option maxHeartbeats 1000000 in
theorem next23 (w : World) : Calls Try.prog 21 #[.int .i64 2, .int .i64 3] w fun x w' => x = .returned (.tuple #[.int .i64 0, .bool true]) ∧ Below w.heap.size w w' := by
  have i1 := ix2
  have i2 := iy23
  go_enter Try.func21, Try.ntmps21
  go_wp2_with (go_at_call 40; refine (table_calls _).mono ?_; rintro e w' ⟨rfl, bs, rfl⟩)
  go_ret2
  exact ⟨rfl, by go_grown⟩
set_option maxHeartbeats 1000000 in
theorem next24 (w : World) : Calls Try.prog 21 #[.int .i64 2, .int .i64 4] w fun x w' => x = .returned (.tuple #[.int .i64 2, .bool false]) ∧ Below w.heap.size w w' := by
  have i1 := ix2
  have i2 := iy24
  go_enter Try.func21, Try.ntmps21
  go_wp2_with (go_at_call 40; refine (table_calls _).mono ?_; rintro e w' ⟨rfl, bs, rfl⟩)
  go_ret2
  exact ⟨rfl, by go_grown⟩
set_option maxHeartbeats 1000000 in
theorem next25 (w : World) : Calls Try.prog 21 #[.int .i64 2, .int .i64 5] w fun x w' => x = .returned (.tuple #[.int .i64 1, .bool true]) ∧ Below w.heap.size w w' := by
  have i1 := ix2
  have i2 := iy25
  go_enter Try.func21, Try.ntmps21
  go_wp2_with (go_at_call 40; refine (table_calls _).mono ?_; rintro e w' ⟨rfl, bs, rfl⟩)
  go_ret2
  exact ⟨rfl, by go_grown⟩
set_option maxHeartbeats 1000000 in
theorem next26 (w : World) : Calls Try.prog 21 #[.int .i64 2, .int .i64 6] w fun x w' => x = .returned (.tuple #[.int .i64 2, .bool false]) ∧ Below w.heap.size w w' := by
  have i1 := ix2
  have i2 := iy26
  go_enter Try.func21, Try.ntmps21
  go_wp2_with (go_at_call 40; refine (table_calls _).mono ?_; rintro e w' ⟨rfl, bs, rfl⟩)
  go_ret2
  exact ⟨rfl, by go_grown⟩
set_option maxHeartbeats 1000000 in
theorem next30 (w : World) : Calls Try.prog 21 #[.int .i64 3, .int .i64 0] w fun x w' => x = .returned (.tuple #[.int .i64 3, .bool false]) ∧ Below w.heap.size w w' := by
  have i1 := ix3
  have i2 := iy30
  go_enter Try.func21, Try.ntmps21
  go_wp2_with (go_at_call 40; refine (table_calls _).mono ?_; rintro e w' ⟨rfl, bs, rfl⟩)
  go_ret2
  exact ⟨rfl, by go_grown⟩
set_option maxHeartbeats 1000000 in
theorem next31 (w : World) : Calls Try.prog 21 #[.int .i64 3, .int .i64 1] w fun x w' => x = .returned (.tuple #[.int .i64 0, .bool true]) ∧ Below w.heap.size w w' := by
  have i1 := ix3
  have i2 := iy31
  go_enter Try.func21, Try.ntmps21
  go_wp2_with (go_at_call 40; refine (table_calls _).mono ?_; rintro e w' ⟨rfl, bs, rfl⟩)
  go_ret2
  exact ⟨rfl, by go_grown⟩
set_option maxHeartbeats 1000000 in
theorem next32 (w : World) : Calls Try.prog 21 #[.int .i64 3, .int .i64 2] w fun x w' => x = .returned (.tuple #[.int .i64 3, .bool false]) ∧ Below w.heap.size w w' := by
  have i1 := ix3
  have i2 := iy32
  go_enter Try.func21, Try.ntmps21
  go_wp2_with (go_at_call 40; refine (table_calls _).mono ?_; rintro e w' ⟨rfl, bs, rfl⟩)
  go_ret2
  exact ⟨rfl, by go_grown⟩
set_option maxHeartbeats 1000000 in
theorem next33 (w : World) : Calls Try.prog 21 #[.int .i64 3, .int .i64 3] w fun x w' => x = .returned (.tuple #[.int .i64 3, .bool false]) ∧ Below w.heap.size w w' := by
  have i1 := ix3
  have i2 := iy33
  go_enter Try.func21, Try.ntmps21
  go_wp2_with (go_at_call 40; refine (table_calls _).mono ?_; rintro e w' ⟨rfl, bs, rfl⟩)
  go_ret2
  exact ⟨rfl, by go_grown⟩
set_option maxHeartbeats 1000000 in
theorem next34 (w : World) : Calls Try.prog 21 #[.int .i64 3, .int .i64 4] w fun x w' => x = .returned (.tuple #[.int .i64 3, .bool false]) ∧ Below w.heap.size w w' := by
  have i1 := ix3
  have i2 := iy34
  go_enter Try.func21, Try.ntmps21
  go_wp2_with (go_at_call 40; refine (table_calls _).mono ?_; rintro e w' ⟨rfl, bs, rfl⟩)
  go_ret2
  exact ⟨rfl, by go_grown⟩
set_option maxHeartbeats 1000000 in
theorem next35 (w : World) : Calls Try.prog 21 #[.int .i64 3, .int .i64 5] w fun x w' => x = .returned (.tuple #[.int .i64 3, .bool false]) ∧ Below w.heap.size w w' := by
  have i1 := ix3
  have i2 := iy35
  go_enter Try.func21, Try.ntmps21
  go_wp2_with (go_at_call 40; refine (table_calls _).mono ?_; rintro e w' ⟨rfl, bs, rfl⟩)
  go_ret2
  exact ⟨rfl, by go_grown⟩
set_option maxHeartbeats 1000000 in
theorem next36 (w : World) : Calls Try.prog 21 #[.int .i64 3, .int .i64 6] w fun x w' => x = .returned (.tuple #[.int .i64 0, .bool true]) ∧ Below w.heap.size w w' := by
  have i1 := ix3
  have i2 := iy36
  go_enter Try.func21, Try.ntmps21
  go_wp2_with (go_at_call 40; refine (table_calls _).mono ?_; rintro e w' ⟨rfl, bs, rfl⟩)
  go_ret2
  exact ⟨rfl, by go_grown⟩
set_option maxHeartbeats 1000000 in
theorem next_s0 (s e : Int) (h : s < 0) (w : World) : Calls Try.prog 21 #[.int .i64 s, .int .i64 e] w fun x w' => x = .returned (.tuple #[.int .i64 s, .bool false]) ∧ w' = w := by
  go_enter Try.func21, Try.ntmps21
  go_wp2
  go_ret2
  exact ⟨rfl, rfl⟩
set_option maxHeartbeats 1000000 in
theorem next_s1 (s e : Int) (h0 : 0 ≤ s) (h : 4 ≤ s) (w : World) : Calls Try.prog 21 #[.int .i64 s, .int .i64 e] w fun x w' => x = .returned (.tuple #[.int .i64 s, .bool false]) ∧ w' = w := by
  go_enter Try.func21, Try.ntmps21
  go_wp2
  go_ret2
  exact ⟨rfl, rfl⟩
set_option maxHeartbeats 1000000 in
theorem next_e0 (s e : Int) (h0 : 0 ≤ s) (h : s < 4) (h1 : e < 0) (w : World) : Calls Try.prog 21 #[.int .i64 s, .int .i64 e] w fun x w' => x = .returned (.tuple #[.int .i64 s, .bool false]) ∧ w' = w := by
  go_enter Try.func21, Try.ntmps21
  go_wp2
  go_ret2
  exact ⟨rfl, rfl⟩
set_option maxHeartbeats 1000000 in
theorem next_e1 (s e : Int) (h0 : 0 ≤ s) (h : s < 4) (h1 : 0 ≤ e) (h2 : 7 ≤ e) (w : World) : Calls Try.prog 21 #[.int .i64 s, .int .i64 e] w fun x w' => x = .returned (.tuple #[.int .i64 s, .bool false]) ∧ w' = w := by
  go_enter Try.func21, Try.ntmps21
  go_wp2
  go_ret2
  exact ⟨rfl, rfl⟩
theorem range4 {s : Int} (h0 : 0 ≤ s) (h1 : s < 4) : s = 0 ∨ s = 1 ∨ s = 2 ∨ s = 3 := by omega
theorem range7 {s : Int} (h0 : 0 ≤ s) (h1 : s < 7) : s = 0 ∨ s = 1 ∨ s = 2 ∨ s = 3 ∨ s = 4 ∨ s = 5 ∨ s = 6 := by omega
/-- What state.Next answers. -/
def state_Next.f (s e : Int) : Option (Int × Bool) := some (if toS s e = -1 then (s, false) else (toS s e, true))
theorem to_out (s e : Int) (h : s < 0 ∨ 4 ≤ s ∨ e < 0 ∨ 7 ≤ e) : toS s e = -1 := by
  unfold toS
  repeat' split
  all_goals first | rfl | omega
theorem state_Next.calls (a0 a1 : Int) (r1 : Int) (r2 : Bool) (w : World) (h : state_Next.f a0 a1 = some (r1, r2)) :
    Calls Try.prog 21 #[.int .i64 a0, .int .i64 a1] w fun e w' => e = .returned (.tuple #[.int .i64 r1, .bool r2]) ∧ Below w.heap.size w w' := by
  have out : (a0 < 0 ∨ 4 ≤ a0 ∨ a1 < 0 ∨ 7 ≤ a1) → r1 = a0 ∧ r2 = false := fun ho => by
    unfold state_Next.f at h
    rw [if_pos (to_out a0 a1 ho)] at h
    injection h with h
    injection h with h1 h2
    exact ⟨h1.symm, h2.symm⟩
  by_cases c1 : a0 < 0
  · obtain ⟨rfl, rfl⟩ := out (by omega)
    exact (next_s0 _ a1 c1 w).mono fun _ _ ⟨he, hw⟩ => ⟨he, by rw [hw]; exact Below.refl _ _⟩
  by_cases c2 : 4 ≤ a0
  · obtain ⟨rfl, rfl⟩ := out (by omega)
    exact (next_s1 _ a1 (by omega) c2 w).mono fun _ _ ⟨he, hw⟩ => ⟨he, by rw [hw]; exact Below.refl _ _⟩
  by_cases c3 : a1 < 0
  · obtain ⟨rfl, rfl⟩ := out (by omega)
    exact (next_e0 _ a1 (by omega) (by omega) c3 w).mono fun _ _ ⟨he, hw⟩ => ⟨he, by rw [hw]; exact Below.refl _ _⟩
  by_cases c4 : 7 ≤ a1
  · obtain ⟨rfl, rfl⟩ := out (by omega)
    exact (next_e1 _ a1 (by omega) (by omega) (by omega) c4 w).mono fun _ _ ⟨he, hw⟩ => ⟨he, by rw [hw]; exact Below.refl _ _⟩
  clear out
  rcases range4 (s := a0) (by omega) (by omega) with rfl | rfl | rfl | rfl <;> rcases range7 (s := a1) (by omega) (by omega) with rfl | rfl | rfl | rfl | rfl | rfl | rfl
  · (obtain ⟨rfl, rfl⟩ : 1 = r1 ∧ true = r2 := by simpa [state_Next.f, toS] using h); exact next00 w
  · (obtain ⟨rfl, rfl⟩ : 0 = r1 ∧ false = r2 := by simpa [state_Next.f, toS] using h); exact next01 w
  · (obtain ⟨rfl, rfl⟩ : 2 = r1 ∧ true = r2 := by simpa [state_Next.f, toS] using h); exact next02 w
  · (obtain ⟨rfl, rfl⟩ : 0 = r1 ∧ false = r2 := by simpa [state_Next.f, toS] using h); exact next03 w
  · (obtain ⟨rfl, rfl⟩ : 0 = r1 ∧ false = r2 := by simpa [state_Next.f, toS] using h); exact next04 w
  · (obtain ⟨rfl, rfl⟩ : 1 = r1 ∧ true = r2 := by simpa [state_Next.f, toS] using h); exact next05 w
  · (obtain ⟨rfl, rfl⟩ : 0 = r1 ∧ false = r2 := by simpa [state_Next.f, toS] using h); exact next06 w
  · (obtain ⟨rfl, rfl⟩ : 1 = r1 ∧ false = r2 := by simpa [state_Next.f, toS] using h); exact next10 w
  · (obtain ⟨rfl, rfl⟩ : 0 = r1 ∧ true = r2 := by simpa [state_Next.f, toS] using h); exact next11 w
  · (obtain ⟨rfl, rfl⟩ : 1 = r1 ∧ false = r2 := by simpa [state_Next.f, toS] using h); exact next12 w
  · (obtain ⟨rfl, rfl⟩ : 1 = r1 ∧ false = r2 := by simpa [state_Next.f, toS] using h); exact next13 w
  · (obtain ⟨rfl, rfl⟩ : 3 = r1 ∧ true = r2 := by simpa [state_Next.f, toS] using h); exact next14 w
  · (obtain ⟨rfl, rfl⟩ : 1 = r1 ∧ false = r2 := by simpa [state_Next.f, toS] using h); exact next15 w
  · (obtain ⟨rfl, rfl⟩ : 0 = r1 ∧ true = r2 := by simpa [state_Next.f, toS] using h); exact next16 w
  · (obtain ⟨rfl, rfl⟩ : 1 = r1 ∧ true = r2 := by simpa [state_Next.f, toS] using h); exact next20 w
  · (obtain ⟨rfl, rfl⟩ : 2 = r1 ∧ false = r2 := by simpa [state_Next.f, toS] using h); exact next21 w
  · (obtain ⟨rfl, rfl⟩ : 2 = r1 ∧ false = r2 := by simpa [state_Next.f, toS] using h); exact next22 w
  · (obtain ⟨rfl, rfl⟩ : 0 = r1 ∧ true = r2 := by simpa [state_Next.f, toS] using h); exact next23 w
  · (obtain ⟨rfl, rfl⟩ : 2 = r1 ∧ false = r2 := by simpa [state_Next.f, toS] using h); exact next24 w
  · (obtain ⟨rfl, rfl⟩ : 1 = r1 ∧ true = r2 := by simpa [state_Next.f, toS] using h); exact next25 w
  · (obtain ⟨rfl, rfl⟩ : 2 = r1 ∧ false = r2 := by simpa [state_Next.f, toS] using h); exact next26 w
  · (obtain ⟨rfl, rfl⟩ : 3 = r1 ∧ false = r2 := by simpa [state_Next.f, toS] using h); exact next30 w
  · (obtain ⟨rfl, rfl⟩ : 0 = r1 ∧ true = r2 := by simpa [state_Next.f, toS] using h); exact next31 w
  · (obtain ⟨rfl, rfl⟩ : 3 = r1 ∧ false = r2 := by simpa [state_Next.f, toS] using h); exact next32 w
  · (obtain ⟨rfl, rfl⟩ : 3 = r1 ∧ false = r2 := by simpa [state_Next.f, toS] using h); exact next33 w
  · (obtain ⟨rfl, rfl⟩ : 3 = r1 ∧ false = r2 := by simpa [state_Next.f, toS] using h); exact next34 w
  · (obtain ⟨rfl, rfl⟩ : 3 = r1 ∧ false = r2 := by simpa [state_Next.f, toS] using h); exact next35 w
  · (obtain ⟨rfl, rfl⟩ : 0 = r1 ∧ true = r2 := by simpa [state_Next.f, toS] using h); exact next36 w
/-! hostlerref10.Next -/
set_option maxHeartbeats 1000000 in
theorem ref00 (w : World) : Calls Try.prog 25 #[.int .i64 0, .int .i64 0] w fun x w' => x = .returned (.tuple #[.int .i64 1, .bool true]) ∧ w' = w := by
  go_enter Try.func25, Try.ntmps25
  go_wp2
  go_ret2
  exact ⟨rfl, rfl⟩
set_option maxHeartbeats 1000000 in
theorem ref01 (w : World) : Calls Try.prog 25 #[.int .i64 0, .int .i64 1] w fun x w' => x = .returned (.tuple #[.int .i64 0, .bool false]) ∧ w' = w := by
  go_enter Try.func25, Try.ntmps25
  go_wp2
  go_ret2
  exact ⟨rfl, rfl⟩
set_option maxHeartbeats 1000000 in
theorem ref02 (w : World) : Calls Try.prog 25 #[.int .i64 0, .int .i64 2] w fun x w' => x = .returned (.tuple #[.int .i64 2, .bool true]) ∧ w' = w := by
  go_enter Try.func25, Try.ntmps25
  go_wp2
  go_ret2
  exact ⟨rfl, rfl⟩
set_option maxHeartbeats 1000000 in
theorem ref03 (w : World) : Calls Try.prog 25 #[.int .i64 0, .int .i64 3] w fun x w' => x = .returned (.tuple #[.int .i64 0, .bool false]) ∧ w' = w := by
  go_enter Try.func25, Try.ntmps25
  go_wp2
  go_ret2
  exact ⟨rfl, rfl⟩
set_option maxHeartbeats 1000000 in
theorem ref04 (w : World) : Calls Try.prog 25 #[.int .i64 0, .int .i64 4] w fun x w' => x = .returned (.tuple #[.int .i64 0, .bool false]) ∧ w' = w := by
  go_enter Try.func25, Try.ntmps25
  go_wp2
  go_ret2
  exact ⟨rfl, rfl⟩
set_option maxHeartbeats 1000000 in
theorem ref05 (w : World) : Calls Try.prog 25 #[.int .i64 0, .int .i64 5] w fun x w' => x = .returned (.tuple #[.int .i64 1, .bool true]) ∧ w' = w := by
  go_enter Try.func25, Try.ntmps25
  go_wp2
  go_ret2
  exact ⟨rfl, rfl⟩
set_option maxHeartbeats 1000000 in
theorem ref06 (w : World) : Calls Try.prog 25 #[.int .i64 0, .int .i64 6] w fun x w' => x = .returned (.tuple #[.int .i64 0, .bool false]) ∧ w' = w := by
  go_enter Try.func25, Try.ntmps25
  go_wp2
  go_ret2
  exact ⟨rfl, rfl⟩
set_option maxHeartbeats 1000000 in
theorem ref10 (w : World) : Calls Try.prog 25 #[.int .i64 1, .int .i64 0] w fun x w' => x = .returned (.tuple #[.int .i64 1, .bool false]) ∧ w' = w := by
  go_enter Try.func25, Try.ntmps25
  go_wp2
  go_ret2
  exact ⟨rfl, rfl⟩
set_option maxHeartbeats 1000000 in
theorem ref11 (w : World) : Calls Try.prog 25 #[.int .i64 1, .int .i64 1] w fun x w' => x = .returned (.tuple #[.int .i64 0, .bool true]) ∧ w' = w := by
  go_enter Try.func25, Try.ntmps25
  go_wp2
  go_ret2
  exact ⟨rfl, rfl⟩
set_option maxHeartbeats 1000000 in
theorem ref12 (w : World) : Calls Try.prog 25 #[.int .i64 1, .int .i64 2] w fun x w' => x = .returned (.tuple #[.int .i64 1, .bool false]) ∧ w' = w := by
  go_enter Try.func25, Try.ntmps25
  go_wp2
  go_ret2
  exact ⟨rfl, rfl⟩
set_option maxHeartbeats 1000000 in
theorem ref13 (w : World) : Calls Try.prog 25 #[.int .i64 1, .int .i64 3] w fun x w' => x = .returned (.tuple #[.int .i64 1, .bool false]) ∧ w' = w := by
  go_enter Try.func25, Try.ntmps25
  go_wp2
  go_ret2
  exact ⟨rfl, rfl⟩
set_option maxHeartbeats 1000000 in
theorem ref14 (w : World) : Calls Try.prog 25 #[.int .i64 1, .int .i64 4] w fun x w' => x = .returned (.tuple #[.int .i64 3, .bool true]) ∧ w' = w := by
  go_enter Try.func25, Try.ntmps25
  go_wp2
  go_ret2
  exact ⟨rfl, rfl⟩
set_option maxHeartbeats 1000000 in
theorem ref15 (w : World) : Calls Try.prog 25 #[.int .i64 1, .int .i64 5] w fun x w' => x = .returned (.tuple #[.int .i64 1, .bool false]) ∧ w' = w := by
  go_enter Try.func25, Try.ntmps25
  go_wp2
  go_ret2
  exact ⟨rfl, rfl⟩
set_option maxHeartbeats 1000000 in
theorem ref16 (w : World) : Calls Try.prog 25 #[.int .i64 1, .int .i64 6] w fun x w' => x = .returned (.tuple #[.int .i64 0, .bool true]) ∧ w' = w := by
  go_enter Try.func25, Try.ntmps25
  go_wp2
  go_ret2
  exact ⟨rfl, rfl⟩
set_option maxHeartbeats 1000000 in
theorem ref20 (w : World) : Calls Try.prog 25 #[.int .i64 2, .int .i64 0] w fun x w' => x = .returned (.tuple #[.int .i64 1, .bool true]) ∧ w' = w := by
  go_enter Try.func25, Try.ntmps25
  go_wp2
  go_ret2
  exact ⟨rfl, rfl⟩
set_option maxHeartbeats 1000000 in
theorem ref21 (w : World) : Calls Try.prog 25 #[.int .i64 2, .int .i64 1] w fun x w' => x = .returned (.tuple #[.int .i64 2, .bool false]) ∧ w' = w := by
  go_enter Try.func25, Try.ntmps25
  go_wp2
  go_ret2
  exact ⟨rfl, rfl⟩
set_option maxHeartbeats 1000000 in
theorem ref22 (w : World) : Calls Try.prog 25 #[.int .i64 2, .int .i64 2] w fun x w' => x = .returned (.tuple #[.int .i64 2, .bool false]) ∧ w' = w := by
  go_enter Try.func25, Try.ntmps25
  go_wp2
  go_ret2
  exact ⟨rfl, rfl⟩
set_option maxHeartbeats 1000000 in
theorem ref23 (w : World) : Calls Try.prog 25 #[.int .i64 2, .int .i64 3] w fun x w' => x = .returned (.tuple #[.int .i64 0, .bool true]) ∧ w' = w := by
  go_enter Try.func25, Try.ntmps25
  go_wp2
  go_ret2
  exact ⟨rfl, rfl⟩
set_option maxHeartbeats 1000000 in
theorem ref24 (w : World) : Calls Try.prog 25 #[.int .i64 2, .int .i64 4] w fun x w' => x = .returned (.tuple #[.int .i64 2, .bool false]) ∧ w' = w := by
  go_enter Try.func25, Try.ntmps25
  go_wp2
  go_ret2
  exact ⟨rfl, rfl⟩
set_option maxHeartbeats 1000000 in
theorem ref25 (w : World) : Calls Try.prog 25 #[.int .i64 2, .int .i64 5] w fun x w' => x = .returned (.tuple #[.int .i64 1, .bool true]) ∧ w' = w := by
  go_enter Try.func25, Try.ntmps25
  go_wp2
  go_ret2
  exact ⟨rfl, rfl⟩
set_option maxHeartbeats 1000000 in
theorem ref26 (w : World) : Calls Try.prog 25 #[.int .i64 2, .int .i64 6] w fun x w' => x = .returned (.tuple #[.int .i64 2, .bool false]) ∧ w' = w := by
  go_enter Try.func25, Try.ntmps25
  go_wp2
  go_ret2
  exact ⟨rfl, rfl⟩
set_option maxHeartbeats 1000000 in
theorem ref30 (w : World) : Calls Try.prog 25 #[.int .i64 3, .int .i64 0] w fun x w' => x = .returned (.tuple #[.int .i64 3, .bool false]) ∧ w' = w := by
  go_enter Try.func25, Try.ntmps25
  go_wp2
  go_ret2
  exact ⟨rfl, rfl⟩
set_option maxHeartbeats 1000000 in
theorem ref31 (w : World) : Calls Try.prog 25 #[.int .i64 3, .int .i64 1] w fun x w' => x = .returned (.tuple #[.int .i64 0, .bool true]) ∧ w' = w := by
  go_enter Try.func25, Try.ntmps25
  go_wp2
  go_ret2
  exact ⟨rfl, rfl⟩
set_option maxHeartbeats 1000000 in
theorem ref32 (w : World) : Calls Try.prog 25 #[.int .i64 3, .int .i64 2] w fun x w' => x = .returned (.tuple #[.int .i64 3, .bool false]) ∧ w' = w := by
  go_enter Try.func25, Try.ntmps25
  go_wp2
  go_ret2
  exact ⟨rfl, rfl⟩
set_option maxHeartbeats 1000000 in
theorem ref33 (w : World) : Calls Try.prog 25 #[.int .i64 3, .int .i64 3] w fun x w' => x = .returned (.tuple #[.int .i64 3, .bool false]) ∧ w' = w := by
  go_enter Try.func25, Try.ntmps25
  go_wp2
  go_ret2
  exact ⟨rfl, rfl⟩
set_option maxHeartbeats 1000000 in
theorem ref34 (w : World) : Calls Try.prog 25 #[.int .i64 3, .int .i64 4] w fun x w' => x = .returned (.tuple #[.int .i64 3, .bool false]) ∧ w' = w := by
  go_enter Try.func25, Try.ntmps25
  go_wp2
  go_ret2
  exact ⟨rfl, rfl⟩
set_option maxHeartbeats 1000000 in
theorem ref35 (w : World) : Calls Try.prog 25 #[.int .i64 3, .int .i64 5] w fun x w' => x = .returned (.tuple #[.int .i64 3, .bool false]) ∧ w' = w := by
  go_enter Try.func25, Try.ntmps25
  go_wp2
  go_ret2
  exact ⟨rfl, rfl⟩
set_option maxHeartbeats 1000000 in
theorem ref36 (w : World) : Calls Try.prog 25 #[.int .i64 3, .int .i64 6] w fun x w' => x = .returned (.tuple #[.int .i64 0, .bool true]) ∧ w' = w := by
  go_enter Try.func25, Try.ntmps25
  go_wp2
  go_ret2
  exact ⟨rfl, rfl⟩
set_option maxHeartbeats 1000000 in
theorem refo0 (e : Int) (h0 : (e == 0) = false) (h1 : (e == 1) = false) (h2 : (e == 2) = false) (h3 : (e == 3) = false) (h4 : (e == 4) = false) (h5 : (e == 5) = false) (h6 : (e == 6) = false) (w : World) : Calls Try.prog 25 #[.int .i64 0, .int .i64 e] w fun x w' => x = .returned (.tuple #[.int .i64 0, .bool false]) ∧ w' = w := by
  go_enter Try.func25, Try.ntmps25
  go_wp2
  go_ret2
  exact ⟨rfl, rfl⟩
set_option maxHeartbeats 1000000 in
theorem refo1 (e : Int) (h0 : (e == 0) = false) (h1 : (e == 1) = false) (h2 : (e == 2) = false) (h3 : (e == 3) = false) (h4 : (e == 4) = false) (h5 : (e == 5) = false) (h6 : (e == 6) = false) (w : World) : Calls Try.prog 25 #[.int .i64 1, .int .i64 e] w fun x w' => x = .returned (.tuple #[.int .i64 1, .bool false]) ∧ w' = w := by
  go_enter Try.func25, Try.ntmps25
  go_wp2
  go_ret2
  exact ⟨rfl, rfl⟩
set_option maxHeartbeats 1000000 in
theorem refo2 (e : Int) (h0 : (e == 0) = false) (h1 : (e == 1) = false) (h2 : (e == 2) = false) (h3 : (e == 3) = false) (h4 : (e == 4) = false) (h5 : (e == 5) = false) (h6 : (e == 6) = false) (w : World) : Calls Try.prog 25 #[.int .i64 2, .int .i64 e] w fun x w' => x = .returned (.tuple #[.int .i64 2, .bool false]) ∧ w' = w := by
  go_enter Try.func25, Try.ntmps25
  go_wp2
  go_ret2
  exact ⟨rfl, rfl⟩
set_option maxHeartbeats 1000000 in
theorem refo3 (e : Int) (h0 : (e == 0) = false) (h1 : (e == 1) = false) (h2 : (e == 2) = false) (h3 : (e == 3) = false) (h4 : (e == 4) = false) (h5 : (e == 5) = false) (h6 : (e == 6) = false) (w : World) : Calls Try.prog 25 #[.int .i64 3, .int .i64 e] w fun x w' => x = .returned (.tuple #[.int .i64 3, .bool false]) ∧ w' = w := by
  go_enter Try.func25, Try.ntmps25
  go_wp2
  go_ret2
  exact ⟨rfl, rfl⟩
set_option maxHeartbeats 1000000 in
theorem refs (s e : Int) (h0 : (s == 0) = false) (h1 : (s == 1) = false) (h2 : (s == 2) = false) (h3 : (s == 3) = false) (w : World) : Calls Try.prog 25 #[.int .i64 s, .int .i64 e] w fun x w' => x = .returned (.tuple #[.int .i64 s, .bool false]) ∧ w' = w := by
  go_enter Try.func25, Try.ntmps25
  go_wp2
  go_ret2
  exact ⟨rfl, rfl⟩
/-- What hostlerref10.Next answers. -/
def hostlerref10_Next.f (s e : Int) : Option (Int × Bool) := state_Next.f s e
theorem hostlerref10_Next.calls (a0 a1 : Int) (r1 : Int) (r2 : Bool) (w : World) (h : hostlerref10_Next.f a0 a1 = some (r1, r2)) :
    Calls Try.prog 25 #[.int .i64 a0, .int .i64 a1] w fun e w' => e = .returned (.tuple #[.int .i64 r1, .bool r2]) ∧ Below w.heap.size w w' := by
  unfold hostlerref10_Next.f at h
  have out : (a0 < 0 ∨ 4 ≤ a0 ∨ a1 < 0 ∨ 7 ≤ a1) → r1 = a0 ∧ r2 = false := fun ho => by
    unfold state_Next.f at h
    rw [if_pos (to_out a0 a1 ho)] at h
    injection h with h
    injection h with h1 h2
    exact ⟨h1.symm, h2.symm⟩
  have ne : ∀ {x y : Int}, x ≠ y → (x == y) = false := fun hne => beq_eq_false_iff_ne.mpr hne
  by_cases c1 : a0 < 0 ∨ 4 ≤ a0
  · obtain ⟨rfl, rfl⟩ := out (by omega)
    exact (refs _ a1 (ne (by omega)) (ne (by omega)) (ne (by omega)) (ne (by omega)) w).mono fun _ _ ⟨he, hw⟩ => ⟨he, by rw [hw]; exact Below.refl _ _⟩
  by_cases c3 : a1 < 0 ∨ 7 ≤ a1
  · obtain ⟨rfl, rfl⟩ := out (by omega)
    clear out h
    rcases range4 (s := r1) (by omega) (by omega) with rfl | rfl | rfl | rfl
    · exact (refo0 a1 (ne (by omega)) (ne (by omega)) (ne (by omega)) (ne (by omega)) (ne (by omega)) (ne (by omega)) (ne (by omega)) w).mono fun _ _ ⟨he, hw⟩ => ⟨he, by rw [hw]; exact Below.refl _ _⟩
    · exact (refo1 a1 (ne (by omega)) (ne (by omega)) (ne (by omega)) (ne (by omega)) (ne (by omega)) (ne (by omega)) (ne (by omega)) w).mono fun _ _ ⟨he, hw⟩ => ⟨he, by rw [hw]; exact Below.refl _ _⟩
    · exact (refo2 a1 (ne (by omega)) (ne (by omega)) (ne (by omega)) (ne (by omega)) (ne (by omega)) (ne (by omega)) (ne (by omega)) w).mono fun _ _ ⟨he, hw⟩ => ⟨he, by rw [hw]; exact Below.refl _ _⟩
    · exact (refo3 a1 (ne (by omega)) (ne (by omega)) (ne (by omega)) (ne (by omega)) (ne (by omega)) (ne (by omega)) (ne (by omega)) w).mono fun _ _ ⟨he, hw⟩ => ⟨he, by rw [hw]; exact Below.refl _ _⟩
  clear out
  rcases range4 (s := a0) (by omega) (by omega) with rfl | rfl | rfl | rfl <;> rcases range7 (s := a1) (by omega) (by omega) with rfl | rfl | rfl | rfl | rfl | rfl | rfl
  · (obtain ⟨rfl, rfl⟩ : 1 = r1 ∧ true = r2 := by simpa [state_Next.f, toS] using h); exact (ref00 w).mono fun _ _ ⟨he, hw⟩ => ⟨he, by rw [hw]; exact Below.refl _ _⟩
  · (obtain ⟨rfl, rfl⟩ : 0 = r1 ∧ false = r2 := by simpa [state_Next.f, toS] using h); exact (ref01 w).mono fun _ _ ⟨he, hw⟩ => ⟨he, by rw [hw]; exact Below.refl _ _⟩
  · (obtain ⟨rfl, rfl⟩ : 2 = r1 ∧ true = r2 := by simpa [state_Next.f, toS] using h); exact (ref02 w).mono fun _ _ ⟨he, hw⟩ => ⟨he, by rw [hw]; exact Below.refl _ _⟩
  · (obtain ⟨rfl, rfl⟩ : 0 = r1 ∧ false = r2 := by simpa [state_Next.f, toS] using h); exact (ref03 w).mono fun _ _ ⟨he, hw⟩ => ⟨he, by rw [hw]; exact Below.refl _ _⟩
  · (obtain ⟨rfl, rfl⟩ : 0 = r1 ∧ false = r2 := by simpa [state_Next.f, toS] using h); exact (ref04 w).mono fun _ _ ⟨he, hw⟩ => ⟨he, by rw [hw]; exact Below.refl _ _⟩
  · (obtain ⟨rfl, rfl⟩ : 1 = r1 ∧ true = r2 := by simpa [state_Next.f, toS] using h); exact (ref05 w).mono fun _ _ ⟨he, hw⟩ => ⟨he, by rw [hw]; exact Below.refl _ _⟩
  · (obtain ⟨rfl, rfl⟩ : 0 = r1 ∧ false = r2 := by simpa [state_Next.f, toS] using h); exact (ref06 w).mono fun _ _ ⟨he, hw⟩ => ⟨he, by rw [hw]; exact Below.refl _ _⟩
  · (obtain ⟨rfl, rfl⟩ : 1 = r1 ∧ false = r2 := by simpa [state_Next.f, toS] using h); exact (ref10 w).mono fun _ _ ⟨he, hw⟩ => ⟨he, by rw [hw]; exact Below.refl _ _⟩
  · (obtain ⟨rfl, rfl⟩ : 0 = r1 ∧ true = r2 := by simpa [state_Next.f, toS] using h); exact (ref11 w).mono fun _ _ ⟨he, hw⟩ => ⟨he, by rw [hw]; exact Below.refl _ _⟩
  · (obtain ⟨rfl, rfl⟩ : 1 = r1 ∧ false = r2 := by simpa [state_Next.f, toS] using h); exact (ref12 w).mono fun _ _ ⟨he, hw⟩ => ⟨he, by rw [hw]; exact Below.refl _ _⟩
  · (obtain ⟨rfl, rfl⟩ : 1 = r1 ∧ false = r2 := by simpa [state_Next.f, toS] using h); exact (ref13 w).mono fun _ _ ⟨he, hw⟩ => ⟨he, by rw [hw]; exact Below.refl _ _⟩
  · (obtain ⟨rfl, rfl⟩ : 3 = r1 ∧ true = r2 := by simpa [state_Next.f, toS] using h); exact (ref14 w).mono fun _ _ ⟨he, hw⟩ => ⟨he, by rw [hw]; exact Below.refl _ _⟩
  · (obtain ⟨rfl, rfl⟩ : 1 = r1 ∧ false = r2 := by simpa [state_Next.f, toS] using h); exact (ref15 w).mono fun _ _ ⟨he, hw⟩ => ⟨he, by rw [hw]; exact Below.refl _ _⟩
  · (obtain ⟨rfl, rfl⟩ : 0 = r1 ∧ true = r2 := by simpa [state_Next.f, toS] using h); exact (ref16 w).mono fun _ _ ⟨he, hw⟩ => ⟨he, by rw [hw]; exact Below.refl _ _⟩
  · (obtain ⟨rfl, rfl⟩ : 1 = r1 ∧ true = r2 := by simpa [state_Next.f, toS] using h); exact (ref20 w).mono fun _ _ ⟨he, hw⟩ => ⟨he, by rw [hw]; exact Below.refl _ _⟩
  · (obtain ⟨rfl, rfl⟩ : 2 = r1 ∧ false = r2 := by simpa [state_Next.f, toS] using h); exact (ref21 w).mono fun _ _ ⟨he, hw⟩ => ⟨he, by rw [hw]; exact Below.refl _ _⟩
  · (obtain ⟨rfl, rfl⟩ : 2 = r1 ∧ false = r2 := by simpa [state_Next.f, toS] using h); exact (ref22 w).mono fun _ _ ⟨he, hw⟩ => ⟨he, by rw [hw]; exact Below.refl _ _⟩
  · (obtain ⟨rfl, rfl⟩ : 0 = r1 ∧ true = r2 := by simpa [state_Next.f, toS] using h); exact (ref23 w).mono fun _ _ ⟨he, hw⟩ => ⟨he, by rw [hw]; exact Below.refl _ _⟩
  · (obtain ⟨rfl, rfl⟩ : 2 = r1 ∧ false = r2 := by simpa [state_Next.f, toS] using h); exact (ref24 w).mono fun _ _ ⟨he, hw⟩ => ⟨he, by rw [hw]; exact Below.refl _ _⟩
  · (obtain ⟨rfl, rfl⟩ : 1 = r1 ∧ true = r2 := by simpa [state_Next.f, toS] using h); exact (ref25 w).mono fun _ _ ⟨he, hw⟩ => ⟨he, by rw [hw]; exact Below.refl _ _⟩
  · (obtain ⟨rfl, rfl⟩ : 2 = r1 ∧ false = r2 := by simpa [state_Next.f, toS] using h); exact (ref26 w).mono fun _ _ ⟨he, hw⟩ => ⟨he, by rw [hw]; exact Below.refl _ _⟩
  · (obtain ⟨rfl, rfl⟩ : 3 = r1 ∧ false = r2 := by simpa [state_Next.f, toS] using h); exact (ref30 w).mono fun _ _ ⟨he, hw⟩ => ⟨he, by rw [hw]; exact Below.refl _ _⟩
  · (obtain ⟨rfl, rfl⟩ : 0 = r1 ∧ true = r2 := by simpa [state_Next.f, toS] using h); exact (ref31 w).mono fun _ _ ⟨he, hw⟩ => ⟨he, by rw [hw]; exact Below.refl _ _⟩
  · (obtain ⟨rfl, rfl⟩ : 3 = r1 ∧ false = r2 := by simpa [state_Next.f, toS] using h); exact (ref32 w).mono fun _ _ ⟨he, hw⟩ => ⟨he, by rw [hw]; exact Below.refl _ _⟩
  · (obtain ⟨rfl, rfl⟩ : 3 = r1 ∧ false = r2 := by simpa [state_Next.f, toS] using h); exact (ref33 w).mono fun _ _ ⟨he, hw⟩ => ⟨he, by rw [hw]; exact Below.refl _ _⟩
  · (obtain ⟨rfl, rfl⟩ : 3 = r1 ∧ false = r2 := by simpa [state_Next.f, toS] using h); exact (ref34 w).mono fun _ _ ⟨he, hw⟩ => ⟨he, by rw [hw]; exact Below.refl _ _⟩
  · (obtain ⟨rfl, rfl⟩ : 3 = r1 ∧ false = r2 := by simpa [state_Next.f, toS] using h); exact (ref35 w).mono fun _ _ ⟨he, hw⟩ => ⟨he, by rw [hw]; exact Below.refl _ _⟩
  · (obtain ⟨rfl, rfl⟩ : 0 = r1 ∧ true = r2 := by simpa [state_Next.f, toS] using h); exact (ref36 w).mono fun _ _ ⟨he, hw⟩ => ⟨he, by rw [hw]; exact Below.refl _ _⟩
/-! state.Event -/
set_option maxHeartbeats 1000000 in
theorem event0 (w : World) : Calls Try.prog 29 #[.int .i64 0] w fun x w' => x = .returned (.string (⟨#[100, 114, 97, 105, 110]⟩ : ByteArray)) ∧ Below w.heap.size w w' := by
  go_enter Try.func29, Try.ntmps29
  go_wp2
  go_ret
  exact ⟨rfl, by go_grown⟩
set_option maxHeartbeats 1000000 in
theorem event1 (w : World) : Calls Try.prog 29 #[.int .i64 1] w fun x w' => x = .returned (.string (⟨#[117, 110, 100, 114, 97, 105, 110]⟩ : ByteArray)) ∧ Below w.heap.size w w' := by
  go_enter Try.func29, Try.ntmps29
  go_wp2
  go_ret
  exact ⟨rfl, by go_grown⟩
set_option maxHeartbeats 1000000 in
theorem event2 (w : World) : Calls Try.prog 29 #[.int .i64 2] w fun x w' => x = .returned (.string (⟨#[101, 106, 101, 99, 116]⟩ : ByteArray)) ∧ Below w.heap.size w w' := by
  go_enter Try.func29, Try.ntmps29
  go_wp2
  go_ret
  exact ⟨rfl, by go_grown⟩
set_option maxHeartbeats 1000000 in
theorem event3 (w : World) : Calls Try.prog 29 #[.int .i64 3] w fun x w' => x = .returned (.string (⟨#[112, 114, 111, 98, 101]⟩ : ByteArray)) ∧ Below w.heap.size w w' := by
  go_enter Try.func29, Try.ntmps29
  go_wp2
  go_ret
  exact ⟨rfl, by go_grown⟩
set_option maxHeartbeats 1000000 in
theorem event4 (w : World) : Calls Try.prog 29 #[.int .i64 4] w fun x w' => x = .returned (.string (⟨#[101, 109, 112, 116, 121]⟩ : ByteArray)) ∧ Below w.heap.size w w' := by
  go_enter Try.func29, Try.ntmps29
  go_wp2
  go_ret
  exact ⟨rfl, by go_grown⟩
set_option maxHeartbeats 1000000 in
theorem event5 (w : World) : Calls Try.prog 29 #[.int .i64 5] w fun x w' => x = .returned (.string (⟨#[108, 101, 97, 118, 101]⟩ : ByteArray)) ∧ Below w.heap.size w w' := by
  go_enter Try.func29, Try.ntmps29
  go_wp2
  go_ret
  exact ⟨rfl, by go_grown⟩
set_option maxHeartbeats 1000000 in
theorem event6 (w : World) : Calls Try.prog 29 #[.int .i64 6] w fun x w' => x = .returned (.string (⟨#[101, 110, 116, 101, 114]⟩ : ByteArray)) ∧ Below w.heap.size w w' := by
  go_enter Try.func29, Try.ntmps29
  go_wp2
  go_ret
  exact ⟨rfl, by go_grown⟩
set_option maxHeartbeats 1000000 in
theorem event_lo (e : Int) (h : e < 0) (w : World) : Calls Try.prog 29 #[.int .i64 e] w fun x w' => x = .returned (.string (⟨#[]⟩ : ByteArray)) ∧ Below w.heap.size w w' := by
  go_enter Try.func29, Try.ntmps29
  go_wp2
  go_ret
  exact ⟨rfl, by go_grown⟩
set_option maxHeartbeats 1000000 in
theorem event_hi (e : Int) (h0 : 0 ≤ e) (h : 7 ≤ e) (w : World) : Calls Try.prog 29 #[.int .i64 e] w fun x w' => x = .returned (.string (⟨#[]⟩ : ByteArray)) ∧ Below w.heap.size w w' := by
  go_enter Try.func29, Try.ntmps29
  go_wp2
  go_ret
  exact ⟨rfl, by go_grown⟩
/-- What state.Event answers. -/
def state_Event.f (e : Int) : Option ByteArray := some (if e = 0 then (⟨#[100, 114, 97, 105, 110]⟩ : ByteArray) else if e = 1 then (⟨#[117, 110, 100, 114, 97, 105, 110]⟩ : ByteArray) else if e = 2 then (⟨#[101, 106, 101, 99, 116]⟩ : ByteArray) else if e = 3 then (⟨#[112, 114, 111, 98, 101]⟩ : ByteArray) else if e = 4 then (⟨#[101, 109, 112, 116, 121]⟩ : ByteArray) else if e = 5 then (⟨#[108, 101, 97, 118, 101]⟩ : ByteArray) else if e = 6 then (⟨#[101, 110, 116, 101, 114]⟩ : ByteArray) else (⟨#[]⟩ : ByteArray))
theorem state_Event.calls (a0 : Int) (r : ByteArray) (w : World) (h : state_Event.f a0 = some r) :
    Calls Try.prog 29 #[.int .i64 a0] w fun e w' => e = .returned (.string r) ∧ Below w.heap.size w w' := by
  by_cases c1 : a0 < 0
  · obtain rfl : (⟨#[]⟩ : ByteArray) = r := by
      unfold state_Event.f at h
      rw [if_neg (by omega), if_neg (by omega), if_neg (by omega), if_neg (by omega), if_neg (by omega), if_neg (by omega), if_neg (by omega)] at h
      exact Option.some.inj h
    exact event_lo a0 c1 w
  by_cases c2 : 7 ≤ a0
  · obtain rfl : (⟨#[]⟩ : ByteArray) = r := by
      unfold state_Event.f at h
      rw [if_neg (by omega), if_neg (by omega), if_neg (by omega), if_neg (by omega), if_neg (by omega), if_neg (by omega), if_neg (by omega)] at h
      exact Option.some.inj h
    exact event_hi a0 (by omega) c2 w
  rcases range7 (s := a0) (by omega) (by omega) with rfl | rfl | rfl | rfl | rfl | rfl | rfl
  · obtain rfl := Option.some.inj h
    exact event0 w
  · obtain rfl := Option.some.inj h
    exact event1 w
  · obtain rfl := Option.some.inj h
    exact event2 w
  · obtain rfl := Option.some.inj h
    exact event3 w
  · obtain rfl := Option.some.inj h
    exact event4 w
  · obtain rfl := Option.some.inj h
    exact event5 w
  · obtain rfl := Option.some.inj h
    exact event6 w
end Go.Proofs.Ythlhjgbmcehpdaa.Man
