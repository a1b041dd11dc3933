/-
  diff.Name, continued: the sign set, the closure, the walk over a name's runes. Conditions: none.
-/
import Derived.Test.YtmkijdkfogebjaaNa
set_option linter.unusedVariables false
set_option linter.unusedSimpArgs false
namespace Go.Proofs.Ytmkijdkfogebjaa.Na
open Go.RowKit Go.Lib Go.Proofs.YtmkijdkfogebjaaW.PrintWords Go.Proofs.YtmkijdkfogebjaaW.PrintLast
attribute [local irreducible] Utf8.encode Utf8.valid
set_option maxHeartbeats 2000000 in
set_option maxRecDepth 100000 in
theorem idxRune_asc (r : Nat) (h : r < 128) (w : World) : Calls Try.prog 56 #[.string signs, .int .i32 r] w fun e w' => e = .returned (.int .i64 (indexByte signs.data.toList ((r : Nat) : Int).toNat.toUInt8)) ∧ Below w.heap.size w w' := by
  have h0 : (0 ≤ (r : Int)) = True := eq_true (by omega)
  have h1 : ((r : Int) < 128) = True := eq_true (by omega)
  have hw : IntKind.u8.wrap (r : Int) = (r : Int) := by simp [IntKind.wrap, IntKind.bits, IntKind.signed]; omega
  have hI := fun w => idx58 signs (r : Int) w
  generalize indexByte signs.data.toList ((r : Nat) : Int).toNat.toUInt8 = I at hI ⊢
  go_enter Try.func56, Try.ntmps56
  go_wp2_with (go_at_call 58; refine (hI _).mono ?_; rintro e w' ⟨rfl, rfl⟩)
  go_ret
  exact ⟨rfl, by repeat (first | exact Below.refl _ _ | apply pw_below_drewN | apply below_drew1)⟩
set_option maxHeartbeats 2000000 in
set_option maxRecDepth 100000 in
theorem idxRune_inv (r : Nat) (h : 128 ≤ r) (he : r ≠ 65533) (hv : Utf8.valid r = false) (w : World) : Calls Try.prog 56 #[.string signs, .int .i32 r] w fun e w' => e = .returned (.int .i64 (-1)) ∧ Below w.heap.size w w' := by
  have hre : (((r : Int) == 65533) = false) := by rw [beq_eq_false_iff_ne]; omega
  have hv59 := fun w => valid59 (r : Int) w
  rw [hv] at hv59
  have hg1 : ¬ (r : Int) < 128 := by omega
  clear hv
  go_enter Try.func56, Try.ntmps56
  go_wp2_with (go_at_call 59; refine (hv59 _).mono ?_; rintro e w' ⟨rfl, rfl⟩)
  go_ret
  exact ⟨rfl, by repeat (first | exact Below.refl _ _ | apply pw_below_drewN | apply below_drew1)⟩
/-- strings.IndexRune over the signs: is it one of them? -/
theorem idxRune (r : Nat) (w : World) : ∃ v : Int, decide (0 ≤ v) = okB r ∧ Calls Try.prog 56 #[.string signs, .int .i32 r] w fun e w' => e = .returned (.int .i64 v) ∧ Below w.heap.size w w' := by
  by_cases h : r < 128
  · exact ⟨_, signs_at r h, idxRune_asc r h w⟩
  · have hno : decide (0 ≤ (-1 : Int)) = okB r := by
      unfold okB
      rw [decide_eq_false (by omega)]
      exact (decide_eq_false (by omega)).symm
    refine ⟨-1, hno, ?_⟩
    by_cases he : r = 65533
    · subst he
      exact idxRune_err w
    · cases hv : Utf8.valid r with
      | true => exact idxRune_big r (by omega) he hv w
      | false => exact idxRune_inv r (by omega) he hv w
set_option maxHeartbeats 1000000 in
theorem contains50 (r : Nat) (w : World) : Calls Try.prog 50 #[.string signs, .int .i32 r] w fun e w' => e = .returned (.bool (okB r)) ∧ Below w.heap.size w w' := by
  obtain ⟨v, hv, hI⟩ := idxRune r w
  go_enter Try.func50, Try.ntmps50
  go_wp2_with (go_at_call 56; refine hI.mono ?_; rintro e w' ⟨rfl, hb⟩)
  go_ret
  exact ⟨rfl, hb⟩
set_option maxHeartbeats 1000000 in
theorem bad49 (r : Nat) (w : World) : Calls Try.prog 49 #[.int .i32 r] w fun e w' => e = .returned (.bool (!okB r)) ∧ Below w.heap.size w w' := by
  have hI := contains50 r w
  generalize okB r = b at hI ⊢
  go_enter Try.func49, Try.ntmps49
  go_wp2_with (go_at_call 50; refine hI.mono ?_; rintro e w' ⟨rfl, hb⟩)
  go_ret
  exact ⟨rfl, hb⟩
/-- Where the first rune is that no name may have; -1. -/
def badFrom (s : ByteArray) : Nat → Nat → Int
  | 0, _ => -1
  | f + 1, pos => if pos < s.size then (if okB (Utf8.decode s pos).1 then badFrom s f (pos + (Utf8.decode s pos).2) else (pos : Int)) else -1
theorem badFrom_end (s : ByteArray) (f pos : Nat) (h : ¬ pos < s.size) : badFrom s f pos = -1 := by cases f <;> simp [badFrom, h]
set_option maxHeartbeats 2000000 in
set_option maxRecDepth 100000 in
theorem idxFunc57 (s : ByteArray) (w : World) : Calls Try.prog 57 #[.string s, .func (.func 49) #[] #[], .bool true] w fun e w' => e = .returned (.int .i64 (badFrom s s.size 0)) ∧ Below w.heap.size w w' := by
  go_enter Try.func57, Try.ntmps57
  go_wp2
  go_loopg [] s.size (fun gf wx => ∃ pos : Nat, wx.heap[w.heap.size]? = some (.stringIter s pos) ∧ Below w.heap.size w wx ∧ badFrom s gf pos = badFrom s s.size 0 ∧ s.size ≤ pos + gf)
  case atStart => exact ⟨0, World.iter_heap w s 0, (Below.refl _ w).alloc (Nat.le_refl _) _, rfl, by omega⟩
  case round =>
    obtain ⟨pos, hit, hbw, hleft, hfu⟩ := hrel
    by_cases hps : pos < s.size
    · obtain ⟨g', rfl⟩ : ∃ g', gk = g' + 1 := ⟨gk - 1, by omega⟩
      have hnx : ∀ ty, (Instr.next (.pointer (some ⟨w.heap.size, 0, none⟩)) true ty).run Try.prog wr = _ := fun ty => Lib.run_next_any_at wr w.heap.size s pos ty hit hps
      have hwd := Lib.width_pos s pos
      obtain ⟨R, hR⟩ : ∃ R, (Utf8.decode s pos).1 = R := ⟨_, rfl⟩
      obtain ⟨K, hK⟩ : ∃ K, (Utf8.decode s pos).2 = K := ⟨_, rfl⟩
      simp only [badFrom, hps, if_true, hR, hK] at hleft
      rw [hR, hK] at hnx
      rw [hK] at hwd
      have hit2 := Lib.iterAt_heap wr w.heap.size s pos (pos + K) hit
      have hbw2 := Lib.below_iterAt hbw (k := w.heap.size) (Nat.le_refl _) s (pos + K)
      obtain ⟨W, hWd⟩ : ∃ W, wr.iterAt w.heap.size s (pos + K) = W := ⟨_, rfl⟩
      rw [hWd] at hnx hit2 hbw2
      have cS := bad49 R W
      cases hsp : okB R <;> rw [hsp] at cS <;> simp only [hsp, if_true, Bool.false_eq_true, if_false] at hleft
      · go_wp2_with (go_at_call 49; refine cS.mono ?_; rintro e W' ⟨rfl, hb⟩)
        go_ret
        exact ⟨by rw [← hleft] <;> rfl, hbw2.trans (hb.mono hbw2.size)⟩
      · go_wp2_with (go_at_call 49; refine cS.mono ?_; rintro e W' ⟨rfl, hb⟩)
        go_roundg g'
        case measure => omega
        case rel => exact ⟨pos + K, (hb.block w.heap.size (blk_lt hit2)).trans hit2, hbw2.trans (hb.mono hbw2.size), hleft, by omega⟩
    · have hnx : ∀ ty, (Instr.next (.pointer (some ⟨w.heap.size, 0, none⟩)) true ty).run Try.prog wr = _ := fun ty => Lib.run_next_end_at wr w.heap.size s pos ty hit hps
      rw [badFrom_end s gk pos hps] at hleft
      go_wp2
      go_ret
      exact ⟨by rw [← hleft] <;> rfl, hbw⟩
set_option maxHeartbeats 1000000 in
theorem idxFunc55 (s : ByteArray) (w : World) : Calls Try.prog 55 #[.string s, .func (.func 49) #[] #[]] w fun e w' => e = .returned (.int .i64 (badFrom s s.size 0)) ∧ Below w.heap.size w w' := by
  have hI := idxFunc57 s w
  generalize badFrom s s.size 0 = v at hI ⊢
  go_enter Try.func55, Try.ntmps55
  go_wp2_with (go_at_call 57; refine hI.mono ?_; rintro e w' ⟨rfl, hb⟩)
  go_ret
  exact ⟨rfl, hb⟩
set_option maxHeartbeats 1000000 in
theorem containsFunc48 (s : ByteArray) (w : World) : Calls Try.prog 48 #[.string s, .func (.func 49) #[] #[]] w fun e w' => e = .returned (.bool (decide (0 ≤ badFrom s s.size 0))) ∧ Below w.heap.size w w' := by
  have hI := idxFunc55 s w
  generalize badFrom s s.size 0 = v at hI ⊢
  go_enter Try.func48, Try.ntmps48
  go_wp2_with (go_at_call 55; refine hI.mono ?_; rintro e w' ⟨rfl, hb⟩)
  go_ret
  exact ⟨rfl, hb⟩
end Go.Proofs.Ytmkijdkfogebjaa.Na
