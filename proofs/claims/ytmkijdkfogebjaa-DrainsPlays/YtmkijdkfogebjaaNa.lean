/-
  diff.Name: a name may be of small letters, digits, '.' and '-', 1 to 16 of them. Conditions: none.
-/
import Derived.Test.YtmkijdkfogebjaaPAx0
import Derived.Lib.Bytealg
import Derived.Lib.OthersKept
import Derived.Lib.TrimU
import Derived.Deep.LoopGhost
import Derived.Deep.RegionLaw
set_option linter.unusedVariables false
set_option linter.unusedSimpArgs false
namespace Go.Proofs.Ytmkijdkfogebjaa.Na
open Go.RowKit Go.Lib Go.Proofs.YtmkijdkfogebjaaW.PrintWords Go.Proofs.YtmkijdkfogebjaaW.PrintLast
def signs : ByteArray := ⟨#[97, 98, 99, 100, 101, 102, 103, 104, 105, 106, 107, 108, 109, 110, 111, 112, 113, 114, 115, 116, 117, 118, 119, 120, 121, 122, 48, 49, 50, 51, 52, 53, 54, 55, 56, 57, 46, 45]⟩
/-- A byte that a name may have. -/
def okB (b : Nat) : Bool := decide (97 ≤ b ∧ b ≤ 122 ∨ 48 ≤ b ∧ b ≤ 57 ∨ b = 46 ∨ b = 45)
set_option maxHeartbeats 1000000 in
theorem idx62 (s : ByteArray) (c : Int) (w : World) : Calls Try.prog 62 #[.string s, .int .u8 c] w fun e w' => e = .returned (.int .i64 (indexByte s.data.toList c.toNat.toUInt8)) ∧ w = w' := by
  go_enter Try.func62, Try.ntmps62
  go_wp2
  rw [run_callFunc_extern Try.func63 (by kernel_rfl) (by kernel_rfl) (by kernel_rfl) (e := Extern.BytealgIndexByte.indexByte) (by kernel_rfl), Lib.run_indexByteString]
  simp only [Result.andThen]
  rw [Oper.upon_value]
  go_wp2
  go_ret
  exact ⟨rfl, rfl⟩
set_option maxHeartbeats 1000000 in
theorem idx58 (s : ByteArray) (c : Int) (w : World) : Calls Try.prog 58 #[.string s, .int .u8 c] w fun e w' => e = .returned (.int .i64 (indexByte s.data.toList c.toNat.toUInt8)) ∧ w = w' := by
  go_enter Try.func58, Try.ntmps58
  go_wp2_with (go_at_call 62; refine (idx62 _ _ _).mono ?_; rintro e w' ⟨rfl, rfl⟩)
  go_ret
  exact ⟨rfl, rfl⟩
theorem valid_eq (r : Int) : Utf8.valid r = decide ((0 ≤ r ∧ r < 55296) ∨ (57343 < r ∧ r ≤ 1114111)) := by
  unfold Utf8.valid
  rw [Bool.eq_iff_iff]
  simp
  omega
set_option maxHeartbeats 1000000 in
theorem valid59 (r : Int) (w : World) : Calls Try.prog 59 #[.int .i32 r] w fun e w' => e = .returned (.bool (Utf8.valid r)) ∧ w = w' := by
  by_cases h1 : 0 ≤ r <;> by_cases h2 : r < 55296 <;> by_cases h3 : 57343 < r <;> by_cases h4 : r ≤ 1114111
  all_goals
    go_enter Try.func59, Try.ntmps59
    go_wp2
    go_ret
    refine ⟨?_, rfl⟩
    rw [valid_eq]
    first
      | (rw [decide_eq_true (by omega)]; rfl)
      | (rw [decide_eq_false (by omega)]; rfl)
theorem signs_at : ∀ r, r < 128 → decide (0 ≤ indexByte signs.data.toList ((r : Nat) : Int).toNat.toUInt8) = okB r := by decide +kernel
theorem signs_dec : ∀ pos, pos < 38 → (Utf8.decode signs pos).1 < 128 ∧ (Utf8.decode signs pos).2 = 1 := by decide +kernel
theorem signs_none (c : UInt8) (h : 128 ≤ c.toNat) (k : Nat) : indexByte (signs.data.toList.drop k) c = -1 := by
  have hall : ∀ b ∈ signs.data.toList, b.toNat < 128 := by decide +kernel
  have key : ∀ l : List UInt8, (∀ b ∈ l, b.toNat < 128) → indexByte l c = -1 := by
    intro l
    induction l with
    | nil => intro _; rfl
    | cons b l ih =>
      intro hb
      have h1 := hb b (by simp)
      have hne : (b == c) = false := by
        rw [beq_eq_false_iff_ne]
        rintro rfl
        omega
      rw [indexByte, hne, ih (fun x hx => hb x (by simp [hx]))]
      rfl
  exact key _ (fun b hb => hall b (List.mem_of_mem_drop hb))
set_option maxHeartbeats 2000000 in
set_option maxRecDepth 100000 in
theorem idxRune_err (w : World) : Calls Try.prog 56 #[.string signs, .int .i32 65533] w fun e w' => e = .returned (.int .i64 (-1)) ∧ Below w.heap.size w w' := by
  go_enter Try.func56, Try.ntmps56
  go_wp2
  go_loopg [] 38 (fun gf wx => ∃ pos : Nat, wx.heap[w.heap.size]? = some (.stringIter signs pos) ∧ Below w.heap.size w wx ∧ pos + gf = 38)
  case atStart => exact ⟨0, World.iter_heap w signs 0, (Below.refl _ w).alloc (Nat.le_refl _) _, by omega⟩
  case round =>
    obtain ⟨pos, hit, hbw, hfu⟩ := hrel
    have hsz : signs.size = 38 := by decide +kernel
    by_cases hps : pos < 38
    · obtain ⟨g', rfl⟩ : ∃ g', gk = g' + 1 := ⟨gk - 1, by omega⟩
      have hnx : ∀ ty, (Instr.next (.pointer (some ⟨w.heap.size, 0, none⟩)) true ty).run Try.prog wr = _ := fun ty => Lib.run_next_any_at wr w.heap.size signs pos ty hit (by omega)
      obtain ⟨h1, h2⟩ := signs_dec pos hps
      obtain ⟨R, hR⟩ : ∃ R, (Utf8.decode signs pos).1 = R := ⟨_, rfl⟩
      rw [hR, h2] at hnx
      rw [hR] at h1
      have hRe : (((R : Int) == 65533) = false) := by rw [beq_eq_false_iff_ne]; omega
      have hit2 := Lib.iterAt_heap wr w.heap.size signs pos (pos + 1) hit
      have hbw2 := Lib.below_iterAt hbw (k := w.heap.size) (Nat.le_refl _) signs (pos + 1)
      obtain ⟨W, hWd⟩ : ∃ W, wr.iterAt w.heap.size signs (pos + 1) = W := ⟨_, rfl⟩
      rw [hWd] at hnx hit2 hbw2
      go_wp2
      go_roundg g'
      case measure => omega
      case rel => exact ⟨pos + 1, hit2, hbw2, by omega⟩
    · have hnx : ∀ ty, (Instr.next (.pointer (some ⟨w.heap.size, 0, none⟩)) true ty).run Try.prog wr = _ := fun ty => Lib.run_next_end_at wr w.heap.size signs pos ty hit (by omega)
      go_wp2
      go_ret
      exact ⟨rfl, hbw⟩
theorem idx58_none (s : ByteArray) (c : Int) (hs : ∀ b ∈ s.data.toList, b.toNat < 128) (h0 : 128 ≤ c) (h1 : c ≤ 255) (w : World) : Calls Try.prog 58 #[.string s, .int .u8 c] w fun e w' => e = .returned (.int .i64 (-1)) ∧ w = w' := by
  refine (idx58 s c w).mono ?_
  rintro e w' ⟨rfl, rfl⟩
  refine ⟨?_, rfl⟩
  have hc : 128 ≤ c.toNat.toUInt8.toNat := by
    rw [show c.toNat.toUInt8 = UInt8.ofNat c.toNat from rfl, UInt8.toNat_ofNat']
    omega
  have key : ∀ l : List UInt8, (∀ b ∈ l, b.toNat < 128) → indexByte l c.toNat.toUInt8 = -1 := by
    intro l
    induction l with
    | nil => intro _; rfl
    | cons b l ih =>
      intro hb
      have h1 := hb b (by simp)
      have hne : (b == c.toNat.toUInt8) = false := by
        rw [beq_eq_false_iff_ne]
        rintro rfl
        omega
      rw [indexByte, hne, ih (fun x hx => hb x (by simp [hx]))]
      rfl
  rw [key _ hs]
theorem signs_ext : ∀ n : Nat, n < 4 → ∀ b ∈ (signs.extract (n + 1) 38).data.toList, b.toNat < 128 := by decide +kernel
theorem hb_ (x : Nat) : 128 ≤ (UInt8.ofNat (0x80 + x % 64)).toNat := by
  rw [UInt8.toNat_ofNat']
  omega
theorem enc2 (a : UInt8) (b : UInt8) (h : 128 ≤ b.toNat) : ∃ n, (⟨#[a, b]⟩ : ByteArray).size = n + 1 ∧ 1 ≤ n ∧ n ≤ 3 ∧ ∀ h2 : n < (⟨#[a, b]⟩ : ByteArray).size, 128 ≤ ((⟨#[a, b]⟩ : ByteArray)[n]'h2).toNat := ⟨1, rfl, by omega, by omega, fun _ => h⟩
theorem enc3 (a b c : UInt8) (h : 128 ≤ c.toNat) : ∃ n, (⟨#[a, b, c]⟩ : ByteArray).size = n + 1 ∧ 1 ≤ n ∧ n ≤ 3 ∧ ∀ h2 : n < (⟨#[a, b, c]⟩ : ByteArray).size, 128 ≤ ((⟨#[a, b, c]⟩ : ByteArray)[n]'h2).toNat := ⟨2, rfl, by omega, by omega, fun _ => h⟩
theorem enc4 (a b c d : UInt8) (h : 128 ≤ d.toNat) : ∃ n, (⟨#[a, b, c, d]⟩ : ByteArray).size = n + 1 ∧ 1 ≤ n ∧ n ≤ 3 ∧ ∀ h2 : n < (⟨#[a, b, c, d]⟩ : ByteArray).size, 128 ≤ ((⟨#[a, b, c, d]⟩ : ByteArray)[n]'h2).toNat := ⟨3, rfl, by omega, by omega, fun _ => h⟩
theorem e2 (r : Nat) (h : 128 ≤ r) (hv : Utf8.valid r = true) (h1 : r < 2048) : Utf8.encode r = ⟨#[UInt8.ofNat (0xC0 + r / 64), UInt8.ofNat (0x80 + r % 64)]⟩ := by
  unfold Utf8.encode
  rw [if_pos hv]
  simp only [Int.toNat_natCast]
  rw [if_neg (show ¬ r < 0x80 by omega), if_pos (show r < 0x800 from h1)]
theorem e3 (r : Nat) (h : 128 ≤ r) (hv : Utf8.valid r = true) (h1 : ¬ r < 2048) (h2 : r < 65536) : Utf8.encode r = ⟨#[UInt8.ofNat (0xE0 + r / 4096), UInt8.ofNat (0x80 + r / 64 % 64), UInt8.ofNat (0x80 + r % 64)]⟩ := by
  unfold Utf8.encode
  rw [if_pos hv]
  simp only [Int.toNat_natCast]
  rw [if_neg (show ¬ r < 0x80 by omega), if_neg (show ¬ r < 0x800 from h1), if_pos (show r < 0x10000 from h2)]
theorem e4 (r : Nat) (h : 128 ≤ r) (hv : Utf8.valid r = true) (h1 : ¬ r < 2048) (h2 : ¬ r < 65536) : Utf8.encode r = ⟨#[UInt8.ofNat (0xF0 + r / 262144), UInt8.ofNat (0x80 + r / 4096 % 64), UInt8.ofNat (0x80 + r / 64 % 64), UInt8.ofNat (0x80 + r % 64)]⟩ := by
  unfold Utf8.encode
  rw [if_pos hv]
  simp only [Int.toNat_natCast]
  rw [if_neg (show ¬ r < 0x80 by omega), if_neg (show ¬ r < 0x800 from h1), if_neg (show ¬ r < 0x10000 from h2)]
def LastBig (E : ByteArray) : Prop := ∃ n, E.size = n + 1 ∧ 1 ≤ n ∧ n ≤ 3 ∧ ∀ h2 : n < E.size, 128 ≤ (E[n]'h2).toNat
theorem enc_facts (r : Nat) (h : 128 ≤ r) (hv : Utf8.valid r = true) : LastBig (Utf8.encode r) := by
  by_cases h1 : r < 2048
  · rw [e2 r h hv h1]
    exact enc2 _ _ (hb_ r)
  · by_cases h2 : r < 65536
    · rw [e3 r h hv h1 h2]
      exact enc3 _ _ _ (hb_ r)
    · rw [e4 r h hv h1 h2]
      exact enc4 _ _ _ _ (hb_ r)
attribute [local irreducible] Utf8.encode Utf8.valid
set_option maxHeartbeats 2000000 in
set_option maxRecDepth 100000 in
theorem idxRune_big (r : Nat) (h : 128 ≤ r) (he : r ≠ 65533) (hv : Utf8.valid r = true) (w : World) : Calls Try.prog 56 #[.string signs, .int .i32 r] w fun e w' => e = .returned (.int .i64 (-1)) ∧ Below w.heap.size w w' := by
  obtain ⟨n, hsz, hn1, hn3, hlast⟩ := enc_facts r h hv
  have hre : (((r : Int) == 65533) = false) := by rw [beq_eq_false_iff_ne]; omega
  have hv59 := fun w => valid59 (r : Int) w
  rw [hv] at hv59
  have hss : signs.size = 38 := by decide +kernel
  have hls := hlast (by omega)
  clear hlast
  have hg1 : ¬ (r : Int) < 128 := by omega
  clear hv
  go_enter Try.func56, Try.ntmps56
  go_wp2_with (go_at_call 59; refine (hv59 _).mono ?_; rintro e w' ⟨rfl, rfl⟩)
  go_step3
  go_wp2
  go_loopg [9, 10] 0 (fun gf v9 v10 wr => v9 = .int .i64 (n : Int) ∧ v10 = .int .i64 0 ∧ w = wr)
  case atStart => exact ⟨rfl, rfl, rfl⟩
  case round =>
    obtain ⟨rfl, rfl, rfl⟩ := hrel
    have hb1 : bt signs (n : Int) < 128 := by
      have h2 : ∀ k : Nat, k < 38 → bt signs (k : Int) < 128 := by decide +kernel
      exact h2 n (by omega)
    have hb2 : 128 ≤ bt (Utf8.encode (r : Int)) (n : Int) ∧ bt (Utf8.encode (r : Int)) (n : Int) ≤ 255 := by
      refine ⟨?_, (bt_range _ _).2⟩
      unfold bt
      rw [dif_pos (by simp; omega)]
      simp only [Int.toNat_natCast]
      exact_mod_cast hls
    have B1 := bt_at signs (n : Int)
    have B2 := bt_at (Utf8.encode (r : Int)) (n : Int)
    have B3 : ∀ h, (((signs[n]'h).toNat : Nat) : Int) = bt signs (n : Int) := fun h => by simpa using B1 (by simpa using h)
    have B4 : ∀ h, ((((Utf8.encode (r : Int))[n]'h).toNat : Nat) : Int) = bt (Utf8.encode (r : Int)) (n : Int) := fun h => by simpa using B2 (by simpa using h)
    have q3 : ((n : Int) < (n : Int) + 1) = True := eq_true (by omega)
    have q4 : ((n : Int) < 38) = True := eq_true (by omega)
    have p1 : (0 ≤ (n : Int)) = True := eq_true (by omega)
    have q1 : ((n : Int) < (signs.size : Int)) = True := eq_true (by omega)
    have q2 : ((n : Int) < ((Utf8.encode (r : Int)).size : Int)) = True := eq_true (by omega)
    have hne : (bt signs (n : Int) == bt (Utf8.encode (r : Int)) (n : Int)) = false := by rw [beq_eq_false_iff_ne]; omega
    have hne2 : (bt signs (n : Int) != bt (Utf8.encode (r : Int)) (n : Int)) = true := by rw [bne_iff_ne]; omega
    clear hls
    go_wp2
    go_step3
    go_wp2_with (go_at_call 58; refine (idx58 _ _ _).mono ?_; rintro e w' ⟨rfl, rfl⟩)
    go_region
    all_goals go_wp2_with (go_at_call 58; refine (idx58 _ _ _).mono ?_; rintro e w' ⟨rfl, rfl⟩)
    have q5 : ((n : Int) + 1 ≤ 38) = True := eq_true (by omega)
    have q6 : (0 ≤ (n : Int) + 1) = True := eq_true (by omega)
    have hwr : IntKind.i64.wrap ((n : Int) + 1) = (n : Int) + 1 := by simp [IntKind.wrap, IntKind.bits, IntKind.signed]; omega
    have hI := fun w => idx58_none (signs.extract (n + 1) 38) (bt (Utf8.encode (r : Int)) (n : Int)) (signs_ext n (by omega)) hb2.1 hb2.2 w
    go_region_law (go_simp; go_at_call 58; refine (hI _).mono ?_; rintro e w' ⟨rfl, rfl⟩)
    all_goals go_wp2
    all_goals repeat rw [Exit.noGoto_ret]
    all_goals simp only [Exit.then, Exit.inBlock, Exit.noGoto_ret]
    all_goals change bodyPost Try.prog Try.f56 _ Exit.ret _ _
    all_goals go_ret
    all_goals exact ⟨rfl, by repeat (first | exact Below.refl _ _ | apply pw_below_drewN | apply below_drew1)⟩
end Go.Proofs.Ytmkijdkfogebjaa.Na
