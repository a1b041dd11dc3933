/-
  The fleet: contracts of its functions, proved by walking them, and plain facts, several texts in one (Na, Nb, Nc, Hid, Obj, Da, Db, Dc, Dd, De). Conditions: none.
-/
import Derived.Test.YtmlmiocomlehgaaPAx0
import Derived.Lib.Bytealg
import Derived.Lib.OthersKept
import Derived.Lib.TrimU
import Derived.Deep.LoopGhost
import Derived.Deep.RegionLaw
import Derived.Test.YtmlmiocomlehgaaWMore
import Derived.Test.YtmlmiocomlehgaaWKept
import Derived.Conc.LoneCalls
import Derived.Test.YtmlmiocomlehgaaPFx0
import Derived.Test.YtmlmiocomlehgaaPFx1
import Derived.Lib.SliceRun
set_option linter.unusedVariables false
set_option linter.unusedSimpArgs false
namespace Go.Proofs.Ytmlmiocomlehgaa.Na
open Go.RowKit Go.Lib Go.Proofs.YtmlmiocomlehgaaW.PrintWords Go.Proofs.YtmlmiocomlehgaaW.PrintLast
def signs : ByteArray := ⟨#[97, 98, 99, 100, 101, 102, 103, 104, 105, 106, 107, 108, 109, 110, 111, 112, 113, 114, 115, 116, 117, 118, 119, 120, 121, 122, 48, 49, 50, 51, 52, 53, 54, 55, 56, 57, 46, 45]⟩
/-- A byte that a name may have. -/
def okB (b : Nat) : Bool := decide (97 ≤ b ∧ b ≤ 122 ∨ 48 ≤ b ∧ b ≤ 57 ∨ b = 46 ∨ b = 45)
set_option maxHeartbeats 1000000 in
theorem idx62 (s : ByteArray) (c : Int) (w : World) : Calls Try.prog 91 #[.string s, .int .u8 c] w fun e w' => e = .returned (.int .i64 (indexByte s.data.toList c.toNat.toUInt8)) ∧ w = w' := by
  go_enter Try.func91, Try.ntmps91
  go_wp2
  rw [run_callFunc_extern Try.func92 (by kernel_rfl) (by kernel_rfl) (by kernel_rfl) (e := Extern.BytealgIndexByte.indexByte) (by kernel_rfl), Lib.run_indexByteString]
  simp only [Result.andThen]
  rw [Oper.upon_value]
  go_wp2
  go_ret
  exact ⟨rfl, rfl⟩
set_option maxHeartbeats 1000000 in
theorem idx58 (s : ByteArray) (c : Int) (w : World) : Calls Try.prog 87 #[.string s, .int .u8 c] w fun e w' => e = .returned (.int .i64 (indexByte s.data.toList c.toNat.toUInt8)) ∧ w = w' := by
  go_enter Try.func87, Try.ntmps87
  go_wp2_with (go_at_call 91; refine (idx62 _ _ _).mono ?_; rintro e w' ⟨rfl, rfl⟩)
  go_ret
  exact ⟨rfl, rfl⟩
theorem valid_eq (r : Int) : Utf8.valid r = decide ((0 ≤ r ∧ r < 55296) ∨ (57343 < r ∧ r ≤ 1114111)) := by
  unfold Utf8.valid
  rw [Bool.eq_iff_iff]
  simp
  omega
set_option maxHeartbeats 1000000 in
theorem valid59 (r : Int) (w : World) : Calls Try.prog 88 #[.int .i32 r] w fun e w' => e = .returned (.bool (Utf8.valid r)) ∧ w = w' := by
  by_cases h1 : 0 ≤ r <;> by_cases h2 : r < 55296 <;> by_cases h3 : 57343 < r <;> by_cases h4 : r ≤ 1114111
  all_goals
    go_enter Try.func88, Try.ntmps88
    go_wp2
    go_ret
    refine ⟨?_, rfl⟩
    rw [valid_eq]
    first
      | (rw [decide_eq_true (by omega)]; rfl)
      | (rw [decide_eq_false (by omega)]; rfl)
theorem signs_at : ∀ r, r < 128 → decide (0 ≤ indexByte signs.data.toList ((r : Nat) : Int).toNat.toUInt8) = okB r := by decide +kernel
theorem signs_dec : ∀ pos, pos < 38 → (Utf8.decode signs pos).1 < 128 ∧ (Utf8.decode signs pos).2 = 1 := by decide +kernel
theorem signs_none (c : UInt8) (h : 128 ≤ c.toNat) (k : Nat) : indexByte (signs.data.toList.drop k) c = -1 := by
  have hall : ∀ b ∈ signs.data.toList, b.toNat < 128 := by decide +kernel
  have key : ∀ l : List UInt8, (∀ b ∈ l, b.toNat < 128) → indexByte l c = -1 := by
    intro l
    induction l with
    | nil => intro _; rfl
    | cons b l ih =>
      intro hb
      have h1 := hb b (by simp)
      have hne : (b == c) = false := by
        rw [beq_eq_false_iff_ne]
        rintro rfl
        omega
      rw [indexByte, hne, ih (fun x hx => hb x (by simp [hx]))]
      rfl
  exact key _ (fun b hb => hall b (List.mem_of_mem_drop hb))
set_option maxHeartbeats 2000000 in
set_option maxRecDepth 100000 in
theorem idxRune_err (w : World) : Calls Try.prog 85 #[.string signs, .int .i32 65533] w fun e w' => e = .returned (.int .i64 (-1)) ∧ Below w.heap.size w w' := by
  go_enter Try.func85, Try.ntmps85
  go_wp2
  go_loopg [] 38 (fun gf wx => ∃ pos : Nat, wx.heap[w.heap.size]? = some (.stringIter signs pos) ∧ Below w.heap.size w wx ∧ pos + gf = 38)
  case atStart => exact ⟨0, World.iter_heap w signs 0, (Below.refl _ w).alloc (Nat.le_refl _) _, by omega⟩
  case round =>
    obtain ⟨pos, hit, hbw, hfu⟩ := hrel
    have hsz : signs.size = 38 := by decide +kernel
    by_cases hps : pos < 38
    · obtain ⟨g', rfl⟩ : ∃ g', gk = g' + 1 := ⟨gk - 1, by omega⟩
      have hnx : ∀ ty, (Instr.next (.pointer (some ⟨w.heap.size, 0, none⟩)) true ty).run Try.prog wr = _ := fun ty => Lib.run_next_any_at wr w.heap.size signs pos ty hit (by omega)
      obtain ⟨h1, h2⟩ := signs_dec pos hps
      obtain ⟨R, hR⟩ : ∃ R, (Utf8.decode signs pos).1 = R := ⟨_, rfl⟩
      rw [hR, h2] at hnx
      rw [hR] at h1
      have hRe : (((R : Int) == 65533) = false) := by rw [beq_eq_false_iff_ne]; omega
      have hit2 := Lib.iterAt_heap wr w.heap.size signs pos (pos + 1) hit
      have hbw2 := Lib.below_iterAt hbw (k := w.heap.size) (Nat.le_refl _) signs (pos + 1)
      obtain ⟨W, hWd⟩ : ∃ W, wr.iterAt w.heap.size signs (pos + 1) = W := ⟨_, rfl⟩
      rw [hWd] at hnx hit2 hbw2
      go_wp2
      go_roundg g'
      case measure => omega
      case rel => exact ⟨pos + 1, hit2, hbw2, by omega⟩
    · have hnx : ∀ ty, (Instr.next (.pointer (some ⟨w.heap.size, 0, none⟩)) true ty).run Try.prog wr = _ := fun ty => Lib.run_next_end_at wr w.heap.size signs pos ty hit (by omega)
      go_wp2
      go_ret
      exact ⟨rfl, hbw⟩
theorem idx58_none (s : ByteArray) (c : Int) (hs : ∀ b ∈ s.data.toList, b.toNat < 128) (h0 : 128 ≤ c) (h1 : c ≤ 255) (w : World) : Calls Try.prog 87 #[.string s, .int .u8 c] w fun e w' => e = .returned (.int .i64 (-1)) ∧ w = w' := by
  refine (idx58 s c w).mono ?_
  rintro e w' ⟨rfl, rfl⟩
  refine ⟨?_, rfl⟩
  have hc : 128 ≤ c.toNat.toUInt8.toNat := by
    rw [show c.toNat.toUInt8 = UInt8.ofNat c.toNat from rfl, UInt8.toNat_ofNat']
    omega
  have key : ∀ l : List UInt8, (∀ b ∈ l, b.toNat < 128) → indexByte l c.toNat.toUInt8 = -1 := by
    intro l
    induction l with
    | nil => intro _; rfl
    | cons b l ih =>
      intro hb
      have h1 := hb b (by simp)
      have hne : (b == c.toNat.toUInt8) = false := by
        rw [beq_eq_false_iff_ne]
        rintro rfl
        omega
      rw [indexByte, hne, ih (fun x hx => hb x (by simp [hx]))]
      rfl
  rw [key _ hs]
theorem signs_ext : ∀ n : Nat, n < 4 → ∀ b ∈ (signs.extract (n + 1) 38).data.toList, b.toNat < 128 := by decide +kernel
theorem hb_ (x : Nat) : 128 ≤ (UInt8.ofNat (0x80 + x % 64)).toNat := by
  rw [UInt8.toNat_ofNat']
  omega
theorem enc2 (a : UInt8) (b : UInt8) (h : 128 ≤ b.toNat) : ∃ n, (⟨#[a, b]⟩ : ByteArray).size = n + 1 ∧ 1 ≤ n ∧ n ≤ 3 ∧ ∀ h2 : n < (⟨#[a, b]⟩ : ByteArray).size, 128 ≤ ((⟨#[a, b]⟩ : ByteArray)[n]'h2).toNat := ⟨1, rfl, by omega, by omega, fun _ => h⟩
theorem enc3 (a b c : UInt8) (h : 128 ≤ c.toNat) : ∃ n, (⟨#[a, b, c]⟩ : ByteArray).size = n + 1 ∧ 1 ≤ n ∧ n ≤ 3 ∧ ∀ h2 : n < (⟨#[a, b, c]⟩ : ByteArray).size, 128 ≤ ((⟨#[a, b, c]⟩ : ByteArray)[n]'h2).toNat := ⟨2, rfl, by omega, by omega, fun _ => h⟩
theorem enc4 (a b c d : UInt8) (h : 128 ≤ d.toNat) : ∃ n, (⟨#[a, b, c, d]⟩ : ByteArray).size = n + 1 ∧ 1 ≤ n ∧ n ≤ 3 ∧ ∀ h2 : n < (⟨#[a, b, c, d]⟩ : ByteArray).size, 128 ≤ ((⟨#[a, b, c, d]⟩ : ByteArray)[n]'h2).toNat := ⟨3, rfl, by omega, by omega, fun _ => h⟩
theorem e2 (r : Nat) (h : 128 ≤ r) (hv : Utf8.valid r = true) (h1 : r < 2048) : Utf8.encode r = ⟨#[UInt8.ofNat (0xC0 + r / 64), UInt8.ofNat (0x80 + r % 64)]⟩ := by
  unfold Utf8.encode
  rw [if_pos hv]
  simp only [Int.toNat_natCast]
  rw [if_neg (show ¬ r < 0x80 by omega), if_pos (show r < 0x800 from h1)]
theorem e3 (r : Nat) (h : 128 ≤ r) (hv : Utf8.valid r = true) (h1 : ¬ r < 2048) (h2 : r < 65536) : Utf8.encode r = ⟨#[UInt8.ofNat (0xE0 + r / 4096), UInt8.ofNat (0x80 + r / 64 % 64), UInt8.ofNat (0x80 + r % 64)]⟩ := by
  unfold Utf8.encode
  rw [if_pos hv]
  simp only [Int.toNat_natCast]
  rw [if_neg (show ¬ r < 0x80 by omega), if_neg (show ¬ r < 0x800 from h1), if_pos (show r < 0x10000 from h2)]
theorem e4 (r : Nat) (h : 128 ≤ r) (hv : Utf8.valid r = true) (h1 : ¬ r < 2048) (h2 : ¬ r < 65536) : Utf8.encode r = ⟨#[UInt8.ofNat (0xF0 + r / 262144), UInt8.ofNat (0x80 + r / 4096 % 64), UInt8.ofNat (0x80 + r / 64 % 64), UInt8.ofNat (0x80 + r % 64)]⟩ := by
  unfold Utf8.encode
  rw [if_pos hv]
  simp only [Int.toNat_natCast]
  rw [if_neg (show ¬ r < 0x80 by omega), if_neg (show ¬ r < 0x800 from h1), if_neg (show ¬ r < 0x10000 from h2)]
def LastBig (E : ByteArray) : Prop := ∃ n, E.size = n + 1 ∧ 1 ≤ n ∧ n ≤ 3 ∧ ∀ h2 : n < E.size, 128 ≤ (E[n]'h2).toNat
theorem enc_facts (r : Nat) (h : 128 ≤ r) (hv : Utf8.valid r = true) : LastBig (Utf8.encode r) := by
  by_cases h1 : r < 2048
  · rw [e2 r h hv h1]
    exact enc2 _ _ (hb_ r)
  · by_cases h2 : r < 65536
    · rw [e3 r h hv h1 h2]
      exact enc3 _ _ _ (hb_ r)
    · rw [e4 r h hv h1 h2]
      exact enc4 _ _ _ _ (hb_ r)
attribute [local irreducible] Utf8.encode Utf8.valid
set_option maxHeartbeats 2000000 in
set_option maxRecDepth 100000 in
theorem idxRune_big (r : Nat) (h : 128 ≤ r) (he : r ≠ 65533) (hv : Utf8.valid r = true) (w : World) : Calls Try.prog 85 #[.string signs, .int .i32 r] w fun e w' => e = .returned (.int .i64 (-1)) ∧ Below w.heap.size w w' := by
  obtain ⟨n, hsz, hn1, hn3, hlast⟩ := enc_facts r h hv
  have hre : (((r : Int) == 65533) = false) := by rw [beq_eq_false_iff_ne]; omega
  have hv59 := fun w => valid59 (r : Int) w
  rw [hv] at hv59
  have hss : signs.size = 38 := by decide +kernel
  have hls := hlast (by omega)
  clear hlast
  have hg1 : ¬ (r : Int) < 128 := by omega
  clear hv
  go_enter Try.func85, Try.ntmps85
  go_wp2_with (go_at_call 88; refine (hv59 _).mono ?_; rintro e w' ⟨rfl, rfl⟩)
  go_step3
  go_wp2
  go_loopg [9, 10] 0 (fun gf v9 v10 wr => v9 = .int .i64 (n : Int) ∧ v10 = .int .i64 0 ∧ w = wr)
  case atStart => exact ⟨rfl, rfl, rfl⟩
  case round =>
    obtain ⟨rfl, rfl, rfl⟩ := hrel
    have hb1 : bt signs (n : Int) < 128 := by
      have h2 : ∀ k : Nat, k < 38 → bt signs (k : Int) < 128 := by decide +kernel
      exact h2 n (by omega)
    have hb2 : 128 ≤ bt (Utf8.encode (r : Int)) (n : Int) ∧ bt (Utf8.encode (r : Int)) (n : Int) ≤ 255 := by
      refine ⟨?_, (bt_range _ _).2⟩
      unfold bt
      rw [dif_pos (by simp; omega)]
      simp only [Int.toNat_natCast]
      exact_mod_cast hls
    have B1 := bt_at signs (n : Int)
    have B2 := bt_at (Utf8.encode (r : Int)) (n : Int)
    have B3 : ∀ h, (((signs[n]'h).toNat : Nat) : Int) = bt signs (n : Int) := fun h => by simpa using B1 (by simpa using h)
    have B4 : ∀ h, ((((Utf8.encode (r : Int))[n]'h).toNat : Nat) : Int) = bt (Utf8.encode (r : Int)) (n : Int) := fun h => by simpa using B2 (by simpa using h)
    have q3 : ((n : Int) < (n : Int) + 1) = True := eq_true (by omega)
    have q4 : ((n : Int) < 38) = True := eq_true (by omega)
    have p1 : (0 ≤ (n : Int)) = True := eq_true (by omega)
    have q1 : ((n : Int) < (signs.size : Int)) = True := eq_true (by omega)
    have q2 : ((n : Int) < ((Utf8.encode (r : Int)).size : Int)) = True := eq_true (by omega)
    have hne : (bt signs (n : Int) == bt (Utf8.encode (r : Int)) (n : Int)) = false := by rw [beq_eq_false_iff_ne]; omega
    have hne2 : (bt signs (n : Int) != bt (Utf8.encode (r : Int)) (n : Int)) = true := by rw [bne_iff_ne]; omega
    clear hls
    go_wp2
    go_step3
    go_wp2_with (go_at_call 87; refine (idx58 _ _ _).mono ?_; rintro e w' ⟨rfl, rfl⟩)
    go_region
    all_goals go_wp2_with (go_at_call 87; refine (idx58 _ _ _).mono ?_; rintro e w' ⟨rfl, rfl⟩)
    have q5 : ((n : Int) + 1 ≤ 38) = True := eq_true (by omega)
    have q6 : (0 ≤ (n : Int) + 1) = True := eq_true (by omega)
    have hwr : IntKind.i64.wrap ((n : Int) + 1) = (n : Int) + 1 := by simp [IntKind.wrap, IntKind.bits, IntKind.signed]; omega
    have hI := fun w => idx58_none (signs.extract (n + 1) 38) (bt (Utf8.encode (r : Int)) (n : Int)) (signs_ext n (by omega)) hb2.1 hb2.2 w
    go_region_law (go_simp; go_at_call 87; refine (hI _).mono ?_; rintro e w' ⟨rfl, rfl⟩)
    all_goals go_wp2
    all_goals repeat rw [Exit.noGoto_ret]
    all_goals simp only [Exit.then, Exit.inBlock, Exit.noGoto_ret]
    all_goals change bodyPost Try.prog Try.f85 _ Exit.ret _ _
    all_goals go_ret
    all_goals exact ⟨rfl, by repeat (first | exact Below.refl _ _ | apply pw_below_drewN | apply below_drew1)⟩
end Go.Proofs.Ytmlmiocomlehgaa.Na
namespace Go.Proofs.Ytmlmiocomlehgaa.Na
open Go.RowKit Go.Lib Go.Proofs.YtmlmiocomlehgaaW.PrintWords Go.Proofs.YtmlmiocomlehgaaW.PrintLast
attribute [local irreducible] Utf8.encode Utf8.valid
set_option maxHeartbeats 2000000 in
set_option maxRecDepth 100000 in
theorem idxRune_asc (r : Nat) (h : r < 128) (w : World) : Calls Try.prog 85 #[.string signs, .int .i32 r] w fun e w' => e = .returned (.int .i64 (indexByte signs.data.toList ((r : Nat) : Int).toNat.toUInt8)) ∧ Below w.heap.size w w' := by
  have h0 : (0 ≤ (r : Int)) = True := eq_true (by omega)
  have h1 : ((r : Int) < 128) = True := eq_true (by omega)
  have hw : IntKind.u8.wrap (r : Int) = (r : Int) := by simp [IntKind.wrap, IntKind.bits, IntKind.signed]; omega
  have hI := fun w => idx58 signs (r : Int) w
  generalize indexByte signs.data.toList ((r : Nat) : Int).toNat.toUInt8 = I at hI ⊢
  go_enter Try.func85, Try.ntmps85
  go_wp2_with (go_at_call 87; refine (hI _).mono ?_; rintro e w' ⟨rfl, rfl⟩)
  go_ret
  exact ⟨rfl, by repeat (first | exact Below.refl _ _ | apply pw_below_drewN | apply below_drew1)⟩
set_option maxHeartbeats 2000000 in
set_option maxRecDepth 100000 in
theorem idxRune_inv (r : Nat) (h : 128 ≤ r) (he : r ≠ 65533) (hv : Utf8.valid r = false) (w : World) : Calls Try.prog 85 #[.string signs, .int .i32 r] w fun e w' => e = .returned (.int .i64 (-1)) ∧ Below w.heap.size w w' := by
  have hre : (((r : Int) == 65533) = false) := by rw [beq_eq_false_iff_ne]; omega
  have hv59 := fun w => valid59 (r : Int) w
  rw [hv] at hv59
  have hg1 : ¬ (r : Int) < 128 := by omega
  clear hv
  go_enter Try.func85, Try.ntmps85
  go_wp2_with (go_at_call 88; refine (hv59 _).mono ?_; rintro e w' ⟨rfl, rfl⟩)
  go_ret
  exact ⟨rfl, by repeat (first | exact Below.refl _ _ | apply pw_below_drewN | apply below_drew1)⟩
/-- strings.IndexRune over the signs: is it one of them? -/
theorem idxRune (r : Nat) (w : World) : ∃ v : Int, decide (0 ≤ v) = okB r ∧ Calls Try.prog 85 #[.string signs, .int .i32 r] w fun e w' => e = .returned (.int .i64 v) ∧ Below w.heap.size w w' := by
  by_cases h : r < 128
  · exact ⟨_, signs_at r h, idxRune_asc r h w⟩
  · have hno : decide (0 ≤ (-1 : Int)) = okB r := by
      unfold okB
      rw [decide_eq_false (by omega)]
      exact (decide_eq_false (by omega)).symm
    refine ⟨-1, hno, ?_⟩
    by_cases he : r = 65533
    · subst he
      exact idxRune_err w
    · cases hv : Utf8.valid r with
      | true => exact idxRune_big r (by omega) he hv w
      | false => exact idxRune_inv r (by omega) he hv w
set_option maxHeartbeats 1000000 in
theorem contains50 (r : Nat) (w : World) : Calls Try.prog 75 #[.string signs, .int .i32 r] w fun e w' => e = .returned (.bool (okB r)) ∧ Below w.heap.size w w' := by
  obtain ⟨v, hv, hI⟩ := idxRune r w
  go_enter Try.func75, Try.ntmps75
  go_wp2_with (go_at_call 85; refine hI.mono ?_; rintro e w' ⟨rfl, hb⟩)
  go_ret
  exact ⟨rfl, hb⟩
set_option maxHeartbeats 1000000 in
theorem bad49 (r : Nat) (w : World) : Calls Try.prog 74 #[.int .i32 r] w fun e w' => e = .returned (.bool (!okB r)) ∧ Below w.heap.size w w' := by
  have hI := contains50 r w
  generalize okB r = b at hI ⊢
  go_enter Try.func74, Try.ntmps74
  go_wp2_with (go_at_call 75; refine hI.mono ?_; rintro e w' ⟨rfl, hb⟩)
  go_ret
  exact ⟨rfl, hb⟩
/-- Where the first rune is that no name may have; -1. -/
def badFrom (s : ByteArray) : Nat → Nat → Int
  | 0, _ => -1
  | f + 1, pos => if pos < s.size then (if okB (Utf8.decode s pos).1 then badFrom s f (pos + (Utf8.decode s pos).2) else (pos : Int)) else -1
theorem badFrom_end (s : ByteArray) (f pos : Nat) (h : ¬ pos < s.size) : badFrom s f pos = -1 := by cases f <;> simp [badFrom, h]
set_option maxHeartbeats 2000000 in
set_option maxRecDepth 100000 in
theorem idxFunc57 (s : ByteArray) (w : World) : Calls Try.prog 86 #[.string s, .func (.func 74) #[] #[], .bool true] w fun e w' => e = .returned (.int .i64 (badFrom s s.size 0)) ∧ Below w.heap.size w w' := by
  go_enter Try.func86, Try.ntmps86
  go_wp2
  go_loopg [] s.size (fun gf wx => ∃ pos : Nat, wx.heap[w.heap.size]? = some (.stringIter s pos) ∧ Below w.heap.size w wx ∧ badFrom s gf pos = badFrom s s.size 0 ∧ s.size ≤ pos + gf)
  case atStart => exact ⟨0, World.iter_heap w s 0, (Below.refl _ w).alloc (Nat.le_refl _) _, rfl, by omega⟩
  case round =>
    obtain ⟨pos, hit, hbw, hleft, hfu⟩ := hrel
    by_cases hps : pos < s.size
    · obtain ⟨g', rfl⟩ : ∃ g', gk = g' + 1 := ⟨gk - 1, by omega⟩
      have hnx : ∀ ty, (Instr.next (.pointer (some ⟨w.heap.size, 0, none⟩)) true ty).run Try.prog wr = _ := fun ty => Lib.run_next_any_at wr w.heap.size s pos ty hit hps
      have hwd := Lib.width_pos s pos
      obtain ⟨R, hR⟩ : ∃ R, (Utf8.decode s pos).1 = R := ⟨_, rfl⟩
      obtain ⟨K, hK⟩ : ∃ K, (Utf8.decode s pos).2 = K := ⟨_, rfl⟩
      simp only [badFrom, hps, if_true, hR, hK] at hleft
      rw [hR, hK] at hnx
      rw [hK] at hwd
      have hit2 := Lib.iterAt_heap wr w.heap.size s pos (pos + K) hit
      have hbw2 := Lib.below_iterAt hbw (k := w.heap.size) (Nat.le_refl _) s (pos + K)
      obtain ⟨W, hWd⟩ : ∃ W, wr.iterAt w.heap.size s (pos + K) = W := ⟨_, rfl⟩
      rw [hWd] at hnx hit2 hbw2
      have cS := bad49 R W
      cases hsp : okB R <;> rw [hsp] at cS <;> simp only [hsp, if_true, Bool.false_eq_true, if_false] at hleft
      · go_wp2_with (go_at_call 74; refine cS.mono ?_; rintro e W' ⟨rfl, hb⟩)
        go_ret
        exact ⟨by rw [← hleft] <;> rfl, hbw2.trans (hb.mono hbw2.size)⟩
      · go_wp2_with (go_at_call 74; refine cS.mono ?_; rintro e W' ⟨rfl, hb⟩)
        go_roundg g'
        case measure => omega
        case rel => exact ⟨pos + K, (hb.block w.heap.size (blk_lt hit2)).trans hit2, hbw2.trans (hb.mono hbw2.size), hleft, by omega⟩
    · have hnx : ∀ ty, (Instr.next (.pointer (some ⟨w.heap.size, 0, none⟩)) true ty).run Try.prog wr = _ := fun ty => Lib.run_next_end_at wr w.heap.size s pos ty hit hps
      rw [badFrom_end s gk pos hps] at hleft
      go_wp2
      go_ret
      exact ⟨by rw [← hleft] <;> rfl, hbw⟩
set_option maxHeartbeats 1000000 in
theorem idxFunc55 (s : ByteArray) (w : World) : Calls Try.prog 84 #[.string s, .func (.func 74) #[] #[]] w fun e w' => e = .returned (.int .i64 (badFrom s s.size 0)) ∧ Below w.heap.size w w' := by
  have hI := idxFunc57 s w
  generalize badFrom s s.size 0 = v at hI ⊢
  go_enter Try.func84, Try.ntmps84
  go_wp2_with (go_at_call 86; refine hI.mono ?_; rintro e w' ⟨rfl, hb⟩)
  go_ret
  exact ⟨rfl, hb⟩
set_option maxHeartbeats 1000000 in
theorem containsFunc48 (s : ByteArray) (w : World) : Calls Try.prog 73 #[.string s, .func (.func 74) #[] #[]] w fun e w' => e = .returned (.bool (decide (0 ≤ badFrom s s.size 0))) ∧ Below w.heap.size w w' := by
  have hI := idxFunc55 s w
  generalize badFrom s s.size 0 = v at hI ⊢
  go_enter Try.func73, Try.ntmps73
  go_wp2_with (go_at_call 84; refine hI.mono ?_; rintro e w' ⟨rfl, hb⟩)
  go_ret
  exact ⟨rfl, hb⟩
end Go.Proofs.Ytmlmiocomlehgaa.Na
namespace Go.Proofs.Ytmlmiocomlehgaa.Na
open Go.RowKit Go.Lib Go.Proofs.YtmlmiocomlehgaaW.PrintWords Go.Proofs.YtmlmiocomlehgaaW.PrintLast
def byteAt (s : ByteArray) (i : Nat) : Nat := (s.get! i).toNat
theorem dec_ascii (s : ByteArray) (pos : Nat) (h : byteAt s pos < 128) : Utf8.decode s pos = (byteAt s pos, 1) := by
  unfold byteAt at h ⊢
  unfold Utf8.decode
  simp only [Nat.add_zero]
  rw [if_pos h]
theorem dec_big (s : ByteArray) (pos : Nat) (h : ¬ byteAt s pos < 128) : 128 ≤ (Utf8.decode s pos).1 := by
  unfold byteAt at h
  unfold Utf8.decode
  simp only [Nat.add_zero]
  rw [if_neg h]
  split
  · split
    · assumption
    · decide
  · split
    · split
      · rename_i h2
        simp only [Bool.and_eq_true, decide_eq_true_eq] at h2
        show 128 ≤ _
        have := h2.1
        simp only at this ⊢
        omega
      · decide
    · split
      · split
        · rename_i h2
          simp only [Bool.and_eq_true, decide_eq_true_eq] at h2
          have := h2.1
          simp only at this ⊢
          omega
        · decide
      · decide
theorem okB_small (b : Nat) (h : okB b = true) : b < 128 := by
  unfold okB at h
  have := of_decide_eq_true h
  omega
theorem okB_dec (s : ByteArray) (pos : Nat) : okB (Utf8.decode s pos).1 = okB (byteAt s pos) := by
  by_cases h : byteAt s pos < 128
  · rw [dec_ascii s pos h]
  · have h1 := dec_big s pos h
    have e1 : okB (Utf8.decode s pos).1 = false := by
      cases e : okB (Utf8.decode s pos).1 with
      | false => rfl
      | true =>
        have := okB_small _ e
        omega
    have e2 : okB (byteAt s pos) = false := by
      cases e : okB (byteAt s pos) with
      | false => rfl
      | true =>
        have := okB_small _ e
        omega
    rw [e1, e2]
theorem badFrom_iff (s : ByteArray) : ∀ (f pos : Nat), s.size ≤ pos + f → (badFrom s f pos < 0 ↔ ∀ i, pos ≤ i → i < s.size → okB (byteAt s i) = true) := by
  intro f
  induction f with
  | zero =>
    intro pos h
    constructor
    · intro _ i h1 h2
      omega
    · intro _
      simp [badFrom]
  | succ f ih =>
    intro pos h
    rw [badFrom]
    by_cases hp : pos < s.size
    · rw [if_pos hp, okB_dec]
      by_cases hb : okB (byteAt s pos) = true
      · rw [if_pos hb, dec_ascii s pos (okB_small _ hb), ih (pos + 1) (by omega)]
        constructor
        · intro h1 i h2 h3
          rcases Nat.lt_or_ge pos i with h4 | h4
          · exact h1 i h4 h3
          · rw [show i = pos by omega]
            exact hb
        · intro h1 i h2 h3
          exact h1 i (by omega) h3
      · rw [if_neg hb]
        constructor
        · intro h1
          omega
        · intro h1
          exact absurd (h1 pos (Nat.le_refl _) hp) hb
    · rw [if_neg hp]
      constructor
      · intro _ i h1 h2
        omega
      · intro _
        decide
/-- A name that may be. -/
def nameB (s : ByteArray) : Bool := decide (1 ≤ s.size) && decide (s.size ≤ 16) && decide (∀ i, i < s.size → okB (byteAt s i) = true)
theorem nameB_bad (s : ByteArray) : decide (0 ≤ badFrom s s.size 0) = !decide (∀ i, i < s.size → okB (byteAt s i) = true) := by
  have h := badFrom_iff s s.size 0 (by omega)
  by_cases hb : ∀ i, i < s.size → okB (byteAt s i) = true
  · have h1 := h.mpr (fun i _ hi => hb i hi)
    rw [decide_eq_true hb, decide_eq_false (by omega)]
    rfl
  · have h1 : ¬ badFrom s s.size 0 < 0 := fun h2 => hb (fun i hi => h.mp h2 i (Nat.zero_le _) hi)
    rw [decide_eq_false hb, decide_eq_true (by omega)]
    rfl
set_option maxHeartbeats 1000000 in
theorem name_raw (s : ByteArray) (w : World) : Calls Try.prog 54 #[.string s] w fun e w' => e = .returned (.bool (nameB s)) ∧ Below w.heap.size w w' := by
  have hC := fun w => containsFunc48 s w
  rw [nameB_bad] at hC
  unfold nameB
  generalize decide (∀ i, i < s.size → okB (byteAt s i) = true) = b at hC ⊢
  by_cases h1 : s.size = 0
  · have he : s = ⟨#[]⟩ := by
      cases s with
      | mk d =>
        congr 1
        exact Array.eq_empty_of_size_eq_zero h1
    subst he
    go_enter Try.func54, Try.ntmps54
    go_wp2
    go_ret
    exact ⟨rfl, by repeat (first | exact Below.refl _ _ | apply pw_below_drewN | apply below_drew1)⟩
  · have hne : s.toList ≠ [] := by
      rw [Lib.toList_data]
      intro e
      apply h1
      have : s.data.toList.length = 0 := by rw [e]; rfl
      simpa using this
    have hem : s.toList.isEmpty = false := by
      cases h : s.toList with
      | nil => exact absurd h hne
      | cons x l => rfl
    have h3 : decide (1 ≤ s.size) = true := decide_eq_true (by omega)
    by_cases h2 : (s.size : Int) ≤ 16
    · have h4 : decide (s.size ≤ 16) = true := decide_eq_true (by omega)
      rw [h3, h4]
      go_enter Try.func54, Try.ntmps54
      go_wp2_with (go_at_call 73; refine (hC _).mono ?_; rintro e w' ⟨rfl, hb⟩)
      go_ret
      exact ⟨by simp [hem], hb⟩
    · have h4 : decide (s.size ≤ 16) = false := decide_eq_false (by omega)
      have h5 : decide ((s.size : Int) ≤ 16) = false := decide_eq_false h2
      rw [h3, h4]
      go_enter Try.func54, Try.ntmps54
      go_wp2
      go_ret
      exact ⟨by simp [hem], by repeat (first | exact Below.refl _ _ | apply pw_below_drewN | apply below_drew1)⟩
def diff_Name.f (s : ByteArray) : Option Bool := some (nameB s)
theorem diff_Name.calls (a0 : ByteArray) (r : Bool) (w : World) (h : diff_Name.f a0 = some r) : Calls Try.prog 54 #[.string a0] w fun e w' => e = .returned (.bool r) ∧ Below w.heap.size w w' := by
  obtain rfl := Option.some.inj h
  exact name_raw a0 w
end Go.Proofs.Ytmlmiocomlehgaa.Na
namespace Go.Proofs.Ytmlmiocomlehgaa.Hid
open Go.RowKit Go.Proofs.YtmlmiocomlehgaaW.PrintWords

/-- A block that belongs to objects: cells of a type of T, a channel, a map. -/
def Hidn (T : List Nat) (W : World) (k : Nat) : Prop := (∃ cs t fr, W.heap[k]? = some (.cells cs t fr) ∧ t ∈ T) ∨ (∃ cap buf cl s r tm, W.heap[k]? = some (.chan cap buf cl s r tm)) ∨ (∃ es ck, W.heap[k]? = some (.map es ck))

section
variable {T : List Nat} {W W1 W2 : World} {k : Nat}
theorem Hidn.lt (h : Hidn T W k) : k < W.heap.size := by
  rcases h with ⟨_, _, _, h, _⟩ | ⟨_, _, _, _, _, _, h⟩ | ⟨_, _, h⟩ <;> exact blk_lt h
theorem Hidn.cells {cs : Array Value} {t : TypeId} {fr : Nat × Nat} (h : W.heap[k]? = some (.cells cs t fr)) (ht : t ∈ T) : Hidn T W k := .inl ⟨cs, t, fr, h, ht⟩
theorem Hidn.chan {cap : Nat} {buf : Array Value} {cl : Bool} {s r : Nat} {tm : Bool} (h : W.heap[k]? = some (.chan cap buf cl s r tm)) : Hidn T W k := .inr (.inl ⟨cap, buf, cl, s, r, tm, h⟩)
theorem Hidn.map {es : Array MapEntry} {ck : Nat} (h : W.heap[k]? = some (.map es ck)) : Hidn T W k := .inr (.inr ⟨es, ck, h⟩)
theorem Hidn.of_eq (h : Hidn T W1 k) (e : W1.heap[k]? = W.heap[k]?) : Hidn T W k := by
  unfold Hidn at h ⊢
  rwa [e] at h
theorem not_hidn_cells {cs : Array Value} {t : TypeId} {fr : Nat × Nat} (h : W.heap[k]? = some (.cells cs t fr)) (ht : t ∉ T) : ¬ Hidn T W k := by
  rintro (⟨_, _, _, h', ht'⟩ | ⟨_, _, _, _, _, _, h'⟩ | ⟨_, _, h'⟩)
  · rw [h] at h'
    injection h' with h'
    injection h' with _ e
    subst e
    exact ht ht'
  · rw [h] at h'
    injection h' with h'
    cases h'
  · rw [h] at h'
    injection h' with h'
    cases h'
end

/-- A block that is there and belongs to no object. -/
def Vis (T : List Nat) (W : World) (k : Nat) : Prop := k < W.heap.size ∧ ¬ Hidn T W k
section
variable {T : List Nat} {W : World} {k : Nat}
theorem vis_cells {cs : Array Value} {t : TypeId} {fr : Nat × Nat} (h : W.heap[k]? = some (.cells cs t fr)) (ht : t ∉ T) : Vis T W k := ⟨blk_lt h, not_hidn_cells h ht⟩
theorem vis_eq {W1 : World} (h : Vis T W k) (e : W1.heap[k]? = W.heap[k]?) : Vis T W1 k := by
  refine ⟨?_, fun hk => h.2 (hk.of_eq e)⟩
  have h1 := h.1
  rw [Array.getElem?_eq_getElem h1] at e
  exact (Array.getElem?_eq_some_iff.1 e).1
theorem vis_set (h : Vis T W k) {p : Addr} {u : Value} : Vis T (W.setCell p u) k := by
  by_cases e : k = p.block
  · refine ⟨by simpa [World.setCell] using h.1, fun hk => h.2 ?_⟩
    have hs : ∀ o, (W.setCell p u).heap[k]? = some o → ∃ o', W.heap[k]? = some o' ∧ (o = match o' with | .cells c el fr => .cells (if p.spot.isSome then c else c.setIfInBounds p.off u) el fr | o => o) := by
      intro o ho
      rw [e] at ho ⊢
      simp only [World.setCell, Array.getElem?_modify] at ho
      cases h2 : W.heap[p.block]? with
      | none => simp [h2] at ho
      | some o' => exact ⟨o', rfl, by simp [h2] at ho; exact ho.symm⟩
    rcases hk with ⟨cs, t, fr, hc, ht⟩ | ⟨cap, buf, cl, s, r, tm, hc⟩ | ⟨es, ck, hc⟩
    · obtain ⟨o', h3, h4⟩ := hs _ hc
      cases o' <;> simp at h4
      obtain ⟨_, rfl, rfl⟩ := h4
      exact .cells h3 ht
    · obtain ⟨o', h3, h4⟩ := hs _ hc
      cases o' <;> simp at h4
      obtain ⟨rfl, rfl, rfl, rfl, rfl, rfl⟩ := h4
      exact .chan h3
    · obtain ⟨o', h3, h4⟩ := hs _ hc
      cases o' <;> simp at h4
      obtain ⟨rfl, rfl⟩ := h4
      exact .map h3
  · exact vis_eq h (Below.heap_setCell W p u k e)
theorem vis_alloc (h : Vis T W k) {o : Obj} : Vis T (W.alloc o) k := vis_eq h (Below.heap_alloc _ _ _ h.1)
theorem vis_drew (h : Vis T W k) : Vis T W.drew k := h
theorem vis_drewN (h : Vis T W k) {m : Nat} : Vis T (W.drewN m) k := h
end

/-- What a call on an object keeps: all but what is hidden; and what wasn't hidden is not hidden behind it. -/
def KeptH (T : List Nat) (w W : World) : Prop := Kept w W (Hidn T w) ∧ ∀ k, k < w.heap.size → Hidn T W k → Hidn T w k
section
variable {T : List Nat} {w W W1 W2 : World} {S : Nat → Prop}
theorem KeptH.refl (T : List Nat) (w : World) : KeptH T w w := ⟨Kept.refl _ _, fun _ _ h => h⟩
theorem KeptH.trans (h : KeptH T w W) (k : KeptH T W W2) : KeptH T w W2 :=
  ⟨⟨Nat.le_trans h.1.1 k.1.1, fun i hi hn => (k.1.2 i (Nat.lt_of_lt_of_le hi h.1.1) (fun hk => hn (h.2 i hi hk))).trans (h.1.2 i hi hn)⟩,
    fun i hi hk => h.2 i hi (k.2 i (Nat.lt_of_lt_of_le hi h.1.1) hk)⟩
theorem KeptH.of_below (h : Below w.heap.size w W) : KeptH T w W := ⟨Kept.of_below h _, fun k hk h2 => h2.of_eq (h.block k hk)⟩
theorem KeptH.below (h : KeptH T w W) (hb : Below W.heap.size W W2) : KeptH T w W2 := h.trans (.of_below hb)
theorem KeptH.alloc (h : KeptH T w W) (o : Obj) : KeptH T w (W.alloc o) := h.below (below_alloc (Below.refl _ _) o)
theorem KeptH.drew (h : KeptH T w W) : KeptH T w W.drew := h
theorem KeptH.drewN (h : KeptH T w W) (m : Nat) : KeptH T w (W.drewN m) := h
theorem KeptH.grown (h : KeptH T w W) {row : Option Nat} (hg : W.grownBy W2 row) (hr : ∀ k, row = some k → Hidn T W k ∨ w.heap.size ≤ k) : KeptH T w W2 := by
  refine ⟨⟨Nat.le_trans h.1.1 hg.size, fun i hi hn => ?_⟩, fun k hk h2 => ?_⟩
  · refine (hg.block i (Nat.lt_of_lt_of_le hi h.1.1) (fun e => ?_)).trans (h.1.2 i hi hn)
    rcases hr i e.symm with h3 | h3
    · exact hn (h.2 i hi h3)
    · omega
  · by_cases e : row = some k
    · rcases hr k e with h3 | h3
      · exact h.2 k hk h3
      · omega
    · exact h.2 k hk (h2.of_eq (hg.block k (Nat.lt_of_lt_of_le hk h.1.1) (fun e2 => e e2.symm)))
/-- A store into a hidden block: it stays hidden. -/
theorem KeptH.setCell (h : KeptH T w W) {p : Addr} (hp : Hidn T W p.block) (u : Value) : KeptH T w (W.setCell p u) := by
  refine h.trans ⟨⟨by simp [World.setCell], fun i _ hn => Below.heap_setCell W p u i (fun e => hn (by rw [e]; exact hp))⟩, fun i _ hk => ?_⟩
  by_cases e : i = p.block
  · rw [e]; exact hp
  · exact hk.of_eq (Below.heap_setCell W p u i e)
end

theorem setChan_other (w : World) (c c' cap : Nat) (buf : Array Value) (cl : Bool) (s r : Nat) (tm : Bool) (h : c' ≠ c) : (w.setChan c cap buf cl s r tm).heap[c']? = w.heap[c']? := by
  simp [World.setChan, Array.getElem?_setIfInBounds_ne (Ne.symm h)]
/-- A channel's block is written. -/
theorem KeptH.chan_ {T : List Nat} {w W : World} {c cap cap' : Nat} {buf buf' : Array Value} {cl cl' : Bool} {s s' r r' : Nat} {tm tm' : Bool} (h : KeptH T w W) (hc : W.heap[c]? = some (.chan cap buf cl s r tm)) : KeptH T w (W.setChan c cap' buf' cl' s' r' tm') := by
  refine h.trans ⟨⟨by simp [World.setChan], fun i _ hn => setChan_other _ _ _ _ _ _ _ _ _ (fun e => hn (by rw [e]; exact .chan hc))⟩, fun k _ hk => ?_⟩
  by_cases e : k = c
  · rw [e]; exact .chan hc
  · exact hk.of_eq (setChan_other _ _ _ _ _ _ _ _ _ e)

namespace Ko
theorem grown_trans {w w1 w2 : World} {row : Option Nat} (h : w.grownBy w1 row) (k : w1.grownBy w2 row) : w.grownBy w2 row :=
  ⟨k.os.trans h.os, k.tape.trans h.tape, k.output.trans h.output, Nat.le_trans h.size k.size, fun i hi hr => (k.block i (Nat.lt_of_lt_of_le hi h.size) hr).trans (h.block i hi hr)⟩
section
variable {α : Type} {d : Kd α} {e g : Nat} {w w1 : World} {base : Nat} {ok : Nat → Prop} {v : Value} {xs : List α} {T : List Nat} {cs : Array Value} {t : TypeId} {fr : Nat × Nat} {a : Addr} {u : Value}
/-- By types: a row is none of the hidden blocks. -/
theorem R_apart (h : d.R e w base ok v xs) (ht : ∀ q, q ∈ e :: d.E → q ∉ T) : d.R e w base (fun k => ok k ∧ ¬ Hidn T w k) v xs :=
  Kd.R_mono (Kd.R_bound h) (fun k hk => ⟨hk.1, by obtain ⟨_, _, _, q, hq, cells, hc⟩ := hk; exact not_hidn_cells hc (ht q hq)⟩)
theorem R_ne (h : d.R e w base ok v xs) (ht : e ∉ T) : ∀ k, Hidn T w k → some k ≠ v.ownBlock := fun k hk he => by
  obtain ⟨_, inner, ho, _⟩ := h
  obtain ⟨cells, hc⟩ := own_typed ho k he.symm
  exact not_hidn_cells hc ht hk
theorem R_keep (h : d.R e w base ok v xs) (hk : KeptH T w w1) (hok : ∀ k, ok k → ¬ Hidn T w k) : d.R e w1 base ok v xs := Kd.R_kept h hk.1 hok
theorem R_oldH (hu : d.R e w base (fun k => ok k ∧ ¬ Hidn T w k) v xs) (hk : KeptH T w w1) : d.R e w1 base (fun k => ok k ∧ k < w.heap.size) v xs := Kd.R_mono (R_keep (Kd.R_bound hu) hk (fun _ h => h.1.2)) (fun _ h => ⟨h.1.1, h.2.2.1⟩)
theorem S_keep (h : Kd.S d e w base ok v xs) (hk : KeptH T w w1) (hok : ∀ k, ok k → ¬ Hidn T w k) : Kd.S d e w1 base ok v xs := Kd.S_kept h hk.1 hok
theorem Q_keep (h : d.Q e w base ok v xs) (hk : KeptH T w w1) (hok : ∀ k, ok k → ¬ Hidn T w k) : d.Q e w1 base ok v xs := Kd.Q_kept h hk.1 hok
theorem blkc (hk : KeptH T w w1) (hb : w.heap[g]? = some (.cells cs t fr)) (ht : t ∉ T) : w1.heap[g]? = some (.cells cs t fr) := blk_kept hb hk.1 (not_hidn_cells hb ht)
theorem blk (hk : KeptH T w w1) {o : Obj} (hb : w.heap[g]? = some o) (hn : ¬ Hidn T w g) : w1.heap[g]? = some o := blk_kept hb hk.1 hn
theorem keep_cell (hk : KeptH T w w1) (h : w.cell? a = some u) (hn : ¬ Hidn T w a.block) : w1.cell? a = some u := cell_kept h hk.1 hn
theorem R_chan {c cap cap' : Nat} {buf buf' : Array Value} {cl cl' : Bool} {s s' r r' : Nat} {tm tm' : Bool} (h : d.R e w base ok v xs) (hc : w.heap[c]? = some (.chan cap buf cl s r tm)) : d.R e (w.setChan c cap' buf' cl' s' r' tm') base ok v xs := by
  refine Kd.R_mono (Kd.R_move (Kd.R_bound h) (fun k hk => ?_)) (fun _ hk => hk.1)
  obtain ⟨_, _, _, q, hq, cells, hq2⟩ := hk
  refine setChan_other _ _ _ _ _ _ _ _ _ ?_
  rintro rfl
  rw [hc] at hq2
  injection hq2 with hq2
  cases hq2
/-- Cells behind a row's last element, in the row's own block, are written. -/
theorem R_tail {c n o : Nat} (h : d.R e w base ok (.slice (some ⟨g, 0, none⟩) n c) xs) (vs : List Value) (ho : n * d.sz ≤ o) (hl : o + vs.length ≤ c * d.sz) :
    d.R e (w.setCells g o vs) base ok (.slice (some ⟨g, 0, none⟩) n c) xs ∧ w.grownBy (w.setCells g o vs) (some g) := by
  obtain ⟨hok, inner, hown, hr⟩ := h
  rcases hown.2 with ⟨hv, _⟩ | ⟨g', cap', cur, hv, hb, hh, hxc, hcm, hcs, htake⟩
  · cases hv
  injection hv with ha hn2 hc
  injection ha with ha
  injection ha with hg
  subst hg; subst hc; subst hn2
  obtain ⟨cur', h3, h4, h5⟩ := setCells_row vs o w cur hh (by omega)
  obtain ⟨s1, s2, s3, s4⟩ := setCells_same g vs o w
  have hfar : ∀ k', k' ≠ g → (w.setCells g o vs).heap[k']? = w.heap[k']? := fun k' hk' => setCells_far vs _ k' hk'
  refine ⟨⟨hok, inner, ⟨hown.1, .inr ⟨g, c, cur', rfl, hb, h3, hxc, hcm, by rw [h4, hcs], ?_⟩⟩, hr.imp_ (fun p q hp => d.M_move (fun k' hk' => hfar k' (fun he => hk'.2 (by rw [he]; rfl))) hp)⟩, ⟨s1, s2, s3, by rw [s4]; exact Nat.le_refl _, fun k' _ hk' => hfar k' (fun he => hk' (by rw [he]))⟩⟩
  have hcl : cur.toList.length = c * d.sz := by rw [Array.length_toList, hcs]
  rw [h5, List.append_assoc, List.take_append_of_le_length (by rw [List.length_take, hcl]; omega), List.take_take, Nat.min_eq_left ho]
  exact htake
end
end Ko
end Go.Proofs.Ytmlmiocomlehgaa.Hid
namespace Go.Proofs.Ytmlmiocomlehgaa.Man
open Go.RowKit Go.Proofs.YtmlmiocomlehgaaW.PrintWords Go.Proofs.Ytmlmiocomlehgaa.PA Go.Proofs.Ytmlmiocomlehgaa.PF Go.Proofs.Ytmlmiocomlehgaa.Hid

/-- What the drains are: those that wait or are under way. -/
structure DS where
  row : List S88

abbrev TD : List Nat := [81, 88]

def IsD (w0 W : World) (g : Nat) (s : DS) : Prop := ∃ v,
  W.heap[g]? = some (.cells #[v] 81 (0, 0)) ∧ w0.heap.size ≤ g ∧ Kd.R k88 88 W w0.heap.size (fun _ => True) v s.row

section
variable {w0 W W1 : World} {g : Nat} {s : DS}
theorem IsD.step (h : IsD w0 W g s) (hm : ∀ k, Hidn TD W k → W1.heap[k]? = W.heap[k]?) : IsD w0 W1 g s := by
  obtain ⟨v, hb, hg, hR⟩ := h
  refine ⟨v, (hm g (.cells hb (by decide))).trans hb, hg, ?_⟩
  refine Kd.R_mono (Kd.R_move (Kd.R_bound hR) (fun k hk => ?_)) (fun _ _ => trivial)
  obtain ⟨_, _, _, q, hq, cells, hq2⟩ := hk
  have : q = 88 := by simpa [k88, Kd.iso, Kd.pair, Kd.int, Kd.scalar, Kd.string, Kd.bool] using hq
  subst this
  exact hm k (.cells hq2 (by decide))
theorem IsD.grown {row : Option Nat} (h : IsD w0 W g s) (hw : W.grownBy W1 row) (hne : ∀ k, Hidn TD W k → some k ≠ row) : IsD w0 W1 g s := h.step (fun k hk => hw.block k hk.lt (hne k hk))
theorem IsD.kept {S : Nat → Prop} (h : IsD w0 W g s) (hk : Kept W W1 S) (hne : ∀ k, Hidn TD W k → ¬ S k) : IsD w0 W1 g s := h.step (fun k h2 => hk.2 k h2.lt (hne k h2))
theorem IsD.below (h : IsD w0 W g s) (hw : Below W.heap.size W W1) : IsD w0 W1 g s := h.step (fun k hk => hw.block k hk.lt)
theorem IsD.alloc (h : IsD w0 W g s) (o : Obj) : IsD w0 (W.alloc o) g s := h.below (below_alloc (Below.refl _ _) o)
theorem IsD.drewN (h : IsD w0 W g s) (m : Nat) : IsD w0 (W.drewN m) g s := h.step (fun _ _ => rfl)
theorem IsD.drew (h : IsD w0 W g s) : IsD w0 W.drew g s := h.step (fun _ _ => rfl)
theorem IsD.at_ {w' : World} {m : Nat} (hq : W.drewN m = w') (h : IsD w0 W g s) : IsD w0 w' g s := by subst hq; exact h.drewN m
theorem IsD.far {p : Addr} (h : IsD w0 W g s) (hne : Vis TD W p.block) (u : Value) : IsD w0 (W.setCell p u) g s := h.step (fun k hk => Below.heap_setCell W p u k (fun e => hne.2 (by rw [← e]; exact hk)))
theorem IsD.hid (h : IsD w0 W g s) : Hidn TD W g := by
  obtain ⟨v, hb, _⟩ := h
  exact .cells hb (by decide)
theorem IsD.lt (h : IsD w0 W g s) : g < W.heap.size := h.hid.lt
theorem IsD.ge (h : IsD w0 W g s) : w0.heap.size ≤ g := by
  obtain ⟨v, hb, hg, _⟩ := h
  exact hg
variable {α : Type} {d : Kd α} {e : Nat} {base : Nat} {ok : Nat → Prop} {v : Value} {xs : List α}
theorem IsD.apart (h : IsD w0 W g s) (ho : d.R e W base ok v xs) (ht : ∀ q, q ∈ e :: d.E → q ∉ TD) : d.R e W base (fun k => ok k ∧ ¬ Hidn TD W k) v xs := Ko.R_apart ho ht
theorem IsD.own_ne (h : IsD w0 W g s) (ho : d.R e W base ok v xs) (ht : e ∉ TD) : ∀ k, Hidn TD W k → some k ≠ v.ownBlock := Ko.R_ne ho ht
theorem IsD.ne_blk {a : Nat} {cs : Array Value} {t : TypeId} {fr : Nat × Nat} (h : IsD w0 W g s) (hb2 : W.heap[a]? = some (.cells cs t fr)) (ht : t ∉ TD) : g ≠ a := by
  rintro rfl
  exact not_hidn_cells hb2 ht h.hid
/-- The state, opened. -/
theorem IsD.open_ (h : IsD w0 W g s) : ∃ A n, W.heap[g]? = some (.cells #[.slice A s.row.length n] 81 (0, 0)) ∧ s.row.length ≤ n ∧ Kd.C k88 W A s.row.length s.row ∧ Kd.R k88 88 W w0.heap.size (fun _ => True) (.slice A s.row.length n) s.row ∧ w0.heap.size ≤ g := by
  obtain ⟨v, hb, hg, hR⟩ := h
  obtain ⟨A, n, rfl⟩ := Kd.R_slice hR
  have h3 := Kd.R_reads' hR
  exact ⟨A, n, hb, h3.2.1, h3.2.2, hR, hg⟩
/-- What a call that only looks leaves. -/
theorem done_below (hI : IsD w0 W g s) (hB : Below w0.heap.size w0 W) (hb : Below W.heap.size W W1) : IsD w0 W1 g s ∧ Below w0.heap.size w0 W1 ∧ KeptH TD W W1 :=
  ⟨hI.below hb, below_step hB hb, KeptH.of_below hb⟩
end
end Go.Proofs.Ytmlmiocomlehgaa.Man
namespace Go.Proofs.Ytmlmiocomlehgaa.Man
open Go.RowKit Go.Proofs.YtmlmiocomlehgaaW.PrintWords Go.Proofs.YtmlmiocomlehgaaW.PrintLast Go.Proofs.YtmlmiocomlehgaaW.PrintMore Go.Proofs.Ytmlmiocomlehgaa.PA Go.Proofs.Ytmlmiocomlehgaa.PF Go.Proofs.Ytmlmiocomlehgaa.Hid
/-- Where a name stands; -1: nowhere. -/
def placeOf : List S88 → ByteArray → Int → Int
  | [], _, _ => -1
  | x :: l, nm, j => if (x.f0.toList == nm.toList) = true then j else placeOf l nm (j + 1)
def drains_Drains_place.f (s : DS) (nm : ByteArray) : Option (Int × DS) := some (placeOf s.row nm 0, s)
theorem place_loop (nm : ByteArray) (xs : List S88) (hm : xs.length ≤ 9223372036854775807) (d : Nat) : ∀ (k j : Nat), j ≤ xs.length → xs.length - j = d → d < k → drains_drain.l0 k xs [nm] (xs.length : Int) (j : Int) = some (placeOf (xs.drop j) nm j) := by
  induction d with
  | zero =>
    intro k j hj hd hk
    obtain ⟨k, rfl⟩ : ∃ m, k = m + 1 := ⟨k - 1, by omega⟩
    simp only [drains_drain.l0]
    rw [if_neg (by omega), List.drop_eq_nil_of_le (by omega)]
    rfl
  | succ d ih =>
    intro k j hj hd hk
    obtain ⟨k, rfl⟩ : ∃ m, k = m + 1 := ⟨k - 1, by omega⟩
    have hlt : j < xs.length := by omega
    simp only [drains_drain.l0]
    rw [if_pos (by omega), if_pos (by omega), if_pos (by omega), List.drop_eq_getElem_cons hlt]
    have e : rd_T88 xs (j : Int) = xs[j] := by simp [rd_T88, List.getD, hlt]
    rw [e]
    have ih' := ih k (j + 1) (by omega) (by omega) (by omega)
    rw [show ((j + 1 : Nat) : Int) = (j : Int) + 1 by omega] at ih'
    have hw : wrap64 ((j : Int) + 1) = (j : Int) + 1 := by unfold wrap64; omega
    simp only [drains_Drains_place_1.f, placeOf]
    rw [if_pos (by simp), Option.bind_some, show rdOf ByteArray.empty [nm] 0 = nm from rfl, hw]
    by_cases c : (xs[j].f0.toList == nm.toList) = true
    · rw [if_pos c, if_pos c]
    · rw [if_neg c, if_neg c]
      exact ih'
theorem place_some (nm : ByteArray) (xs : List S88) (hm : xs.length ≤ 9223372036854775807) : drains_drain.f (xs.length + 1) xs 0 [nm] = some (placeOf xs nm 0) := by
  have := place_loop nm xs hm xs.length (xs.length + 1) 0 (by omega) (by omega) (by omega)
  simpa [drains_drain.f] using this
/-- A captured string, told as a row of one element. -/
theorem cap_str {W : World} {B : Nat} {x : ByteArray} (h : W.cell? ⟨B, 0, none⟩ = some (.string x)) : Kd.C Kd.string W (some ⟨B, 0, none⟩) ([x] : List ByteArray).length [x] :=
  Kd.C_of_reads (d := ByteArray.empty) ⟨rfl, by simp, fun _ => ⟨⟨B, 0, none⟩, rfl, fun j hj => by
    have : j = 0 := by simp at hj; omega
    subst this
    simpa [Addr.add] using h⟩⟩
variable {w0 w : World} {g : Nat} {s : DS}
theorem row_len (h : IsD w0 w g s) : s.row.length ≤ 9223372036854775807 := by
  obtain ⟨A, n, hb, hn, hC, hR, hg⟩ := h.open_
  exact hC.2.1
set_option maxHeartbeats 1000000 in
theorem place_raw (nm : ByteArray) (hI : IsD w0 w g s) : Calls Try.prog 58 #[.pointer (some ⟨g, 0, none⟩), .string nm] w fun e w' => e = .returned (.int .i64 (placeOf s.row nm 0)) ∧ Below w.heap.size w w' := by
  have hl := row_len hI
  obtain ⟨A, n, hb, hn, hC, hR, hg⟩ := hI.open_
  have h1 : w.cell? ⟨g, 0, none⟩ = some (.slice A s.row.length n) := (blk_cell hb 0).trans rfl
  have hgl : g < w.heap.size := blk_lt hb
  have HCALL := Aside0.mk (fun (o : Obj) (ho : o = .cells #[.string nm] 9) => drains_drain.calls (s.row.length + 1) A n s.row 0 (some ⟨w.heap.size, 0, none⟩) 1 [nm] _ (w.alloc o) (Kd.C_below hC ((Below.refl _ w).alloc (Nat.le_refl _) _)) hn (cap_str (by subst ho; simp [go_sem])) (Nat.le_refl _) (place_some nm s.row hl))
  clear hb hn hC hR hI hl
  go_enter Try.func58, Try.ntmps58
  go_wp2_with (go_at_call 79; refine (HCALL.out _ rfl).mono ?_; rintro e w' ⟨rfl, hb⟩)
  go_ret
  exact ⟨rfl, below_step ((Below.refl _ w).alloc (Nat.le_refl _) _) hb⟩
end Go.Proofs.Ytmlmiocomlehgaa.Man
namespace Go.Proofs.Ytmlmiocomlehgaa.Man
open Go.RowKit Go.Proofs.YtmlmiocomlehgaaW.PrintWords Go.Proofs.YtmlmiocomlehgaaW.PrintLast Go.Proofs.YtmlmiocomlehgaaW.PrintMore Go.Proofs.Ytmlmiocomlehgaa.PA Go.Proofs.Ytmlmiocomlehgaa.PF Go.Proofs.Ytmlmiocomlehgaa.Hid
variable {w0 w : World} {g : Nat} {s : DS}
def namesOf (row : List S88) (u : Bool) : List ByteArray := (row.filter (fun x => x.f2 == u)).map (·.f0)
set_option maxHeartbeats 4000000 in
theorem names_raw (u : Bool) (hlb : s.row.length < 1099511627776) (hI : IsD w0 w g s) :
    Calls Try.prog 82 #[.pointer (some ⟨g, 0, none⟩), .bool u] w fun e w' => ∃ v1_ : Value, e = .returned v1_ ∧ Kd.R Kd.string 9 w' w.heap.size (fun _ => True) v1_ (namesOf s.row u) ∧ Below w.heap.size w w' := by
  obtain ⟨A, n, hb, hn, hC, hR, hg⟩ := hI.open_
  have h1 : w.cell? ⟨g, 0, none⟩ = some (.slice A s.row.length n) := (blk_cell hb 0).trans rfl
  have hgl : g < w.heap.size := blk_lt hb
  have HC := Aside0.mk hC
  clear hb hn hC hR hI
  go_enter Try.func82, Try.ntmps82
  go_wp2
  go_loopw [5, 16] (fun v5 v16 wr => ∃ k : Nat, k ≤ s.row.length ∧ v16 = .int .i64 k ∧ Aside0 (Kd.R Kd.string 9 wr w.heap.size (fun _ => True) v5 (namesOf (s.row.take k) u)) ∧ Aside0 (Below w.heap.size w wr)) (fun _ v16 _ => s.row.length - (intOf v16).toNat)
  case atStart => exact ⟨0, Nat.zero_le _, rfl, ⟨Kd.R_nil _ _ _ _ _⟩, ⟨Below.refl _ _⟩⟩
  case round =>
    obtain ⟨k, hk, rfl, HO, HB⟩ := hrel
    by_cases hlt : k < s.row.length
    · obtain ⟨ad, rfl, hx0, hx1, hx2⟩ := at_T88 (Kd.C_below HC.out HB.out) (k : Int) (by omega) (by omega)
      obtain ⟨x, hxe⟩ : ∃ x : S88, x = rd_T88 s.row (k : Int) := ⟨_, rfl⟩
      rw [← hxe, Int.toNat_natCast] at hx0 hx1 hx2
      have hxg : s.row[k] = x := by rw [hxe]; simp [rd_T88, List.getD, hlt]
      have hts : s.row.take (k + 1) = s.row.take k ++ [x] := by rw [List.take_succ_eq_append_getElem hlt, hxg]
      have h0k : (0 : Int) ≤ (k : Int) := by omega
      have hkl : (k : Int) < (s.row.length : Int) := by omega
      have hlen : (namesOf (s.row.take k) u).length ≤ s.row.length := by
        unfold namesOf
        rw [List.length_map]
        exact Nat.le_trans (List.length_filter_le _ _) (by simp; omega)
      have HLEN2 := Aside0.mk hlen
      cases hu : (x.f2 == u) with
      | false =>
        have HX : Aside0 (namesOf (s.row.take (k + 1)) u = namesOf (s.row.take k) u) := ⟨by rw [hts]; simp [namesOf, hu]⟩
        generalize namesOf (s.row.take k) u = xs at HO HX HLEN2
        clear hxe hlen hts hxg
        have hu2 : decide (x.f2 = u) = false := by simpa using hu
        have HX1 := Aside0.mk (Kd.R_alloc HO.out (.cells #[.string x.f0, .int .i64 x.f1, .bool x.f2] 88))
        have HB1 := Aside0.mk (below_alloc HB.out (.cells #[.string x.f0, .int .i64 x.f1, .bool x.f2] 88))
        go_wp2
        exact ⟨⟨k + 1, by omega, by rw [show ((k : Int) + 1) = ((k + 1 : Nat) : Int) by omega], ⟨by rw [HX.out]; exact HX1.out⟩, HB1⟩, by simp [intOf]; omega⟩
      | true =>
        have hu2 : decide (x.f2 = u) = true := by simpa using hu
        have HX : Aside0 (namesOf (s.row.take (k + 1)) u = namesOf (s.row.take k) u ++ [x.f0]) := ⟨by rw [hts]; simp [namesOf, hu]⟩
        generalize namesOf (s.row.take k) u = xs at HO HX HLEN2
        clear hxe hlen hts hxg
        have HX1 := Aside0.mk (Kd.R_alloc HO.out (.cells #[.string x.f0, .int .i64 x.f1, .bool x.f2] 88))
        have HB1 := Aside0.mk (below_alloc HB.out (.cells #[.string x.f0, .int .i64 x.f1, .bool x.f2] 88))
        go_wp2_with ((with_reducible refine gate_builtin (b := .append) (xs := #[.tmp 24, .tmp 27]) rfl ?_); (try (refine gate_guard (by rfl) ?_; dsimp only)); at_builtin; refine Kd.R_append Kd.string (w0 := w) w.heap.size rfl (.tmp 24) (.tmp 27) 25 9 (.string ⟨#[]⟩) 16 rfl Try.underlying25 info9 rfl (by decide) (by omega) _ xs x.f0 [.string x.f0] (fun _ => True) (fun _ => False) rfl ?aX ?aP (fun _ h => h.elim) (fun _ _ => trivial) ?aO ?aB ?aS ?aL ?_; (case aX => (show Value.slice (some ⟨wr.heap.size + 1, 0, none⟩) 1 1 = _; simp)); (case aP => exact rfl); (case aO => exact HX1.out); (case aB => exact HB1.out); (case aS => exact HB1.out.size); (case aL => have := HLEN2.out; omega); intro v1 w1 ho hb hg hat; have HO1 := Aside0.mk ho; have HB2 := Aside0.mk hb; clear ho hb hg hat)
        exact ⟨⟨k + 1, by omega, by rw [show ((k : Int) + 1) = ((k + 1 : Nat) : Int) by omega], ⟨by rw [HX.out]; exact HO1.out⟩, HB2⟩, by simp [intOf]; omega⟩
    · have hke : k = s.row.length := by omega
      subst hke
      rw [List.take_length] at HO
      clear hk
      go_wp2
      go_ret
      exact ⟨_, rfl, HO.out, HB.out⟩
set_option maxHeartbeats 1000000 in
theorem waits_raw (hlb : s.row.length < 1099511627776) (hI : IsD w0 w g s) :
    Calls Try.prog 64 #[.pointer (some ⟨g, 0, none⟩)] w fun e w' => ∃ v1_ : Value, e = .returned v1_ ∧ Kd.R Kd.string 9 w' w.heap.size (fun _ => True) v1_ (namesOf s.row false) ∧ Below w.heap.size w w' := by
  have HN := Aside0.mk (names_raw false hlb hI)
  clear hI
  go_enter Try.func64, Try.ntmps64
  go_wp2_with (go_at_call 82; refine HN.out.mono ?_; rintro e w' ⟨v, rfl, hR, hb⟩)
  go_ret
  exact ⟨_, rfl, hR, hb⟩
set_option maxHeartbeats 1000000 in
theorem under_raw (hlb : s.row.length < 1099511627776) (hI : IsD w0 w g s) :
    Calls Try.prog 66 #[.pointer (some ⟨g, 0, none⟩)] w fun e w' => ∃ v1_ : Value, e = .returned v1_ ∧ Kd.R Kd.string 9 w' w.heap.size (fun _ => True) v1_ (namesOf s.row true) ∧ Below w.heap.size w w' := by
  have HN := Aside0.mk (names_raw true hlb hI)
  clear hI
  go_enter Try.func66, Try.ntmps66
  go_wp2_with (go_at_call 82; refine HN.out.mono ?_; rintro e w' ⟨v, rfl, hR, hb⟩)
  go_ret
  exact ⟨_, rfl, hR, hb⟩
def drains_Drains_Waits.f (s : DS) : Option (List ByteArray × DS) := if s.row.length < 1099511627776 then some (namesOf s.row false, s) else none
def drains_Drains_Under.f (s : DS) : Option (List ByteArray × DS) := if s.row.length < 1099511627776 then some (namesOf s.row true, s) else none
theorem drains_Drains_Waits.calls (g : Nat) (s : DS) (r1 : List ByteArray) (s' : DS) (w0 w : World) (hI : IsD w0 w g s) (hB : Below w0.heap.size w0 w) (h : drains_Drains_Waits.f s = some (r1, s')) :
    Calls Try.prog 64 #[.pointer (some ⟨g, 0, none⟩)] w fun e w' => ∃ v1_ : Value, e = .returned v1_ ∧ Kd.R Kd.string 9 w' w.heap.size (fun _ => True) v1_ r1 ∧ IsD w0 w' g s' ∧ Below w0.heap.size w0 w' ∧ KeptH TD w w' := by
  unfold drains_Drains_Waits.f at h
  split at h
  · rename_i hl
    obtain ⟨rfl, rfl⟩ := Prod.mk.inj (Option.some.inj h)
    refine (waits_raw hl hI).mono ?_
    rintro e w' ⟨v, rfl, hR, hb⟩
    exact ⟨v, rfl, hR, done_below hI hB hb⟩
  · cases h
theorem drains_Drains_Under.calls (g : Nat) (s : DS) (r1 : List ByteArray) (s' : DS) (w0 w : World) (hI : IsD w0 w g s) (hB : Below w0.heap.size w0 w) (h : drains_Drains_Under.f s = some (r1, s')) :
    Calls Try.prog 66 #[.pointer (some ⟨g, 0, none⟩)] w fun e w' => ∃ v1_ : Value, e = .returned v1_ ∧ Kd.R Kd.string 9 w' w.heap.size (fun _ => True) v1_ r1 ∧ IsD w0 w' g s' ∧ Below w0.heap.size w0 w' ∧ KeptH TD w w' := by
  unfold drains_Drains_Under.f at h
  split at h
  · rename_i hl
    obtain ⟨rfl, rfl⟩ := Prod.mk.inj (Option.some.inj h)
    refine (under_raw hl hI).mono ?_
    rintro e w' ⟨v, rfl, hR, hb⟩
    exact ⟨v, rfl, hR, done_below hI hB hb⟩
  · cases h
theorem place_bd : ∀ (row : List S88) (nm : ByteArray) (j : Int), placeOf row nm j = -1 ∨ (j ≤ placeOf row nm j ∧ placeOf row nm j < j + row.length)
  | [], _, _ => .inl rfl
  | x :: l, nm, j => by
    rw [placeOf]
    split
    · right
      simp
      omega
    · rcases place_bd l nm (j + 1) with h | h
      · exact .inl h
      · right
        simp
        omega
end Go.Proofs.Ytmlmiocomlehgaa.Man
namespace Go.Proofs.Ytmlmiocomlehgaa.Man
open Go.RowKit Go.Proofs.YtmlmiocomlehgaaW.PrintWords Go.Proofs.YtmlmiocomlehgaaW.PrintLast Go.Proofs.YtmlmiocomlehgaaW.PrintMore Go.Proofs.Ytmlmiocomlehgaa.PA Go.Proofs.Ytmlmiocomlehgaa.PF Go.Proofs.Ytmlmiocomlehgaa.Hid
variable {w0 w : World} {g : Nat} {s : DS}
def deadOf (s : DS) (nm : ByteArray) : Int × Bool := if placeOf s.row nm 0 < 0 then (0, false) else if (rd_T88 s.row (placeOf s.row nm 0)).f2 = true then ((rd_T88 s.row (placeOf s.row nm 0)).f1, true) else (0, false)
set_option maxHeartbeats 2000000 in
theorem deadline_raw (nm : ByteArray) (hI : IsD w0 w g s) :
    Calls Try.prog 68 #[.pointer (some ⟨g, 0, none⟩), .string nm] w fun e w' => e = .returned (.tuple #[.int .i64 (deadOf s nm).1, .bool (deadOf s nm).2]) ∧ Below w.heap.size w w' := by
  have HP := Aside0.mk (place_raw nm hI)
  have hb := place_bd s.row nm 0
  unfold deadOf
  obtain ⟨A, n, hbk, hn, hC, hR, hg⟩ := hI.open_
  have HC := Aside0.mk hC
  have HBK := Aside0.mk hbk
  have hgl : g < w.heap.size := blk_lt hbk
  clear hbk hn hC hR
  by_cases hp : placeOf s.row nm 0 < 0
  · rw [if_pos hp]
    generalize placeOf s.row nm 0 = i at hp HP
    clear hI
    go_enter Try.func68, Try.ntmps68
    go_wp2_with (go_at_call 58; refine HP.out.mono ?_; rintro e w' ⟨rfl, hb⟩)
    go_ret2
    exact ⟨rfl, hb⟩
  · rw [if_neg hp]
    obtain ⟨P, hP⟩ : ∃ P : Nat, placeOf s.row nm 0 = (P : Int) := ⟨(placeOf s.row nm 0).toNat, by omega⟩
    have hPl : (P : Int) < (s.row.length : Int) := by omega
    have h0P : (0 : Int) ≤ (P : Int) := by omega
    rw [hP] at HP ⊢
    clear hP hp hb
    obtain ⟨x, hxe⟩ : ∃ x : S88, x = rd_T88 s.row (P : Int) := ⟨_, rfl⟩
    have hrd : ∀ w1, Below w.heap.size w w1 → ∃ ad, A = some ad ∧ w1.cell? ⟨g, 0, none⟩ = some (.slice A s.row.length n) ∧ w1.cell? ⟨(ad.add (P * 3)).block, (ad.add (P * 3)).off + 1, none⟩ = some (.int .i64 x.f1) ∧ w1.cell? ⟨(ad.add (P * 3)).block, (ad.add (P * 3)).off + 2, none⟩ = some (.bool x.f2) := by
      intro w1 hb1
      obtain ⟨ad, hA, hx0, hx1, hx2⟩ := at_T88 (Kd.C_below HC.out hb1) (P : Int) h0P hPl
      rw [← hxe, Int.toNat_natCast] at hx1 hx2
      exact ⟨ad, hA, (blk_cell (blk_below HBK.out hb1) 0).trans rfl, hx1, hx2⟩
    have HRD := Aside0.mk hrd
    rw [← hxe]
    clear hI hxe hrd HC HBK
    cases hx2 : x.f2 with
    | false =>
      rw [if_neg (by decide)]
      go_enter Try.func68, Try.ntmps68
      go_wp2_with (go_at_call 58; refine HP.out.mono ?_; rintro e w' ⟨rfl, hb⟩; obtain ⟨ad, rfl, hc0, hc1, hc2⟩ := HRD.out _ hb; rw [hx2] at hc2)
      go_ret2
      exact ⟨rfl, hb⟩
    | true =>
      rw [if_pos rfl]
      go_enter Try.func68, Try.ntmps68
      go_wp2_with (go_at_call 58; refine HP.out.mono ?_; rintro e w' ⟨rfl, hb⟩; obtain ⟨ad, rfl, hc0, hc1, hc2⟩ := HRD.out _ hb; rw [hx2] at hc2)
      go_ret2
      exact ⟨rfl, hb⟩
def drains_Drains_Deadline.f (s : DS) (nm : ByteArray) : Option (Int × Bool × DS) := some ((deadOf s nm).1, (deadOf s nm).2, s)
theorem drains_Drains_Deadline.calls (g : Nat) (s : DS) (a1 : ByteArray) (r1 : Int) (r2 : Bool) (s' : DS) (w0 w : World) (hI : IsD w0 w g s) (hB : Below w0.heap.size w0 w) (h : drains_Drains_Deadline.f s a1 = some (r1, r2, s')) :
    Calls Try.prog 68 #[.pointer (some ⟨g, 0, none⟩), .string a1] w fun e w' => e = .returned (.tuple #[.int .i64 r1, .bool r2]) ∧ IsD w0 w' g s' ∧ Below w0.heap.size w0 w' ∧ KeptH TD w w' := by
  obtain ⟨rfl, h2⟩ := Prod.mk.inj (Option.some.inj h)
  obtain ⟨rfl, rfl⟩ := Prod.mk.inj h2
  refine (deadline_raw a1 hI).mono ?_
  rintro e w' ⟨rfl, hb⟩
  exact ⟨rfl, done_below hI hB hb⟩
end Go.Proofs.Ytmlmiocomlehgaa.Man
namespace Go.Proofs.Ytmlmiocomlehgaa.Man
open Go.RowKit Go.Proofs.YtmlmiocomlehgaaW.PrintWords Go.Proofs.YtmlmiocomlehgaaW.PrintLast Go.Proofs.YtmlmiocomlehgaaW.PrintMore Go.Proofs.Ytmlmiocomlehgaa.PA Go.Proofs.Ytmlmiocomlehgaa.PF Go.Proofs.Ytmlmiocomlehgaa.Hid

theorem info88 : (Try.prog.info? 88).map (fun i => (i.zero, i.size, i.bytes)) = some (some (.agg #[(.string ⟨#[]⟩), (.int .i64 0), (.bool false)]), 3, 32) := by kernel_rfl
theorem empty_row (w : World) : Kd.R k88 88 (w.alloc (.cells #[] 88)) w.heap.size (fun _ => True) (.slice (some ⟨w.heap.size, 0, none⟩) ([] : List S88).length 0) [] :=
  ⟨fun _ _ => trivial, [], World.ownsRow_lit (base := w.heap.size) (e := 88) (size := 3) w #[] 0 (Nat.le_refl _) (by decide) (by simp), Reps.none _ _⟩
set_option maxHeartbeats 1000000 in
theorem clone_nil (w : World) : Calls Try.prog 60 #[.slice none 0 0] w fun e w' => e = .returned (.slice none 0 0) ∧ w = w' := by
  have heq := fun (w : World) (a : Option Addr) (n c n' c' : Nat) => Lib.run_eql_slice_nil (P := Try.prog) w 79 88 a n c n' c' Try.underlying79
  go_enter Try.func60, Try.ntmps60
  go_wp2
  go_ret
  exact ⟨rfl, rfl⟩
set_option maxHeartbeats 1000000 in
theorem clone_some (b : Nat) (n : Nat) (xs : List S88) (w : World) (base : Nat) (hR : Kd.R k88 88 w base (fun _ => True) (.slice (some ⟨b, 0, none⟩) xs.length n) xs) (hl : xs.length ≤ 1000000000) : Calls Try.prog 60 #[.slice (some ⟨b, 0, none⟩) xs.length n] w fun e w' => ∃ v', e = .returned v' ∧ Kd.R k88 88 w' w.heap.size (fun _ => True) v' xs ∧ Below w.heap.size w w' := by
  have HC := Aside0.mk (Kd.C_below (Kd.R_reads' hR).2.2 (below_alloc (Below.refl _ w) (.cells #[] 88)))
  have HO := Aside0.mk (empty_row w)
  clear hR
  have heq := fun (w : World) (a : Option Addr) (n c n' c' : Nat) => Lib.run_eql_slice_nil (P := Try.prog) w 79 88 a n c n' c' Try.underlying79
  go_enter Try.func60, Try.ntmps60
  go_wp2_with (at_builtin; refine Kd.R_append_rows k88 (w0 := w) w.heap.size rfl (.tmp 5) (.tmp 6) 79 88 (.agg #[(.string ⟨#[]⟩), (.int .i64 0), (.bool false)]) 32 rfl Try.underlying79 info88 rfl (by decide) (by omega) _ [] xs _ _ _ (fun _ => True) (fun _ => False) rfl rfl ?aO ?aR (fun _ _ h => h) (fun _ h => h.elim) ?aF ?aB ?aS ?aL ?_; (case aO => exact HO.out); (case aR => exact HC.out); (case aF => exact fun _ _ => trivial); (case aB => exact below_alloc (Below.refl _ w) _); (case aS => simp); (case aL => simp; omega); intro v1 w1 ho hb hg hat; simp only [List.nil_append] at ho)
  go_ret
  exact ⟨_, rfl, ho, hb⟩
/-! #### Delete: one element of a row whose block is known -/
theorem zeroCells_one (z : Array Value) : Builtin.zeroCells z 1 = z := by
  apply Array.ext
  · simp [Builtin.zeroCells]
  · intro i h1 h2
    simp [Builtin.zeroCells, Nat.mod_eq_of_lt h2, h2]
theorem run_clear_one {P : Program} (w : World) (t e ty : TypeId) (z : Value) (ht : P.underlying t = some (.slice e)) (hv : ∀ w, (zeroValue e).run P w = .ok z w) (h1 : ∀ v ∈ z.cells.toList, v.oneCell' = true) (b o c : Nat)
    (hc : ∀ j, j < z.cells.size → (w.cell? ⟨b, o + j, none⟩).isSome = true) (hf : ∀ j, j < z.cells.size → w.frozen? ⟨b, o + j, none⟩ = false) :
    (Builtin.clear_ #[t] ty #[.slice (some ⟨b, o, none⟩) 1 c]).run P w = .ok (.tuple #[]) (w.setCells b o z.cells.toList) := by
  have hst := run_storeCells_cells (P := P) b o z.cells.toList 0 w (by simpa using hc) (by simpa using hf) h1
  simp only [Nat.add_zero] at hst
  simp [Builtin.clear_, run_underlying ht, hv, zeroCells_one, hst]

set_option maxHeartbeats 2000000 in
theorem delete_R (b cap i j : Nat) (xs : List S88) (w : World) (base : Nat) (hR : Kd.R k88 88 w base (fun _ => True) (.slice (some ⟨b, 0, none⟩) xs.length cap) xs) (hij : j = i + 1) (hi : i < xs.length) (hm : xs.length ≤ 1000000000) (hbase : base ≤ w.heap.size) :
    Calls Try.prog 59 #[.slice (some ⟨b, 0, none⟩) xs.length cap, .int .i64 i, .int .i64 j] w fun e w' => e = .returned (.slice (some ⟨b, 0, none⟩) (xs.length - 1) cap) ∧
      Kd.R k88 88 w' base (fun _ => True) (.slice (some ⟨b, 0, none⟩) (xs.length - 1) cap) (xs.eraseIdx i) ∧ w.grownBy w' (some b) := by
  obtain ⟨n, hnn⟩ : ∃ n, n = xs.length := ⟨_, rfl⟩
  rw [← hnn] at hR hi hm ⊢
  have hn : n ≤ cap := (Kd.R_reads' hR).2.1
  obtain ⟨cur, hb, hc, hm2⟩ : ∃ cur : Array Value, w.heap[b]? = some (.cells cur 88 (0, 0)) ∧ cur.size = cap * 3 ∧ cap ≤ maxLen := by
    obtain ⟨_, inner, hown, _⟩ := hR
    rcases hown.2 with ⟨hv, _⟩ | ⟨g', cap', cur, hv, hb, hh, _, hcm, hcs, htake⟩
    · cases hv
    injection hv with ha _ hc
    injection ha with ha
    injection ha with hg
    subst hg; subst hc
    exact ⟨cur, hh, hcs, hcm⟩
  unfold maxLen at hm2
  have hel : (xs.eraseIdx i).length = n - 1 := by rw [List.length_eraseIdx_of_lt (by omega), hnn]
  obtain ⟨A, hA⟩ : ∃ A : Addr, (if cap = j then some (⟨b, 0, none⟩ : Addr) else some ⟨b, j * 3, none⟩) = some A := by
    by_cases h : cap = j
    · exact ⟨⟨b, 0, none⟩, by simp [h]⟩
    · exact ⟨⟨b, j * 3, none⟩, by simp [h]⟩
  have HA : Aside0 (some A = if cap = i + 1 then some (⟨b, 0, none⟩ : Addr) else (some (⟨b, 0, none⟩ : Addr)).map (·.add ((i + 1) * k88.sz))) := ⟨by
    rw [← hA, hij]
    by_cases h : cap = i + 1
    · simp [h]
    · rw [if_neg h, if_neg h]
      simp [Addr.add]
      rfl⟩
  have e1 : n - (i + (n - j)) = 1 := by omega
  have e3 : n - (n - 1) = 1 := by omega
  have HO : Aside0 (Kd.R k88 88 w.drew base (fun _ => True) (.slice (some ⟨b, 0, none⟩) n cap) xs) := ⟨Kd.R_drew hR⟩
  have HCL := Aside0.mk (fun (W1 : World) (h : Kd.R k88 88 W1 base (fun _ => True) (.slice (some ⟨b, 0, none⟩) (n - 1) cap) (xs.eraseIdx i)) (cur1 : Array Value) (hb1 : W1.heap[b]? = some (.cells cur1 88 (0, 0))) (hs1 : cur1.size = cap * 3) =>
    And.intro (fun ty => (show (Builtin.clear_ #[79] ty #[.slice (some ⟨b, (n - 1) * 3, none⟩) (n - (n - 1)) (cap - (n - 1))]).run Try.prog W1 = .ok (.tuple #[]) (W1.setCells b ((n - 1) * 3) [.string ⟨#[]⟩, .int .i64 0, .bool false]) from by
      rw [e3]
      exact run_clear_one W1 79 88 ty (.agg #[.string ⟨#[]⟩, .int .i64 0, .bool false]) Try.underlying79 (fun w => by kernel_rfl) (by decide) b ((n - 1) * 3) _ (fun j hj => by
        have hj2 : j < 3 := hj
        rw [blk_cell hb1]; simp [hs1]; omega) (fun j hj => blk_frozen hb1 _)))
      (Ko.R_tail h [.string ⟨#[]⟩, .int .i64 0, .bool false] (o := (n - 1) * 3) (Nat.le_refl _) (by show (n - 1) * 3 + 3 ≤ cap * 3; omega)))
  have HSZ := Aside0.mk (fun (W1 : World) (h : Kd.R k88 88 W1 base (fun _ => True) (.slice (some ⟨b, 0, none⟩) (n - 1) cap) (xs.eraseIdx i)) => (show ∃ cur1 : Array Value, W1.heap[b]? = some (.cells cur1 88 (0, 0)) ∧ cur1.size = cap * 3 by
    obtain ⟨_, inner, hown, _⟩ := h
    rcases hown.2 with ⟨hv, _⟩ | ⟨g', cap', cur, hv, hb, hh, _, hcm, hcs, htake⟩
    · cases hv
    injection hv with ha _ hc
    injection ha with ha
    injection ha with hg
    subst hg; subst hc
    exact ⟨cur, hh, hcs⟩))
  have e2 : i + (n - j) = n - 1 := by omega
  have hic : i ≤ cap := by omega
  have hjc : j ≤ cap := by omega
  have hjn : j ≤ n := by omega
  have hij1 : i < j := by omega
  have HE2 := Aside0.mk e2
  have HIJ := Aside0.mk hij
  have HN := Aside0.mk hnn
  have h1n : 1 ≤ n := by omega
  clear hc hb hR hij e1 e2 hel hnn e3
  go_enter Try.func59, Try.ntmps59
  go_wp2_with fail
  go_region_law (refine Kd.R_delete_step k88 (w0 := w.drew) base rfl (.tmp 22) (.tmp 25) 79 88 rfl Try.underlying79 (by kernel_rfl) (g := b) (n := n) (c := cap) (k := i) (m := n - j) (c2 := cap - j) (A := some A) (xs := xs) (ok := fun _ => True) (by simp [Act.eval, Act.put]) (by simp [Act.eval, Act.put, hA]) HA.out (by rw [HIJ.out]) HO.out hi (Below.refl _ _) hbase ?_; intro w1 hR1 hb1 hg1)
  obtain ⟨cur1, hb2, hs2⟩ := HSZ.out w1 hR1
  obtain ⟨hcl, hR2, hg2⟩ := HCL.out w1 hR1 cur1 hb2 hs2
  have HR2 := Aside0.mk hR2
  have HG := Aside0.mk (Ko.grown_trans hg1 hg2)
  clear hR2 hR1 hb1 hg1 hg2 hb2 hs2
  go_wp2
  go_ret
  exact ⟨rfl, HR2.out, ⟨HG.out.os, HG.out.tape, HG.out.output, HG.out.size, HG.out.block⟩⟩
end Go.Proofs.Ytmlmiocomlehgaa.Man
namespace Go.Proofs.Ytmlmiocomlehgaa.Man
open Go.RowKit Go.Proofs.YtmlmiocomlehgaaW.PrintWords Go.Proofs.YtmlmiocomlehgaaW.PrintLast Go.Proofs.YtmlmiocomlehgaaW.PrintMore Go.Proofs.Ytmlmiocomlehgaa.PA Go.Proofs.Ytmlmiocomlehgaa.PF Go.Proofs.Ytmlmiocomlehgaa.Hid
variable {w0 w : World} {g : Nat} {s : DS}
theorem IsD.open_cons (h : IsD w0 w g s) (hne : 0 < s.row.length) : ∃ b n, w.heap[g]? = some (.cells #[.slice (some ⟨b, 0, none⟩) s.row.length n] 81 (0, 0)) ∧ Kd.R k88 88 w w0.heap.size (fun _ => True) (.slice (some ⟨b, 0, none⟩) s.row.length n) s.row ∧ w0.heap.size ≤ g := by
  obtain ⟨A, n, hb, hn, hC, hR, hg⟩ := h.open_
  have hR2 := hR
  obtain ⟨_, inner, hown, _⟩ := hR
  rcases hown.2 with ⟨_, h0⟩ | ⟨b, cap, cur, hv, _⟩
  · omega
  · injection hv with ha _ hc2
    subst ha; subst hc2
    exact ⟨b, n, hb, hR2, hg⟩
/-- A row that holds something lies in a block. -/
theorem R_some {w : World} {base : Nat} {ok : Nat → Prop} {v : Value} {xs : List S88} (h : Kd.R k88 88 w base ok v xs) (hne : 0 < xs.length) : ∃ b n, v = .slice (some ⟨b, 0, none⟩) xs.length n ∧ base ≤ b ∧ ∃ cur, w.heap[b]? = some (.cells cur 88 (0, 0)) := by
  obtain ⟨_, inner, hown, _⟩ := h
  rcases hown.2 with ⟨_, h0⟩ | ⟨b, cap, cur, hv, hb, hh, _⟩
  · omega
  · exact ⟨b, cap, hv, hb, cur, hh⟩
/-- The state behind a store of a new row. -/
theorem IsD.put {w3 : World} {v v3 : Value} {row : List S88} (hg : w0.heap.size ≤ g)
    (hk : KeptH TD w w3) (hB3 : Below w0.heap.size w0 w3) (hgb : w3.heap[g]? = some (.cells #[v] 81 (0, 0))) (hR : Kd.R k88 88 w3 w0.heap.size (fun _ => True) v3 row) :
    IsD w0 (w3.setCell ⟨g, 0, none⟩ v3) g ⟨row⟩ ∧ Below w0.heap.size w0 (w3.setCell ⟨g, 0, none⟩ v3) ∧ KeptH TD w (w3.setCell ⟨g, 0, none⟩ v3) := by
  have hg1 : (w3.setCell ⟨g, 0, none⟩ v3).heap[g]? = some (.cells #[v3] 81 (0, 0)) := by simpa using blk_set hgb 0 v3
  refine ⟨⟨v3, hg1, hg, ?_⟩, below_set hB3 hg, hk.setCell (p := ⟨g, 0, none⟩) (.cells hgb (by decide)) _⟩
  exact Kd.R_set hR hgb (by decide) 0 v3
theorem keep_below2 {W W' : World} {g j : Nat} {v : Value} (hb : Below W.heap.size W W') (h1 : W.cell? ⟨g, j, none⟩ = some v) (h2 : W.frozen? ⟨g, j, none⟩ = false) (h3 : g < W.heap.size) : W'.cell? ⟨g, j, none⟩ = some v ∧ W'.frozen? ⟨g, j, none⟩ = false ∧ g < W'.heap.size :=
  ⟨(hb.cell (p := ⟨g, j, none⟩) h3).trans h1, (hb.frozen (p := ⟨g, j, none⟩) h3).trans h2, Nat.lt_of_lt_of_le h3 hb.size⟩
theorem keep_grown2 {W W' : World} {g j : Nat} {v : Value} {row : Option Nat} (hg : W.grownBy W' row) (hne : some g ≠ row) (h1 : W.cell? ⟨g, j, none⟩ = some v) (h2 : W.frozen? ⟨g, j, none⟩ = false) (h3 : g < W.heap.size) : W'.cell? ⟨g, j, none⟩ = some v ∧ W'.frozen? ⟨g, j, none⟩ = false ∧ g < W'.heap.size := by
  have hb := hg.block g h3 hne
  refine ⟨?_, ?_, Nat.lt_of_lt_of_le h3 hg.size⟩
  · rw [← h1]; simp only [World.cell?, hb]
  · rw [← h2]; simp only [World.frozen?, hb]
/-! #### End -/
def endRow (row : List S88) (nm : ByteArray) : List S88 := if placeOf row nm 0 < 0 then row else row.eraseIdx (placeOf row nm 0).toNat
def drains_Drains_End.f (s : DS) (nm : ByteArray) : Option (Bool × DS) := if s.row.length ≤ 1000000000 then some (decide (0 ≤ placeOf s.row nm 0), ⟨endRow s.row nm⟩) else none
set_option maxHeartbeats 1000000 in
theorem end_no (nm : ByteArray) (hI : IsD w0 w g s) (hp : placeOf s.row nm 0 < 0) : Calls Try.prog 40 #[.pointer (some ⟨g, 0, none⟩), .string nm] w fun e w' => e = .returned (.bool false) ∧ Below w.heap.size w w' := by
  have HP := Aside0.mk (place_raw nm hI)
  generalize placeOf s.row nm 0 = i at hp HP
  clear hI
  go_enter Try.func40, Try.ntmps40
  go_wp2_with (go_at_call 58; refine HP.out.mono ?_; rintro e w' ⟨rfl, hb⟩)
  go_ret
  exact ⟨rfl, hb⟩
set_option maxHeartbeats 4000000 in
theorem end_yes (nm : ByteArray) (hI : IsD w0 w g s) (hB : Below w0.heap.size w0 w) (hp : ¬ placeOf s.row nm 0 < 0) (hlen : s.row.length ≤ 1000000000) :
    Calls Try.prog 40 #[.pointer (some ⟨g, 0, none⟩), .string nm] w fun e w' => e = .returned (.bool true) ∧ IsD w0 w' g ⟨s.row.eraseIdx (placeOf s.row nm 0).toNat⟩ ∧ Below w0.heap.size w0 w' ∧ KeptH TD w w' := by
  have HP := Aside0.mk (place_raw nm hI)
  obtain ⟨j, hj⟩ : ∃ j : Nat, placeOf s.row nm 0 = (j : Int) := ⟨(placeOf s.row nm 0).toNat, by omega⟩
  have hjl : j < s.row.length := by
    rcases place_bd s.row nm 0 with h | h <;> omega
  rw [hj] at HP hp ⊢
  rw [Int.toNat_natCast]
  have HI := Aside0.mk hI
  have HB0 := Aside0.mk hB
  clear hI hB hj
  go_enter Try.func40, Try.ntmps40
  go_wp2_with (first
    | (go_at_call 58; refine HP.out.mono ?_; rintro e w1 ⟨rfl, hb1⟩; (
        have HI1 := Aside0.mk (HI.out.below hb1); have HB1 := Aside0.mk hb1; obtain ⟨b, n, hgb, hR, hg⟩ := HI1.out.open_cons (by omega);
        have h1 : w1.cell? ⟨g, 0, none⟩ = some (.slice (some ⟨b, 0, none⟩) s.row.length n) := (blk_cell hgb 0).trans rfl;
        have hf1 : w1.frozen? ⟨g, 0, none⟩ = false := blk_frozen hgb 0;
        have hg1l : g < w1.heap.size := blk_lt hgb;
        have HCL := Aside0.mk (clone_some b n s.row w1 w0.heap.size hR hlen); have HGB := Aside0.mk hgb; clear hR hgb hb1))
    | (go_at_call 60; refine HCL.out.mono ?_; rintro e w2 ⟨v2, rfl, hR2, hb2⟩; obtain ⟨b2, n2, rfl, hbb2, cur2, hcur2⟩ := R_some hR2 (by omega))
    | (go_at_call 59; rw [show ((j : Int) + 1) = ((j + 1 : Nat) : Int) by omega]; refine (delete_R b2 n2 j (j + 1) s.row w2 w1.heap.size hR2 rfl hjl hlen hb2.size).mono ?_; rintro e w3 ⟨rfl, hR3, hg3⟩;
       (have HGB3 := Aside0.mk ((hg3.block g (Nat.lt_of_lt_of_le (blk_lt HGB.out) hb2.size) (by intro e; injection e with e; have := blk_lt HGB.out; omega)).trans ((hb2.block g (blk_lt HGB.out)).trans HGB.out));
        have h3 : w3.cell? ⟨g, 0, none⟩ = some (.slice (some ⟨b, 0, none⟩) s.row.length n) := (blk_cell HGB3.out 0).trans rfl; have hf3 : w3.frozen? ⟨g, 0, none⟩ = false := blk_frozen HGB3.out 0; have hg3l : g < w3.heap.size := blk_lt HGB3.out)))
  have hB1 : Below w0.heap.size w0 w1 := HB0.out.trans (HB1.out.mono HB0.out.size)
  have HFIN := Aside0.mk (IsD.put (w3 := w3) (v3 := .slice (some ⟨b2, 0, none⟩) (s.row.length - 1) n2) (row := s.row.eraseIdx j) hg
    (((KeptH.of_below HB1.out).below hb2).grown hg3 (fun k h => by injection h with h; subst h; exact .inl (.cells hcur2 (by decide))))
    ((hB1.trans (hb2.mono hB1.size)).grown hg3 (Nat.le_trans hB1.size hb2.size) (fun k h => by injection h with h; subst h; exact Nat.le_trans hB1.size hbb2)) HGB3.out (Kd.R_lower hR3 hB1.size))
  go_ret
  exact ⟨rfl, HFIN.out⟩
theorem drains_Drains_End.calls (g : Nat) (s : DS) (a1 : ByteArray) (r1 : Bool) (s' : DS) (w0 w : World) (hI : IsD w0 w g s) (hB : Below w0.heap.size w0 w) (h : drains_Drains_End.f s a1 = some (r1, s')) :
    Calls Try.prog 40 #[.pointer (some ⟨g, 0, none⟩), .string a1] w fun e w' => e = .returned (.bool r1) ∧ IsD w0 w' g s' ∧ Below w0.heap.size w0 w' ∧ KeptH TD w w' := by
  unfold drains_Drains_End.f at h
  split at h
  · rename_i hl
    obtain ⟨rfl, rfl⟩ := Prod.mk.inj (Option.some.inj h)
    unfold endRow
    by_cases hp : placeOf s.row a1 0 < 0
    · rw [if_pos hp, decide_eq_false (by omega)]
      refine (end_no a1 hI hp).mono ?_
      rintro e w' ⟨rfl, hb⟩
      exact ⟨rfl, done_below hI hB hb⟩
    · rw [if_neg hp, decide_eq_true (by omega)]
      exact end_yes a1 hI hB hp hl
  · cases h
end Go.Proofs.Ytmlmiocomlehgaa.Man
