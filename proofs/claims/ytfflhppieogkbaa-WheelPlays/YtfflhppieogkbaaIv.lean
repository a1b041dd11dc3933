/-
  Which method a call through heap.Interface reaches, at the wheel's entries. Conditions: none.
-/
import Derived.Test.YtfflhppieogkbaaProg
import Derived.Test.YtfflhppieogkbaaWMore
import Derived.Test.YtfflhppieogkbaaWTab
import Derived.WalkKit
set_option linter.unusedVariables false
set_option linter.unusedSimpArgs false
namespace Go.Proofs.Ytfflhppieogkbaa.Hp
open Go Go.RowKit Go.Proofs.YtfflhppieogkbaaW.PrintWords Go.Proofs.YtfflhppieogkbaaW.PrintLast Go.Proofs.YtfflhppieogkbaaW.PrintMore
theorem mpush (v : Value) (w : World) : (method 233 64 v "Push").run Try.prog w = .ok (104, v) w := by kernel_rfl
theorem mpop (v : Value) (w : World) : (method 233 64 v "Pop").run Try.prog w = .ok (103, v) w := by kernel_rfl
theorem mlen1 (v : Value) (w : World) : (method 233 64 v "Len").run Try.prog w = (do let r ← receiverAt 64 (.val v) false (some (("Len".splitOn ".").getLastD "Len")); pure (100, r) : Sem (FuncId × Value)).run Try.prog w := by kernel_rfl
theorem mless1 (v : Value) (w : World) : (method 233 64 v "Less").run Try.prog w = (do let r ← receiverAt 64 (.val v) false (some (("Less".splitOn ".").getLastD "Less")); pure (101, r) : Sem (FuncId × Value)).run Try.prog w := by kernel_rfl
theorem mswap1 (v : Value) (w : World) : (method 233 64 v "Swap").run Try.prog w = (do let r ← receiverAt 64 (.val v) false (some (("Swap".splitOn ".").getLastD "Swap")); pure (102, r) : Sem (FuncId × Value)).run Try.prog w := by kernel_rfl
theorem recv (p : Addr) (name : String) (w : World) {A : Option Addr} {n c : Nat} (h : w.cell? p = some (.slice A n c)) : (receiverAt 64 (.val (.pointer (some p))) false (some name)).run Try.prog w = .ok (.slice A n c) w := by
  have hu : Try.prog.underlying 64 = some (.pointer 60) := by kernel_rfl
  have hv : Try.prog.underlying 60 = some (.slice 66) := by kernel_rfl
  have hs : ∀ w, (Builtin.ssaWrapNilChk_ #[64] 64 #[.pointer (some p), strVal "", strVal name]).run Try.prog w = .ok (.pointer (some p)) w := fun _ => rfl
  simp [receiverAt, underlying, hu, hv, Place.get, hs, loadVar, asAddr, go_sem, h]
theorem mlen {p : Addr} {A : Option Addr} {n c : Nat} {w : World} (h : w.cell? p = some (.slice A n c)) : (method 233 64 (.pointer (some p)) "Len").run Try.prog w = .ok (100, .slice A n c) w := by
  rw [mlen1]
  simp [recv p _ w h, go_sem]
theorem mless {p : Addr} {A : Option Addr} {n c : Nat} {w : World} (h : w.cell? p = some (.slice A n c)) : (method 233 64 (.pointer (some p)) "Less").run Try.prog w = .ok (101, .slice A n c) w := by
  rw [mless1]
  simp [recv p _ w h, go_sem]
theorem mswap {p : Addr} {A : Option Addr} {n c : Nat} {w : World} (h : w.cell? p = some (.slice A n c)) : (method 233 64 (.pointer (some p)) "Swap").run Try.prog w = .ok (102, .slice A n c) w := by
  rw [mswap1]
  simp [recv p _ w h, go_sem]
/-! #### the entries' own methods -/
theorem len_raw (A : Option Addr) (n c : Nat) (w : World) : Calls Try.prog 100 #[.slice A n c] w fun e w' => e = .returned (.int .i64 n) ∧ w = w' := by
  go_enter Try.func100, Try.ntmps100
  go_wp2
  go_ret
  exact ⟨rfl, rfl⟩
/-- An entry: its tick, its key. -/
structure E66 where
  f0 : Int
  f1 : Int
def z66 : E66 := ⟨(0 : Int), (0 : Int)⟩
def k66 : Kd E66 := Kd.iso (Kd.pair (Kd.int .i64) (Kd.int .i64)) (fun x : E66 => (x.f0, x.f1))
theorem k66_open {w : World} {x : E66} {cs : List Value} (h : k66.K w x cs) : cs = [.int .i64 x.f0, .int .i64 x.f1] := by
  obtain ⟨_, _, rfl, rfl, rfl⟩ := h
  exact rfl
def rd_T66 (xs : List E66) (i : Int) : E66 := xs.getD i.toNat z66
theorem at_T66 {w : World} {A : Option Addr} {n : Nat} {xs : List E66} (h : Kd.C k66 w A n xs) (i : Int) (h0 : 0 ≤ i) (h1 : i < n) : ∃ ad , A = some ad ∧ w.cell? (ad.add (i.toNat * 2)) = some (.int .i64 (rd_T66 xs i).f0) ∧ w.cell? ⟨(ad.add (i.toNat * 2)).block, (ad.add (i.toNat * 2)).off + 1, none⟩ = some (.int .i64 (rd_T66 xs i).f1) := by
  obtain ⟨ad, c, e, _, hK, hc0⟩ := Kd.C_get h z66 i h0 h1
  have hc : ∀ j u, c[j]? = some u → w.cell? (ad.add (i.toNat * 2 + j)) = some u := hc0
  obtain rfl := k66_open hK
  exact ⟨ad, e, hc 0 _ rfl, by rw [← add_field _ _ 1 (by omega)]; exact hc 1 _ rfl⟩
theorem info66 : (Try.prog.info? 66).map (fun i => (i.zero, i.size, i.bytes)) = some (some (.agg #[(.int .i64 0), (.int .i64 0)]), 2, 16) := by kernel_rfl
def less.T1 : Bool × List (List Nat × List Nat) := (true, [([], []), ([], []), ([0, 1], [0, 1]), ([2], [2]), ([3], [3]), ([], []), ([], []), ([5, 6], [5, 6]), ([7], [7]), ([8], [8]), ([4, 9], [4, 9]), ([10, 0, 1, 2, 3, 4, 5, 6, 7, 8, 9, 10], [10])])
theorem less.tab1 : rtab .any (opsOf Try.f101 1) = less.T1 := by kernel_rfl
set_option maxHeartbeats 2000000 in
theorem less_raw (A : Option Addr) (c : Nat) (xs : List E66) (i k : Nat) (w : World) (hC : k66.C w A xs.length xs) (hc : xs.length ≤ c) (hi : i < xs.length) (hk : k < xs.length) :
    Calls Try.prog 101 #[.slice A xs.length c, .int .i64 (i : Int), .int .i64 (k : Int)] w fun e w' => e = .returned (.bool (decide ((rd_T66 xs (i : Int)).f0 < (rd_T66 xs (k : Int)).f0))) ∧ Below w.heap.size w w' := by
  obtain ⟨ad, rfl, hx0, _⟩ := at_T66 hC (i : Int) (by omega) (by omega)
  obtain ⟨ad2, e2, hy0, _⟩ := at_T66 hC (k : Int) (by omega) (by omega)
  injection e2 with e2
  subst e2
  rw [Int.toNat_natCast] at hx0 hy0
  generalize (rd_T66 xs (i : Int)).f0 = p at hx0 ⊢
  generalize (rd_T66 xs (k : Int)).f0 = q at hy0 ⊢
  have h0i : (0 : Int) ≤ (i : Int) := by omega
  have hil : (i : Int) < (xs.length : Int) := by omega
  have h0k : (0 : Int) ≤ (k : Int) := by omega
  have hkl : (k : Int) < (xs.length : Int) := by omega
  clear hC hc hi hk
  go_enter Try.func101, Try.ntmps101
  go_upto_region 1 with fail
  refine start_ (n := 12) (S := fun w' => w'.cell? (ad.add (i * 2)) = some (.int .i64 p) ∧ w'.cell? (ad.add (k * 2)) = some (.int .i64 q)) (ds := []) #[false, false, false, false, false, false, false, false, false, false, false, false] (by kernel_rfl) rfl rfl ⟨hx0, hy0⟩ (fun hHeld => ?_); refine with_tab less.tab1 (fun HT_ => ?_)
  refine pure_ (i := 0) (N := some 7) (v := ?_) (a' := ?_) #[true, false, false, false, false, false, false, false, false, false, false, false] rfl rfl (any_of HT_.out (by kernel_rfl)) (fun _ _ _ h => h) (Or.inl ⟨by rfl, ?_⟩) ?_ ?_
  rotate_left
  · intro w'
    go_simp
    with_reducible rfl
  rotate_left
  · simp only [Act.put, List.setIfInBounds_toArray, List.set_cons_zero, List.set_cons_succ, i64_w, i32_w]
    rfl
  refine pure_ (i := 1) (N := some 8) (v := ?_) (a' := ?_) #[true, true, false, false, false, false, false, false, false, false, false, false] rfl rfl (any_of HT_.out (by kernel_rfl)) (fun _ _ _ h => h) (Or.inl ⟨by rfl, ?_⟩) ?_ ?_
  rotate_left
  · intro w'
    go_simp
    with_reducible rfl
  rotate_left
  · simp only [Act.put, List.setIfInBounds_toArray, List.set_cons_zero, List.set_cons_succ, i64_w, i32_w]
    rfl
  refine pure_ (i := 2) (N := some 9) (v := ?_) (a' := ?_) #[true, true, true, false, false, false, false, false, false, false, false, false] rfl rfl (any_of HT_.out (by kernel_rfl)) (fun _ _ _ h => h) (Or.inl ⟨by rfl, ?_⟩) ?_ ?_
  rotate_left
  · intro w'
    go_simp
    with_reducible rfl
  rotate_left
  · simp only [Act.put, List.setIfInBounds_toArray, List.set_cons_zero, List.set_cons_succ, i64_w, i32_w]
    rfl
  refine pure_ (i := 3) (N := some 10) (v := ?_) (a' := ?_) #[true, true, true, true, false, false, false, false, false, false, false, false] rfl rfl (any_of HT_.out (by kernel_rfl)) (fun _ _ _ h => h) (Or.inl ⟨by rfl, ?_⟩) ?_ ?_
  rotate_left
  · intro w'
    go_simp
    with_reducible rfl
  rotate_left
  · simp only [Act.put, List.setIfInBounds_toArray, List.set_cons_zero, List.set_cons_succ, i64_w, i32_w]
    rfl
  refine pure_ (i := 5) (N := some 12) (v := ?_) (a' := ?_) #[true, true, true, true, false, true, false, false, false, false, false, false] rfl rfl (any_of HT_.out (by kernel_rfl)) (fun _ _ _ h => h) (Or.inl ⟨by rfl, ?_⟩) ?_ ?_
  rotate_left
  · intro w'
    go_simp
    with_reducible rfl
  rotate_left
  · simp only [Act.put, List.setIfInBounds_toArray, List.set_cons_zero, List.set_cons_succ, i64_w, i32_w]
    rfl
  refine pure_ (i := 6) (N := some 13) (v := ?_) (a' := ?_) #[true, true, true, true, false, true, true, false, false, false, false, false] rfl rfl (any_of HT_.out (by kernel_rfl)) (fun _ _ _ h => h) (Or.inl ⟨by rfl, ?_⟩) ?_ ?_
  rotate_left
  · intro w'
    go_simp
    with_reducible rfl
  rotate_left
  · simp only [Act.put, List.setIfInBounds_toArray, List.set_cons_zero, List.set_cons_succ, i64_w, i32_w]
    rfl
  refine pure_ (i := 7) (N := some 14) (v := ?_) (a' := ?_) #[true, true, true, true, false, true, true, true, false, false, false, false] rfl rfl (any_of HT_.out (by kernel_rfl)) (fun _ _ _ h => h) (Or.inl ⟨by rfl, ?_⟩) ?_ ?_
  rotate_left
  · intro w'
    go_simp
    with_reducible rfl
  rotate_left
  · simp only [Act.put, List.setIfInBounds_toArray, List.set_cons_zero, List.set_cons_succ, i64_w, i32_w]
    rfl
  refine pure_ (i := 8) (N := some 15) (v := ?_) (a' := ?_) #[true, true, true, true, false, true, true, true, true, false, false, false] rfl rfl (any_of HT_.out (by kernel_rfl)) (fun _ _ _ h => h) (Or.inl ⟨by rfl, ?_⟩) ?_ ?_
  rotate_left
  · intro w'
    go_simp
    with_reducible rfl
  rotate_left
  · simp only [Act.put, List.setIfInBounds_toArray, List.set_cons_zero, List.set_cons_succ, i64_w, i32_w]
    rfl
  refine take_ (i := 4) (N := some 11) (v := ?_) (a' := ?_) #[true, true, true, true, true, true, true, true, true, false, false, false] rfl rfl (take_of HT_.out (by kernel_rfl)) (fun _ _ _ h => h) (Or.inl ⟨by rfl, ?_⟩) hHeld ?_ ?_
  rotate_left
  · intro w' hS_
    obtain ⟨s0, s1⟩ := hS_
    go_simp
    with_reducible rfl
  rotate_left
  · simp only [Act.put, List.setIfInBounds_toArray, List.set_cons_zero, List.set_cons_succ, i64_w, i32_w]
    rfl
  refine take_ (i := 9) (N := some 16) (v := ?_) (a' := ?_) #[true, true, true, true, true, true, true, true, true, true, false, false] rfl rfl (take_of HT_.out (by kernel_rfl)) (fun _ _ _ h => h) (Or.inl ⟨by rfl, ?_⟩) hHeld ?_ ?_
  rotate_left
  · intro w' hS_
    obtain ⟨s0, s1⟩ := hS_
    go_simp
    with_reducible rfl
  rotate_left
  · simp only [Act.put, List.setIfInBounds_toArray, List.set_cons_zero, List.set_cons_succ, i64_w, i32_w]
    rfl
  refine pure_ (i := 10) (N := some 17) (v := ?_) (a' := ?_) #[true, true, true, true, true, true, true, true, true, true, true, false] rfl rfl (any_of HT_.out (by kernel_rfl)) (fun _ _ _ h => h) (Or.inl ⟨by rfl, ?_⟩) ?_ ?_
  rotate_left
  · intro w'
    go_simp
    with_reducible rfl
  rotate_left
  · simp only [Act.put, List.setIfInBounds_toArray, List.set_cons_zero, List.set_cons_succ, i64_w, i32_w]
    rfl
  refine pure_ (i := 11) (N := some 6) (v := ?_) (a' := ?_) #[true, true, true, true, true, true, true, true, true, true, true, true] rfl rfl (any_of HT_.out (by kernel_rfl)) (fun _ _ _ h => h) (Or.inl ⟨by rfl, ?_⟩) ?_ ?_
  rotate_left
  · intro w'
    go_simp
    with_reducible rfl
  rotate_left
  · simp only [Act.put, List.setIfInBounds_toArray, List.set_cons_zero, List.set_cons_succ, i64_w, i32_w]
    rfl
  refine done_ (done_of HT_.out (by kernel_rfl)) ?_
  clear hHeld
  go_wp2
  go_ret
  exact ⟨rfl, below_drew1 (Below.refl _ _)⟩
end Go.Proofs.Ytfflhppieogkbaa.Hp
