/-
  The contract of guard.First: the first of the asked that may leave. Conditions: none.
-/
import Derived.Test.YthlhjgbmcehpdaaPAx1
import Derived.WalkSpells
import Derived.WalkLawsBesides
import Derived.Handy
set_option linter.unusedVariables false
set_option linter.unusedSimpArgs false
namespace Go.Proofs.Ythlhjgbmcehpdaa.ManB
open Go.RowKit Go.Proofs.Ythlhjgbmcehpdaa.PA Go.Proofs.YthlhjgbmcehpdaaW.PrintWords Go.Proofs.YthlhjgbmcehpdaaW.PrintLast

set_option maxHeartbeats 1000000 in
/-- The closure. -/
theorem first1_calls (k : Nat) (A0 : Option Addr) (c0 : Nat) (l0 : List Int) (x a2 a3 : Int) (b : Bool) (W : World) (B1 B2 B3 : Nat) (h1 : W.cell? ⟨B1, 0, none⟩ = some (.slice A0 l0.length c0)) (h2 : W.cell? ⟨B2, 0, none⟩ = some (.int .i64 a2)) (h3 : W.cell? ⟨B3, 0, none⟩ = some (.int .i64 a3))
    (hr : Kd.C (Kd.int .i64) W A0 l0.length l0) (hc : l0.length ≤ c0) (h : guard_May.f k l0 x a2 a3 = some b) :
    Calls Try.prog 44 #[.int .i64 x, .pointer (some ⟨B1, 0, none⟩), .pointer (some ⟨B2, 0, none⟩), .pointer (some ⟨B3, 0, none⟩)] W fun e w' => e = .returned (.bool b) ∧ Below W.heap.size W w' := by
  have HR := Aside0.mk hr
  have HC := Aside0.mk hc
  have H := Aside0.mk h
  clear hr hc h
  go_enter Try.func44, Try.ntmps44
  go_wp2_with (go_at_call 18; refine (guard_May.calls k _ _ l0 x a2 a3 b _ HR.out HC.out H.out).mono ?_; rintro e w' ⟨rfl, hb⟩)
  go_ret
  exact ⟨rfl, hb⟩
/-- The first place, from i on, at which p holds; -1: none. -/
def idxFrom (p : Int → Bool) : List Int → Int → Int
  | [], _ => -1
  | x :: xs, i => if p x = true then i else idxFrom p xs (i + 1)
theorem drop_rd (l : List Int) (i : Nat) (h : i < l.length) : l.drop i = rd l (i : Int) :: l.drop (i + 1) := by
  rw [List.drop_eq_getElem_cons h]
  simp [rd, List.getD_eq_getElem?_getD, h]

set_option maxHeartbeats 2000000 in
/-- slices.IndexFunc over the closure. -/
theorem index_calls (p : Int → Bool) (A1 : Option Addr) (c1 : Nat) (l1 : List Int) (B1 B2 B3 : Nat) (w : World) (hr : Kd.C (Kd.int .i64) w A1 l1.length l1)
    (hp : ∀ (x : Int) (W : World), x ∈ l1 → Below w.heap.size w W → Calls Try.prog 44 #[.int .i64 x, .pointer (some ⟨B1, 0, none⟩), .pointer (some ⟨B2, 0, none⟩), .pointer (some ⟨B3, 0, none⟩)] W fun e w' => e = .returned (.bool (p x)) ∧ Below W.heap.size W w') :
    Calls Try.prog 43 #[.slice A1 l1.length c1, .func (.func 44) #[] #[.pointer (some ⟨B1, 0, none⟩), .pointer (some ⟨B2, 0, none⟩), .pointer (some ⟨B3, 0, none⟩)]] w fun e w' => e = .returned (.int .i64 (idxFrom p l1 0)) ∧ Below w.heap.size w w' := by
  have HR := Aside0.mk hr
  have HP := Aside0.mk hp
  clear hr hp
  have HM : Hid (l1.length ≤ 9223372036854775807) := (Kd.reads_of_C (d := (0 : Int)) HR.out).2.1
  go_enter Try.func43, Try.ntmps43
  go_wp2
  go_loopw [8] (fun i wr => ∃ k : Nat, k ≤ l1.length ∧ i = .int .i64 k ∧ Aside0 (Below w.heap.size w wr) ∧ Aside0 (idxFrom p l1 0 = idxFrom p (l1.drop k) k)) (fun i _ => l1.length - (intOf i).toNat)
  case atStart => exact ⟨0, Nat.zero_le _, rfl, ⟨Below.refl _ _⟩, ⟨by simp⟩⟩
  case round =>
    obtain ⟨k, hk, rfl, HB, HI⟩ := hrel
    by_cases hlt : k < l1.length
    · obtain ⟨ad, e, hx⟩ := Kd.at_int (Kd.C_below HR.out HB.out) (k : Int) (by omega) (by omega)
      cases e
      rw [Int.toNat_natCast] at hx
      have hm := HM.out
      have HI2 := Aside0.mk (HI.out.trans (congrArg (fun z => idxFrom p z k) (drop_rd l1 k hlt)))
      have HMEM := Aside0.mk (show rd l1 (k : Int) ∈ l1 from by simp [rd, List.getD_eq_getElem?_getD, hlt])
      clear HI
      obtain ⟨x, HE⟩ : ∃ x, Aside0 (rd l1 (k : Int) = x) := ⟨_, ⟨rfl⟩⟩
      rw [HE.out] at hx
      have HMEM := Aside0.mk (HE.out ▸ HMEM.out)
      have HI2 := Aside0.mk (show idxFrom p l1 0 = if p x = true then (k : Int) else idxFrom p (l1.drop (k + 1)) ((k : Int) + 1) from by rw [HI2.out, HE.out]; rfl)
      cases hpx : p x with
      | true =>
        have HX := Aside0.mk hpx
        clear hpx
        go_wp2_with (go_at_call 44; refine (HP.out x _ HMEM.out HB.out).mono ?_; rintro e w' ⟨rfl, hb⟩; rw [HX.out])
        go_ret
        exact ⟨by rw [HI2.out, if_pos HX.out]; rfl, below_step HB.out hb⟩
      | false =>
        have HX := Aside0.mk hpx
        clear hpx
        go_wp2_with (go_at_call 44; refine (HP.out x _ HMEM.out HB.out).mono ?_; rintro e w' ⟨rfl, hb⟩; rw [HX.out])
        go_roundw
        case rel => exact ⟨k + 1, by omega, by go_num, ⟨below_step HB.out hb⟩, ⟨by rw [HI2.out, if_neg (by rw [HX.out]; simp)]; rfl⟩⟩
        case measure => simp [intOf]; omega
    · have HI2 := Aside0.mk (show idxFrom p l1 0 = -1 from by rw [HI.out, List.drop_eq_nil_of_le (by omega)]; rfl)
      clear HI
      go_wp2
      go_ret
      exact ⟨by rw [HI2.out]; rfl, HB.out⟩
/-- May, as far as it answers. -/
def mayB (k : Nat) (l0 : List Int) (a2 a3 : Int) (x : Int) : Bool := (guard_May.f k l0 x a2 a3).getD false
/-- The first of a list at which p holds. -/
def firstP (p : Int → Bool) : List Int → Int × Bool
  | [] => (0, false)
  | x :: xs => if p x = true then (x, true) else firstP p xs
/-- What guard.First answers: where May answers for all that are asked. -/
def guard_First.f (k : Nat) (l0 l1 : List Int) (a2 a3 : Int) : Option (Int × Bool) :=
  if (l1.all fun x => (guard_May.f k l0 x a2 a3).isSome) = true then some (firstP (mayB k l0 a2 a3) l1) else none
theorem may_at {k : Nat} {l0 l1 : List Int} {a2 a3 : Int} (h : (l1.all fun x => (guard_May.f k l0 x a2 a3).isSome) = true) (x : Int) (hx : x ∈ l1) : guard_May.f k l0 x a2 a3 = some (mayB k l0 a2 a3 x) := by
  have := List.all_eq_true.mp h x hx
  unfold mayB
  cases hm : guard_May.f k l0 x a2 a3 with
  | none => rw [hm] at this; simp at this
  | some b => rfl
theorem firstP_congr {p q : Int → Bool} (l : List Int) (h : ∀ x ∈ l, p x = q x) : firstP p l = firstP q l := by
  induction l with
  | nil => rfl
  | cons x xs ih =>
    unfold firstP
    rw [h x (by simp), ih (fun y hy => h y (by simp [hy]))]
theorem guard_First.mono : ∀ a0 a1 a2 a3 k, LeO (guard_First.f k a0 a1 a2 a3) (guard_First.f (k + 1) a0 a1 a2 a3) := by
  intro l0 l1 a2 a3 k r h
  unfold guard_First.f at h ⊢
  split at h
  · rename_i hall
    have hn : ∀ x ∈ l1, guard_May.f (k + 1) l0 x a2 a3 = some (mayB k l0 a2 a3 x) := fun x hx => guard_May.mono _ _ _ _ k _ (may_at hall x hx)
    have hall' : (l1.all fun x => (guard_May.f (k + 1) l0 x a2 a3).isSome) = true := List.all_eq_true.mpr fun x hx => by rw [hn x hx]; rfl
    rw [if_pos hall', ← h]
    congr 1
    exact firstP_congr l1 fun x hx => by unfold mayB; rw [hn x hx]; rfl
  · cases h
/-- The answer is the one at the first place. -/
theorem firstP_idx (p : Int → Bool) (l : List Int) : ∀ (i : Int), 0 ≤ i →
    ((idxFrom p l i = -1 ∧ firstP p l = (0, false)) ∨ ∃ j : Nat, j < l.length ∧ idxFrom p l i = i + j ∧ firstP p l = (rd l (j : Int), true)) := by
  induction l with
  | nil => intro i _; exact .inl ⟨rfl, rfl⟩
  | cons x xs ih =>
    intro i hi
    unfold idxFrom firstP
    by_cases hbt : p x = true
    · rw [if_pos hbt, if_pos hbt]
      exact .inr ⟨0, by simp, by omega, rfl⟩
    · rw [if_neg hbt, if_neg hbt]
      rcases ih (i + 1) (by omega) with h1 | ⟨j, h1, h2, h3⟩
      · exact .inl h1
      · refine .inr ⟨j + 1, by simp; omega, by rw [h2]; omega, ?_⟩
        rw [h3]
        simp [rd]
theorem below3 (w : World) (o1 o2 o3 : Obj) : Below w.heap.size w (((w.alloc o1).alloc o2).alloc o3) := (((Below.refl _ w).alloc (Nat.le_refl _) _).alloc (by simp) _).alloc (by simp; omega) _

set_option maxHeartbeats 2000000 in
theorem guard_First.calls (k : Nat) (A0 : Option Addr) (c0 : Nat) (l0 : List Int) (A1 : Option Addr) (c1 : Nat) (l1 : List Int) (a2 : Int) (a3 : Int) (r1 : Int) (r2 : Bool) (w : World) (hr0 : Kd.C (Kd.int .i64) w A0 l0.length l0) (hc0 : l0.length ≤ c0)
    (hr1 : Kd.C (Kd.int .i64) w A1 l1.length l1) (hc1 : l1.length ≤ c1) (h : guard_First.f k l0 l1 a2 a3 = some (r1, r2)) :
    Calls Try.prog 32 #[.slice A0 l0.length c0, .slice A1 l1.length c1, .int .i64 a2, .int .i64 a3] w fun e w' => e = .returned (.tuple #[.int .i64 r1, .bool r2]) ∧ Below w.heap.size w w' := by
  unfold guard_First.f at h
  split at h
  rotate_left
  · cases h
  rename_i hall
  have HA := Aside0.mk hall
  have HF := Aside0.mk (Option.some.inj h)
  have HR0 := Aside0.mk hr0
  have HC0 := Aside0.mk hc0
  have HR1 := Aside0.mk hr1
  clear hall h hr0 hc0 hr1 hc1
  have HI := Aside0.mk (firstP_idx (mayB k l0 a2 a3) l1 0 (Int.le_refl 0))
  have HCALL := Aside0.mk (fun (o1 o2 o3 : Obj) (h1 : o1 = .cells #[.slice A0 l0.length c0] 22) (h2 : o2 = .cells #[.int .i64 a2] 3) (h3 : o3 = .cells #[.int .i64 a3] 3) =>
    index_calls (mayB k l0 a2 a3) A1 c1 l1 w.heap.size (w.heap.size + 1) (w.heap.size + 2) (((w.alloc o1).alloc o2).alloc o3) (Kd.C_below HR1.out (below3 w o1 o2 o3)) (fun x W hx hb => by
      have hb0 := below_step (below3 w o1 o2 o3) hb
      refine first1_calls k A0 c0 l0 x a2 a3 _ W _ _ _ ?_ ?_ ?_ (Kd.C_below HR0.out hb0) HC0.out (may_at HA.out x hx)
      · subst h1 h2 h3
        exact (hb.cell (p := ⟨w.heap.size, 0, none⟩) (by simp; omega)).trans (by simp [go_sem])
      · subst h1 h2 h3
        exact (hb.cell (p := ⟨w.heap.size + 1, 0, none⟩) (by simp)).trans (by simp [go_sem])
      · subst h1 h2 h3
        exact (hb.cell (p := ⟨w.heap.size + 2, 0, none⟩) (by simp)).trans (by simp [go_sem])))
  rcases HI.out with ⟨hi, hf⟩ | ⟨j, hj, hi, hf⟩
  · obtain ⟨rfl, rfl⟩ : (0 : Int) = r1 ∧ false = r2 := by
      have := hf.symm.trans HF.out
      injection this with h1 h2
      exact ⟨h1, h2⟩
    rw [hi] at HCALL
    clear hi hf HI HF HA
    go_enter Try.func32, Try.ntmps32
    go_wp2_with (go_at_call 43; refine (HCALL.out _ _ _ rfl rfl rfl).mono ?_; rintro e w' ⟨rfl, hb⟩)
    go_ret2
    exact ⟨rfl, below_step (below3 w _ _ _) hb⟩
  · obtain ⟨rfl, rfl⟩ : rd l1 (j : Int) = r1 ∧ true = r2 := by
      have := hf.symm.trans HF.out
      injection this with h1 h2
      exact ⟨h1, h2⟩
    rw [hi, Int.zero_add] at HCALL
    clear hi hf HI HF HA
    have HX := Aside0.mk (fun (W : World) (hb : Below w.heap.size w W) => Kd.at_int (Kd.C_below HR1.out hb) (j : Int) (by omega) (by omega))
    have HM : Hid (l1.length ≤ 9223372036854775807) := (Kd.reads_of_C (d := (0 : Int)) HR1.out).2.1
    have hm := HM.out
    go_enter Try.func32, Try.ntmps32
    go_wp2_with (go_at_call 43; refine (HCALL.out _ _ _ rfl rfl rfl).mono ?_; rintro e w' ⟨rfl, hb⟩; obtain ⟨ad, ea, hx⟩ := HX.out w' (below_step (below3 w _ _ _) hb); cases ea; rw [Int.toNat_natCast] at hx; have HB := Aside0.mk (below_step (below3 w _ _ _) hb); clear hb)
    go_ret2
    exact ⟨rfl, HB.out⟩
end Go.Proofs.Ythlhjgbmcehpdaa.ManB
