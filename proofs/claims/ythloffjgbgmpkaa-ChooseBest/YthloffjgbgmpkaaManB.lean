/-
  The contracts of choose.Serve, choose.Open and choose.Warm. Conditions: none.
-/
import Derived.Test.YthloffjgbgmpkaaLSx1
import Derived.Test.YthloffjgbgmpkaaLOx2
import Derived.Test.YthloffjgbgmpkaaLOx3
import Derived.WalkSpells
import Derived.WalkLawsBesides
import Derived.Handy
set_option linter.unusedVariables false
set_option linter.unusedSimpArgs false
namespace Go.Proofs.Ythloffjgbgmpkaa.Man
open Go.RowKit Go.Proofs.Ythloffjgbgmpkaa.PA Go.Proofs.YthloffjgbgmpkaaW.PrintWords Go.Proofs.YthloffjgbgmpkaaW.PrintLast Go.Proofs.YthloffjgbgmpkaaW.PrintMore

attribute [local go_sem] max2_int min2_int max_two min_two   -- for this text's walks alone
/-- A captured variable, told as a row of one element. -/
theorem cap_int {W : World} {B : Nat} {x : Int} (h : W.cell? ⟨B, 0, none⟩ = some (.int .i64 x)) : Kd.C (Kd.int .i64) W (some ⟨B, 0, none⟩) ([x] : List Int).length [x] :=
  Kd.C_of_reads (d := (0 : Int)) ⟨rfl, by simp, fun _ => ⟨⟨B, 0, none⟩, rfl, fun j hj => by
    have : j = 0 := by simp at hj; omega
    subst this
    simpa [Addr.add] using h⟩⟩

def choose_Serve.f (k : Nat) (l0 : List S32) : Option (Int × Bool) := LS.choose_Host_int.f k l0 0 0
theorem choose_Serve.mono : ∀ a0 k, LeO (choose_Serve.f k a0) (choose_Serve.f (k + 1) a0) := fun a0 k => LS.choose_Host_int.mono a0 0 0 k
set_option maxHeartbeats 1000000 in
theorem choose_Serve.calls (k : Nat) (A0 : Option Addr) (c0 : Nat) (l0 : List S32) (r1 : Int) (r2 : Bool) (w : World) (hr0 : Kd.C k32 w A0 l0.length l0) (hc0 : l0.length ≤ c0) (h : choose_Serve.f k l0 = some (r1, r2)) :
    Calls Try.prog 10 #[.slice A0 l0.length c0] w fun e w' => e = .returned (.tuple #[.int .i64 r1, .bool r2]) ∧ Below w.heap.size w w' := by
  have HC := Aside0.mk (LS.choose_Host_int.calls k A0 c0 l0 0 0 r1 r2 w hr0 hc0 h)
  clear hr0 hc0 h
  go_enter Try.func10, Try.ntmps10
  go_wp2_with (go_at_call 20; refine HC.out.mono ?_; rintro e w' ⟨rfl, hb⟩)
  go_ret2
  exact ⟨rfl, hb⟩

def choose_Open.f (k : Nat) (l0 : List S32) (a1 : Int) : Option (Int × Bool) := LO.choose_Host_int.f k l0 0 0 [a1]
theorem choose_Open.mono : ∀ a0 a1 k, LeO (choose_Open.f k a0 a1) (choose_Open.f (k + 1) a0 a1) := fun a0 a1 k => LO.choose_Host_int.mono a0 0 0 [a1] k
set_option maxHeartbeats 1000000 in
theorem choose_Open.calls (k : Nat) (A0 : Option Addr) (c0 : Nat) (l0 : List S32) (a1 : Int) (r1 : Int) (r2 : Bool) (w : World) (hr0 : Kd.C k32 w A0 l0.length l0) (hc0 : l0.length ≤ c0) (h : choose_Open.f k l0 a1 = some (r1, r2)) :
    Calls Try.prog 11 #[.slice A0 l0.length c0, .int .i64 a1] w fun e w' => e = .returned (.tuple #[.int .i64 r1, .bool r2]) ∧ Below w.heap.size w w' := by
  have HR := Aside0.mk hr0
  have HC := Aside0.mk hc0
  have H := Aside0.mk h
  have HCALL := Aside0.mk (fun (o1 : Obj) (h1 : o1 = .cells #[.int .i64 a1] 3) =>
    LO.choose_Host_int.calls k A0 c0 l0 0 0 (some ⟨w.heap.size, 0, none⟩) 1 [a1] r1 r2 (w.alloc o1) (Kd.C_below hr0 ((Below.refl _ w).alloc (Nat.le_refl _) _)) hc0
      (cap_int (by subst h1; simp [go_sem])) (Nat.le_refl _) h)
  clear hr0 hc0 h
  go_enter Try.func11, Try.ntmps11
  go_wp2_with (go_at_call 20; refine (HCALL.out _ rfl).mono ?_; rintro e w' ⟨rfl, hb⟩)
  go_ret2
  exact ⟨rfl, below_step ((Below.refl _ w).alloc (Nat.le_refl _) _) hb⟩

def choose_Warm.f (k : Nat) (l0 : List S32) (a1 a2 : Int) : Option (Int × Bool) := (LO.choose_Host.f k l0 0 [a1] [a2]).bind fun i => some (mx i 0, decide (i ≥ 0))
theorem choose_Warm.mono : ∀ a0 a1 a2 k, LeO (choose_Warm.f k a0 a1 a2) (choose_Warm.f (k + 1) a0 a1 a2) := fun a0 a1 a2 k => LeO.bind (LO.choose_Host.mono a0 0 [a1] [a2] k) (fun _ => LeO.refl _)
set_option maxHeartbeats 1000000 in
theorem choose_Warm.calls (k : Nat) (A0 : Option Addr) (c0 : Nat) (l0 : List S32) (a1 a2 : Int) (r1 : Int) (r2 : Bool) (w : World) (hr0 : Kd.C k32 w A0 l0.length l0) (hc0 : l0.length ≤ c0) (h : choose_Warm.f k l0 a1 a2 = some (r1, r2)) :
    Calls Try.prog 13 #[.slice A0 l0.length c0, .int .i64 a1, .int .i64 a2] w fun e w' => e = .returned (.tuple #[.int .i64 r1, .bool r2]) ∧ Below w.heap.size w w' := by
  obtain ⟨i, h1, h2⟩ := Option.bind_eq_some_iff.mp h
  obtain ⟨rfl, rfl⟩ := Prod.mk.inj (Option.some.inj h2)
  have HCALL := Aside0.mk (fun (o1 o2 : Obj) (h1' : o1 = .cells #[.int .i64 a1] 3) (h2' : o2 = .cells #[.int .i64 a2] 3) =>
    LO.choose_Host.calls k A0 c0 l0 0 (some ⟨w.heap.size, 0, none⟩) 1 [a1] (some ⟨w.heap.size + 1, 0, none⟩) 1 [a2] i ((w.alloc o1).alloc o2) (Kd.C_below hr0 (((Below.refl _ w).alloc (Nat.le_refl _) _).alloc (by simp) _)) hc0
      (cap_int (by subst h1'; subst h2'; simp [go_sem])) (Nat.le_refl _) (cap_int (by subst h1'; subst h2'; simp [go_sem])) (Nat.le_refl _) h1)
  clear hr0 hc0 h h1 h2
  obtain ⟨m, hm⟩ : ∃ m, mx i 0 = m := ⟨_, rfl⟩
  have hm_ : (if i < 0 then 0 else i) = m := hm
  rw [hm]
  go_enter Try.func13, Try.ntmps13
  go_wp2_with (go_at_call 28; refine (HCALL.out _ _ rfl rfl).mono ?_; rintro e w' ⟨rfl, hb⟩)
  go_ret2
  exact ⟨rfl, below_step (((Below.refl _ w).alloc (Nat.le_refl _) _).alloc (by simp) _) hb⟩
end Go.Proofs.Ythloffjgbgmpkaa.Man
