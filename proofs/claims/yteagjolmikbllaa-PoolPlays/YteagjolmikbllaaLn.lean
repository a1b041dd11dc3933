/-
  The laws' example over the pool; a pool that isn't there. Conditions: none.
-/
import Derived.Test.YteagjolmikbllaaWm
set_option linter.unusedVariables false
set_option linter.unusedSimpArgs false
namespace Go.Proofs.Yteagjolmikbllaa.Ob
open Go.RowKit Go.Proofs.YteagjolmikbllaaW.PrintWords Go.Proofs.YteagjolmikbllaaW.PrintLast Go.Proofs.YteagjolmikbllaaW.PrintMore Go.Proofs.Yteagjolmikbllaa.Hid Go.Proofs.Yteagjolmikbllaa.Mp Go.Proofs.Yteagjolmikbllaa.PA
theorem i1 : I64 1 := show (Lit.int .i64 1).wf = true by decide
theorem i2 : I64 2 := show (Lit.int .i64 2).wf = true by decide
def l0 : PS := ⟨3, [], []⟩
def l1 : PS := ⟨3, [(1, 1)], []⟩
def l2 : PS := ⟨3, [(1, 1), (2, 1)], []⟩
def l3 : PS := ⟨3, [(1, 2), (2, 1)], [1]⟩
def l4 : PS := ⟨3, [(1, 2), (2, 2)], [1, 2]⟩
def l5 : PS := ⟨3, [(1, 2), (2, 3)], [1]⟩
def l6 : PS := ⟨3, [(1, 3), (2, 3)], []⟩
theorem e1 : makeF l0 1 = (0, l1) := rfl
theorem e2 : makeF l1 2 = (0, l2) := rfl
theorem e3 : readyF l2 1 = (true, l3) := rfl
theorem e4 : readyF l3 2 = (true, l4) := rfl
theorem e5 : takeF l4 = (2, true, l5) := rfl
theorem e6 : takeF l5 = (1, true, l6) := rfl
set_option maxHeartbeats 4000000 in
theorem lives_raw (w : World) : Calls Try.prog 8 #[] w fun e w' => e = .returned (.bool true) ∧ Below w.heap.size w w' := by
  have v0 : PInv l0 := PInv.new 3 (by decide)
  have v1 : PInv l1 := by have := v0.make i1; rwa [e1] at this
  have v2 : PInv l2 := by have := v1.make i2; rwa [e2] at this
  have v3 : PInv l3 := by have := v2.ready i1; rwa [e3] at this
  have v4 : PInv l4 := by have := v3.ready i2; rwa [e4] at this
  have v5 : PInv l5 := by have := v4.take; rwa [e5] at this
  have v6 : PInv l6 := by have := v5.take; rwa [e6] at this
  have HN := Aside0.mk (new_raw 3 w w (Below.refl _ _))
  rw [show sizeOf 3 = 3 from rfl] at HN
  have H1 := Aside0.mk (fun (g : Nat) (W : World) (hI : IsP w W g l0) (hB : Below w.heap.size w W) => make_any 1 i1 v0 hI hB)
  have H2 := Aside0.mk (fun (g : Nat) (W : World) (hI : IsP w W g l1) (hB : Below w.heap.size w W) => make_any 2 i2 v1 hI hB)
  have H3 := Aside0.mk (fun (g : Nat) (W : World) (hI : IsP w W g l2) (hB : Below w.heap.size w W) => ready_any 1 i1 v2 hI hB)
  have H4 := Aside0.mk (fun (g : Nat) (W : World) (hI : IsP w W g l3) (hB : Below w.heap.size w W) => ready_any 2 i2 v3 hI hB)
  have H5 := Aside0.mk (fun (g : Nat) (W : World) (hI : IsP w W g l4) (hB : Below w.heap.size w W) => take_any v4 hI hB)
  have H6 := Aside0.mk (fun (g : Nat) (W : World) (hI : IsP w W g l5) (hB : Below w.heap.size w W) => take_any v5 hI hB)
  have H7 := Aside0.mk (fun (g : Nat) (W : World) (hI : IsP w W g l6) => len_raw v6 hI)
  have H8 := Aside0.mk (fun (g : Nat) (W : World) (hI : IsP w W g l6) => room_raw hI)
  rw [e1] at H1
  rw [e2] at H2
  rw [e3] at H3
  rw [e4] at H4
  rw [e5] at H5
  rw [e6] at H6
  rw [show (l6.what.length : Int) = 2 from rfl] at H7
  rw [show (l6.size : Int) - (l6.what.length : Int) = 1 from rfl] at H8
  clear v0 v1 v2 v3 v4 v5 v6
  go_enter Try.func8, Try.ntmps8
  go_wp2_with (first
    | (go_at_call 9; refine HN.out.mono ?_; rintro e wa ⟨g, rfl, hi, hb, _⟩; have KA := Aside0.mk hi; have BA := Aside0.mk hb; clear hi hb HN)
    | (go_at_call 10; refine (H1.out g wa KA.out BA.out).mono ?_; rintro e wb ⟨rfl, hi, hb, _⟩; have KB := Aside0.mk hi; have BB := Aside0.mk hb; clear hi hb H1 KA BA)
    | (go_at_call 10; refine (H2.out g wb KB.out BB.out).mono ?_; rintro e wc ⟨rfl, hi, hb, _⟩; have KC := Aside0.mk hi; have BC := Aside0.mk hb; clear hi hb H2 KB BB)
    | (go_at_call 11; refine (H3.out g wc KC.out BC.out).mono ?_; rintro e wd ⟨rfl, hi, hb, _⟩; have KD := Aside0.mk hi; have BD := Aside0.mk hb; clear hi hb H3 KC BC)
    | (go_at_call 11; refine (H4.out g wd KD.out BD.out).mono ?_; rintro e we ⟨rfl, hi, hb, _⟩; have KE := Aside0.mk hi; have BE := Aside0.mk hb; clear hi hb H4 KD BD)
    | (go_at_call 12; refine (H5.out g we KE.out BE.out).mono ?_; rintro e wf ⟨rfl, hi, hb, _⟩; have KF := Aside0.mk hi; have BF := Aside0.mk hb; clear hi hb H5 KE BE)
    | (go_at_call 12; refine (H6.out g wf KF.out BF.out).mono ?_; rintro e wg ⟨rfl, hi, hb, _⟩; have KG := Aside0.mk hi; have BG := Aside0.mk hb; clear hi hb H6 KF BF)
    | (go_at_call 30; refine (H7.out g wg KG.out).mono ?_; rintro e wh ⟨rfl, hb⟩; have KH := Aside0.mk (KG.out.below hb); have BH := Aside0.mk (BG.out.trans (hb.mono BG.out.size)); clear hb H7 KG BG)
    | (go_at_call 16; refine (H8.out g wh KH.out).mono ?_; rintro e wi ⟨rfl, rfl⟩))
  go_ret
  exact ⟨rfl, BH.out⟩
/-! #### a pool that isn't there -/
theorem is_nil (id what : Int) (w : World) : Calls Try.prog 37 #[.pointer none, .int .i64 id, .int .i64 what] w fun e w' => e = .returned (.bool false) ∧ w = w' := by
  go_enter Try.func37, Try.ntmps37
  go_wp2
  go_ret
  exact ⟨rfl, rfl⟩
theorem isThere_nil (id : Int) (w : World) : Calls Try.prog 32 #[.pointer none, .int .i64 id] w fun e w' => e = .returned (.bool false) ∧ w = w' := by
  go_enter Try.func32, Try.ntmps32
  go_wp2
  go_ret
  exact ⟨rfl, rfl⟩
theorem make_nil (id : Int) (w : World) : Calls Try.prog 10 #[.pointer none, .int .i64 id] w fun e w' => e = .returned (.int .i64 1) ∧ w = w' := by
  go_enter Try.func10, Try.ntmps10
  go_wp2
  go_ret
  exact ⟨rfl, rfl⟩
theorem ready_nil (id : Int) (w : World) : Calls Try.prog 11 #[.pointer none, .int .i64 id] w fun e w' => e = .returned (.bool false) ∧ w = w' := by
  go_enter Try.func11, Try.ntmps11
  go_wp2_with (go_at_call 37; refine (is_nil id 1 _).mono ?_; rintro e w' ⟨rfl, rfl⟩)
  go_ret
  exact ⟨rfl, rfl⟩
theorem give_nil (id : Int) (w : World) : Calls Try.prog 14 #[.pointer none, .int .i64 id] w fun e w' => e = .returned (.bool false) ∧ w = w' := by
  go_enter Try.func14, Try.ntmps14
  go_wp2_with (go_at_call 37; refine (is_nil id 3 _).mono ?_; rintro e w' ⟨rfl, rfl⟩)
  go_ret
  exact ⟨rfl, rfl⟩
theorem take_nil (w : World) : Calls Try.prog 12 #[.pointer none] w fun e w' => e = .returned (.tuple #[.int .i64 0, .bool false]) ∧ w = w' := by
  go_enter Try.func12, Try.ntmps12
  go_wp2
  go_ret2
  exact ⟨rfl, rfl⟩
theorem drop_nil (id : Int) (w : World) : Calls Try.prog 22 #[.pointer none, .int .i64 id] w fun e w' => e = .returned (.bool false) ∧ Below w.heap.size w w' := by
  go_enter Try.func22, Try.ntmps22
  go_wp2_with (go_at_call 32; refine (isThere_nil id _).mono ?_; rintro e w' ⟨rfl, rfl⟩)
  go_ret
  exact ⟨rfl, below_alloc (Below.refl _ _) _⟩
theorem of_nil (q : Nat) (w : World) : Calls Try.prog 39 #[.pointer none, .func (.func q) #[] #[]] w fun e w' => e = .returned (.slice none 0 0) ∧ Below w.heap.size w w' := by
  go_enter Try.func39, Try.ntmps39
  go_wp2
  go_ret
  exact ⟨rfl, below_alloc (below_alloc (Below.refl _ _) _) _⟩
theorem making_nil (w : World) : Calls Try.prog 34 #[.pointer none] w fun e w' => e = .returned (.slice none 0 0) ∧ Below w.heap.size w w' := by
  go_enter Try.func34, Try.ntmps34
  go_wp2_with (go_at_call 39; refine (of_nil 46 _).mono ?_; rintro e w' ⟨rfl, hb⟩)
  go_ret
  exact ⟨rfl, hb⟩
theorem busy_nil (w : World) : Calls Try.prog 15 #[.pointer none] w fun e w' => e = .returned (.slice none 0 0) ∧ Below w.heap.size w w' := by
  go_enter Try.func15, Try.ntmps15
  go_wp2_with (go_at_call 39; refine (of_nil 40 _).mono ?_; rintro e w' ⟨rfl, hb⟩)
  go_ret
  exact ⟨rfl, hb⟩
theorem all_nil (w : World) : Calls Try.prog 21 #[.pointer none] w fun e w' => e = .returned (.slice none 0 0) ∧ Below w.heap.size w w' := by
  go_enter Try.func21, Try.ntmps21
  go_wp2_with (go_at_call 39; refine (of_nil 42 _).mono ?_; rintro e w' ⟨rfl, hb⟩)
  go_ret
  exact ⟨rfl, hb⟩
theorem idle_nil (w : World) : Calls Try.prog 19 #[.pointer none] w fun e w' => e = .returned (.slice none 0 0) ∧ w = w' := by
  go_enter Try.func19, Try.ntmps19
  go_wp2
  go_ret
  exact ⟨rfl, rfl⟩
theorem room_nil (w : World) : Calls Try.prog 16 #[.pointer none] w fun e w' => e = .returned (.int .i64 0) ∧ w = w' := by
  go_enter Try.func16, Try.ntmps16
  go_wp2
  go_ret
  exact ⟨rfl, rfl⟩
theorem len_nil (w : World) : Calls Try.prog 30 #[.pointer none] w fun e w' => e = .returned (.int .i64 0) ∧ Below w.heap.size w w' := by
  go_enter Try.func30, Try.ntmps30
  go_wp2_with (go_at_call 21; refine (all_nil _).mono ?_; rintro e w' ⟨rfl, hb⟩)
  go_ret
  exact ⟨rfl, hb⟩
set_option maxHeartbeats 4000000 in
theorem nil_calls (id : Int) (w : World) (hid : (Lit.int .i64 id).wf = true) : Calls Try.prog 7 #[.int .i64 id] w fun e w' => e = .returned (.bool true) ∧ Below w.heap.size w w' := by
  have HL := Aside0.mk (lives_raw w)
  go_enter Try.func7, Try.ntmps7
  go_wp2_with (first
    | (go_at_call 8; refine HL.out.mono ?_; rintro e wa ⟨rfl, hb⟩; have BA := Aside0.mk hb; clear hb HL)
    | (go_at_call 12; refine (take_nil _).mono ?_; rintro e w' ⟨rfl, rfl⟩)
    | (go_at_call 10; refine (make_nil id _).mono ?_; rintro e w' ⟨rfl, rfl⟩)
    | (go_at_call 11; refine (ready_nil id _).mono ?_; rintro e w' ⟨rfl, rfl⟩)
    | (go_at_call 14; refine (give_nil id _).mono ?_; rintro e w' ⟨rfl, rfl⟩)
    | (go_at_call 22; refine (drop_nil id _).mono ?_; rintro e wb ⟨rfl, hb⟩; have BB := Aside0.mk (below_step BA.out hb); clear hb BA)
    | (go_at_call 32; refine (isThere_nil id _).mono ?_; rintro e w' ⟨rfl, rfl⟩)
    | (go_at_call 34; refine (making_nil _).mono ?_; rintro e wc ⟨rfl, hb⟩; have BC := Aside0.mk (below_step BB.out hb); clear hb BB)
    | (go_at_call 19; refine (idle_nil _).mono ?_; rintro e w' ⟨rfl, rfl⟩)
    | (go_at_call 15; refine (busy_nil _).mono ?_; rintro e wd ⟨rfl, hb⟩; have BD := Aside0.mk (below_step BC.out hb); clear hb BC)
    | (go_at_call 21; refine (all_nil _).mono ?_; rintro e we ⟨rfl, hb⟩; have BE := Aside0.mk (below_step BD.out hb); clear hb BD)
    | (go_at_call 30; refine (len_nil _).mono ?_; rintro e wf ⟨rfl, hb⟩; have BF := Aside0.mk (below_step BE.out hb); clear hb BE)
    | (go_at_call 16; refine (room_nil _).mono ?_; rintro e w' ⟨rfl, rfl⟩))
  go_ret
  exact ⟨rfl, BF.out⟩
end Go.Proofs.Yteagjolmikbllaa.Ob
