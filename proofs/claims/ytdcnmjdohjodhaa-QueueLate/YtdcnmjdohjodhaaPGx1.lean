/-
  Contracts of the program's functions and the Lean functions that they compute, laid by a program of this session out of the translation. Conditions: none.
-/
import Derived.Test.YtdcnmjdohjodhaaPGx0
namespace Go.Proofs.Ytdcnmjdohjodhaa.PG
open Go.RowKit Go.Proofs.Ytdcnmjdohjodhaa.PE Go.Proofs.Ytdcnmjdohjodhaa.PA Go.Proofs.Ytdcnmjdohjodhaa.PF Go.Proofs.Ytdcnmjdohjodhaa.Hid Go.Proofs.Ytdcnmjdohjodhaa.Man Go.Proofs.YtdcnmjdohjodhaaW.PrintWords Go.Proofs.YtdcnmjdohjodhaaW.PrintLast Go.Proofs.YtdcnmjdohjodhaaW.PrintMore
attribute [local go_sem] max2_int min2_int max_two min_two max_three min_three max_four min_four   -- for this text's walks alone
set_option linter.unusedVariables false
set_option linter.unusedSimpArgs false

-- NOT PRINTED: function 32 (queue_waiter_32)

-- NOT PRINTED: function 33 (queue_waiter_33)

/-! ### hostlerlaw12_lives: function 8 -/
def hostlerlaw12_lives.f  : Option (Bool) := (queue_New.f 2).bind fun t101 => ((queue_Queue_Push.f t101 7 0).bind fun bt103 => ((queue_Queue_Push.f bt103.2 8 0).bind fun bt105 => ((queue_Queue_Push.f bt105.2 9 0).bind fun bt107 => ((queue_Queue_Pop.f bt107.2).bind fun bt109 => (if bt103.1 = 0 then (if bt105.1 = 0 then (if bt107.1 = 7 then (if bt109.1 = 7 then (if bt109.2.1 = true then ((queue_Queue_Len.f bt109.2.2).bind fun bt112 => (if bt112.1 = 1 then ((queue_Queue_Room.f bt112.2).bind fun bt114 => (some (bt114.1 == 1))) else (some false))) else (some false)) else (some false)) else (some false)) else (some false)) else (some false))))))
set_option maxHeartbeats 8000000 in
set_option maxRecDepth 100000 in
theorem hostlerlaw12_lives.calls  (r : Bool) (w : World) (h : hostlerlaw12_lives.f  = some r) :
    Calls Try.prog 8 #[] w fun e w' => e = .returned (.bool r) ∧ Below w.heap.size w w' := by
  have HB := Aside0.mk (Below.refl w.heap.size w)
  have H : ((queue_New.f 2).bind fun t101 => ((queue_Queue_Push.f t101 7 0).bind fun bt103 => ((queue_Queue_Push.f bt103.2 8 0).bind fun bt105 => ((queue_Queue_Push.f bt105.2 9 0).bind fun bt107 => ((queue_Queue_Pop.f bt107.2).bind fun bt109 => (if bt103.1 = 0 then (if bt105.1 = 0 then (if bt107.1 = 7 then (if bt109.1 = 7 then (if bt109.2.1 = true then ((queue_Queue_Len.f bt109.2.2).bind fun bt112 => (if bt112.1 = 1 then ((queue_Queue_Room.f bt112.2).bind fun bt114 => (some (bt114.1 == 1))) else (some false))) else (some false)) else (some false)) else (some false)) else (some false)) else (some false))))))) = some r := h
  clear h
  replace H := Option.bind_eq_some_iff.mp H
  obtain ⟨t101, A10, H⟩ := H
  replace H : ((queue_Queue_Push.f t101 7 0).bind fun bt103 => ((queue_Queue_Push.f bt103.2 8 0).bind fun bt105 => ((queue_Queue_Push.f bt105.2 9 0).bind fun bt107 => ((queue_Queue_Pop.f bt107.2).bind fun bt109 => (if bt103.1 = 0 then (if bt105.1 = 0 then (if bt107.1 = 7 then (if bt109.1 = 7 then (if bt109.2.1 = true then ((queue_Queue_Len.f bt109.2.2).bind fun bt112 => (if bt112.1 = 1 then ((queue_Queue_Room.f bt112.2).bind fun bt114 => (some (bt114.1 == 1))) else (some false))) else (some false)) else (some false)) else (some false)) else (some false)) else (some false)))))) = some r := H
  have A1 := Aside0.mk A10
  clear A10
  replace H := Option.bind_eq_some_iff.mp H
  obtain ⟨⟨t103, t104⟩, A20, H⟩ := H
  replace H : ((queue_Queue_Push.f t104 8 0).bind fun bt105 => ((queue_Queue_Push.f bt105.2 9 0).bind fun bt107 => ((queue_Queue_Pop.f bt107.2).bind fun bt109 => (if t103 = 0 then (if bt105.1 = 0 then (if bt107.1 = 7 then (if bt109.1 = 7 then (if bt109.2.1 = true then ((queue_Queue_Len.f bt109.2.2).bind fun bt112 => (if bt112.1 = 1 then ((queue_Queue_Room.f bt112.2).bind fun bt114 => (some (bt114.1 == 1))) else (some false))) else (some false)) else (some false)) else (some false)) else (some false)) else (some false))))) = some r := H
  have A2 := Aside0.mk A20
  clear A20
  replace H := Option.bind_eq_some_iff.mp H
  obtain ⟨⟨t105, t106⟩, A30, H⟩ := H
  replace H : ((queue_Queue_Push.f t106 9 0).bind fun bt107 => ((queue_Queue_Pop.f bt107.2).bind fun bt109 => (if t103 = 0 then (if t105 = 0 then (if bt107.1 = 7 then (if bt109.1 = 7 then (if bt109.2.1 = true then ((queue_Queue_Len.f bt109.2.2).bind fun bt112 => (if bt112.1 = 1 then ((queue_Queue_Room.f bt112.2).bind fun bt114 => (some (bt114.1 == 1))) else (some false))) else (some false)) else (some false)) else (some false)) else (some false)) else (some false)))) = some r := H
  have A3 := Aside0.mk A30
  clear A30
  replace H := Option.bind_eq_some_iff.mp H
  obtain ⟨⟨t107, t108⟩, A40, H⟩ := H
  replace H : ((queue_Queue_Pop.f t108).bind fun bt109 => (if t103 = 0 then (if t105 = 0 then (if t107 = 7 then (if bt109.1 = 7 then (if bt109.2.1 = true then ((queue_Queue_Len.f bt109.2.2).bind fun bt112 => (if bt112.1 = 1 then ((queue_Queue_Room.f bt112.2).bind fun bt114 => (some (bt114.1 == 1))) else (some false))) else (some false)) else (some false)) else (some false)) else (some false)) else (some false))) = some r := H
  have A4 := Aside0.mk A40
  clear A40
  replace H := Option.bind_eq_some_iff.mp H
  obtain ⟨⟨t109, t110, t111⟩, A50, H⟩ := H
  replace H : (if t103 = 0 then (if t105 = 0 then (if t107 = 7 then (if t109 = 7 then (if t110 = true then ((queue_Queue_Len.f t111).bind fun bt112 => (if bt112.1 = 1 then ((queue_Queue_Room.f bt112.2).bind fun bt114 => (some (bt114.1 == 1))) else (some false))) else (some false)) else (some false)) else (some false)) else (some false)) else (some false)) = some r := H
  have A5 := Aside0.mk A50
  clear A50
  by_cases c6 : t103 = 0
  · rw [if_pos c6] at H
    have c6b0 : (t103 == 0) = true := beq_iff_eq.mpr c6
    have c6b1 : (t103 != 0) = false := bne_eq_false_iff_eq.mpr c6
    clear c6
    by_cases c7 : t105 = 0
    · rw [if_pos c7] at H
      have c7b0 : (t105 == 0) = true := beq_iff_eq.mpr c7
      have c7b1 : (t105 != 0) = false := bne_eq_false_iff_eq.mpr c7
      clear c7
      by_cases c8 : t107 = 7
      · rw [if_pos c8] at H
        have c8b0 : (t107 == 7) = true := beq_iff_eq.mpr c8
        have c8b1 : (t107 != 7) = false := bne_eq_false_iff_eq.mpr c8
        clear c8
        by_cases c9 : t109 = 7
        · rw [if_pos c9] at H
          have c9b0 : (t109 == 7) = true := beq_iff_eq.mpr c9
          have c9b1 : (t109 != 7) = false := bne_eq_false_iff_eq.mpr c9
          clear c9
          by_cases c10 : t110 = true
          · subst c10
            have H1 : ((queue_Queue_Len.f t111).bind fun bt112 => (if bt112.1 = 1 then ((queue_Queue_Room.f bt112.2).bind fun bt114 => (some (bt114.1 == 1))) else (some false))) = some r := by rw [if_pos rfl] at H; exact H
            clear H
            have H := H1
            clear H1
            replace H := Option.bind_eq_some_iff.mp H
            obtain ⟨⟨t112, t113⟩, A110, H⟩ := H
            replace H : (if t112 = 1 then ((queue_Queue_Room.f t113).bind fun bt114 => (some (bt114.1 == 1))) else (some false)) = some r := H
            have A11 := Aside0.mk A110
            clear A110
            by_cases c12 : t112 = 1
            · rw [if_pos c12] at H
              have c12b0 : (t112 == 1) = true := beq_iff_eq.mpr c12
              have c12b1 : (t112 != 1) = false := bne_eq_false_iff_eq.mpr c12
              clear c12
              replace H := Option.bind_eq_some_iff.mp H
              obtain ⟨⟨t114, t115⟩, A130, H⟩ := H
              replace H : (some (t114 == 1)) = some r := H
              have A13 := Aside0.mk A130
              clear A130
              obtain rfl := Option.some.inj H
              go_enter Try.func8, Try.ntmps8
              go_wp2_with (first | ((with_reducible refine gate_callee (f := 9) rfl ?_); refine goesL_ (some 7) rfl rfl Try.func9 (by kernel_rfl) rfl #[.int .i64 2] rfl (by (try simp only [List.map_toArray, List.map_cons, List.map_nil]); first | done | rfl | (simp only [List.length_drop, List.length_take]; rfl)) ?_; (with_reducible refine (queue_New.calls 2 t101 w _ ?side1 A1.out).mono ?_); (case side1 => repeat (first | (with_reducible first | exact HB.out | apply below_alloc | apply pw_below_drewN | apply below_drew1) | exact HB.out)); rintro e w14 ⟨g102, rfl, hi, hb, hb2⟩; refine ⟨_, rfl, ?_⟩; have n0_ := Aside0.mk (hb); have n1_ := Aside0.mk (hi); clear HB; have HB := n0_; have HI102 := n1_; clear n0_ n1_; (try clear hb); (try clear hb2); (try clear hk); (try clear hi)) | ((with_reducible refine gate_callee (f := 10) rfl ?_); refine goesL_ (some 9) rfl rfl Try.func10 (by kernel_rfl) rfl #[.pointer (some ⟨g102, 0, none⟩), .int .i64 7, .int .i64 0] rfl (by (try simp only [List.map_toArray, List.map_cons, List.map_nil]); first | done | rfl | (simp only [List.length_drop, List.length_take]; rfl)) ?_; (with_reducible refine (queue_Queue_Push.calls g102 t101 7 0 t103 t104 w _ ?side1 ?side2 A2.out).mono ?_); (case side1 => repeat (first | (with_reducible first | exact HI102.out | apply IsS62.alloc | apply IsS62.drewN | apply IsS62.drew | apply IsS62.set_0) | exact HI102.out)); (case side2 => repeat (first | (with_reducible first | exact HB.out | apply below_alloc | apply pw_below_drewN | apply below_drew1 | refine below_set ?_ (IsS62.ge HI102.out)) | exact HB.out)); rintro e w15 ⟨rfl, hi, hb, hk⟩; refine ⟨_, rfl, ?_⟩; have n0_ := Aside0.mk (hb); have n1_ := Aside0.mk (hi); clear HB; clear HI102; have HB := n0_; have HI102 := n1_; clear n0_ n1_; (try clear hb); (try clear hb2); (try clear hk); (try clear hi)) | ((with_reducible refine gate_callee (f := 10) rfl ?_); refine goesL_ (some 11) rfl rfl Try.func10 (by kernel_rfl) rfl #[.pointer (some ⟨g102, 0, none⟩), .int .i64 8, .int .i64 0] rfl (by (try simp only [List.map_toArray, List.map_cons, List.map_nil]); first | done | rfl | (simp only [List.length_drop, List.length_take]; rfl)) ?_; (with_reducible refine (queue_Queue_Push.calls g102 t104 8 0 t105 t106 w _ ?side1 ?side2 A3.out).mono ?_); (case side1 => repeat (first | (with_reducible first | exact HI102.out | apply IsS62.alloc | apply IsS62.drewN | apply IsS62.drew | apply IsS62.set_0) | exact HI102.out)); (case side2 => repeat (first | (with_reducible first | exact HB.out | apply below_alloc | apply pw_below_drewN | apply below_drew1 | refine below_set ?_ (IsS62.ge HI102.out)) | exact HB.out)); rintro e w16 ⟨rfl, hi, hb, hk⟩; refine ⟨_, rfl, ?_⟩; have n0_ := Aside0.mk (hb); have n1_ := Aside0.mk (hi); clear HB; clear HI102; have HB := n0_; have HI102 := n1_; clear n0_ n1_; (try clear hb); (try clear hb2); (try clear hk); (try clear hi)) | ((with_reducible refine gate_callee (f := 10) rfl ?_); refine goesL_ (some 13) rfl rfl Try.func10 (by kernel_rfl) rfl #[.pointer (some ⟨g102, 0, none⟩), .int .i64 9, .int .i64 0] rfl (by (try simp only [List.map_toArray, List.map_cons, List.map_nil]); first | done | rfl | (simp only [List.length_drop, List.length_take]; rfl)) ?_; (with_reducible refine (queue_Queue_Push.calls g102 t106 9 0 t107 t108 w _ ?side1 ?side2 A4.out).mono ?_); (case side1 => repeat (first | (with_reducible first | exact HI102.out | apply IsS62.alloc | apply IsS62.drewN | apply IsS62.drew | apply IsS62.set_0) | exact HI102.out)); (case side2 => repeat (first | (with_reducible first | exact HB.out | apply below_alloc | apply pw_below_drewN | apply below_drew1 | refine below_set ?_ (IsS62.ge HI102.out)) | exact HB.out)); rintro e w17 ⟨rfl, hi, hb, hk⟩; refine ⟨_, rfl, ?_⟩; have n0_ := Aside0.mk (hb); have n1_ := Aside0.mk (hi); clear HB; clear HI102; have HB := n0_; have HI102 := n1_; clear n0_ n1_; (try clear hb); (try clear hb2); (try clear hk); (try clear hi)) | ((with_reducible refine gate_callee (f := 12) rfl ?_); refine goesL_ (some 16) rfl rfl Try.func12 (by kernel_rfl) rfl #[.pointer (some ⟨g102, 0, none⟩)] rfl (by (try simp only [List.map_toArray, List.map_cons, List.map_nil]); first | done | rfl | (simp only [List.length_drop, List.length_take]; rfl)) ?_; (with_reducible refine (queue_Queue_Pop.calls g102 t108 t109 true t111 w _ ?side1 ?side2 A5.out).mono ?_); (case side1 => repeat (first | (with_reducible first | exact HI102.out | apply IsS62.alloc | apply IsS62.drewN | apply IsS62.drew | apply IsS62.set_0) | exact HI102.out)); (case side2 => repeat (first | (with_reducible first | exact HB.out | apply below_alloc | apply pw_below_drewN | apply below_drew1 | refine below_set ?_ (IsS62.ge HI102.out)) | exact HB.out)); rintro e w18 ⟨rfl, hi, hb, hk⟩; refine ⟨_, rfl, ?_⟩; have n0_ := Aside0.mk (hb); have n1_ := Aside0.mk (hi); clear HB; clear HI102; have HB := n0_; have HI102 := n1_; clear n0_ n1_; (try clear hb); (try clear hb2); (try clear hk); (try clear hi)) | (go_at_call 13; (with_reducible refine (queue_Queue_Len.calls g102 t111 t112 t113 w _ ?side1 ?side2 A11.out).mono ?_); (case side1 => repeat (first | (with_reducible first | exact HI102.out | apply IsS62.alloc | apply IsS62.drewN | apply IsS62.drew | apply IsS62.set_0) | exact HI102.out)); (case side2 => repeat (first | (with_reducible first | exact HB.out | apply below_alloc | apply pw_below_drewN | apply below_drew1 | refine below_set ?_ (IsS62.ge HI102.out)) | exact HB.out)); rintro e w19 ⟨rfl, hi, hb, hk⟩; have n0_ := Aside0.mk (hb); have n1_ := Aside0.mk (hi); clear HB; clear HI102; have HB := n0_; have HI102 := n1_; clear n0_ n1_; (try clear hb); (try clear hb2); (try clear hk); (try clear hi)) | (go_at_call 19; (with_reducible refine (queue_Queue_Room.calls g102 t113 t114 t115 w _ ?side1 ?side2 A13.out).mono ?_); (case side1 => repeat (first | (with_reducible first | exact HI102.out | apply IsS62.alloc | apply IsS62.drewN | apply IsS62.drew | apply IsS62.set_0) | exact HI102.out)); (case side2 => repeat (first | (with_reducible first | exact HB.out | apply below_alloc | apply pw_below_drewN | apply below_drew1 | refine below_set ?_ (IsS62.ge HI102.out)) | exact HB.out)); rintro e w20 ⟨rfl, hi, hb, hk⟩; have n0_ := Aside0.mk (hb); have n1_ := Aside0.mk (hi); clear HB; clear HI102; have HB := n0_; have HI102 := n1_; clear n0_ n1_; (try clear hb); (try clear hb2); (try clear hk); (try clear hi)))
              go_ret
              exact ⟨by first | rfl | (simp only [Int.ofNat_lt]; rfl) | (simp [errW_none, errW_some] <;> rfl) | (simp [*, errW_none, errW_some] <;> rfl), by repeat (first | (with_reducible first | exact HB.out | apply below_alloc | apply pw_below_drewN | apply below_drew1 | refine below_set ?_ (IsS62.ge HI102.out)) | exact HB.out)⟩
            · rw [if_neg c12] at H
              have c12b0 : (t112 == 1) = false := beq_eq_false_iff_ne.mpr c12
              have c12b1 : (t112 != 1) = true := bne_iff_ne.mpr c12
              obtain rfl := Option.some.inj H
              go_enter Try.func8, Try.ntmps8
              go_wp2_with (first | ((with_reducible refine gate_callee (f := 9) rfl ?_); refine goesL_ (some 7) rfl rfl Try.func9 (by kernel_rfl) rfl #[.int .i64 2] rfl (by (try simp only [List.map_toArray, List.map_cons, List.map_nil]); first | done | rfl | (simp only [List.length_drop, List.length_take]; rfl)) ?_; (with_reducible refine (queue_New.calls 2 t101 w _ ?side1 A1.out).mono ?_); (case side1 => repeat (first | (with_reducible first | exact HB.out | apply below_alloc | apply pw_below_drewN | apply below_drew1) | exact HB.out)); rintro e w21 ⟨g102, rfl, hi, hb, hb2⟩; refine ⟨_, rfl, ?_⟩; have n0_ := Aside0.mk (hb); have n1_ := Aside0.mk (hi); clear HB; have HB := n0_; have HI102 := n1_; clear n0_ n1_; (try clear hb); (try clear hb2); (try clear hk); (try clear hi)) | ((with_reducible refine gate_callee (f := 10) rfl ?_); refine goesL_ (some 9) rfl rfl Try.func10 (by kernel_rfl) rfl #[.pointer (some ⟨g102, 0, none⟩), .int .i64 7, .int .i64 0] rfl (by (try simp only [List.map_toArray, List.map_cons, List.map_nil]); first | done | rfl | (simp only [List.length_drop, List.length_take]; rfl)) ?_; (with_reducible refine (queue_Queue_Push.calls g102 t101 7 0 t103 t104 w _ ?side1 ?side2 A2.out).mono ?_); (case side1 => repeat (first | (with_reducible first | exact HI102.out | apply IsS62.alloc | apply IsS62.drewN | apply IsS62.drew | apply IsS62.set_0) | exact HI102.out)); (case side2 => repeat (first | (with_reducible first | exact HB.out | apply below_alloc | apply pw_below_drewN | apply below_drew1 | refine below_set ?_ (IsS62.ge HI102.out)) | exact HB.out)); rintro e w22 ⟨rfl, hi, hb, hk⟩; refine ⟨_, rfl, ?_⟩; have n0_ := Aside0.mk (hb); have n1_ := Aside0.mk (hi); clear HB; clear HI102; have HB := n0_; have HI102 := n1_; clear n0_ n1_; (try clear hb); (try clear hb2); (try clear hk); (try clear hi)) | ((with_reducible refine gate_callee (f := 10) rfl ?_); refine goesL_ (some 11) rfl rfl Try.func10 (by kernel_rfl) rfl #[.pointer (some ⟨g102, 0, none⟩), .int .i64 8, .int .i64 0] rfl (by (try simp only [List.map_toArray, List.map_cons, List.map_nil]); first | done | rfl | (simp only [List.length_drop, List.length_take]; rfl)) ?_; (with_reducible refine (queue_Queue_Push.calls g102 t104 8 0 t105 t106 w _ ?side1 ?side2 A3.out).mono ?_); (case side1 => repeat (first | (with_reducible first | exact HI102.out | apply IsS62.alloc | apply IsS62.drewN | apply IsS62.drew | apply IsS62.set_0) | exact HI102.out)); (case side2 => repeat (first | (with_reducible first | exact HB.out | apply below_alloc | apply pw_below_drewN | apply below_drew1 | refine below_set ?_ (IsS62.ge HI102.out)) | exact HB.out)); rintro e w23 ⟨rfl, hi, hb, hk⟩; refine ⟨_, rfl, ?_⟩; have n0_ := Aside0.mk (hb); have n1_ := Aside0.mk (hi); clear HB; clear HI102; have HB := n0_; have HI102 := n1_; clear n0_ n1_; (try clear hb); (try clear hb2); (try clear hk); (try clear hi)) | ((with_reducible refine gate_callee (f := 10) rfl ?_); refine goesL_ (some 13) rfl rfl Try.func10 (by kernel_rfl) rfl #[.pointer (some ⟨g102, 0, none⟩), .int .i64 9, .int .i64 0] rfl (by (try simp only [List.map_toArray, List.map_cons, List.map_nil]); first | done | rfl | (simp only [List.length_drop, List.length_take]; rfl)) ?_; (with_reducible refine (queue_Queue_Push.calls g102 t106 9 0 t107 t108 w _ ?side1 ?side2 A4.out).mono ?_); (case side1 => repeat (first | (with_reducible first | exact HI102.out | apply IsS62.alloc | apply IsS62.drewN | apply IsS62.drew | apply IsS62.set_0) | exact HI102.out)); (case side2 => repeat (first | (with_reducible first | exact HB.out | apply below_alloc | apply pw_below_drewN | apply below_drew1 | refine below_set ?_ (IsS62.ge HI102.out)) | exact HB.out)); rintro e w24 ⟨rfl, hi, hb, hk⟩; refine ⟨_, rfl, ?_⟩; have n0_ := Aside0.mk (hb); have n1_ := Aside0.mk (hi); clear HB; clear HI102; have HB := n0_; have HI102 := n1_; clear n0_ n1_; (try clear hb); (try clear hb2); (try clear hk); (try clear hi)) | ((with_reducible refine gate_callee (f := 12) rfl ?_); refine goesL_ (some 16) rfl rfl Try.func12 (by kernel_rfl) rfl #[.pointer (some ⟨g102, 0, none⟩)] rfl (by (try simp only [List.map_toArray, List.map_cons, List.map_nil]); first | done | rfl | (simp only [List.length_drop, List.length_take]; rfl)) ?_; (with_reducible refine (queue_Queue_Pop.calls g102 t108 t109 true t111 w _ ?side1 ?side2 A5.out).mono ?_); (case side1 => repeat (first | (with_reducible first | exact HI102.out | apply IsS62.alloc | apply IsS62.drewN | apply IsS62.drew | apply IsS62.set_0) | exact HI102.out)); (case side2 => repeat (first | (with_reducible first | exact HB.out | apply below_alloc | apply pw_below_drewN | apply below_drew1 | refine below_set ?_ (IsS62.ge HI102.out)) | exact HB.out)); rintro e w25 ⟨rfl, hi, hb, hk⟩; refine ⟨_, rfl, ?_⟩; have n0_ := Aside0.mk (hb); have n1_ := Aside0.mk (hi); clear HB; clear HI102; have HB := n0_; have HI102 := n1_; clear n0_ n1_; (try clear hb); (try clear hb2); (try clear hk); (try clear hi)) | (go_at_call 13; (with_reducible refine (queue_Queue_Len.calls g102 t111 t112 t113 w _ ?side1 ?side2 A11.out).mono ?_); (case side1 => repeat (first | (with_reducible first | exact HI102.out | apply IsS62.alloc | apply IsS62.drewN | apply IsS62.drew | apply IsS62.set_0) | exact HI102.out)); (case side2 => repeat (first | (with_reducible first | exact HB.out | apply below_alloc | apply pw_below_drewN | apply below_drew1 | refine below_set ?_ (IsS62.ge HI102.out)) | exact HB.out)); rintro e w26 ⟨rfl, hi, hb, hk⟩; have n0_ := Aside0.mk (hb); have n1_ := Aside0.mk (hi); clear HB; clear HI102; have HB := n0_; have HI102 := n1_; clear n0_ n1_; (try clear hb); (try clear hb2); (try clear hk); (try clear hi)))
              go_ret
              exact ⟨by first | rfl | (simp only [Int.ofNat_lt]; rfl) | (simp [errW_none, errW_some] <;> rfl) | (simp [*, errW_none, errW_some] <;> rfl), by repeat (first | (with_reducible first | exact HB.out | apply below_alloc | apply pw_below_drewN | apply below_drew1 | refine below_set ?_ (IsS62.ge HI102.out)) | exact HB.out)⟩
          · replace c10 := Bool.eq_false_iff.mpr c10
            subst c10
            have H1 : (some false) = some r := by rw [if_neg (show ¬ (false = true) by decide)] at H; exact H
            clear H
            have H := H1
            clear H1
            obtain rfl := Option.some.inj H
            go_enter Try.func8, Try.ntmps8
            go_wp2_with (first | ((with_reducible refine gate_callee (f := 9) rfl ?_); refine goesL_ (some 7) rfl rfl Try.func9 (by kernel_rfl) rfl #[.int .i64 2] rfl (by (try simp only [List.map_toArray, List.map_cons, List.map_nil]); first | done | rfl | (simp only [List.length_drop, List.length_take]; rfl)) ?_; (with_reducible refine (queue_New.calls 2 t101 w _ ?side1 A1.out).mono ?_); (case side1 => repeat (first | (with_reducible first | exact HB.out | apply below_alloc | apply pw_below_drewN | apply below_drew1) | exact HB.out)); rintro e w27 ⟨g102, rfl, hi, hb, hb2⟩; refine ⟨_, rfl, ?_⟩; have n0_ := Aside0.mk (hb); have n1_ := Aside0.mk (hi); clear HB; have HB := n0_; have HI102 := n1_; clear n0_ n1_; (try clear hb); (try clear hb2); (try clear hk); (try clear hi)) | ((with_reducible refine gate_callee (f := 10) rfl ?_); refine goesL_ (some 9) rfl rfl Try.func10 (by kernel_rfl) rfl #[.pointer (some ⟨g102, 0, none⟩), .int .i64 7, .int .i64 0] rfl (by (try simp only [List.map_toArray, List.map_cons, List.map_nil]); first | done | rfl | (simp only [List.length_drop, List.length_take]; rfl)) ?_; (with_reducible refine (queue_Queue_Push.calls g102 t101 7 0 t103 t104 w _ ?side1 ?side2 A2.out).mono ?_); (case side1 => repeat (first | (with_reducible first | exact HI102.out | apply IsS62.alloc | apply IsS62.drewN | apply IsS62.drew | apply IsS62.set_0) | exact HI102.out)); (case side2 => repeat (first | (with_reducible first | exact HB.out | apply below_alloc | apply pw_below_drewN | apply below_drew1 | refine below_set ?_ (IsS62.ge HI102.out)) | exact HB.out)); rintro e w28 ⟨rfl, hi, hb, hk⟩; refine ⟨_, rfl, ?_⟩; have n0_ := Aside0.mk (hb); have n1_ := Aside0.mk (hi); clear HB; clear HI102; have HB := n0_; have HI102 := n1_; clear n0_ n1_; (try clear hb); (try clear hb2); (try clear hk); (try clear hi)) | ((with_reducible refine gate_callee (f := 10) rfl ?_); refine goesL_ (some 11) rfl rfl Try.func10 (by kernel_rfl) rfl #[.pointer (some ⟨g102, 0, none⟩), .int .i64 8, .int .i64 0] rfl (by (try simp only [List.map_toArray, List.map_cons, List.map_nil]); first | done | rfl | (simp only [List.length_drop, List.length_take]; rfl)) ?_; (with_reducible refine (queue_Queue_Push.calls g102 t104 8 0 t105 t106 w _ ?side1 ?side2 A3.out).mono ?_); (case side1 => repeat (first | (with_reducible first | exact HI102.out | apply IsS62.alloc | apply IsS62.drewN | apply IsS62.drew | apply IsS62.set_0) | exact HI102.out)); (case side2 => repeat (first | (with_reducible first | exact HB.out | apply below_alloc | apply pw_below_drewN | apply below_drew1 | refine below_set ?_ (IsS62.ge HI102.out)) | exact HB.out)); rintro e w29 ⟨rfl, hi, hb, hk⟩; refine ⟨_, rfl, ?_⟩; have n0_ := Aside0.mk (hb); have n1_ := Aside0.mk (hi); clear HB; clear HI102; have HB := n0_; have HI102 := n1_; clear n0_ n1_; (try clear hb); (try clear hb2); (try clear hk); (try clear hi)) | ((with_reducible refine gate_callee (f := 10) rfl ?_); refine goesL_ (some 13) rfl rfl Try.func10 (by kernel_rfl) rfl #[.pointer (some ⟨g102, 0, none⟩), .int .i64 9, .int .i64 0] rfl (by (try simp only [List.map_toArray, List.map_cons, List.map_nil]); first | done | rfl | (simp only [List.length_drop, List.length_take]; rfl)) ?_; (with_reducible refine (queue_Queue_Push.calls g102 t106 9 0 t107 t108 w _ ?side1 ?side2 A4.out).mono ?_); (case side1 => repeat (first | (with_reducible first | exact HI102.out | apply IsS62.alloc | apply IsS62.drewN | apply IsS62.drew | apply IsS62.set_0) | exact HI102.out)); (case side2 => repeat (first | (with_reducible first | exact HB.out | apply below_alloc | apply pw_below_drewN | apply below_drew1 | refine below_set ?_ (IsS62.ge HI102.out)) | exact HB.out)); rintro e w30 ⟨rfl, hi, hb, hk⟩; refine ⟨_, rfl, ?_⟩; have n0_ := Aside0.mk (hb); have n1_ := Aside0.mk (hi); clear HB; clear HI102; have HB := n0_; have HI102 := n1_; clear n0_ n1_; (try clear hb); (try clear hb2); (try clear hk); (try clear hi)) | ((with_reducible refine gate_callee (f := 12) rfl ?_); refine goesL_ (some 16) rfl rfl Try.func12 (by kernel_rfl) rfl #[.pointer (some ⟨g102, 0, none⟩)] rfl (by (try simp only [List.map_toArray, List.map_cons, List.map_nil]); first | done | rfl | (simp only [List.length_drop, List.length_take]; rfl)) ?_; (with_reducible refine (queue_Queue_Pop.calls g102 t108 t109 false t111 w _ ?side1 ?side2 A5.out).mono ?_); (case side1 => repeat (first | (with_reducible first | exact HI102.out | apply IsS62.alloc | apply IsS62.drewN | apply IsS62.drew | apply IsS62.set_0) | exact HI102.out)); (case side2 => repeat (first | (with_reducible first | exact HB.out | apply below_alloc | apply pw_below_drewN | apply below_drew1 | refine below_set ?_ (IsS62.ge HI102.out)) | exact HB.out)); rintro e w31 ⟨rfl, hi, hb, hk⟩; refine ⟨_, rfl, ?_⟩; have n0_ := Aside0.mk (hb); have n1_ := Aside0.mk (hi); clear HB; clear HI102; have HB := n0_; have HI102 := n1_; clear n0_ n1_; (try clear hb); (try clear hb2); (try clear hk); (try clear hi)))
            go_ret
            exact ⟨by first | rfl | (simp only [Int.ofNat_lt]; rfl) | (simp [errW_none, errW_some] <;> rfl) | (simp [*, errW_none, errW_some] <;> rfl), by repeat (first | (with_reducible first | exact HB.out | apply below_alloc | apply pw_below_drewN | apply below_drew1 | refine below_set ?_ (IsS62.ge HI102.out)) | exact HB.out)⟩
        · rw [if_neg c9] at H
          have c9b0 : (t109 == 7) = false := beq_eq_false_iff_ne.mpr c9
          have c9b1 : (t109 != 7) = true := bne_iff_ne.mpr c9
          obtain rfl := Option.some.inj H
          go_enter Try.func8, Try.ntmps8
          go_wp2_with (first | ((with_reducible refine gate_callee (f := 9) rfl ?_); refine goesL_ (some 7) rfl rfl Try.func9 (by kernel_rfl) rfl #[.int .i64 2] rfl (by (try simp only [List.map_toArray, List.map_cons, List.map_nil]); first | done | rfl | (simp only [List.length_drop, List.length_take]; rfl)) ?_; (with_reducible refine (queue_New.calls 2 t101 w _ ?side1 A1.out).mono ?_); (case side1 => repeat (first | (with_reducible first | exact HB.out | apply below_alloc | apply pw_below_drewN | apply below_drew1) | exact HB.out)); rintro e w32 ⟨g102, rfl, hi, hb, hb2⟩; refine ⟨_, rfl, ?_⟩; have n0_ := Aside0.mk (hb); have n1_ := Aside0.mk (hi); clear HB; have HB := n0_; have HI102 := n1_; clear n0_ n1_; (try clear hb); (try clear hb2); (try clear hk); (try clear hi)) | ((with_reducible refine gate_callee (f := 10) rfl ?_); refine goesL_ (some 9) rfl rfl Try.func10 (by kernel_rfl) rfl #[.pointer (some ⟨g102, 0, none⟩), .int .i64 7, .int .i64 0] rfl (by (try simp only [List.map_toArray, List.map_cons, List.map_nil]); first | done | rfl | (simp only [List.length_drop, List.length_take]; rfl)) ?_; (with_reducible refine (queue_Queue_Push.calls g102 t101 7 0 t103 t104 w _ ?side1 ?side2 A2.out).mono ?_); (case side1 => repeat (first | (with_reducible first | exact HI102.out | apply IsS62.alloc | apply IsS62.drewN | apply IsS62.drew | apply IsS62.set_0) | exact HI102.out)); (case side2 => repeat (first | (with_reducible first | exact HB.out | apply below_alloc | apply pw_below_drewN | apply below_drew1 | refine below_set ?_ (IsS62.ge HI102.out)) | exact HB.out)); rintro e w33 ⟨rfl, hi, hb, hk⟩; refine ⟨_, rfl, ?_⟩; have n0_ := Aside0.mk (hb); have n1_ := Aside0.mk (hi); clear HB; clear HI102; have HB := n0_; have HI102 := n1_; clear n0_ n1_; (try clear hb); (try clear hb2); (try clear hk); (try clear hi)) | ((with_reducible refine gate_callee (f := 10) rfl ?_); refine goesL_ (some 11) rfl rfl Try.func10 (by kernel_rfl) rfl #[.pointer (some ⟨g102, 0, none⟩), .int .i64 8, .int .i64 0] rfl (by (try simp only [List.map_toArray, List.map_cons, List.map_nil]); first | done | rfl | (simp only [List.length_drop, List.length_take]; rfl)) ?_; (with_reducible refine (queue_Queue_Push.calls g102 t104 8 0 t105 t106 w _ ?side1 ?side2 A3.out).mono ?_); (case side1 => repeat (first | (with_reducible first | exact HI102.out | apply IsS62.alloc | apply IsS62.drewN | apply IsS62.drew | apply IsS62.set_0) | exact HI102.out)); (case side2 => repeat (first | (with_reducible first | exact HB.out | apply below_alloc | apply pw_below_drewN | apply below_drew1 | refine below_set ?_ (IsS62.ge HI102.out)) | exact HB.out)); rintro e w34 ⟨rfl, hi, hb, hk⟩; refine ⟨_, rfl, ?_⟩; have n0_ := Aside0.mk (hb); have n1_ := Aside0.mk (hi); clear HB; clear HI102; have HB := n0_; have HI102 := n1_; clear n0_ n1_; (try clear hb); (try clear hb2); (try clear hk); (try clear hi)) | ((with_reducible refine gate_callee (f := 10) rfl ?_); refine goesL_ (some 13) rfl rfl Try.func10 (by kernel_rfl) rfl #[.pointer (some ⟨g102, 0, none⟩), .int .i64 9, .int .i64 0] rfl (by (try simp only [List.map_toArray, List.map_cons, List.map_nil]); first | done | rfl | (simp only [List.length_drop, List.length_take]; rfl)) ?_; (with_reducible refine (queue_Queue_Push.calls g102 t106 9 0 t107 t108 w _ ?side1 ?side2 A4.out).mono ?_); (case side1 => repeat (first | (with_reducible first | exact HI102.out | apply IsS62.alloc | apply IsS62.drewN | apply IsS62.drew | apply IsS62.set_0) | exact HI102.out)); (case side2 => repeat (first | (with_reducible first | exact HB.out | apply below_alloc | apply pw_below_drewN | apply below_drew1 | refine below_set ?_ (IsS62.ge HI102.out)) | exact HB.out)); rintro e w35 ⟨rfl, hi, hb, hk⟩; refine ⟨_, rfl, ?_⟩; have n0_ := Aside0.mk (hb); have n1_ := Aside0.mk (hi); clear HB; clear HI102; have HB := n0_; have HI102 := n1_; clear n0_ n1_; (try clear hb); (try clear hb2); (try clear hk); (try clear hi)) | ((with_reducible refine gate_callee (f := 12) rfl ?_); refine goesL_ (some 16) rfl rfl Try.func12 (by kernel_rfl) rfl #[.pointer (some ⟨g102, 0, none⟩)] rfl (by (try simp only [List.map_toArray, List.map_cons, List.map_nil]); first | done | rfl | (simp only [List.length_drop, List.length_take]; rfl)) ?_; (with_reducible refine (queue_Queue_Pop.calls g102 t108 t109 t110 t111 w _ ?side1 ?side2 A5.out).mono ?_); (case side1 => repeat (first | (with_reducible first | exact HI102.out | apply IsS62.alloc | apply IsS62.drewN | apply IsS62.drew | apply IsS62.set_0) | exact HI102.out)); (case side2 => repeat (first | (with_reducible first | exact HB.out | apply below_alloc | apply pw_below_drewN | apply below_drew1 | refine below_set ?_ (IsS62.ge HI102.out)) | exact HB.out)); rintro e w36 ⟨rfl, hi, hb, hk⟩; refine ⟨_, rfl, ?_⟩; have n0_ := Aside0.mk (hb); have n1_ := Aside0.mk (hi); clear HB; clear HI102; have HB := n0_; have HI102 := n1_; clear n0_ n1_; (try clear hb); (try clear hb2); (try clear hk); (try clear hi)))
          go_ret
          exact ⟨by first | rfl | (simp only [Int.ofNat_lt]; rfl) | (simp [errW_none, errW_some] <;> rfl) | (simp [*, errW_none, errW_some] <;> rfl), by repeat (first | (with_reducible first | exact HB.out | apply below_alloc | apply pw_below_drewN | apply below_drew1 | refine below_set ?_ (IsS62.ge HI102.out)) | exact HB.out)⟩
      · rw [if_neg c8] at H
        have c8b0 : (t107 == 7) = false := beq_eq_false_iff_ne.mpr c8
        have c8b1 : (t107 != 7) = true := bne_iff_ne.mpr c8
        obtain rfl := Option.some.inj H
        go_enter Try.func8, Try.ntmps8
        go_wp2_with (first | ((with_reducible refine gate_callee (f := 9) rfl ?_); refine goesL_ (some 7) rfl rfl Try.func9 (by kernel_rfl) rfl #[.int .i64 2] rfl (by (try simp only [List.map_toArray, List.map_cons, List.map_nil]); first | done | rfl | (simp only [List.length_drop, List.length_take]; rfl)) ?_; (with_reducible refine (queue_New.calls 2 t101 w _ ?side1 A1.out).mono ?_); (case side1 => repeat (first | (with_reducible first | exact HB.out | apply below_alloc | apply pw_below_drewN | apply below_drew1) | exact HB.out)); rintro e w37 ⟨g102, rfl, hi, hb, hb2⟩; refine ⟨_, rfl, ?_⟩; have n0_ := Aside0.mk (hb); have n1_ := Aside0.mk (hi); clear HB; have HB := n0_; have HI102 := n1_; clear n0_ n1_; (try clear hb); (try clear hb2); (try clear hk); (try clear hi)) | ((with_reducible refine gate_callee (f := 10) rfl ?_); refine goesL_ (some 9) rfl rfl Try.func10 (by kernel_rfl) rfl #[.pointer (some ⟨g102, 0, none⟩), .int .i64 7, .int .i64 0] rfl (by (try simp only [List.map_toArray, List.map_cons, List.map_nil]); first | done | rfl | (simp only [List.length_drop, List.length_take]; rfl)) ?_; (with_reducible refine (queue_Queue_Push.calls g102 t101 7 0 t103 t104 w _ ?side1 ?side2 A2.out).mono ?_); (case side1 => repeat (first | (with_reducible first | exact HI102.out | apply IsS62.alloc | apply IsS62.drewN | apply IsS62.drew | apply IsS62.set_0) | exact HI102.out)); (case side2 => repeat (first | (with_reducible first | exact HB.out | apply below_alloc | apply pw_below_drewN | apply below_drew1 | refine below_set ?_ (IsS62.ge HI102.out)) | exact HB.out)); rintro e w38 ⟨rfl, hi, hb, hk⟩; refine ⟨_, rfl, ?_⟩; have n0_ := Aside0.mk (hb); have n1_ := Aside0.mk (hi); clear HB; clear HI102; have HB := n0_; have HI102 := n1_; clear n0_ n1_; (try clear hb); (try clear hb2); (try clear hk); (try clear hi)) | ((with_reducible refine gate_callee (f := 10) rfl ?_); refine goesL_ (some 11) rfl rfl Try.func10 (by kernel_rfl) rfl #[.pointer (some ⟨g102, 0, none⟩), .int .i64 8, .int .i64 0] rfl (by (try simp only [List.map_toArray, List.map_cons, List.map_nil]); first | done | rfl | (simp only [List.length_drop, List.length_take]; rfl)) ?_; (with_reducible refine (queue_Queue_Push.calls g102 t104 8 0 t105 t106 w _ ?side1 ?side2 A3.out).mono ?_); (case side1 => repeat (first | (with_reducible first | exact HI102.out | apply IsS62.alloc | apply IsS62.drewN | apply IsS62.drew | apply IsS62.set_0) | exact HI102.out)); (case side2 => repeat (first | (with_reducible first | exact HB.out | apply below_alloc | apply pw_below_drewN | apply below_drew1 | refine below_set ?_ (IsS62.ge HI102.out)) | exact HB.out)); rintro e w39 ⟨rfl, hi, hb, hk⟩; refine ⟨_, rfl, ?_⟩; have n0_ := Aside0.mk (hb); have n1_ := Aside0.mk (hi); clear HB; clear HI102; have HB := n0_; have HI102 := n1_; clear n0_ n1_; (try clear hb); (try clear hb2); (try clear hk); (try clear hi)) | ((with_reducible refine gate_callee (f := 10) rfl ?_); refine goesL_ (some 13) rfl rfl Try.func10 (by kernel_rfl) rfl #[.pointer (some ⟨g102, 0, none⟩), .int .i64 9, .int .i64 0] rfl (by (try simp only [List.map_toArray, List.map_cons, List.map_nil]); first | done | rfl | (simp only [List.length_drop, List.length_take]; rfl)) ?_; (with_reducible refine (queue_Queue_Push.calls g102 t106 9 0 t107 t108 w _ ?side1 ?side2 A4.out).mono ?_); (case side1 => repeat (first | (with_reducible first | exact HI102.out | apply IsS62.alloc | apply IsS62.drewN | apply IsS62.drew | apply IsS62.set_0) | exact HI102.out)); (case side2 => repeat (first | (with_reducible first | exact HB.out | apply below_alloc | apply pw_below_drewN | apply below_drew1 | refine below_set ?_ (IsS62.ge HI102.out)) | exact HB.out)); rintro e w40 ⟨rfl, hi, hb, hk⟩; refine ⟨_, rfl, ?_⟩; have n0_ := Aside0.mk (hb); have n1_ := Aside0.mk (hi); clear HB; clear HI102; have HB := n0_; have HI102 := n1_; clear n0_ n1_; (try clear hb); (try clear hb2); (try clear hk); (try clear hi)) | ((with_reducible refine gate_callee (f := 12) rfl ?_); refine goesL_ (some 16) rfl rfl Try.func12 (by kernel_rfl) rfl #[.pointer (some ⟨g102, 0, none⟩)] rfl (by (try simp only [List.map_toArray, List.map_cons, List.map_nil]); first | done | rfl | (simp only [List.length_drop, List.length_take]; rfl)) ?_; (with_reducible refine (queue_Queue_Pop.calls g102 t108 t109 t110 t111 w _ ?side1 ?side2 A5.out).mono ?_); (case side1 => repeat (first | (with_reducible first | exact HI102.out | apply IsS62.alloc | apply IsS62.drewN | apply IsS62.drew | apply IsS62.set_0) | exact HI102.out)); (case side2 => repeat (first | (with_reducible first | exact HB.out | apply below_alloc | apply pw_below_drewN | apply below_drew1 | refine below_set ?_ (IsS62.ge HI102.out)) | exact HB.out)); rintro e w41 ⟨rfl, hi, hb, hk⟩; refine ⟨_, rfl, ?_⟩; have n0_ := Aside0.mk (hb); have n1_ := Aside0.mk (hi); clear HB; clear HI102; have HB := n0_; have HI102 := n1_; clear n0_ n1_; (try clear hb); (try clear hb2); (try clear hk); (try clear hi)))
        go_ret
        exact ⟨by first | rfl | (simp only [Int.ofNat_lt]; rfl) | (simp [errW_none, errW_some] <;> rfl) | (simp [*, errW_none, errW_some] <;> rfl), by repeat (first | (with_reducible first | exact HB.out | apply below_alloc | apply pw_below_drewN | apply below_drew1 | refine below_set ?_ (IsS62.ge HI102.out)) | exact HB.out)⟩
    · rw [if_neg c7] at H
      have c7b0 : (t105 == 0) = false := beq_eq_false_iff_ne.mpr c7
      have c7b1 : (t105 != 0) = true := bne_iff_ne.mpr c7
      obtain rfl := Option.some.inj H
      go_enter Try.func8, Try.ntmps8
      go_wp2_with (first | ((with_reducible refine gate_callee (f := 9) rfl ?_); refine goesL_ (some 7) rfl rfl Try.func9 (by kernel_rfl) rfl #[.int .i64 2] rfl (by (try simp only [List.map_toArray, List.map_cons, List.map_nil]); first | done | rfl | (simp only [List.length_drop, List.length_take]; rfl)) ?_; (with_reducible refine (queue_New.calls 2 t101 w _ ?side1 A1.out).mono ?_); (case side1 => repeat (first | (with_reducible first | exact HB.out | apply below_alloc | apply pw_below_drewN | apply below_drew1) | exact HB.out)); rintro e w42 ⟨g102, rfl, hi, hb, hb2⟩; refine ⟨_, rfl, ?_⟩; have n0_ := Aside0.mk (hb); have n1_ := Aside0.mk (hi); clear HB; have HB := n0_; have HI102 := n1_; clear n0_ n1_; (try clear hb); (try clear hb2); (try clear hk); (try clear hi)) | ((with_reducible refine gate_callee (f := 10) rfl ?_); refine goesL_ (some 9) rfl rfl Try.func10 (by kernel_rfl) rfl #[.pointer (some ⟨g102, 0, none⟩), .int .i64 7, .int .i64 0] rfl (by (try simp only [List.map_toArray, List.map_cons, List.map_nil]); first | done | rfl | (simp only [List.length_drop, List.length_take]; rfl)) ?_; (with_reducible refine (queue_Queue_Push.calls g102 t101 7 0 t103 t104 w _ ?side1 ?side2 A2.out).mono ?_); (case side1 => repeat (first | (with_reducible first | exact HI102.out | apply IsS62.alloc | apply IsS62.drewN | apply IsS62.drew | apply IsS62.set_0) | exact HI102.out)); (case side2 => repeat (first | (with_reducible first | exact HB.out | apply below_alloc | apply pw_below_drewN | apply below_drew1 | refine below_set ?_ (IsS62.ge HI102.out)) | exact HB.out)); rintro e w43 ⟨rfl, hi, hb, hk⟩; refine ⟨_, rfl, ?_⟩; have n0_ := Aside0.mk (hb); have n1_ := Aside0.mk (hi); clear HB; clear HI102; have HB := n0_; have HI102 := n1_; clear n0_ n1_; (try clear hb); (try clear hb2); (try clear hk); (try clear hi)) | ((with_reducible refine gate_callee (f := 10) rfl ?_); refine goesL_ (some 11) rfl rfl Try.func10 (by kernel_rfl) rfl #[.pointer (some ⟨g102, 0, none⟩), .int .i64 8, .int .i64 0] rfl (by (try simp only [List.map_toArray, List.map_cons, List.map_nil]); first | done | rfl | (simp only [List.length_drop, List.length_take]; rfl)) ?_; (with_reducible refine (queue_Queue_Push.calls g102 t104 8 0 t105 t106 w _ ?side1 ?side2 A3.out).mono ?_); (case side1 => repeat (first | (with_reducible first | exact HI102.out | apply IsS62.alloc | apply IsS62.drewN | apply IsS62.drew | apply IsS62.set_0) | exact HI102.out)); (case side2 => repeat (first | (with_reducible first | exact HB.out | apply below_alloc | apply pw_below_drewN | apply below_drew1 | refine below_set ?_ (IsS62.ge HI102.out)) | exact HB.out)); rintro e w44 ⟨rfl, hi, hb, hk⟩; refine ⟨_, rfl, ?_⟩; have n0_ := Aside0.mk (hb); have n1_ := Aside0.mk (hi); clear HB; clear HI102; have HB := n0_; have HI102 := n1_; clear n0_ n1_; (try clear hb); (try clear hb2); (try clear hk); (try clear hi)) | ((with_reducible refine gate_callee (f := 10) rfl ?_); refine goesL_ (some 13) rfl rfl Try.func10 (by kernel_rfl) rfl #[.pointer (some ⟨g102, 0, none⟩), .int .i64 9, .int .i64 0] rfl (by (try simp only [List.map_toArray, List.map_cons, List.map_nil]); first | done | rfl | (simp only [List.length_drop, List.length_take]; rfl)) ?_; (with_reducible refine (queue_Queue_Push.calls g102 t106 9 0 t107 t108 w _ ?side1 ?side2 A4.out).mono ?_); (case side1 => repeat (first | (with_reducible first | exact HI102.out | apply IsS62.alloc | apply IsS62.drewN | apply IsS62.drew | apply IsS62.set_0) | exact HI102.out)); (case side2 => repeat (first | (with_reducible first | exact HB.out | apply below_alloc | apply pw_below_drewN | apply below_drew1 | refine below_set ?_ (IsS62.ge HI102.out)) | exact HB.out)); rintro e w45 ⟨rfl, hi, hb, hk⟩; refine ⟨_, rfl, ?_⟩; have n0_ := Aside0.mk (hb); have n1_ := Aside0.mk (hi); clear HB; clear HI102; have HB := n0_; have HI102 := n1_; clear n0_ n1_; (try clear hb); (try clear hb2); (try clear hk); (try clear hi)) | ((with_reducible refine gate_callee (f := 12) rfl ?_); refine goesL_ (some 16) rfl rfl Try.func12 (by kernel_rfl) rfl #[.pointer (some ⟨g102, 0, none⟩)] rfl (by (try simp only [List.map_toArray, List.map_cons, List.map_nil]); first | done | rfl | (simp only [List.length_drop, List.length_take]; rfl)) ?_; (with_reducible refine (queue_Queue_Pop.calls g102 t108 t109 t110 t111 w _ ?side1 ?side2 A5.out).mono ?_); (case side1 => repeat (first | (with_reducible first | exact HI102.out | apply IsS62.alloc | apply IsS62.drewN | apply IsS62.drew | apply IsS62.set_0) | exact HI102.out)); (case side2 => repeat (first | (with_reducible first | exact HB.out | apply below_alloc | apply pw_below_drewN | apply below_drew1 | refine below_set ?_ (IsS62.ge HI102.out)) | exact HB.out)); rintro e w46 ⟨rfl, hi, hb, hk⟩; refine ⟨_, rfl, ?_⟩; have n0_ := Aside0.mk (hb); have n1_ := Aside0.mk (hi); clear HB; clear HI102; have HB := n0_; have HI102 := n1_; clear n0_ n1_; (try clear hb); (try clear hb2); (try clear hk); (try clear hi)))
      go_ret
      exact ⟨by first | rfl | (simp only [Int.ofNat_lt]; rfl) | (simp [errW_none, errW_some] <;> rfl) | (simp [*, errW_none, errW_some] <;> rfl), by repeat (first | (with_reducible first | exact HB.out | apply below_alloc | apply pw_below_drewN | apply below_drew1 | refine below_set ?_ (IsS62.ge HI102.out)) | exact HB.out)⟩
  · rw [if_neg c6] at H
    have c6b0 : (t103 == 0) = false := beq_eq_false_iff_ne.mpr c6
    have c6b1 : (t103 != 0) = true := bne_iff_ne.mpr c6
    obtain rfl := Option.some.inj H
    go_enter Try.func8, Try.ntmps8
    go_wp2_with (first | ((with_reducible refine gate_callee (f := 9) rfl ?_); refine goesL_ (some 7) rfl rfl Try.func9 (by kernel_rfl) rfl #[.int .i64 2] rfl (by (try simp only [List.map_toArray, List.map_cons, List.map_nil]); first | done | rfl | (simp only [List.length_drop, List.length_take]; rfl)) ?_; (with_reducible refine (queue_New.calls 2 t101 w _ ?side1 A1.out).mono ?_); (case side1 => repeat (first | (with_reducible first | exact HB.out | apply below_alloc | apply pw_below_drewN | apply below_drew1) | exact HB.out)); rintro e w47 ⟨g102, rfl, hi, hb, hb2⟩; refine ⟨_, rfl, ?_⟩; have n0_ := Aside0.mk (hb); have n1_ := Aside0.mk (hi); clear HB; have HB := n0_; have HI102 := n1_; clear n0_ n1_; (try clear hb); (try clear hb2); (try clear hk); (try clear hi)) | ((with_reducible refine gate_callee (f := 10) rfl ?_); refine goesL_ (some 9) rfl rfl Try.func10 (by kernel_rfl) rfl #[.pointer (some ⟨g102, 0, none⟩), .int .i64 7, .int .i64 0] rfl (by (try simp only [List.map_toArray, List.map_cons, List.map_nil]); first | done | rfl | (simp only [List.length_drop, List.length_take]; rfl)) ?_; (with_reducible refine (queue_Queue_Push.calls g102 t101 7 0 t103 t104 w _ ?side1 ?side2 A2.out).mono ?_); (case side1 => repeat (first | (with_reducible first | exact HI102.out | apply IsS62.alloc | apply IsS62.drewN | apply IsS62.drew | apply IsS62.set_0) | exact HI102.out)); (case side2 => repeat (first | (with_reducible first | exact HB.out | apply below_alloc | apply pw_below_drewN | apply below_drew1 | refine below_set ?_ (IsS62.ge HI102.out)) | exact HB.out)); rintro e w48 ⟨rfl, hi, hb, hk⟩; refine ⟨_, rfl, ?_⟩; have n0_ := Aside0.mk (hb); have n1_ := Aside0.mk (hi); clear HB; clear HI102; have HB := n0_; have HI102 := n1_; clear n0_ n1_; (try clear hb); (try clear hb2); (try clear hk); (try clear hi)) | ((with_reducible refine gate_callee (f := 10) rfl ?_); refine goesL_ (some 11) rfl rfl Try.func10 (by kernel_rfl) rfl #[.pointer (some ⟨g102, 0, none⟩), .int .i64 8, .int .i64 0] rfl (by (try simp only [List.map_toArray, List.map_cons, List.map_nil]); first | done | rfl | (simp only [List.length_drop, List.length_take]; rfl)) ?_; (with_reducible refine (queue_Queue_Push.calls g102 t104 8 0 t105 t106 w _ ?side1 ?side2 A3.out).mono ?_); (case side1 => repeat (first | (with_reducible first | exact HI102.out | apply IsS62.alloc | apply IsS62.drewN | apply IsS62.drew | apply IsS62.set_0) | exact HI102.out)); (case side2 => repeat (first | (with_reducible first | exact HB.out | apply below_alloc | apply pw_below_drewN | apply below_drew1 | refine below_set ?_ (IsS62.ge HI102.out)) | exact HB.out)); rintro e w49 ⟨rfl, hi, hb, hk⟩; refine ⟨_, rfl, ?_⟩; have n0_ := Aside0.mk (hb); have n1_ := Aside0.mk (hi); clear HB; clear HI102; have HB := n0_; have HI102 := n1_; clear n0_ n1_; (try clear hb); (try clear hb2); (try clear hk); (try clear hi)) | ((with_reducible refine gate_callee (f := 10) rfl ?_); refine goesL_ (some 13) rfl rfl Try.func10 (by kernel_rfl) rfl #[.pointer (some ⟨g102, 0, none⟩), .int .i64 9, .int .i64 0] rfl (by (try simp only [List.map_toArray, List.map_cons, List.map_nil]); first | done | rfl | (simp only [List.length_drop, List.length_take]; rfl)) ?_; (with_reducible refine (queue_Queue_Push.calls g102 t106 9 0 t107 t108 w _ ?side1 ?side2 A4.out).mono ?_); (case side1 => repeat (first | (with_reducible first | exact HI102.out | apply IsS62.alloc | apply IsS62.drewN | apply IsS62.drew | apply IsS62.set_0) | exact HI102.out)); (case side2 => repeat (first | (with_reducible first | exact HB.out | apply below_alloc | apply pw_below_drewN | apply below_drew1 | refine below_set ?_ (IsS62.ge HI102.out)) | exact HB.out)); rintro e w50 ⟨rfl, hi, hb, hk⟩; refine ⟨_, rfl, ?_⟩; have n0_ := Aside0.mk (hb); have n1_ := Aside0.mk (hi); clear HB; clear HI102; have HB := n0_; have HI102 := n1_; clear n0_ n1_; (try clear hb); (try clear hb2); (try clear hk); (try clear hi)) | ((with_reducible refine gate_callee (f := 12) rfl ?_); refine goesL_ (some 16) rfl rfl Try.func12 (by kernel_rfl) rfl #[.pointer (some ⟨g102, 0, none⟩)] rfl (by (try simp only [List.map_toArray, List.map_cons, List.map_nil]); first | done | rfl | (simp only [List.length_drop, List.length_take]; rfl)) ?_; (with_reducible refine (queue_Queue_Pop.calls g102 t108 t109 t110 t111 w _ ?side1 ?side2 A5.out).mono ?_); (case side1 => repeat (first | (with_reducible first | exact HI102.out | apply IsS62.alloc | apply IsS62.drewN | apply IsS62.drew | apply IsS62.set_0) | exact HI102.out)); (case side2 => repeat (first | (with_reducible first | exact HB.out | apply below_alloc | apply pw_below_drewN | apply below_drew1 | refine below_set ?_ (IsS62.ge HI102.out)) | exact HB.out)); rintro e w51 ⟨rfl, hi, hb, hk⟩; refine ⟨_, rfl, ?_⟩; have n0_ := Aside0.mk (hb); have n1_ := Aside0.mk (hi); clear HB; clear HI102; have HB := n0_; have HI102 := n1_; clear n0_ n1_; (try clear hb); (try clear hb2); (try clear hk); (try clear hi)))
    go_ret
    exact ⟨by first | rfl | (simp only [Int.ofNat_lt]; rfl) | (simp [errW_none, errW_some] <;> rfl) | (simp [*, errW_none, errW_some] <;> rfl), by repeat (first | (with_reducible first | exact HB.out | apply below_alloc | apply pw_below_drewN | apply below_drew1 | refine below_set ?_ (IsS62.ge HI102.out)) | exact HB.out)⟩

/-! ### hostlerlaw12_QueueRow: function 3 -/
mutual
def hostlerlaw12_QueueRow.l0 : Nat → Int → List Bool → Int → Int → Int → QS → Option (Bool)
  | 0, _, _, _, _, _, _ => none
  | k + 1, x0, x1, x6, x7, x8, x119000 => if x8 < (x1.length : Int) then (hostlerlaw12_QueueRow.j1 k x0 x1 x6 x7 x8 (decide (x8 < 100)) x119000) else (hostlerlaw12_QueueRow.j1 k x0 x1 x6 x7 x8 false x119000)
def hostlerlaw12_QueueRow.j1 : Nat → Int → List Bool → Int → Int → Int → Bool → QS → Option (Bool)
  | 0, _, _, _, _, _, _, _ => none
  | k + 1, x0, x1, x6, x7, x8, x27, x119000 => if x27 = true then (if 0 ≤ x8 then (if x8 < (x1.length : Int) then (if rdOf false x1 x8 = true then ((queue_Queue_Push.f x119000 x6 x8).bind fun bt124 => (if ((bt124.1 == 0) != (decide ((wrap64 (x6 - x7)) < x0))) = true then (none) else (if bt124.1 = 0 then (hostlerlaw12_QueueRow.l0 k x0 x1 (wrap64 (x6 + 1)) x7 (wrap64 (x8 + 1)) bt124.2) else (if bt124.1 = 7 then ((queue_Queue_Place.f bt124.2 x6).bind fun bt126 => (if bt126.1 = (-1) then (hostlerlaw12_QueueRow.l0 k x0 x1 x6 x7 (wrap64 (x8 + 1)) bt126.2) else (none))) else (none))))) else ((queue_Queue_Pop.f x119000).bind fun bt128 => (if (bt128.2.1 != (decide (x6 > x7))) = true then (hostlerlaw12_QueueRow.j2 k x0 x1 x6 x7 x8 bt128.2.1 true bt128.2.2) else (if bt128.2.1 = true then (hostlerlaw12_QueueRow.j2 k x0 x1 x6 x7 x8 bt128.2.1 (bt128.1 != x7) bt128.2.2) else (hostlerlaw12_QueueRow.j2 k x0 x1 x6 x7 x8 bt128.2.1 false bt128.2.2))))) else (none)) else (none)) else ((queue_Queue_Len.f x119000).bind fun bt119 => (if bt119.1 = (wrap64 (x6 - x7)) then ((queue_Queue_Len.f bt119.2).bind fun bt121 => (some (decide (bt121.1 ≤ x0)))) else (none)))
def hostlerlaw12_QueueRow.j2 : Nat → Int → List Bool → Int → Int → Int → Bool → Bool → QS → Option (Bool)
  | 0, _, _, _, _, _, _, _, _ => none
  | k + 1, x0, x1, x6, x7, x8, x11, x75, x119000 => if x75 = true then (none) else (if x11 = true then (hostlerlaw12_QueueRow.l0 k x0 x1 x6 (wrap64 (x7 + 1)) (wrap64 (x8 + 1)) x119000) else (hostlerlaw12_QueueRow.l0 k x0 x1 x6 x7 (wrap64 (x8 + 1)) x119000))
end
def hostlerlaw12_QueueRow.f (k : Nat) (a0 : Int) (l1 : List Bool) : Option (Bool) := (hostlerlaw12_lives.f).bind fun t116 => (if t116 = true then ((queue_New.f (wrap64 (Int.tmod (IntKind.u64.wrap (a0)) 17))).bind fun t117 => (hostlerlaw12_QueueRow.l0 k (wrap64 (Int.tmod (IntKind.u64.wrap (a0)) 17)) l1 0 0 0 t117)) else (none))
theorem hostlerlaw12_QueueRow.mono_l : ∀ k, (∀ y0 y1 y2 y3 y4 y5, LeO (hostlerlaw12_QueueRow.l0 k y0 y1 y2 y3 y4 y5) (hostlerlaw12_QueueRow.l0 (k + 1) y0 y1 y2 y3 y4 y5)) ∧ (∀ y0 y1 y2 y3 y4 y5 y6, LeO (hostlerlaw12_QueueRow.j1 k y0 y1 y2 y3 y4 y5 y6) (hostlerlaw12_QueueRow.j1 (k + 1) y0 y1 y2 y3 y4 y5 y6)) ∧ (∀ y0 y1 y2 y3 y4 y5 y6 y7, LeO (hostlerlaw12_QueueRow.j2 k y0 y1 y2 y3 y4 y5 y6 y7) (hostlerlaw12_QueueRow.j2 (k + 1) y0 y1 y2 y3 y4 y5 y6 y7))
  | 0 => ⟨fun _ _ _ _ _ _ r h => by simp [hostlerlaw12_QueueRow.l0] at h, fun _ _ _ _ _ _ _ r h => by simp [hostlerlaw12_QueueRow.j1] at h, fun _ _ _ _ _ _ _ _ r h => by simp [hostlerlaw12_QueueRow.j2] at h⟩
  | k + 1 => by
    obtain ⟨ih0, ih1, ih2⟩ := hostlerlaw12_QueueRow.mono_l k
    refine ⟨?_, ?_, ?_⟩
    · intro y0 y1 y2 y3 y4 y5
      unfold hostlerlaw12_QueueRow.l0
      repeat' first
      | (with_reducible exact ih0 _ _ _ _ _ _)
      | (with_reducible exact ih1 _ _ _ _ _ _ _)
      | (with_reducible exact ih2 _ _ _ _ _ _ _ _)
      | (with_reducible exact LeO.refl _)
      | (with_reducible exact LeO.none _)
      | (with_reducible refine LeO.ite ?_ ?_)
      | (with_reducible refine LeO.bind ?_ (fun _ => ?_))
      | exact ih0 _ _ _ _ _ _
      | exact ih1 _ _ _ _ _ _ _
      | exact ih2 _ _ _ _ _ _ _ _
      | exact LeO.none _
      | refine LeO.ite ?_ ?_
      | refine LeO.bind ?_ (fun _ => ?_)
    · intro y0 y1 y2 y3 y4 y5 y6
      unfold hostlerlaw12_QueueRow.j1
      repeat' first
      | (with_reducible exact ih0 _ _ _ _ _ _)
      | (with_reducible exact ih1 _ _ _ _ _ _ _)
      | (with_reducible exact ih2 _ _ _ _ _ _ _ _)
      | (with_reducible exact LeO.refl _)
      | (with_reducible exact LeO.none _)
      | (with_reducible refine LeO.ite ?_ ?_)
      | (with_reducible refine LeO.bind ?_ (fun _ => ?_))
      | exact ih0 _ _ _ _ _ _
      | exact ih1 _ _ _ _ _ _ _
      | exact ih2 _ _ _ _ _ _ _ _
      | exact LeO.none _
      | refine LeO.ite ?_ ?_
      | refine LeO.bind ?_ (fun _ => ?_)
    · intro y0 y1 y2 y3 y4 y5 y6 y7
      unfold hostlerlaw12_QueueRow.j2
      repeat' first
      | (with_reducible exact ih0 _ _ _ _ _ _)
      | (with_reducible exact ih1 _ _ _ _ _ _ _)
      | (with_reducible exact ih2 _ _ _ _ _ _ _ _)
      | (with_reducible exact LeO.refl _)
      | (with_reducible exact LeO.none _)
      | (with_reducible refine LeO.ite ?_ ?_)
      | (with_reducible refine LeO.bind ?_ (fun _ => ?_))
      | exact ih0 _ _ _ _ _ _
      | exact ih1 _ _ _ _ _ _ _
      | exact ih2 _ _ _ _ _ _ _ _
      | exact LeO.none _
      | refine LeO.ite ?_ ?_
      | refine LeO.bind ?_ (fun _ => ?_)
theorem hostlerlaw12_QueueRow.mono : ∀ a0 a1 k, LeO (hostlerlaw12_QueueRow.f k a0 a1) (hostlerlaw12_QueueRow.f (k + 1) a0 a1) := by
  intro a0 a1 k
  obtain ⟨ih0, ih1, ih2⟩ := hostlerlaw12_QueueRow.mono_l k
  unfold hostlerlaw12_QueueRow.f
  repeat' first
      | (with_reducible exact ih0 _ _ _ _ _ _)
      | (with_reducible exact ih1 _ _ _ _ _ _ _)
      | (with_reducible exact ih2 _ _ _ _ _ _ _ _)
      | (with_reducible exact LeO.refl _)
      | (with_reducible exact LeO.none _)
      | (with_reducible refine LeO.ite ?_ ?_)
      | (with_reducible refine LeO.bind ?_ (fun _ => ?_))
      | exact ih0 _ _ _ _ _ _
      | exact ih1 _ _ _ _ _ _ _
      | exact ih2 _ _ _ _ _ _ _ _
      | exact LeO.none _
      | refine LeO.ite ?_ ?_
      | refine LeO.bind ?_ (fun _ => ?_)
set_option maxHeartbeats 8000000 in
set_option maxRecDepth 100000 in
theorem hostlerlaw12_QueueRow.calls (k : Nat) (a0 : Int) (A1 : Option Addr) (c1 : Nat) (l1 : List Bool) (r : Bool) (w : World) (hr1 : Kd.C Kd.bool w A1 l1.length l1) (hc1 : l1.length ≤ c1) (h : hostlerlaw12_QueueRow.f k a0 l1 = some r) :
    Calls Try.prog 3 #[.int .i64 a0, .slice A1 l1.length c1] w fun e w' => e = .returned (.bool r) ∧ Below w.heap.size w w' := by
  have HR1 := Aside0.mk hr1
  have HC1 := Aside0.mk hc1
  clear hr1 hc1
  have HB := Aside0.mk (Below.refl w.heap.size w)
  have H : ((hostlerlaw12_lives.f).bind fun t116 => (if t116 = true then ((queue_New.f (wrap64 (Int.tmod (IntKind.u64.wrap (a0)) 17))).bind fun t117 => (hostlerlaw12_QueueRow.l0 k (wrap64 (Int.tmod (IntKind.u64.wrap (a0)) 17)) l1 0 0 0 t117)) else (none))) = some r := h
  clear h
  replace H := Option.bind_eq_some_iff.mp H
  obtain ⟨t116, A30, H⟩ := H
  replace H : (if t116 = true then ((queue_New.f (wrap64 (Int.tmod (IntKind.u64.wrap (a0)) 17))).bind fun t117 => (hostlerlaw12_QueueRow.l0 k (wrap64 (Int.tmod (IntKind.u64.wrap (a0)) 17)) l1 0 0 0 t117)) else (none)) = some r := H
  have A3 := Aside0.mk A30
  clear A30
  by_cases c4 : t116 = true
  · subst c4
    have H1 : ((queue_New.f (wrap64 (Int.tmod (IntKind.u64.wrap (a0)) 17))).bind fun t117 => (hostlerlaw12_QueueRow.l0 k (wrap64 (Int.tmod (IntKind.u64.wrap (a0)) 17)) l1 0 0 0 t117)) = some r := by rw [if_pos rfl] at H; exact H
    clear H
    have H := H1
    clear H1
    replace H := Option.bind_eq_some_iff.mp H
    obtain ⟨t117, A50, H⟩ := H
    replace H : (hostlerlaw12_QueueRow.l0 k (wrap64 (Int.tmod (IntKind.u64.wrap (a0)) 17)) l1 0 0 0 t117) = some r := H
    have A5 := Aside0.mk A50
    clear A50
    have H' := Aside0.mk H
    clear H
    go_enter Try.func3, Try.ntmps3
    go_wp2_with (first | ((with_reducible refine gate_callee (f := 8) rfl ?_); refine goesL_ (some 12) rfl rfl Try.func8 (by kernel_rfl) rfl #[] rfl (by (try simp only [List.map_toArray, List.map_cons, List.map_nil]); first | done | rfl | (simp only [List.length_drop, List.length_take]; rfl)) ?_; (with_reducible refine (hostlerlaw12_lives.calls  true _ A3.out).mono ?_); rintro e w6 ⟨rfl, hb⟩; refine ⟨_, rfl, ?_⟩; have n0_ := Aside0.mk (below_step (by repeat (first | (with_reducible first | exact HB.out | apply below_alloc | apply pw_below_drewN | apply below_drew1) | exact HB.out)) hb); clear HB; have HB := n0_; clear n0_; (try clear hb); (try clear hb2); (try clear hk); (try clear hi)) | ((with_reducible refine gate_callee (f := 9) rfl ?_); refine goesL_ (some 19) rfl rfl Try.func9 (by kernel_rfl) rfl #[.int .i64 (wrap64 (Int.tmod (IntKind.u64.wrap (a0)) 17))] rfl (by (try simp only [List.map_toArray, List.map_cons, List.map_nil]); first | done | rfl | (simp only [List.length_drop, List.length_take]; rfl)) ?_; (with_reducible refine (queue_New.calls (wrap64 (Int.tmod (IntKind.u64.wrap (a0)) 17)) t117 w _ ?side1 A5.out).mono ?_); (case side1 => repeat (first | (with_reducible first | exact HB.out | apply below_alloc | apply pw_below_drewN | apply below_drew1) | exact HB.out)); rintro e w7 ⟨g118, rfl, hi, hb, hb2⟩; refine ⟨_, rfl, ?_⟩; have n0_ := Aside0.mk (hb); have n1_ := Aside0.mk (hi); clear HB; have HB := n0_; have HI118 := n1_; clear n0_ n1_; (try clear hb); (try clear hb2); (try clear hk); (try clear hi)))
    go_loopg [6, 7, 8] k (fun kq v6 v7 v8 w' => ∃ (x6_1 : Int) (x7_1 : Int) (x8_1 : Int) (x119000_1 : QS), v6 = .int .i64 x6_1 ∧ v7 = .int .i64 x7_1 ∧ v8 = .int .i64 x8_1 ∧ Aside0 (hostlerlaw12_QueueRow.l0 kq (wrap64 (Int.tmod (IntKind.u64.wrap (a0)) 17)) l1 x6_1 x7_1 x8_1 x119000_1 = some r) ∧ Aside0 (kq ≤ k) ∧ Aside0 (IsS62 w w' g118 x119000_1) ∧ Aside0 (Below w.heap.size w w'))
    case atStart => exact ⟨(0), (0), (0), (t117), (by first | rfl | (simp; done) | (simp [*]; done)), (by first | rfl | (simp; done) | (simp [*]; done)), (by first | rfl | (simp; done) | (simp [*]; done)), H', ⟨Nat.le_refl _⟩, ⟨by repeat (first | (with_reducible first | exact HI118.out | apply IsS62.alloc | apply IsS62.drewN | apply IsS62.drew | apply IsS62.set_0) | exact HI118.out)⟩, ⟨by repeat (first | (with_reducible first | exact HB.out | apply below_alloc | apply pw_below_drewN | apply below_drew1 | refine below_set ?_ (IsS62.ge HI118.out)) | exact HB.out)⟩⟩
    case round =>
      clear H'
      try clear c1
      try clear p2
      try clear c3
      try clear c4
      try clear p6
      obtain ⟨x6_1, x7_1, x8_1, x119000_1, rfl, rfl, rfl, HA, HK1, HI118, HB⟩ := hrel
      cases gk with
      | zero => exact absurd HA.out (by simp [hostlerlaw12_QueueRow.l0])
      | succ k1 =>
        have H := HA.out
        clear HA
        simp only [hostlerlaw12_QueueRow.l0] at H
        have HC8 := Aside0.mk H
        clear H
        go_upto_region 7 with (fail)
        go_cut [27] (fun v27 wc => ∃ (kq : Nat) (x27_7 : Bool), v27 = .bool x27_7 ∧ Aside0 (hostlerlaw12_QueueRow.j1 kq (wrap64 (Int.tmod (IntKind.u64.wrap (a0)) 17)) l1 x6_1 x7_1 x8_1 x27_7 x119000_1 = some r) ∧ Aside0 (kq ≤ k1) ∧ Aside0 (IsS62 w wc g118 x119000_1) ∧ Aside0 (Below w.heap.size w wc))
        case first =>
          have H := HC8.out
          clear HC8
          by_cases c9 : x8_1 < (l1.length : Int)
          · rw [if_pos c9] at H
            have c9b0 : decide (x8_1 < (l1.length : Int)) = true := decide_eq_true c9
            clear c9
            (first | rw [c9b0] | (simp only [i64_w, i32_w]; rw [c9b0]) | skip)
            have H' := Aside0.mk H
            clear H
            go_wp2
            go_meet
            case rel => exact ⟨_, (decide (x8_1 < 100)), (by first | rfl | (simp; done) | (simp [*]; done)), H', ⟨by have := HK1.out; first | omega | exact Nat.le_refl _⟩, ⟨by repeat (first | (with_reducible first | exact HI118.out | apply IsS62.alloc | apply IsS62.drewN | apply IsS62.drew | apply IsS62.set_0) | exact HI118.out)⟩, ⟨by repeat (first | (with_reducible first | exact HB.out | apply below_alloc | apply pw_below_drewN | apply below_drew1 | refine below_set ?_ (IsS62.ge HI118.out)) | exact HB.out)⟩⟩
          · rw [if_neg c9] at H
            have c9b0 : decide (x8_1 < (l1.length : Int)) = false := decide_eq_false c9
            clear c9
            (first | rw [c9b0] | (simp only [i64_w, i32_w]; rw [c9b0]) | skip)
            have H' := Aside0.mk H
            clear H
            go_wp2
            go_meet
            case rel => exact ⟨_, (false), (by first | rfl | (simp; done) | (simp [*]; done)), H', ⟨by have := HK1.out; first | omega | exact Nat.le_refl _⟩, ⟨by repeat (first | (with_reducible first | exact HI118.out | apply IsS62.alloc | apply IsS62.drewN | apply IsS62.drew | apply IsS62.set_0) | exact HI118.out)⟩, ⟨by repeat (first | (with_reducible first | exact HB.out | apply below_alloc | apply pw_below_drewN | apply below_drew1 | refine below_set ?_ (IsS62.ge HI118.out)) | exact HB.out)⟩⟩
        case rest =>
          clear HC8
          try clear c1
          try clear p2
          try clear c3
          try clear c4
          try clear p6
          try clear c8
          try clear c9
          try clear c9b0
          try clear p2
          try clear p6
          obtain ⟨kq, x27_7, rfl, HA, HJ7, HI118, HB⟩ := hcut
          cases kq with
          | zero => exact absurd HA.out (by simp [hostlerlaw12_QueueRow.j1])
          | succ kj7 =>
            have H := HA.out
            clear HA
            simp only [hostlerlaw12_QueueRow.j1] at H
            by_cases c10 : x27_7 = true
            · subst c10
              have H1 : (if 0 ≤ x8_1 then (if x8_1 < (l1.length : Int) then (if rdOf false l1 x8_1 = true then ((queue_Queue_Push.f x119000_1 x6_1 x8_1).bind fun bt124 => (if ((bt124.1 == 0) != (decide ((wrap64 (x6_1 - x7_1)) < (wrap64 (Int.tmod (IntKind.u64.wrap (a0)) 17))))) = true then (none) else (if bt124.1 = 0 then (hostlerlaw12_QueueRow.l0 kj7 (wrap64 (Int.tmod (IntKind.u64.wrap (a0)) 17)) l1 (wrap64 (x6_1 + 1)) x7_1 (wrap64 (x8_1 + 1)) bt124.2) else (if bt124.1 = 7 then ((queue_Queue_Place.f bt124.2 x6_1).bind fun bt126 => (if bt126.1 = (-1) then (hostlerlaw12_QueueRow.l0 kj7 (wrap64 (Int.tmod (IntKind.u64.wrap (a0)) 17)) l1 x6_1 x7_1 (wrap64 (x8_1 + 1)) bt126.2) else (none))) else (none))))) else ((queue_Queue_Pop.f x119000_1).bind fun bt128 => (if (bt128.2.1 != (decide (x6_1 > x7_1))) = true then (hostlerlaw12_QueueRow.j2 kj7 (wrap64 (Int.tmod (IntKind.u64.wrap (a0)) 17)) l1 x6_1 x7_1 x8_1 bt128.2.1 true bt128.2.2) else (if bt128.2.1 = true then (hostlerlaw12_QueueRow.j2 kj7 (wrap64 (Int.tmod (IntKind.u64.wrap (a0)) 17)) l1 x6_1 x7_1 x8_1 bt128.2.1 (bt128.1 != x7_1) bt128.2.2) else (hostlerlaw12_QueueRow.j2 kj7 (wrap64 (Int.tmod (IntKind.u64.wrap (a0)) 17)) l1 x6_1 x7_1 x8_1 bt128.2.1 false bt128.2.2))))) else (none)) else (none)) = some r := by rw [if_pos rfl] at H; exact H
              clear H
              have H := H1
              clear H1
              by_cases c11 : 0 ≤ x8_1
              · rw [if_pos c11] at H
                have c11b0 : decide (0 ≤ x8_1) = true := decide_eq_true c11
                clear c11
                by_cases c12 : x8_1 < (l1.length : Int)
                · rw [if_pos c12] at H
                  have c12b0 : decide (x8_1 < (l1.length : Int)) = true := decide_eq_true c12
                  clear c12
                  obtain ⟨bq13, hbq13⟩ : ∃ b_ : Bool, b_ = (rdOf false l1 x8_1) := ⟨_, rfl⟩
                  replace H : (if bq13 = true then ((queue_Queue_Push.f x119000_1 x6_1 x8_1).bind fun bt124 => (if ((bt124.1 == 0) != (decide ((wrap64 (x6_1 - x7_1)) < (wrap64 (Int.tmod (IntKind.u64.wrap (a0)) 17))))) = true then (none) else (if bt124.1 = 0 then (hostlerlaw12_QueueRow.l0 kj7 (wrap64 (Int.tmod (IntKind.u64.wrap (a0)) 17)) l1 (wrap64 (x6_1 + 1)) x7_1 (wrap64 (x8_1 + 1)) bt124.2) else (if bt124.1 = 7 then ((queue_Queue_Place.f bt124.2 x6_1).bind fun bt126 => (if bt126.1 = (-1) then (hostlerlaw12_QueueRow.l0 kj7 (wrap64 (Int.tmod (IntKind.u64.wrap (a0)) 17)) l1 x6_1 x7_1 (wrap64 (x8_1 + 1)) bt126.2) else (none))) else (none))))) else ((queue_Queue_Pop.f x119000_1).bind fun bt128 => (if (bt128.2.1 != (decide (x6_1 > x7_1))) = true then (hostlerlaw12_QueueRow.j2 kj7 (wrap64 (Int.tmod (IntKind.u64.wrap (a0)) 17)) l1 x6_1 x7_1 x8_1 bt128.2.1 true bt128.2.2) else (if bt128.2.1 = true then (hostlerlaw12_QueueRow.j2 kj7 (wrap64 (Int.tmod (IntKind.u64.wrap (a0)) 17)) l1 x6_1 x7_1 x8_1 bt128.2.1 (bt128.1 != x7_1) bt128.2.2) else (hostlerlaw12_QueueRow.j2 kj7 (wrap64 (Int.tmod (IntKind.u64.wrap (a0)) 17)) l1 x6_1 x7_1 x8_1 bt128.2.1 false bt128.2.2))))) = some r := by rw [← hbq13] at H; exact H
                  have Nbq13 := Aside0.mk hbq13
                  clear hbq13
                  by_cases c14 : bq13 = true
                  · subst c14
                    have H1 : ((queue_Queue_Push.f x119000_1 x6_1 x8_1).bind fun bt124 => (if ((bt124.1 == 0) != (decide ((wrap64 (x6_1 - x7_1)) < (wrap64 (Int.tmod (IntKind.u64.wrap (a0)) 17))))) = true then (none) else (if bt124.1 = 0 then (hostlerlaw12_QueueRow.l0 kj7 (wrap64 (Int.tmod (IntKind.u64.wrap (a0)) 17)) l1 (wrap64 (x6_1 + 1)) x7_1 (wrap64 (x8_1 + 1)) bt124.2) else (if bt124.1 = 7 then ((queue_Queue_Place.f bt124.2 x6_1).bind fun bt126 => (if bt126.1 = (-1) then (hostlerlaw12_QueueRow.l0 kj7 (wrap64 (Int.tmod (IntKind.u64.wrap (a0)) 17)) l1 x6_1 x7_1 (wrap64 (x8_1 + 1)) bt126.2) else (none))) else (none))))) = some r := by rw [if_pos rfl] at H; exact H
                    clear H
                    have H := H1
                    clear H1
                    replace H := Option.bind_eq_some_iff.mp H
                    obtain ⟨⟨t124, t125⟩, A150, H⟩ := H
                    replace H : (if ((t124 == 0) != (decide ((wrap64 (x6_1 - x7_1)) < (wrap64 (Int.tmod (IntKind.u64.wrap (a0)) 17))))) = true then (none) else (if t124 = 0 then (hostlerlaw12_QueueRow.l0 kj7 (wrap64 (Int.tmod (IntKind.u64.wrap (a0)) 17)) l1 (wrap64 (x6_1 + 1)) x7_1 (wrap64 (x8_1 + 1)) t125) else (if t124 = 7 then ((queue_Queue_Place.f t125 x6_1).bind fun bt126 => (if bt126.1 = (-1) then (hostlerlaw12_QueueRow.l0 kj7 (wrap64 (Int.tmod (IntKind.u64.wrap (a0)) 17)) l1 x6_1 x7_1 (wrap64 (x8_1 + 1)) bt126.2) else (none))) else (none)))) = some r := H
                    have A15 := Aside0.mk A150
                    clear A150
                    by_cases c16 : ((t124 == 0) != (decide ((wrap64 (x6_1 - x7_1)) < (wrap64 (Int.tmod (IntKind.u64.wrap (a0)) 17))))) = true
                    · rw [if_pos c16] at H
                      exact absurd H (by simp)
                    · rw [if_neg c16] at H
                      have c16b0 : ((t124 == 0) != (decide ((wrap64 (x6_1 - x7_1)) < (wrap64 (Int.tmod (IntKind.u64.wrap (a0)) 17))))) = false := by simpa using c16
                      (try (have c16b1 : decide ((t124 == 0) = (decide ((wrap64 (x6_1 - x7_1)) < (wrap64 (Int.tmod (IntKind.u64.wrap (a0)) 17))))) = true := by simpa using c16))
                      (try (have c16b2 : ((t124 == 0) == (decide ((wrap64 (x6_1 - x7_1)) < (wrap64 (Int.tmod (IntKind.u64.wrap (a0)) 17))))) = true := by simpa using c16))
                      clear c16
                      by_cases c17 : t124 = 0
                      · rw [if_pos c17] at H
                        have c17b0 : (t124 == 0) = true := beq_iff_eq.mpr c17
                        (try (have c17b0d : (decide ((wrap64 (x6_1 - x7_1)) < (wrap64 (Int.tmod (IntKind.u64.wrap (a0)) 17)))) = true := by have h_ := c16b0; rw [c17b0] at h_; revert h_; generalize (decide ((wrap64 (x6_1 - x7_1)) < (wrap64 (Int.tmod (IntKind.u64.wrap (a0)) 17)))) = d_; cases d_ <;> simp))
                        have c17b1 : (t124 != 0) = false := bne_eq_false_iff_eq.mpr c17
                        clear c17
                        have H' := Aside0.mk H
                        clear H
                        have p123 : 0 ≤ (x8_1 : Int) := of_decide_eq_true (by first | (with_reducible assumption) | assumption)
                        have q123 : x8_1 < (l1.length : Int) := of_decide_eq_true (by first | (with_reducible assumption) | assumption)
                        obtain ⟨ad123, e123, hx123_0⟩ := Kd.at_bool HR1.out x8_1 p123 q123
                        (try rw [← Nbq13.out] at hx123_0)
                        (try rw [← Nbq13.out] at hw123_0)
                        cases e123
                        replace hx123_0 := (HB.out.cell (World.block_lt_of_cell? w _ hx123_0)).trans hx123_0
                        replace p123 := eq_true p123
                        replace q123 := eq_true q123
                        go_wp2_with (first | ((with_reducible refine gate_callee (f := 10) rfl ?_); refine goesL_ (some 37) rfl rfl Try.func10 (by kernel_rfl) rfl #[.pointer (some ⟨g118, 0, none⟩), .int .i64 x6_1, .int .i64 x8_1] rfl (by (try simp only [List.map_toArray, List.map_cons, List.map_nil]); first | done | rfl | (simp only [List.length_drop, List.length_take]; rfl)) ?_; (with_reducible refine (queue_Queue_Push.calls g118 x119000_1 x6_1 x8_1 t124 t125 w _ ?side1 ?side2 A15.out).mono ?_); (case side1 => repeat (first | (with_reducible first | exact HI118.out | apply IsS62.alloc | apply IsS62.drewN | apply IsS62.drew | apply IsS62.set_0) | exact HI118.out)); (case side2 => repeat (first | (with_reducible first | exact HB.out | apply below_alloc | apply pw_below_drewN | apply below_drew1 | refine below_set ?_ (IsS62.ge HI118.out)) | exact HB.out)); rintro e w18 ⟨rfl, hi, hb, hk⟩; refine ⟨_, rfl, ?_⟩; have n0_ := Aside0.mk (hb); have n1_ := Aside0.mk (hi); clear HB; clear HI118; have HB := n0_; have HI118 := n1_; clear n0_ n1_; (try clear hb); (try clear hb2); (try clear hk); (try clear hi)))
                        go_roundg kj7
                        case measure => have := HK1.out; have := HJ7.out; omega
                        case rel => exact ⟨(wrap64 (x6_1 + 1)), (x7_1), (wrap64 (x8_1 + 1)), (t125), (by first | rfl | (simp; done) | (simp [*]; done)), (by first | rfl | (simp; done) | (simp [*]; done)), (by first | rfl | (simp; done) | (simp [*]; done)), H', ⟨by have := HK1.out; have := HJ7.out; omega⟩, ⟨by repeat (first | (with_reducible first | exact HI118.out | apply IsS62.alloc | apply IsS62.drewN | apply IsS62.drew | apply IsS62.set_0) | exact HI118.out)⟩, ⟨by repeat (first | (with_reducible first | exact HB.out | apply below_alloc | apply pw_below_drewN | apply below_drew1 | refine below_set ?_ (IsS62.ge HI118.out)) | exact HB.out)⟩⟩
                      · rw [if_neg c17] at H
                        have c17b0 : (t124 == 0) = false := beq_eq_false_iff_ne.mpr c17
                        (try (have c17b0d : (decide ((wrap64 (x6_1 - x7_1)) < (wrap64 (Int.tmod (IntKind.u64.wrap (a0)) 17)))) = false := by have h_ := c16b0; rw [c17b0] at h_; revert h_; generalize (decide ((wrap64 (x6_1 - x7_1)) < (wrap64 (Int.tmod (IntKind.u64.wrap (a0)) 17)))) = d_; cases d_ <;> simp))
                        have c17b1 : (t124 != 0) = true := bne_iff_ne.mpr c17
                        by_cases c19 : t124 = 7
                        · rw [if_pos c19] at H
                          have c19b0 : (t124 == 7) = true := beq_iff_eq.mpr c19
                          have c19b1 : (t124 != 7) = false := bne_eq_false_iff_eq.mpr c19
                          clear c19
                          replace H := Option.bind_eq_some_iff.mp H
                          obtain ⟨⟨t126, t127⟩, A200, H⟩ := H
                          replace H : (if t126 = (-1) then (hostlerlaw12_QueueRow.l0 kj7 (wrap64 (Int.tmod (IntKind.u64.wrap (a0)) 17)) l1 x6_1 x7_1 (wrap64 (x8_1 + 1)) t127) else (none)) = some r := H
                          have A20 := Aside0.mk A200
                          clear A200
                          by_cases c21 : t126 = (-1)
                          · rw [if_pos c21] at H
                            have c21b0 : (t126 == (-1)) = true := beq_iff_eq.mpr c21
                            have c21b1 : (t126 != (-1)) = false := bne_eq_false_iff_eq.mpr c21
                            clear c21
                            have H' := Aside0.mk H
                            clear H
                            have p123 : 0 ≤ (x8_1 : Int) := of_decide_eq_true (by first | (with_reducible assumption) | assumption)
                            have q123 : x8_1 < (l1.length : Int) := of_decide_eq_true (by first | (with_reducible assumption) | assumption)
                            obtain ⟨ad123, e123, hx123_0⟩ := Kd.at_bool HR1.out x8_1 p123 q123
                            (try rw [← Nbq13.out] at hx123_0)
                            (try rw [← Nbq13.out] at hw123_0)
                            cases e123
                            replace hx123_0 := (HB.out.cell (World.block_lt_of_cell? w _ hx123_0)).trans hx123_0
                            replace p123 := eq_true p123
                            replace q123 := eq_true q123
                            go_wp2_with (first | ((with_reducible refine gate_callee (f := 10) rfl ?_); refine goesL_ (some 37) rfl rfl Try.func10 (by kernel_rfl) rfl #[.pointer (some ⟨g118, 0, none⟩), .int .i64 x6_1, .int .i64 x8_1] rfl (by (try simp only [List.map_toArray, List.map_cons, List.map_nil]); first | done | rfl | (simp only [List.length_drop, List.length_take]; rfl)) ?_; (with_reducible refine (queue_Queue_Push.calls g118 x119000_1 x6_1 x8_1 t124 t125 w _ ?side1 ?side2 A15.out).mono ?_); (case side1 => repeat (first | (with_reducible first | exact HI118.out | apply IsS62.alloc | apply IsS62.drewN | apply IsS62.drew | apply IsS62.set_0) | exact HI118.out)); (case side2 => repeat (first | (with_reducible first | exact HB.out | apply below_alloc | apply pw_below_drewN | apply below_drew1 | refine below_set ?_ (IsS62.ge HI118.out)) | exact HB.out)); rintro e w22 ⟨rfl, hi, hb, hk⟩; refine ⟨_, rfl, ?_⟩; have n0_ := Aside0.mk (hb); have n1_ := Aside0.mk (hi); clear HB; clear HI118; have HB := n0_; have HI118 := n1_; clear n0_ n1_; (try clear hb); (try clear hb2); (try clear hk); (try clear hi)) | (go_at_call 11; (with_reducible refine (queue_Queue_Place.calls g118 t125 x6_1 t126 t127 w _ ?side1 ?side2 A20.out).mono ?_); (case side1 => repeat (first | (with_reducible first | exact HI118.out | apply IsS62.alloc | apply IsS62.drewN | apply IsS62.drew | apply IsS62.set_0) | exact HI118.out)); (case side2 => repeat (first | (with_reducible first | exact HB.out | apply below_alloc | apply pw_below_drewN | apply below_drew1 | refine below_set ?_ (IsS62.ge HI118.out)) | exact HB.out)); rintro e w23 ⟨rfl, hi, hb, hk⟩; have n0_ := Aside0.mk (hb); have n1_ := Aside0.mk (hi); clear HB; clear HI118; have HB := n0_; have HI118 := n1_; clear n0_ n1_; (try clear hb); (try clear hb2); (try clear hk); (try clear hi)))
                            go_roundg kj7
                            case measure => have := HK1.out; have := HJ7.out; omega
                            case rel => exact ⟨(x6_1), (x7_1), (wrap64 (x8_1 + 1)), (t127), (by first | rfl | (simp; done) | (simp [*]; done)), (by first | rfl | (simp; done) | (simp [*]; done)), (by first | rfl | (simp; done) | (simp [*]; done)), H', ⟨by have := HK1.out; have := HJ7.out; omega⟩, ⟨by repeat (first | (with_reducible first | exact HI118.out | apply IsS62.alloc | apply IsS62.drewN | apply IsS62.drew | apply IsS62.set_0) | exact HI118.out)⟩, ⟨by repeat (first | (with_reducible first | exact HB.out | apply below_alloc | apply pw_below_drewN | apply below_drew1 | refine below_set ?_ (IsS62.ge HI118.out)) | exact HB.out)⟩⟩
                          · rw [if_neg c21] at H
                            exact absurd H (by simp)
                        · rw [if_neg c19] at H
                          exact absurd H (by simp)
                  · replace c14 := Bool.eq_false_iff.mpr c14
                    subst c14
                    have H1 : ((queue_Queue_Pop.f x119000_1).bind fun bt128 => (if (bt128.2.1 != (decide (x6_1 > x7_1))) = true then (hostlerlaw12_QueueRow.j2 kj7 (wrap64 (Int.tmod (IntKind.u64.wrap (a0)) 17)) l1 x6_1 x7_1 x8_1 bt128.2.1 true bt128.2.2) else (if bt128.2.1 = true then (hostlerlaw12_QueueRow.j2 kj7 (wrap64 (Int.tmod (IntKind.u64.wrap (a0)) 17)) l1 x6_1 x7_1 x8_1 bt128.2.1 (bt128.1 != x7_1) bt128.2.2) else (hostlerlaw12_QueueRow.j2 kj7 (wrap64 (Int.tmod (IntKind.u64.wrap (a0)) 17)) l1 x6_1 x7_1 x8_1 bt128.2.1 false bt128.2.2)))) = some r := by rw [if_neg (show ¬ (false = true) by decide)] at H; exact H
                    clear H
                    have H := H1
                    clear H1
                    replace H := Option.bind_eq_some_iff.mp H
                    obtain ⟨⟨t128, t129, t130⟩, A240, H⟩ := H
                    replace H : (if (t129 != (decide (x6_1 > x7_1))) = true then (hostlerlaw12_QueueRow.j2 kj7 (wrap64 (Int.tmod (IntKind.u64.wrap (a0)) 17)) l1 x6_1 x7_1 x8_1 t129 true t130) else (if t129 = true then (hostlerlaw12_QueueRow.j2 kj7 (wrap64 (Int.tmod (IntKind.u64.wrap (a0)) 17)) l1 x6_1 x7_1 x8_1 t129 (t128 != x7_1) t130) else (hostlerlaw12_QueueRow.j2 kj7 (wrap64 (Int.tmod (IntKind.u64.wrap (a0)) 17)) l1 x6_1 x7_1 x8_1 t129 false t130))) = some r := H
                    have A24 := Aside0.mk A240
                    clear A240
                    have HC25 := Aside0.mk H
                    clear H
                    have p123 : 0 ≤ (x8_1 : Int) := of_decide_eq_true (by first | (with_reducible assumption) | assumption)
                    have q123 : x8_1 < (l1.length : Int) := of_decide_eq_true (by first | (with_reducible assumption) | assumption)
                    obtain ⟨ad123, e123, hx123_0⟩ := Kd.at_bool HR1.out x8_1 p123 q123
                    (try rw [← Nbq13.out] at hx123_0)
                    (try rw [← Nbq13.out] at hw123_0)
                    cases e123
                    replace hx123_0 := (HB.out.cell (World.block_lt_of_cell? w _ hx123_0)).trans hx123_0
                    replace p123 := eq_true p123
                    replace q123 := eq_true q123
                    go_upto_region 18 with (first | ((with_reducible refine gate_callee (f := 12) rfl ?_); refine goesL_ (some 60) rfl rfl Try.func12 (by kernel_rfl) rfl #[.pointer (some ⟨g118, 0, none⟩)] rfl (by (try simp only [List.map_toArray, List.map_cons, List.map_nil]); first | done | rfl | (simp only [List.length_drop, List.length_take]; rfl)) ?_; (with_reducible refine (queue_Queue_Pop.calls g118 x119000_1 t128 t129 t130 w _ ?side1 ?side2 A24.out).mono ?_); (case side1 => repeat (first | (with_reducible first | exact HI118.out | apply IsS62.alloc | apply IsS62.drewN | apply IsS62.drew | apply IsS62.set_0) | exact HI118.out)); (case side2 => repeat (first | (with_reducible first | exact HB.out | apply below_alloc | apply pw_below_drewN | apply below_drew1 | refine below_set ?_ (IsS62.ge HI118.out)) | exact HB.out)); rintro e w26 ⟨rfl, hi, hb, hk⟩; refine ⟨_, rfl, ?_⟩; have n0_ := Aside0.mk (hb); have n1_ := Aside0.mk (hi); clear HB; clear HI118; have HB := n0_; have HI118 := n1_; clear n0_ n1_; (try clear hb); (try clear hb2); (try clear hk); (try clear hi)))
                    (try simp only [Act.put, List.setIfInBounds_toArray, List.set_cons_zero, List.set_cons_succ])
                    go_cut [75] (fun v75 wc => ∃ (kq : Nat) (x75_24 : Bool), v75 = .bool x75_24 ∧ Aside0 (hostlerlaw12_QueueRow.j2 kq (wrap64 (Int.tmod (IntKind.u64.wrap (a0)) 17)) l1 x6_1 x7_1 x8_1 t129 x75_24 t130 = some r) ∧ Aside0 (kq ≤ kj7) ∧ Aside0 (IsS62 w wc g118 t130) ∧ Aside0 (Below w.heap.size w wc))
                    case first =>
                      have H := HC25.out
                      clear HC25
                      by_cases c27 : (t129 != (decide (x6_1 > x7_1))) = true
                      · rw [if_pos c27] at H
                        have c27b0 : (t129 != (decide (x6_1 > x7_1))) = true := c27
                        (try (have c27b1 : decide (t129 = (decide (x6_1 > x7_1))) = false := by simpa using c27))
                        (try (have c27b2 : (t129 == (decide (x6_1 > x7_1))) = false := by simpa using c27))
                        (try (have c27b3 : ¬ (t129 = (decide (x6_1 > x7_1))) := by simpa using c27))
                        clear c27
                        (first | rw [c27b0] | (simp only [i64_w, i32_w]; rw [c27b0]) | skip)
                        have H' := Aside0.mk H
                        clear H
                        go_wp2
                        go_meet
                        case rel => exact ⟨_, (true), (by first | rfl | (simp; done) | (simp [*]; done)), H', ⟨by have := HK1.out; have := HJ7.out; first | omega | exact Nat.le_refl _⟩, ⟨by repeat (first | (with_reducible first | exact HI118.out | apply IsS62.alloc | apply IsS62.drewN | apply IsS62.drew | apply IsS62.set_0) | exact HI118.out)⟩, ⟨by repeat (first | (with_reducible first | exact HB.out | apply below_alloc | apply pw_below_drewN | apply below_drew1 | refine below_set ?_ (IsS62.ge HI118.out)) | exact HB.out)⟩⟩
                      · rw [if_neg c27] at H
                        have c27b0 : (t129 != (decide (x6_1 > x7_1))) = false := by simpa using c27
                        (try (have c27b1 : decide (t129 = (decide (x6_1 > x7_1))) = true := by simpa using c27))
                        (try (have c27b2 : (t129 == (decide (x6_1 > x7_1))) = true := by simpa using c27))
                        clear c27
                        (first | rw [c27b0] | (simp only [i64_w, i32_w]; rw [c27b0]) | skip)
                        by_cases c28 : t129 = true
                        · subst c28
                          have H1 : (hostlerlaw12_QueueRow.j2 kj7 (wrap64 (Int.tmod (IntKind.u64.wrap (a0)) 17)) l1 x6_1 x7_1 x8_1 true (t128 != x7_1) t130) = some r := by rw [if_pos rfl] at H; exact H
                          clear H
                          have H := H1
                          clear H1
                          have H' := Aside0.mk H
                          clear H
                          go_wp2
                          go_meet
                          case rel => exact ⟨_, ((t128 != x7_1)), (by first | rfl | (simp; done) | (simp [*]; done)), H', ⟨by have := HK1.out; have := HJ7.out; first | omega | exact Nat.le_refl _⟩, ⟨by repeat (first | (with_reducible first | exact HI118.out | apply IsS62.alloc | apply IsS62.drewN | apply IsS62.drew | apply IsS62.set_0) | exact HI118.out)⟩, ⟨by repeat (first | (with_reducible first | exact HB.out | apply below_alloc | apply pw_below_drewN | apply below_drew1 | refine below_set ?_ (IsS62.ge HI118.out)) | exact HB.out)⟩⟩
                        · replace c28 := Bool.eq_false_iff.mpr c28
                          subst c28
                          have H1 : (hostlerlaw12_QueueRow.j2 kj7 (wrap64 (Int.tmod (IntKind.u64.wrap (a0)) 17)) l1 x6_1 x7_1 x8_1 false false t130) = some r := by rw [if_neg (show ¬ (false = true) by decide)] at H; exact H
                          clear H
                          have H := H1
                          clear H1
                          have H' := Aside0.mk H
                          clear H
                          go_wp2
                          go_meet
                          case rel => exact ⟨_, (false), (by first | rfl | (simp; done) | (simp [*]; done)), H', ⟨by have := HK1.out; have := HJ7.out; first | omega | exact Nat.le_refl _⟩, ⟨by repeat (first | (with_reducible first | exact HI118.out | apply IsS62.alloc | apply IsS62.drewN | apply IsS62.drew | apply IsS62.set_0) | exact HI118.out)⟩, ⟨by repeat (first | (with_reducible first | exact HB.out | apply below_alloc | apply pw_below_drewN | apply below_drew1 | refine below_set ?_ (IsS62.ge HI118.out)) | exact HB.out)⟩⟩
                    case rest =>
                      clear HC25
                      try clear c1
                      try clear p1
                      try clear q1
                      try clear hx1
                      try clear c2
                      try clear p2
                      try clear c3
                      try clear c4
                      try clear p6
                      try clear c8
                      try clear c9
                      try clear c9b0
                      try clear c10
                      try clear c11
                      try clear c11b0
                      try clear c12
                      try clear c12b0
                      try clear p12
                      try clear q12
                      try clear hx12
                      try clear q13
                      try clear c14
                      try clear c16
                      try clear c16b0
                      try clear c16b1
                      try clear c16b2
                      try clear c17
                      try clear c17b0
                      try clear c17b1
                      try clear c19
                      try clear c19b0
                      try clear c19b1
                      try clear c21
                      try clear c21b0
                      try clear c21b1
                      try clear c27
                      try clear c27b0
                      try clear c27b1
                      try clear c27b2
                      try clear c28
                      try clear hx123_0
                      try clear p123
                      try clear p2
                      try clear p6
                      try clear q123
                      obtain ⟨kq, x75_24, rfl, HA, HJ24, HI118, HB⟩ := hcut
                      cases kq with
                      | zero => exact absurd HA.out (by simp [hostlerlaw12_QueueRow.j2])
                      | succ kj24 =>
                        have H := HA.out
                        clear HA
                        simp only [hostlerlaw12_QueueRow.j2] at H
                        by_cases c29 : x75_24 = true
                        · subst c29
                          have H1 : (none) = some r := by rw [if_pos rfl] at H; exact H
                          clear H
                          have H := H1
                          clear H1
                          exact absurd H (by simp)
                        · replace c29 := Bool.eq_false_iff.mpr c29
                          subst c29
                          have H1 : (if t129 = true then (hostlerlaw12_QueueRow.l0 kj24 (wrap64 (Int.tmod (IntKind.u64.wrap (a0)) 17)) l1 x6_1 (wrap64 (x7_1 + 1)) (wrap64 (x8_1 + 1)) t130) else (hostlerlaw12_QueueRow.l0 kj24 (wrap64 (Int.tmod (IntKind.u64.wrap (a0)) 17)) l1 x6_1 x7_1 (wrap64 (x8_1 + 1)) t130)) = some r := by rw [if_neg (show ¬ (false = true) by decide)] at H; exact H
                          clear H
                          have H := H1
                          clear H1
                          by_cases c30 : t129 = true
                          · subst c30
                            have H1 : (hostlerlaw12_QueueRow.l0 kj24 (wrap64 (Int.tmod (IntKind.u64.wrap (a0)) 17)) l1 x6_1 (wrap64 (x7_1 + 1)) (wrap64 (x8_1 + 1)) t130) = some r := by rw [if_pos rfl] at H; exact H
                            clear H
                            have H := H1
                            clear H1
                            have H' := Aside0.mk H
                            clear H
                            go_wp2
                            go_roundg kj24
                            case measure => have := HK1.out; have := HJ7.out; have := HJ24.out; omega
                            case rel => exact ⟨(x6_1), (wrap64 (x7_1 + 1)), (wrap64 (x8_1 + 1)), (t130), (by first | rfl | (simp; done) | (simp [*]; done)), (by first | rfl | (simp; done) | (simp [*]; done)), (by first | rfl | (simp; done) | (simp [*]; done)), H', ⟨by have := HK1.out; have := HJ7.out; have := HJ24.out; omega⟩, ⟨by repeat (first | (with_reducible first | exact HI118.out | apply IsS62.alloc | apply IsS62.drewN | apply IsS62.drew | apply IsS62.set_0) | exact HI118.out)⟩, ⟨by repeat (first | (with_reducible first | exact HB.out | apply below_alloc | apply pw_below_drewN | apply below_drew1 | refine below_set ?_ (IsS62.ge HI118.out)) | exact HB.out)⟩⟩
                          · replace c30 := Bool.eq_false_iff.mpr c30
                            subst c30
                            have H1 : (hostlerlaw12_QueueRow.l0 kj24 (wrap64 (Int.tmod (IntKind.u64.wrap (a0)) 17)) l1 x6_1 x7_1 (wrap64 (x8_1 + 1)) t130) = some r := by rw [if_neg (show ¬ (false = true) by decide)] at H; exact H
                            clear H
                            have H := H1
                            clear H1
                            have H' := Aside0.mk H
                            clear H
                            go_wp2
                            go_roundg kj24
                            case measure => have := HK1.out; have := HJ7.out; have := HJ24.out; omega
                            case rel => exact ⟨(x6_1), (x7_1), (wrap64 (x8_1 + 1)), (t130), (by first | rfl | (simp; done) | (simp [*]; done)), (by first | rfl | (simp; done) | (simp [*]; done)), (by first | rfl | (simp; done) | (simp [*]; done)), H', ⟨by have := HK1.out; have := HJ7.out; have := HJ24.out; omega⟩, ⟨by repeat (first | (with_reducible first | exact HI118.out | apply IsS62.alloc | apply IsS62.drewN | apply IsS62.drew | apply IsS62.set_0) | exact HI118.out)⟩, ⟨by repeat (first | (with_reducible first | exact HB.out | apply below_alloc | apply pw_below_drewN | apply below_drew1 | refine below_set ?_ (IsS62.ge HI118.out)) | exact HB.out)⟩⟩
                · rw [if_neg c12] at H
                  exact absurd H (by simp)
              · rw [if_neg c11] at H
                exact absurd H (by simp)
            · replace c10 := Bool.eq_false_iff.mpr c10
              subst c10
              have H1 : ((queue_Queue_Len.f x119000_1).bind fun bt119 => (if bt119.1 = (wrap64 (x6_1 - x7_1)) then ((queue_Queue_Len.f bt119.2).bind fun bt121 => (some (decide (bt121.1 ≤ (wrap64 (Int.tmod (IntKind.u64.wrap (a0)) 17)))))) else (none))) = some r := by rw [if_neg (show ¬ (false = true) by decide)] at H; exact H
              clear H
              have H := H1
              clear H1
              replace H := Option.bind_eq_some_iff.mp H
              obtain ⟨⟨t119, t120⟩, A310, H⟩ := H
              replace H : (if t119 = (wrap64 (x6_1 - x7_1)) then ((queue_Queue_Len.f t120).bind fun bt121 => (some (decide (bt121.1 ≤ (wrap64 (Int.tmod (IntKind.u64.wrap (a0)) 17)))))) else (none)) = some r := H
              have A31 := Aside0.mk A310
              clear A310
              by_cases c32 : t119 = (wrap64 (x6_1 - x7_1))
              · rw [if_pos c32] at H
                have c32b0 : (t119 == (wrap64 (x6_1 - x7_1))) = true := beq_iff_eq.mpr c32
                have c32b1 : (t119 != (wrap64 (x6_1 - x7_1))) = false := bne_eq_false_iff_eq.mpr c32
                clear c32
                replace H := Option.bind_eq_some_iff.mp H
                obtain ⟨⟨t121, t122⟩, A330, H⟩ := H
                replace H : (some (decide (t121 ≤ (wrap64 (Int.tmod (IntKind.u64.wrap (a0)) 17))))) = some r := H
                have A33 := Aside0.mk A330
                clear A330
                obtain rfl := Option.some.inj H
                go_wp2_with (first | ((with_reducible refine gate_callee (f := 13) rfl ?_); refine goesL_ (some 80) rfl rfl Try.func13 (by kernel_rfl) rfl #[.pointer (some ⟨g118, 0, none⟩)] rfl (by (try simp only [List.map_toArray, List.map_cons, List.map_nil]); first | done | rfl | (simp only [List.length_drop, List.length_take]; rfl)) ?_; (with_reducible refine (queue_Queue_Len.calls g118 x119000_1 t119 t120 w _ ?side1 ?side2 A31.out).mono ?_); (case side1 => repeat (first | (with_reducible first | exact HI118.out | apply IsS62.alloc | apply IsS62.drewN | apply IsS62.drew | apply IsS62.set_0) | exact HI118.out)); (case side2 => repeat (first | (with_reducible first | exact HB.out | apply below_alloc | apply pw_below_drewN | apply below_drew1 | refine below_set ?_ (IsS62.ge HI118.out)) | exact HB.out)); rintro e w34 ⟨rfl, hi, hb, hk⟩; refine ⟨_, rfl, ?_⟩; have n0_ := Aside0.mk (hb); have n1_ := Aside0.mk (hi); clear HB; clear HI118; have HB := n0_; have HI118 := n1_; clear n0_ n1_; (try clear hb); (try clear hb2); (try clear hk); (try clear hi)) | (go_at_call 13; (with_reducible refine (queue_Queue_Len.calls g118 t120 t121 t122 w _ ?side1 ?side2 A33.out).mono ?_); (case side1 => repeat (first | (with_reducible first | exact HI118.out | apply IsS62.alloc | apply IsS62.drewN | apply IsS62.drew | apply IsS62.set_0) | exact HI118.out)); (case side2 => repeat (first | (with_reducible first | exact HB.out | apply below_alloc | apply pw_below_drewN | apply below_drew1 | refine below_set ?_ (IsS62.ge HI118.out)) | exact HB.out)); rintro e w35 ⟨rfl, hi, hb, hk⟩; have n0_ := Aside0.mk (hb); have n1_ := Aside0.mk (hi); clear HB; clear HI118; have HB := n0_; have HI118 := n1_; clear n0_ n1_; (try clear hb); (try clear hb2); (try clear hk); (try clear hi)))
                go_ret
                exact ⟨by first | rfl | (simp only [Int.ofNat_lt]; rfl) | (simp [errW_none, errW_some] <;> rfl) | (simp [*, errW_none, errW_some] <;> rfl), by repeat (first | (with_reducible first | exact HB.out | apply below_alloc | apply pw_below_drewN | apply below_drew1 | refine below_set ?_ (IsS62.ge HI118.out)) | exact HB.out)⟩
              · rw [if_neg c32] at H
                exact absurd H (by simp)
  · replace c4 := Bool.eq_false_iff.mpr c4
    subst c4
    have H1 : (none) = some r := by rw [if_neg (show ¬ (false = true) by decide)] at H; exact H
    clear H
    have H := H1
    clear H1
    exact absurd H (by simp)

/-- THE ONE PURE STATEMENT of hostlerlaw12_QueueRow: yours. -/
def hostlerlaw12_QueueRow.Pure : Prop := ∀ (a0 : Int) (l1 : List Bool), (Lit.int .i64 a0).wf = true → l1.length ≤ maxLen → l1.length * 1 ≤ 140737488351232 → (∀ x ∈ l1, True) → ∃ k, hostlerlaw12_QueueRow.f k a0 l1 = some true
theorem hostlerlaw12_QueueRow.walk (P : hostlerlaw12_QueueRow.Pure) (a0 : Int) (a1 : Option Addr) (cap1 : Nat) (l1 : List Bool) (w : World) (w0 : (Lit.int .i64 a0).wf = true) (hr1 : Kd.C Kd.bool w a1 l1.length l1) (hc1 : l1.length ≤ cap1) (hm1 : l1.length ≤ maxLen) (y1 : l1.length * 1 ≤ 140737488351232) (hw1 : ∀ x ∈ l1, True) :
    Calls Try.prog 3 #[.int .i64 a0, .slice a1 l1.length cap1] w fun e w' => e = .returned (.bool true) ∧ Below w.heap.size w w' := by
  obtain ⟨k, h⟩ := P a0 l1 w0 hm1 y1 hw1
  refine (hostlerlaw12_QueueRow.calls k a0 _ _ l1 true w hr1 hc1 h).mono ?_
  rintro e w' ⟨rfl, hd⟩
  exact ⟨rfl, hd⟩

-- NOT PRINTED: function 4 (hostlerlaw12_QueueRoom)

end Go.Proofs.Ytdcnmjdohjodhaa.PG
