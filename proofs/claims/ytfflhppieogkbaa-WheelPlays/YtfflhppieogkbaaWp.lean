/-
  The walk of WheelPlays. Conditions: none.
-/
import Derived.Test.YtfflhppieogkbaaRf
import Derived.Test.YtfflhppieogkbaaWnq
set_option linter.unusedVariables false
set_option linter.unusedSimpArgs false
set_option maxRecDepth 100000
namespace Go.Proofs.Ytfflhppieogkbaa.Hp
open Go Go.RowKit Go.Proofs.YtfflhppieogkbaaW.PrintWords Go.Proofs.YtfflhppieogkbaaW.PrintLast Go.Proofs.YtfflhppieogkbaaW.PrintMore Go.Proofs.Ytfflhppieogkbaa.Mp Go.Proofs.Ytfflhppieogkbaa.PA
def plays.T31 : Bool × List (List Nat × List Nat) := (true, [([], []), ([], []), ([1], [1]), ([2], [2]), ([0, 3], [0, 3]), ([4], [4]), ([5], [5]), ([5], [5]), ([6, 4, 0, 1, 2, 3, 4, 5, 6], [6]), ([7, 8, 0, 1, 2, 3, 4, 5, 6, 7, 8], [7])])
theorem plays.tab31 : rtab .any (opsOf Try.f7 31) = plays.T31 := by kernel_rfl
def plays.T33 : Bool × List (List Nat × List Nat) := (true, [([], []), ([0], [0]), ([1], [1]), ([2], [2]), ([2], [2]), ([3, 4, 2], [2, 3, 4]), ([2, 5], [2, 5]), ([6, 2], [6]), ([7], [7]), ([7], [7]), ([8, 9, 7], [7, 8, 9]), ([7, 10], [7, 10]), ([11, 7], [11]), ([12], [12]), ([13, 12, 12], [12, 13]), ([12], [12]), ([15, 12], [12, 15]), ([16, 12], [12, 16]), ([14, 17, 12], [12, 14, 17]), ([12, 18], [12, 18]), ([19, 14], [19]), ([20], [20]), ([21, 20, 20], [20, 21]), ([20], [20]), ([22, 23, 22, 20], [20, 22, 23]), ([24, 20], [20, 24]), ([20, 25], [20, 25]), ([26, 24], [26]), ([27], [27]), ([27], [27]), ([29, 27], [27, 29]), ([30, 27], [27, 30]), ([28, 31, 27], [27, 28, 31]), ([27, 32], [27, 32]), ([33, 27], [33]), ([34], [34]), ([34], [34]), ([35, 36, 34], [34, 35, 36]), ([34, 37], [34, 37])])
theorem plays.tab33 : rtab .any (opsOf Try.f7 33) = plays.T33 := by kernel_rfl
theorem rd49_mem {l : List S49} {k : Nat} (h : k < l.length) : rd_T49 l (k : Int) ∈ l := by
  have : rd_T49 l (k : Int) = l[k] := by simp [rd_T49, List.getD, h]
  rw [this]
  exact List.getElem_mem h
set_option maxHeartbeats 2000000 in
theorem early_raw (A0 : Option Addr) (len c0 n : Nat) (w : World) (hn : n = min len 100) (hc : len ≤ c0) :
    Calls Try.prog 24 #[.slice A0 len c0] w fun e w' => e = .returned (.slice A0 n c0) ∧ w = w' := by
  obtain ⟨j, hj⟩ : ∃ j : Int, min (len : Int) 100 = j := ⟨_, rfl⟩
  have hjn : j = (n : Int) := by omega
  have c3 : 0 ≤ j := by omega
  have q5 : j ≤ (len : Int) := by omega
  have c3b0 := eq_true c3
  have c3b1 : decide (0 ≤ j) = true := decide_eq_true c3
  have c4b0 := eq_true q5
  have c4b1 : decide (j ≤ (len : Int)) = true := decide_eq_true q5
  obtain ⟨i05, hi05, _, hsz5, _⟩ := info_parts info49
  have hcut5 := cut_to (P := Try.prog) 44 49 .i64 Try.underlying44 hi05 A0 len c0 j c3 q5 hc
  have hjt : j.toNat = n := by omega
  rw [hjt] at hcut5
  clear hi05 hsz5 hn c3 q5 hjn hjt
  go_enter Try.func24, Try.ntmps24
  go_wp2
  go_ret
  exact ⟨rfl, rfl⟩
theorem kind_raw (x : S49) : ∃ κ : Nat, κ < 5 ∧ ∀ w, Calls Try.prog 25 #[.agg #[.int .i64 x.f0, .int .i64 x.f1, .int .i64 x.f2]] w fun e w' => e = .returned (.int .i64 (κ : Int)) ∧ Below w.heap.size w w' := by
  have hw : 0 ≤ IntKind.u64.wrap x.f0 := by
    unfold IntKind.wrap
    simp [IntKind.bits, IntKind.signed]
    omega
  have h1 : 0 ≤ Int.tmod (IntKind.u64.wrap x.f0) (5 : Int) := Int.tmod_nonneg _ hw
  have h2 : Int.tmod (IntKind.u64.wrap x.f0) (5 : Int) < 5 := Int.tmod_lt_of_pos _ (by omega)
  refine ⟨(Int.tmod (IntKind.u64.wrap x.f0) (5 : Int)).toNat, by omega, fun w => hostlerlaw04_Step_kind.calls x.f0 x.f1 x.f2 _ w ?_⟩
  unfold hostlerlaw04_Step_kind.f
  congr 1
  unfold wrap64
  omega
theorem IsW.ats_len {w0 W : World} {g : Nat} {l : PL} {m : Nat} (h : IsW w0 W g ⟨l, m⟩) : l.length ≤ m := by
  obtain ⟨xs, ⟨mb, vv, hb, hg, hM, hgm, hRR, hH, hC, hG⟩, hl⟩ := h
  have hnd : (l.map (fun p => (⟨p.2, p.1⟩ : E66))).Nodup := by
    refine List.pairwise_map.2 (hM.1.imp (fun {a b} h e => ?_))
    have : a.1 = b.1 := congrArg E66.f1 e
    omega
  have := hnd.length_le_of_subset (l₂ := xs) (fun y hy => by
    obtain ⟨p, hp, rfl⟩ := List.mem_map.1 hy
    exact hC p hp)
  have h2 : l.length ≤ xs.length := by simpa using this
  exact Nat.le_trans h2 hl
/-- What lies beside: the step's block, the reference. -/
structure Beside (w W : World) (g B T : Nat) (x : S49) (l : PL) : Prop where
  tb : W.heap[T]? = some (.cells #[.int .i64 x.f0, .int .i64 x.f1, .int .i64 x.f2] 49 (0, 0))
  tn : ¬ Own W g T
  ref : RefAt w W g B l
theorem Beside.keep {w W W1 : World} {g B T : Nat} {x : S49} {l : PL} (h : Beside w W g B T x l) (hk : Kp g W W1) : Beside w W1 g B T x l :=
  ⟨(hk.blk h.tb h.tn).1, (hk.blk h.tb h.tn).2, h.ref.keep hk⟩
theorem Beside.below {w W W1 : World} {g B T : Nat} {x : S49} {l : PL} {s : WS} (h : Beside w W g B T x l) (hI : IsW w W g s) (hb : Below W.heap.size W W1) : Beside w W1 g B T x l := h.keep (.of_below hI hb)
set_option maxHeartbeats 8000000 in
theorem plays_calls (A : Option Addr) (c0 : Nat) (l0 : List S49) (w : World) (hr0 : Kd.C k49 w A l0.length l0) (hc0 : l0.length ≤ c0) (hw0 : ∀ x ∈ l0, (Lit.int .i64 x.f0).wf = true ∧ (Lit.int .i64 x.f1).wf = true ∧ (Lit.int .i64 x.f2).wf = true) :
    Calls Try.prog 7 #[.slice A l0.length c0] w fun e w' => e = .returned (.bool true) ∧ Below w.heap.size w w' := by
  have HL := Aside0.mk (lives_raw w)
  have HC := Aside0.mk hr0
  have HWF := Aside0.mk hw0
  obtain ⟨ne, hne⟩ : ∃ ne, ne = min l0.length 100 := ⟨_, rfl⟩
  have hnl : ne ≤ l0.length := by omega
  have hn100 : ne ≤ 100 := by omega
  have HEA := Aside0.mk (fun W => early_raw A l0.length c0 ne W hne hc0)
  have hlm : l0.length ≤ 9223372036854775807 := hr0.2.1
  have HN := Aside0.mk (fun (W : World) (h : Below w.heap.size w W) => new_raw w W h)
  clear hr0 hw0 hne
  go_enter Try.func7, Try.ntmps7
  go_upto_region 5 with (first
    | (go_at_call 9; refine HL.out.mono ?_; rintro e w1 ⟨rfl, hb⟩; have HB1 := Aside0.mk hb; clear hb HL)
    | (go_at_call 14; refine (HN.out w1 HB1.out).mono ?_; rintro e w2 ⟨g, rfl, hi, hb, _⟩; have HI2 := Aside0.mk hi; have HB2 := Aside0.mk (below_step HB1.out hb); clear hi hb))
  obtain ⟨w3, hw3⟩ : ∃ w3, w3 = w2.alloc (.cells #[.slice none 0 0, .slice none 0 0] 46) := ⟨_, rfl⟩
  obtain ⟨B, hBe⟩ : ∃ B, B = w2.heap.size := ⟨_, rfl⟩
  rw [← hw3, ← hBe]
  have hb3 : Below w2.heap.size w2 w3 := by rw [hw3]; exact below_alloc (Below.refl _ _) _
  have hB3 : w3.heap[B]? = some (.cells #[.slice none 0 0, .slice none 0 0] 46 (0, 0)) := by rw [hw3, hBe]; exact heap_alloc_new _ _
  have HI3 := Aside0.mk (HI2.out.below hb3)
  have HB3 := Aside0.mk (below_step HB2.out hb3)
  have HR3 : Aside0 (RefAt w w3 g B []) := ⟨by
    refine ⟨by rw [hBe]; exact HB2.out.size, fun ho => ?_, none, 0, none, 0, hB3, Kd.V_nil _ _ _ _ _, Kd.V_nil _ _ _ _ _⟩
    obtain ⟨ys, hX, _⟩ := HI2.out
    have := ((own_step hX (W1 := w3) (fun k hk => hb3.block k (hk.lt hX))).1 ho).lt hX
    omega⟩
  clear hw3 hBe hb3 hB3 HI2 HB2
  go_upto_block 0 with (go_at_call 24; refine (HEA.out _).mono ?_; rintro e w4 ⟨rfl, rfl⟩)
  go_wp2
  go_loopw [5] (fun v5 wr => ∃ (i : Nat) (l : PL), v5 = .int .i64 (i : Int) ∧ i ≤ ne ∧ Aside0 (IsW w wr g ⟨l, i⟩) ∧ Aside0 (Ticks l) ∧ Aside0 (RefAt w wr g B l) ∧ Aside0 (Below w.heap.size w wr)) (fun v5 _ => ne - (intOf v5).toNat)
  case atStart => exact ⟨0, [], rfl, Nat.zero_le _, HI3, ⟨fun p hp => by simp at hp⟩, HR3, HB3⟩
  case round =>
    clear HI3 HR3 HB3
    obtain ⟨i, l, rfl, hi, HI, HT, HRF, HB⟩ := hrel
    by_cases hlt : i < ne
    · obtain ⟨ad, hA, hx0, hx1, hx2⟩ := at_T49 (Kd.C_below HC.out HB.out) (i : Int) (by omega) (by omega)
      subst hA
      obtain ⟨x, hxe⟩ : ∃ x : S49, x = rd_T49 l0 (i : Int) := ⟨_, rfl⟩
      have hxm : x ∈ l0 := by rw [hxe]; exact rd49_mem (by omega)
      have HKI : Aside0 (I64 x.f1) := ⟨(HWF.out x hxm).2.1⟩
      rw [← hxe, Int.toNat_natCast] at hx0 hx1 hx2
      have h0k : (0 : Int) ≤ (i : Int) := by omega
      have hkl : (i : Int) < (ne : Int) := by omega
      have hd1n : decide (i < ne) = true := decide_eq_true hlt
      obtain ⟨κ, hκ6, hκ⟩ := kind_raw x
      have HKD := Aside0.mk hκ
      clear hxe hxm hκ
      go_upto_region 10 with fail
      obtain ⟨w5, hw5⟩ : ∃ w5, w5 = wr.alloc (.cells #[.int .i64 x.f0, .int .i64 x.f1, .int .i64 x.f2] 49) := ⟨_, rfl⟩
      obtain ⟨T, hT⟩ : ∃ T, T = wr.heap.size := ⟨_, rfl⟩
      rw [← hw5, ← hT]
      have hb5 : Below wr.heap.size wr w5 := by rw [hw5]; exact below_alloc (Below.refl _ _) _
      have hT5 : w5.heap[T]? = some (.cells #[.int .i64 x.f0, .int .i64 x.f1, .int .i64 x.f2] 49 (0, 0)) := by rw [hw5, hT]; exact heap_alloc_new _ _
      have HI5 := Aside0.mk (HI.out.below hb5)
      have HB5 := Aside0.mk (below_step HB.out hb5)
      have HS5 : Aside0 (Beside w w5 g B T x l) := ⟨⟨hT5, fun ho => by
        obtain ⟨ys, hX, _⟩ := HI.out
        have := ((own_step hX (W1 := w5) (fun k hk => hb5.block k (hk.lt hX))).1 ho).lt hX
        omega, HRF.out.below HI.out hb5⟩⟩
      have t50 : w5.cell? ⟨T, 0, none⟩ = some (.int .i64 x.f0) := (blk_cell hT5 0).trans rfl
      have t51 : w5.cell? ⟨T, 1, none⟩ = some (.int .i64 x.f1) := (blk_cell hT5 1).trans rfl
      have t52 : w5.cell? ⟨T, 2, none⟩ = some (.int .i64 x.f2) := (blk_cell hT5 2).trans rfl
      have hBT : ¬ B = T := fun e => by
        obtain ⟨_, _, _, _, _, _, hb, _⟩ := HS5.out.ref
        rw [e, hT5] at hb
        injection hb with hb
        injection hb with _ h2 _
        cases h2
      have hTB : ¬ T = B := fun e => hBT e.symm
      clear hw5 hT hb5 hT5 hx0 hx1 hx2 HI HB HRF
      go_upto_block 2 with (go_at_call 25; refine (HKD.out _).mono ?_; rintro e w6 ⟨rfl, hb⟩; have HB6 := Aside0.mk hb; clear hb)
      have HI6 := Aside0.mk (HI5.out.below HB6.out)
      have HW6 := Aside0.mk (below_step HB5.out HB6.out)
      have HS6 := Aside0.mk (HS5.out.below HI5.out HB6.out)
      clear HI5 HB5 HS5 HB6 t50 t51 t52 HKD
      go_cut [7] (fun v7 wc => ∃ (l' : PL), v7 = .bool true ∧ Aside0 (IsW w wc g ⟨l', i + 1⟩) ∧ Aside0 (Ticks l') ∧ Aside0 (Beside w wc g B T x l') ∧ Aside0 (Below w.heap.size w wc))
      case first =>
        have hl100 : l.length ≤ 100 := Nat.le_trans HI6.out.ats_len (by omega)
        have HRISE := Aside0.mk (show Rising l from HI6.out.rise)
        obtain ⟨hbw, hno, A1, c1, A2, c2, hbb, r1, r2⟩ := HS6.out.ref
        have HBB := Aside0.mk hbb
        have HR1 := Aside0.mk r1
        have HR2 := Aside0.mk r2
        have HBW := Aside0.mk hbw
        have HNO := Aside0.mk hno
        have hBl := blk_lt hbb
        have b60 : w6.cell? ⟨B, 0, none⟩ = some (.slice A1 l.length c1) := (blk_cell hbb 0).trans rfl
        have b61 : w6.cell? ⟨B, 1, none⟩ = some (.slice A2 l.length c2) := (blk_cell hbb 1).trans rfl
        have t60 : w6.cell? ⟨T, 0, none⟩ = some (.int .i64 x.f0) := (blk_cell HS6.out.tb 0).trans rfl
        have t61 : w6.cell? ⟨T, 1, none⟩ = some (.int .i64 x.f1) := (blk_cell HS6.out.tb 1).trans rfl
        have t62 : w6.cell? ⟨T, 2, none⟩ = some (.int .i64 x.f2) := (blk_cell HS6.out.tb 2).trans rfl
        have HM1 := Aside0.mk (show i ≤ 100 by omega)
        have hx : κ = 0 ∨ κ = 1 ∨ κ = 2 ∨ κ = 3 ∨ κ = 4 := by omega
        clear hbb r1 r2 hbw hno
        rcases hx with rfl | rfl | rfl | rfl | rfl
        · as_aux_lemma =>
          have HRC := Aside0.mk (ref_set x.f1 x.f2 HI6.out hBl HRISE.out (by omega) HR1.out HR2.out)
          obtain ⟨had, hhad⟩ : ∃ had, (Mp.look l x.f1).isSome = had := ⟨_, rfl⟩
          have HWC := Aside0.mk (fun (W : World) (HP : IsW w W g ⟨l, i⟩ ∧ Below w.heap.size w W) => set_any x.f1 x.f2 HKI.out HP.1 HP.2 (show i ≤ 1000 by omega) (show l.length ≤ 1000 by omega))
          rw [show (⟨l, i⟩ : WS).ats = l from rfl, hhad] at HWC
          rw [hhad] at HRC
          obtain ⟨n1, hn1⟩ : ∃ n1, (put l x.f1 (cut x.f2)).length = n1 := ⟨_, rfl⟩
          rw [hn1] at HRC
          have HN1 := Aside0.mk hn1
          clear hn1 hhad
          go_upto_region 15 with (go_at_call 26; (with_reducible refine HRC.out.mono ?_); rintro e w7 ⟨B1, d1, B2, d2, rfl, q1, q2, hb⟩; have HV1 := Aside0.mk q1; have HV2 := Aside0.mk q2; have HB7 := Aside0.mk hb; clear q1 q2 hb)
          obtain ⟨w8, hw8⟩ : ∃ w8, w8 = w7.alloc (.cells #[.slice B1 n1 d1, .slice B2 n1 d2] 46) := ⟨_, rfl⟩
          obtain ⟨U, hU⟩ : ∃ U, U = w7.heap.size := ⟨_, rfl⟩
          rw [← hw8, ← hU]
          have hb8 : Below w7.heap.size w7 w8 := by rw [hw8]; exact below_alloc (Below.refl _ _) _
          have hbu : w8.heap[U]? = some (.cells #[.slice B1 n1 d1, .slice B2 n1 d2] 46 (0, 0)) := by rw [hw8, hU]; exact heap_alloc_new _ _
          have hb68 : Below w6.heap.size w6 w8 := below_step HB7.out hb8
          have HI7 := Aside0.mk (HI6.out.below HB7.out)
          have HI8 := Aside0.mk (HI6.out.below hb68)
          have HW8 := Aside0.mk (below_step HW6.out hb68)
          have HS8 := Aside0.mk (HS6.out.below HI6.out hb68)
          have q1 := HV1.out.below HI7.out hb8
          have q2 := HV2.out.below HI7.out hb8
          have hno8 := HS8.out.ref.2.1
          have hbb8 := blk_below HBB.out hb68
          have HPUT := Aside0.mk (ref_put (l := put l x.f1 (cut x.f2)) HI8.out HW8.out HBW.out hno8 hbb8 (by rw [HN1.out]; exact q1) (by rw [HN1.out]; exact q2))
          rw [HN1.out] at HPUT
          have u0 : w8.cell? ⟨U, 0, none⟩ = some (.slice B1 n1 d1) := (blk_cell hbu 0).trans rfl
          have u1 : w8.cell? ⟨U, 1, none⟩ = some (.slice B2 n1 d2) := (blk_cell hbu 1).trans rfl
          have b80 : w8.cell? ⟨B, 0, none⟩ = some (.slice A1 l.length c1) := (blk_cell hbb8 0).trans rfl
          have b81 : w8.cell? ⟨B, 1, none⟩ = some (.slice A2 l.length c2) := (blk_cell hbb8 1).trans rfl
          have f80 : w8.frozen? ⟨B, 0, none⟩ = false := blk_frozen hbb8 0
          have f81 : w8.frozen? ⟨B, 1, none⟩ = false := blk_frozen hbb8 1
          have t80 : w8.cell? ⟨T, 0, none⟩ = some (.int .i64 x.f0) := (blk_cell HS8.out.tb 0).trans rfl
          have t81 : w8.cell? ⟨T, 1, none⟩ = some (.int .i64 x.f1) := (blk_cell HS8.out.tb 1).trans rfl
          have t82 : w8.cell? ⟨T, 2, none⟩ = some (.int .i64 x.f2) := (blk_cell HS8.out.tb 2).trans rfl
          have HTP : Aside0 (((w8.setCell ⟨B, 0, none⟩ (.slice B1 n1 d1)).setCell ⟨B, 1, none⟩ (.slice B2 n1 d2)).heap[T]? = some (.cells #[.int .i64 x.f0, .int .i64 x.f1, .int .i64 x.f2] 49 (0, 0)) ∧ ¬ Own ((w8.setCell ⟨B, 0, none⟩ (.slice B1 n1 d1)).setCell ⟨B, 1, none⟩ (.slice B2 n1 d2)) g T) := ⟨(HPUT.out.2.2.2.1 T hTB).trans HS8.out.tb, fun ho => HS8.out.tn ((HPUT.out.2.2.2.2 T).1 ho)⟩
          clear hw8 hU hb8 hbu hb68 hno8 hbb8 q1 q2
          go_wp2_with (go_at_call 15; (with_reducible refine (HWC.out _ ⟨HPUT.out.2.1, HPUT.out.2.2.1⟩).mono ?_); rintro e w9 ⟨rfl, hi9, hk9⟩)
          go_meet
          case rel => exact ⟨put l x.f1 (cut x.f2), by first | rfl | simp, ⟨hi9⟩, ⟨put_ticks HT.out _ _⟩, ⟨⟨(hk9.blk HTP.out.1 HTP.out.2).1, (hk9.blk HTP.out.1 HTP.out.2).2, HPUT.out.1.keep hk9⟩⟩, ⟨hk9.below HPUT.out.2.2.1 HPUT.out.2.1⟩⟩
        · as_aux_lemma =>
          have HRC := Aside0.mk (ref_set x.f1 x.f2 HI6.out hBl HRISE.out (by omega) HR1.out HR2.out)
          obtain ⟨had, hhad⟩ : ∃ had, (Mp.look l x.f1).isSome = had := ⟨_, rfl⟩
          have HWC := Aside0.mk (fun (W : World) (HP : IsW w W g ⟨l, i⟩ ∧ Below w.heap.size w W) => set_any x.f1 x.f2 HKI.out HP.1 HP.2 (show i ≤ 1000 by omega) (show l.length ≤ 1000 by omega))
          rw [show (⟨l, i⟩ : WS).ats = l from rfl, hhad] at HWC
          rw [hhad] at HRC
          obtain ⟨n1, hn1⟩ : ∃ n1, (put l x.f1 (cut x.f2)).length = n1 := ⟨_, rfl⟩
          rw [hn1] at HRC
          have HN1 := Aside0.mk hn1
          clear hn1 hhad
          go_upto_region 15 with (go_at_call 26; (with_reducible refine HRC.out.mono ?_); rintro e w7 ⟨B1, d1, B2, d2, rfl, q1, q2, hb⟩; have HV1 := Aside0.mk q1; have HV2 := Aside0.mk q2; have HB7 := Aside0.mk hb; clear q1 q2 hb)
          obtain ⟨w8, hw8⟩ : ∃ w8, w8 = w7.alloc (.cells #[.slice B1 n1 d1, .slice B2 n1 d2] 46) := ⟨_, rfl⟩
          obtain ⟨U, hU⟩ : ∃ U, U = w7.heap.size := ⟨_, rfl⟩
          rw [← hw8, ← hU]
          have hb8 : Below w7.heap.size w7 w8 := by rw [hw8]; exact below_alloc (Below.refl _ _) _
          have hbu : w8.heap[U]? = some (.cells #[.slice B1 n1 d1, .slice B2 n1 d2] 46 (0, 0)) := by rw [hw8, hU]; exact heap_alloc_new _ _
          have hb68 : Below w6.heap.size w6 w8 := below_step HB7.out hb8
          have HI7 := Aside0.mk (HI6.out.below HB7.out)
          have HI8 := Aside0.mk (HI6.out.below hb68)
          have HW8 := Aside0.mk (below_step HW6.out hb68)
          have HS8 := Aside0.mk (HS6.out.below HI6.out hb68)
          have q1 := HV1.out.below HI7.out hb8
          have q2 := HV2.out.below HI7.out hb8
          have hno8 := HS8.out.ref.2.1
          have hbb8 := blk_below HBB.out hb68
          have HPUT := Aside0.mk (ref_put (l := put l x.f1 (cut x.f2)) HI8.out HW8.out HBW.out hno8 hbb8 (by rw [HN1.out]; exact q1) (by rw [HN1.out]; exact q2))
          rw [HN1.out] at HPUT
          have u0 : w8.cell? ⟨U, 0, none⟩ = some (.slice B1 n1 d1) := (blk_cell hbu 0).trans rfl
          have u1 : w8.cell? ⟨U, 1, none⟩ = some (.slice B2 n1 d2) := (blk_cell hbu 1).trans rfl
          have b80 : w8.cell? ⟨B, 0, none⟩ = some (.slice A1 l.length c1) := (blk_cell hbb8 0).trans rfl
          have b81 : w8.cell? ⟨B, 1, none⟩ = some (.slice A2 l.length c2) := (blk_cell hbb8 1).trans rfl
          have f80 : w8.frozen? ⟨B, 0, none⟩ = false := blk_frozen hbb8 0
          have f81 : w8.frozen? ⟨B, 1, none⟩ = false := blk_frozen hbb8 1
          have t80 : w8.cell? ⟨T, 0, none⟩ = some (.int .i64 x.f0) := (blk_cell HS8.out.tb 0).trans rfl
          have t81 : w8.cell? ⟨T, 1, none⟩ = some (.int .i64 x.f1) := (blk_cell HS8.out.tb 1).trans rfl
          have t82 : w8.cell? ⟨T, 2, none⟩ = some (.int .i64 x.f2) := (blk_cell HS8.out.tb 2).trans rfl
          have HTP : Aside0 (((w8.setCell ⟨B, 0, none⟩ (.slice B1 n1 d1)).setCell ⟨B, 1, none⟩ (.slice B2 n1 d2)).heap[T]? = some (.cells #[.int .i64 x.f0, .int .i64 x.f1, .int .i64 x.f2] 49 (0, 0)) ∧ ¬ Own ((w8.setCell ⟨B, 0, none⟩ (.slice B1 n1 d1)).setCell ⟨B, 1, none⟩ (.slice B2 n1 d2)) g T) := ⟨(HPUT.out.2.2.2.1 T hTB).trans HS8.out.tb, fun ho => HS8.out.tn ((HPUT.out.2.2.2.2 T).1 ho)⟩
          clear hw8 hU hb8 hbu hb68 hno8 hbb8 q1 q2
          go_wp2_with (go_at_call 15; (with_reducible refine (HWC.out _ ⟨HPUT.out.2.1, HPUT.out.2.2.1⟩).mono ?_); rintro e w9 ⟨rfl, hi9, hk9⟩)
          go_meet
          case rel => exact ⟨put l x.f1 (cut x.f2), by first | rfl | simp, ⟨hi9⟩, ⟨put_ticks HT.out _ _⟩, ⟨⟨(hk9.blk HTP.out.1 HTP.out.2).1, (hk9.blk HTP.out.1 HTP.out.2).2, HPUT.out.1.keep hk9⟩⟩, ⟨hk9.below HPUT.out.2.2.1 HPUT.out.2.1⟩⟩
        · as_aux_lemma =>
          have HRC := Aside0.mk (ref_cancel x.f1 HI6.out hBl HRISE.out (by omega) HR1.out HR2.out)
          obtain ⟨had, hhad⟩ : ∃ had, (Mp.look l x.f1).isSome = had := ⟨_, rfl⟩
          have HWC := Aside0.mk (fun (W : World) (HP : IsW w W g ⟨l, i⟩ ∧ Below w.heap.size w W) => cancel_any x.f1 HKI.out HP.1)
          rw [show (⟨l, i⟩ : WS).ats = l from rfl, hhad] at HWC
          rw [hhad] at HRC
          obtain ⟨n1, hn1⟩ : ∃ n1, (rem l x.f1).length = n1 := ⟨_, rfl⟩
          rw [hn1] at HRC
          have HN1 := Aside0.mk hn1
          clear hn1 hhad
          go_upto_region 19 with (go_at_call 27; (with_reducible refine HRC.out.mono ?_); rintro e w7 ⟨B1, d1, B2, d2, rfl, q1, q2, hb⟩; have HV1 := Aside0.mk q1; have HV2 := Aside0.mk q2; have HB7 := Aside0.mk hb; clear q1 q2 hb)
          obtain ⟨w8, hw8⟩ : ∃ w8, w8 = w7.alloc (.cells #[.slice B1 n1 d1, .slice B2 n1 d2] 46) := ⟨_, rfl⟩
          obtain ⟨U, hU⟩ : ∃ U, U = w7.heap.size := ⟨_, rfl⟩
          rw [← hw8, ← hU]
          have hb8 : Below w7.heap.size w7 w8 := by rw [hw8]; exact below_alloc (Below.refl _ _) _
          have hbu : w8.heap[U]? = some (.cells #[.slice B1 n1 d1, .slice B2 n1 d2] 46 (0, 0)) := by rw [hw8, hU]; exact heap_alloc_new _ _
          have hb68 : Below w6.heap.size w6 w8 := below_step HB7.out hb8
          have HI7 := Aside0.mk (HI6.out.below HB7.out)
          have HI8 := Aside0.mk (HI6.out.below hb68)
          have HW8 := Aside0.mk (below_step HW6.out hb68)
          have HS8 := Aside0.mk (HS6.out.below HI6.out hb68)
          have q1 := HV1.out.below HI7.out hb8
          have q2 := HV2.out.below HI7.out hb8
          have hno8 := HS8.out.ref.2.1
          have hbb8 := blk_below HBB.out hb68
          have HPUT := Aside0.mk (ref_put (l := rem l x.f1) HI8.out HW8.out HBW.out hno8 hbb8 (by rw [HN1.out]; exact q1) (by rw [HN1.out]; exact q2))
          rw [HN1.out] at HPUT
          have u0 : w8.cell? ⟨U, 0, none⟩ = some (.slice B1 n1 d1) := (blk_cell hbu 0).trans rfl
          have u1 : w8.cell? ⟨U, 1, none⟩ = some (.slice B2 n1 d2) := (blk_cell hbu 1).trans rfl
          have b80 : w8.cell? ⟨B, 0, none⟩ = some (.slice A1 l.length c1) := (blk_cell hbb8 0).trans rfl
          have b81 : w8.cell? ⟨B, 1, none⟩ = some (.slice A2 l.length c2) := (blk_cell hbb8 1).trans rfl
          have f80 : w8.frozen? ⟨B, 0, none⟩ = false := blk_frozen hbb8 0
          have f81 : w8.frozen? ⟨B, 1, none⟩ = false := blk_frozen hbb8 1
          have t80 : w8.cell? ⟨T, 0, none⟩ = some (.int .i64 x.f0) := (blk_cell HS8.out.tb 0).trans rfl
          have t81 : w8.cell? ⟨T, 1, none⟩ = some (.int .i64 x.f1) := (blk_cell HS8.out.tb 1).trans rfl
          have t82 : w8.cell? ⟨T, 2, none⟩ = some (.int .i64 x.f2) := (blk_cell HS8.out.tb 2).trans rfl
          have HTP : Aside0 (((w8.setCell ⟨B, 0, none⟩ (.slice B1 n1 d1)).setCell ⟨B, 1, none⟩ (.slice B2 n1 d2)).heap[T]? = some (.cells #[.int .i64 x.f0, .int .i64 x.f1, .int .i64 x.f2] 49 (0, 0)) ∧ ¬ Own ((w8.setCell ⟨B, 0, none⟩ (.slice B1 n1 d1)).setCell ⟨B, 1, none⟩ (.slice B2 n1 d2)) g T) := ⟨(HPUT.out.2.2.2.1 T hTB).trans HS8.out.tb, fun ho => HS8.out.tn ((HPUT.out.2.2.2.2 T).1 ho)⟩
          clear hw8 hU hb8 hbu hb68 hno8 hbb8 q1 q2
          go_wp2_with (go_at_call 16; (with_reducible refine (HWC.out _ ⟨HPUT.out.2.1, HPUT.out.2.2.1⟩).mono ?_); rintro e w9 ⟨rfl, hi9, hk9⟩)
          go_meet
          case rel => exact ⟨rem l x.f1, by first | rfl | simp, ⟨hi9.more (Nat.le_succ i)⟩, ⟨(fun p hp => HT.out p (mem_rem.1 hp).1)⟩, ⟨⟨(hk9.blk HTP.out.1 HTP.out.2).1, (hk9.blk HTP.out.1 HTP.out.2).2, HPUT.out.1.keep hk9⟩⟩, ⟨hk9.below HPUT.out.2.2.1 HPUT.out.2.1⟩⟩
        · as_aux_lemma =>
          have HRC := Aside0.mk (ref_due x.f2 HI6.out hBl (by omega) HR1.out HR2.out)
          have HWC := Aside0.mk (fun (W : World) (HP : IsW w W g ⟨l, i⟩ ∧ Below w.heap.size w W) => due_any x.f2 HP.1 HP.2 (show i ≤ 90000 by omega))
          obtain ⟨n1, hn1⟩ : ∃ n1, (rest l x.f2).length = n1 := ⟨_, rfl⟩
          rw [hn1] at HRC
          have HN1 := Aside0.mk hn1
          clear hn1
          obtain ⟨DD, hDD⟩ : ∃ DD, due l x.f2 = DD := ⟨_, rfl⟩
          have hd100 : DD.length ≤ 1000 := by have := due_len l x.f2; rw [hDD] at this; omega
          rw [hDD] at HRC
          rw [show (⟨l, i⟩ : WS).ats = l from rfl, hDD] at HWC
          clear hDD
          go_upto_region 23 with (go_at_call 28; (with_reducible refine HRC.out.mono ?_); rintro e w7 ⟨B1, d1, B2, d2, B3, d3, rfl, q1, q2, q3, hb⟩; have HV1 := Aside0.mk q1; have HV2 := Aside0.mk q2; have HV3 := Aside0.mk q3; have HB7 := Aside0.mk hb; clear q1 q2 hb q3)
          obtain ⟨w8, hw8⟩ : ∃ w8, w8 = w7.alloc (.cells #[.slice B1 n1 d1, .slice B2 n1 d2] 46) := ⟨_, rfl⟩
          obtain ⟨U, hU⟩ : ∃ U, U = w7.heap.size := ⟨_, rfl⟩
          rw [← hw8, ← hU]
          have hb8 : Below w7.heap.size w7 w8 := by rw [hw8]; exact below_alloc (Below.refl _ _) _
          have hbu : w8.heap[U]? = some (.cells #[.slice B1 n1 d1, .slice B2 n1 d2] 46 (0, 0)) := by rw [hw8, hU]; exact heap_alloc_new _ _
          have hb68 : Below w6.heap.size w6 w8 := below_step HB7.out hb8
          have HI7 := Aside0.mk (HI6.out.below HB7.out)
          have HI8 := Aside0.mk (HI6.out.below hb68)
          have HW8 := Aside0.mk (below_step HW6.out hb68)
          have HS8 := Aside0.mk (HS6.out.below HI6.out hb68)
          have q1 := HV1.out.below HI7.out hb8
          have q2 := HV2.out.below HI7.out hb8
          have hno8 := HS8.out.ref.2.1
          have hbb8 := blk_below HBB.out hb68
          have HPUT := Aside0.mk (ref_put (l := rest l x.f2) HI8.out HW8.out HBW.out hno8 hbb8 (by rw [HN1.out]; exact q1) (by rw [HN1.out]; exact q2))
          rw [HN1.out] at HPUT
          have u0 : w8.cell? ⟨U, 0, none⟩ = some (.slice B1 n1 d1) := (blk_cell hbu 0).trans rfl
          have u1 : w8.cell? ⟨U, 1, none⟩ = some (.slice B2 n1 d2) := (blk_cell hbu 1).trans rfl
          have b80 : w8.cell? ⟨B, 0, none⟩ = some (.slice A1 l.length c1) := (blk_cell hbb8 0).trans rfl
          have b81 : w8.cell? ⟨B, 1, none⟩ = some (.slice A2 l.length c2) := (blk_cell hbb8 1).trans rfl
          have f80 : w8.frozen? ⟨B, 0, none⟩ = false := blk_frozen hbb8 0
          have f81 : w8.frozen? ⟨B, 1, none⟩ = false := blk_frozen hbb8 1
          have t80 : w8.cell? ⟨T, 0, none⟩ = some (.int .i64 x.f0) := (blk_cell HS8.out.tb 0).trans rfl
          have t81 : w8.cell? ⟨T, 1, none⟩ = some (.int .i64 x.f1) := (blk_cell HS8.out.tb 1).trans rfl
          have t82 : w8.cell? ⟨T, 2, none⟩ = some (.int .i64 x.f2) := (blk_cell HS8.out.tb 2).trans rfl
          have HTP : Aside0 (((w8.setCell ⟨B, 0, none⟩ (.slice B1 n1 d1)).setCell ⟨B, 1, none⟩ (.slice B2 n1 d2)).heap[T]? = some (.cells #[.int .i64 x.f0, .int .i64 x.f1, .int .i64 x.f2] 49 (0, 0)) ∧ ¬ Own ((w8.setCell ⟨B, 0, none⟩ (.slice B1 n1 d1)).setCell ⟨B, 1, none⟩ (.slice B2 n1 d2)) g T) := ⟨(HPUT.out.2.2.2.1 T hTB).trans HS8.out.tb, fun ho => HS8.out.tn ((HPUT.out.2.2.2.2 T).1 ho)⟩
          have HV3p : Aside0 (Vw ((w8.setCell ⟨B, 0, none⟩ (.slice B1 n1 d1)).setCell ⟨B, 1, none⟩ (.slice B2 n1 d2)) g B (.slice B3 DD.length d3) DD) := ⟨Kd.V_mono (Kd.V_step (HV3.out.below HI7.out hb8) (fun k ok _ => HPUT.out.2.2.2.1 k ok.2)) (fun k ok => ⟨fun ho => ok.1 ((HPUT.out.2.2.2.2 k).1 ho), ok.2⟩)⟩
          clear hw8 hU hb8 hbu hb68 hno8 hbb8 q1 q2
          go_wp2_with (first
            | (go_at_call 17; (with_reducible refine (HWC.out _ ⟨HPUT.out.2.1, HPUT.out.2.2.1⟩).mono ?_); rintro e w9 ⟨v9, rfl, hr9, hi9, hk9⟩; obtain ⟨A9, n9, rfl⟩ := Kd.R_slice hr9; have HR9 := Aside0.mk (Kd.R_reads' hr9); have HV9 := Aside0.mk (Kd.V_reads' (HV3p.out.keep hk9)); clear hr9)
            | (go_at_call 23; (with_reducible refine (same23 DD A9 B3 n9 d3 _ HR9.out.2.2 HR9.out.2.1 HV9.out.2.2 HV9.out.2.1 hd100).mono ?_); rintro e w10 ⟨rfl, hb10⟩))
          go_meet
          case rel => exact ⟨rest l x.f2, by first | rfl | simp, ⟨(hi9.more (Nat.le_succ i)).below hb10⟩, ⟨rest_ticks HT.out _⟩, ⟨Beside.below ⟨(hk9.blk HTP.out.1 HTP.out.2).1, (hk9.blk HTP.out.1 HTP.out.2).2, HPUT.out.1.keep hk9⟩ hi9 hb10⟩, ⟨below_step (hk9.below HPUT.out.2.2.1 HPUT.out.2.1) hb10⟩⟩
        · as_aux_lemma =>
          clear HM1 HR1 HR2 HBB
          go_wp2
          go_meet
          case rel => exact ⟨l, by first | rfl | simp, ⟨HI6.out.more (Nat.le_succ i)⟩, HT, HS6, HW6⟩
      case rest =>
        obtain ⟨l', rfl, HI, HT', HS, HB⟩ := hcut
        clear HT HI6 HW6 HS6
        have hl100 : l'.length ≤ 101 := Nat.le_trans HI.out.ats_len (by omega)
        have hrise : Rising l' := HI.out.rise
        obtain ⟨hbw, hno, A1, c1, A2, c2, hbb, r1, r2⟩ := HS.out.ref
        have HBB := Aside0.mk hbb
        have hBl := blk_lt hbb
        have HR1 := Aside0.mk r1
        have HR2 := Aside0.mk r2
        have b0 : wc.cell? ⟨B, 0, none⟩ = some (.slice A1 l'.length c1) := (blk_cell hbb 0).trans rfl
        have b1 : wc.cell? ⟨B, 1, none⟩ = some (.slice A2 l'.length c2) := (blk_cell hbb 1).trans rfl
        have t1 : wc.cell? ⟨T, 1, none⟩ = some (.int .i64 x.f1) := (blk_cell HS.out.tb 1).trans rfl
        have HAT := Aside0.mk (at_raw x.f1 HKI.out HI.out)
        rw [show (⟨l', i + 1⟩ : WS).ats = l' from rfl] at HAT
        have HRA := Aside0.mk (ref_at x.f1 hrise (by omega) r1 r2)
        obtain ⟨cc, hcc⟩ : ∃ c, code l' x.f1 = c := ⟨_, rfl⟩
        obtain ⟨qq, hqq⟩ : ∃ q, (Mp.look l' x.f1).isSome = q := ⟨_, rfl⟩
        rw [hcc, hqq] at HAT HRA
        have HSO := Aside0.mk (fun (W : World) (h : IsW w W g ⟨l', i + 1⟩) (hB : B < W.heap.size) (q1 : Vw W g B (.slice A1 l'.length c1) (keys l')) (q2 : Vw W g B (.slice A2 l'.length c2) (vals l')) => ref_sorted h hB hrise (by omega) q1 q2)
        have HKE := Aside0.mk (fun (W : World) (h : IsW w W g ⟨l', i + 1⟩) => keys_by h (show l'.length ≤ 1000000 by omega))
        have HLE := Aside0.mk (fun (W : World) (h : IsW w W g ⟨l', i + 1⟩) => len_any h)
        rw [show (⟨l', i + 1⟩ : WS).ats = l' from rfl] at HKE HLE
        have hbl := byTick_len l'
        have HM1 := Aside0.mk (show i + 1 ≤ 90000 by omega)
        clear hbb r1 r2 hcc hqq
        rcases Classical.em (l' = []) with hz | hz
        · as_aux_lemma =>
          have HNX := Aside0.mk (fun (W : World) (h : IsW w W g ⟨l', i + 1⟩) (hB : Below w.heap.size w W) => next_none h hB HM1.out hz)
          obtain ⟨ks, hks⟩ : ∃ ks, byTick l' = ks := ⟨_, rfl⟩
          rw [hks] at HSO HKE hbl
          obtain ⟨n, hn⟩ : ∃ n, l'.length = n := ⟨_, rfl⟩
          have hn0 : n = 0 := by rw [← hn, hz]; rfl
          rw [hn] at b0 b1 HBB HR1 HR2 HRA HSO HLE hbl
          rw [hbl] at HSO
          subst hn0
          clear hks hz hrise
          go_upto_region 33 with (first
            | (go_at_call 19; (with_reducible refine HAT.out.mono ?_); rintro e w' ⟨rfl, rfl⟩)
            | (go_at_call 29; (with_reducible refine HRA.out.mono ?_); rintro e wA ⟨rfl, hb⟩; have HBA := Aside0.mk hb; have a0 : wA.cell? ⟨B, 0, none⟩ = some (.slice A1 0 c1) := (blk_cell (blk_below HBB.out hb) 0).trans rfl; have a1 : wA.cell? ⟨B, 1, none⟩ = some (.slice A2 0 c2) := (blk_cell (blk_below HBB.out hb) 1).trans rfl; clear hb)
            | (go_at_call 30; (with_reducible refine (HSO.out wA (HI.out.below HBA.out) (Nat.lt_of_lt_of_le hBl HBA.out.size) (HR1.out.below HI.out HBA.out) (HR2.out.below HI.out HBA.out)).mono ?_); rintro e wB ⟨A3, c3, rfl, q3, hb⟩; have HBB2 := Aside0.mk (below_step HBA.out hb); have HR3 := Aside0.mk q3; have HIB := Aside0.mk (HI.out.below HBB2.out); have HWB := Aside0.mk (below_step HB.out HBB2.out); have HSB := Aside0.mk (HS.out.below HI.out HBB2.out); clear hb q3)
            | (go_at_call 20; (with_reducible refine (HNX.out wB HIB.out HWB.out).mono ?_); rintro e wC ⟨rfl, hi, hk⟩; have HIC := Aside0.mk hi; have HWC := Aside0.mk (hk.below HWB.out HIB.out); have HSC := Aside0.mk (HSB.out.keep hk); have HR3C := Aside0.mk (HR3.out.keep hk); have HR1C := Aside0.mk ((HR1.out.below HI.out HBB2.out).keep hk); have HR2C := Aside0.mk ((HR2.out.below HI.out HBB2.out).keep hk); have HBC := Aside0.mk (hk.blk (blk_below HBB.out HBB2.out) HSB.out.ref.2.1).1; have bC0 : wC.cell? ⟨B, 0, none⟩ = some (.slice A1 0 c1) := (blk_cell HBC.out 0).trans rfl; have bC1 : wC.cell? ⟨B, 1, none⟩ = some (.slice A2 0 c2) := (blk_cell HBC.out 1).trans rfl; clear hi hk))
          refine start_ (n := 39) (S := fun w' => w'.cell? ⟨B, 0, none⟩ = some (.slice A1 0 c1)) (ds := []) #[false, false, false, false, false, false, false, false, false, false, false, false, false, false, false, false, false, false, false, false, false, false, false, false, false, false, false, false, false, false, false, false, false, false, false, false, false, false, false] (by kernel_rfl) rfl rfl bC0 (fun hHeld => ?_); refine with_tab plays.tab33 (fun HT_ => ?_)
          refine pure_ (i := 0) (N := some 127) (v := ?_) (a' := ?_) #[true, false, false, false, false, false, false, false, false, false, false, false, false, false, false, false, false, false, false, false, false, false, false, false, false, false, false, false, false, false, false, false, false, false, false, false, false, false, false] rfl rfl (any_of HT_.out (by kernel_rfl)) (fun _ _ _ h => h) (Or.inl ⟨by rfl, ?_⟩) ?_ ?_
          rotate_left
          · intro w'
            go_simp
            with_reducible rfl
          rotate_left
          · simp only [Act.put, List.setIfInBounds_toArray, List.set_cons_zero, List.set_cons_succ, i64_w, i32_w]
            rfl
          refine pure_ (i := 1) (N := some 128) (v := ?_) (a' := ?_) #[true, true, false, false, false, false, false, false, false, false, false, false, false, false, false, false, false, false, false, false, false, false, false, false, false, false, false, false, false, false, false, false, false, false, false, false, false, false, false] rfl rfl (any_of HT_.out (by kernel_rfl)) (fun _ _ _ h => h) (Or.inl ⟨by rfl, ?_⟩) ?_ ?_
          rotate_left
          · intro w'
            go_simp
            with_reducible rfl
          rotate_left
          · simp only [Act.put, List.setIfInBounds_toArray, List.set_cons_zero, List.set_cons_succ, i64_w, i32_w]
            rfl
          refine pure_ (i := 2) (N := some 129) (v := ?_) (a' := ?_) #[true, true, true, false, false, false, false, false, false, false, false, false, false, false, false, false, false, false, false, false, false, false, false, false, false, false, false, false, false, false, false, false, false, false, false, false, false, false, false] rfl rfl (any_of HT_.out (by kernel_rfl)) (fun _ _ _ h => h) (Or.inl ⟨by rfl, ?_⟩) ?_ ?_
          rotate_left
          · intro w'
            go_simp
            with_reducible rfl
          rotate_left
          · simp only [Act.put, List.setIfInBounds_toArray, List.set_cons_zero, List.set_cons_succ, i64_w, i32_w]
            rfl
          refine pure_ (i := 3) (N := some 130) (v := ?_) (a' := ?_) #[true, true, true, true, false, false, false, false, false, false, false, false, false, false, false, false, false, false, false, false, false, false, false, false, false, false, false, false, false, false, false, false, false, false, false, false, false, false, false] rfl rfl (any_of HT_.out (by kernel_rfl)) (fun _ _ _ h => h) (Or.inl ⟨by rfl, ?_⟩) ?_ ?_
          rotate_left
          · intro w'
            go_simp
            with_reducible rfl
          rotate_left
          · simp only [Act.put, List.setIfInBounds_toArray, List.set_cons_zero, List.set_cons_succ, i64_w, i32_w]
            rfl
          refine pure_ (i := 4) (N := some 131) (v := ?_) (a' := ?_) #[true, true, true, true, true, false, false, false, false, false, false, false, false, false, false, false, false, false, false, false, false, false, false, false, false, false, false, false, false, false, false, false, false, false, false, false, false, false, false] rfl rfl (any_of HT_.out (by kernel_rfl)) (fun _ _ _ h => h) (Or.inl ⟨by rfl, ?_⟩) ?_ ?_
          rotate_left
          · intro w'
            go_simp
            with_reducible rfl
          rotate_left
          · simp only [Act.put, List.setIfInBounds_toArray, List.set_cons_zero, List.set_cons_succ, i64_w, i32_w]
            rfl
          refine pure_ (i := 5) (N := some 132) (v := ?_) (a' := ?_) #[true, true, true, true, true, true, false, false, false, false, false, false, false, false, false, false, false, false, false, false, false, false, false, false, false, false, false, false, false, false, false, false, false, false, false, false, false, false, false] rfl rfl (any_of HT_.out (by kernel_rfl)) (fun _ _ _ h => h) (Or.inl ⟨by rfl, ?_⟩) ?_ ?_
          rotate_left
          · intro w'
            go_simp
            with_reducible rfl
          rotate_left
          · simp only [Act.put, List.setIfInBounds_toArray, List.set_cons_zero, List.set_cons_succ, i64_w, i32_w]
            rfl
          refine pure_ (i := 6) (N := some 133) (v := ?_) (a' := ?_) #[true, true, true, true, true, true, true, false, false, false, false, false, false, false, false, false, false, false, false, false, false, false, false, false, false, false, false, false, false, false, false, false, false, false, false, false, false, false, false] rfl rfl (any_of HT_.out (by kernel_rfl)) (fun _ _ _ h => h) (Or.inl ⟨by rfl, ?_⟩) ?_ ?_
          rotate_left
          · intro w'
            go_simp
            with_reducible rfl
          rotate_left
          · simp only [Act.put, List.setIfInBounds_toArray, List.set_cons_zero, List.set_cons_succ, i64_w, i32_w]
            rfl
          refine pure_ (i := 7) (N := some 134) (v := ?_) (a' := ?_) #[true, true, true, true, true, true, true, true, false, false, false, false, false, false, false, false, false, false, false, false, false, false, false, false, false, false, false, false, false, false, false, false, false, false, false, false, false, false, false] rfl rfl (any_of HT_.out (by kernel_rfl)) (fun _ _ _ h => h) (Or.inl ⟨by rfl, ?_⟩) ?_ ?_
          rotate_left
          · intro w'
            go_simp
            with_reducible rfl
          rotate_left
          · simp only [Act.put, List.setIfInBounds_toArray, List.set_cons_zero, List.set_cons_succ, i64_w, i32_w]
            rfl
          refine pure_ (i := 8) (N := some 135) (v := ?_) (a' := ?_) #[true, true, true, true, true, true, true, true, true, false, false, false, false, false, false, false, false, false, false, false, false, false, false, false, false, false, false, false, false, false, false, false, false, false, false, false, false, false, false] rfl rfl (any_of HT_.out (by kernel_rfl)) (fun _ _ _ h => h) (Or.inl ⟨by rfl, ?_⟩) ?_ ?_
          rotate_left
          · intro w'
            go_simp
            with_reducible rfl
          rotate_left
          · simp only [Act.put, List.setIfInBounds_toArray, List.set_cons_zero, List.set_cons_succ, i64_w, i32_w]
            rfl
          refine pure_ (i := 9) (N := some 136) (v := ?_) (a' := ?_) #[true, true, true, true, true, true, true, true, true, true, false, false, false, false, false, false, false, false, false, false, false, false, false, false, false, false, false, false, false, false, false, false, false, false, false, false, false, false, false] rfl rfl (any_of HT_.out (by kernel_rfl)) (fun _ _ _ h => h) (Or.inl ⟨by rfl, ?_⟩) ?_ ?_
          rotate_left
          · intro w'
            go_simp
            with_reducible rfl
          rotate_left
          · simp only [Act.put, List.setIfInBounds_toArray, List.set_cons_zero, List.set_cons_succ, i64_w, i32_w]
            rfl
          refine pure_ (i := 10) (N := some 137) (v := ?_) (a' := ?_) #[true, true, true, true, true, true, true, true, true, true, true, false, false, false, false, false, false, false, false, false, false, false, false, false, false, false, false, false, false, false, false, false, false, false, false, false, false, false, false] rfl rfl (any_of HT_.out (by kernel_rfl)) (fun _ _ _ h => h) (Or.inl ⟨by rfl, ?_⟩) ?_ ?_
          rotate_left
          · intro w'
            go_simp
            with_reducible rfl
          rotate_left
          · simp only [Act.put, List.setIfInBounds_toArray, List.set_cons_zero, List.set_cons_succ, i64_w, i32_w]
            rfl
          refine pure_ (i := 11) (N := some 138) (v := ?_) (a' := ?_) #[true, true, true, true, true, true, true, true, true, true, true, true, false, false, false, false, false, false, false, false, false, false, false, false, false, false, false, false, false, false, false, false, false, false, false, false, false, false, false] rfl rfl (any_of HT_.out (by kernel_rfl)) (fun _ _ _ h => h) (Or.inl ⟨by rfl, ?_⟩) ?_ ?_
          rotate_left
          · intro w'
            go_simp
            with_reducible rfl
          rotate_left
          · simp only [Act.put, List.setIfInBounds_toArray, List.set_cons_zero, List.set_cons_succ, i64_w, i32_w]
            rfl
          refine pure_ (i := 12) (N := some 139) (v := ?_) (a' := ?_) #[true, true, true, true, true, true, true, true, true, true, true, true, true, false, false, false, false, false, false, false, false, false, false, false, false, false, false, false, false, false, false, false, false, false, false, false, false, false, false] rfl rfl (any_of HT_.out (by kernel_rfl)) (fun _ _ _ h => h) (Or.inl ⟨by rfl, ?_⟩) ?_ ?_
          rotate_left
          · intro w'
            go_simp
            with_reducible rfl
          rotate_left
          · simp only [Act.put, List.setIfInBounds_toArray, List.set_cons_zero, List.set_cons_succ, i64_w, i32_w]
            rfl
          refine pure_ (i := 13) (N := some 140) (v := ?_) (a' := ?_) #[true, true, true, true, true, true, true, true, true, true, true, true, true, true, false, false, false, false, false, false, false, false, false, false, false, false, false, false, false, false, false, false, false, false, false, false, false, false, false] rfl rfl (any_of HT_.out (by kernel_rfl)) (fun _ _ _ h => h) (Or.inl ⟨by rfl, ?_⟩) ?_ ?_
          rotate_left
          · intro w'
            go_simp
            with_reducible rfl
          rotate_left
          · simp only [Act.put, List.setIfInBounds_toArray, List.set_cons_zero, List.set_cons_succ, i64_w, i32_w]
            rfl
          refine pure_ (i := 15) (N := some 142) (v := ?_) (a' := ?_) #[true, true, true, true, true, true, true, true, true, true, true, true, true, true, false, true, false, false, false, false, false, false, false, false, false, false, false, false, false, false, false, false, false, false, false, false, false, false, false] rfl rfl (any_of HT_.out (by kernel_rfl)) (fun _ _ _ h => h) (Or.inl ⟨by rfl, ?_⟩) ?_ ?_
          rotate_left
          · intro w'
            go_simp
            with_reducible rfl
          rotate_left
          · simp only [Act.put, List.setIfInBounds_toArray, List.set_cons_zero, List.set_cons_succ, i64_w, i32_w]
            rfl
          refine take_ (i := 16) (N := some 143) (v := ?_) (a' := ?_) #[true, true, true, true, true, true, true, true, true, true, true, true, true, true, false, true, true, false, false, false, false, false, false, false, false, false, false, false, false, false, false, false, false, false, false, false, false, false, false] rfl rfl (take_of HT_.out (by kernel_rfl)) (fun _ _ _ h => h) (Or.inl ⟨by rfl, ?_⟩) hHeld ?_ ?_
          rotate_left
          · intro w' hS_
            have s0 := hS_
            go_simp
            with_reducible rfl
          rotate_left
          · simp only [Act.put, List.setIfInBounds_toArray, List.set_cons_zero, List.set_cons_succ, i64_w, i32_w]
            rfl
          refine pure_ (i := 17) (N := some 144) (v := ?_) (a' := ?_) #[true, true, true, true, true, true, true, true, true, true, true, true, true, true, false, true, true, true, false, false, false, false, false, false, false, false, false, false, false, false, false, false, false, false, false, false, false, false, false] rfl rfl (any_of HT_.out (by kernel_rfl)) (fun _ _ _ h => h) (Or.inl ⟨by rfl, ?_⟩) ?_ ?_
          rotate_left
          · intro w'
            go_simp
            with_reducible rfl
          rotate_left
          · simp only [Act.put, List.setIfInBounds_toArray, List.set_cons_zero, List.set_cons_succ, i64_w, i32_w]
            rfl
          refine one_ (i := 14) (N := some 141) #[true, true, true, true, true, true, true, true, true, true, true, true, true, true, true, true, true, true, false, false, false, false, false, false, false, false, false, false, false, false, false, false, false, false, false, false, false, false, false] rfl rfl (one_of HT_.out (by kernel_rfl)) (by decide) (fun K hK => ?_)
          refine goes_ Try.func18 (by kernel_rfl) rfl #[.pointer (some ⟨g, 0, none⟩)] (by rfl) rfl rfl (by (try simp only [List.map_toArray, List.map_cons, List.map_nil]); first | done | rfl) ?_
          refine (HLE.out _ (HIC.out.below (below_drew1 (Below.refl _ _)))).mono ?_
          rintro e w' ⟨rfl, rfl⟩
          refine ⟨_, rfl, ?_⟩
          refine hK.out _ _ bC0 (fun hHeld => ?_)
          clear hK K
          refine norm_ (a' := ?_) ?_ ?_
          rotate_left
          · show Act.put _ (some 141) _ = _
            simp only [Act.put, List.setIfInBounds_toArray, List.set_cons_zero, List.set_cons_succ, i64_w, i32_w]
            rfl
          refine pure_ (i := 18) (N := some 145) (v := ?_) (a' := ?_) #[true, true, true, true, true, true, true, true, true, true, true, true, true, true, true, true, true, true, true, false, false, false, false, false, false, false, false, false, false, false, false, false, false, false, false, false, false, false, false] rfl rfl (any_of HT_.out (by kernel_rfl)) (fun _ _ _ h => h) (Or.inl ⟨by rfl, ?_⟩) ?_ ?_
          rotate_left
          · intro w'
            go_simp
            with_reducible rfl
          rotate_left
          · simp only [Act.put, List.setIfInBounds_toArray, List.set_cons_zero, List.set_cons_succ, i64_w, i32_w]
            rfl
          refine pure_ (i := 19) (N := some 146) (v := ?_) (a' := ?_) #[true, true, true, true, true, true, true, true, true, true, true, true, true, true, true, true, true, true, true, true, false, false, false, false, false, false, false, false, false, false, false, false, false, false, false, false, false, false, false] rfl rfl (any_of HT_.out (by kernel_rfl)) (fun _ _ _ h => h) (Or.inl ⟨by rfl, ?_⟩) ?_ ?_
          rotate_left
          · intro w'
            go_simp
            with_reducible rfl
          rotate_left
          · simp only [Act.put, List.setIfInBounds_toArray, List.set_cons_zero, List.set_cons_succ, i64_w, i32_w]
            rfl
          refine pure_ (i := 20) (N := some 147) (v := ?_) (a' := ?_) #[true, true, true, true, true, true, true, true, true, true, true, true, true, true, true, true, true, true, true, true, true, false, false, false, false, false, false, false, false, false, false, false, false, false, false, false, false, false, false] rfl rfl (any_of HT_.out (by kernel_rfl)) (fun _ _ _ h => h) (Or.inl ⟨by rfl, ?_⟩) ?_ ?_
          rotate_left
          · intro w'
            go_simp
            with_reducible rfl
          rotate_left
          · simp only [Act.put, List.setIfInBounds_toArray, List.set_cons_zero, List.set_cons_succ, i64_w, i32_w]
            rfl
          refine pure_ (i := 21) (N := some 148) (v := ?_) (a' := ?_) #[true, true, true, true, true, true, true, true, true, true, true, true, true, true, true, true, true, true, true, true, true, true, false, false, false, false, false, false, false, false, false, false, false, false, false, false, false, false, false] rfl rfl (any_of HT_.out (by kernel_rfl)) (fun _ _ _ h => h) (Or.inl ⟨by rfl, ?_⟩) ?_ ?_
          rotate_left
          · intro w'
            go_simp
            with_reducible rfl
          rotate_left
          · simp only [Act.put, List.setIfInBounds_toArray, List.set_cons_zero, List.set_cons_succ, i64_w, i32_w]
            rfl
          refine pure_ (i := 23) (N := some 150) (v := ?_) (a' := ?_) #[true, true, true, true, true, true, true, true, true, true, true, true, true, true, true, true, true, true, true, true, true, true, false, true, false, false, false, false, false, false, false, false, false, false, false, false, false, false, false] rfl rfl (any_of HT_.out (by kernel_rfl)) (fun _ _ _ h => h) (Or.inl ⟨by rfl, ?_⟩) ?_ ?_
          rotate_left
          · intro w'
            go_simp
            with_reducible rfl
          rotate_left
          · simp only [Act.put, List.setIfInBounds_toArray, List.set_cons_zero, List.set_cons_succ, i64_w, i32_w]
            rfl
          refine one_ (i := 22) (N := some 149) #[true, true, true, true, true, true, true, true, true, true, true, true, true, true, true, true, true, true, true, true, true, true, true, true, false, false, false, false, false, false, false, false, false, false, false, false, false, false, false] rfl rfl (one_of HT_.out (by kernel_rfl)) (by decide) (fun K hK => ?_)
          refine goes_ Try.func22 (by kernel_rfl) rfl #[.pointer (some ⟨g, 0, none⟩)] (by rfl) rfl rfl (by (try simp only [List.map_toArray, List.map_cons, List.map_nil]); first | done | rfl) ?_
          refine (HKE.out _ (HIC.out.below (below_drew1 (Below.refl _ _)))).mono ?_
          rintro e wE ⟨vE, rfl, hRE, hbE⟩
          obtain ⟨AE, cE, hvE⟩ := Kd.R_slice hRE
          rw [hbl] at hvE
          subst hvE
          have HBE := Aside0.mk (below_step (below_drew1 (Below.refl _ _)) hbE)
          have HRE := Aside0.mk (Kd.R_reads' hRE)
          have HVE := Aside0.mk (Kd.V_reads' (HR3C.out.below HIC.out HBE.out))
          have e0 : wE.cell? ⟨B, 0, none⟩ = some (.slice A1 0 c1) := (HBE.out.cell (p := ⟨B, 0, none⟩) (World.block_lt_of_cell? _ _ bC0)).trans bC0
          clear hRE hbE
          refine ⟨_, rfl, ?_⟩
          refine hK.out _ _ e0 (fun hHeld => ?_)
          clear hK K
          refine norm_ (a' := ?_) ?_ ?_
          rotate_left
          · show Act.put _ (some 149) _ = _
            simp only [Act.put, List.setIfInBounds_toArray, List.set_cons_zero, List.set_cons_succ, i64_w, i32_w]
            rfl
          refine one_ (i := 24) (N := some 151) #[true, true, true, true, true, true, true, true, true, true, true, true, true, true, true, true, true, true, true, true, true, true, true, true, true, false, false, false, false, false, false, false, false, false, false, false, false, false, false] rfl rfl (one_of HT_.out (by kernel_rfl)) (by decide) (fun K hK => ?_)
          refine goes_ Try.func23 (by kernel_rfl) rfl #[.slice AE 0 cE, .slice A3 0 c3] (by rfl) rfl rfl (by (try simp only [List.map_toArray, List.map_cons, List.map_nil]); first | done | rfl) ?_
          have hsm := same23 ks AE A3 cE c3 wE HRE.out.2.2 (by rw [hbl]; exact HRE.out.2.1) HVE.out.2.2 (by rw [hbl]; exact HVE.out.2.1) (by rw [hbl]; omega)
          rw [hbl] at hsm
          refine hsm.mono ?_
          clear hsm
          rintro e wF ⟨rfl, hbF⟩
          have HBF := Aside0.mk (below_step HBE.out hbF)
          have f0 : wF.cell? ⟨B, 0, none⟩ = some (.slice A1 0 c1) := (HBF.out.cell (p := ⟨B, 0, none⟩) (World.block_lt_of_cell? _ _ bC0)).trans bC0
          clear hbF
          refine ⟨_, rfl, ?_⟩
          refine hK.out _ _ f0 (fun hHeld => ?_)
          clear hK K
          refine norm_ (a' := ?_) ?_ ?_
          rotate_left
          · show Act.put _ (some 151) _ = _
            simp only [Act.put, List.setIfInBounds_toArray, List.set_cons_zero, List.set_cons_succ, i64_w, i32_w]
            rfl
          refine pure_ (i := 25) (N := some 152) (v := ?_) (a' := ?_) #[true, true, true, true, true, true, true, true, true, true, true, true, true, true, true, true, true, true, true, true, true, true, true, true, true, true, false, false, false, false, false, false, false, false, false, false, false, false, false] rfl rfl (any_of HT_.out (by kernel_rfl)) (fun _ _ _ h => h) (Or.inl ⟨by rfl, ?_⟩) ?_ ?_
          rotate_left
          · intro w'
            go_simp
            with_reducible rfl
          rotate_left
          · simp only [Act.put, List.setIfInBounds_toArray, List.set_cons_zero, List.set_cons_succ, i64_w, i32_w]
            rfl
          refine pure_ (i := 26) (N := some 153) (v := ?_) (a' := ?_) #[true, true, true, true, true, true, true, true, true, true, true, true, true, true, true, true, true, true, true, true, true, true, true, true, true, true, true, false, false, false, false, false, false, false, false, false, false, false, false] rfl rfl (any_of HT_.out (by kernel_rfl)) (fun _ _ _ h => h) (Or.inl ⟨by rfl, ?_⟩) ?_ ?_
          rotate_left
          · intro w'
            go_simp
            with_reducible rfl
          rotate_left
          · simp only [Act.put, List.setIfInBounds_toArray, List.set_cons_zero, List.set_cons_succ, i64_w, i32_w]
            rfl
          refine pure_ (i := 27) (N := some 154) (v := ?_) (a' := ?_) #[true, true, true, true, true, true, true, true, true, true, true, true, true, true, true, true, true, true, true, true, true, true, true, true, true, true, true, true, false, false, false, false, false, false, false, false, false, false, false] rfl rfl (any_of HT_.out (by kernel_rfl)) (fun _ _ _ h => h) (Or.inl ⟨by rfl, ?_⟩) ?_ ?_
          rotate_left
          · intro w'
            go_simp
            with_reducible rfl
          rotate_left
          · simp only [Act.put, List.setIfInBounds_toArray, List.set_cons_zero, List.set_cons_succ, i64_w, i32_w]
            rfl
          refine pure_ (i := 28) (N := some 155) (v := ?_) (a' := ?_) #[true, true, true, true, true, true, true, true, true, true, true, true, true, true, true, true, true, true, true, true, true, true, true, true, true, true, true, true, true, false, false, false, false, false, false, false, false, false, false] rfl rfl (any_of HT_.out (by kernel_rfl)) (fun _ _ _ h => h) (Or.inl ⟨by rfl, ?_⟩) ?_ ?_
          rotate_left
          · intro w'
            go_simp
            with_reducible rfl
          rotate_left
          · simp only [Act.put, List.setIfInBounds_toArray, List.set_cons_zero, List.set_cons_succ, i64_w, i32_w]
            rfl
          refine pure_ (i := 29) (N := some 156) (v := ?_) (a' := ?_) #[true, true, true, true, true, true, true, true, true, true, true, true, true, true, true, true, true, true, true, true, true, true, true, true, true, true, true, true, true, true, false, false, false, false, false, false, false, false, false] rfl rfl (any_of HT_.out (by kernel_rfl)) (fun _ _ _ h => h) (Or.inl ⟨by rfl, ?_⟩) ?_ ?_
          rotate_left
          · intro w'
            go_simp
            with_reducible rfl
          rotate_left
          · simp only [Act.put, List.setIfInBounds_toArray, List.set_cons_zero, List.set_cons_succ, i64_w, i32_w]
            rfl
          refine pure_ (i := 30) (N := some 157) (v := ?_) (a' := ?_) #[true, true, true, true, true, true, true, true, true, true, true, true, true, true, true, true, true, true, true, true, true, true, true, true, true, true, true, true, true, true, true, false, false, false, false, false, false, false, false] rfl rfl (any_of HT_.out (by kernel_rfl)) (fun _ _ _ h => h) (Or.inl ⟨by rfl, ?_⟩) ?_ ?_
          rotate_left
          · intro w'
            go_simp
            with_reducible rfl
          rotate_left
          · simp only [Act.put, List.setIfInBounds_toArray, List.set_cons_zero, List.set_cons_succ, i64_w, i32_w]
            rfl
          refine pure_ (i := 31) (N := some 158) (v := ?_) (a' := ?_) #[true, true, true, true, true, true, true, true, true, true, true, true, true, true, true, true, true, true, true, true, true, true, true, true, true, true, true, true, true, true, true, true, false, false, false, false, false, false, false] rfl rfl (any_of HT_.out (by kernel_rfl)) (fun _ _ _ h => h) (Or.inl ⟨by rfl, ?_⟩) ?_ ?_
          rotate_left
          · intro w'
            go_simp
            with_reducible rfl
          rotate_left
          · simp only [Act.put, List.setIfInBounds_toArray, List.set_cons_zero, List.set_cons_succ, i64_w, i32_w]
            rfl
          refine pure_ (i := 32) (N := some 159) (v := ?_) (a' := ?_) #[true, true, true, true, true, true, true, true, true, true, true, true, true, true, true, true, true, true, true, true, true, true, true, true, true, true, true, true, true, true, true, true, true, false, false, false, false, false, false] rfl rfl (any_of HT_.out (by kernel_rfl)) (fun _ _ _ h => h) (Or.inl ⟨by rfl, ?_⟩) ?_ ?_
          rotate_left
          · intro w'
            go_simp
            with_reducible rfl
          rotate_left
          · simp only [Act.put, List.setIfInBounds_toArray, List.set_cons_zero, List.set_cons_succ, i64_w, i32_w]
            rfl
          refine pure_ (i := 33) (N := some 160) (v := ?_) (a' := ?_) #[true, true, true, true, true, true, true, true, true, true, true, true, true, true, true, true, true, true, true, true, true, true, true, true, true, true, true, true, true, true, true, true, true, true, false, false, false, false, false] rfl rfl (any_of HT_.out (by kernel_rfl)) (fun _ _ _ h => h) (Or.inl ⟨by rfl, ?_⟩) ?_ ?_
          rotate_left
          · intro w'
            go_simp
            with_reducible rfl
          rotate_left
          · simp only [Act.put, List.setIfInBounds_toArray, List.set_cons_zero, List.set_cons_succ, i64_w, i32_w]
            rfl
          refine pure_ (i := 34) (N := some 161) (v := ?_) (a' := ?_) #[true, true, true, true, true, true, true, true, true, true, true, true, true, true, true, true, true, true, true, true, true, true, true, true, true, true, true, true, true, true, true, true, true, true, true, false, false, false, false] rfl rfl (any_of HT_.out (by kernel_rfl)) (fun _ _ _ h => h) (Or.inl ⟨by rfl, ?_⟩) ?_ ?_
          rotate_left
          · intro w'
            go_simp
            with_reducible rfl
          rotate_left
          · simp only [Act.put, List.setIfInBounds_toArray, List.set_cons_zero, List.set_cons_succ, i64_w, i32_w]
            rfl
          refine pure_ (i := 35) (N := some 162) (v := ?_) (a' := ?_) #[true, true, true, true, true, true, true, true, true, true, true, true, true, true, true, true, true, true, true, true, true, true, true, true, true, true, true, true, true, true, true, true, true, true, true, true, false, false, false] rfl rfl (any_of HT_.out (by kernel_rfl)) (fun _ _ _ h => h) (Or.inl ⟨by rfl, ?_⟩) ?_ ?_
          rotate_left
          · intro w'
            go_simp
            with_reducible rfl
          rotate_left
          · simp only [Act.put, List.setIfInBounds_toArray, List.set_cons_zero, List.set_cons_succ, i64_w, i32_w]
            rfl
          refine pure_ (i := 36) (N := some 163) (v := ?_) (a' := ?_) #[true, true, true, true, true, true, true, true, true, true, true, true, true, true, true, true, true, true, true, true, true, true, true, true, true, true, true, true, true, true, true, true, true, true, true, true, true, false, false] rfl rfl (any_of HT_.out (by kernel_rfl)) (fun _ _ _ h => h) (Or.inl ⟨by rfl, ?_⟩) ?_ ?_
          rotate_left
          · intro w'
            go_simp
            with_reducible rfl
          rotate_left
          · simp only [Act.put, List.setIfInBounds_toArray, List.set_cons_zero, List.set_cons_succ, i64_w, i32_w]
            rfl
          refine pure_ (i := 37) (N := some 164) (v := ?_) (a' := ?_) #[true, true, true, true, true, true, true, true, true, true, true, true, true, true, true, true, true, true, true, true, true, true, true, true, true, true, true, true, true, true, true, true, true, true, true, true, true, true, false] rfl rfl (any_of HT_.out (by kernel_rfl)) (fun _ _ _ h => h) (Or.inl ⟨by rfl, ?_⟩) ?_ ?_
          rotate_left
          · intro w'
            go_simp
            with_reducible rfl
          rotate_left
          · simp only [Act.put, List.setIfInBounds_toArray, List.set_cons_zero, List.set_cons_succ, i64_w, i32_w]
            rfl
          refine pure_ (i := 38) (N := some 165) (v := ?_) (a' := ?_) #[true, true, true, true, true, true, true, true, true, true, true, true, true, true, true, true, true, true, true, true, true, true, true, true, true, true, true, true, true, true, true, true, true, true, true, true, true, true, true] rfl rfl (any_of HT_.out (by kernel_rfl)) (fun _ _ _ h => h) (Or.inl ⟨by rfl, ?_⟩) ?_ ?_
          rotate_left
          · intro w'
            go_simp
            with_reducible rfl
          rotate_left
          · simp only [Act.put, List.setIfInBounds_toArray, List.set_cons_zero, List.set_cons_succ, i64_w, i32_w]
            rfl
          refine done_ (done_of HT_.out (by kernel_rfl)) ?_
          clear hHeld
          go_wp2
          go_roundw
          case measure => simp [intOf]; omega
          case rel => exact ⟨i + 1, l', by first | rfl | (congr 1; omega), by omega, ⟨HIC.out.below HBF.out⟩, HT', ⟨HSC.out.ref.below HIC.out HBF.out⟩, ⟨below_step HWC.out HBF.out⟩⟩
        · as_aux_lemma =>
          obtain ⟨Tk, hTk⟩ := least_is hz
          have HNX := Aside0.mk (fun (W : World) (h : IsW w W g ⟨l', i + 1⟩) (hB : Below w.heap.size w W) => next_some h hB HM1.out hTk)
          obtain ⟨px, hpx, hx1, hx2⟩ := byTick_zero hrise HT'.out hTk
          have HRA2 := Aside0.mk (fun (W : World) (q1 : Vw W g B (.slice A1 l'.length c1) (keys l')) (q2 : Vw W g B (.slice A2 l'.length c2) (vals l')) => ref_at px.1 hrise (by omega) q1 q2)
          rw [code_of hrise hpx, hx2, (look_some hrise).2 (show (px.1, px.2) ∈ l' from hpx)] at HRA2
          obtain ⟨pk, hpk⟩ : ∃ pk, px.1 = pk := ⟨_, rfl⟩
          rw [hpk] at HRA2 hx1
          have hnz : 0 < l'.length := List.length_pos_iff.2 hz
          obtain ⟨ks, hks⟩ : ∃ ks, byTick l' = ks := ⟨_, rfl⟩
          rw [hks] at HSO HKE hbl hx1
          have HX := Aside0.mk hx1
          obtain ⟨n, hn⟩ : ∃ n, l'.length = n := ⟨_, rfl⟩
          rw [hn] at b0 b1 HBB HR1 HR2 HRA HSO HLE hbl HRA2 hnz
          rw [hbl] at HSO
          have HKL := Aside0.mk hbl
          have dz1 : decide (0 < (n : Int)) = true := decide_eq_true (by omega)
          have dz2 : decide (0 < n) = true := decide_eq_true hnz
          clear hks hz hrise hTk hpx hx1 hx2 hpk
          go_upto_region 31 with (first
            | (go_at_call 19; (with_reducible refine HAT.out.mono ?_); rintro e w' ⟨rfl, rfl⟩)
            | (go_at_call 29; (with_reducible refine HRA.out.mono ?_); rintro e wA ⟨rfl, hb⟩; have HBA := Aside0.mk hb; have a0 : wA.cell? ⟨B, 0, none⟩ = some (.slice A1 n c1) := (blk_cell (blk_below HBB.out hb) 0).trans rfl; have a1 : wA.cell? ⟨B, 1, none⟩ = some (.slice A2 n c2) := (blk_cell (blk_below HBB.out hb) 1).trans rfl; clear hb)
            | (go_at_call 30; (with_reducible refine (HSO.out wA (HI.out.below HBA.out) (Nat.lt_of_lt_of_le hBl HBA.out.size) (HR1.out.below HI.out HBA.out) (HR2.out.below HI.out HBA.out)).mono ?_); rintro e wB ⟨A3, c3, rfl, q3, hb⟩; have HBB2 := Aside0.mk (below_step HBA.out hb); have HR3 := Aside0.mk q3; have HIB := Aside0.mk (HI.out.below HBB2.out); have HWB := Aside0.mk (below_step HB.out HBB2.out); have HSB := Aside0.mk (HS.out.below HI.out HBB2.out); clear hb q3)
            | (go_at_call 20; (with_reducible refine (HNX.out wB HIB.out HWB.out).mono ?_); rintro e wC ⟨rfl, hi, hk⟩; have HIC := Aside0.mk hi; have HWC := Aside0.mk (hk.below HWB.out HIB.out); have HSC := Aside0.mk (HSB.out.keep hk); have HR3C := Aside0.mk (HR3.out.keep hk); have HR1C := Aside0.mk ((HR1.out.below HI.out HBB2.out).keep hk); have HR2C := Aside0.mk ((HR2.out.below HI.out HBB2.out).keep hk); have HBC := Aside0.mk (hk.blk (blk_below HBB.out HBB2.out) HSB.out.ref.2.1).1; have bC0 : wC.cell? ⟨B, 0, none⟩ = some (.slice A1 n c1) := (blk_cell HBC.out 0).trans rfl; have bC1 : wC.cell? ⟨B, 1, none⟩ = some (.slice A2 n c2) := (blk_cell HBC.out 1).trans rfl; clear hi hk))
          obtain ⟨ad3, hA3, hk3⟩ := at_ints (Kd.V_reads' HR3C.out).2.2 (show 0 < ks.length by rw [hbl]; exact hnz)
          subst hA3
          rw [HX.out] at hk3
          have hk3 : wC.cell? ad3 = some (.int .i64 pk) := hk3
          refine start_ (n := 10) (S := fun w' => w'.cell? ⟨B, 0, none⟩ = some (.slice A1 n c1) ∧ w'.cell? ⟨B, 1, none⟩ = some (.slice A2 n c2) ∧ w'.cell? ad3 = some (.int .i64 pk)) (ds := []) #[false, false, false, false, false, false, false, false, false, false] (by kernel_rfl) rfl rfl ⟨bC0, bC1, hk3⟩ (fun hHeld => ?_); refine with_tab plays.tab31 (fun HT_ => ?_)
          refine pure_ (i := 1) (N := some 120) (v := ?_) (a' := ?_) #[false, true, false, false, false, false, false, false, false, false] rfl rfl (any_of HT_.out (by kernel_rfl)) (fun _ _ _ h => h) (Or.inl ⟨by rfl, ?_⟩) ?_ ?_
          rotate_left
          · intro w'
            go_simp
            with_reducible rfl
          rotate_left
          · simp only [Act.put, List.setIfInBounds_toArray, List.set_cons_zero, List.set_cons_succ, i64_w, i32_w]
            rfl
          refine pure_ (i := 2) (N := some 121) (v := ?_) (a' := ?_) #[false, true, true, false, false, false, false, false, false, false] rfl rfl (any_of HT_.out (by kernel_rfl)) (fun _ _ _ h => h) (Or.inl ⟨by rfl, ?_⟩) ?_ ?_
          rotate_left
          · intro w'
            go_simp
            with_reducible rfl
          rotate_left
          · simp only [Act.put, List.setIfInBounds_toArray, List.set_cons_zero, List.set_cons_succ, i64_w, i32_w]
            rfl
          refine take_ (i := 0) (N := some 119) (v := ?_) (a' := ?_) #[true, true, true, false, false, false, false, false, false, false] rfl rfl (take_of HT_.out (by kernel_rfl)) (fun _ _ _ h => h) (Or.inl ⟨by rfl, ?_⟩) hHeld ?_ ?_
          rotate_left
          · intro w' hS_
            obtain ⟨s0, s1, s2⟩ := hS_
            go_simp
            with_reducible rfl
          rotate_left
          · simp only [Act.put, List.setIfInBounds_toArray, List.set_cons_zero, List.set_cons_succ, i64_w, i32_w]
            rfl
          refine take_ (i := 3) (N := some 122) (v := ?_) (a' := ?_) #[true, true, true, true, false, false, false, false, false, false] rfl rfl (take_of HT_.out (by kernel_rfl)) (fun _ _ _ h => h) (Or.inl ⟨by rfl, ?_⟩) hHeld ?_ ?_
          rotate_left
          · intro w' hS_
            obtain ⟨s0, s1, s2⟩ := hS_
            go_simp
            with_reducible rfl
          rotate_left
          · simp only [Act.put, List.setIfInBounds_toArray, List.set_cons_zero, List.set_cons_succ, i64_w, i32_w]
            rfl
          refine one_ (i := 4) (N := some 123) #[true, true, true, true, true, false, false, false, false, false] rfl rfl (one_of HT_.out (by kernel_rfl)) (by decide) (fun K hK => ?_)
          refine goes_ Try.func29 (by kernel_rfl) rfl #[.agg #[.slice A1 n c1, .slice A2 n c2], .int .i64 pk] (by rfl) rfl rfl (by (try simp only [List.map_toArray, List.map_cons, List.map_nil]); first | done | rfl) ?_
          refine (HRA2.out _ (HR1C.out.below HIC.out (below_drew1 (Below.refl _ _))) (HR2C.out.below HIC.out (below_drew1 (Below.refl _ _)))).mono ?_
          rintro e wD ⟨rfl, hbD⟩
          have HBD := Aside0.mk (below_step (below_drew1 (Below.refl _ _)) hbD)
          have d0 : wD.cell? ⟨B, 0, none⟩ = some (.slice A1 n c1) := (HBD.out.cell (p := ⟨B, 0, none⟩) (World.block_lt_of_cell? _ _ bC0)).trans bC0
          have d1 : wD.cell? ⟨B, 1, none⟩ = some (.slice A2 n c2) := (HBD.out.cell (p := ⟨B, 1, none⟩) (World.block_lt_of_cell? _ _ bC1)).trans bC1
          have d2 : wD.cell? ad3 = some (.int .i64 pk) := (HBD.out.cell (World.block_lt_of_cell? _ _ hk3)).trans hk3
          clear hbD
          refine ⟨_, rfl, ?_⟩
          refine hK.out _ _ ⟨d0, d1, d2⟩ (fun hHeld => ?_)
          clear hK K
          refine norm_ (a' := ?_) ?_ ?_
          rotate_left
          · show Act.put _ (some 123) _ = _
            simp only [Act.put, List.setIfInBounds_toArray, List.set_cons_zero, List.set_cons_succ, i64_w, i32_w]
            rfl
          refine pure_ (i := 5) (N := some 118) (v := ?_) (a' := ?_) #[true, true, true, true, true, true, false, false, false, false] rfl rfl (any_of HT_.out (by kernel_rfl)) (fun _ _ _ h => h) (Or.inl ⟨by rfl, ?_⟩) ?_ ?_
          rotate_left
          · intro w'
            go_simp
            with_reducible rfl
          rotate_left
          · simp only [Act.put, List.setIfInBounds_toArray, List.set_cons_zero, List.set_cons_succ, i64_w, i32_w]
            rfl
          refine pure_ (i := 6) (N := some 124) (v := ?_) (a' := ?_) #[true, true, true, true, true, true, true, false, false, false] rfl rfl (any_of HT_.out (by kernel_rfl)) (fun _ _ _ h => h) (Or.inl ⟨by rfl, ?_⟩) ?_ ?_
          rotate_left
          · intro w'
            go_simp
            with_reducible rfl
          rotate_left
          · simp only [Act.put, List.setIfInBounds_toArray, List.set_cons_zero, List.set_cons_succ, i64_w, i32_w]
            rfl
          refine pure_ (i := 7) (N := some 125) (v := ?_) (a' := ?_) #[true, true, true, true, true, true, true, true, false, false] rfl rfl (any_of HT_.out (by kernel_rfl)) (fun _ _ _ h => h) (Or.inl ⟨by rfl, ?_⟩) ?_ ?_
          rotate_left
          · intro w'
            go_simp
            with_reducible rfl
          rotate_left
          · simp only [Act.put, List.setIfInBounds_toArray, List.set_cons_zero, List.set_cons_succ, i64_w, i32_w]
            rfl
          refine pure_ (i := 8) (N := some 22) (v := ?_) (a' := ?_) #[true, true, true, true, true, true, true, true, true, false] rfl rfl (any_of HT_.out (by kernel_rfl)) (fun _ _ _ h => h) (Or.inl ⟨by rfl, ?_⟩) ?_ ?_
          rotate_left
          · intro w'
            go_simp
            with_reducible rfl
          rotate_left
          · simp only [Act.put, List.setIfInBounds_toArray, List.set_cons_zero, List.set_cons_succ, i64_w, i32_w]
            rfl
          refine pure_ (i := 9) (N := some 23) (v := ?_) (a' := ?_) #[true, true, true, true, true, true, true, true, true, true] rfl rfl (any_of HT_.out (by kernel_rfl)) (fun _ _ _ h => h) (Or.inl ⟨by rfl, ?_⟩) ?_ ?_
          rotate_left
          · intro w'
            go_simp
            with_reducible rfl
          rotate_left
          · simp only [Act.put, List.setIfInBounds_toArray, List.set_cons_zero, List.set_cons_succ, i64_w, i32_w]
            rfl
          refine done_ (done_of HT_.out (by kernel_rfl)) ?_
          clear hHeld
          have HID := Aside0.mk (HIC.out.below HBD.out)
          have HV3D := Aside0.mk (HR3C.out.below HIC.out HBD.out)
          have HSD := Aside0.mk (HSC.out.below HIC.out HBD.out)
          have HWD := Aside0.mk (below_step HWC.out HBD.out)
          obtain ⟨A3, hA3⟩ : ∃ A3, some ad3 = A3 := ⟨_, rfl⟩
          rw [hA3] at HV3D ⊢
          clear hA3
          go_upto_region 33 with fail
          refine start_ (n := 39) (S := fun w' => w'.cell? ⟨B, 0, none⟩ = some (.slice A1 n c1)) (ds := []) #[false, false, false, false, false, false, false, false, false, false, false, false, false, false, false, false, false, false, false, false, false, false, false, false, false, false, false, false, false, false, false, false, false, false, false, false, false, false, false] (by kernel_rfl) rfl rfl d0 (fun hHeld => ?_); refine with_tab plays.tab33 (fun HT_ => ?_)
          refine pure_ (i := 0) (N := some 127) (v := ?_) (a' := ?_) #[true, false, false, false, false, false, false, false, false, false, false, false, false, false, false, false, false, false, false, false, false, false, false, false, false, false, false, false, false, false, false, false, false, false, false, false, false, false, false] rfl rfl (any_of HT_.out (by kernel_rfl)) (fun _ _ _ h => h) (Or.inl ⟨by rfl, ?_⟩) ?_ ?_
          rotate_left
          · intro w'
            go_simp
            with_reducible rfl
          rotate_left
          · simp only [Act.put, List.setIfInBounds_toArray, List.set_cons_zero, List.set_cons_succ, i64_w, i32_w]
            rfl
          refine pure_ (i := 1) (N := some 128) (v := ?_) (a' := ?_) #[true, true, false, false, false, false, false, false, false, false, false, false, false, false, false, false, false, false, false, false, false, false, false, false, false, false, false, false, false, false, false, false, false, false, false, false, false, false, false] rfl rfl (any_of HT_.out (by kernel_rfl)) (fun _ _ _ h => h) (Or.inl ⟨by rfl, ?_⟩) ?_ ?_
          rotate_left
          · intro w'
            go_simp
            with_reducible rfl
          rotate_left
          · simp only [Act.put, List.setIfInBounds_toArray, List.set_cons_zero, List.set_cons_succ, i64_w, i32_w]
            rfl
          refine pure_ (i := 2) (N := some 129) (v := ?_) (a' := ?_) #[true, true, true, false, false, false, false, false, false, false, false, false, false, false, false, false, false, false, false, false, false, false, false, false, false, false, false, false, false, false, false, false, false, false, false, false, false, false, false] rfl rfl (any_of HT_.out (by kernel_rfl)) (fun _ _ _ h => h) (Or.inl ⟨by rfl, ?_⟩) ?_ ?_
          rotate_left
          · intro w'
            go_simp
            with_reducible rfl
          rotate_left
          · simp only [Act.put, List.setIfInBounds_toArray, List.set_cons_zero, List.set_cons_succ, i64_w, i32_w]
            rfl
          refine pure_ (i := 3) (N := some 130) (v := ?_) (a' := ?_) #[true, true, true, true, false, false, false, false, false, false, false, false, false, false, false, false, false, false, false, false, false, false, false, false, false, false, false, false, false, false, false, false, false, false, false, false, false, false, false] rfl rfl (any_of HT_.out (by kernel_rfl)) (fun _ _ _ h => h) (Or.inl ⟨by rfl, ?_⟩) ?_ ?_
          rotate_left
          · intro w'
            go_simp
            with_reducible rfl
          rotate_left
          · simp only [Act.put, List.setIfInBounds_toArray, List.set_cons_zero, List.set_cons_succ, i64_w, i32_w]
            rfl
          refine pure_ (i := 4) (N := some 131) (v := ?_) (a' := ?_) #[true, true, true, true, true, false, false, false, false, false, false, false, false, false, false, false, false, false, false, false, false, false, false, false, false, false, false, false, false, false, false, false, false, false, false, false, false, false, false] rfl rfl (any_of HT_.out (by kernel_rfl)) (fun _ _ _ h => h) (Or.inl ⟨by rfl, ?_⟩) ?_ ?_
          rotate_left
          · intro w'
            go_simp
            with_reducible rfl
          rotate_left
          · simp only [Act.put, List.setIfInBounds_toArray, List.set_cons_zero, List.set_cons_succ, i64_w, i32_w]
            rfl
          refine pure_ (i := 5) (N := some 132) (v := ?_) (a' := ?_) #[true, true, true, true, true, true, false, false, false, false, false, false, false, false, false, false, false, false, false, false, false, false, false, false, false, false, false, false, false, false, false, false, false, false, false, false, false, false, false] rfl rfl (any_of HT_.out (by kernel_rfl)) (fun _ _ _ h => h) (Or.inl ⟨by rfl, ?_⟩) ?_ ?_
          rotate_left
          · intro w'
            go_simp
            with_reducible rfl
          rotate_left
          · simp only [Act.put, List.setIfInBounds_toArray, List.set_cons_zero, List.set_cons_succ, i64_w, i32_w]
            rfl
          refine pure_ (i := 6) (N := some 133) (v := ?_) (a' := ?_) #[true, true, true, true, true, true, true, false, false, false, false, false, false, false, false, false, false, false, false, false, false, false, false, false, false, false, false, false, false, false, false, false, false, false, false, false, false, false, false] rfl rfl (any_of HT_.out (by kernel_rfl)) (fun _ _ _ h => h) (Or.inl ⟨by rfl, ?_⟩) ?_ ?_
          rotate_left
          · intro w'
            go_simp
            with_reducible rfl
          rotate_left
          · simp only [Act.put, List.setIfInBounds_toArray, List.set_cons_zero, List.set_cons_succ, i64_w, i32_w]
            rfl
          refine pure_ (i := 7) (N := some 134) (v := ?_) (a' := ?_) #[true, true, true, true, true, true, true, true, false, false, false, false, false, false, false, false, false, false, false, false, false, false, false, false, false, false, false, false, false, false, false, false, false, false, false, false, false, false, false] rfl rfl (any_of HT_.out (by kernel_rfl)) (fun _ _ _ h => h) (Or.inl ⟨by rfl, ?_⟩) ?_ ?_
          rotate_left
          · intro w'
            go_simp
            with_reducible rfl
          rotate_left
          · simp only [Act.put, List.setIfInBounds_toArray, List.set_cons_zero, List.set_cons_succ, i64_w, i32_w]
            rfl
          refine pure_ (i := 8) (N := some 135) (v := ?_) (a' := ?_) #[true, true, true, true, true, true, true, true, true, false, false, false, false, false, false, false, false, false, false, false, false, false, false, false, false, false, false, false, false, false, false, false, false, false, false, false, false, false, false] rfl rfl (any_of HT_.out (by kernel_rfl)) (fun _ _ _ h => h) (Or.inl ⟨by rfl, ?_⟩) ?_ ?_
          rotate_left
          · intro w'
            go_simp
            with_reducible rfl
          rotate_left
          · simp only [Act.put, List.setIfInBounds_toArray, List.set_cons_zero, List.set_cons_succ, i64_w, i32_w]
            rfl
          refine pure_ (i := 9) (N := some 136) (v := ?_) (a' := ?_) #[true, true, true, true, true, true, true, true, true, true, false, false, false, false, false, false, false, false, false, false, false, false, false, false, false, false, false, false, false, false, false, false, false, false, false, false, false, false, false] rfl rfl (any_of HT_.out (by kernel_rfl)) (fun _ _ _ h => h) (Or.inl ⟨by rfl, ?_⟩) ?_ ?_
          rotate_left
          · intro w'
            go_simp
            with_reducible rfl
          rotate_left
          · simp only [Act.put, List.setIfInBounds_toArray, List.set_cons_zero, List.set_cons_succ, i64_w, i32_w]
            rfl
          refine pure_ (i := 10) (N := some 137) (v := ?_) (a' := ?_) #[true, true, true, true, true, true, true, true, true, true, true, false, false, false, false, false, false, false, false, false, false, false, false, false, false, false, false, false, false, false, false, false, false, false, false, false, false, false, false] rfl rfl (any_of HT_.out (by kernel_rfl)) (fun _ _ _ h => h) (Or.inl ⟨by rfl, ?_⟩) ?_ ?_
          rotate_left
          · intro w'
            go_simp
            with_reducible rfl
          rotate_left
          · simp only [Act.put, List.setIfInBounds_toArray, List.set_cons_zero, List.set_cons_succ, i64_w, i32_w]
            rfl
          refine pure_ (i := 11) (N := some 138) (v := ?_) (a' := ?_) #[true, true, true, true, true, true, true, true, true, true, true, true, false, false, false, false, false, false, false, false, false, false, false, false, false, false, false, false, false, false, false, false, false, false, false, false, false, false, false] rfl rfl (any_of HT_.out (by kernel_rfl)) (fun _ _ _ h => h) (Or.inl ⟨by rfl, ?_⟩) ?_ ?_
          rotate_left
          · intro w'
            go_simp
            with_reducible rfl
          rotate_left
          · simp only [Act.put, List.setIfInBounds_toArray, List.set_cons_zero, List.set_cons_succ, i64_w, i32_w]
            rfl
          refine pure_ (i := 12) (N := some 139) (v := ?_) (a' := ?_) #[true, true, true, true, true, true, true, true, true, true, true, true, true, false, false, false, false, false, false, false, false, false, false, false, false, false, false, false, false, false, false, false, false, false, false, false, false, false, false] rfl rfl (any_of HT_.out (by kernel_rfl)) (fun _ _ _ h => h) (Or.inl ⟨by rfl, ?_⟩) ?_ ?_
          rotate_left
          · intro w'
            go_simp
            with_reducible rfl
          rotate_left
          · simp only [Act.put, List.setIfInBounds_toArray, List.set_cons_zero, List.set_cons_succ, i64_w, i32_w]
            rfl
          refine pure_ (i := 13) (N := some 140) (v := ?_) (a' := ?_) #[true, true, true, true, true, true, true, true, true, true, true, true, true, true, false, false, false, false, false, false, false, false, false, false, false, false, false, false, false, false, false, false, false, false, false, false, false, false, false] rfl rfl (any_of HT_.out (by kernel_rfl)) (fun _ _ _ h => h) (Or.inl ⟨by rfl, ?_⟩) ?_ ?_
          rotate_left
          · intro w'
            go_simp
            with_reducible rfl
          rotate_left
          · simp only [Act.put, List.setIfInBounds_toArray, List.set_cons_zero, List.set_cons_succ, i64_w, i32_w]
            rfl
          refine pure_ (i := 15) (N := some 142) (v := ?_) (a' := ?_) #[true, true, true, true, true, true, true, true, true, true, true, true, true, true, false, true, false, false, false, false, false, false, false, false, false, false, false, false, false, false, false, false, false, false, false, false, false, false, false] rfl rfl (any_of HT_.out (by kernel_rfl)) (fun _ _ _ h => h) (Or.inl ⟨by rfl, ?_⟩) ?_ ?_
          rotate_left
          · intro w'
            go_simp
            with_reducible rfl
          rotate_left
          · simp only [Act.put, List.setIfInBounds_toArray, List.set_cons_zero, List.set_cons_succ, i64_w, i32_w]
            rfl
          refine take_ (i := 16) (N := some 143) (v := ?_) (a' := ?_) #[true, true, true, true, true, true, true, true, true, true, true, true, true, true, false, true, true, false, false, false, false, false, false, false, false, false, false, false, false, false, false, false, false, false, false, false, false, false, false] rfl rfl (take_of HT_.out (by kernel_rfl)) (fun _ _ _ h => h) (Or.inl ⟨by rfl, ?_⟩) hHeld ?_ ?_
          rotate_left
          · intro w' hS_
            have s0 := hS_
            go_simp
            with_reducible rfl
          rotate_left
          · simp only [Act.put, List.setIfInBounds_toArray, List.set_cons_zero, List.set_cons_succ, i64_w, i32_w]
            rfl
          refine pure_ (i := 17) (N := some 144) (v := ?_) (a' := ?_) #[true, true, true, true, true, true, true, true, true, true, true, true, true, true, false, true, true, true, false, false, false, false, false, false, false, false, false, false, false, false, false, false, false, false, false, false, false, false, false] rfl rfl (any_of HT_.out (by kernel_rfl)) (fun _ _ _ h => h) (Or.inl ⟨by rfl, ?_⟩) ?_ ?_
          rotate_left
          · intro w'
            go_simp
            with_reducible rfl
          rotate_left
          · simp only [Act.put, List.setIfInBounds_toArray, List.set_cons_zero, List.set_cons_succ, i64_w, i32_w]
            rfl
          refine one_ (i := 14) (N := some 141) #[true, true, true, true, true, true, true, true, true, true, true, true, true, true, true, true, true, true, false, false, false, false, false, false, false, false, false, false, false, false, false, false, false, false, false, false, false, false, false] rfl rfl (one_of HT_.out (by kernel_rfl)) (by decide) (fun K hK => ?_)
          refine goes_ Try.func18 (by kernel_rfl) rfl #[.pointer (some ⟨g, 0, none⟩)] (by rfl) rfl rfl (by (try simp only [List.map_toArray, List.map_cons, List.map_nil]); first | done | rfl) ?_
          refine (HLE.out _ (HID.out.below (below_drew1 (Below.refl _ _)))).mono ?_
          rintro e w' ⟨rfl, rfl⟩
          refine ⟨_, rfl, ?_⟩
          refine hK.out _ _ d0 (fun hHeld => ?_)
          clear hK K
          refine norm_ (a' := ?_) ?_ ?_
          rotate_left
          · show Act.put _ (some 141) _ = _
            simp only [Act.put, List.setIfInBounds_toArray, List.set_cons_zero, List.set_cons_succ, i64_w, i32_w]
            rfl
          refine pure_ (i := 18) (N := some 145) (v := ?_) (a' := ?_) #[true, true, true, true, true, true, true, true, true, true, true, true, true, true, true, true, true, true, true, false, false, false, false, false, false, false, false, false, false, false, false, false, false, false, false, false, false, false, false] rfl rfl (any_of HT_.out (by kernel_rfl)) (fun _ _ _ h => h) (Or.inl ⟨by rfl, ?_⟩) ?_ ?_
          rotate_left
          · intro w'
            go_simp
            with_reducible rfl
          rotate_left
          · simp only [Act.put, List.setIfInBounds_toArray, List.set_cons_zero, List.set_cons_succ, i64_w, i32_w]
            rfl
          refine pure_ (i := 19) (N := some 146) (v := ?_) (a' := ?_) #[true, true, true, true, true, true, true, true, true, true, true, true, true, true, true, true, true, true, true, true, false, false, false, false, false, false, false, false, false, false, false, false, false, false, false, false, false, false, false] rfl rfl (any_of HT_.out (by kernel_rfl)) (fun _ _ _ h => h) (Or.inl ⟨by rfl, ?_⟩) ?_ ?_
          rotate_left
          · intro w'
            go_simp
            with_reducible rfl
          rotate_left
          · simp only [Act.put, List.setIfInBounds_toArray, List.set_cons_zero, List.set_cons_succ, i64_w, i32_w]
            rfl
          refine pure_ (i := 20) (N := some 147) (v := ?_) (a' := ?_) #[true, true, true, true, true, true, true, true, true, true, true, true, true, true, true, true, true, true, true, true, true, false, false, false, false, false, false, false, false, false, false, false, false, false, false, false, false, false, false] rfl rfl (any_of HT_.out (by kernel_rfl)) (fun _ _ _ h => h) (Or.inl ⟨by rfl, ?_⟩) ?_ ?_
          rotate_left
          · intro w'
            go_simp
            with_reducible rfl
          rotate_left
          · simp only [Act.put, List.setIfInBounds_toArray, List.set_cons_zero, List.set_cons_succ, i64_w, i32_w]
            rfl
          refine pure_ (i := 21) (N := some 148) (v := ?_) (a' := ?_) #[true, true, true, true, true, true, true, true, true, true, true, true, true, true, true, true, true, true, true, true, true, true, false, false, false, false, false, false, false, false, false, false, false, false, false, false, false, false, false] rfl rfl (any_of HT_.out (by kernel_rfl)) (fun _ _ _ h => h) (Or.inl ⟨by rfl, ?_⟩) ?_ ?_
          rotate_left
          · intro w'
            go_simp
            with_reducible rfl
          rotate_left
          · simp only [Act.put, List.setIfInBounds_toArray, List.set_cons_zero, List.set_cons_succ, i64_w, i32_w]
            rfl
          refine pure_ (i := 23) (N := some 150) (v := ?_) (a' := ?_) #[true, true, true, true, true, true, true, true, true, true, true, true, true, true, true, true, true, true, true, true, true, true, false, true, false, false, false, false, false, false, false, false, false, false, false, false, false, false, false] rfl rfl (any_of HT_.out (by kernel_rfl)) (fun _ _ _ h => h) (Or.inl ⟨by rfl, ?_⟩) ?_ ?_
          rotate_left
          · intro w'
            go_simp
            with_reducible rfl
          rotate_left
          · simp only [Act.put, List.setIfInBounds_toArray, List.set_cons_zero, List.set_cons_succ, i64_w, i32_w]
            rfl
          refine one_ (i := 22) (N := some 149) #[true, true, true, true, true, true, true, true, true, true, true, true, true, true, true, true, true, true, true, true, true, true, true, true, false, false, false, false, false, false, false, false, false, false, false, false, false, false, false] rfl rfl (one_of HT_.out (by kernel_rfl)) (by decide) (fun K hK => ?_)
          refine goes_ Try.func22 (by kernel_rfl) rfl #[.pointer (some ⟨g, 0, none⟩)] (by rfl) rfl rfl (by (try simp only [List.map_toArray, List.map_cons, List.map_nil]); first | done | rfl) ?_
          refine (HKE.out _ (HID.out.below (below_drew1 (Below.refl _ _)))).mono ?_
          rintro e wE ⟨vE, rfl, hRE, hbE⟩
          obtain ⟨AE, cE, hvE⟩ := Kd.R_slice hRE
          rw [hbl] at hvE
          subst hvE
          have HBE := Aside0.mk (below_step (below_drew1 (Below.refl _ _)) hbE)
          have HRE := Aside0.mk (Kd.R_reads' hRE)
          have HVE := Aside0.mk (Kd.V_reads' (HV3D.out.below HID.out HBE.out))
          have e0 : wE.cell? ⟨B, 0, none⟩ = some (.slice A1 n c1) := (HBE.out.cell (p := ⟨B, 0, none⟩) (World.block_lt_of_cell? _ _ d0)).trans d0
          clear hRE hbE
          refine ⟨_, rfl, ?_⟩
          refine hK.out _ _ e0 (fun hHeld => ?_)
          clear hK K
          refine norm_ (a' := ?_) ?_ ?_
          rotate_left
          · show Act.put _ (some 149) _ = _
            simp only [Act.put, List.setIfInBounds_toArray, List.set_cons_zero, List.set_cons_succ, i64_w, i32_w]
            rfl
          refine one_ (i := 24) (N := some 151) #[true, true, true, true, true, true, true, true, true, true, true, true, true, true, true, true, true, true, true, true, true, true, true, true, true, false, false, false, false, false, false, false, false, false, false, false, false, false, false] rfl rfl (one_of HT_.out (by kernel_rfl)) (by decide) (fun K hK => ?_)
          refine goes_ Try.func23 (by kernel_rfl) rfl #[.slice AE n cE, .slice A3 n c3] (by rfl) rfl rfl (by (try simp only [List.map_toArray, List.map_cons, List.map_nil]); first | done | rfl) ?_
          have hsm := same23 ks AE A3 cE c3 wE HRE.out.2.2 (by rw [hbl]; exact HRE.out.2.1) HVE.out.2.2 (by rw [hbl]; exact HVE.out.2.1) (by rw [hbl]; omega)
          rw [hbl] at hsm
          refine hsm.mono ?_
          clear hsm
          rintro e wF ⟨rfl, hbF⟩
          have HBF := Aside0.mk (below_step HBE.out hbF)
          have f0 : wF.cell? ⟨B, 0, none⟩ = some (.slice A1 n c1) := (HBF.out.cell (p := ⟨B, 0, none⟩) (World.block_lt_of_cell? _ _ d0)).trans d0
          clear hbF
          refine ⟨_, rfl, ?_⟩
          refine hK.out _ _ f0 (fun hHeld => ?_)
          clear hK K
          refine norm_ (a' := ?_) ?_ ?_
          rotate_left
          · show Act.put _ (some 151) _ = _
            simp only [Act.put, List.setIfInBounds_toArray, List.set_cons_zero, List.set_cons_succ, i64_w, i32_w]
            rfl
          refine pure_ (i := 25) (N := some 152) (v := ?_) (a' := ?_) #[true, true, true, true, true, true, true, true, true, true, true, true, true, true, true, true, true, true, true, true, true, true, true, true, true, true, false, false, false, false, false, false, false, false, false, false, false, false, false] rfl rfl (any_of HT_.out (by kernel_rfl)) (fun _ _ _ h => h) (Or.inl ⟨by rfl, ?_⟩) ?_ ?_
          rotate_left
          · intro w'
            go_simp
            with_reducible rfl
          rotate_left
          · simp only [Act.put, List.setIfInBounds_toArray, List.set_cons_zero, List.set_cons_succ, i64_w, i32_w]
            rfl
          refine pure_ (i := 26) (N := some 153) (v := ?_) (a' := ?_) #[true, true, true, true, true, true, true, true, true, true, true, true, true, true, true, true, true, true, true, true, true, true, true, true, true, true, true, false, false, false, false, false, false, false, false, false, false, false, false] rfl rfl (any_of HT_.out (by kernel_rfl)) (fun _ _ _ h => h) (Or.inl ⟨by rfl, ?_⟩) ?_ ?_
          rotate_left
          · intro w'
            go_simp
            with_reducible rfl
          rotate_left
          · simp only [Act.put, List.setIfInBounds_toArray, List.set_cons_zero, List.set_cons_succ, i64_w, i32_w]
            rfl
          refine pure_ (i := 27) (N := some 154) (v := ?_) (a' := ?_) #[true, true, true, true, true, true, true, true, true, true, true, true, true, true, true, true, true, true, true, true, true, true, true, true, true, true, true, true, false, false, false, false, false, false, false, false, false, false, false] rfl rfl (any_of HT_.out (by kernel_rfl)) (fun _ _ _ h => h) (Or.inl ⟨by rfl, ?_⟩) ?_ ?_
          rotate_left
          · intro w'
            go_simp
            with_reducible rfl
          rotate_left
          · simp only [Act.put, List.setIfInBounds_toArray, List.set_cons_zero, List.set_cons_succ, i64_w, i32_w]
            rfl
          refine pure_ (i := 28) (N := some 155) (v := ?_) (a' := ?_) #[true, true, true, true, true, true, true, true, true, true, true, true, true, true, true, true, true, true, true, true, true, true, true, true, true, true, true, true, true, false, false, false, false, false, false, false, false, false, false] rfl rfl (any_of HT_.out (by kernel_rfl)) (fun _ _ _ h => h) (Or.inl ⟨by rfl, ?_⟩) ?_ ?_
          rotate_left
          · intro w'
            go_simp
            with_reducible rfl
          rotate_left
          · simp only [Act.put, List.setIfInBounds_toArray, List.set_cons_zero, List.set_cons_succ, i64_w, i32_w]
            rfl
          refine pure_ (i := 29) (N := some 156) (v := ?_) (a' := ?_) #[true, true, true, true, true, true, true, true, true, true, true, true, true, true, true, true, true, true, true, true, true, true, true, true, true, true, true, true, true, true, false, false, false, false, false, false, false, false, false] rfl rfl (any_of HT_.out (by kernel_rfl)) (fun _ _ _ h => h) (Or.inl ⟨by rfl, ?_⟩) ?_ ?_
          rotate_left
          · intro w'
            go_simp
            with_reducible rfl
          rotate_left
          · simp only [Act.put, List.setIfInBounds_toArray, List.set_cons_zero, List.set_cons_succ, i64_w, i32_w]
            rfl
          refine pure_ (i := 30) (N := some 157) (v := ?_) (a' := ?_) #[true, true, true, true, true, true, true, true, true, true, true, true, true, true, true, true, true, true, true, true, true, true, true, true, true, true, true, true, true, true, true, false, false, false, false, false, false, false, false] rfl rfl (any_of HT_.out (by kernel_rfl)) (fun _ _ _ h => h) (Or.inl ⟨by rfl, ?_⟩) ?_ ?_
          rotate_left
          · intro w'
            go_simp
            with_reducible rfl
          rotate_left
          · simp only [Act.put, List.setIfInBounds_toArray, List.set_cons_zero, List.set_cons_succ, i64_w, i32_w]
            rfl
          refine pure_ (i := 31) (N := some 158) (v := ?_) (a' := ?_) #[true, true, true, true, true, true, true, true, true, true, true, true, true, true, true, true, true, true, true, true, true, true, true, true, true, true, true, true, true, true, true, true, false, false, false, false, false, false, false] rfl rfl (any_of HT_.out (by kernel_rfl)) (fun _ _ _ h => h) (Or.inl ⟨by rfl, ?_⟩) ?_ ?_
          rotate_left
          · intro w'
            go_simp
            with_reducible rfl
          rotate_left
          · simp only [Act.put, List.setIfInBounds_toArray, List.set_cons_zero, List.set_cons_succ, i64_w, i32_w]
            rfl
          refine pure_ (i := 32) (N := some 159) (v := ?_) (a' := ?_) #[true, true, true, true, true, true, true, true, true, true, true, true, true, true, true, true, true, true, true, true, true, true, true, true, true, true, true, true, true, true, true, true, true, false, false, false, false, false, false] rfl rfl (any_of HT_.out (by kernel_rfl)) (fun _ _ _ h => h) (Or.inl ⟨by rfl, ?_⟩) ?_ ?_
          rotate_left
          · intro w'
            go_simp
            with_reducible rfl
          rotate_left
          · simp only [Act.put, List.setIfInBounds_toArray, List.set_cons_zero, List.set_cons_succ, i64_w, i32_w]
            rfl
          refine pure_ (i := 33) (N := some 160) (v := ?_) (a' := ?_) #[true, true, true, true, true, true, true, true, true, true, true, true, true, true, true, true, true, true, true, true, true, true, true, true, true, true, true, true, true, true, true, true, true, true, false, false, false, false, false] rfl rfl (any_of HT_.out (by kernel_rfl)) (fun _ _ _ h => h) (Or.inl ⟨by rfl, ?_⟩) ?_ ?_
          rotate_left
          · intro w'
            go_simp
            with_reducible rfl
          rotate_left
          · simp only [Act.put, List.setIfInBounds_toArray, List.set_cons_zero, List.set_cons_succ, i64_w, i32_w]
            rfl
          refine pure_ (i := 34) (N := some 161) (v := ?_) (a' := ?_) #[true, true, true, true, true, true, true, true, true, true, true, true, true, true, true, true, true, true, true, true, true, true, true, true, true, true, true, true, true, true, true, true, true, true, true, false, false, false, false] rfl rfl (any_of HT_.out (by kernel_rfl)) (fun _ _ _ h => h) (Or.inl ⟨by rfl, ?_⟩) ?_ ?_
          rotate_left
          · intro w'
            go_simp
            with_reducible rfl
          rotate_left
          · simp only [Act.put, List.setIfInBounds_toArray, List.set_cons_zero, List.set_cons_succ, i64_w, i32_w]
            rfl
          refine pure_ (i := 35) (N := some 162) (v := ?_) (a' := ?_) #[true, true, true, true, true, true, true, true, true, true, true, true, true, true, true, true, true, true, true, true, true, true, true, true, true, true, true, true, true, true, true, true, true, true, true, true, false, false, false] rfl rfl (any_of HT_.out (by kernel_rfl)) (fun _ _ _ h => h) (Or.inl ⟨by rfl, ?_⟩) ?_ ?_
          rotate_left
          · intro w'
            go_simp
            with_reducible rfl
          rotate_left
          · simp only [Act.put, List.setIfInBounds_toArray, List.set_cons_zero, List.set_cons_succ, i64_w, i32_w]
            rfl
          refine pure_ (i := 36) (N := some 163) (v := ?_) (a' := ?_) #[true, true, true, true, true, true, true, true, true, true, true, true, true, true, true, true, true, true, true, true, true, true, true, true, true, true, true, true, true, true, true, true, true, true, true, true, true, false, false] rfl rfl (any_of HT_.out (by kernel_rfl)) (fun _ _ _ h => h) (Or.inl ⟨by rfl, ?_⟩) ?_ ?_
          rotate_left
          · intro w'
            go_simp
            with_reducible rfl
          rotate_left
          · simp only [Act.put, List.setIfInBounds_toArray, List.set_cons_zero, List.set_cons_succ, i64_w, i32_w]
            rfl
          refine pure_ (i := 37) (N := some 164) (v := ?_) (a' := ?_) #[true, true, true, true, true, true, true, true, true, true, true, true, true, true, true, true, true, true, true, true, true, true, true, true, true, true, true, true, true, true, true, true, true, true, true, true, true, true, false] rfl rfl (any_of HT_.out (by kernel_rfl)) (fun _ _ _ h => h) (Or.inl ⟨by rfl, ?_⟩) ?_ ?_
          rotate_left
          · intro w'
            go_simp
            with_reducible rfl
          rotate_left
          · simp only [Act.put, List.setIfInBounds_toArray, List.set_cons_zero, List.set_cons_succ, i64_w, i32_w]
            rfl
          refine pure_ (i := 38) (N := some 165) (v := ?_) (a' := ?_) #[true, true, true, true, true, true, true, true, true, true, true, true, true, true, true, true, true, true, true, true, true, true, true, true, true, true, true, true, true, true, true, true, true, true, true, true, true, true, true] rfl rfl (any_of HT_.out (by kernel_rfl)) (fun _ _ _ h => h) (Or.inl ⟨by rfl, ?_⟩) ?_ ?_
          rotate_left
          · intro w'
            go_simp
            with_reducible rfl
          rotate_left
          · simp only [Act.put, List.setIfInBounds_toArray, List.set_cons_zero, List.set_cons_succ, i64_w, i32_w]
            rfl
          refine done_ (done_of HT_.out (by kernel_rfl)) ?_
          clear hHeld
          go_wp2
          go_roundw
          case measure => simp [intOf]; omega
          case rel => exact ⟨i + 1, l', by first | rfl | (congr 1; omega), by omega, ⟨HID.out.below HBF.out⟩, HT', ⟨HSD.out.ref.below HID.out HBF.out⟩, ⟨below_step HWD.out HBF.out⟩⟩
    · have hke : i = ne := by omega
      subst hke
      have hd1n : decide (i < i) = false := decide_eq_false (by omega)
      clear hi hlt
      go_wp2
      go_ret
      exact ⟨rfl, HB.out⟩
end Go.Proofs.Ytfflhppieogkbaa.Hp
