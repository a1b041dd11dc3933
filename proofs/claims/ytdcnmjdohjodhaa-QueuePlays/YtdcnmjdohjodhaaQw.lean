/-
  The walk of QueuePlays: the queue and its reference, step by step. Conditions: none.
-/
import Derived.Test.YtdcnmjdohjodhaaQpA
import Derived.Test.YtdcnmjdohjodhaaEarly
import Derived.Test.YtdcnmjdohjodhaaWTab
set_option linter.unusedVariables false
set_option linter.unusedSimpArgs false
namespace Go.Proofs.Ytdcnmjdohjodhaa.Qp
open Go.RowKit Go.Proofs.Ytdcnmjdohjodhaa.PE Go.Proofs.Ytdcnmjdohjodhaa.PA Go.Proofs.Ytdcnmjdohjodhaa.PF Go.Proofs.Ytdcnmjdohjodhaa.Man Go.Proofs.Ytdcnmjdohjodhaa.Hid Go.Proofs.Ytdcnmjdohjodhaa.PH Go.Proofs.YtdcnmjdohjodhaaW.PrintWords Go.Proofs.YtdcnmjdohjodhaaW.PrintLast Go.Proofs.YtdcnmjdohjodhaaW.PrintMore
theorem lives_at : hostlerlaw12_lives.f = some true := by decide +kernel
theorem slice_ids {W : World} {base : Nat} {ok : Nat → Prop} {v : Value} {row : List S65} (h : Kd.R (Kd.int .i64) 3 W base ok v (idsOf row)) : ∃ A c, v = .slice A row.length c := by
  obtain ⟨A, c, e⟩ := Kd.R_slice h
  rw [List.length_map] at e
  exact ⟨A, c, e⟩
theorem slice_ats {W : World} {base : Nat} {ok : Nat → Prop} {v : Value} {row : List S65} (h : Kd.R (Kd.int .i64) 3 W base ok v (atsOf row)) : ∃ A c, v = .slice A row.length c := by
  obtain ⟨A, c, e⟩ := Kd.R_slice h
  rw [List.length_map] at e
  exact ⟨A, c, e⟩
/-- The reference's state in its block. -/
def RefAt (w W : World) (b : Nat) (R : Int) (row : List S65) : Prop := ∃ (A1 A2 : Option Addr) (c1 c2 : Nat), W.heap[b]? = some (.cells #[.int .i64 R, .slice A1 row.length c1, .slice A2 row.length c2] 46 (0, 0)) ∧ w.heap.size ≤ b ∧
  Kd.R (Kd.int .i64) 3 W w.heap.size (fun _ => True) (.slice A1 row.length c1) (idsOf row) ∧ Kd.R (Kd.int .i64) 3 W w.heap.size (fun _ => True) (.slice A2 row.length c2) (atsOf row) ∧
  ∀ k, some k = (Value.slice A1 row.length c1).ownBlock → some k ≠ (Value.slice A2 row.length c2).ownBlock
variable {w W W1 : World} {b g : Nat} {R : Int} {row : List S65} {s : QS}
theorem RefAt.below (h : RefAt w W b R row) (hb : Below W.heap.size W W1) : RefAt w W1 b R row := by
  obtain ⟨A1, A2, c1, c2, h1, h2, h3, h4, h5⟩ := h
  exact ⟨A1, A2, c1, c2, (hb.block b (blk_lt h1)).trans h1, h2, Kd.R_below h3 hb, Kd.R_below h4 hb, h5⟩
theorem R_keptH {v : Value} {xs : List Int} {base : Nat} (h : Kd.R (Kd.int .i64) 3 W base (fun _ => True) v xs) (hk : KeptH TQ W W1) : Kd.R (Kd.int .i64) 3 W1 base (fun _ => True) v xs :=
  Kd.R_mono (Ko.R_keep (Ko.R_apart (T := TQ) h (by decide)) hk (fun _ h => h.2)) (fun _ h => h.1)
theorem RefAt.keep (h : RefAt w W b R row) (hk : KeptH TQ W W1) : RefAt w W1 b R row := by
  obtain ⟨A1, A2, c1, c2, h1, h2, h3, h4, h5⟩ := h
  exact ⟨A1, A2, c1, c2, Ko.blkc hk h1 (by decide), h2, R_keptH h3 hk, R_keptH h4 hk, h5⟩
/-- A new state is laid into the reference's block. -/
theorem ref_put {row' : List S65} {v1 v2 : Value} {cs0 : Array Value} {P Q : Nat → Prop} (hI : IsS62 w W g s) (hB : Below w.heap.size w W) (hb : W.heap[b]? = some (.cells cs0 46 (0, 0))) (hbw : w.heap.size ≤ b) (hcs : cs0.size = 3)
    (h1 : Kd.R (Kd.int .i64) 3 W w.heap.size (fun k => P k ∧ some k ≠ v2.ownBlock) v1 (idsOf row')) (h2 : Kd.R (Kd.int .i64) 3 W w.heap.size (fun k => Q k ∧ some k ≠ v1.ownBlock) v2 (atsOf row')) :
    RefAt w ((((W.setCell ⟨b, 0, none⟩ (.int .i64 R)).setCell ⟨b, 1, none⟩ v1).setCell ⟨b, 2, none⟩ v2).alloc (.cells #[.int .i64 R, v1, v2] 46)) b R row' ∧ IsS62 w ((((W.setCell ⟨b, 0, none⟩ (.int .i64 R)).setCell ⟨b, 1, none⟩ v1).setCell ⟨b, 2, none⟩ v2).alloc (.cells #[.int .i64 R, v1, v2] 46)) g s ∧
      Below w.heap.size w ((((W.setCell ⟨b, 0, none⟩ (.int .i64 R)).setCell ⟨b, 1, none⟩ v1).setCell ⟨b, 2, none⟩ v2).alloc (.cells #[.int .i64 R, v1, v2] 46)) ∧
      ∀ (k : Nat) (cs : Array Value) (t : TypeId), W.heap[k]? = some (Obj.cells cs t (0, 0)) → (t ≠ 46 → ((((W.setCell ⟨b, 0, none⟩ (.int .i64 R)).setCell ⟨b, 1, none⟩ v1).setCell ⟨b, 2, none⟩ v2).alloc (.cells #[.int .i64 R, v1, v2] 46)).heap[k]? = some (Obj.cells cs t (0, 0))) := by
  obtain ⟨A1, c1, rfl⟩ := slice_ids h1
  obtain ⟨A2, c2, rfl⟩ := slice_ats h2
  generalize hv1 : Value.slice A1 row'.length c1 = v1 at h1 h2 ⊢
  generalize hv2 : Value.slice A2 row'.length c2 = v2 at h1 h2 ⊢
  have a1 := h1
  have a2 := h2
  have ab := hb
  have aI := hI
  have aB := hB
  have vis : ∀ {X : World} {cs : Array Value}, X.heap[b]? = some (.cells cs 46 (0, 0)) → Vis TQ X b := fun h => vis_cells h (by decide)
  have b0 := blk_set ab 0 (.int .i64 R)
  have b1 := blk_set b0 1 v1
  have b2 := blk_set b1 2 v2
  have e : (((cs0.setIfInBounds 0 (.int .i64 R)).setIfInBounds 1 v1).setIfInBounds 2 v2) = #[.int .i64 R, v1, v2] := by
    apply Array.ext
    · simp [hcs]
    · intro i h1 h2
      have : i < 3 := by simpa using h2
      match i, this with
      | 0, _ => simp [hcs]
      | 1, _ => simp [hcs]
      | 2, _ => simp [hcs]
  have cI := ((aI.far (p := ⟨b, 0, none⟩) (vis ab) (.int .i64 R)).far (p := ⟨b, 1, none⟩) (vis b0) v1).far (p := ⟨b, 2, none⟩) (vis b1) v2
  have cB := below_set (g := b) (j := 2) (v := v2) (below_set (g := b) (j := 1) (v := v1) (below_set (g := b) (j := 0) (v := .int .i64 R) aB hbw) hbw) hbw
  have r1_ := Kd.R_set (Kd.R_set (Kd.R_set a1 ab (by decide) 0 (.int .i64 R)) b0 (by decide) 1 v1) b1 (by decide) 2 v2
  have r2_ := Kd.R_set (Kd.R_set (Kd.R_set a2 ab (by decide) 0 (.int .i64 R)) b0 (by decide) 1 v1) b1 (by decide) 2 v2
  refine ⟨⟨A1, A2, c1, c2, ?_, hbw, ?_, ?_, ?_⟩, cI.alloc _, below_alloc cB _, ?_⟩
  · rw [hv1, hv2, ← e]
    exact (Below.heap_alloc _ _ _ (blk_lt b2)).trans b2
  · rw [hv1]
    exact Kd.R_mono (Kd.R_alloc r1_ _) (fun _ _ => trivial)
  · rw [hv2]
    exact Kd.R_mono (Kd.R_alloc r2_ _) (fun _ _ => trivial)
  · intro k hk
    rw [hv1] at hk
    rw [hv2]
    exact (h1.1 k hk.symm).2
  · intro k cs t h ht
    have hk : k ≠ b := by
      rintro rfl
      rw [hb] at h
      injection h with h
      injection h with _ h
      exact ht h.symm
    have h3 := (Below.heap_setCell (((W.setCell ⟨b, 0, none⟩ (.int .i64 R)).setCell ⟨b, 1, none⟩ v1)) ⟨b, 2, none⟩ v2 k hk).trans ((Below.heap_setCell (W.setCell ⟨b, 0, none⟩ (.int .i64 R)) ⟨b, 1, none⟩ v1 k hk).trans ((Below.heap_setCell W ⟨b, 0, none⟩ (.int .i64 R) k hk).trans h))
    exact (Below.heap_alloc _ _ _ (blk_lt h3)).trans h3
theorem row_put {v1 v2 v : Value} {cs0 : Array Value} {base : Nat} {ok : Nat → Prop} {xs : List Int} (hb : W.heap[b]? = some (.cells cs0 46 (0, 0))) (h : Kd.R (Kd.int .i64) 3 W base ok v xs) :
    Kd.R (Kd.int .i64) 3 ((((W.setCell ⟨b, 0, none⟩ (.int .i64 R)).setCell ⟨b, 1, none⟩ v1).setCell ⟨b, 2, none⟩ v2).alloc (.cells #[.int .i64 R, v1, v2] 46)) base ok v xs := by
  have b0 := blk_set hb 0 (.int .i64 R)
  have b1 := blk_set b0 1 v1
  exact Kd.R_alloc (Kd.R_set (Kd.R_set (Kd.R_set h hb (by decide) 0 (.int .i64 R)) b0 (by decide) 1 v1) b1 (by decide) 2 v2) _
theorem remove_c {A1 A2 : Option Addr} {c1 c2 : Nat} {row row' : List S65} {id : Int} {was : Bool} (h1 : Kd.C (Kd.int .i64) W A1 (idsOf row).length (idsOf row)) (k1 : row.length ≤ c1) (h2 : Kd.C (Kd.int .i64) W A2 (atsOf row).length (atsOf row)) (k2 : row.length ≤ c2) (h : hostlerref12_Remove.f 40 R (idsOf row) (atsOf row) id = some (R, idsOf row', atsOf row', was)) :
    Calls Try.prog 24 #[.agg #[.int .i64 R, .slice A1 row.length c1, .slice A2 row.length c2], .int .i64 id] W fun e w' => ∃ v1_ v2_ : Value, e = .returned (.tuple #[.agg #[.int .i64 R, v1_, v2_], .bool was]) ∧ Kd.R (Kd.int .i64) 3 w' W.heap.size (fun k_ => some k_ ≠ (v2_ : Value).ownBlock) v1_ (idsOf row') ∧ Kd.R (Kd.int .i64) 3 w' W.heap.size (fun k_ => some k_ ≠ (v1_ : Value).ownBlock) v2_ (atsOf row') ∧ Below W.heap.size W w' := by
  have := hostlerref12_Remove.calls 40 R A1 c1 (idsOf row) A2 c2 (atsOf row) id R _ _ was W h1 (by simpa using k1) h2 (by simpa using k2) h
  simpa only [List.length_map] using this
theorem expire_c {A1 A2 : Option Addr} {c1 c2 : Nat} {row row' : List S65} {now wait : Int} {l : List Int} (h1 : Kd.C (Kd.int .i64) W A1 (idsOf row).length (idsOf row)) (k1 : row.length ≤ c1) (h2 : Kd.C (Kd.int .i64) W A2 (atsOf row).length (atsOf row)) (k2 : row.length ≤ c2) (h : hostlerref12_Expire.f 40 R (idsOf row) (atsOf row) now wait = some (R, idsOf row', atsOf row', l)) :
    Calls Try.prog 25 #[.agg #[.int .i64 R, .slice A1 row.length c1, .slice A2 row.length c2], .int .i64 now, .int .i64 wait] W fun e w' => ∃ v1_ v2_ v3_ : Value, e = .returned (.tuple #[.agg #[.int .i64 R, v1_, v2_], v3_]) ∧ Kd.R (Kd.int .i64) 3 w' W.heap.size (fun k_ => some k_ ≠ (v2_ : Value).ownBlock ∧ some k_ ≠ (v3_ : Value).ownBlock) v1_ (idsOf row') ∧ Kd.R (Kd.int .i64) 3 w' W.heap.size (fun k_ => some k_ ≠ (v1_ : Value).ownBlock ∧ some k_ ≠ (v3_ : Value).ownBlock) v2_ (atsOf row') ∧ Kd.R (Kd.int .i64) 3 w' W.heap.size (fun k_ => some k_ ≠ (v1_ : Value).ownBlock ∧ some k_ ≠ (v2_ : Value).ownBlock) v3_ l ∧ Below W.heap.size W w' := by
  have := hostlerref12_Expire.calls 40 R A1 c1 (idsOf row) A2 c2 (atsOf row) now wait R _ _ l W h1 (by simpa using k1) h2 (by simpa using k2) h
  simpa only [List.length_map] using this
theorem place_c {A1 A2 : Option Addr} {c1 c2 : Nat} {row : List S65} {id : Int} (h1 : Kd.C (Kd.int .i64) W A1 (idsOf row).length (idsOf row)) (k1 : row.length ≤ c1) (h2 : Kd.C (Kd.int .i64) W A2 (atsOf row).length (atsOf row)) (k2 : row.length ≤ c2) (hl : row.length ≤ 16) :
    Calls Try.prog 26 #[.agg #[.int .i64 R, .slice A1 row.length c1, .slice A2 row.length c2], .int .i64 id] W fun e w' => e = .returned (.int .i64 (placeOf row id 0)) ∧ Below W.heap.size W w' := by
  have := hostlerref12_Place.calls 40 R A1 c1 (idsOf row) A2 c2 (atsOf row) id _ W h1 (by simpa using k1) h2 (by simpa using k2) (place_ref 40 R id _ row hl (by omega))
  simpa only [List.length_map] using this
theorem since_any (hi : IsS62 w W g s) (id : Int) : ∃ (tv : Int), Calls Try.prog 27 #[.pointer (some ⟨g, 0, none⟩), .int .i64 id] W (fun e w' => e = .returned (.tuple #[.int .i64 tv, .bool (decide (0 ≤ placeOf s.row id 0))]) ∧ Below W.heap.size W w') ∧ (0 ≤ placeOf s.row id 0 → ∃ P : Nat, placeOf s.row id 0 = (P : Int) ∧ P < s.row.length ∧ tv = rd (atsOf s.row) (P : Int)) := by
  have hpb := placeOf_bd s.row id 0
  by_cases hp : placeOf s.row id 0 < 0
  · refine ⟨0, ?_, fun h => by omega⟩
    rw [decide_eq_false (by omega)]
    exact since_no g s id w W hi hp
  · have hP : placeOf s.row id 0 = (((placeOf s.row id 0).toNat : Nat) : Int) := by omega
    have hPl : (placeOf s.row id 0).toNat < s.row.length := by omega
    refine ⟨(rd_T65 s.row (placeOf s.row id 0)).f1, ?_, fun h => ⟨(placeOf s.row id 0).toNat, hP, hPl, ?_⟩⟩
    · rw [decide_eq_true (by omega)]
      exact since_yes g s id w W hi hp
    · rw [rd_map1 s.row _ hPl]
      simp [rd_T65, List.getD, hPl]
theorem peek_any (hi : IsS62 w W g s) : ∃ (fst : Int), Calls Try.prog 28 #[.pointer (some ⟨g, 0, none⟩)] W (fun e w' => e = .returned (.tuple #[.int .i64 fst, .bool (decide (0 < s.row.length))]) ∧ W = w') ∧ (0 < s.row.length → fst = rd (idsOf s.row) 0) := by
  cases hr : s.row with
  | nil =>
    refine ⟨0, ?_, fun h => by simp at h⟩
    have := peek_nil g s w W hi hr
    simpa using this
  | cons y l =>
    refine ⟨y.f0, ?_, fun h => by simp [rd]⟩
    have := peek_cons g s y l w W hi hr
    simpa using this
theorem same_ids {A1 A2 : Option Addr} {c1 c2 : Nat} {row : List S65} (h1 : Kd.C (Kd.int .i64) W A1 (idsOf row).length (idsOf row)) (k1 : row.length ≤ c1) (h2 : Kd.C (Kd.int .i64) W A2 (idsOf row).length (idsOf row)) (k2 : row.length ≤ c2) (hl : row.length ≤ 16) :
    Calls Try.prog 18 #[.slice A1 row.length c1, .slice A2 row.length c2] W fun e w' => e = .returned (.bool true) ∧ Drawn0 W w' := by
  have := hostlerref01_Same.calls 40 A1 c1 (idsOf row) A2 c2 (idsOf row) true W h1 (by simpa using k1) h2 (by simpa using k2) (same_f (idsOf row) 40 (by simp; omega) (by simp; omega))
  simpa only [List.length_map] using this
def plays.T32 : Bool × List (List Nat × List Nat) := (true, [([], []), ([0], [0]), ([1], [1]), ([2], [2]), ([3, 2, 2], [2, 3]), ([2], [2]), ([5, 2], [2, 5]), ([6, 2], [2, 6]), ([4, 7, 2], [2, 4, 7]), ([2, 8], [2, 8]), ([9, 4], [9]), ([10], [10]), ([11, 10, 10], [10, 11]), ([10], [10]), ([13, 10], [10, 13]), ([10], [10]), ([15, 10], [10, 15]), ([16, 10], [10, 16]), ([14, 17, 10], [10, 14, 17]), ([12, 18, 10], [10, 12, 18]), ([10, 19], [10, 19]), ([20, 12], [20]), ([21], [21]), ([22, 21, 21], [21, 22]), ([21], [21]), ([24, 21], [21, 24]), ([23, 25, 23, 21], [21, 23, 25]), ([26, 21], [21, 26]), ([21, 27], [21, 27]), ([28, 26], [28]), ([29], [29]), ([29], [29]), ([31, 29], [29, 31]), ([30, 32, 29, 29], [29, 30, 32]), ([29], [29]), ([33, 34, 29], [29, 33, 34]), ([29, 35], [29, 35]), ([36, 33], [36]), ([37], [37]), ([37], [37]), ([39, 37], [37, 39]), ([38, 40, 37], [37, 38, 40]), ([37, 41], [37, 41]), ([42, 37], [42]), ([43], [43]), ([44, 43, 43], [43, 44]), ([45], [45]), ([45], [45]), ([47, 45], [45, 47]), ([45], [45]), ([48, 49, 45], [45, 48, 49]), ([50, 45], [45, 50]), ([46, 51, 45], [45, 46, 51]), ([45, 52, 43], [43, 45, 52]), ([43, 53], [43, 53])])
theorem plays.tab32 : rtab .any (opsOf Try.f6 32) = plays.T32 := by kernel_rfl
set_option maxRecDepth 100000 in
set_option maxHeartbeats 8000000 in
theorem plays_calls (a0 : Int) (A : Option Addr) (c0 : Nat) (l0 : List S37) (w : World) (hr0 : Kd.C k37 w A l0.length l0) (hc0 : l0.length ≤ c0) :
    Calls Try.prog 6 #[.int .i64 a0, .slice A l0.length c0] w fun e w' => e = .returned (.bool true) ∧ Below w.heap.size w w' := by
  obtain ⟨R, s0, hnr, hnq, hI0⟩ := new_step a0
  have HL := Aside0.mk (fun W => hostlerlaw12_lives.calls true W lives_at)
  have HNR := Aside0.mk (fun W => hostlerref12_New.calls a0 R _ _ W hnr)
  have HNQ := Aside0.mk (fun W (hB : Below w.heap.size w W) => queue_New.calls a0 s0 w W hB hnq)
  have HI0 := Aside0.mk hI0
  obtain ⟨je, hje⟩ : ∃ je, mn (l0.length : Int) 100 = je := ⟨_, rfl⟩
  obtain ⟨ne, hne⟩ : ∃ ne : Nat, ne = je.toNat := ⟨_, rfl⟩
  have hnl : ne ≤ l0.length ∧ ne ≤ 100 := by rw [hne, ← hje]; unfold mn; split <;> omega
  have HEA := Aside0.mk (fun W => early_raw A l0.length c0 ne je W ⟨hne⟩ hje hc0)
  have HC := Aside0.mk hr0
  have hlm : l0.length ≤ 9223372036854775807 := hr0.2.1
  clear hnr hnq hI0 hje hne hr0
  go_enter Try.func6, Try.ntmps6
  go_wp2_with (first
    | (go_at_call 8; refine (HL.out _).mono ?_; rintro e w1 ⟨rfl, hb1⟩; have HB1 := Aside0.mk hb1; clear hb1)
    | (go_at_call 9; refine (HNQ.out _ HB1.out).mono ?_; rintro e w2 ⟨g, rfl, hi2, hb2, hbb2⟩; have HI2 := Aside0.mk hi2; have HB2 := Aside0.mk hb2; clear hi2 hb2 hbb2)
    | (go_at_call 21; refine (HNR.out _).mono ?_; rintro e w3 ⟨v1, v2, rfl, hR1, hR2, hb3⟩; obtain ⟨B1, d1, rfl⟩ := slice_ids hR1; obtain ⟨B2, d2, rfl⟩ := slice_ats hR2; have HR1 := Aside0.mk hR1; have HR2 := Aside0.mk hR2; have HI3 := Aside0.mk (HI2.out.below hb3); have HB3 := Aside0.mk (HB2.out.trans (hb3.mono HB2.out.size)); clear hR1 hR2 hb3)
    | (go_at_call 14; refine (HEA.out _).mono ?_; rintro e w4 ⟨rfl, rfl⟩))
  have HREF0 : Aside0 (RefAt w (w3.alloc (.cells #[.int .i64 R, .slice B1 s0.row.length d1, .slice B2 s0.row.length d2] 46)) w3.heap.size R s0.row) := ⟨⟨B1, B2, d1, d2, heap_alloc_new w3 _, HB3.out.size, Kd.R_mono (Kd.R_lower (Kd.R_alloc HR1.out _) HB2.out.size) (fun _ _ => trivial), Kd.R_mono (Kd.R_lower (Kd.R_alloc HR2.out _) HB2.out.size) (fun _ _ => trivial), fun k hk => HR1.out.1 k hk.symm⟩⟩
  have HI4 := Aside0.mk (HI3.out.alloc (.cells #[.int .i64 R, .slice B1 s0.row.length d1, .slice B2 s0.row.length d2] 46))
  have HB4 := Aside0.mk (below_alloc HB3.out (.cells #[.int .i64 R, .slice B1 s0.row.length d1, .slice B2 s0.row.length d2] 46))
  clear HR1 HR2 HI2 HB1 HB2 HI3 HB3 HL HNR HNQ HEA
  go_loopw [7] (fun v7 wr => ∃ (k : Nat) (s : QS), k ≤ ne ∧ v7 = .int .i64 k ∧ Aside0 (Inv s R) ∧ Aside0 (IsS62 w wr g s) ∧ Aside0 (Below w.heap.size w wr) ∧ Aside0 (RefAt w wr w3.heap.size R s.row)) (fun v7 _ => ne - (intOf v7).toNat)
  case atStart => exact ⟨0, s0, Nat.zero_le _, rfl, HI0, HI4, HB4, HREF0⟩
  case round =>
    obtain ⟨k, s, hk, rfl, HIN, HI, HB, HREF⟩ := hrel
    by_cases hlt : k < ne
    · obtain ⟨ad, hA, hx0, hx1, hx2, hx3⟩ := at_T37 (Kd.C_below HC.out HB.out) (k : Int) (by omega) (by omega)
      subst hA
      obtain ⟨x, hxe⟩ : ∃ x : S37, x = rd_T37 l0 (k : Int) := ⟨_, rfl⟩
      rw [← hxe, Int.toNat_natCast] at hx0 hx1 hx2 hx3
      have h0k : (0 : Int) ≤ (k : Int) := by omega
      have hkl : (k : Int) < (ne : Int) := by omega
      have hkl2 : (k : Int) < (l0.length : Int) := by omega
      obtain ⟨κ, hκ, hκ5⟩ := mod_n x.f0 5 (by omega) (by omega)
      have HKD := Aside0.mk (fun W => hostlerlaw12_Step_kind.calls x.f0 x.f1 x.f2 x.f3 (κ : Int) W (by unfold hostlerlaw12_Step_kind.f; rw [show (5 : Int) = ((5 : Nat) : Int) from rfl, hκ]))
      clear hxe hκ
      go_upto_block 2 with (first
        | (go_at_call 16; refine (HKD.out _).mono ?_; rintro e w5 ⟨rfl, hb5⟩; have HB5 := Aside0.mk (below_step (below_alloc (Below.refl _ wr) (.cells #[.int .i64 x.f0, .int .i64 x.f1, .int .i64 x.f2, .int .i64 x.f3] 37)) hb5); have HX8 := Aside0.mk ((hb5.block _ (by simp)).trans (heap_alloc_new wr (.cells #[.int .i64 x.f0, .int .i64 x.f1, .int .i64 x.f2, .int .i64 x.f3] 37))); clear hb5))
      have HI5 := Aside0.mk (HI.out.below HB5.out)
      have HW5 := Aside0.mk (HB.out.trans (HB5.out.mono HB.out.size))
      have HRF5 := Aside0.mk (HREF.out.below HB5.out)
      have h81 : w5.cell? ⟨wr.heap.size, 1, none⟩ = some (.int .i64 x.f1) := (blk_cell HX8.out 1).trans rfl
      have h82 : w5.cell? ⟨wr.heap.size, 2, none⟩ = some (.int .i64 x.f2) := (blk_cell HX8.out 2).trans rfl
      have h83 : w5.cell? ⟨wr.heap.size, 3, none⟩ = some (.int .i64 x.f3) := (blk_cell HX8.out 3).trans rfl
      clear HI HB HREF HB5 hx0 hx1 hx2 hx3 HKD HI4 HB4 HREF0
      go_cut [9] (fun v9 wc => ∃ s' : QS, v9 = .bool true ∧ Aside0 (Inv s' R) ∧ Aside0 (IsS62 w wc g s') ∧ Aside0 (Below w.heap.size w wc) ∧ Aside0 (RefAt w wc w3.heap.size R s'.row) ∧ Aside0 (wc.heap[wr.heap.size]? = some (.cells #[.int .i64 x.f0, .int .i64 x.f1, .int .i64 x.f2, .int .i64 x.f3] 37 (0, 0))))
      case first =>
        obtain ⟨A1, A2, c1, c2, hbk, hbw, hR1, hR2, hdj⟩ := HRF5.out
        have HBK := Aside0.mk hbk
        have HT1 := Aside0.mk (Kd.R_tight rfl hR1)
        have HT2 := Aside0.mk (Kd.R_tight rfl hR2)
        have HC1 := Aside0.mk (Kd.R_reads' hR1)
        have HC2 := Aside0.mk (Kd.R_reads' hR2)
        have HDJ := Aside0.mk hdj
        have HBWW := Aside0.mk hbw
        have h60 : w5.cell? ⟨w3.heap.size, 0, none⟩ = some (.int .i64 R) := (blk_cell hbk 0).trans rfl
        have h61 : w5.cell? ⟨w3.heap.size, 1, none⟩ = some (.slice A1 s.row.length c1) := (blk_cell hbk 1).trans rfl
        have h62 : w5.cell? ⟨w3.heap.size, 2, none⟩ = some (.slice A2 s.row.length c2) := (blk_cell hbk 2).trans rfl
        have hf60 : w5.frozen? ⟨w3.heap.size, 0, none⟩ = false := blk_frozen hbk 0
        have HN1 := Aside0.mk (Ko.R_ne (T := TQ) hR1 (by decide))
        have HN2 := Aside0.mk (Ko.R_ne (T := TQ) hR2 (by decide))
        have HNB : Aside0 (∀ (k : Nat) (cs : Array Value) (t : TypeId), w5.heap[k]? = some (Obj.cells cs t (0, 0)) → t ≠ 3 → ¬ (some k = (Value.slice A1 s.row.length c1).ownBlock ∨ some k = (Value.slice A2 s.row.length c2).ownBlock)) := ⟨fun k cs t h ht hk => by
          rcases hk with hk | hk
          · exact Kd.R_ne hR1 h (Ne.symm ht) hk
          · exact Kd.R_ne hR2 h (Ne.symm ht) hk⟩
        clear hbk hR1 hR2 hdj hbw
        have hx : κ = 0 ∨ κ = 1 ∨ κ = 2 ∨ κ = 3 ∨ κ = 4 := by omega
        rcases hx with rfl | rfl | rfl | rfl | rfl
        · as_aux_lemma =>
          obtain ⟨f, s', hf, hq, hv⟩ := step_push HIN.out x.f1 x.f2
          have HF := Aside0.mk hf
          have HQ := Aside0.mk hq
          have HV := Aside0.mk hv
          clear hf hq hv
          go_wp2_with (first
            | (go_at_call 22; refine (hostlerref12_Push.calls 40 R (fun k => some k = (Value.slice A1 s.row.length c1).ownBlock) (.slice A1 s.row.length c1) (idsOf s.row) (fun k => some k = (Value.slice A2 s.row.length c2).ownBlock) (.slice A2 s.row.length c2) (atsOf s.row) x.f1 x.f2 R _ _ f w w5 HW5.out HT1.out (fun k h1 h2 => HDJ.out k h1 h2) HT2.out (fun k h1 h2 => HDJ.out k h2 h1) HF.out).mono ?_; rintro e w6 ⟨v1', v2', rfl, hR1', hR2', hb6, hk6⟩; have HI6 := Aside0.mk (HI5.out.kept hk6 (fun k hk he => by rcases he with he | he; exact HN1.out k hk he; exact HN2.out k hk he)); have HX6 := Aside0.mk ((hk6.2 _ (blk_lt HX8.out) (HNB.out _ _ _ HX8.out (by decide))).trans HX8.out); have HK6 := Aside0.mk ((hk6.2 _ (blk_lt HBK.out) (HNB.out _ _ _ HBK.out (by decide))).trans HBK.out); have HW6 := Aside0.mk hb6; obtain ⟨A1', d1', rfl⟩ := slice_ids hR1'; obtain ⟨A2', d2', rfl⟩ := slice_ats hR2'; have HP := Aside0.mk (ref_put (R := R) (row' := s'.row) HI6.out HW6.out HK6.out HBWW.out rfl (hR1') (hR2')); have hk60 : w6.frozen? ⟨w3.heap.size, 0, none⟩ = false := blk_frozen HK6.out 0; have hk61 : w6.frozen? ⟨w3.heap.size, 1, none⟩ = false := blk_frozen HK6.out 1; have hk62 : w6.frozen? ⟨w3.heap.size, 2, none⟩ = false := blk_frozen HK6.out 2; have hc60 : w6.cell? ⟨w3.heap.size, 0, none⟩ = some (.int .i64 R) := (blk_cell HK6.out 0).trans rfl; have hc61 : w6.cell? ⟨w3.heap.size, 1, none⟩ = some (.slice A1 s.row.length c1) := (blk_cell HK6.out 1).trans rfl; have hc62 : w6.cell? ⟨w3.heap.size, 2, none⟩ = some (.slice A2 s.row.length c2) := (blk_cell HK6.out 2).trans rfl; have hl6 : w3.heap.size < w6.heap.size := blk_lt HK6.out; have h86 : w6.cell? ⟨wr.heap.size, 1, none⟩ = some (.int .i64 x.f1) := (blk_cell HX6.out 1).trans rfl; have h862 : w6.cell? ⟨wr.heap.size, 2, none⟩ = some (.int .i64 x.f2) := (blk_cell HX6.out 2).trans rfl; have h863 : w6.cell? ⟨wr.heap.size, 3, none⟩ = some (.int .i64 x.f3) := (blk_cell HX6.out 3).trans rfl; have hl86 : wr.heap.size < w6.heap.size := blk_lt HX6.out; have hn86 : w3.heap.size ≠ wr.heap.size := fun e => (by have h_ := HK6.out; rw [e, HX6.out] at h_; injection h_ with h_; injection h_ with _ h_; cases h_); have HX9 := Aside0.mk (HP.out.2.2.2 _ _ _ HX6.out (by decide)); clear hR1' hR2' hb6 hk6)
            | (go_at_call 10; refine (queue_Queue_Push.calls g s x.f1 x.f2 f s' w _ HP.out.2.1 HP.out.2.2.1 HQ.out).mono ?_; rintro e w7 ⟨rfl, hi7, hb7, hk7⟩))
          go_meet
          case rel => exact ⟨s', by first | rfl | simp, HV, ⟨hi7⟩, ⟨hb7⟩, ⟨HP.out.1.keep hk7⟩, ⟨Ko.blkc hk7 HX9.out (by decide)⟩⟩
        · as_aux_lemma =>
          obtain ⟨f, s', hf, hq, hv⟩ := step_push HIN.out x.f1 x.f2
          have HF := Aside0.mk hf
          have HQ := Aside0.mk hq
          have HV := Aside0.mk hv
          clear hf hq hv
          go_wp2_with (first
            | (go_at_call 22; refine (hostlerref12_Push.calls 40 R (fun k => some k = (Value.slice A1 s.row.length c1).ownBlock) (.slice A1 s.row.length c1) (idsOf s.row) (fun k => some k = (Value.slice A2 s.row.length c2).ownBlock) (.slice A2 s.row.length c2) (atsOf s.row) x.f1 x.f2 R _ _ f w w5 HW5.out HT1.out (fun k h1 h2 => HDJ.out k h1 h2) HT2.out (fun k h1 h2 => HDJ.out k h2 h1) HF.out).mono ?_; rintro e w6 ⟨v1', v2', rfl, hR1', hR2', hb6, hk6⟩; have HI6 := Aside0.mk (HI5.out.kept hk6 (fun k hk he => by rcases he with he | he; exact HN1.out k hk he; exact HN2.out k hk he)); have HX6 := Aside0.mk ((hk6.2 _ (blk_lt HX8.out) (HNB.out _ _ _ HX8.out (by decide))).trans HX8.out); have HK6 := Aside0.mk ((hk6.2 _ (blk_lt HBK.out) (HNB.out _ _ _ HBK.out (by decide))).trans HBK.out); have HW6 := Aside0.mk hb6; obtain ⟨A1', d1', rfl⟩ := slice_ids hR1'; obtain ⟨A2', d2', rfl⟩ := slice_ats hR2'; have HP := Aside0.mk (ref_put (R := R) (row' := s'.row) HI6.out HW6.out HK6.out HBWW.out rfl (hR1') (hR2')); have hk60 : w6.frozen? ⟨w3.heap.size, 0, none⟩ = false := blk_frozen HK6.out 0; have hk61 : w6.frozen? ⟨w3.heap.size, 1, none⟩ = false := blk_frozen HK6.out 1; have hk62 : w6.frozen? ⟨w3.heap.size, 2, none⟩ = false := blk_frozen HK6.out 2; have hc60 : w6.cell? ⟨w3.heap.size, 0, none⟩ = some (.int .i64 R) := (blk_cell HK6.out 0).trans rfl; have hc61 : w6.cell? ⟨w3.heap.size, 1, none⟩ = some (.slice A1 s.row.length c1) := (blk_cell HK6.out 1).trans rfl; have hc62 : w6.cell? ⟨w3.heap.size, 2, none⟩ = some (.slice A2 s.row.length c2) := (blk_cell HK6.out 2).trans rfl; have hl6 : w3.heap.size < w6.heap.size := blk_lt HK6.out; have h86 : w6.cell? ⟨wr.heap.size, 1, none⟩ = some (.int .i64 x.f1) := (blk_cell HX6.out 1).trans rfl; have h862 : w6.cell? ⟨wr.heap.size, 2, none⟩ = some (.int .i64 x.f2) := (blk_cell HX6.out 2).trans rfl; have h863 : w6.cell? ⟨wr.heap.size, 3, none⟩ = some (.int .i64 x.f3) := (blk_cell HX6.out 3).trans rfl; have hl86 : wr.heap.size < w6.heap.size := blk_lt HX6.out; have hn86 : w3.heap.size ≠ wr.heap.size := fun e => (by have h_ := HK6.out; rw [e, HX6.out] at h_; injection h_ with h_; injection h_ with _ h_; cases h_); have HX9 := Aside0.mk (HP.out.2.2.2 _ _ _ HX6.out (by decide)); clear hR1' hR2' hb6 hk6)
            | (go_at_call 10; refine (queue_Queue_Push.calls g s x.f1 x.f2 f s' w _ HP.out.2.1 HP.out.2.2.1 HQ.out).mono ?_; rintro e w7 ⟨rfl, hi7, hb7, hk7⟩))
          go_meet
          case rel => exact ⟨s', by first | rfl | simp, HV, ⟨hi7⟩, ⟨hb7⟩, ⟨HP.out.1.keep hk7⟩, ⟨Ko.blkc hk7 HX9.out (by decide)⟩⟩
        · as_aux_lemma =>
          obtain ⟨idp, wasp, s', hf, hq, hv⟩ := step_pop HIN.out
          have HF := Aside0.mk hf
          have HQ := Aside0.mk hq
          have HV := Aside0.mk hv
          clear hf hq hv
          go_wp2_with (first
            | (go_at_call 23; refine (hostlerref12_Pop.calls 40 R (fun k => some k = (Value.slice A1 s.row.length c1).ownBlock) (.slice A1 s.row.length c1) (idsOf s.row) (fun k => some k = (Value.slice A2 s.row.length c2).ownBlock) (.slice A2 s.row.length c2) (atsOf s.row) R _ _ idp wasp w w5 HW5.out HT1.out (fun k h1 h2 => HDJ.out k h1 h2) HT2.out (fun k h1 h2 => HDJ.out k h2 h1) HF.out).mono ?_; rintro e w6 ⟨v1', v2', rfl, hR1', hR2', hb6, hk6⟩; have HI6 := Aside0.mk (HI5.out.kept hk6 (fun k hk he => by rcases he with he | he; exact HN1.out k hk he; exact HN2.out k hk he)); have HX6 := Aside0.mk ((hk6.2 _ (blk_lt HX8.out) (HNB.out _ _ _ HX8.out (by decide))).trans HX8.out); have HK6 := Aside0.mk ((hk6.2 _ (blk_lt HBK.out) (HNB.out _ _ _ HBK.out (by decide))).trans HBK.out); have HW6 := Aside0.mk hb6; obtain ⟨A1', d1', rfl⟩ := slice_ids hR1'; obtain ⟨A2', d2', rfl⟩ := slice_ats hR2'; have HP := Aside0.mk (ref_put (R := R) (row' := s'.row) HI6.out HW6.out HK6.out HBWW.out rfl (hR1') (hR2')); have hk60 : w6.frozen? ⟨w3.heap.size, 0, none⟩ = false := blk_frozen HK6.out 0; have hk61 : w6.frozen? ⟨w3.heap.size, 1, none⟩ = false := blk_frozen HK6.out 1; have hk62 : w6.frozen? ⟨w3.heap.size, 2, none⟩ = false := blk_frozen HK6.out 2; have hc60 : w6.cell? ⟨w3.heap.size, 0, none⟩ = some (.int .i64 R) := (blk_cell HK6.out 0).trans rfl; have hc61 : w6.cell? ⟨w3.heap.size, 1, none⟩ = some (.slice A1 s.row.length c1) := (blk_cell HK6.out 1).trans rfl; have hc62 : w6.cell? ⟨w3.heap.size, 2, none⟩ = some (.slice A2 s.row.length c2) := (blk_cell HK6.out 2).trans rfl; have hl6 : w3.heap.size < w6.heap.size := blk_lt HK6.out; have h86 : w6.cell? ⟨wr.heap.size, 1, none⟩ = some (.int .i64 x.f1) := (blk_cell HX6.out 1).trans rfl; have h862 : w6.cell? ⟨wr.heap.size, 2, none⟩ = some (.int .i64 x.f2) := (blk_cell HX6.out 2).trans rfl; have h863 : w6.cell? ⟨wr.heap.size, 3, none⟩ = some (.int .i64 x.f3) := (blk_cell HX6.out 3).trans rfl; have hl86 : wr.heap.size < w6.heap.size := blk_lt HX6.out; have hn86 : w3.heap.size ≠ wr.heap.size := fun e => (by have h_ := HK6.out; rw [e, HX6.out] at h_; injection h_ with h_; injection h_ with _ h_; cases h_); have HX9 := Aside0.mk (HP.out.2.2.2 _ _ _ HX6.out (by decide)); clear hR1' hR2' hb6 hk6)
            | (go_at_call 12; refine (queue_Queue_Pop.calls g s idp wasp s' w _ HP.out.2.1 HP.out.2.2.1 HQ.out).mono ?_; rintro e w7 ⟨rfl, hi7, hb7, hk7⟩))
          go_meet
          case rel => exact ⟨s', by first | rfl | simp, HV, ⟨hi7⟩, ⟨hb7⟩, ⟨HP.out.1.keep hk7⟩, ⟨Ko.blkc hk7 HX9.out (by decide)⟩⟩
        · as_aux_lemma =>
          obtain ⟨wasp, s', hf, hq, hv⟩ := step_remove HIN.out x.f1
          have HF := Aside0.mk hf
          have HQ := Aside0.mk hq
          have HV := Aside0.mk hv
          clear hf hq hv
          go_wp2_with (first
            | (go_at_call 24; refine (remove_c HC1.out.2.2 HC1.out.2.1 HC2.out.2.2 HC2.out.2.1 HF.out).mono ?_; rintro e w6 ⟨v1', v2', rfl, hR1', hR2', hb6⟩; have HI6 := Aside0.mk (HI5.out.below hb6); have HX6 := Aside0.mk ((hb6.block _ (blk_lt HX8.out)).trans HX8.out); have HK6 := Aside0.mk ((hb6.block _ (blk_lt HBK.out)).trans HBK.out); have HW6 := Aside0.mk (HW5.out.trans (hb6.mono HW5.out.size)); obtain ⟨A1', d1', rfl⟩ := slice_ids hR1'; obtain ⟨A2', d2', rfl⟩ := slice_ats hR2'; have HP := Aside0.mk (ref_put (P := fun _ => True) (Q := fun _ => True) (R := R) (row' := s'.row) HI6.out HW6.out HK6.out HBWW.out rfl (Kd.R_mono (Kd.R_lower hR1' HW5.out.size) (fun _ h_ => ⟨trivial, h_⟩)) (Kd.R_mono (Kd.R_lower hR2' HW5.out.size) (fun _ h_ => ⟨trivial, h_⟩))); have hk60 : w6.frozen? ⟨w3.heap.size, 0, none⟩ = false := blk_frozen HK6.out 0; have hk61 : w6.frozen? ⟨w3.heap.size, 1, none⟩ = false := blk_frozen HK6.out 1; have hk62 : w6.frozen? ⟨w3.heap.size, 2, none⟩ = false := blk_frozen HK6.out 2; have hc60 : w6.cell? ⟨w3.heap.size, 0, none⟩ = some (.int .i64 R) := (blk_cell HK6.out 0).trans rfl; have hc61 : w6.cell? ⟨w3.heap.size, 1, none⟩ = some (.slice A1 s.row.length c1) := (blk_cell HK6.out 1).trans rfl; have hc62 : w6.cell? ⟨w3.heap.size, 2, none⟩ = some (.slice A2 s.row.length c2) := (blk_cell HK6.out 2).trans rfl; have hl6 : w3.heap.size < w6.heap.size := blk_lt HK6.out; have h86 : w6.cell? ⟨wr.heap.size, 1, none⟩ = some (.int .i64 x.f1) := (blk_cell HX6.out 1).trans rfl; have h862 : w6.cell? ⟨wr.heap.size, 2, none⟩ = some (.int .i64 x.f2) := (blk_cell HX6.out 2).trans rfl; have h863 : w6.cell? ⟨wr.heap.size, 3, none⟩ = some (.int .i64 x.f3) := (blk_cell HX6.out 3).trans rfl; have hl86 : wr.heap.size < w6.heap.size := blk_lt HX6.out; have hn86 : w3.heap.size ≠ wr.heap.size := fun e => (by have h_ := HK6.out; rw [e, HX6.out] at h_; injection h_ with h_; injection h_ with _ h_; cases h_); have HX9 := Aside0.mk (HP.out.2.2.2 _ _ _ HX6.out (by decide)); clear hR1' hR2' hb6)
            | (go_at_call 17; refine (queue_Queue_Remove.calls g s x.f1 wasp s' w _ HP.out.2.1 HP.out.2.2.1 HQ.out).mono ?_; rintro e w7 ⟨rfl, hi7, hb7, hk7⟩))
          go_meet
          case rel => exact ⟨s', by first | rfl | simp, HV, ⟨hi7⟩, ⟨hb7⟩, ⟨HP.out.1.keep hk7⟩, ⟨Ko.blkc hk7 HX9.out (by decide)⟩⟩
        · as_aux_lemma =>
          obtain ⟨l, s', hf, hq, hv, hll⟩ := step_expire HIN.out x.f2 x.f3
          have HF := Aside0.mk hf
          have HQ := Aside0.mk hq
          have HV := Aside0.mk hv
          clear hf hq hv
          go_wp2_with (first
            | (go_at_call 25; refine (expire_c HC1.out.2.2 HC1.out.2.1 HC2.out.2.2 HC2.out.2.1 HF.out).mono ?_; rintro e w6 ⟨v1', v2', v3', rfl, hR1', hR2', hR3', hb6⟩; have HI6 := Aside0.mk (HI5.out.below hb6); have HX6 := Aside0.mk ((hb6.block _ (blk_lt HX8.out)).trans HX8.out); have HK6 := Aside0.mk ((hb6.block _ (blk_lt HBK.out)).trans HBK.out); have HW6 := Aside0.mk (HW5.out.trans (hb6.mono HW5.out.size)); obtain ⟨A1', d1', rfl⟩ := slice_ids hR1'; obtain ⟨A2', d2', rfl⟩ := slice_ats hR2'; have HP := Aside0.mk (ref_put (P := fun _ => True) (Q := fun _ => True) (R := R) (row' := s'.row) HI6.out HW6.out HK6.out HBWW.out rfl (Kd.R_mono (Kd.R_lower hR1' HW5.out.size) (fun _ h_ => ⟨trivial, h_.1⟩)) (Kd.R_mono (Kd.R_lower hR2' HW5.out.size) (fun _ h_ => ⟨trivial, h_.1⟩))); have hk60 : w6.frozen? ⟨w3.heap.size, 0, none⟩ = false := blk_frozen HK6.out 0; have hk61 : w6.frozen? ⟨w3.heap.size, 1, none⟩ = false := blk_frozen HK6.out 1; have hk62 : w6.frozen? ⟨w3.heap.size, 2, none⟩ = false := blk_frozen HK6.out 2; have hc60 : w6.cell? ⟨w3.heap.size, 0, none⟩ = some (.int .i64 R) := (blk_cell HK6.out 0).trans rfl; have hc61 : w6.cell? ⟨w3.heap.size, 1, none⟩ = some (.slice A1 s.row.length c1) := (blk_cell HK6.out 1).trans rfl; have hc62 : w6.cell? ⟨w3.heap.size, 2, none⟩ = some (.slice A2 s.row.length c2) := (blk_cell HK6.out 2).trans rfl; have hl6 : w3.heap.size < w6.heap.size := blk_lt HK6.out; have h86 : w6.cell? ⟨wr.heap.size, 1, none⟩ = some (.int .i64 x.f1) := (blk_cell HX6.out 1).trans rfl; have h862 : w6.cell? ⟨wr.heap.size, 2, none⟩ = some (.int .i64 x.f2) := (blk_cell HX6.out 2).trans rfl; have h863 : w6.cell? ⟨wr.heap.size, 3, none⟩ = some (.int .i64 x.f3) := (blk_cell HX6.out 3).trans rfl; have hl86 : wr.heap.size < w6.heap.size := blk_lt HX6.out; have hn86 : w3.heap.size ≠ wr.heap.size := fun e => (by have h_ := HK6.out; rw [e, HX6.out] at h_; injection h_ with h_; injection h_ with _ h_; cases h_); have HX9 := Aside0.mk (HP.out.2.2.2 _ _ _ HX6.out (by decide)); obtain ⟨A3', d3', rfl⟩ := Kd.R_slice hR3'; have HR39 := Aside0.mk (row_put (R := R) (v1 := .slice A1' s'.row.length d1') (v2 := .slice A2' s'.row.length d2') HK6.out hR3'); clear hR1' hR2' hR3' hb6)
            | (go_at_call 20; refine (queue_Queue_Expire.calls g s x.f2 x.f3 l s' w _ HP.out.2.1 HP.out.2.2.1 HQ.out).mono ?_; rintro e w7 ⟨v7, rfl, hR7, hi7, hb7, hk7⟩; obtain ⟨A7, d7, rfl⟩ := Kd.R_slice hR7; have HR7 := Aside0.mk (Kd.R_reads' hR7); have HR37 := Aside0.mk (Kd.R_reads' (R_keptH (Kd.R_mono HR39.out (fun _ _ => trivial)) hk7)); have HI7 := Aside0.mk hi7; have HB7 := Aside0.mk hb7; have HRF7 := Aside0.mk (HP.out.1.keep hk7); have HX7 := Aside0.mk (Ko.blkc hk7 HX9.out (by decide)); clear hR7 hi7 hb7 hk7)
            | (go_at_call 18; refine (hostlerref01_Same.calls 40 A7 d7 l A3' d3' l true w7 HR7.out.2.2 HR7.out.2.1 HR37.out.2.2 HR37.out.2.1 (same_f l 40 (by omega) (by omega))).mono ?_; rintro e w8 ⟨rfl, hb8⟩; have HB8 := Aside0.mk (Drawn0.below hb8); clear hb8))
          go_meet
          case rel => exact ⟨s', by first | rfl | simp, HV, ⟨HI7.out.below HB8.out⟩, ⟨HB7.out.trans (HB8.out.mono HB7.out.size)⟩, ⟨HRF7.out.below HB8.out⟩, ⟨(HB8.out.block _ (blk_lt HX7.out)).trans HX7.out⟩⟩
      case rest =>
        obtain ⟨s', rfl, HIN', HI, HB, HREF, HX⟩ := hcut
        clear HIN HI5 HW5 HRF5 HX8 h81 h82 h83
        obtain ⟨A1, A2, c1, c2, hbk, hbw, hR1, hR2, hdj⟩ := HREF.out
        have HC1 := Aside0.mk (Kd.R_reads' hR1)
        have HC2 := Aside0.mk (Kd.R_reads' hR2)
        have HBK0 := Aside0.mk hbk
        have hq0 : wc.cell? ⟨w3.heap.size, 0, none⟩ = some (.int .i64 R) := (blk_cell hbk 0).trans rfl
        have hq1 : wc.cell? ⟨w3.heap.size, 1, none⟩ = some (.slice A1 s'.row.length c1) := (blk_cell hbk 1).trans rfl
        have hq2 : wc.cell? ⟨w3.heap.size, 2, none⟩ = some (.slice A2 s'.row.length c2) := (blk_cell hbk 2).trans rfl
        have hq8 : wc.cell? ⟨wr.heap.size, 1, none⟩ = some (.int .i64 x.f1) := (blk_cell HX.out 1).trans rfl
        have hx8l : wr.heap.size < wc.heap.size := blk_lt HX.out
        have hx6l : w3.heap.size < wc.heap.size := blk_lt hbk
        have hle := HIN'.out.le
        have h16 := HIN'.out.r16
        have hroom := HIN'.out.room
        have hl16 : s'.row.length ≤ 16 := by omega
        have hpb := placeOf_bd s'.row x.f1 0
        have hw1 : wrap64 (R - (s'.row.length : Int)) = (s'.room : Int) - (s'.row.length : Int) := by rw [hroom]; unfold wrap64; omega
        have hw2 : IntKind.i64.wrap (R - (s'.row.length : Int)) = (s'.room : Int) - (s'.row.length : Int) := by rw [i64_w]; exact hw1
        have HPL := Aside0.mk (place_c (W := wc) (R := R) (id := x.f1) HC1.out.2.2 HC1.out.2.1 HC2.out.2.2 HC2.out.2.1 hl16)
        have HPP := Aside0.mk hpb
        clear hbk hR1 hR2 hdj hroom
        obtain ⟨pk, hpk⟩ : ∃ pk, pk = placeOf s'.row x.f1 0 := ⟨_, rfl⟩
        have HPK : Aside0 (placeOf s'.row x.f1 0 = pk) := ⟨hpk.symm⟩
        rw [HPK.out] at HPL
        clear hpk hpb
        go_upto_region 32 with (first
          | (go_at_call 26; refine HPL.out.mono ?_; rintro e wm ⟨rfl, hbm⟩; have HBM := Aside0.mk hbm; have h8m : wm.cell? ⟨wr.heap.size, 1, none⟩ = some (.int .i64 x.f1) := (hbm.cell (p := ⟨wr.heap.size, 1, none⟩) hx8l).trans hq8; clear hbm)
          | (go_at_call 27; obtain ⟨tv, hc_, htv⟩ := since_any (HI.out.below HBM.out) x.f1; rw [HPK.out] at hc_ htv; refine hc_.mono ?_; rintro e wn ⟨rfl, hbn⟩; have HBN := Aside0.mk (below_step HBM.out hbn); have HTV := Aside0.mk htv; clear hbn hc_ htv)
          | (go_at_call 28; obtain ⟨fst, hc_, hfst⟩ := peek_any (HI.out.below HBN.out); refine hc_.mono ?_; rintro e wp ⟨rfl, rfl⟩; have HFST := Aside0.mk hfst; clear hc_ hfst))
        have HIP := Aside0.mk (HI.out.below HBN.out)
        have HWP := Aside0.mk (HB.out.trans (HBN.out.mono HB.out.size))
        have HRP := Aside0.mk (HREF.out.below HBN.out)
        have hp0 : wn.cell? ⟨w3.heap.size, 0, none⟩ = some (.int .i64 R) := (HBN.out.cell (p := ⟨w3.heap.size, 0, none⟩) hx6l).trans hq0
        have hp1 : wn.cell? ⟨w3.heap.size, 1, none⟩ = some (.slice A1 s'.row.length c1) := (HBN.out.cell (p := ⟨w3.heap.size, 1, none⟩) hx6l).trans hq1
        have hp2 : wn.cell? ⟨w3.heap.size, 2, none⟩ = some (.slice A2 s'.row.length c2) := (HBN.out.cell (p := ⟨w3.heap.size, 2, none⟩) hx6l).trans hq2
        have hp8 : wn.cell? ⟨wr.heap.size, 1, none⟩ = some (.int .i64 x.f1) := (HBN.out.cell (p := ⟨wr.heap.size, 1, none⟩) hx8l).trans hq8
        have hl6 : w3.heap.size < wn.heap.size := Nat.lt_of_lt_of_le hx6l HBN.out.size
        have hl8 : wr.heap.size < wn.heap.size := Nat.lt_of_lt_of_le hx8l HBN.out.size
        replace HC1 := Aside0.mk (And.intro HC1.out.1 (And.intro HC1.out.2.1 (Kd.C_below HC1.out.2.2 HBN.out)))
        replace HC2 := Aside0.mk (And.intro HC2.out.1 (And.intro HC2.out.2.1 (Kd.C_below HC2.out.2.2 HBN.out)))
        obtain ⟨wp, rfl⟩ : ∃ wp : World, wp = wn := ⟨_, rfl⟩
        clear hq0 hq1 hq2 hq8 hx6l hx8l HX HBK0 HI HB HREF HPL hbw HBN HBM h8m
        by_cases his : 0 ≤ pk
        · as_aux_lemma =>
          have hisb : decide (0 ≤ pk) = true := decide_eq_true his
          obtain ⟨P, rfl, hPl, htv⟩ := HTV.out his
          obtain ⟨ad2, hA2, hpt⟩ := Kd.at_int HC2.out.2.2 (P : Int) (by omega) (by simp; omega)
          subst hA2
          rw [Int.toNat_natCast, ← htv] at hpt
          have hPl2 : (P : Int) < (s'.row.length : Int) := by omega
          have h0P : (0 : Int) ≤ (P : Int) := by omega
          clear htv
          refine start_ (n := 55) (S := fun w' => w'.cell? ⟨w3.heap.size, 0, none⟩ = some (.int .i64 R) ∧ w'.cell? ⟨w3.heap.size, 1, none⟩ = some (.slice A1 s'.row.length c1) ∧ w'.cell? ⟨w3.heap.size, 2, none⟩ = some (.slice (some ad2) s'.row.length c2) ∧ w'.cell? ⟨wr.heap.size, 1, none⟩ = some (.int .i64 x.f1) ∧ w'.cell? (ad2.add P) = some (.int .i64 tv)) (ds := []) #[false, false, false, false, false, false, false, false, false, false, false, false, false, false, false, false, false, false, false, false, false, false, false, false, false, false, false, false, false, false, false, false, false, false, false, false, false, false, false, false, false, false, false, false, false, false, false, false, false, false, false, false, false, false, false] (by kernel_rfl) rfl rfl ⟨hp0, hp1, hp2, hp8, hpt⟩ (fun hHeld => ?_); refine with_tab plays.tab32 (fun HT_ => ?_)
          refine pure_ (i := 0) (N := some 141) (v := ?_) (a' := ?_) #[true, false, false, false, false, false, false, false, false, false, false, false, false, false, false, false, false, false, false, false, false, false, false, false, false, false, false, false, false, false, false, false, false, false, false, false, false, false, false, false, false, false, false, false, false, false, false, false, false, false, false, false, false, false, false] rfl rfl (any_of HT_.out (by kernel_rfl)) (fun _ _ _ h => h) (Or.inl ⟨by rfl, ?_⟩) ?_ ?_
          rotate_left
          · intro w'
            go_simp
            with_reducible rfl
          rotate_left
          · simp only [Act.put, List.setIfInBounds_toArray, List.set_cons_zero, List.set_cons_succ, i64_w, i32_w]
            rfl
          refine pure_ (i := 1) (N := some 142) (v := ?_) (a' := ?_) #[true, true, false, false, false, false, false, false, false, false, false, false, false, false, false, false, false, false, false, false, false, false, false, false, false, false, false, false, false, false, false, false, false, false, false, false, false, false, false, false, false, false, false, false, false, false, false, false, false, false, false, false, false, false, false] rfl rfl (any_of HT_.out (by kernel_rfl)) (fun _ _ _ h => h) (Or.inl ⟨by rfl, ?_⟩) ?_ ?_
          rotate_left
          · intro w'
            go_simp
            with_reducible rfl
          rotate_left
          · simp only [Act.put, List.setIfInBounds_toArray, List.set_cons_zero, List.set_cons_succ, i64_w, i32_w]
            rfl
          refine pure_ (i := 2) (N := some 143) (v := ?_) (a' := ?_) #[true, true, true, false, false, false, false, false, false, false, false, false, false, false, false, false, false, false, false, false, false, false, false, false, false, false, false, false, false, false, false, false, false, false, false, false, false, false, false, false, false, false, false, false, false, false, false, false, false, false, false, false, false, false, false] rfl rfl (any_of HT_.out (by kernel_rfl)) (fun _ _ _ h => h) (Or.inl ⟨by rfl, ?_⟩) ?_ ?_
          rotate_left
          · intro w'
            go_simp
            with_reducible rfl
          rotate_left
          · simp only [Act.put, List.setIfInBounds_toArray, List.set_cons_zero, List.set_cons_succ, i64_w, i32_w]
            rfl
          refine pure_ (i := 3) (N := some 144) (v := ?_) (a' := ?_) #[true, true, true, true, false, false, false, false, false, false, false, false, false, false, false, false, false, false, false, false, false, false, false, false, false, false, false, false, false, false, false, false, false, false, false, false, false, false, false, false, false, false, false, false, false, false, false, false, false, false, false, false, false, false, false] rfl rfl (any_of HT_.out (by kernel_rfl)) (fun _ _ _ h => h) (Or.inl ⟨by rfl, ?_⟩) ?_ ?_
          rotate_left
          · intro w'
            go_simp
            with_reducible rfl
          rotate_left
          · simp only [Act.put, List.setIfInBounds_toArray, List.set_cons_zero, List.set_cons_succ, i64_w, i32_w]
            rfl
          refine pure_ (i := 5) (N := some 146) (v := ?_) (a' := ?_) #[true, true, true, true, false, true, false, false, false, false, false, false, false, false, false, false, false, false, false, false, false, false, false, false, false, false, false, false, false, false, false, false, false, false, false, false, false, false, false, false, false, false, false, false, false, false, false, false, false, false, false, false, false, false, false] rfl rfl (any_of HT_.out (by kernel_rfl)) (fun _ _ _ h => h) (Or.inl ⟨by rfl, ?_⟩) ?_ ?_
          rotate_left
          · intro w'
            go_simp
            with_reducible rfl
          rotate_left
          · simp only [Act.put, List.setIfInBounds_toArray, List.set_cons_zero, List.set_cons_succ, i64_w, i32_w]
            rfl
          refine take_ (i := 6) (N := some 147) (v := ?_) (a' := ?_) #[true, true, true, true, false, true, true, false, false, false, false, false, false, false, false, false, false, false, false, false, false, false, false, false, false, false, false, false, false, false, false, false, false, false, false, false, false, false, false, false, false, false, false, false, false, false, false, false, false, false, false, false, false, false, false] rfl rfl (take_of HT_.out (by kernel_rfl)) (fun _ _ _ h => h) (Or.inl ⟨by rfl, ?_⟩) hHeld ?_ ?_
          rotate_left
          · intro w' hS_
            obtain ⟨s0, s1, s2, s3, s4⟩ := hS_
            go_simp
            with_reducible rfl
          rotate_left
          · simp only [Act.put, List.setIfInBounds_toArray, List.set_cons_zero, List.set_cons_succ, i64_w, i32_w]
            rfl
          refine pure_ (i := 7) (N := some 148) (v := ?_) (a' := ?_) #[true, true, true, true, false, true, true, true, false, false, false, false, false, false, false, false, false, false, false, false, false, false, false, false, false, false, false, false, false, false, false, false, false, false, false, false, false, false, false, false, false, false, false, false, false, false, false, false, false, false, false, false, false, false, false] rfl rfl (any_of HT_.out (by kernel_rfl)) (fun _ _ _ h => h) (Or.inl ⟨by rfl, ?_⟩) ?_ ?_
          rotate_left
          · intro w'
            go_simp
            with_reducible rfl
          rotate_left
          · simp only [Act.put, List.setIfInBounds_toArray, List.set_cons_zero, List.set_cons_succ, i64_w, i32_w]
            rfl
          refine one_ (i := 4) (N := some 145) #[true, true, true, true, true, true, true, true, false, false, false, false, false, false, false, false, false, false, false, false, false, false, false, false, false, false, false, false, false, false, false, false, false, false, false, false, false, false, false, false, false, false, false, false, false, false, false, false, false, false, false, false, false, false, false] rfl rfl (one_of HT_.out (by kernel_rfl)) (by decide) (fun K hK => ?_)
          refine goes_ Try.func13 (by kernel_rfl) rfl #[.pointer (some ⟨g, 0, none⟩)] (by rfl) rfl rfl (by (try simp only [List.map_toArray, List.map_cons, List.map_nil]); first | done | rfl) ?_
          refine (len_raw g s' w _ HIP.out.drew).mono ?_
          rintro e wa ⟨rfl, rfl⟩
          refine ⟨_, rfl, ?_⟩
          refine hK.out _ _ hHeld (fun hHeld => ?_)
          clear hK K
          refine norm_ (a' := ?_) ?_ ?_
          rotate_left
          · show Act.put _ (some 145) _ = _
            simp only [Act.put, List.setIfInBounds_toArray, List.set_cons_zero, List.set_cons_succ, i64_w, i32_w]
            rfl
          refine pure_ (i := 8) (N := some 149) (v := ?_) (a' := ?_) #[true, true, true, true, true, true, true, true, true, false, false, false, false, false, false, false, false, false, false, false, false, false, false, false, false, false, false, false, false, false, false, false, false, false, false, false, false, false, false, false, false, false, false, false, false, false, false, false, false, false, false, false, false, false, false] rfl rfl (any_of HT_.out (by kernel_rfl)) (fun _ _ _ h => h) (Or.inl ⟨by rfl, ?_⟩) ?_ ?_
          rotate_left
          · intro w'
            go_simp
            with_reducible rfl
          rotate_left
          · simp only [Act.put, List.setIfInBounds_toArray, List.set_cons_zero, List.set_cons_succ, i64_w, i32_w]
            rfl
          refine pure_ (i := 9) (N := some 150) (v := ?_) (a' := ?_) #[true, true, true, true, true, true, true, true, true, true, false, false, false, false, false, false, false, false, false, false, false, false, false, false, false, false, false, false, false, false, false, false, false, false, false, false, false, false, false, false, false, false, false, false, false, false, false, false, false, false, false, false, false, false, false] rfl rfl (any_of HT_.out (by kernel_rfl)) (fun _ _ _ h => h) (Or.inl ⟨by rfl, ?_⟩) ?_ ?_
          rotate_left
          · intro w'
            go_simp
            with_reducible rfl
          rotate_left
          · simp only [Act.put, List.setIfInBounds_toArray, List.set_cons_zero, List.set_cons_succ, i64_w, i32_w]
            rfl
          refine pure_ (i := 10) (N := some 151) (v := ?_) (a' := ?_) #[true, true, true, true, true, true, true, true, true, true, true, false, false, false, false, false, false, false, false, false, false, false, false, false, false, false, false, false, false, false, false, false, false, false, false, false, false, false, false, false, false, false, false, false, false, false, false, false, false, false, false, false, false, false, false] rfl rfl (any_of HT_.out (by kernel_rfl)) (fun _ _ _ h => h) (Or.inl ⟨by rfl, ?_⟩) ?_ ?_
          rotate_left
          · intro w'
            go_simp
            with_reducible rfl
          rotate_left
          · simp only [Act.put, List.setIfInBounds_toArray, List.set_cons_zero, List.set_cons_succ, i64_w, i32_w]
            rfl
          refine pure_ (i := 11) (N := some 152) (v := ?_) (a' := ?_) #[true, true, true, true, true, true, true, true, true, true, true, true, false, false, false, false, false, false, false, false, false, false, false, false, false, false, false, false, false, false, false, false, false, false, false, false, false, false, false, false, false, false, false, false, false, false, false, false, false, false, false, false, false, false, false] rfl rfl (any_of HT_.out (by kernel_rfl)) (fun _ _ _ h => h) (Or.inl ⟨by rfl, ?_⟩) ?_ ?_
          rotate_left
          · intro w'
            go_simp
            with_reducible rfl
          rotate_left
          · simp only [Act.put, List.setIfInBounds_toArray, List.set_cons_zero, List.set_cons_succ, i64_w, i32_w]
            rfl
          refine pure_ (i := 13) (N := some 154) (v := ?_) (a' := ?_) #[true, true, true, true, true, true, true, true, true, true, true, true, false, true, false, false, false, false, false, false, false, false, false, false, false, false, false, false, false, false, false, false, false, false, false, false, false, false, false, false, false, false, false, false, false, false, false, false, false, false, false, false, false, false, false] rfl rfl (any_of HT_.out (by kernel_rfl)) (fun _ _ _ h => h) (Or.inl ⟨by rfl, ?_⟩) ?_ ?_
          rotate_left
          · intro w'
            go_simp
            with_reducible rfl
          rotate_left
          · simp only [Act.put, List.setIfInBounds_toArray, List.set_cons_zero, List.set_cons_succ, i64_w, i32_w]
            rfl
          refine pure_ (i := 15) (N := some 156) (v := ?_) (a' := ?_) #[true, true, true, true, true, true, true, true, true, true, true, true, false, true, false, true, false, false, false, false, false, false, false, false, false, false, false, false, false, false, false, false, false, false, false, false, false, false, false, false, false, false, false, false, false, false, false, false, false, false, false, false, false, false, false] rfl rfl (any_of HT_.out (by kernel_rfl)) (fun _ _ _ h => h) (Or.inl ⟨by rfl, ?_⟩) ?_ ?_
          rotate_left
          · intro w'
            go_simp
            with_reducible rfl
          rotate_left
          · simp only [Act.put, List.setIfInBounds_toArray, List.set_cons_zero, List.set_cons_succ, i64_w, i32_w]
            rfl
          refine take_ (i := 14) (N := some 155) (v := ?_) (a' := ?_) #[true, true, true, true, true, true, true, true, true, true, true, true, false, true, true, true, false, false, false, false, false, false, false, false, false, false, false, false, false, false, false, false, false, false, false, false, false, false, false, false, false, false, false, false, false, false, false, false, false, false, false, false, false, false, false] rfl rfl (take_of HT_.out (by kernel_rfl)) (fun _ _ _ h => h) (Or.inl ⟨by rfl, ?_⟩) hHeld ?_ ?_
          rotate_left
          · intro w' hS_
            obtain ⟨s0, s1, s2, s3, s4⟩ := hS_
            go_simp
            with_reducible rfl
          rotate_left
          · simp only [Act.put, List.setIfInBounds_toArray, List.set_cons_zero, List.set_cons_succ, i64_w, i32_w]
            rfl
          refine take_ (i := 16) (N := some 157) (v := ?_) (a' := ?_) #[true, true, true, true, true, true, true, true, true, true, true, true, false, true, true, true, true, false, false, false, false, false, false, false, false, false, false, false, false, false, false, false, false, false, false, false, false, false, false, false, false, false, false, false, false, false, false, false, false, false, false, false, false, false, false] rfl rfl (take_of HT_.out (by kernel_rfl)) (fun _ _ _ h => h) (Or.inl ⟨by rfl, ?_⟩) hHeld ?_ ?_
          rotate_left
          · intro w' hS_
            obtain ⟨s0, s1, s2, s3, s4⟩ := hS_
            go_simp
            with_reducible rfl
          rotate_left
          · simp only [Act.put, List.setIfInBounds_toArray, List.set_cons_zero, List.set_cons_succ, i64_w, i32_w]
            rfl
          refine pure_ (i := 17) (N := some 158) (v := ?_) (a' := ?_) #[true, true, true, true, true, true, true, true, true, true, true, true, false, true, true, true, true, true, false, false, false, false, false, false, false, false, false, false, false, false, false, false, false, false, false, false, false, false, false, false, false, false, false, false, false, false, false, false, false, false, false, false, false, false, false] rfl rfl (any_of HT_.out (by kernel_rfl)) (fun _ _ _ h => h) (Or.inl ⟨by rfl, ?_⟩) ?_ ?_
          rotate_left
          · intro w'
            go_simp
            with_reducible rfl
          rotate_left
          · simp only [Act.put, List.setIfInBounds_toArray, List.set_cons_zero, List.set_cons_succ, i64_w, i32_w]
            rfl
          refine pure_ (i := 18) (N := some 159) (v := ?_) (a' := ?_) #[true, true, true, true, true, true, true, true, true, true, true, true, false, true, true, true, true, true, true, false, false, false, false, false, false, false, false, false, false, false, false, false, false, false, false, false, false, false, false, false, false, false, false, false, false, false, false, false, false, false, false, false, false, false, false] rfl rfl (any_of HT_.out (by kernel_rfl)) (fun _ _ _ h => h) (Or.inl ⟨by rfl, ?_⟩) ?_ ?_
          rotate_left
          · intro w'
            go_simp
            with_reducible rfl
          rotate_left
          · simp only [Act.put, List.setIfInBounds_toArray, List.set_cons_zero, List.set_cons_succ, i64_w, i32_w]
            rfl
          refine one_ (i := 12) (N := some 153) #[true, true, true, true, true, true, true, true, true, true, true, true, true, true, true, true, true, true, true, false, false, false, false, false, false, false, false, false, false, false, false, false, false, false, false, false, false, false, false, false, false, false, false, false, false, false, false, false, false, false, false, false, false, false, false] rfl rfl (one_of HT_.out (by kernel_rfl)) (by decide) (fun K hK => ?_)
          refine goes_ Try.func19 (by kernel_rfl) rfl #[.pointer (some ⟨g, 0, none⟩)] (by rfl) rfl rfl (by (try simp only [List.map_toArray, List.map_cons, List.map_nil]); first | done | rfl) ?_
          refine (room_raw g s' w _ HIP.out.drew).mono ?_
          rintro e wb ⟨rfl, rfl⟩
          refine ⟨_, rfl, ?_⟩
          refine hK.out _ _ hHeld (fun hHeld => ?_)
          clear hK K
          refine norm_ (a' := ?_) ?_ ?_
          rotate_left
          · show Act.put _ (some 153) _ = _
            simp only [Act.put, List.setIfInBounds_toArray, List.set_cons_zero, List.set_cons_succ, i64_w, i32_w]
            rfl
          refine pure_ (i := 19) (N := some 160) (v := ?_) (a' := ?_) #[true, true, true, true, true, true, true, true, true, true, true, true, true, true, true, true, true, true, true, true, false, false, false, false, false, false, false, false, false, false, false, false, false, false, false, false, false, false, false, false, false, false, false, false, false, false, false, false, false, false, false, false, false, false, false] rfl rfl (any_of HT_.out (by kernel_rfl)) (fun _ _ _ h => h) (Or.inl ⟨by rfl, ?_⟩) ?_ ?_
          rotate_left
          · intro w'
            go_simp
            with_reducible rfl
          rotate_left
          · simp only [Act.put, List.setIfInBounds_toArray, List.set_cons_zero, List.set_cons_succ, i64_w, i32_w]
            rfl
          refine pure_ (i := 20) (N := some 161) (v := ?_) (a' := ?_) #[true, true, true, true, true, true, true, true, true, true, true, true, true, true, true, true, true, true, true, true, true, false, false, false, false, false, false, false, false, false, false, false, false, false, false, false, false, false, false, false, false, false, false, false, false, false, false, false, false, false, false, false, false, false, false] rfl rfl (any_of HT_.out (by kernel_rfl)) (fun _ _ _ h => h) (Or.inl ⟨by rfl, ?_⟩) ?_ ?_
          rotate_left
          · intro w'
            go_simp
            with_reducible rfl
          rotate_left
          · simp only [Act.put, List.setIfInBounds_toArray, List.set_cons_zero, List.set_cons_succ, i64_w, i32_w]
            rfl
          refine pure_ (i := 21) (N := some 162) (v := ?_) (a' := ?_) #[true, true, true, true, true, true, true, true, true, true, true, true, true, true, true, true, true, true, true, true, true, true, false, false, false, false, false, false, false, false, false, false, false, false, false, false, false, false, false, false, false, false, false, false, false, false, false, false, false, false, false, false, false, false, false] rfl rfl (any_of HT_.out (by kernel_rfl)) (fun _ _ _ h => h) (Or.inl ⟨by rfl, ?_⟩) ?_ ?_
          rotate_left
          · intro w'
            go_simp
            with_reducible rfl
          rotate_left
          · simp only [Act.put, List.setIfInBounds_toArray, List.set_cons_zero, List.set_cons_succ, i64_w, i32_w]
            rfl
          refine pure_ (i := 22) (N := some 163) (v := ?_) (a' := ?_) #[true, true, true, true, true, true, true, true, true, true, true, true, true, true, true, true, true, true, true, true, true, true, true, false, false, false, false, false, false, false, false, false, false, false, false, false, false, false, false, false, false, false, false, false, false, false, false, false, false, false, false, false, false, false, false] rfl rfl (any_of HT_.out (by kernel_rfl)) (fun _ _ _ h => h) (Or.inl ⟨by rfl, ?_⟩) ?_ ?_
          rotate_left
          · intro w'
            go_simp
            with_reducible rfl
          rotate_left
          · simp only [Act.put, List.setIfInBounds_toArray, List.set_cons_zero, List.set_cons_succ, i64_w, i32_w]
            rfl
          refine pure_ (i := 24) (N := some 165) (v := ?_) (a' := ?_) #[true, true, true, true, true, true, true, true, true, true, true, true, true, true, true, true, true, true, true, true, true, true, true, false, true, false, false, false, false, false, false, false, false, false, false, false, false, false, false, false, false, false, false, false, false, false, false, false, false, false, false, false, false, false, false] rfl rfl (any_of HT_.out (by kernel_rfl)) (fun _ _ _ h => h) (Or.inl ⟨by rfl, ?_⟩) ?_ ?_
          rotate_left
          · intro w'
            go_simp
            with_reducible rfl
          rotate_left
          · simp only [Act.put, List.setIfInBounds_toArray, List.set_cons_zero, List.set_cons_succ, i64_w, i32_w]
            rfl
          refine take_ (i := 25) (N := some 166) (v := ?_) (a' := ?_) #[true, true, true, true, true, true, true, true, true, true, true, true, true, true, true, true, true, true, true, true, true, true, true, false, true, true, false, false, false, false, false, false, false, false, false, false, false, false, false, false, false, false, false, false, false, false, false, false, false, false, false, false, false, false, false] rfl rfl (take_of HT_.out (by kernel_rfl)) (fun _ _ _ h => h) (Or.inl ⟨by rfl, ?_⟩) hHeld ?_ ?_
          rotate_left
          · intro w' hS_
            obtain ⟨s0, s1, s2, s3, s4⟩ := hS_
            go_simp
            with_reducible rfl
          rotate_left
          · simp only [Act.put, List.setIfInBounds_toArray, List.set_cons_zero, List.set_cons_succ, i64_w, i32_w]
            rfl
          refine one_ (i := 23) (N := some 164) #[true, true, true, true, true, true, true, true, true, true, true, true, true, true, true, true, true, true, true, true, true, true, true, true, true, true, false, false, false, false, false, false, false, false, false, false, false, false, false, false, false, false, false, false, false, false, false, false, false, false, false, false, false, false, false] rfl rfl (one_of HT_.out (by kernel_rfl)) (by decide) (fun K hK => ?_)
          refine goes_ Try.func15 (by kernel_rfl) rfl #[.pointer (some ⟨g, 0, none⟩)] (by rfl) rfl rfl (by (try simp only [List.map_toArray, List.map_cons, List.map_nil]); first | done | rfl) ?_
          refine (ids_raw g s' w _ HIP.out.drew).mono ?_
          rintro e wi ⟨vi, rfl, hRi, hbi⟩
          obtain ⟨Ai, di, rfl⟩ := slice_ids hRi
          have HRI := Aside0.mk (Kd.R_reads' hRi)
          have HBI := Aside0.mk hbi
          clear hRi hbi
          have hswi : (fun w' => w'.cell? ⟨w3.heap.size, 0, none⟩ = some (.int .i64 R) ∧ w'.cell? ⟨w3.heap.size, 1, none⟩ = some (.slice A1 s'.row.length c1) ∧ w'.cell? ⟨w3.heap.size, 2, none⟩ = some (.slice (some ad2) s'.row.length c2) ∧ w'.cell? ⟨wr.heap.size, 1, none⟩ = some (.int .i64 x.f1) ∧ w'.cell? (ad2.add P) = some (.int .i64 tv)) wi := by
            have h_ := HBI.out
            exact ⟨(h_.cell (p := ⟨w3.heap.size, 0, none⟩) hl6).trans hp0, (h_.cell (p := ⟨w3.heap.size, 1, none⟩) hl6).trans hp1, (h_.cell (p := ⟨w3.heap.size, 2, none⟩) hl6).trans hp2, (h_.cell (p := ⟨wr.heap.size, 1, none⟩) hl8).trans hp8, (h_.cell (World.block_lt_of_cell? wp _ hpt)).trans hpt⟩
          refine ⟨_, rfl, ?_⟩
          refine hK.out _ _ hswi (fun hHeld => ?_)
          clear hK K
          refine norm_ (a' := ?_) ?_ ?_
          rotate_left
          · show Act.put _ (some 164) _ = _
            simp only [Act.put, List.setIfInBounds_toArray, List.set_cons_zero, List.set_cons_succ, i64_w, i32_w]
            rfl
          refine one_ (i := 26) (N := some 167) #[true, true, true, true, true, true, true, true, true, true, true, true, true, true, true, true, true, true, true, true, true, true, true, true, true, true, true, false, false, false, false, false, false, false, false, false, false, false, false, false, false, false, false, false, false, false, false, false, false, false, false, false, false, false, false] rfl rfl (one_of HT_.out (by kernel_rfl)) (by decide) (fun K hK => ?_)
          refine goes_ Try.func18 (by kernel_rfl) rfl #[.slice Ai s'.row.length di, .slice A1 s'.row.length c1] (by rfl) rfl rfl (by (try simp only [List.map_toArray, List.map_cons, List.map_nil]); first | done | rfl) ?_
          refine (same_ids HRI.out.2.2 HRI.out.2.1 (Kd.C_below (Kd.C_drew HC1.out.2.2) HBI.out) HC1.out.2.1 hl16).mono ?_
          rintro e wj ⟨rfl, hbj⟩
          have HBJ := Aside0.mk (below_step HBI.out (Drawn0.below hbj))
          clear hbj
          have hswj : (fun w' => w'.cell? ⟨w3.heap.size, 0, none⟩ = some (.int .i64 R) ∧ w'.cell? ⟨w3.heap.size, 1, none⟩ = some (.slice A1 s'.row.length c1) ∧ w'.cell? ⟨w3.heap.size, 2, none⟩ = some (.slice (some ad2) s'.row.length c2) ∧ w'.cell? ⟨wr.heap.size, 1, none⟩ = some (.int .i64 x.f1) ∧ w'.cell? (ad2.add P) = some (.int .i64 tv)) wj := by
            have h_ := HBJ.out
            exact ⟨(h_.cell (p := ⟨w3.heap.size, 0, none⟩) hl6).trans hp0, (h_.cell (p := ⟨w3.heap.size, 1, none⟩) hl6).trans hp1, (h_.cell (p := ⟨w3.heap.size, 2, none⟩) hl6).trans hp2, (h_.cell (p := ⟨wr.heap.size, 1, none⟩) hl8).trans hp8, (h_.cell (World.block_lt_of_cell? wp _ hpt)).trans hpt⟩
          refine ⟨_, rfl, ?_⟩
          refine hK.out _ _ hswj (fun hHeld => ?_)
          clear hK K
          refine norm_ (a' := ?_) ?_ ?_
          rotate_left
          · show Act.put _ (some 167) _ = _
            simp only [Act.put, List.setIfInBounds_toArray, List.set_cons_zero, List.set_cons_succ, i64_w, i32_w]
            rfl
          refine pure_ (i := 27) (N := some 168) (v := ?_) (a' := ?_) #[true, true, true, true, true, true, true, true, true, true, true, true, true, true, true, true, true, true, true, true, true, true, true, true, true, true, true, true, false, false, false, false, false, false, false, false, false, false, false, false, false, false, false, false, false, false, false, false, false, false, false, false, false, false, false] rfl rfl (any_of HT_.out (by kernel_rfl)) (fun _ _ _ h => h) (Or.inl ⟨by rfl, ?_⟩) ?_ ?_
          rotate_left
          · intro w'
            go_simp
            with_reducible rfl
          rotate_left
          · simp only [Act.put, List.setIfInBounds_toArray, List.set_cons_zero, List.set_cons_succ, i64_w, i32_w]
            rfl
          refine pure_ (i := 28) (N := some 169) (v := ?_) (a' := ?_) #[true, true, true, true, true, true, true, true, true, true, true, true, true, true, true, true, true, true, true, true, true, true, true, true, true, true, true, true, true, false, false, false, false, false, false, false, false, false, false, false, false, false, false, false, false, false, false, false, false, false, false, false, false, false, false] rfl rfl (any_of HT_.out (by kernel_rfl)) (fun _ _ _ h => h) (Or.inl ⟨by rfl, ?_⟩) ?_ ?_
          rotate_left
          · intro w'
            go_simp
            with_reducible rfl
          rotate_left
          · simp only [Act.put, List.setIfInBounds_toArray, List.set_cons_zero, List.set_cons_succ, i64_w, i32_w]
            rfl
          refine pure_ (i := 29) (N := some 170) (v := ?_) (a' := ?_) #[true, true, true, true, true, true, true, true, true, true, true, true, true, true, true, true, true, true, true, true, true, true, true, true, true, true, true, true, true, true, false, false, false, false, false, false, false, false, false, false, false, false, false, false, false, false, false, false, false, false, false, false, false, false, false] rfl rfl (any_of HT_.out (by kernel_rfl)) (fun _ _ _ h => h) (Or.inl ⟨by rfl, ?_⟩) ?_ ?_
          rotate_left
          · intro w'
            go_simp
            with_reducible rfl
          rotate_left
          · simp only [Act.put, List.setIfInBounds_toArray, List.set_cons_zero, List.set_cons_succ, i64_w, i32_w]
            rfl
          refine pure_ (i := 30) (N := some 171) (v := ?_) (a' := ?_) #[true, true, true, true, true, true, true, true, true, true, true, true, true, true, true, true, true, true, true, true, true, true, true, true, true, true, true, true, true, true, true, false, false, false, false, false, false, false, false, false, false, false, false, false, false, false, false, false, false, false, false, false, false, false, false] rfl rfl (any_of HT_.out (by kernel_rfl)) (fun _ _ _ h => h) (Or.inl ⟨by rfl, ?_⟩) ?_ ?_
          rotate_left
          · intro w'
            go_simp
            with_reducible rfl
          rotate_left
          · simp only [Act.put, List.setIfInBounds_toArray, List.set_cons_zero, List.set_cons_succ, i64_w, i32_w]
            rfl
          refine pure_ (i := 31) (N := some 172) (v := ?_) (a' := ?_) #[true, true, true, true, true, true, true, true, true, true, true, true, true, true, true, true, true, true, true, true, true, true, true, true, true, true, true, true, true, true, true, true, false, false, false, false, false, false, false, false, false, false, false, false, false, false, false, false, false, false, false, false, false, false, false] rfl rfl (any_of HT_.out (by kernel_rfl)) (fun _ _ _ h => h) (Or.inl ⟨by rfl, ?_⟩) ?_ ?_
          rotate_left
          · intro w'
            go_simp
            with_reducible rfl
          rotate_left
          · simp only [Act.put, List.setIfInBounds_toArray, List.set_cons_zero, List.set_cons_succ, i64_w, i32_w]
            rfl
          refine pure_ (i := 34) (N := some 175) (v := ?_) (a' := ?_) #[true, true, true, true, true, true, true, true, true, true, true, true, true, true, true, true, true, true, true, true, true, true, true, true, true, true, true, true, true, true, true, true, false, false, true, false, false, false, false, false, false, false, false, false, false, false, false, false, false, false, false, false, false, false, false] rfl rfl (any_of HT_.out (by kernel_rfl)) (fun _ _ _ h => h) (Or.inl ⟨by rfl, ?_⟩) ?_ ?_
          rotate_left
          · intro w'
            go_simp
            with_reducible rfl
          rotate_left
          · simp only [Act.put, List.setIfInBounds_toArray, List.set_cons_zero, List.set_cons_succ, i64_w, i32_w]
            rfl
          refine take_ (i := 32) (N := some 173) (v := ?_) (a' := ?_) #[true, true, true, true, true, true, true, true, true, true, true, true, true, true, true, true, true, true, true, true, true, true, true, true, true, true, true, true, true, true, true, true, true, false, true, false, false, false, false, false, false, false, false, false, false, false, false, false, false, false, false, false, false, false, false] rfl rfl (take_of HT_.out (by kernel_rfl)) (fun _ _ _ h => h) (Or.inl ⟨by rfl, ?_⟩) hHeld ?_ ?_
          rotate_left
          · intro w' hS_
            obtain ⟨s0, s1, s2, s3, s4⟩ := hS_
            go_simp
            with_reducible rfl
          rotate_left
          · simp only [Act.put, List.setIfInBounds_toArray, List.set_cons_zero, List.set_cons_succ, i64_w, i32_w]
            rfl
          refine one_ (i := 33) (N := some 174) #[true, true, true, true, true, true, true, true, true, true, true, true, true, true, true, true, true, true, true, true, true, true, true, true, true, true, true, true, true, true, true, true, true, true, true, false, false, false, false, false, false, false, false, false, false, false, false, false, false, false, false, false, false, false, false] rfl rfl (one_of HT_.out (by kernel_rfl)) (by decide) (fun K hK => ?_)
          refine goes_ Try.func11 (by kernel_rfl) rfl #[.pointer (some ⟨g, 0, none⟩), .int .i64 x.f1] (by rfl) rfl rfl (by (try simp only [List.map_toArray, List.map_cons, List.map_nil]); first | done | rfl) ?_
          refine (place_raw g s' x.f1 w _ (HIP.out.drew.below HBJ.out)).mono ?_
          rintro e wk ⟨rfl, hbk_⟩
          have HBK := Aside0.mk (below_step HBJ.out hbk_)
          clear hbk_
          rw [HPK.out]
          have hswk : (fun w' => w'.cell? ⟨w3.heap.size, 0, none⟩ = some (.int .i64 R) ∧ w'.cell? ⟨w3.heap.size, 1, none⟩ = some (.slice A1 s'.row.length c1) ∧ w'.cell? ⟨w3.heap.size, 2, none⟩ = some (.slice (some ad2) s'.row.length c2) ∧ w'.cell? ⟨wr.heap.size, 1, none⟩ = some (.int .i64 x.f1) ∧ w'.cell? (ad2.add P) = some (.int .i64 tv)) wk := by
            have h_ := HBK.out
            exact ⟨(h_.cell (p := ⟨w3.heap.size, 0, none⟩) hl6).trans hp0, (h_.cell (p := ⟨w3.heap.size, 1, none⟩) hl6).trans hp1, (h_.cell (p := ⟨w3.heap.size, 2, none⟩) hl6).trans hp2, (h_.cell (p := ⟨wr.heap.size, 1, none⟩) hl8).trans hp8, (h_.cell (World.block_lt_of_cell? wp _ hpt)).trans hpt⟩
          refine ⟨_, rfl, ?_⟩
          refine hK.out _ _ hswk (fun hHeld => ?_)
          clear hK K
          refine norm_ (a' := ?_) ?_ ?_
          rotate_left
          · show Act.put _ (some 174) _ = _
            simp only [Act.put, List.setIfInBounds_toArray, List.set_cons_zero, List.set_cons_succ, i64_w, i32_w]
            rfl
          refine pure_ (i := 35) (N := some 176) (v := ?_) (a' := ?_) #[true, true, true, true, true, true, true, true, true, true, true, true, true, true, true, true, true, true, true, true, true, true, true, true, true, true, true, true, true, true, true, true, true, true, true, true, false, false, false, false, false, false, false, false, false, false, false, false, false, false, false, false, false, false, false] rfl rfl (any_of HT_.out (by kernel_rfl)) (fun _ _ _ h => h) (Or.inl ⟨by rfl, ?_⟩) ?_ ?_
          rotate_left
          · intro w'
            go_simp
            with_reducible rfl
          rotate_left
          · simp only [Act.put, List.setIfInBounds_toArray, List.set_cons_zero, List.set_cons_succ, i64_w, i32_w]
            rfl
          refine pure_ (i := 36) (N := some 177) (v := ?_) (a' := ?_) #[true, true, true, true, true, true, true, true, true, true, true, true, true, true, true, true, true, true, true, true, true, true, true, true, true, true, true, true, true, true, true, true, true, true, true, true, true, false, false, false, false, false, false, false, false, false, false, false, false, false, false, false, false, false, false] rfl rfl (any_of HT_.out (by kernel_rfl)) (fun _ _ _ h => h) (Or.inl ⟨by rfl, ?_⟩) ?_ ?_
          rotate_left
          · intro w'
            go_simp
            with_reducible rfl
          rotate_left
          · simp only [Act.put, List.setIfInBounds_toArray, List.set_cons_zero, List.set_cons_succ, i64_w, i32_w]
            rfl
          refine pure_ (i := 37) (N := some 178) (v := ?_) (a' := ?_) #[true, true, true, true, true, true, true, true, true, true, true, true, true, true, true, true, true, true, true, true, true, true, true, true, true, true, true, true, true, true, true, true, true, true, true, true, true, true, false, false, false, false, false, false, false, false, false, false, false, false, false, false, false, false, false] rfl rfl (any_of HT_.out (by kernel_rfl)) (fun _ _ _ h => h) (Or.inl ⟨by rfl, ?_⟩) ?_ ?_
          rotate_left
          · intro w'
            go_simp
            with_reducible rfl
          rotate_left
          · simp only [Act.put, List.setIfInBounds_toArray, List.set_cons_zero, List.set_cons_succ, i64_w, i32_w]
            rfl
          refine pure_ (i := 38) (N := some 179) (v := ?_) (a' := ?_) #[true, true, true, true, true, true, true, true, true, true, true, true, true, true, true, true, true, true, true, true, true, true, true, true, true, true, true, true, true, true, true, true, true, true, true, true, true, true, true, false, false, false, false, false, false, false, false, false, false, false, false, false, false, false, false] rfl rfl (any_of HT_.out (by kernel_rfl)) (fun _ _ _ h => h) (Or.inl ⟨by rfl, ?_⟩) ?_ ?_
          rotate_left
          · intro w'
            go_simp
            with_reducible rfl
          rotate_left
          · simp only [Act.put, List.setIfInBounds_toArray, List.set_cons_zero, List.set_cons_succ, i64_w, i32_w]
            rfl
          refine pure_ (i := 39) (N := some 180) (v := ?_) (a' := ?_) #[true, true, true, true, true, true, true, true, true, true, true, true, true, true, true, true, true, true, true, true, true, true, true, true, true, true, true, true, true, true, true, true, true, true, true, true, true, true, true, true, false, false, false, false, false, false, false, false, false, false, false, false, false, false, false] rfl rfl (any_of HT_.out (by kernel_rfl)) (fun _ _ _ h => h) (Or.inl ⟨by rfl, ?_⟩) ?_ ?_
          rotate_left
          · intro w'
            go_simp
            with_reducible rfl
          rotate_left
          · simp only [Act.put, List.setIfInBounds_toArray, List.set_cons_zero, List.set_cons_succ, i64_w, i32_w]
            rfl
          refine pure_ (i := 40) (N := some 181) (v := ?_) (a' := ?_) #[true, true, true, true, true, true, true, true, true, true, true, true, true, true, true, true, true, true, true, true, true, true, true, true, true, true, true, true, true, true, true, true, true, true, true, true, true, true, true, true, true, false, false, false, false, false, false, false, false, false, false, false, false, false, false] rfl rfl (any_of HT_.out (by kernel_rfl)) (fun _ _ _ h => h) (Or.inl ⟨by rfl, ?_⟩) ?_ ?_
          rotate_left
          · intro w'
            go_simp
            with_reducible rfl
          rotate_left
          · simp only [Act.put, List.setIfInBounds_toArray, List.set_cons_zero, List.set_cons_succ, i64_w, i32_w]
            rfl
          refine pure_ (i := 41) (N := some 182) (v := ?_) (a' := ?_) #[true, true, true, true, true, true, true, true, true, true, true, true, true, true, true, true, true, true, true, true, true, true, true, true, true, true, true, true, true, true, true, true, true, true, true, true, true, true, true, true, true, true, false, false, false, false, false, false, false, false, false, false, false, false, false] rfl rfl (any_of HT_.out (by kernel_rfl)) (fun _ _ _ h => h) (Or.inl ⟨by rfl, ?_⟩) ?_ ?_
          rotate_left
          · intro w'
            go_simp
            with_reducible rfl
          rotate_left
          · simp only [Act.put, List.setIfInBounds_toArray, List.set_cons_zero, List.set_cons_succ, i64_w, i32_w]
            rfl
          refine pure_ (i := 42) (N := some 183) (v := ?_) (a' := ?_) #[true, true, true, true, true, true, true, true, true, true, true, true, true, true, true, true, true, true, true, true, true, true, true, true, true, true, true, true, true, true, true, true, true, true, true, true, true, true, true, true, true, true, true, false, false, false, false, false, false, false, false, false, false, false, false] rfl rfl (any_of HT_.out (by kernel_rfl)) (fun _ _ _ h => h) (Or.inl ⟨by rfl, ?_⟩) ?_ ?_
          rotate_left
          · intro w'
            go_simp
            with_reducible rfl
          rotate_left
          · simp only [Act.put, List.setIfInBounds_toArray, List.set_cons_zero, List.set_cons_succ, i64_w, i32_w]
            rfl
          refine pure_ (i := 43) (N := some 184) (v := ?_) (a' := ?_) #[true, true, true, true, true, true, true, true, true, true, true, true, true, true, true, true, true, true, true, true, true, true, true, true, true, true, true, true, true, true, true, true, true, true, true, true, true, true, true, true, true, true, true, true, false, false, false, false, false, false, false, false, false, false, false] rfl rfl (any_of HT_.out (by kernel_rfl)) (fun _ _ _ h => h) (Or.inl ⟨by rfl, ?_⟩) ?_ ?_
          rotate_left
          · intro w'
            go_simp
            with_reducible rfl
          rotate_left
          · simp only [Act.put, List.setIfInBounds_toArray, List.set_cons_zero, List.set_cons_succ, i64_w, i32_w]
            rfl
          refine pure_ (i := 44) (N := some 185) (v := ?_) (a' := ?_) #[true, true, true, true, true, true, true, true, true, true, true, true, true, true, true, true, true, true, true, true, true, true, true, true, true, true, true, true, true, true, true, true, true, true, true, true, true, true, true, true, true, true, true, true, true, false, false, false, false, false, false, false, false, false, false] rfl rfl (any_of HT_.out (by kernel_rfl)) (fun _ _ _ h => h) (Or.inl ⟨by rfl, ?_⟩) ?_ ?_
          rotate_left
          · intro w'
            go_simp
            with_reducible rfl
          rotate_left
          · simp only [Act.put, List.setIfInBounds_toArray, List.set_cons_zero, List.set_cons_succ, i64_w, i32_w]
            rfl
          refine pure_ (i := 45) (N := some 186) (v := ?_) (a' := ?_) #[true, true, true, true, true, true, true, true, true, true, true, true, true, true, true, true, true, true, true, true, true, true, true, true, true, true, true, true, true, true, true, true, true, true, true, true, true, true, true, true, true, true, true, true, true, true, false, false, false, false, false, false, false, false, false] rfl rfl (any_of HT_.out (by kernel_rfl)) (fun _ _ _ h => h) (Or.inl ⟨by rfl, ?_⟩) ?_ ?_
          rotate_left
          · intro w'
            go_simp
            with_reducible rfl
          rotate_left
          · simp only [Act.put, List.setIfInBounds_toArray, List.set_cons_zero, List.set_cons_succ, i64_w, i32_w]
            rfl
          refine pure_ (i := 46) (N := some 187) (v := ?_) (a' := ?_) #[true, true, true, true, true, true, true, true, true, true, true, true, true, true, true, true, true, true, true, true, true, true, true, true, true, true, true, true, true, true, true, true, true, true, true, true, true, true, true, true, true, true, true, true, true, true, true, false, false, false, false, false, false, false, false] rfl rfl (any_of HT_.out (by kernel_rfl)) (fun _ _ _ h => h) (Or.inl ⟨by rfl, ?_⟩) ?_ ?_
          rotate_left
          · intro w'
            go_simp
            with_reducible rfl
          rotate_left
          · simp only [Act.put, List.setIfInBounds_toArray, List.set_cons_zero, List.set_cons_succ, i64_w, i32_w]
            rfl
          refine pure_ (i := 47) (N := some 188) (v := ?_) (a' := ?_) #[true, true, true, true, true, true, true, true, true, true, true, true, true, true, true, true, true, true, true, true, true, true, true, true, true, true, true, true, true, true, true, true, true, true, true, true, true, true, true, true, true, true, true, true, true, true, true, true, false, false, false, false, false, false, false] rfl rfl (any_of HT_.out (by kernel_rfl)) (fun _ _ _ h => h) (Or.inl ⟨by rfl, ?_⟩) ?_ ?_
          rotate_left
          · intro w'
            go_simp
            with_reducible rfl
          rotate_left
          · simp only [Act.put, List.setIfInBounds_toArray, List.set_cons_zero, List.set_cons_succ, i64_w, i32_w]
            rfl
          refine pure_ (i := 49) (N := some 190) (v := ?_) (a' := ?_) #[true, true, true, true, true, true, true, true, true, true, true, true, true, true, true, true, true, true, true, true, true, true, true, true, true, true, true, true, true, true, true, true, true, true, true, true, true, true, true, true, true, true, true, true, true, true, true, true, false, true, false, false, false, false, false] rfl rfl (any_of HT_.out (by kernel_rfl)) (fun _ _ _ h => h) (Or.inl ⟨by rfl, ?_⟩) ?_ ?_
          rotate_left
          · intro w'
            go_simp
            with_reducible rfl
          rotate_left
          · simp only [Act.put, List.setIfInBounds_toArray, List.set_cons_zero, List.set_cons_succ, i64_w, i32_w]
            rfl
          refine take_ (i := 48) (N := some 189) (v := ?_) (a' := ?_) #[true, true, true, true, true, true, true, true, true, true, true, true, true, true, true, true, true, true, true, true, true, true, true, true, true, true, true, true, true, true, true, true, true, true, true, true, true, true, true, true, true, true, true, true, true, true, true, true, true, true, false, false, false, false, false] rfl rfl (take_of HT_.out (by kernel_rfl)) (fun _ _ _ h => h) (Or.inl ⟨by rfl, ?_⟩) hHeld ?_ ?_
          rotate_left
          · intro w' hS_
            obtain ⟨s0, s1, s2, s3, s4⟩ := hS_
            go_simp
            with_reducible rfl
          rotate_left
          · simp only [Act.put, List.setIfInBounds_toArray, List.set_cons_zero, List.set_cons_succ, i64_w, i32_w]
            rfl
          refine pure_ (i := 50) (N := some 191) (v := ?_) (a' := ?_) #[true, true, true, true, true, true, true, true, true, true, true, true, true, true, true, true, true, true, true, true, true, true, true, true, true, true, true, true, true, true, true, true, true, true, true, true, true, true, true, true, true, true, true, true, true, true, true, true, true, true, true, false, false, false, false] rfl rfl (any_of HT_.out (by kernel_rfl)) (fun _ _ _ h => h) (Or.inl ⟨by rfl, ?_⟩) ?_ ?_
          rotate_left
          · intro w'
            go_simp
            with_reducible rfl
          rotate_left
          · simp only [Act.put, List.setIfInBounds_toArray, List.set_cons_zero, List.set_cons_succ, i64_w, i32_w]
            rfl
          refine take_ (i := 51) (N := some 192) (v := ?_) (a' := ?_) #[true, true, true, true, true, true, true, true, true, true, true, true, true, true, true, true, true, true, true, true, true, true, true, true, true, true, true, true, true, true, true, true, true, true, true, true, true, true, true, true, true, true, true, true, true, true, true, true, true, true, true, true, false, false, false] rfl rfl (take_of HT_.out (by kernel_rfl)) (fun _ _ _ h => h) (Or.inl ⟨by rfl, ?_⟩) hHeld ?_ ?_
          rotate_left
          · intro w' hS_
            obtain ⟨s0, s1, s2, s3, s4⟩ := hS_
            go_simp
            with_reducible rfl
          rotate_left
          · simp only [Act.put, List.setIfInBounds_toArray, List.set_cons_zero, List.set_cons_succ, i64_w, i32_w]
            rfl
          refine pure_ (i := 52) (N := some 193) (v := ?_) (a' := ?_) #[true, true, true, true, true, true, true, true, true, true, true, true, true, true, true, true, true, true, true, true, true, true, true, true, true, true, true, true, true, true, true, true, true, true, true, true, true, true, true, true, true, true, true, true, true, true, true, true, true, true, true, true, true, false, false] rfl rfl (any_of HT_.out (by kernel_rfl)) (fun _ _ _ h => h) (Or.inl ⟨by rfl, ?_⟩) ?_ ?_
          rotate_left
          · intro w'
            go_simp
            with_reducible rfl
          rotate_left
          · simp only [Act.put, List.setIfInBounds_toArray, List.set_cons_zero, List.set_cons_succ, i64_w, i32_w]
            rfl
          refine pure_ (i := 53) (N := some 194) (v := ?_) (a' := ?_) #[true, true, true, true, true, true, true, true, true, true, true, true, true, true, true, true, true, true, true, true, true, true, true, true, true, true, true, true, true, true, true, true, true, true, true, true, true, true, true, true, true, true, true, true, true, true, true, true, true, true, true, true, true, true, false] rfl rfl (any_of HT_.out (by kernel_rfl)) (fun _ _ _ h => h) (Or.inl ⟨by rfl, ?_⟩) ?_ ?_
          rotate_left
          · intro w'
            go_simp
            with_reducible rfl
          rotate_left
          · simp only [Act.put, List.setIfInBounds_toArray, List.set_cons_zero, List.set_cons_succ, i64_w, i32_w]
            rfl
          refine pure_ (i := 54) (N := some 195) (v := ?_) (a' := ?_) #[true, true, true, true, true, true, true, true, true, true, true, true, true, true, true, true, true, true, true, true, true, true, true, true, true, true, true, true, true, true, true, true, true, true, true, true, true, true, true, true, true, true, true, true, true, true, true, true, true, true, true, true, true, true, true] rfl rfl (any_of HT_.out (by kernel_rfl)) (fun _ _ _ h => h) (Or.inl ⟨by rfl, ?_⟩) ?_ ?_
          rotate_left
          · intro w'
            go_simp
            with_reducible rfl
          rotate_left
          · simp only [Act.put, List.setIfInBounds_toArray, List.set_cons_zero, List.set_cons_succ, i64_w, i32_w]
            rfl
          refine done_ (done_of HT_.out (by kernel_rfl)) ?_
          have HIZ := Aside0.mk ((HIP.out.drew).below HBK.out)
          have HWZ := Aside0.mk ((below_drew1 HWP.out).trans (HBK.out.mono HWP.out.size))
          have HRZ : Aside0 (RefAt w wk w3.heap.size R s'.row) := ⟨RefAt.below (W := wp.drew) (by obtain ⟨a1, a2, a3, a4, b1, b2, b3, b4, b5⟩ := HRP.out; exact ⟨a1, a2, a3, a4, b1, b2, Kd.R_drew b3, Kd.R_drew b4, b5⟩) HBK.out⟩
          have hz1 : wk.cell? ⟨w3.heap.size, 1, none⟩ = some (.slice A1 s'.row.length c1) := (HBK.out.cell (p := ⟨w3.heap.size, 1, none⟩) hl6).trans hp1
          have hz0 : wk.cell? ⟨w3.heap.size, 0, none⟩ = some (.int .i64 R) := (HBK.out.cell (p := ⟨w3.heap.size, 0, none⟩) hl6).trans hp0
          have hz2 : wk.cell? ⟨w3.heap.size, 2, none⟩ = some (.slice (some ad2) s'.row.length c2) := (HBK.out.cell (p := ⟨w3.heap.size, 2, none⟩) hl6).trans hp2
          have hz8 : wk.cell? ⟨wr.heap.size, 1, none⟩ = some (.int .i64 x.f1) := (HBK.out.cell (p := ⟨wr.heap.size, 1, none⟩) hl8).trans hp8
          have hlk : w3.heap.size < wk.heap.size := Nat.lt_of_lt_of_le hl6 HBK.out.size
          clear hHeld
          by_cases hrow : 0 < s'.row.length
          · skip
            obtain ⟨ad1, hA1, hp11⟩ := Kd.at_int HC1.out.2.2 0 (by omega) (by simp; omega)
            subst hA1
            rw [show ((0 : Int)).toNat = 0 from rfl, Addr.add_zero', ← HFST.out hrow] at hp11
            have hrb : decide (0 < s'.row.length) = true := decide_eq_true hrow
            have hrc : (0 : Int) < (s'.row.length : Int) := by omega
            have hrd : decide ((0 : Int) < (s'.row.length : Int)) = true := decide_eq_true hrc
            have hz11 : wk.cell? ad1 = some (.int .i64 fst) := (HBK.out.cell (World.block_lt_of_cell? wp _ hp11)).trans hp11
            go_wp2
            exact ⟨⟨k + 1, s', by omega, by rw [show ((k : Int) + 1) = ((k + 1 : Nat) : Int) by omega], HIN', HIZ, HWZ, HRZ⟩, by simp [intOf]; omega⟩
          · exact absurd hPl (by omega)
        · as_aux_lemma =>
          have hisb : decide (0 ≤ pk) = false := decide_eq_false his
          refine start_ (n := 55) (S := fun w' => w'.cell? ⟨w3.heap.size, 0, none⟩ = some (.int .i64 R) ∧ w'.cell? ⟨w3.heap.size, 1, none⟩ = some (.slice A1 s'.row.length c1) ∧ w'.cell? ⟨w3.heap.size, 2, none⟩ = some (.slice A2 s'.row.length c2) ∧ w'.cell? ⟨wr.heap.size, 1, none⟩ = some (.int .i64 x.f1) ∧ True) (ds := []) #[false, false, false, false, false, false, false, false, false, false, false, false, false, false, false, false, false, false, false, false, false, false, false, false, false, false, false, false, false, false, false, false, false, false, false, false, false, false, false, false, false, false, false, false, false, false, false, false, false, false, false, false, false, false, false] (by kernel_rfl) rfl rfl ⟨hp0, hp1, hp2, hp8, trivial⟩ (fun hHeld => ?_); refine with_tab plays.tab32 (fun HT_ => ?_)
          refine pure_ (i := 0) (N := some 141) (v := ?_) (a' := ?_) #[true, false, false, false, false, false, false, false, false, false, false, false, false, false, false, false, false, false, false, false, false, false, false, false, false, false, false, false, false, false, false, false, false, false, false, false, false, false, false, false, false, false, false, false, false, false, false, false, false, false, false, false, false, false, false] rfl rfl (any_of HT_.out (by kernel_rfl)) (fun _ _ _ h => h) (Or.inl ⟨by rfl, ?_⟩) ?_ ?_
          rotate_left
          · intro w'
            go_simp
            with_reducible rfl
          rotate_left
          · simp only [Act.put, List.setIfInBounds_toArray, List.set_cons_zero, List.set_cons_succ, i64_w, i32_w]
            rfl
          refine pure_ (i := 1) (N := some 142) (v := ?_) (a' := ?_) #[true, true, false, false, false, false, false, false, false, false, false, false, false, false, false, false, false, false, false, false, false, false, false, false, false, false, false, false, false, false, false, false, false, false, false, false, false, false, false, false, false, false, false, false, false, false, false, false, false, false, false, false, false, false, false] rfl rfl (any_of HT_.out (by kernel_rfl)) (fun _ _ _ h => h) (Or.inl ⟨by rfl, ?_⟩) ?_ ?_
          rotate_left
          · intro w'
            go_simp
            with_reducible rfl
          rotate_left
          · simp only [Act.put, List.setIfInBounds_toArray, List.set_cons_zero, List.set_cons_succ, i64_w, i32_w]
            rfl
          refine pure_ (i := 2) (N := some 143) (v := ?_) (a' := ?_) #[true, true, true, false, false, false, false, false, false, false, false, false, false, false, false, false, false, false, false, false, false, false, false, false, false, false, false, false, false, false, false, false, false, false, false, false, false, false, false, false, false, false, false, false, false, false, false, false, false, false, false, false, false, false, false] rfl rfl (any_of HT_.out (by kernel_rfl)) (fun _ _ _ h => h) (Or.inl ⟨by rfl, ?_⟩) ?_ ?_
          rotate_left
          · intro w'
            go_simp
            with_reducible rfl
          rotate_left
          · simp only [Act.put, List.setIfInBounds_toArray, List.set_cons_zero, List.set_cons_succ, i64_w, i32_w]
            rfl
          refine pure_ (i := 3) (N := some 144) (v := ?_) (a' := ?_) #[true, true, true, true, false, false, false, false, false, false, false, false, false, false, false, false, false, false, false, false, false, false, false, false, false, false, false, false, false, false, false, false, false, false, false, false, false, false, false, false, false, false, false, false, false, false, false, false, false, false, false, false, false, false, false] rfl rfl (any_of HT_.out (by kernel_rfl)) (fun _ _ _ h => h) (Or.inl ⟨by rfl, ?_⟩) ?_ ?_
          rotate_left
          · intro w'
            go_simp
            with_reducible rfl
          rotate_left
          · simp only [Act.put, List.setIfInBounds_toArray, List.set_cons_zero, List.set_cons_succ, i64_w, i32_w]
            rfl
          refine pure_ (i := 5) (N := some 146) (v := ?_) (a' := ?_) #[true, true, true, true, false, true, false, false, false, false, false, false, false, false, false, false, false, false, false, false, false, false, false, false, false, false, false, false, false, false, false, false, false, false, false, false, false, false, false, false, false, false, false, false, false, false, false, false, false, false, false, false, false, false, false] rfl rfl (any_of HT_.out (by kernel_rfl)) (fun _ _ _ h => h) (Or.inl ⟨by rfl, ?_⟩) ?_ ?_
          rotate_left
          · intro w'
            go_simp
            with_reducible rfl
          rotate_left
          · simp only [Act.put, List.setIfInBounds_toArray, List.set_cons_zero, List.set_cons_succ, i64_w, i32_w]
            rfl
          refine take_ (i := 6) (N := some 147) (v := ?_) (a' := ?_) #[true, true, true, true, false, true, true, false, false, false, false, false, false, false, false, false, false, false, false, false, false, false, false, false, false, false, false, false, false, false, false, false, false, false, false, false, false, false, false, false, false, false, false, false, false, false, false, false, false, false, false, false, false, false, false] rfl rfl (take_of HT_.out (by kernel_rfl)) (fun _ _ _ h => h) (Or.inl ⟨by rfl, ?_⟩) hHeld ?_ ?_
          rotate_left
          · intro w' hS_
            obtain ⟨s0, s1, s2, s3, s4⟩ := hS_
            go_simp
            with_reducible rfl
          rotate_left
          · simp only [Act.put, List.setIfInBounds_toArray, List.set_cons_zero, List.set_cons_succ, i64_w, i32_w]
            rfl
          refine pure_ (i := 7) (N := some 148) (v := ?_) (a' := ?_) #[true, true, true, true, false, true, true, true, false, false, false, false, false, false, false, false, false, false, false, false, false, false, false, false, false, false, false, false, false, false, false, false, false, false, false, false, false, false, false, false, false, false, false, false, false, false, false, false, false, false, false, false, false, false, false] rfl rfl (any_of HT_.out (by kernel_rfl)) (fun _ _ _ h => h) (Or.inl ⟨by rfl, ?_⟩) ?_ ?_
          rotate_left
          · intro w'
            go_simp
            with_reducible rfl
          rotate_left
          · simp only [Act.put, List.setIfInBounds_toArray, List.set_cons_zero, List.set_cons_succ, i64_w, i32_w]
            rfl
          refine one_ (i := 4) (N := some 145) #[true, true, true, true, true, true, true, true, false, false, false, false, false, false, false, false, false, false, false, false, false, false, false, false, false, false, false, false, false, false, false, false, false, false, false, false, false, false, false, false, false, false, false, false, false, false, false, false, false, false, false, false, false, false, false] rfl rfl (one_of HT_.out (by kernel_rfl)) (by decide) (fun K hK => ?_)
          refine goes_ Try.func13 (by kernel_rfl) rfl #[.pointer (some ⟨g, 0, none⟩)] (by rfl) rfl rfl (by (try simp only [List.map_toArray, List.map_cons, List.map_nil]); first | done | rfl) ?_
          refine (len_raw g s' w _ HIP.out.drew).mono ?_
          rintro e wa ⟨rfl, rfl⟩
          refine ⟨_, rfl, ?_⟩
          refine hK.out _ _ hHeld (fun hHeld => ?_)
          clear hK K
          refine norm_ (a' := ?_) ?_ ?_
          rotate_left
          · show Act.put _ (some 145) _ = _
            simp only [Act.put, List.setIfInBounds_toArray, List.set_cons_zero, List.set_cons_succ, i64_w, i32_w]
            rfl
          refine pure_ (i := 8) (N := some 149) (v := ?_) (a' := ?_) #[true, true, true, true, true, true, true, true, true, false, false, false, false, false, false, false, false, false, false, false, false, false, false, false, false, false, false, false, false, false, false, false, false, false, false, false, false, false, false, false, false, false, false, false, false, false, false, false, false, false, false, false, false, false, false] rfl rfl (any_of HT_.out (by kernel_rfl)) (fun _ _ _ h => h) (Or.inl ⟨by rfl, ?_⟩) ?_ ?_
          rotate_left
          · intro w'
            go_simp
            with_reducible rfl
          rotate_left
          · simp only [Act.put, List.setIfInBounds_toArray, List.set_cons_zero, List.set_cons_succ, i64_w, i32_w]
            rfl
          refine pure_ (i := 9) (N := some 150) (v := ?_) (a' := ?_) #[true, true, true, true, true, true, true, true, true, true, false, false, false, false, false, false, false, false, false, false, false, false, false, false, false, false, false, false, false, false, false, false, false, false, false, false, false, false, false, false, false, false, false, false, false, false, false, false, false, false, false, false, false, false, false] rfl rfl (any_of HT_.out (by kernel_rfl)) (fun _ _ _ h => h) (Or.inl ⟨by rfl, ?_⟩) ?_ ?_
          rotate_left
          · intro w'
            go_simp
            with_reducible rfl
          rotate_left
          · simp only [Act.put, List.setIfInBounds_toArray, List.set_cons_zero, List.set_cons_succ, i64_w, i32_w]
            rfl
          refine pure_ (i := 10) (N := some 151) (v := ?_) (a' := ?_) #[true, true, true, true, true, true, true, true, true, true, true, false, false, false, false, false, false, false, false, false, false, false, false, false, false, false, false, false, false, false, false, false, false, false, false, false, false, false, false, false, false, false, false, false, false, false, false, false, false, false, false, false, false, false, false] rfl rfl (any_of HT_.out (by kernel_rfl)) (fun _ _ _ h => h) (Or.inl ⟨by rfl, ?_⟩) ?_ ?_
          rotate_left
          · intro w'
            go_simp
            with_reducible rfl
          rotate_left
          · simp only [Act.put, List.setIfInBounds_toArray, List.set_cons_zero, List.set_cons_succ, i64_w, i32_w]
            rfl
          refine pure_ (i := 11) (N := some 152) (v := ?_) (a' := ?_) #[true, true, true, true, true, true, true, true, true, true, true, true, false, false, false, false, false, false, false, false, false, false, false, false, false, false, false, false, false, false, false, false, false, false, false, false, false, false, false, false, false, false, false, false, false, false, false, false, false, false, false, false, false, false, false] rfl rfl (any_of HT_.out (by kernel_rfl)) (fun _ _ _ h => h) (Or.inl ⟨by rfl, ?_⟩) ?_ ?_
          rotate_left
          · intro w'
            go_simp
            with_reducible rfl
          rotate_left
          · simp only [Act.put, List.setIfInBounds_toArray, List.set_cons_zero, List.set_cons_succ, i64_w, i32_w]
            rfl
          refine pure_ (i := 13) (N := some 154) (v := ?_) (a' := ?_) #[true, true, true, true, true, true, true, true, true, true, true, true, false, true, false, false, false, false, false, false, false, false, false, false, false, false, false, false, false, false, false, false, false, false, false, false, false, false, false, false, false, false, false, false, false, false, false, false, false, false, false, false, false, false, false] rfl rfl (any_of HT_.out (by kernel_rfl)) (fun _ _ _ h => h) (Or.inl ⟨by rfl, ?_⟩) ?_ ?_
          rotate_left
          · intro w'
            go_simp
            with_reducible rfl
          rotate_left
          · simp only [Act.put, List.setIfInBounds_toArray, List.set_cons_zero, List.set_cons_succ, i64_w, i32_w]
            rfl
          refine pure_ (i := 15) (N := some 156) (v := ?_) (a' := ?_) #[true, true, true, true, true, true, true, true, true, true, true, true, false, true, false, true, false, false, false, false, false, false, false, false, false, false, false, false, false, false, false, false, false, false, false, false, false, false, false, false, false, false, false, false, false, false, false, false, false, false, false, false, false, false, false] rfl rfl (any_of HT_.out (by kernel_rfl)) (fun _ _ _ h => h) (Or.inl ⟨by rfl, ?_⟩) ?_ ?_
          rotate_left
          · intro w'
            go_simp
            with_reducible rfl
          rotate_left
          · simp only [Act.put, List.setIfInBounds_toArray, List.set_cons_zero, List.set_cons_succ, i64_w, i32_w]
            rfl
          refine take_ (i := 14) (N := some 155) (v := ?_) (a' := ?_) #[true, true, true, true, true, true, true, true, true, true, true, true, false, true, true, true, false, false, false, false, false, false, false, false, false, false, false, false, false, false, false, false, false, false, false, false, false, false, false, false, false, false, false, false, false, false, false, false, false, false, false, false, false, false, false] rfl rfl (take_of HT_.out (by kernel_rfl)) (fun _ _ _ h => h) (Or.inl ⟨by rfl, ?_⟩) hHeld ?_ ?_
          rotate_left
          · intro w' hS_
            obtain ⟨s0, s1, s2, s3, s4⟩ := hS_
            go_simp
            with_reducible rfl
          rotate_left
          · simp only [Act.put, List.setIfInBounds_toArray, List.set_cons_zero, List.set_cons_succ, i64_w, i32_w]
            rfl
          refine take_ (i := 16) (N := some 157) (v := ?_) (a' := ?_) #[true, true, true, true, true, true, true, true, true, true, true, true, false, true, true, true, true, false, false, false, false, false, false, false, false, false, false, false, false, false, false, false, false, false, false, false, false, false, false, false, false, false, false, false, false, false, false, false, false, false, false, false, false, false, false] rfl rfl (take_of HT_.out (by kernel_rfl)) (fun _ _ _ h => h) (Or.inl ⟨by rfl, ?_⟩) hHeld ?_ ?_
          rotate_left
          · intro w' hS_
            obtain ⟨s0, s1, s2, s3, s4⟩ := hS_
            go_simp
            with_reducible rfl
          rotate_left
          · simp only [Act.put, List.setIfInBounds_toArray, List.set_cons_zero, List.set_cons_succ, i64_w, i32_w]
            rfl
          refine pure_ (i := 17) (N := some 158) (v := ?_) (a' := ?_) #[true, true, true, true, true, true, true, true, true, true, true, true, false, true, true, true, true, true, false, false, false, false, false, false, false, false, false, false, false, false, false, false, false, false, false, false, false, false, false, false, false, false, false, false, false, false, false, false, false, false, false, false, false, false, false] rfl rfl (any_of HT_.out (by kernel_rfl)) (fun _ _ _ h => h) (Or.inl ⟨by rfl, ?_⟩) ?_ ?_
          rotate_left
          · intro w'
            go_simp
            with_reducible rfl
          rotate_left
          · simp only [Act.put, List.setIfInBounds_toArray, List.set_cons_zero, List.set_cons_succ, i64_w, i32_w]
            rfl
          refine pure_ (i := 18) (N := some 159) (v := ?_) (a' := ?_) #[true, true, true, true, true, true, true, true, true, true, true, true, false, true, true, true, true, true, true, false, false, false, false, false, false, false, false, false, false, false, false, false, false, false, false, false, false, false, false, false, false, false, false, false, false, false, false, false, false, false, false, false, false, false, false] rfl rfl (any_of HT_.out (by kernel_rfl)) (fun _ _ _ h => h) (Or.inl ⟨by rfl, ?_⟩) ?_ ?_
          rotate_left
          · intro w'
            go_simp
            with_reducible rfl
          rotate_left
          · simp only [Act.put, List.setIfInBounds_toArray, List.set_cons_zero, List.set_cons_succ, i64_w, i32_w]
            rfl
          refine one_ (i := 12) (N := some 153) #[true, true, true, true, true, true, true, true, true, true, true, true, true, true, true, true, true, true, true, false, false, false, false, false, false, false, false, false, false, false, false, false, false, false, false, false, false, false, false, false, false, false, false, false, false, false, false, false, false, false, false, false, false, false, false] rfl rfl (one_of HT_.out (by kernel_rfl)) (by decide) (fun K hK => ?_)
          refine goes_ Try.func19 (by kernel_rfl) rfl #[.pointer (some ⟨g, 0, none⟩)] (by rfl) rfl rfl (by (try simp only [List.map_toArray, List.map_cons, List.map_nil]); first | done | rfl) ?_
          refine (room_raw g s' w _ HIP.out.drew).mono ?_
          rintro e wb ⟨rfl, rfl⟩
          refine ⟨_, rfl, ?_⟩
          refine hK.out _ _ hHeld (fun hHeld => ?_)
          clear hK K
          refine norm_ (a' := ?_) ?_ ?_
          rotate_left
          · show Act.put _ (some 153) _ = _
            simp only [Act.put, List.setIfInBounds_toArray, List.set_cons_zero, List.set_cons_succ, i64_w, i32_w]
            rfl
          refine pure_ (i := 19) (N := some 160) (v := ?_) (a' := ?_) #[true, true, true, true, true, true, true, true, true, true, true, true, true, true, true, true, true, true, true, true, false, false, false, false, false, false, false, false, false, false, false, false, false, false, false, false, false, false, false, false, false, false, false, false, false, false, false, false, false, false, false, false, false, false, false] rfl rfl (any_of HT_.out (by kernel_rfl)) (fun _ _ _ h => h) (Or.inl ⟨by rfl, ?_⟩) ?_ ?_
          rotate_left
          · intro w'
            go_simp
            with_reducible rfl
          rotate_left
          · simp only [Act.put, List.setIfInBounds_toArray, List.set_cons_zero, List.set_cons_succ, i64_w, i32_w]
            rfl
          refine pure_ (i := 20) (N := some 161) (v := ?_) (a' := ?_) #[true, true, true, true, true, true, true, true, true, true, true, true, true, true, true, true, true, true, true, true, true, false, false, false, false, false, false, false, false, false, false, false, false, false, false, false, false, false, false, false, false, false, false, false, false, false, false, false, false, false, false, false, false, false, false] rfl rfl (any_of HT_.out (by kernel_rfl)) (fun _ _ _ h => h) (Or.inl ⟨by rfl, ?_⟩) ?_ ?_
          rotate_left
          · intro w'
            go_simp
            with_reducible rfl
          rotate_left
          · simp only [Act.put, List.setIfInBounds_toArray, List.set_cons_zero, List.set_cons_succ, i64_w, i32_w]
            rfl
          refine pure_ (i := 21) (N := some 162) (v := ?_) (a' := ?_) #[true, true, true, true, true, true, true, true, true, true, true, true, true, true, true, true, true, true, true, true, true, true, false, false, false, false, false, false, false, false, false, false, false, false, false, false, false, false, false, false, false, false, false, false, false, false, false, false, false, false, false, false, false, false, false] rfl rfl (any_of HT_.out (by kernel_rfl)) (fun _ _ _ h => h) (Or.inl ⟨by rfl, ?_⟩) ?_ ?_
          rotate_left
          · intro w'
            go_simp
            with_reducible rfl
          rotate_left
          · simp only [Act.put, List.setIfInBounds_toArray, List.set_cons_zero, List.set_cons_succ, i64_w, i32_w]
            rfl
          refine pure_ (i := 22) (N := some 163) (v := ?_) (a' := ?_) #[true, true, true, true, true, true, true, true, true, true, true, true, true, true, true, true, true, true, true, true, true, true, true, false, false, false, false, false, false, false, false, false, false, false, false, false, false, false, false, false, false, false, false, false, false, false, false, false, false, false, false, false, false, false, false] rfl rfl (any_of HT_.out (by kernel_rfl)) (fun _ _ _ h => h) (Or.inl ⟨by rfl, ?_⟩) ?_ ?_
          rotate_left
          · intro w'
            go_simp
            with_reducible rfl
          rotate_left
          · simp only [Act.put, List.setIfInBounds_toArray, List.set_cons_zero, List.set_cons_succ, i64_w, i32_w]
            rfl
          refine pure_ (i := 24) (N := some 165) (v := ?_) (a' := ?_) #[true, true, true, true, true, true, true, true, true, true, true, true, true, true, true, true, true, true, true, true, true, true, true, false, true, false, false, false, false, false, false, false, false, false, false, false, false, false, false, false, false, false, false, false, false, false, false, false, false, false, false, false, false, false, false] rfl rfl (any_of HT_.out (by kernel_rfl)) (fun _ _ _ h => h) (Or.inl ⟨by rfl, ?_⟩) ?_ ?_
          rotate_left
          · intro w'
            go_simp
            with_reducible rfl
          rotate_left
          · simp only [Act.put, List.setIfInBounds_toArray, List.set_cons_zero, List.set_cons_succ, i64_w, i32_w]
            rfl
          refine take_ (i := 25) (N := some 166) (v := ?_) (a' := ?_) #[true, true, true, true, true, true, true, true, true, true, true, true, true, true, true, true, true, true, true, true, true, true, true, false, true, true, false, false, false, false, false, false, false, false, false, false, false, false, false, false, false, false, false, false, false, false, false, false, false, false, false, false, false, false, false] rfl rfl (take_of HT_.out (by kernel_rfl)) (fun _ _ _ h => h) (Or.inl ⟨by rfl, ?_⟩) hHeld ?_ ?_
          rotate_left
          · intro w' hS_
            obtain ⟨s0, s1, s2, s3, s4⟩ := hS_
            go_simp
            with_reducible rfl
          rotate_left
          · simp only [Act.put, List.setIfInBounds_toArray, List.set_cons_zero, List.set_cons_succ, i64_w, i32_w]
            rfl
          refine one_ (i := 23) (N := some 164) #[true, true, true, true, true, true, true, true, true, true, true, true, true, true, true, true, true, true, true, true, true, true, true, true, true, true, false, false, false, false, false, false, false, false, false, false, false, false, false, false, false, false, false, false, false, false, false, false, false, false, false, false, false, false, false] rfl rfl (one_of HT_.out (by kernel_rfl)) (by decide) (fun K hK => ?_)
          refine goes_ Try.func15 (by kernel_rfl) rfl #[.pointer (some ⟨g, 0, none⟩)] (by rfl) rfl rfl (by (try simp only [List.map_toArray, List.map_cons, List.map_nil]); first | done | rfl) ?_
          refine (ids_raw g s' w _ HIP.out.drew).mono ?_
          rintro e wi ⟨vi, rfl, hRi, hbi⟩
          obtain ⟨Ai, di, rfl⟩ := slice_ids hRi
          have HRI := Aside0.mk (Kd.R_reads' hRi)
          have HBI := Aside0.mk hbi
          clear hRi hbi
          have hswi : (fun w' => w'.cell? ⟨w3.heap.size, 0, none⟩ = some (.int .i64 R) ∧ w'.cell? ⟨w3.heap.size, 1, none⟩ = some (.slice A1 s'.row.length c1) ∧ w'.cell? ⟨w3.heap.size, 2, none⟩ = some (.slice A2 s'.row.length c2) ∧ w'.cell? ⟨wr.heap.size, 1, none⟩ = some (.int .i64 x.f1) ∧ True) wi := by
            have h_ := HBI.out
            exact ⟨(h_.cell (p := ⟨w3.heap.size, 0, none⟩) hl6).trans hp0, (h_.cell (p := ⟨w3.heap.size, 1, none⟩) hl6).trans hp1, (h_.cell (p := ⟨w3.heap.size, 2, none⟩) hl6).trans hp2, (h_.cell (p := ⟨wr.heap.size, 1, none⟩) hl8).trans hp8, trivial⟩
          refine ⟨_, rfl, ?_⟩
          refine hK.out _ _ hswi (fun hHeld => ?_)
          clear hK K
          refine norm_ (a' := ?_) ?_ ?_
          rotate_left
          · show Act.put _ (some 164) _ = _
            simp only [Act.put, List.setIfInBounds_toArray, List.set_cons_zero, List.set_cons_succ, i64_w, i32_w]
            rfl
          refine one_ (i := 26) (N := some 167) #[true, true, true, true, true, true, true, true, true, true, true, true, true, true, true, true, true, true, true, true, true, true, true, true, true, true, true, false, false, false, false, false, false, false, false, false, false, false, false, false, false, false, false, false, false, false, false, false, false, false, false, false, false, false, false] rfl rfl (one_of HT_.out (by kernel_rfl)) (by decide) (fun K hK => ?_)
          refine goes_ Try.func18 (by kernel_rfl) rfl #[.slice Ai s'.row.length di, .slice A1 s'.row.length c1] (by rfl) rfl rfl (by (try simp only [List.map_toArray, List.map_cons, List.map_nil]); first | done | rfl) ?_
          refine (same_ids HRI.out.2.2 HRI.out.2.1 (Kd.C_below (Kd.C_drew HC1.out.2.2) HBI.out) HC1.out.2.1 hl16).mono ?_
          rintro e wj ⟨rfl, hbj⟩
          have HBJ := Aside0.mk (below_step HBI.out (Drawn0.below hbj))
          clear hbj
          have hswj : (fun w' => w'.cell? ⟨w3.heap.size, 0, none⟩ = some (.int .i64 R) ∧ w'.cell? ⟨w3.heap.size, 1, none⟩ = some (.slice A1 s'.row.length c1) ∧ w'.cell? ⟨w3.heap.size, 2, none⟩ = some (.slice A2 s'.row.length c2) ∧ w'.cell? ⟨wr.heap.size, 1, none⟩ = some (.int .i64 x.f1) ∧ True) wj := by
            have h_ := HBJ.out
            exact ⟨(h_.cell (p := ⟨w3.heap.size, 0, none⟩) hl6).trans hp0, (h_.cell (p := ⟨w3.heap.size, 1, none⟩) hl6).trans hp1, (h_.cell (p := ⟨w3.heap.size, 2, none⟩) hl6).trans hp2, (h_.cell (p := ⟨wr.heap.size, 1, none⟩) hl8).trans hp8, trivial⟩
          refine ⟨_, rfl, ?_⟩
          refine hK.out _ _ hswj (fun hHeld => ?_)
          clear hK K
          refine norm_ (a' := ?_) ?_ ?_
          rotate_left
          · show Act.put _ (some 167) _ = _
            simp only [Act.put, List.setIfInBounds_toArray, List.set_cons_zero, List.set_cons_succ, i64_w, i32_w]
            rfl
          refine pure_ (i := 27) (N := some 168) (v := ?_) (a' := ?_) #[true, true, true, true, true, true, true, true, true, true, true, true, true, true, true, true, true, true, true, true, true, true, true, true, true, true, true, true, false, false, false, false, false, false, false, false, false, false, false, false, false, false, false, false, false, false, false, false, false, false, false, false, false, false, false] rfl rfl (any_of HT_.out (by kernel_rfl)) (fun _ _ _ h => h) (Or.inl ⟨by rfl, ?_⟩) ?_ ?_
          rotate_left
          · intro w'
            go_simp
            with_reducible rfl
          rotate_left
          · simp only [Act.put, List.setIfInBounds_toArray, List.set_cons_zero, List.set_cons_succ, i64_w, i32_w]
            rfl
          refine pure_ (i := 28) (N := some 169) (v := ?_) (a' := ?_) #[true, true, true, true, true, true, true, true, true, true, true, true, true, true, true, true, true, true, true, true, true, true, true, true, true, true, true, true, true, false, false, false, false, false, false, false, false, false, false, false, false, false, false, false, false, false, false, false, false, false, false, false, false, false, false] rfl rfl (any_of HT_.out (by kernel_rfl)) (fun _ _ _ h => h) (Or.inl ⟨by rfl, ?_⟩) ?_ ?_
          rotate_left
          · intro w'
            go_simp
            with_reducible rfl
          rotate_left
          · simp only [Act.put, List.setIfInBounds_toArray, List.set_cons_zero, List.set_cons_succ, i64_w, i32_w]
            rfl
          refine pure_ (i := 29) (N := some 170) (v := ?_) (a' := ?_) #[true, true, true, true, true, true, true, true, true, true, true, true, true, true, true, true, true, true, true, true, true, true, true, true, true, true, true, true, true, true, false, false, false, false, false, false, false, false, false, false, false, false, false, false, false, false, false, false, false, false, false, false, false, false, false] rfl rfl (any_of HT_.out (by kernel_rfl)) (fun _ _ _ h => h) (Or.inl ⟨by rfl, ?_⟩) ?_ ?_
          rotate_left
          · intro w'
            go_simp
            with_reducible rfl
          rotate_left
          · simp only [Act.put, List.setIfInBounds_toArray, List.set_cons_zero, List.set_cons_succ, i64_w, i32_w]
            rfl
          refine pure_ (i := 30) (N := some 171) (v := ?_) (a' := ?_) #[true, true, true, true, true, true, true, true, true, true, true, true, true, true, true, true, true, true, true, true, true, true, true, true, true, true, true, true, true, true, true, false, false, false, false, false, false, false, false, false, false, false, false, false, false, false, false, false, false, false, false, false, false, false, false] rfl rfl (any_of HT_.out (by kernel_rfl)) (fun _ _ _ h => h) (Or.inl ⟨by rfl, ?_⟩) ?_ ?_
          rotate_left
          · intro w'
            go_simp
            with_reducible rfl
          rotate_left
          · simp only [Act.put, List.setIfInBounds_toArray, List.set_cons_zero, List.set_cons_succ, i64_w, i32_w]
            rfl
          refine pure_ (i := 31) (N := some 172) (v := ?_) (a' := ?_) #[true, true, true, true, true, true, true, true, true, true, true, true, true, true, true, true, true, true, true, true, true, true, true, true, true, true, true, true, true, true, true, true, false, false, false, false, false, false, false, false, false, false, false, false, false, false, false, false, false, false, false, false, false, false, false] rfl rfl (any_of HT_.out (by kernel_rfl)) (fun _ _ _ h => h) (Or.inl ⟨by rfl, ?_⟩) ?_ ?_
          rotate_left
          · intro w'
            go_simp
            with_reducible rfl
          rotate_left
          · simp only [Act.put, List.setIfInBounds_toArray, List.set_cons_zero, List.set_cons_succ, i64_w, i32_w]
            rfl
          refine pure_ (i := 34) (N := some 175) (v := ?_) (a' := ?_) #[true, true, true, true, true, true, true, true, true, true, true, true, true, true, true, true, true, true, true, true, true, true, true, true, true, true, true, true, true, true, true, true, false, false, true, false, false, false, false, false, false, false, false, false, false, false, false, false, false, false, false, false, false, false, false] rfl rfl (any_of HT_.out (by kernel_rfl)) (fun _ _ _ h => h) (Or.inl ⟨by rfl, ?_⟩) ?_ ?_
          rotate_left
          · intro w'
            go_simp
            with_reducible rfl
          rotate_left
          · simp only [Act.put, List.setIfInBounds_toArray, List.set_cons_zero, List.set_cons_succ, i64_w, i32_w]
            rfl
          refine take_ (i := 32) (N := some 173) (v := ?_) (a' := ?_) #[true, true, true, true, true, true, true, true, true, true, true, true, true, true, true, true, true, true, true, true, true, true, true, true, true, true, true, true, true, true, true, true, true, false, true, false, false, false, false, false, false, false, false, false, false, false, false, false, false, false, false, false, false, false, false] rfl rfl (take_of HT_.out (by kernel_rfl)) (fun _ _ _ h => h) (Or.inl ⟨by rfl, ?_⟩) hHeld ?_ ?_
          rotate_left
          · intro w' hS_
            obtain ⟨s0, s1, s2, s3, s4⟩ := hS_
            go_simp
            with_reducible rfl
          rotate_left
          · simp only [Act.put, List.setIfInBounds_toArray, List.set_cons_zero, List.set_cons_succ, i64_w, i32_w]
            rfl
          refine one_ (i := 33) (N := some 174) #[true, true, true, true, true, true, true, true, true, true, true, true, true, true, true, true, true, true, true, true, true, true, true, true, true, true, true, true, true, true, true, true, true, true, true, false, false, false, false, false, false, false, false, false, false, false, false, false, false, false, false, false, false, false, false] rfl rfl (one_of HT_.out (by kernel_rfl)) (by decide) (fun K hK => ?_)
          refine goes_ Try.func11 (by kernel_rfl) rfl #[.pointer (some ⟨g, 0, none⟩), .int .i64 x.f1] (by rfl) rfl rfl (by (try simp only [List.map_toArray, List.map_cons, List.map_nil]); first | done | rfl) ?_
          refine (place_raw g s' x.f1 w _ (HIP.out.drew.below HBJ.out)).mono ?_
          rintro e wk ⟨rfl, hbk_⟩
          have HBK := Aside0.mk (below_step HBJ.out hbk_)
          clear hbk_
          rw [HPK.out]
          have hswk : (fun w' => w'.cell? ⟨w3.heap.size, 0, none⟩ = some (.int .i64 R) ∧ w'.cell? ⟨w3.heap.size, 1, none⟩ = some (.slice A1 s'.row.length c1) ∧ w'.cell? ⟨w3.heap.size, 2, none⟩ = some (.slice A2 s'.row.length c2) ∧ w'.cell? ⟨wr.heap.size, 1, none⟩ = some (.int .i64 x.f1) ∧ True) wk := by
            have h_ := HBK.out
            exact ⟨(h_.cell (p := ⟨w3.heap.size, 0, none⟩) hl6).trans hp0, (h_.cell (p := ⟨w3.heap.size, 1, none⟩) hl6).trans hp1, (h_.cell (p := ⟨w3.heap.size, 2, none⟩) hl6).trans hp2, (h_.cell (p := ⟨wr.heap.size, 1, none⟩) hl8).trans hp8, trivial⟩
          refine ⟨_, rfl, ?_⟩
          refine hK.out _ _ hswk (fun hHeld => ?_)
          clear hK K
          refine norm_ (a' := ?_) ?_ ?_
          rotate_left
          · show Act.put _ (some 174) _ = _
            simp only [Act.put, List.setIfInBounds_toArray, List.set_cons_zero, List.set_cons_succ, i64_w, i32_w]
            rfl
          refine pure_ (i := 35) (N := some 176) (v := ?_) (a' := ?_) #[true, true, true, true, true, true, true, true, true, true, true, true, true, true, true, true, true, true, true, true, true, true, true, true, true, true, true, true, true, true, true, true, true, true, true, true, false, false, false, false, false, false, false, false, false, false, false, false, false, false, false, false, false, false, false] rfl rfl (any_of HT_.out (by kernel_rfl)) (fun _ _ _ h => h) (Or.inl ⟨by rfl, ?_⟩) ?_ ?_
          rotate_left
          · intro w'
            go_simp
            with_reducible rfl
          rotate_left
          · simp only [Act.put, List.setIfInBounds_toArray, List.set_cons_zero, List.set_cons_succ, i64_w, i32_w]
            rfl
          refine pure_ (i := 36) (N := some 177) (v := ?_) (a' := ?_) #[true, true, true, true, true, true, true, true, true, true, true, true, true, true, true, true, true, true, true, true, true, true, true, true, true, true, true, true, true, true, true, true, true, true, true, true, true, false, false, false, false, false, false, false, false, false, false, false, false, false, false, false, false, false, false] rfl rfl (any_of HT_.out (by kernel_rfl)) (fun _ _ _ h => h) (Or.inl ⟨by rfl, ?_⟩) ?_ ?_
          rotate_left
          · intro w'
            go_simp
            with_reducible rfl
          rotate_left
          · simp only [Act.put, List.setIfInBounds_toArray, List.set_cons_zero, List.set_cons_succ, i64_w, i32_w]
            rfl
          refine pure_ (i := 37) (N := some 178) (v := ?_) (a' := ?_) #[true, true, true, true, true, true, true, true, true, true, true, true, true, true, true, true, true, true, true, true, true, true, true, true, true, true, true, true, true, true, true, true, true, true, true, true, true, true, false, false, false, false, false, false, false, false, false, false, false, false, false, false, false, false, false] rfl rfl (any_of HT_.out (by kernel_rfl)) (fun _ _ _ h => h) (Or.inl ⟨by rfl, ?_⟩) ?_ ?_
          rotate_left
          · intro w'
            go_simp
            with_reducible rfl
          rotate_left
          · simp only [Act.put, List.setIfInBounds_toArray, List.set_cons_zero, List.set_cons_succ, i64_w, i32_w]
            rfl
          refine pure_ (i := 38) (N := some 179) (v := ?_) (a' := ?_) #[true, true, true, true, true, true, true, true, true, true, true, true, true, true, true, true, true, true, true, true, true, true, true, true, true, true, true, true, true, true, true, true, true, true, true, true, true, true, true, false, false, false, false, false, false, false, false, false, false, false, false, false, false, false, false] rfl rfl (any_of HT_.out (by kernel_rfl)) (fun _ _ _ h => h) (Or.inl ⟨by rfl, ?_⟩) ?_ ?_
          rotate_left
          · intro w'
            go_simp
            with_reducible rfl
          rotate_left
          · simp only [Act.put, List.setIfInBounds_toArray, List.set_cons_zero, List.set_cons_succ, i64_w, i32_w]
            rfl
          refine pure_ (i := 39) (N := some 180) (v := ?_) (a' := ?_) #[true, true, true, true, true, true, true, true, true, true, true, true, true, true, true, true, true, true, true, true, true, true, true, true, true, true, true, true, true, true, true, true, true, true, true, true, true, true, true, true, false, false, false, false, false, false, false, false, false, false, false, false, false, false, false] rfl rfl (any_of HT_.out (by kernel_rfl)) (fun _ _ _ h => h) (Or.inl ⟨by rfl, ?_⟩) ?_ ?_
          rotate_left
          · intro w'
            go_simp
            with_reducible rfl
          rotate_left
          · simp only [Act.put, List.setIfInBounds_toArray, List.set_cons_zero, List.set_cons_succ, i64_w, i32_w]
            rfl
          refine pure_ (i := 40) (N := some 181) (v := ?_) (a' := ?_) #[true, true, true, true, true, true, true, true, true, true, true, true, true, true, true, true, true, true, true, true, true, true, true, true, true, true, true, true, true, true, true, true, true, true, true, true, true, true, true, true, true, false, false, false, false, false, false, false, false, false, false, false, false, false, false] rfl rfl (any_of HT_.out (by kernel_rfl)) (fun _ _ _ h => h) (Or.inl ⟨by rfl, ?_⟩) ?_ ?_
          rotate_left
          · intro w'
            go_simp
            with_reducible rfl
          rotate_left
          · simp only [Act.put, List.setIfInBounds_toArray, List.set_cons_zero, List.set_cons_succ, i64_w, i32_w]
            rfl
          refine pure_ (i := 41) (N := some 182) (v := ?_) (a' := ?_) #[true, true, true, true, true, true, true, true, true, true, true, true, true, true, true, true, true, true, true, true, true, true, true, true, true, true, true, true, true, true, true, true, true, true, true, true, true, true, true, true, true, true, false, false, false, false, false, false, false, false, false, false, false, false, false] rfl rfl (any_of HT_.out (by kernel_rfl)) (fun _ _ _ h => h) (Or.inl ⟨by rfl, ?_⟩) ?_ ?_
          rotate_left
          · intro w'
            go_simp
            with_reducible rfl
          rotate_left
          · simp only [Act.put, List.setIfInBounds_toArray, List.set_cons_zero, List.set_cons_succ, i64_w, i32_w]
            rfl
          refine pure_ (i := 42) (N := some 183) (v := ?_) (a' := ?_) #[true, true, true, true, true, true, true, true, true, true, true, true, true, true, true, true, true, true, true, true, true, true, true, true, true, true, true, true, true, true, true, true, true, true, true, true, true, true, true, true, true, true, true, false, false, false, false, false, false, false, false, false, false, false, false] rfl rfl (any_of HT_.out (by kernel_rfl)) (fun _ _ _ h => h) (Or.inl ⟨by rfl, ?_⟩) ?_ ?_
          rotate_left
          · intro w'
            go_simp
            with_reducible rfl
          rotate_left
          · simp only [Act.put, List.setIfInBounds_toArray, List.set_cons_zero, List.set_cons_succ, i64_w, i32_w]
            rfl
          refine pure_ (i := 43) (N := some 184) (v := ?_) (a' := ?_) #[true, true, true, true, true, true, true, true, true, true, true, true, true, true, true, true, true, true, true, true, true, true, true, true, true, true, true, true, true, true, true, true, true, true, true, true, true, true, true, true, true, true, true, true, false, false, false, false, false, false, false, false, false, false, false] rfl rfl (any_of HT_.out (by kernel_rfl)) (fun _ _ _ h => h) (Or.inl ⟨by rfl, ?_⟩) ?_ ?_
          rotate_left
          · intro w'
            go_simp
            with_reducible rfl
          rotate_left
          · simp only [Act.put, List.setIfInBounds_toArray, List.set_cons_zero, List.set_cons_succ, i64_w, i32_w]
            rfl
          refine pure_ (i := 44) (N := some 185) (v := ?_) (a' := ?_) #[true, true, true, true, true, true, true, true, true, true, true, true, true, true, true, true, true, true, true, true, true, true, true, true, true, true, true, true, true, true, true, true, true, true, true, true, true, true, true, true, true, true, true, true, true, false, false, false, false, false, false, false, false, false, false] rfl rfl (any_of HT_.out (by kernel_rfl)) (fun _ _ _ h => h) (Or.inl ⟨by rfl, ?_⟩) ?_ ?_
          rotate_left
          · intro w'
            go_simp
            with_reducible rfl
          rotate_left
          · simp only [Act.put, List.setIfInBounds_toArray, List.set_cons_zero, List.set_cons_succ, i64_w, i32_w]
            rfl
          refine pure_ (i := 45) (N := some 186) (v := ?_) (a' := ?_) #[true, true, true, true, true, true, true, true, true, true, true, true, true, true, true, true, true, true, true, true, true, true, true, true, true, true, true, true, true, true, true, true, true, true, true, true, true, true, true, true, true, true, true, true, true, true, false, false, false, false, false, false, false, false, false] rfl rfl (any_of HT_.out (by kernel_rfl)) (fun _ _ _ h => h) (Or.inl ⟨by rfl, ?_⟩) ?_ ?_
          rotate_left
          · intro w'
            go_simp
            with_reducible rfl
          rotate_left
          · simp only [Act.put, List.setIfInBounds_toArray, List.set_cons_zero, List.set_cons_succ, i64_w, i32_w]
            rfl
          refine pure_ (i := 46) (N := some 187) (v := undef) (a' := ?_) #[true, true, true, true, true, true, true, true, true, true, true, true, true, true, true, true, true, true, true, true, true, true, true, true, true, true, true, true, true, true, true, true, true, true, true, true, true, true, true, true, true, true, true, true, true, true, true, false, false, false, false, false, false, false, false] rfl rfl (any_of HT_.out (by kernel_rfl)) (fun _ _ _ h => h) (Or.inr ⟨by rfl, rfl⟩) ?_ ?_
          rotate_left
          · simp only [Act.put, List.setIfInBounds_toArray, List.set_cons_zero, List.set_cons_succ, i64_w, i32_w]
            rfl
          refine pure_ (i := 47) (N := some 188) (v := undef) (a' := ?_) #[true, true, true, true, true, true, true, true, true, true, true, true, true, true, true, true, true, true, true, true, true, true, true, true, true, true, true, true, true, true, true, true, true, true, true, true, true, true, true, true, true, true, true, true, true, true, true, true, false, false, false, false, false, false, false] rfl rfl (any_of HT_.out (by kernel_rfl)) (fun _ _ _ h => h) (Or.inr ⟨by rfl, rfl⟩) ?_ ?_
          rotate_left
          · simp only [Act.put, List.setIfInBounds_toArray, List.set_cons_zero, List.set_cons_succ, i64_w, i32_w]
            rfl
          refine pure_ (i := 48) (N := some 189) (v := undef) (a' := ?_) #[true, true, true, true, true, true, true, true, true, true, true, true, true, true, true, true, true, true, true, true, true, true, true, true, true, true, true, true, true, true, true, true, true, true, true, true, true, true, true, true, true, true, true, true, true, true, true, true, true, false, false, false, false, false, false] rfl rfl (any_of HT_.out (by kernel_rfl)) (fun _ _ _ h => h) (Or.inr ⟨by rfl, rfl⟩) ?_ ?_
          rotate_left
          · simp only [Act.put, List.setIfInBounds_toArray, List.set_cons_zero, List.set_cons_succ, i64_w, i32_w]
            rfl
          refine pure_ (i := 49) (N := some 190) (v := undef) (a' := ?_) #[true, true, true, true, true, true, true, true, true, true, true, true, true, true, true, true, true, true, true, true, true, true, true, true, true, true, true, true, true, true, true, true, true, true, true, true, true, true, true, true, true, true, true, true, true, true, true, true, true, true, false, false, false, false, false] rfl rfl (any_of HT_.out (by kernel_rfl)) (fun _ _ _ h => h) (Or.inr ⟨by rfl, rfl⟩) ?_ ?_
          rotate_left
          · simp only [Act.put, List.setIfInBounds_toArray, List.set_cons_zero, List.set_cons_succ, i64_w, i32_w]
            rfl
          refine pure_ (i := 50) (N := some 191) (v := undef) (a' := ?_) #[true, true, true, true, true, true, true, true, true, true, true, true, true, true, true, true, true, true, true, true, true, true, true, true, true, true, true, true, true, true, true, true, true, true, true, true, true, true, true, true, true, true, true, true, true, true, true, true, true, true, true, false, false, false, false] rfl rfl (any_of HT_.out (by kernel_rfl)) (fun _ _ _ h => h) (Or.inr ⟨by rfl, rfl⟩) ?_ ?_
          rotate_left
          · simp only [Act.put, List.setIfInBounds_toArray, List.set_cons_zero, List.set_cons_succ, i64_w, i32_w]
            rfl
          refine pure_ (i := 51) (N := some 192) (v := undef) (a' := ?_) #[true, true, true, true, true, true, true, true, true, true, true, true, true, true, true, true, true, true, true, true, true, true, true, true, true, true, true, true, true, true, true, true, true, true, true, true, true, true, true, true, true, true, true, true, true, true, true, true, true, true, true, true, false, false, false] rfl rfl (any_of HT_.out (by kernel_rfl)) (fun _ _ _ h => h) (Or.inr ⟨by rfl, rfl⟩) ?_ ?_
          rotate_left
          · simp only [Act.put, List.setIfInBounds_toArray, List.set_cons_zero, List.set_cons_succ, i64_w, i32_w]
            rfl
          refine pure_ (i := 52) (N := some 193) (v := undef) (a' := ?_) #[true, true, true, true, true, true, true, true, true, true, true, true, true, true, true, true, true, true, true, true, true, true, true, true, true, true, true, true, true, true, true, true, true, true, true, true, true, true, true, true, true, true, true, true, true, true, true, true, true, true, true, true, true, false, false] rfl rfl (any_of HT_.out (by kernel_rfl)) (fun _ _ _ h => h) (Or.inr ⟨by rfl, rfl⟩) ?_ ?_
          rotate_left
          · simp only [Act.put, List.setIfInBounds_toArray, List.set_cons_zero, List.set_cons_succ, i64_w, i32_w]
            rfl
          refine pure_ (i := 53) (N := some 194) (v := ?_) (a' := ?_) #[true, true, true, true, true, true, true, true, true, true, true, true, true, true, true, true, true, true, true, true, true, true, true, true, true, true, true, true, true, true, true, true, true, true, true, true, true, true, true, true, true, true, true, true, true, true, true, true, true, true, true, true, true, true, false] rfl rfl (any_of HT_.out (by kernel_rfl)) (fun _ _ _ h => h) (Or.inl ⟨by rfl, ?_⟩) ?_ ?_
          rotate_left
          · intro w'
            go_simp
            with_reducible rfl
          rotate_left
          · simp only [Act.put, List.setIfInBounds_toArray, List.set_cons_zero, List.set_cons_succ, i64_w, i32_w]
            rfl
          refine pure_ (i := 54) (N := some 195) (v := ?_) (a' := ?_) #[true, true, true, true, true, true, true, true, true, true, true, true, true, true, true, true, true, true, true, true, true, true, true, true, true, true, true, true, true, true, true, true, true, true, true, true, true, true, true, true, true, true, true, true, true, true, true, true, true, true, true, true, true, true, true] rfl rfl (any_of HT_.out (by kernel_rfl)) (fun _ _ _ h => h) (Or.inl ⟨by rfl, ?_⟩) ?_ ?_
          rotate_left
          · intro w'
            go_simp
            with_reducible rfl
          rotate_left
          · simp only [Act.put, List.setIfInBounds_toArray, List.set_cons_zero, List.set_cons_succ, i64_w, i32_w]
            rfl
          refine done_ (done_of HT_.out (by kernel_rfl)) ?_
          have HIZ := Aside0.mk ((HIP.out.drew).below HBK.out)
          have HWZ := Aside0.mk ((below_drew1 HWP.out).trans (HBK.out.mono HWP.out.size))
          have HRZ : Aside0 (RefAt w wk w3.heap.size R s'.row) := ⟨RefAt.below (W := wp.drew) (by obtain ⟨a1, a2, a3, a4, b1, b2, b3, b4, b5⟩ := HRP.out; exact ⟨a1, a2, a3, a4, b1, b2, Kd.R_drew b3, Kd.R_drew b4, b5⟩) HBK.out⟩
          have hz1 : wk.cell? ⟨w3.heap.size, 1, none⟩ = some (.slice A1 s'.row.length c1) := (HBK.out.cell (p := ⟨w3.heap.size, 1, none⟩) hl6).trans hp1
          have hz0 : wk.cell? ⟨w3.heap.size, 0, none⟩ = some (.int .i64 R) := (HBK.out.cell (p := ⟨w3.heap.size, 0, none⟩) hl6).trans hp0
          have hz2 : wk.cell? ⟨w3.heap.size, 2, none⟩ = some (.slice A2 s'.row.length c2) := (HBK.out.cell (p := ⟨w3.heap.size, 2, none⟩) hl6).trans hp2
          have hz8 : wk.cell? ⟨wr.heap.size, 1, none⟩ = some (.int .i64 x.f1) := (HBK.out.cell (p := ⟨wr.heap.size, 1, none⟩) hl8).trans hp8
          have hlk : w3.heap.size < wk.heap.size := Nat.lt_of_lt_of_le hl6 HBK.out.size
          clear hHeld
          by_cases hrow : 0 < s'.row.length
          · skip
            obtain ⟨ad1, hA1, hp11⟩ := Kd.at_int HC1.out.2.2 0 (by omega) (by simp; omega)
            subst hA1
            rw [show ((0 : Int)).toNat = 0 from rfl, Addr.add_zero', ← HFST.out hrow] at hp11
            have hrb : decide (0 < s'.row.length) = true := decide_eq_true hrow
            have hrc : (0 : Int) < (s'.row.length : Int) := by omega
            have hrd : decide ((0 : Int) < (s'.row.length : Int)) = true := decide_eq_true hrc
            have hz11 : wk.cell? ad1 = some (.int .i64 fst) := (HBK.out.cell (World.block_lt_of_cell? wp _ hp11)).trans hp11
            go_wp2
            exact ⟨⟨k + 1, s', by omega, by rw [show ((k : Int) + 1) = ((k + 1 : Nat) : Int) by omega], HIN', HIZ, HWZ, HRZ⟩, by simp [intOf]; omega⟩
          · skip
            have hr0 : s'.row.length = 0 := by omega
            have hrb : decide (0 < s'.row.length) = false := decide_eq_false hrow
            have hrc : ¬ (0 : Int) < (s'.row.length : Int) := by omega
            have hrd : decide ((0 : Int) < (s'.row.length : Int)) = false := decide_eq_false hrc
            go_wp2
            exact ⟨⟨k + 1, s', by omega, by rw [show ((k : Int) + 1) = ((k + 1 : Nat) : Int) by omega], HIN', HIZ, HWZ, HRZ⟩, by simp [intOf]; omega⟩
    · have hke : k = ne := by omega
      subst hke
      have HBE := Aside0.mk HB.out
      clear hk hlt
      go_wp2
      go_ret
      exact ⟨rfl, HBE.out⟩
end Go.Proofs.Ytdcnmjdohjodhaa.Qp
