/-
  Contracts of the wheel's New, At, Len, Cancel, Set, Next. Conditions: none.
-/
import Derived.Test.YtfflhppieogkbaaFi
import Derived.Test.YtfflhppieogkbaaPAx1
import Derived.Deep.RegionLaw
set_option linter.unusedVariables false
set_option linter.unusedSimpArgs false
set_option maxRecDepth 100000
namespace Go.Proofs.Ytfflhppieogkbaa.Hp
open Go Go.RowKit Go.Proofs.YtfflhppieogkbaaW.PrintWords Go.Proofs.YtfflhppieogkbaaW.PrintLast Go.Proofs.YtfflhppieogkbaaW.PrintMore Go.Proofs.Ytfflhppieogkbaa.Mp Go.Proofs.Ytfflhppieogkbaa.PA
abbrev kI := Kd.int .i64
def cut (x : Int) : Int := mn (mx x 0) 1099511627776
theorem cut_range (x : Int) : 0 ≤ cut x ∧ cut x ≤ 1099511627776 := by
  unfold cut mn mx
  constructor <;> (repeat' split) <;> omega
theorem wfI {x : Int} (h0 : -9223372036854775808 ≤ x) (h1 : x ≤ 9223372036854775807) : I64 x := WalkArith.wf_i64 (by omega)
theorem cutI (x : Int) : I64 (cut x) := by have := cut_range x; exact wfI (by omega) (by omega)
theorem cut_call (x : Int) (w : World) : Calls Try.prog 31 #[.int .i64 x] w fun e w' => e = .returned (.int .i64 (cut x)) ∧ Below w.heap.size w w' := sat_Cut.calls x (cut x) w rfl
def set.T5 : Bool × List (List Nat × List Nat) := (true, [([], []), ([0], [0]), ([1], [1]), ([2], [2]), ([], []), ([4], [4]), ([5], [5]), ([6], [6]), ([], []), ([7, 8], [7, 8]), ([], []), ([9, 10], [9, 10]), ([11], [11]), ([3, 12], [3, 12])])
theorem set.tab5 : rtab .any (opsOf Try.f15 5) = set.T5 := by kernel_rfl
def set.T4 : Bool × List (List Nat × List Nat) := (true, [([], []), ([0], [0]), ([1], [1]), ([2], [2]), ([], []), ([], []), ([5], [5]), ([3, 4, 6, 6, 0, 1, 2, 3, 4, 5, 6], [3, 4, 6])])
theorem set.tab4 : rtab .any (opsOf Try.f15 4) = set.T4 := by kernel_rfl
def past (now t : Int) : Bool := decide (cut t ≤ cut now)
theorem past_f (now t : Int) : sat_Past.f now t = some (past now t) := by
  show some ((mx (wrap64 (cut t - cut now)) 0) == 0) = _
  have h1 := cut_range t
  have h2 := cut_range now
  rw [IntWalk.wrap64_in _ (by omega)]
  unfold past mx
  by_cases h : cut t ≤ cut now
  · rw [decide_eq_true h]
    split
    · rfl
    · have : cut t - cut now = 0 := by omega
      rw [this]; rfl
  · rw [decide_eq_false h, if_neg (by omega)]
    congr 1
    rw [beq_eq_false_iff_ne]
    omega
theorem past_call (now t : Int) (w : World) : Calls Try.prog 34 #[.int .i64 now, .int .i64 t] w fun e w' => e = .returned (.bool (past now t)) ∧ Below w.heap.size w w' := sat_Past.calls now t _ w (past_f now t)
theorem cut_mono {a b : Int} (h : a ≤ b) : cut a ≤ cut b := by
  unfold cut mn mx
  (repeat' split) <;> omega
theorem past_mono {now a b : Int} (h : a ≤ b) (hp : past now a = false) : past now b = false := by
  unfold past at *
  rw [decide_eq_false_iff_not] at *
  have := cut_mono h
  omega
section
variable {w0 w W W1 : World} {g : Nat} {s : WS} {l : PL} {xs : List E66}
theorem IsW.open_ (h : IsW w0 W g s) : ∃ mb A n xs, W.heap[g]? = some (.cells #[.map (some mb), .slice A xs.length n] 62 (0, 0)) ∧ w0.heap.size ≤ g ∧ MapI W mb s.ats ∧ w0.heap.size ≤ mb ∧
    k66.R 66 W w0.heap.size (fun _ => True) (.slice A xs.length n) xs ∧ Heap xs ∧ Covers xs s.ats ∧ Good xs ∧ xs.length ≤ s.m := by
  obtain ⟨xs, h, hl⟩ := h
  obtain ⟨mb, A, n, hb, hg, hM, hgm, hR, hH, hC, hG⟩ := h.open_
  exact ⟨mb, A, n, xs, hb, hg, hM, hgm, hR, hH, hC, hG, hl⟩
theorem at_raw (k : Int) (hk : I64 k) (hI : IsW w0 W g s) : Calls Try.prog 19 #[.pointer (some ⟨g, 0, none⟩), .int .i64 k] W fun e w' => e = .returned (.tuple #[.int .i64 (code s.ats k), .bool (Mp.look s.ats k).isSome]) ∧ W = w' := by
  obtain ⟨mb, A, n, xs, hb, _, hM, _⟩ := hI.open_
  have c0 : W.cell? ⟨g, 0, none⟩ = some (.map (some mb)) := (blk_cell hb 0).trans rfl
  have hlk := hM.look_ok 58 Try.underlying58 hk
  generalize code s.ats k = c at hlk ⊢
  generalize (Mp.look s.ats k).isSome = q at hlk ⊢
  clear hb hM hI
  go_enter Try.func19, Try.ntmps19
  go_wp2
  go_ret2
  exact ⟨rfl, rfl⟩
theorem at_nil (k : Int) (w : World) : Calls Try.prog 19 #[.pointer none, .int .i64 k] w fun e w' => e = .returned (.tuple #[.int .i64 0, .bool false]) ∧ w = w' := by
  go_enter Try.func19, Try.ntmps19
  go_wp2
  go_ret2
  exact ⟨rfl, rfl⟩
theorem len_any (hI : IsW w0 W g s) : Calls Try.prog 18 #[.pointer (some ⟨g, 0, none⟩)] W fun e w' => e = .returned (.int .i64 (s.ats.length : Int)) ∧ W = w' := by
  obtain ⟨mb, A, n, xs, hb, _, hM, _⟩ := hI.open_
  have c0 : W.cell? ⟨g, 0, none⟩ = some (.map (some mb)) := (blk_cell hb 0).trans rfl
  have hln := fun ty => hM.len 58 Try.underlying58 ty
  generalize (s.ats.length : Int) = c at hln ⊢
  clear hb hM hI
  go_enter Try.func18, Try.ntmps18
  go_wp2
  go_ret
  exact ⟨rfl, rfl⟩
theorem len_nil (w : World) : Calls Try.prog 18 #[.pointer none] w fun e w' => e = .returned (.int .i64 0) ∧ w = w' := by
  go_enter Try.func18, Try.ntmps18
  go_wp2
  go_ret
  exact ⟨rfl, rfl⟩
theorem cancel_nil (k : Int) (w : World) : Calls Try.prog 16 #[.pointer none, .int .i64 k] w fun e w' => e = .returned (.bool false) ∧ w = w' := by
  go_enter Try.func16, Try.ntmps16
  go_wp2
  go_ret
  exact ⟨rfl, rfl⟩
theorem set_nil (k a : Int) (w : World) : Calls Try.prog 15 #[.pointer none, .int .i64 k, .int .i64 a] w fun e w' => e = .returned (.bool false) ∧ w = w' := by
  go_enter Try.func15, Try.ntmps15
  go_wp2
  go_ret
  exact ⟨rfl, rfl⟩
theorem Covers.rem {xs : List E66} {l : PL} (h : Covers xs l) (k : Int) : Covers xs (rem l k) := fun p hp => h p (mem_rem.1 hp).1
/-- Keys and ticks are the machine's numbers. -/
theorem IsX.keyI (h : IsX w0 W g l xs) : ∀ p ∈ l, I64 p.1 ∧ I64 p.2 := fun p hp => by
  obtain ⟨mb, v, _, _, _, _, _, _, hC, hG⟩ := h
  exact ⟨(hG _ (hC p hp)).2, (hG _ (hC p hp)).1⟩
set_option maxHeartbeats 4000000 in
theorem cancel_any (k : Int) (hk : I64 k) (hI : IsW w0 W g s) : Calls Try.prog 16 #[.pointer (some ⟨g, 0, none⟩), .int .i64 k] W fun e w' => e = .returned (.bool (Mp.look s.ats k).isSome) ∧ IsW w0 w' g ⟨rem s.ats k, s.m⟩ ∧ Kp g W w' := by
  obtain ⟨mb, A, n, xs, hb, hg, hM, hgm, hR, hH, hC, hG, hl⟩ := hI.open_
  have c0 : W.cell? ⟨g, 0, none⟩ = some (.map (some mb)) := (blk_cell hb 0).trans rfl
  have hlk := hM.look_ok 58 Try.underlying58 hk
  obtain ⟨q, hq⟩ : ∃ q, (Mp.look s.ats k).isSome = q := ⟨_, rfl⟩
  rw [hq] at hlk ⊢
  obtain ⟨c, hc⟩ : ∃ c, code s.ats k = c := ⟨_, rfl⟩
  rw [hc] at hlk
  have hdl : ∃ W', (∀ ty, (Builtin.delete_ #[58, 3] ty #[.map (some mb), .int .i64 k]).run Try.prog W = .ok (.tuple #[]) W') ∧ MapI W' mb (rem s.ats k) ∧ W.grownBy W' (some mb) := by
    obtain ⟨W', h1, h2, h3, _⟩ := hM.del 58 Try.underlying58 hk 0
    refine ⟨W', fun ty => ?_, h2, h3⟩
    rw [← h1]
    rfl
  obtain ⟨W', hrun, hM', hg'⟩ := hdl
  have HFIN : Aside0 (IsW w0 W' g ⟨rem s.ats k, s.m⟩ ∧ Kp g W W') := by
    have hgb : W'.heap[g]? = some (.cells #[.map (some mb), .slice A xs.length n] 62 (0, 0)) := (hg'.block g (blk_lt hb) (fun e => ne_map hb hM (by injection e))).trans hb
    refine ⟨⟨xs, ⟨mb, _, hgb, hg, hM', hgm, ?_, hH, hC.rem k, hG⟩, hl⟩, Kp.of hb hgb (Tch.of_grown (S := fun b => b = mb) hg' (fun b hb => by injection hb with hb; exact hb.symm)) (fun b hb => .inr (.inl hb)) (fun b hb => .inl hb)⟩
    exact Kd.R_mono (Kd.R_grown (Kd.R_tight rfl hR) hg' (fun b hk e => row_ne_map hR hM (by rw [← e]; exact hk))) (fun _ _ => trivial)
  clear hb hM hI hR hH hC hG hM' hg' hq hc hg hgm
  go_enter Try.func16, Try.ntmps16
  go_wp2
  go_ret
  exact ⟨rfl, HFIN.out⟩
set_option maxHeartbeats 4000000 in
theorem new_raw (w0 w : World) (hB : Below w0.heap.size w0 w) : Calls Try.prog 14 #[] w fun e w' => ∃ g : Nat, e = .returned (.pointer (some ⟨g, 0, none⟩)) ∧ IsW w0 w' g ⟨[], 0⟩ ∧ Below w.heap.size w w' ∧ w.heap.size ≤ g := by
  have hmm := @run_makeMap Try.prog
  have HB := Aside0.mk hB
  clear hB
  go_enter Try.func14, Try.ntmps14
  go_wp2
  go_ret
  have hgb0 : ((w.alloc (.map #[] 0)).alloc (.cells #[.map (some w.heap.size), .slice none 0 0] 62)).heap[w.heap.size + 1]? = some (.cells #[.map (some w.heap.size), .slice none 0 0] 62 (0, 0)) := by
    have := heap_alloc_new (w.alloc (.map #[] 0)) (.cells #[.map (some w.heap.size), .slice none 0 0] 62)
    simpa using this
  have hM0 : MapI ((w.alloc (.map #[] 0)).alloc (.cells #[.map (some w.heap.size), .slice none 0 0] 62)) w.heap.size [] := by
    refine (MapI.made w).step ?_
    rw [Below.heap_alloc _ _ _ (by simp)]
  have hs := HB.out.size
  refine ⟨w.heap.size + 1, rfl, ⟨[], ⟨w.heap.size, .slice none 0 0, hgb0, by omega, hM0, hs, Kd.R_nil _ _ _ _ _, fun i h1 h2 => by simp at h2, fun p hp => by simp at hp, fun x hx => by simp at hx⟩, Nat.le_refl _⟩, below_alloc (below_alloc (Below.refl _ _) _) _, by omega⟩
theorem Covers.put {xs xs' : List E66} {l : PL} {k a : Int} (h : Covers xs l) (hm : ∀ y, y ∈ xs' ↔ y = (⟨a, k⟩ : E66) ∨ y ∈ xs) : Covers xs' (put l k a) := fun p hp => by
  rcases mem_put.1 hp with rfl | ⟨h1, _⟩
  · exact (hm _).2 (.inl rfl)
  · exact (hm _).2 (.inr (h p h1))
set_option maxHeartbeats 4000000 in
theorem set_any (k a : Int) (hk : I64 k) (hI : IsW w0 W g s) (hB : Below w0.heap.size w0 W) (hm : s.m ≤ 1000) (hln : s.ats.length ≤ 1000) : Calls Try.prog 15 #[.pointer (some ⟨g, 0, none⟩), .int .i64 k, .int .i64 a] W fun e w' => e = .returned (.bool (Mp.look s.ats k).isSome) ∧ IsW w0 w' g ⟨put s.ats k (cut a), s.m + 1⟩ ∧ Kp g W w' := by
  have HI := Aside0.mk hI
  obtain ⟨mb, A, n, xs, hb, hg, hM, hgm, hR, hH, hC, hG, hl⟩ := hI.open_
  have c0 : W.cell? ⟨g, 0, none⟩ = some (.map (some mb)) := (blk_cell hb 0).trans rfl
  have hgl := blk_lt hb
  have hlk := hM.look_ok 58 Try.underlying58 hk
  obtain ⟨q, hq⟩ : ∃ q, (Mp.look s.ats k).isSome = q := ⟨_, rfl⟩
  rw [hq] at hlk ⊢
  obtain ⟨c, hc⟩ : ∃ c, code s.ats k = c := ⟨_, rfl⟩
  rw [hc] at hlk
  obtain ⟨r, hr⟩ : ∃ r, cut a = r := ⟨_, rfl⟩
  have hrI : I64 r := by rw [← hr]; exact cutI a
  have HCUT := Aside0.mk (fun w => cut_call a w)
  rw [hr] at HCUT ⊢
  have HPUT := Aside0.mk (fun (w1 : World) (h : MapI w1 mb s.ats) => h.put 58 Try.underlying58 hk hrI (by omega))
  have HLK := Aside0.mk (fun (w1 : World) (h : MapI w1 mb (put s.ats k r)) => h.lookup 58 Try.underlying58 hk)
  rw [code_put_same hM.1] at HLK
  have HGB := Aside0.mk hb
  have HM := Aside0.mk hM
  have HR := Aside0.mk hR
  have HH := Aside0.mk hH
  have HC := Aside0.mk hC
  have HG := Aside0.mk hG
  have HL := Aside0.mk hl
  have HMM := Aside0.mk hm
  have HB := Aside0.mk hB
  have HGE := Aside0.mk hg
  have HGM := Aside0.mk hgm
  have HKI := Aside0.mk hk
  have HRI := Aside0.mk hrI
  clear hb hM hI hR hH hC hG hg hgm hq hc hr hrI hl hm hln hB hk
  go_enter Try.func15, Try.ntmps15
  go_upto_region 4 with fail
  refine start_ (n := 8) (S := fun w' => w'.cell? ⟨g, 0, none⟩ = some (.map (some mb))) (ds := [7]) #[false, false, false, false, false, false, false, false] (by kernel_rfl) rfl rfl c0 (fun hHeld => ?_); refine with_tab set.tab4 (fun HT_ => ?_)
  refine pure_ (i := 0) (N := some 20) (v := ?_) (a' := ?_) #[true, false, false, false, false, false, false, false] rfl rfl (any_of HT_.out (by kernel_rfl)) (fun _ _ _ h => h) (Or.inl ⟨by rfl, ?_⟩) ?_ ?_
  rotate_left
  · intro w'
    go_simp
    with_reducible rfl
  rotate_left
  · simp only [Act.put, List.setIfInBounds_toArray, List.set_cons_zero, List.set_cons_succ, i64_w, i32_w]
    rfl
  refine pure_ (i := 1) (N := some 21) (v := ?_) (a' := ?_) #[true, true, false, false, false, false, false, false] rfl rfl (any_of HT_.out (by kernel_rfl)) (fun _ _ _ h => h) (Or.inl ⟨by rfl, ?_⟩) ?_ ?_
  rotate_left
  · intro w'
    go_simp
    with_reducible rfl
  rotate_left
  · simp only [Act.put, List.setIfInBounds_toArray, List.set_cons_zero, List.set_cons_succ, i64_w, i32_w]
    rfl
  refine pure_ (i := 2) (N := some 22) (v := ?_) (a' := ?_) #[true, true, true, false, false, false, false, false] rfl rfl (any_of HT_.out (by kernel_rfl)) (fun _ _ _ h => h) (Or.inl ⟨by rfl, ?_⟩) ?_ ?_
  rotate_left
  · intro w'
    go_simp
    with_reducible rfl
  rotate_left
  · simp only [Act.put, List.setIfInBounds_toArray, List.set_cons_zero, List.set_cons_succ, i64_w, i32_w]
    rfl
  refine pure_ (i := 4) (N := some 24) (v := ?_) (a' := ?_) #[true, true, true, false, true, false, false, false] rfl rfl (any_of HT_.out (by kernel_rfl)) (fun _ _ _ h => h) (Or.inl ⟨by rfl, ?_⟩) ?_ ?_
  rotate_left
  · intro w'
    go_simp
    with_reducible rfl
  rotate_left
  · simp only [Act.put, List.setIfInBounds_toArray, List.set_cons_zero, List.set_cons_succ, i64_w, i32_w]
    rfl
  refine pure_ (i := 5) (N := some 25) (v := ?_) (a' := ?_) #[true, true, true, false, true, true, false, false] rfl rfl (any_of HT_.out (by kernel_rfl)) (fun _ _ _ h => h) (Or.inl ⟨by rfl, ?_⟩) ?_ ?_
  rotate_left
  · intro w'
    go_simp
    with_reducible rfl
  rotate_left
  · simp only [Act.put, List.setIfInBounds_toArray, List.set_cons_zero, List.set_cons_succ, i64_w, i32_w]
    rfl
  refine take_ (i := 3) (N := some 23) (v := ?_) (a' := ?_) #[true, true, true, true, true, true, false, false] rfl rfl (take_of HT_.out (by kernel_rfl)) (fun _ _ _ h => h) (Or.inl ⟨by rfl, ?_⟩) hHeld ?_ ?_
  rotate_left
  · intro w' hS_
    have s0 := hS_
    go_simp
    with_reducible rfl
  rotate_left
  · simp only [Act.put, List.setIfInBounds_toArray, List.set_cons_zero, List.set_cons_succ, i64_w, i32_w]
    rfl
  refine one_ (i := 6) (N := some 26) #[true, true, true, true, true, true, true, false] rfl rfl (one_of HT_.out (by kernel_rfl)) (by decide) (fun K hK => ?_)
  refine goes_ Try.func31 (by kernel_rfl) rfl #[.int .i64 a] (by rfl) rfl rfl (by (try simp only [List.map_toArray, List.map_cons, List.map_nil]); first | done | rfl) ?_
  refine (HCUT.out _).mono ?_
  rintro e w1 ⟨rfl, hb1⟩
  have hbb := below_step (below_drew1 (Below.refl _ _)) hb1
  have HB1 := Aside0.mk hbb
  have HGB1 := Aside0.mk (blk_below HGB.out hbb)
  have c1 : w1.cell? ⟨g, 0, none⟩ = some (.map (some mb)) := (blk_cell HGB1.out 0).trans rfl
  obtain ⟨w2, hrun2, hM2, hg2, _⟩ := HPUT.out w1 (HM.out.step (hbb.block _ HM.out.lt))
  have HM2 := Aside0.mk hM2
  have HG2 := Aside0.mk hg2
  clear hb1 hbb hM2 hg2
  refine ⟨_, rfl, ?_⟩
  refine hK.out _ _ c1 (fun hHeld => ?_)
  clear hK K
  refine norm_ (a' := ?_) ?_ ?_
  rotate_left
  · show Act.put _ (some 26) _ = _
    simp only [Act.put, List.setIfInBounds_toArray, List.set_cons_zero, List.set_cons_succ, i64_w, i32_w]
    rfl
  refine last_ (i := 7) (N := none) #[true, true, true, true, true, true, true, true] rfl rfl (one_of HT_.out (by kernel_rfl)) (by decide) (fun K hK => ?_)
  refine put_ (w1 := ?_) (by rfl) rfl ?_ ?_
  rotate_left
  · go_simp
    rfl
  refine hK.out _ _ ?_
  clear hK K
  refine done_ (done_of HT_.out (by kernel_rfl)) ?_
  clear hHeld
  have hne : some g ≠ some mb := fun e => ne_map HGB.out HM.out (by injection e)
  have HGB2 := Aside0.mk ((HG2.out.block g (blk_lt HGB1.out) hne).trans HGB1.out)
  have HR2 : Aside0 (k66.R 66 w2 w0.heap.size (fun _ => True) (.slice A xs.length n) xs) := ⟨Kd.R_mono (Kd.R_grown (Kd.R_tight rfl (Kd.R_below HR.out HB1.out)) HG2.out (fun b hk e => row_ne_map HR.out HM.out (by rw [← e]; exact hk))) (fun _ _ => trivial)⟩
  have HT2 : Aside0 (Tch (fun b => b = mb) W w2) := ⟨(Tch.of_below HB1.out).trans (Tch.of_grown HG2.out (fun b hb => by injection hb with hb; exact hb.symm))⟩
  have HB2 : Aside0 (Below w0.heap.size w0 w2) := ⟨HT2.out.below HB.out HB.out.size (fun b _ hb => by rw [hb]; exact HGM.out)⟩
  have c2 : w2.cell? ⟨g, 0, none⟩ = some (.map (some mb)) := (blk_cell HGB2.out 0).trans rfl
  have hlk2 : (Instr.lookup 58 (.map (some mb)) (.int .i64 k) false).run Try.prog w2.drew = .ok (.int .i64 r) w2.drew := HLK.out w2.drew (HM2.out.step rfl)
  have HPU := Aside0.mk (push_raw (W := w2.drew) ⟨r, k⟩ (show w2.drew.heap[g]? = _ from HGB2.out) (Kd.R_drew HR2.out) (below_drew1 HB2.out) (by have := HL.out; have := HMM.out; omega) HH.out)
  clear hrun2 c1 hlk
  go_upto_region 5 with fail
  refine start_ (n := 14) (S := fun w' => w'.cell? ⟨g, 0, none⟩ = some (.map (some mb)) ∧ (Instr.lookup 58 (.map (some mb)) (.int .i64 k) false).run Try.prog w' = .ok (.int .i64 r) w') (ds := []) #[false, false, false, false, false, false, false, false, false, false, false, false, false, false] (by kernel_rfl) rfl rfl ⟨c2, hlk2⟩ (fun hHeld => ?_); refine with_tab set.tab5 (fun HT_ => ?_)
  refine pure_ (i := 0) (N := some 27) (v := ?_) (a' := ?_) #[true, false, false, false, false, false, false, false, false, false, false, false, false, false] rfl rfl (any_of HT_.out (by kernel_rfl)) (fun _ _ _ h => h) (Or.inl ⟨by rfl, ?_⟩) ?_ ?_
  rotate_left
  · intro w'
    go_simp
    with_reducible rfl
  rotate_left
  · simp only [Act.put, List.setIfInBounds_toArray, List.set_cons_zero, List.set_cons_succ, i64_w, i32_w]
    rfl
  refine pure_ (i := 1) (N := some 28) (v := ?_) (a' := ?_) #[true, true, false, false, false, false, false, false, false, false, false, false, false, false] rfl rfl (any_of HT_.out (by kernel_rfl)) (fun _ _ _ h => h) (Or.inl ⟨by rfl, ?_⟩) ?_ ?_
  rotate_left
  · intro w'
    go_simp
    with_reducible rfl
  rotate_left
  · simp only [Act.put, List.setIfInBounds_toArray, List.set_cons_zero, List.set_cons_succ, i64_w, i32_w]
    rfl
  refine pure_ (i := 2) (N := some 29) (v := ?_) (a' := ?_) #[true, true, true, false, false, false, false, false, false, false, false, false, false, false] rfl rfl (any_of HT_.out (by kernel_rfl)) (fun _ _ _ h => h) (Or.inl ⟨by rfl, ?_⟩) ?_ ?_
  rotate_left
  · intro w'
    go_simp
    with_reducible rfl
  rotate_left
  · simp only [Act.put, List.setIfInBounds_toArray, List.set_cons_zero, List.set_cons_succ, i64_w, i32_w]
    rfl
  refine pure_ (i := 3) (N := some 30) (v := ?_) (a' := ?_) #[true, true, true, true, false, false, false, false, false, false, false, false, false, false] rfl rfl (any_of HT_.out (by kernel_rfl)) (fun _ _ _ h => h) (Or.inl ⟨by rfl, ?_⟩) ?_ ?_
  rotate_left
  · intro w'
    go_simp
    with_reducible rfl
  rotate_left
  · simp only [Act.put, List.setIfInBounds_toArray, List.set_cons_zero, List.set_cons_succ, i64_w, i32_w]
    rfl
  refine pure_ (i := 4) (N := some 31) (v := ?_) (a' := ?_) #[true, true, true, true, true, false, false, false, false, false, false, false, false, false] rfl rfl (any_of HT_.out (by kernel_rfl)) (fun _ _ _ h => h) (Or.inl ⟨by rfl, ?_⟩) ?_ ?_
  rotate_left
  · intro w'
    go_simp
    with_reducible rfl
  rotate_left
  · simp only [Act.put, List.setIfInBounds_toArray, List.set_cons_zero, List.set_cons_succ, i64_w, i32_w]
    rfl
  refine pure_ (i := 5) (N := some 32) (v := ?_) (a' := ?_) #[true, true, true, true, true, true, false, false, false, false, false, false, false, false] rfl rfl (any_of HT_.out (by kernel_rfl)) (fun _ _ _ h => h) (Or.inl ⟨by rfl, ?_⟩) ?_ ?_
  rotate_left
  · intro w'
    go_simp
    with_reducible rfl
  rotate_left
  · simp only [Act.put, List.setIfInBounds_toArray, List.set_cons_zero, List.set_cons_succ, i64_w, i32_w]
    rfl
  refine pure_ (i := 6) (N := some 33) (v := ?_) (a' := ?_) #[true, true, true, true, true, true, true, false, false, false, false, false, false, false] rfl rfl (any_of HT_.out (by kernel_rfl)) (fun _ _ _ h => h) (Or.inl ⟨by rfl, ?_⟩) ?_ ?_
  rotate_left
  · intro w'
    go_simp
    with_reducible rfl
  rotate_left
  · simp only [Act.put, List.setIfInBounds_toArray, List.set_cons_zero, List.set_cons_succ, i64_w, i32_w]
    rfl
  refine pure_ (i := 8) (N := some 35) (v := ?_) (a' := ?_) #[true, true, true, true, true, true, true, false, true, false, false, false, false, false] rfl rfl (any_of HT_.out (by kernel_rfl)) (fun _ _ _ h => h) (Or.inl ⟨by rfl, ?_⟩) ?_ ?_
  rotate_left
  · intro w'
    go_simp
    with_reducible rfl
  rotate_left
  · simp only [Act.put, List.setIfInBounds_toArray, List.set_cons_zero, List.set_cons_succ, i64_w, i32_w]
    rfl
  refine pure_ (i := 10) (N := some 37) (v := ?_) (a' := ?_) #[true, true, true, true, true, true, true, false, true, false, true, false, false, false] rfl rfl (any_of HT_.out (by kernel_rfl)) (fun _ _ _ h => h) (Or.inl ⟨by rfl, ?_⟩) ?_ ?_
  rotate_left
  · intro w'
    go_simp
    with_reducible rfl
  rotate_left
  · simp only [Act.put, List.setIfInBounds_toArray, List.set_cons_zero, List.set_cons_succ, i64_w, i32_w]
    rfl
  refine take_ (i := 7) (N := some 34) (v := ?_) (a' := ?_) #[true, true, true, true, true, true, true, true, true, false, true, false, false, false] rfl rfl (take_of HT_.out (by kernel_rfl)) (fun _ _ _ h => h) (Or.inl ⟨by rfl, ?_⟩) hHeld ?_ ?_
  rotate_left
  · intro w' hS_
    obtain ⟨s0, s1⟩ := hS_
    go_simp
    with_reducible rfl
  rotate_left
  · simp only [Act.put, List.setIfInBounds_toArray, List.set_cons_zero, List.set_cons_succ, i64_w, i32_w]
    rfl
  refine take_ (i := 9) (N := some 36) (v := ?_) (a' := ?_) #[true, true, true, true, true, true, true, true, true, true, true, false, false, false] rfl rfl (take_of HT_.out (by kernel_rfl)) (fun _ _ _ h => h) (Or.inl ⟨by rfl, ?_⟩) hHeld ?_ ?_
  rotate_left
  · intro w' hS_
    obtain ⟨s0, s1⟩ := hS_
    go_simp
    with_reducible rfl
  rotate_left
  · simp only [Act.put, List.setIfInBounds_toArray, List.set_cons_zero, List.set_cons_succ, i64_w, i32_w]
    rfl
  refine pure_ (i := 11) (N := some 38) (v := ?_) (a' := ?_) #[true, true, true, true, true, true, true, true, true, true, true, true, false, false] rfl rfl (any_of HT_.out (by kernel_rfl)) (fun _ _ _ h => h) (Or.inl ⟨by rfl, ?_⟩) ?_ ?_
  rotate_left
  · intro w'
    go_simp
    with_reducible rfl
  rotate_left
  · simp only [Act.put, List.setIfInBounds_toArray, List.set_cons_zero, List.set_cons_succ, i64_w, i32_w]
    rfl
  refine pure_ (i := 12) (N := some 39) (v := ?_) (a' := ?_) #[true, true, true, true, true, true, true, true, true, true, true, true, true, false] rfl rfl (any_of HT_.out (by kernel_rfl)) (fun _ _ _ h => h) (Or.inl ⟨by rfl, ?_⟩) ?_ ?_
  rotate_left
  · intro w'
    go_simp
    with_reducible rfl
  rotate_left
  · simp only [Act.put, List.setIfInBounds_toArray, List.set_cons_zero, List.set_cons_succ, i64_w, i32_w]
    rfl
  refine one_ (i := 13) (N := some 40) #[true, true, true, true, true, true, true, true, true, true, true, true, true, true] rfl rfl (one_of HT_.out (by kernel_rfl)) (by decide) (fun K hK => ?_)
  refine goes_ Try.func32 (by kernel_rfl) rfl #[.iface 64 (.pointer (some ⟨g, 1, none⟩)), .iface 66 (.agg #[.int .i64 r, .int .i64 k])] (by rfl) rfl rfl (by (try simp only [List.map_toArray, List.map_cons, List.map_nil]); first | done | rfl) ?_
  refine HPU.out.mono ?_
  rintro e w3 ⟨rfl, v', xs', hb3, hR3, hH3, hm3, hl3, ht3, hv3⟩
  have HB3 := Aside0.mk hb3
  have HR3 := Aside0.mk hR3
  have HH3 := Aside0.mk hH3
  have HM3 := Aside0.mk hm3
  have HL3 := Aside0.mk hl3
  have HT3 := Aside0.mk ht3
  have HV3 := Aside0.mk hv3
  have c3 : w3.cell? ⟨g, 0, none⟩ = some (.map (some mb)) := (blk_cell HB3.out 0).trans rfl
  have hlk3 := HLK.out w3 (HM2.out.step (HT3.out.block mb (show mb < w2.drew.heap.size from HM2.out.lt) (fun h => h.elim (fun h => ne_map HGB.out HM.out h.symm) (fun h => row_ne_map HR.out HM.out h.symm))))
  clear hb3 hR3 hH3 hm3 hl3 ht3 hv3
  refine ⟨_, rfl, ?_⟩
  refine hK.out _ _ ⟨c3, hlk3⟩ (fun hHeld => ?_)
  clear hK K
  refine norm_ (a' := ?_) ?_ ?_
  rotate_left
  · show Act.put _ (some 40) _ = _
    simp only [Act.put, List.setIfInBounds_toArray, List.set_cons_zero, List.set_cons_succ, i64_w, i32_w]
    rfl
  refine done_ (done_of HT_.out (by kernel_rfl)) ?_
  clear hHeld hlk3
  go_wp2
  go_ret
  have hmg : ¬ (mb = g ∨ (Value.slice A xs.length n).ownBlock = some mb) := by
    rintro (h | h)
    · exact ne_map HGB.out HM.out h.symm
    · exact row_ne_map HR.out HM.out h.symm
  have hs2 := HT2.out.size
  refine ⟨rfl, ⟨xs', ⟨mb, v', HB3.out, HGE.out, HM2.out.step (HT3.out.block mb (show mb < w2.drew.heap.size from HM2.out.lt) hmg), HGM.out, HR3.out, HH3.out, HC.out.put HM3.out, fun y hy => ?_⟩, ?_⟩,
    Kp.of HGB.out HB3.out (((HT2.out.drew).mono (S' := fun k => k = mb ∨ k = g ∨ (Value.slice A xs.length n).ownBlock = some k) (fun b hb => .inl hb)).trans (HT3.out.mono (fun b hb => .inr hb))) (fun b hb => ?_) (fun b hb => ?_)⟩
  · rcases (HM3.out y).1 hy with e | e
    · rw [e]; exact ⟨HRI.out, HKI.out⟩
    · exact HG.out y e
  · have := HL.out
    have := HL3.out
    show xs'.length ≤ s.m + 1
    omega
  · rcases hb with h | h | h
    · exact .inr (.inl h)
    · exact .inl h
    · exact .inr (.inr h)
  · rcases HV3.out b hb with h | h
    · exact .inl h
    · exact .inr (Nat.le_trans hs2 h)
def NextIs (l : PL) (e : Ending) : Prop := (l = [] ∧ e = .returned (.tuple #[.int .i64 0, .bool false])) ∨ ∃ p ∈ l, e = .returned (.tuple #[.int .i64 p.2, .bool true]) ∧ ∀ q ∈ l, p.2 ≤ q.2
set_option maxHeartbeats 4000000 in
theorem next_any (hI : IsW w0 W g s) (hB : Below w0.heap.size w0 W) (hm : s.m ≤ 90000) : Calls Try.prog 20 #[.pointer (some ⟨g, 0, none⟩)] W fun e w' => NextIs s.ats e ∧ IsW w0 w' g s ∧ Kp g W w' := by
  obtain ⟨xs, hX, hl⟩ := hI
  have HL := Aside0.mk hl
  by_cases hz : s.ats = []
  · have HF : Aside0 (Calls Try.prog 33 #[.pointer (some ⟨g, 0, none⟩)] W fun e w' => e = .returned (.tuple #[.agg #[.int .i64 0, .int .i64 0], .bool false]) ∧ IsW w0 w' g s ∧ Kp g W w') := ⟨(first_raw hX hB (by omega)).mono (by
      rintro e w' ⟨xs', hI', hl', hk', ⟨_, rfl⟩ | ⟨_, _, hin, _⟩⟩
      · exact ⟨rfl, ⟨xs', hI', Nat.le_trans hl' hl⟩, hk'⟩
      · rw [hz] at hin; simp at hin)⟩
    have HZ := Aside0.mk hz
    clear hz hl hX hB
    go_enter Try.func20, Try.ntmps20
    go_wp2_with (go_at_call 33; (with_reducible refine HF.out.mono ?_); rintro e w1 ⟨rfl, hI1, hk1⟩; have HI1 := Aside0.mk hI1; have HK1 := Aside0.mk hk1; clear hI1 hk1)
    go_ret2
    exact ⟨.inl ⟨HZ.out, rfl⟩, HI1.out.below (below_alloc (Below.refl _ _) _), HK1.out.trans (Kp.of_below HI1.out (below_alloc (Below.refl _ _) _))⟩
  · have HF : Aside0 (Calls Try.prog 33 #[.pointer (some ⟨g, 0, none⟩)] W fun e w' => ∃ x0 x1 : Int, e = .returned (.tuple #[.agg #[.int .i64 x0, .int .i64 x1], .bool true]) ∧ (x1, x0) ∈ s.ats ∧ (∀ q ∈ s.ats, x0 ≤ q.2) ∧ IsW w0 w' g s ∧ Kp g W w') := ⟨(first_raw hX hB (by omega)).mono (by
      rintro e w' ⟨xs', hI', hl', hk', ⟨h, rfl⟩ | ⟨_, rfl, hin, hle⟩⟩
      · exact absurd h hz
      · exact ⟨_, _, rfl, hin, hle, ⟨xs', hI', Nat.le_trans hl' hl⟩, hk'⟩)⟩
    clear hz hl hX hB
    go_enter Try.func20, Try.ntmps20
    go_wp2_with (go_at_call 33; (with_reducible refine HF.out.mono ?_); rintro e w1 ⟨x0, x1, rfl, hin, hle, hI1, hk1⟩; have HIN := Aside0.mk hin; have HLE := Aside0.mk hle; have HI1 := Aside0.mk hI1; have HK1 := Aside0.mk hk1; clear hin hle hI1 hk1)
    go_ret2
    exact ⟨.inr ⟨_, HIN.out, rfl, HLE.out⟩, HI1.out.below (below_alloc (Below.refl _ _) _), HK1.out.trans (Kp.of_below HI1.out (below_alloc (Below.refl _ _) _))⟩
theorem first_nil (w : World) : Calls Try.prog 33 #[.pointer none] w fun e w' => e = .returned (.tuple #[.agg #[.int .i64 0, .int .i64 0], .bool false]) ∧ Below w.heap.size w w' := by
  obtain ⟨B, hBd⟩ : ∃ B, B = w.heap.size := ⟨_, rfl⟩
  obtain ⟨W1, hW1⟩ : ∃ W1, W1 = w.alloc (.cells #[.int .i64 0, .int .i64 0] 66) := ⟨_, rfl⟩
  have HB1 : Aside0 (Below w.heap.size w W1) := ⟨by rw [hW1]; exact below_alloc (Below.refl _ _) _⟩
  have HBLK : Aside0 (W1.heap[B]? = some (.cells #[.int .i64 0, .int .i64 0] 66 (0, 0))) := ⟨by rw [hW1, hBd]; exact heap_alloc_new _ _⟩
  have k0 : W1.cell? ⟨B, 0, none⟩ = some (.int .i64 0) := (blk_cell HBLK.out 0).trans rfl
  have k1 : W1.cell? ⟨B, 1, none⟩ = some (.int .i64 0) := (blk_cell HBLK.out 1).trans rfl
  have kf0 : W1.frozen? ⟨B, 0, none⟩ = false := blk_frozen HBLK.out 0
  have kf1 : W1.frozen? ⟨B, 1, none⟩ = false := blk_frozen HBLK.out 1
  have HBD := Aside0.mk hBd
  have HW := Aside0.mk hW1
  clear hBd hW1
  go_enter Try.func33, Try.ntmps33
  go_wp2
  rw [← HW.out, ← HBD.out]
  refine wp_loop_once ?_
  go_wp2
  refine bodyPost_ret (results_ct (p := 2) (u := 3) rfl _ _ B 66 #[.int .i64 0, .int .i64 0] (0, 0) _ rfl (by simpa using blk_set (blk_set HBLK.out 0 (.int .i64 0)) 1 (.int .i64 0)) Try.underlying66 rfl (by kernel_rfl)) rfl ?_
  exact ⟨rfl, below_set (below_set HB1.out (by show w.heap.size ≤ B; rw [HBD.out]; exact Nat.le_refl _)) (by show w.heap.size ≤ B; rw [HBD.out]; exact Nat.le_refl _)⟩
theorem next_nil (w : World) : Calls Try.prog 20 #[.pointer none] w fun e w' => e = .returned (.tuple #[.int .i64 0, .bool false]) ∧ Below w.heap.size w w' := by
  go_enter Try.func20, Try.ntmps20
  go_wp2_with (go_at_call 33; (with_reducible refine (first_nil _).mono ?_); rintro e w1 ⟨rfl, hb1⟩; have HB1 := Aside0.mk hb1; clear hb1)
  go_ret2
  exact ⟨rfl, below_alloc HB1.out _⟩
theorem keys_nil (w : World) : Calls Try.prog 22 #[.pointer none] w fun e w' => e = .returned (.slice none 0 0) ∧ Below w.heap.size w w' := by
  go_enter Try.func22, Try.ntmps22
  go_wp2
  go_ret
  exact ⟨rfl, below_alloc (Below.refl _ _) _⟩
end
end Go.Proofs.Ytfflhppieogkbaa.Hp
