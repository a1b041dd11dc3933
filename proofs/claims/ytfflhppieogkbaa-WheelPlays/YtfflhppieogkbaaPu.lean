/-
  heap.Push and heap.Pop at the wheel's entries. Conditions: none.
-/
import Derived.Test.YtfflhppieogkbaaOw
import Derived.Test.YtfflhppieogkbaaDn
set_option linter.unusedVariables false
set_option linter.unusedSimpArgs false
namespace Go.Proofs.Ytfflhppieogkbaa.Hp
open Go Go.RowKit Go.Proofs.YtfflhppieogkbaaW.PrintWords Go.Proofs.YtfflhppieogkbaaW.PrintLast Go.Proofs.YtfflhppieogkbaaW.PrintMore Go.Proofs.Ytfflhppieogkbaa.Mp
theorem k66_mkM (w : World) (base : Nat) (ok : Nat → Prop) (x : E66) : k66.M w base ok x [.int .i64 x.f0, .int .i64 x.f1] := ⟨[.int .i64 x.f0], [.int .i64 x.f1], rfl, rfl, rfl⟩
theorem R66_some {w : World} {base : Nat} {ok : Nat → Prop} {v : Value} {xs : List E66} (h : k66.R 66 w base ok v xs) (hne : 0 < xs.length) : ∃ b n, v = .slice (some ⟨b, 0, none⟩) xs.length n ∧ base ≤ b ∧ ∃ cur, w.heap[b]? = some (.cells cur 66 (0, 0)) := by
  obtain ⟨_, inner, hown, _⟩ := h
  rcases hown.2 with ⟨_, h0⟩ | ⟨b, cap, cur, hv, hb, hh, _⟩
  · omega
  · exact ⟨b, cap, hv, hb, cur, hh⟩
theorem tassert (v : Value) (w : World) : (Instr.typeAssert (.iface 66 v) 20 66 false).run Try.prog w = .ok v w := by kernel_rfl
def push.T0 : Bool × List (List Nat × List Nat) := (true, [([], []), ([], []), ([1], [1]), ([2], [2]), ([], []), ([4], [4]), ([5], [5]), ([3, 6], [3, 6]), ([0, 0, 1, 2, 3, 4, 5, 6, 7], [0]), ([8, 7, 7, 0, 1, 2, 3, 4, 5, 6, 7], [7, 8])])
theorem push.tab0 : rtab .any (opsOf Try.f104 0) = push.T0 := by kernel_rfl
variable {w0 W : World} {g mb : Nat} {v : Value} {xs : List E66}
set_option maxHeartbeats 4000000 in
set_option maxRecDepth 100000 in
theorem push104 (x : E66) (hb : W.heap[g]? = some (.cells #[.map (some mb), v] 62 (0, 0))) (hR : k66.R 66 W w0.heap.size (fun _ => True) v xs) (hB : Below w0.heap.size w0 W) (hl : xs.length ≤ 100000) :
    Calls Try.prog 104 #[.pointer (some ⟨g, 1, none⟩), .iface 66 (.agg #[.int .i64 x.f0, .int .i64 x.f1])] W fun e w' => e = .returned (.tuple #[]) ∧ ∃ b c, w'.heap[g]? = some (.cells #[.map (some mb), sl b (xs.length + 1) c] 62 (0, 0)) ∧
      k66.R 66 w' w0.heap.size (fun _ => True) (sl b (xs.length + 1) c) (xs ++ [x]) ∧ Tch (fun k => k = g ∨ v.ownBlock = some k) W w' ∧ (v.ownBlock = some b ∨ W.heap.size ≤ b) := by
  obtain ⟨A, n, rfl⟩ := Kd.R_slice hR
  have c1 : W.cell? ⟨g, 1, none⟩ = some (.slice A xs.length n) := (blk_cell hb 1).trans rfl
  have f1 : W.frozen? ⟨g, 1, none⟩ = false := blk_frozen hb 1
  have hgl := blk_lt hb
  have HGB := Aside0.mk hb
  have HR := Aside0.mk hR
  have HB := Aside0.mk hB
  have HNE := Aside0.mk (row_ne_blk hR hb (by decide))
  have HL := Aside0.mk hl
  have hta := tassert
  clear hb hR hB hl
  go_enter Try.func104, Try.ntmps104
  go_upto_region 0 with fail
  refine start_ (n := 10) (S := fun w' => w'.cell? ⟨g, 1, none⟩ = some (.slice A xs.length n)) (ds := [9]) #[false, false, false, false, false, false, false, false, false, false] (by kernel_rfl) rfl rfl c1 (fun hHeld => ?_); refine with_tab push.tab0 (fun HT_ => ?_)
  obtain ⟨Wd, hWd⟩ : ∃ Wd, Wd = W.drew := ⟨_, rfl⟩
  rw [← hWd] at hHeld ⊢
  have cd : Wd.cell? ⟨g, 1, none⟩ = some (.slice A xs.length n) := hHeld
  have HGd : Aside0 (Wd.heap[g]? = some (.cells #[.map (some mb), .slice A xs.length n] 62 (0, 0))) := ⟨by rw [hWd]; exact HGB.out⟩
  have HRd : Aside0 (k66.R 66 Wd w0.heap.size (fun _ => True) (.slice A xs.length n) xs) := ⟨by rw [hWd]; exact Kd.R_drew HR.out⟩
  have HBd : Aside0 (Below w0.heap.size w0 Wd) := ⟨by rw [hWd]; exact below_drew1 HB.out⟩
  have HTd : Aside0 (Tch (fun k => k = g ∨ (Value.slice A xs.length n).ownBlock = some k) W Wd) := ⟨by rw [hWd]; exact (Tch.refl _ _).drew⟩
  have HSd : Aside0 (W.heap.size = Wd.heap.size) := ⟨by rw [hWd]; rfl⟩
  clear hWd
  refine pure_ (i := 0) (N := some 4) (v := ?_) (a' := ?_) #[true, false, false, false, false, false, false, false, false, false] rfl rfl (any_of HT_.out (by kernel_rfl)) (fun _ _ _ h => h) (Or.inl ⟨by rfl, ?_⟩) ?_ ?_
  rotate_left
  · intro w'
    go_simp
    with_reducible rfl
  rotate_left
  · simp only [Act.put, List.setIfInBounds_toArray, List.set_cons_zero, List.set_cons_succ, i64_w, i32_w]
    rfl
  refine pure_ (i := 1) (N := some 5) (v := ?_) (a' := ?_) #[true, true, false, false, false, false, false, false, false, false] rfl rfl (any_of HT_.out (by kernel_rfl)) (fun _ _ _ h => h) (Or.inl ⟨by rfl, ?_⟩) ?_ ?_
  rotate_left
  · intro w'
    go_simp
    with_reducible rfl
  rotate_left
  · simp only [Act.put, List.setIfInBounds_toArray, List.set_cons_zero, List.set_cons_succ, i64_w, i32_w]
    rfl
  refine pure_ (i := 2) (N := some 6) (v := ?_) (a' := ?_) #[true, true, true, false, false, false, false, false, false, false] rfl rfl (any_of HT_.out (by kernel_rfl)) (fun _ _ _ h => h) (Or.inl ⟨by rfl, ?_⟩) ?_ ?_
  rotate_left
  · intro w'
    go_simp
    with_reducible rfl
  rotate_left
  · simp only [Act.put, List.setIfInBounds_toArray, List.set_cons_zero, List.set_cons_succ, i64_w, i32_w]
    rfl
  refine pure_ (i := 4) (N := some 8) (v := ?_) (a' := ?_) #[true, true, true, false, true, false, false, false, false, false] rfl rfl (any_of HT_.out (by kernel_rfl)) (fun _ _ _ h => h) (Or.inl ⟨by rfl, ?_⟩) ?_ ?_
  rotate_left
  · intro w'
    go_simp
    with_reducible rfl
  rotate_left
  · simp only [Act.put, List.setIfInBounds_toArray, List.set_cons_zero, List.set_cons_succ, i64_w, i32_w]
    rfl
  refine pure_ (i := 5) (N := some 9) (v := ?_) (a' := ?_) #[true, true, true, false, true, true, false, false, false, false] rfl rfl (any_of HT_.out (by kernel_rfl)) (fun _ _ _ h => h) (Or.inl ⟨by rfl, ?_⟩) ?_ ?_
  rotate_left
  · intro w'
    go_simp
    with_reducible rfl
  rotate_left
  · simp only [Act.put, List.setIfInBounds_toArray, List.set_cons_zero, List.set_cons_succ, i64_w, i32_w]
    rfl
  refine take_ (i := 3) (N := some 7) (v := ?_) (a' := ?_) #[true, true, true, true, true, true, false, false, false, false] rfl rfl (take_of HT_.out (by kernel_rfl)) (fun _ _ _ h => h) (Or.inl ⟨by rfl, ?_⟩) hHeld ?_ ?_
  rotate_left
  · intro w' hS_
    have s0 := hS_
    go_simp
    with_reducible rfl
  rotate_left
  · simp only [Act.put, List.setIfInBounds_toArray, List.set_cons_zero, List.set_cons_succ, i64_w, i32_w]
    rfl
  refine one_ (i := 6) (N := some 10) #[true, true, true, true, true, true, true, false, false, false] rfl rfl (one_of HT_.out (by kernel_rfl)) (by decide) (fun K hK => ?_)
  refine value_ (w1 := ?_) (v := ?_) (by rfl) rfl ?_ ?_
  rotate_left 2
  · go_simp
    constructor
    · rfl
    · rfl
  refine hK.out _ _ ((blk_cell (blk_alloc HGd.out _) 1).trans rfl) (fun hHeld => ?_)
  clear hK K
  refine norm_ (a' := ?_) ?_ ?_
  rotate_left
  · show Act.put _ (some 10) _ = _
    simp only [Act.put, List.setIfInBounds_toArray, List.set_cons_zero, List.set_cons_succ, i64_w, i32_w]
    rfl
  refine one_ (i := 7) (N := some 11) #[true, true, true, true, true, true, true, true, false, false] rfl rfl (one_of HT_.out (by kernel_rfl)) (by decide) (fun K hK => ?_)
  refine Kd.R_append_step k66 (w0 := w0) w0.heap.size (by rfl) (.tmp 7) (.tmp 10) 60 66 (.agg #[(.int .i64 0), (.int .i64 0)]) 16 rfl Try.underlying60 info66 rfl (by decide) (by omega) (.slice A xs.length n) xs x [.int .i64 x.f0, .int .i64 x.f1] (fun _ => True) (fun _ => False) (by rfl) (by rfl) ?aP (fun _ h => h.elim) (fun _ _ => trivial) ?aO ?aB ?aS ?aL ?_
  (case aP => exact k66_mkM _ _ _ _); (case aO => exact HRd.out); (case aB => exact HBd.out); (case aS => exact HBd.out.size); (case aL => have := HL.out; omega)
  intro v4 w4 hR4 hb4 hg4 hat4
  obtain ⟨b4, n4, rfl, hbb4, cur4, hcur4⟩ := R66_some hR4 (by simp)
  have HGB4 := Aside0.mk ((hg4.block g (blk_lt HGd.out) HNE.out).trans HGd.out)
  have HR4 := Aside0.mk hR4
  have HG4 := Aside0.mk hg4
  have HAT := Aside0.mk hat4
  have h41 : w4.cell? ⟨g, 1, none⟩ = some (.slice A xs.length n) := (blk_cell HGB4.out 1).trans rfl
  have hf41 : w4.frozen? ⟨g, 1, none⟩ = false := blk_frozen HGB4.out 1
  clear hR4 hb4 hg4 hat4 hcur4
  refine hK.out _ _ h41 (fun hHeld => ?_)
  clear hK K
  refine norm_ (a' := ?_) ?_ ?_
  rotate_left
  · show Act.put _ (some 11) _ = _
    simp only [Act.put, List.setIfInBounds_toArray, List.set_cons_zero, List.set_cons_succ, i64_w, i32_w]
    rfl
  refine pure_ (i := 8) (N := some 12) (v := ?_) (a' := ?_) #[true, true, true, true, true, true, true, true, true, false] rfl rfl (any_of HT_.out (by kernel_rfl)) (fun _ _ _ h => h) (Or.inl ⟨by rfl, ?_⟩) ?_ ?_
  rotate_left
  · intro w'
    go_simp
    with_reducible rfl
  rotate_left
  · simp only [Act.put, List.setIfInBounds_toArray, List.set_cons_zero, List.set_cons_succ, i64_w, i32_w]
    rfl
  refine last_ (i := 9) (N := none) #[true, true, true, true, true, true, true, true, true, true] rfl rfl (one_of HT_.out (by kernel_rfl)) (by decide) (fun K hK => ?_)
  refine put_ (w1 := ?_) (by rfl) rfl ?_ ?_
  rotate_left
  · go_simp
    rfl
  refine hK.out _ _ ?_
  clear hK K
  refine done_ (done_of HT_.out (by kernel_rfl)) ?_
  clear hHeld
  refine bodyPost_end (results_none rfl _ _ _) rfl ?_
  have hgb5 : (w4.setCell ⟨g, 1, none⟩ (.slice (some ⟨b4, 0, none⟩) (xs ++ [x]).length n4)).heap[g]? = some (.cells #[.map (some mb), .slice (some ⟨b4, 0, none⟩) (xs ++ [x]).length n4] 62 (0, 0)) := by simpa using blk_set HGB4.out 1 (.slice (some ⟨b4, 0, none⟩) (xs ++ [x]).length n4)
  have hR5 := Kd.R_set HR4.out HGB4.out (by decide) 1 (.slice (some ⟨b4, 0, none⟩) (xs ++ [x]).length n4)
  have hT5 : Tch (fun k => k = g ∨ (Value.slice A xs.length n).ownBlock = some k) W (w4.setCell ⟨g, 1, none⟩ (.slice (some ⟨b4, 0, none⟩) (xs ++ [x]).length n4)) := (HTd.out.trans (Tch.of_grown HG4.out (fun k hk => .inr hk))).trans (Tch.set (.inl rfl) _)
  rw [show (xs ++ [x]).length = xs.length + 1 by simp] at hgb5 hR5 hT5
  refine ⟨rfl, b4, n4, hgb5, hR5, hT5, ?_⟩
  have hs := HSd.out
  rcases HAT.out with h | ⟨b, h, hge⟩
  · exact .inl h.symm
  · right
    have h : b4 = b := by injection h
    omega
theorem swp_swap_heap {xs : List E66} {n : Nat} (hl : xs.length = n + 1) (h : Heap xs) : DownBut (swp xs 0 n) n 0 := by
  refine ⟨fun c h1 hc hp => ?_, fun c h1 hc hp h2 => by omega⟩
  rw [tk_swp xs 0 n c (by omega) (by omega) (by omega), tk_swp xs 0 n _ (by omega) (by omega) (by omega), if_neg (by omega), if_neg hp, if_neg (by omega), if_neg (by omega)]
  exact h c h1 (by omega)
theorem heap_snoc {xs : List E66} (x : E66) (h : Heap xs) : HeapBut (xs ++ [x]) xs.length := by
  have ht : ∀ j, j < xs.length → tk (xs ++ [x]) j = tk xs j := fun j hj => by
    unfold tk
    rw [rd_get _ j (by simp; omega), rd_get xs j hj, List.getElem_append_left hj]
  refine ⟨fun i h1 hi hne => ?_, fun i h1 hi hp h2 => ?_⟩
  · have : i < xs.length := by simp at hi; omega
    rw [ht i this, ht _ (by omega)]
    exact h i h1 this
  · simp at hi
    omega
set_option maxRecDepth 100000 in
set_option maxHeartbeats 4000000 in
theorem push_raw (x : E66) (hb : W.heap[g]? = some (.cells #[.map (some mb), v] 62 (0, 0))) (hR : k66.R 66 W w0.heap.size (fun _ => True) v xs) (hB : Below w0.heap.size w0 W) (hl : xs.length ≤ 90000) (hH : Heap xs) :
    Calls Try.prog 32 #[.iface 64 (.pointer (some ⟨g, 1, none⟩)), .iface 66 (.agg #[.int .i64 x.f0, .int .i64 x.f1])] W fun e w' => e = .returned (.tuple #[]) ∧ ∃ v' xs', w'.heap[g]? = some (.cells #[.map (some mb), v'] 62 (0, 0)) ∧
      k66.R 66 w' w0.heap.size (fun _ => True) v' xs' ∧ Heap xs' ∧ (∀ y, y ∈ xs' ↔ y = x ∨ y ∈ xs) ∧ xs'.length = xs.length + 1 ∧ Tch (fun k => k = g ∨ v.ownBlock = some k) W w' ∧ ∀ k, v'.ownBlock = some k → v.ownBlock = some k ∨ W.heap.size ≤ k := by
  have HP := Aside0.mk (push104 x hb hR hB (by omega))
  have HH := Aside0.mk (heap_snoc x hH)
  have HL := Aside0.mk hl
  obtain ⟨N, hN⟩ : ∃ N, xs.length + 1 = N := ⟨_, rfl⟩
  obtain ⟨j, hj⟩ : ∃ j, xs.length = j := ⟨_, rfl⟩
  rw [hN] at HP
  rw [hj] at HH
  have hNj : (N : Int) - 1 = (j : Int) := by omega
  have hN2 : N ≤ 100000 := by omega
  have HN := Aside0.mk hN
  have HJ := Aside0.mk hj
  have HNX := Aside0.mk (row_ne_blk hR hb (by decide))
  have hmp := mpush
  clear hb hR hB hl hH hN hj
  go_enter Try.func32, Try.ntmps32
  go_wp2_with (first
    | (go_at_call 104; (with_reducible refine HP.out.mono ?_); rintro e w1 ⟨rfl, b, c, hb1, hR1, ht1, hv1⟩; have hgb : g ≠ b := (fun e => row_ne_blk hR1 hb1 (by decide) (congrArg some e)); have HB1 := Aside0.mk hb1; have HR1 := Aside0.mk hR1; have HT1 := Aside0.mk ht1; have HV1 := Aside0.mk hv1; have HC1 := Aside0.mk ((blk_cell hb1 1).trans rfl : w1.cell? ⟨g, 1, none⟩ = some (sl b N c)); have hml := mlen HC1.out; clear hb1 hR1 ht1 hv1)
    | (go_at_call 100; (with_reducible refine (len_raw _ _ _ _).mono ?_); rintro e w2 ⟨rfl, rfl⟩)
    | (go_at_call 44; (with_reducible refine (up_raw HC1.out hgb HR1.out HH.out (by omega) hN2).mono ?_); rintro e w3 ⟨rfl, xs', hH3, hm3, hR3, hg3⟩; have HFIN := Aside0.mk (And.intro hH3 (And.intro hm3 (And.intro hR3 hg3))); clear hH3 hm3 hR3 hg3))
  refine bodyPost_end (results_none rfl _ _ _) rfl ?_
  obtain ⟨hH3, hm3, hR3, hg3⟩ := HFIN.out
  have hn := (Kd.R_reads' hR3).1
  have hN := HN.out
  refine ⟨rfl, sl b N c, xs', (hg3.block g (blk_lt HB1.out) (fun e => hgb (by injection e))).trans HB1.out, hR3, hH3, fun y => ?_, by omega, HT1.out.trans' (Tch.of_grown (S := fun k => k = b) hg3 (fun k hk => by injection hk with hk; exact hk.symm)) (fun k hk hb => ?_), fun k hk => ?_⟩
  · rw [hm3 y, List.mem_append, List.mem_singleton]
    exact Or.comm
  · rcases HV1.out with h | h
    · exact .inr (by rw [h, hb])
    · omega
  · have hk : b = k := by injection hk
    rcases HV1.out with h | h
    · exact .inl (by rw [h, hk])
    · right
      omega
set_option maxRecDepth 100000 in
set_option maxHeartbeats 4000000 in
theorem pop103 {b c n : Nat} (hb : W.heap[g]? = some (.cells #[.map (some mb), sl b (n + 1) c] 62 (0, 0))) (hR : k66.R 66 W w0.heap.size (fun _ => True) (sl b (n + 1) c) xs) (hn : n ≤ 100000) :
    Calls Try.prog 103 #[.pointer (some ⟨g, 1, none⟩)] W fun e w' => e = .returned (.iface 66 (.agg #[.int .i64 (rd_T66 xs (n : Int)).f0, .int .i64 (rd_T66 xs (n : Int)).f1])) ∧ w'.heap[g]? = some (.cells #[.map (some mb), sl b n c] 62 (0, 0)) ∧
      k66.R 66 w' w0.heap.size (fun _ => True) (sl b n c) (xs.take n) ∧ Tch (fun k => k = g) W w' := by
  have c1 : W.cell? ⟨g, 1, none⟩ = some (sl b (n + 1) c) := (blk_cell hb 1).trans rfl
  have f1 : W.frozen? ⟨g, 1, none⟩ = false := blk_frozen hb 1
  have hgl := blk_lt hb
  have hrd := Kd.R_reads' hR
  have hxl : xs.length = n + 1 := hrd.1.symm
  have hcells := cells_of hR (show n < n + 1 by omega)
  have hnc : n + 1 ≤ c := hrd.2.1
  have HGB := Aside0.mk hb
  have HR := Aside0.mk hR
  have HT := Aside0.mk (Kd.R_take hR (m := n) (by omega))
  obtain ⟨x0, hx0⟩ : ∃ x, (rd_T66 xs (n : Int)).f0 = x := ⟨_, rfl⟩
  obtain ⟨x1, hx1⟩ : ∃ x, (rd_T66 xs (n : Int)).f1 = x := ⟨_, rfl⟩
  rw [hx0, hx1] at hcells ⊢
  obtain ⟨hc0, hc1⟩ := hcells
  obtain ⟨N, hN⟩ : ∃ N, n + 1 = N := ⟨_, rfl⟩
  rw [hN] at c1
  have hNn : (N : Int) - 1 = (n : Int) := by omega
  have hN2 : (n : Int) < (N : Int) := by omega
  have hN3 : N ≤ c := by omega
  have hN4 : n ≤ c := by omega
  have hN5 : n ≤ N := by omega
  clear hb hR hrd hxl hnc hx0 hx1 hN
  go_enter Try.func103, Try.ntmps103
  go_wp2
  go_ret
  refine ⟨rfl, blk_alloc (by simpa using blk_set HGB.out 1 (sl b n c)) _, Kd.R_alloc (Kd.R_set HT.out HGB.out (by decide) 1 _) _, (Tch.set (S := fun k => k = g) (p := ⟨g, 1, none⟩) rfl _).trans (Tch.of_below (below_alloc (Below.refl _ _) _))⟩
theorem take_heap {xs : List E66} {n : Nat} (hl : n ≤ xs.length) (h : HeapTo xs n) : Heap (xs.take n) := by
  intro i h1 hi
  have hi2 : i < n := by simp at hi; omega
  have ht : ∀ j, j < n → tk (xs.take n) j = tk xs j := fun j hj => by
    unfold tk
    rw [rd_get _ j (by simp; omega), rd_get xs j (by omega), List.getElem_take]
  rw [ht i hi2, ht _ (by omega)]
  exact h i h1 hi2
theorem mem_take_rd {xs : List E66} {n : Nat} (hl : xs.length = n + 1) (y : E66) : y ∈ xs ↔ y = rd_T66 xs (n : Int) ∨ y ∈ xs.take n := by
  have hd : xs = xs.take n ++ [rd_T66 xs (n : Int)] := by
    rw [rd_get xs n (by omega), ← List.take_succ_eq_append_getElem (by omega), List.take_of_length_le (by omega)]
  constructor
  · intro h
    rw [hd] at h
    rcases List.mem_append.1 h with h | h
    · exact .inr h
    · exact .inl (List.mem_singleton.1 h)
  · rintro (h | h)
    · rw [hd, h]; simp
    · exact List.mem_of_mem_take h
set_option maxRecDepth 100000 in
set_option maxHeartbeats 4000000 in
theorem pop_raw {n : Nat} (hb : W.heap[g]? = some (.cells #[.map (some mb), v] 62 (0, 0))) (hR : k66.R 66 W w0.heap.size (fun _ => True) v xs) (hH : Heap xs) (hxl : xs.length = n + 1) (hn : n ≤ 90000) :
    Calls Try.prog 36 #[.iface 64 (.pointer (some ⟨g, 1, none⟩))] W fun e w' => e = .returned (.iface 66 (.agg #[.int .i64 (rd_T66 xs 0).f0, .int .i64 (rd_T66 xs 0).f1])) ∧ ∃ v' xs', w'.heap[g]? = some (.cells #[.map (some mb), v'] 62 (0, 0)) ∧
      k66.R 66 w' w0.heap.size (fun _ => True) v' xs' ∧ Heap xs' ∧ (∀ y, y ∈ xs ↔ y = rd_T66 xs 0 ∨ y ∈ xs') ∧ xs'.length = n ∧ Tch (fun k => k = g ∨ v.ownBlock = some k) W w' ∧ v'.ownBlock = v.ownBlock := by
  obtain ⟨b, c, rfl, hbb, cur, hcur⟩ := R66_some hR (by omega)
  rw [hxl] at hb hR ⊢
  obtain ⟨N, hN⟩ : ∃ N, n + 1 = N := ⟨_, rfl⟩
  have hgb : g ≠ b := fun e => row_ne_blk hR hb (by decide) (congrArg some e)
  have HSW := Aside0.mk (swp_swap_heap hxl hH)
  have HSL : Aside0 (Calls Try.prog 102 #[.slice (some ⟨b, 0, none⟩) (n + 1) c, .int .i64 0, .int .i64 (n : Int)] W fun e w' => e = .returned (.tuple #[]) ∧ k66.R 66 w' w0.heap.size (fun _ => True) (.slice (some ⟨b, 0, none⟩) (n + 1) c) (swp xs 0 n) ∧ W.drew.grownBy w' (some b)) := Aside0.mk (swap_raw (i := 0) (k := n) hR (by omega) (by omega))
  have HDN : Aside0 (∀ w3 : World, w3.cell? ⟨g, 1, none⟩ = some (sl b (n + 1) c) → k66.R 66 w3 w0.heap.size (fun _ => True) (sl b (n + 1) c) (swp xs 0 n) → Calls Try.prog 48 #[.iface 64 (.pointer (some ⟨g, 1, none⟩)), .int .i64 0, .int .i64 (n : Int)] w3 fun e w' => ∃ q : Bool, e = .returned (.bool q) ∧ ∃ xs', HeapTo xs' n ∧ Moved (swp xs 0 n) xs' n ∧ k66.R 66 w' w0.heap.size (fun _ => True) (sl b (n + 1) c) xs' ∧ w3.grownBy w' (some b)) :=
    ⟨fun w3 h1 h2 => down_raw (i := 0) h1 hgb h2 HSW.out (by omega) (by omega) (by omega)⟩
  have HLEN := Aside0.mk (show (swp xs 0 n).length = n + 1 by rw [swp_length]; exact hxl)
  have HMEM := Aside0.mk (mem_swp xs 0 n (by omega) (by omega))
  have HRD := Aside0.mk (show rd_T66 (swp xs 0 n) (n : Int) = rd_T66 xs 0 by rw [rd_swp xs 0 n n (by omega) (by omega) (by omega), if_pos rfl]; rfl)
  have HGB := Aside0.mk hb
  have hc1 : W.cell? ⟨g, 1, none⟩ = some (sl b N c) := by rw [← hN]; exact (blk_cell hb 1).trans rfl
  have hml := mlen hc1
  have hms := mswap hc1
  have hmp := mpop
  have hNn : (N : Int) - 1 = (n : Int) := by omega
  have hN2 : N ≤ 100000 := by omega
  have HN := Aside0.mk hN
  have HB0 := Aside0.mk hbb
  have hn0 : n ≤ N := by omega
  have hdn : (0 : Int) ≤ (n : Int) := by omega
  rw [hN] at HSL HDN
  clear hb hR hH hxl hcur hN
  go_enter Try.func36, Try.ntmps36
  go_wp2_with (first
    | (go_at_call 100; (with_reducible refine (len_raw _ _ _ _).mono ?_); rintro e w2 ⟨rfl, rfl⟩)
    | (go_at_call 102; (with_reducible refine HSL.out.mono ?_); rintro e w3 ⟨rfl, hR3, hg3⟩; have HT3 := Aside0.mk (Tch.trans (Tch.of_below (below_drew1 (Below.refl _ _))) (Tch.of_grown (S := fun k => k = g ∨ (sl b N c).ownBlock = some k) hg3 (fun k hk => .inr hk))); have HG3 := Aside0.mk ((hg3.block g (blk_lt HGB.out) (fun e => hgb (by injection e))).trans HGB.out); have HC3 : Aside0 (w3.cell? ⟨g, 1, none⟩ = some (sl b N c)) := ⟨by rw [← HN.out]; exact (blk_cell HG3.out 1).trans rfl⟩; have HR3 := Aside0.mk hR3; clear hR3 hg3)
    | (go_at_call 48; (with_reducible refine (HDN.out _ HC3.out HR3.out).mono ?_); rintro e w4 ⟨q, rfl, xs4, hH4, hm4, hR4, hg4⟩; have HH4 := Aside0.mk hH4; have HM4 := Aside0.mk hm4; have HG4 := Aside0.mk ((hg4.block g (blk_lt HG3.out) (fun e => hgb (by injection e))).trans HG3.out); have HT4 := Aside0.mk (HT3.out.trans (Tch.of_grown (S := fun k => k = g ∨ (sl b N c).ownBlock = some k) hg4 (fun k hk => .inr hk))); have HR4 : Aside0 (k66.R 66 w4 w0.heap.size (fun _ => True) (sl b (n + 1) c) xs4) := ⟨by rw [HN.out]; exact hR4⟩; clear hH4 hm4 hg4 hR4)
    | (go_at_call 103; (with_reducible refine (pop103 HG4.out HR4.out (by omega)).mono ?_); rintro e w5 ⟨rfl, hg5, hR5, hT5⟩; have HFIN := Aside0.mk (And.intro hg5 (And.intro hR5 hT5)); clear hg5 hR5 hT5))
  have hl4 : xs4.length = n + 1 := (Kd.R_reads' HR4.out).1.symm
  have hrd : rd_T66 xs4 (n : Int) = rd_T66 xs 0 := by
    rw [← HRD.out]
    exact HM4.out.2 n (Nat.le_refl _) (by rw [HLEN.out]; omega)
  rw [hrd]
  go_ret
  obtain ⟨hg5, hR5, hT5⟩ := HFIN.out
  refine ⟨rfl, sl b n c, xs4.take n, hg5, hR5, take_heap (by omega) HH4.out, fun y => ?_, by simp; omega, ?_, rfl⟩
  · rw [← HMEM.out y, ← HM4.out.1 y, ← hrd]
    exact mem_take_rd hl4 y
  · have ht := HT4.out
    rw [← HN.out] at ht
    exact ht.trans' hT5 (fun k _ hk => .inl hk)
end Go.Proofs.Ytfflhppieogkbaa.Hp
