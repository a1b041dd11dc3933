/-
  Contracts of the queue's methods that send and receive. Conditions: none.
-/
import Derived.Test.YtdcnmjdohjodhaaMb
import Derived.Test.YtdcnmjdohjodhaaComm
import Derived.Deep.RegionLaw
set_option linter.unusedVariables false
set_option linter.unusedSimpArgs false
namespace Go.Proofs.Ytdcnmjdohjodhaa.Man
open Go.RowKit Go.Conc Go.Proofs.Ytdcnmjdohjodhaa.Comm Go.Proofs.YtdcnmjdohjodhaaW.PrintWords Go.Proofs.YtdcnmjdohjodhaaW.PrintLast Go.Proofs.YtdcnmjdohjodhaaW.PrintMore Go.Proofs.Ytdcnmjdohjodhaa.PA Go.Proofs.Ytdcnmjdohjodhaa.PF Go.Proofs.Ytdcnmjdohjodhaa.Hid

/-! #### Remove -/
set_option maxHeartbeats 1000000 in
theorem remove_no (g : Nat) (s : QS) (a1 : Int) (w0 w : World) (hI : IsS62 w0 w g s) (hp : placeOf s.row a1 0 < 0) : Calls Try.prog 17 #[.pointer (some ⟨g, 0, none⟩), .int .i64 a1] w fun e w' => e = .returned (.bool false) ∧ Below w.heap.size w w' := by
  have HP := Aside0.mk (place_raw g s a1 w0 w hI)
  generalize placeOf s.row a1 0 = i at hp HP
  clear hI
  go_enter Try.func17, Try.ntmps17
  go_wp2_with (go_at_call 11; refine HP.out.mono ?_; rintro e w' ⟨rfl, hb⟩)
  go_ret
  exact ⟨rfl, hb⟩
theorem IsS62.open_cons {w0 w : World} {g : Nat} {s : QS} (h : IsS62 w0 w g s) (hne : 0 < s.row.length) : ∃ c b n sn rc buf, w.heap[g]? = some (.cells #[.chan (some c), .slice (some ⟨b, 0, none⟩) s.row.length n] 62 (0, 0)) ∧ w.heap[c]? = some (.chan s.room buf false sn rc false) ∧
    buf.size + s.row.length = s.room ∧ s.room ≤ 16 ∧ Kd.R k65 65 w w0.heap.size (fun _ => True) (.slice (some ⟨b, 0, none⟩) s.row.length n) s.row ∧ w0.heap.size ≤ g ∧ w0.heap.size ≤ c := by
  obtain ⟨c, A, n, sn, rc, buf, hb, hc, hl, hr, hn, hC, hR, hg, hgc⟩ := h.open_
  have hR2 := hR
  obtain ⟨_, inner, hown, _⟩ := hR
  rcases hown.2 with ⟨_, h0⟩ | ⟨b, cap, cur, hv, _⟩
  · omega
  · injection hv with ha _ hc2
    subst ha; subst hc2
    exact ⟨c, b, n, sn, rc, buf, hb, hc, hl, hr, hR2, hg, hgc⟩
/-- A row that holds something lies in a block. -/
theorem R_some {w : World} {base : Nat} {ok : Nat → Prop} {v : Value} {xs : List S65} (h : Kd.R k65 65 w base ok v xs) (hne : 0 < xs.length) : ∃ b n, v = .slice (some ⟨b, 0, none⟩) xs.length n ∧ base ≤ b ∧ ∃ cur, w.heap[b]? = some (.cells cur 65 (0, 0)) := by
  obtain ⟨_, inner, hown, _⟩ := h
  rcases hown.2 with ⟨_, h0⟩ | ⟨b, cap, cur, hv, hb, hh, _⟩
  · omega
  · exact ⟨b, cap, hv, hb, cur, hh⟩
theorem setChan_heap (w : World) (c c' cap : Nat) (buf : Array Value) (cl : Bool) (s r : Nat) (tm : Bool) (h : c' ≠ c) : (w.setChan c cap buf cl s r tm).heap[c']? = w.heap[c']? := by
  simp [World.setChan, Array.getElem?_setIfInBounds_ne (Ne.symm h)]
/-- The state behind a store of a new row, and a token more or less. -/
theorem IsS62.put {w0 w w3 : World} {g c : Nat} {v v3 : Value} {buf : Array Value} {sn rc : Nat} {row : List S65} {room : Nat} (hB : Below w0.heap.size w0 w) (hg : w0.heap.size ≤ g) (hgc : w0.heap.size ≤ c)
    (hk : KeptH TQ w w3) (hB3 : Below w0.heap.size w0 w3) (hgb : w3.heap[g]? = some (.cells #[.chan (some c), v] 62 (0, 0))) (hcb : w3.heap[c]? = some (.chan room buf false sn rc false)) (hR : Kd.R k65 65 w3 w0.heap.size (fun _ => True) v3 row)
    (buf' : Array Value) (sn' rc' : Nat) (hl : buf'.size + row.length = room) (hr : room ≤ 16) :
    IsS62 w0 ((w3.setCell ⟨g, 1, none⟩ v3).setChan c room buf' false sn' rc' false) g ⟨room, row⟩ ∧ Below w0.heap.size w0 ((w3.setCell ⟨g, 1, none⟩ v3).setChan c room buf' false sn' rc' false) ∧
      KeptH TQ w ((w3.setCell ⟨g, 1, none⟩ v3).setChan c room buf' false sn' rc' false) := by
  have hne : g ≠ c := by
    rintro rfl
    rw [hgb] at hcb
    injection hcb with hcb
    cases hcb
  have hg1 : (w3.setCell ⟨g, 1, none⟩ v3).heap[g]? = some (.cells #[.chan (some c), v3] 62 (0, 0)) := by simpa using blk_set hgb 1 v3
  have hfar : ∀ k, k ≠ g → k ≠ c → ((w3.setCell ⟨g, 1, none⟩ v3).setChan c room buf' false sn' rc' false).heap[k]? = w3.heap[k]? := fun k h1 h2 => by
    rw [setChan_heap _ _ _ _ _ _ _ _ _ h2]
    exact Below.heap_setCell w3 ⟨g, 1, none⟩ v3 k h1
  have hgE : ((w3.setCell ⟨g, 1, none⟩ v3).setChan c room buf' false sn' rc' false).heap[g]? = some (.cells #[.chan (some c), v3] 62 (0, 0)) := by
    rw [setChan_heap _ _ _ _ _ _ _ _ _ hne]
    exact hg1
  have hcE : ((w3.setCell ⟨g, 1, none⟩ v3).setChan c room buf' false sn' rc' false).heap[c]? = some (.chan room buf' false sn' rc' false) := heap_setChan _ _ _ _ _ _ _ _ (by have := blk_lt hcb; simpa [World.setCell] using this)
  refine ⟨⟨c, v3, buf', sn', rc', hgE, hg, hcE, hgc, hl, hr, ?_⟩, ?_, ?_⟩
  · refine Kd.R_mono (Kd.R_move (Kd.R_bound hR) (fun k hk => ?_)) (fun _ _ => trivial)
    obtain ⟨_, _, _, q, hq, cells, hq2⟩ := hk
    have : q = 65 := by simpa [k65, Kd.iso, Kd.pair, Kd.int, Kd.scalar] using hq
    subst this
    refine hfar k ?_ ?_
    · rintro rfl
      rw [hgb] at hq2
      injection hq2 with hq2
      injection hq2 with _ e
      cases e
    · rintro rfl
      rw [hcb] at hq2
      injection hq2 with hq2
      cases hq2
  · exact below_setChan (below_set hB3 hg) hgc _ _ _ _ _ _
  · refine hk.trans ⟨⟨by simp [World.setCell, World.setChan], fun i hi hn => ?_⟩, fun k hkk h2 => ?_⟩
    · refine hfar i ?_ ?_
      · rintro rfl; exact hn (.cells hgb (by decide))
      · rintro rfl; exact hn (.chan hcb)
    · by_cases e1 : k = g
      · subst e1; exact .cells hgb (by decide)
      · by_cases e2 : k = c
        · subst e2; exact .chan hcb
        · exact h2.of_eq (hfar k e1 e2)
set_option maxHeartbeats 4000000 in
theorem remove_yes (g : Nat) (s : QS) (a1 : Int) (w0 w : World) (hI : IsS62 w0 w g s) (hB : Below w0.heap.size w0 w) (hp : ¬ placeOf s.row a1 0 < 0) :
    Calls Try.prog 17 #[.pointer (some ⟨g, 0, none⟩), .int .i64 a1] w fun e w' => e = .returned (.bool true) ∧ IsS62 w0 w' g { s with row := s.row.eraseIdx (placeOf s.row a1 0).toNat } ∧ Below w0.heap.size w0 w' ∧ KeptH TQ w w' := by
  have HP := Aside0.mk (place_raw g s a1 w0 w hI)
  obtain ⟨j, hj⟩ : ∃ j : Nat, placeOf s.row a1 0 = (j : Int) := ⟨(placeOf s.row a1 0).toNat, by omega⟩
  have hjl : j < s.row.length := by
    rcases placeOf_range a1 s.row 0 (by omega) with h | h <;> omega
  rw [hj] at HP hp ⊢
  rw [Int.toNat_natCast]
  have HI := Aside0.mk hI
  have HB0 := Aside0.mk hB
  clear hI hB hj
  refine calls_of_wpN Try.func17 rfl (by rintro _ ⟨h, _⟩; cases h) ?_
  simp only [Try.ntmps17, List.size_toArray, List.length_cons, List.length_nil, Nat.reduceAdd, Nat.reduceSub, Array.replicate_succ, Array.replicate_zero, List.push_toArray, List.append_toArray, List.nil_append, List.cons_append]
  refine wpN_seq (wpN_of ?_)
  go_wp2
  refine wpN_seq (wpN_of ?_)
  go_wp2_with (go_at_call 11; refine HP.out.mono ?_; rintro e w1 ⟨rfl, hb1⟩)
  refine wpN_seq (wpN_of ?_)
  go_wp2
  have HI1 := Aside0.mk (HI.out.below hb1)
  have HB1 := Aside0.mk hb1
  obtain ⟨c, b, n, sn, rc, buf, hgb, hcb, hl, hr, hR, hg, hgc⟩ := HI1.out.open_cons (by omega)
  have h1 : w1.cell? ⟨g, 1, none⟩ = some (.slice (some ⟨b, 0, none⟩) s.row.length n) := (blk_cell hgb 1).trans rfl
  have hf1 : w1.frozen? ⟨g, 1, none⟩ = false := blk_frozen hgb 1
  have HCL := Aside0.mk (clone_some b n s.row w1 w0.heap.size hR (by omega))
  have HGB := Aside0.mk hgb
  have HCB := Aside0.mk hcb
  have HL := Aside0.mk hl
  have hlr : s.row.length ≤ 16 := by omega
  clear hR hgb hcb hb1 hl
  refine wpN_seq (wpN_of ?_)
  go_wp2_with (first
    | (go_at_call 33; refine HCL.out.mono ?_; rintro e w2 ⟨v2, rfl, hR2, hb2⟩; obtain ⟨b2, n2, rfl, hbb2, cur2, hcur2⟩ := R_some hR2 (by omega))
    | (go_at_call 32; rw [show ((j : Int) + 1) = ((j + 1 : Nat) : Int) by omega]; refine (delete_R b2 n2 j (j + 1) s.row w2 w1.heap.size hR2 rfl hjl (by omega) hb2.size).mono ?_; rintro e w3 ⟨rfl, hR3, hg3⟩;
       (have HGB3 := Aside0.mk ((hg3.block g (Nat.lt_of_lt_of_le (blk_lt HGB.out) hb2.size) (by intro e; injection e with e; have := blk_lt HGB.out; omega)).trans ((hb2.block g (blk_lt HGB.out)).trans HGB.out));
        have HCB3 := Aside0.mk ((hg3.block c (Nat.lt_of_lt_of_le (blk_lt HCB.out) hb2.size) (by intro e; injection e with e; have := blk_lt HCB.out; omega)).trans ((hb2.block c (blk_lt HCB.out)).trans HCB.out));
        have h3 : w3.cell? ⟨g, 1, none⟩ = some (.slice (some ⟨b, 0, none⟩) s.row.length n) := (blk_cell HGB3.out 1).trans rfl; have hf3 : w3.frozen? ⟨g, 1, none⟩ = false := blk_frozen HGB3.out 1)))
  have h30 : (w3.setCell ⟨g, 1, none⟩ (.slice (some ⟨b2, 0, none⟩) (s.row.length - 1) n2)).cell? ⟨g, 0, none⟩ = some (.chan (some c)) := by
    rw [World.cell?_setCell_other _ _ _ _ (by simp)]
    exact (blk_cell HGB3.out 0).trans rfl
  have hel : (s.row.eraseIdx j).length = s.row.length - 1 := by rw [List.length_eraseIdx_of_lt (by omega)]
  have hcne : c ≠ g := by
    intro e
    have h1 := HGB3.out
    have h2 := HCB3.out
    rw [e, h1] at h2
    injection h2 with h2
    cases h2
  have hcc : (w3.setCell ⟨g, 1, none⟩ (.slice (some ⟨b2, 0, none⟩) (s.row.length - 1) n2)).heap[c]? = some (.chan s.room buf false sn rc false) := (Below.heap_setCell w3 ⟨g, 1, none⟩ _ c hcne).trans HCB3.out
  have hB1 : Below w0.heap.size w0 w1 := HB0.out.trans (HB1.out.mono HB0.out.size)
  have HFIN := Aside0.mk (IsS62.put (w3 := w3) (v3 := .slice (some ⟨b2, 0, none⟩) (s.row.length - 1) n2) (row := s.row.eraseIdx j) HB0.out hg hgc
    (((KeptH.of_below HB1.out).below hb2).grown hg3 (fun k h => by injection h with h; subst h; exact .inl (.cells hcur2 (by decide))))
    ((hB1.trans (hb2.mono hB1.size)).grown hg3 (Nat.le_trans hB1.size hb2.size) (fun k h => by injection h with h; subst h; exact Nat.le_trans hB1.size hbb2)) HGB3.out HCB3.out (Kd.R_lower hR3 hB1.size)
    (buf.push (.agg #[])) (sn + 1) rc (by rw [hel, Array.size_push]; have := HL.out; omega) hr)
  refine wpN_seq (wpN_region ?_)
  simp only [List.size_toArray, List.length_cons, List.length_nil, Nat.reduceAdd, Nat.zero_add, List.range, List.range.loop]
  refine wpR_same (.pointer (some ⟨g, 0, none⟩)) rfl rfl (by go_simp) ?_
  simp only [List.getElem_toArray, List.getElem_cons_zero, List.getElem_cons_succ, Act.put, List.setIfInBounds_toArray, List.set_cons_zero, List.set_cons_succ]
  refine wpR_same (.pointer (some ⟨g, 0, none⟩)) rfl rfl (by go_simp) ?_
  simp only [List.getElem_toArray, List.getElem_cons_zero, List.getElem_cons_succ, Act.put, List.setIfInBounds_toArray, List.set_cons_zero, List.set_cons_succ]
  refine wpR_same (.pointer (some ⟨g, 0, none⟩)) rfl rfl (by go_simp) ?_
  simp only [List.getElem_toArray, List.getElem_cons_zero, List.getElem_cons_succ, Act.put, List.setIfInBounds_toArray, List.set_cons_zero, List.set_cons_succ]
  refine wpR_same (.chan (some c)) rfl rfl (by go_simp) ?_
  simp only [List.getElem_toArray, List.getElem_cons_zero, List.getElem_cons_succ, Act.put, List.setIfInBounds_toArray, List.set_cons_zero, List.set_cons_succ]
  refine wpR_same (.agg #[]) rfl rfl (by go_simp) ?_
  simp only [List.getElem_toArray, List.getElem_cons_zero, List.getElem_cons_succ, Act.put, List.setIfInBounds_toArray, List.set_cons_zero, List.set_cons_succ]
  refine wpR_send (c := c) (v := .agg #[]) (z := .tuple #[]) rfl rfl (by simp [execOp, scase, Act.eval]) hcc (by have := HL.out; omega) ?_
  simp only [List.getElem_toArray, List.getElem_cons_zero, List.getElem_cons_succ, Act.put, List.setIfInBounds_toArray, List.set_cons_zero, List.set_cons_succ]
  refine wpR_end ?_
  refine wpN_of ?_
  go_wp2
  go_ret
  exact ⟨rfl, HFIN.out⟩
/-- A cell of an old block, behind what a region does. -/
def Cel (g j : Nat) (v : Value) (W : World) : Prop := W.cell? ⟨g, j, none⟩ = some v ∧ W.frozen? ⟨g, j, none⟩ = false ∧ g < W.heap.size
theorem keep_below2 {W W' : World} {g j : Nat} {v : Value} (hb : Below W.heap.size W W') (h1 : W.cell? ⟨g, j, none⟩ = some v) (h2 : W.frozen? ⟨g, j, none⟩ = false) (h3 : g < W.heap.size) : W'.cell? ⟨g, j, none⟩ = some v ∧ W'.frozen? ⟨g, j, none⟩ = false ∧ g < W'.heap.size :=
  ⟨(hb.cell (p := ⟨g, j, none⟩) h3).trans h1, (hb.frozen (p := ⟨g, j, none⟩) h3).trans h2, Nat.lt_of_lt_of_le h3 hb.size⟩
theorem keep_alloc2 {W : World} {g j : Nat} {v : Value} (o : Obj) (h1 : W.cell? ⟨g, j, none⟩ = some v) (h2 : W.frozen? ⟨g, j, none⟩ = false) (h3 : g < W.heap.size) : (W.alloc o).cell? ⟨g, j, none⟩ = some v ∧ (W.alloc o).frozen? ⟨g, j, none⟩ = false ∧ g < (W.alloc o).heap.size :=
  keep_below2 (below_alloc (Below.refl _ _) o) h1 h2 h3
theorem keep_grown2 {W W' : World} {g j : Nat} {v : Value} {row : Option Nat} (hg : W.grownBy W' row) (hne : some g ≠ row) (h1 : W.cell? ⟨g, j, none⟩ = some v) (h2 : W.frozen? ⟨g, j, none⟩ = false) (h3 : g < W.heap.size) : W'.cell? ⟨g, j, none⟩ = some v ∧ W'.frozen? ⟨g, j, none⟩ = false ∧ g < W'.heap.size := by
  have hb := hg.block g h3 hne
  refine ⟨?_, ?_, Nat.lt_of_lt_of_le h3 hg.size⟩
  · rw [← h1]; simp only [World.cell?, hb]
  · rw [← h2]; simp only [World.frozen?, hb]
/-- The state behind a store of a new row. -/
theorem IsS62.put1 {w0 w w3 : World} {g c : Nat} {v v3 : Value} {buf : Array Value} {sn rc : Nat} {row : List S65} {room : Nat} (hg : w0.heap.size ≤ g) (hgc : w0.heap.size ≤ c)
    (hk : KeptH TQ w w3) (hB3 : Below w0.heap.size w0 w3) (hgb : w3.heap[g]? = some (.cells #[.chan (some c), v] 62 (0, 0))) (hcb : w3.heap[c]? = some (.chan room buf false sn rc false)) (hR : Kd.R k65 65 w3 w0.heap.size (fun _ => True) v3 row)
    (hl : buf.size + row.length = room) (hr : room ≤ 16) :
    IsS62 w0 (w3.setCell ⟨g, 1, none⟩ v3) g ⟨room, row⟩ ∧ Below w0.heap.size w0 (w3.setCell ⟨g, 1, none⟩ v3) ∧ KeptH TQ w (w3.setCell ⟨g, 1, none⟩ v3) := by
  have hne : c ≠ g := by
    rintro rfl
    rw [hgb] at hcb
    injection hcb with hcb
    cases hcb
  have hg1 : (w3.setCell ⟨g, 1, none⟩ v3).heap[g]? = some (.cells #[.chan (some c), v3] 62 (0, 0)) := by simpa using blk_set hgb 1 v3
  refine ⟨⟨c, v3, buf, sn, rc, hg1, hg, (Below.heap_setCell w3 ⟨g, 1, none⟩ v3 c hne).trans hcb, hgc, hl, hr, ?_⟩, below_set hB3 hg, hk.setCell (p := ⟨g, 1, none⟩) (.cells hgb (by decide)) _⟩
  exact Kd.R_set hR hgb (by decide) 1 v3
/-! #### Push -/
def queue_Queue_Push.f (s : QS) (id now : Int) : Option (Int × QS) :=
  if placeOf s.row id 0 ≥ 0 then some (6, s) else if s.row.length < s.room then some (0, { s with row := s.row ++ [⟨id, mn (mx now 0) 1099511627776⟩] }) else some (7, s)
set_option maxHeartbeats 1000000 in
theorem push_there (g : Nat) (s : QS) (a1 a2 : Int) (w0 w : World) (hI : IsS62 w0 w g s) (hp : placeOf s.row a1 0 ≥ 0) : Calls Try.prog 10 #[.pointer (some ⟨g, 0, none⟩), .int .i64 a1, .int .i64 a2] w fun e w' => e = .returned (.int .i64 6) ∧ Below w.heap.size w w' := by
  have HP := Aside0.mk (place_raw g s a1 w0 w hI)
  generalize placeOf s.row a1 0 = i at hp HP
  clear hI
  go_enter Try.func10, Try.ntmps10
  go_wp2_with (go_at_call 11; refine HP.out.mono ?_; rintro e w' ⟨rfl, hb⟩)
  go_ret
  exact ⟨rfl, hb⟩
set_option maxHeartbeats 2000000 in
theorem push_full (g : Nat) (s : QS) (a1 a2 : Int) (w0 w : World) (hI : IsS62 w0 w g s) (hp : ¬ placeOf s.row a1 0 ≥ 0) (hfull : ¬ s.row.length < s.room) :
    Calls Try.prog 10 #[.pointer (some ⟨g, 0, none⟩), .int .i64 a1, .int .i64 a2] w fun e w' => e = .returned (.int .i64 7) ∧ Below w.heap.size w w' := by
  have HP := Aside0.mk (place_raw g s a1 w0 w hI)
  have HI := Aside0.mk hI
  have HFULL := Aside0.mk hfull
  generalize placeOf s.row a1 0 = i at hp HP
  clear hI hfull
  refine calls_of_wpN Try.func10 rfl (by rintro _ ⟨h, _⟩; cases h) ?_
  simp only [Try.ntmps10, List.size_toArray, List.length_cons, List.length_nil, Nat.reduceAdd, Nat.reduceSub, Array.replicate_succ, Array.replicate_zero, List.push_toArray, List.append_toArray, List.nil_append, List.cons_append]
  refine wpN_seq (wpN_of ?_)
  go_wp2
  refine wpN_seq (wpN_of ?_)
  go_wp2_with (go_at_call 11; refine HP.out.mono ?_; rintro e w1 ⟨rfl, hb1⟩)
  obtain ⟨c, A, n, sn, rc, buf, hgb, hcb, hl, hr, hn, hC, hR, hg, hgc⟩ := (HI.out.below hb1).open_
  have h0 : w1.cell? ⟨g, 0, none⟩ = some (.chan (some c)) := (blk_cell hgb 0).trans rfl
  have hbuf : buf = #[] := Array.eq_empty_of_size_eq_zero (by have := HFULL.out; omega)
  subst hbuf
  have HB1 := Aside0.mk hb1
  have HCB := Aside0.mk hcb
  clear hgb hl hr hn hC hR hb1 hcb
  refine wpN_seq (wpN_of ?_)
  go_wp2
  refine wpN_seq (wpN_region ?_)
  simp only [List.size_toArray, List.length_cons, List.length_nil, Nat.reduceAdd, Nat.zero_add, List.range, List.range.loop]
  refine wpR_select_default (c := c) (z := .agg #[]) rfl rfl (by simp [go_sem, execOp, rcase, Act.eval]) HCB.out ?_
  simp only [List.getElem_toArray, List.getElem_cons_zero, List.getElem_cons_succ, Act.put, List.setIfInBounds_toArray, List.set_cons_zero, List.set_cons_succ]
  refine wpR_same (.int .i64 (-1)) rfl rfl (by go_simp) ?_
  simp only [List.getElem_toArray, List.getElem_cons_zero, List.getElem_cons_succ, Act.put, List.setIfInBounds_toArray, List.set_cons_zero, List.set_cons_succ]
  refine wpR_same (.bool false) rfl rfl (by go_simp) ?_
  simp only [List.getElem_toArray, List.getElem_cons_zero, List.getElem_cons_succ, Act.put, List.setIfInBounds_toArray, List.set_cons_zero, List.set_cons_succ]
  refine wpR_end ?_
  refine wpN_of ?_
  go_wp2
  go_ret
  exact ⟨rfl, HB1.out⟩
set_option maxHeartbeats 4000000 in
theorem push_ok (g : Nat) (s : QS) (a1 a2 : Int) (w0 w : World) (hI : IsS62 w0 w g s) (hB : Below w0.heap.size w0 w) (hp : ¬ placeOf s.row a1 0 ≥ 0) (hfit : s.row.length < s.room) :
    Calls Try.prog 10 #[.pointer (some ⟨g, 0, none⟩), .int .i64 a1, .int .i64 a2] w fun e w' => e = .returned (.int .i64 0) ∧ IsS62 w0 w' g { s with row := s.row ++ [⟨a1, mn (mx a2 0) 1099511627776⟩] } ∧ Below w0.heap.size w0 w' ∧ KeptH TQ w w' := by
  have HP := Aside0.mk (place_raw g s a1 w0 w hI)
  have HI := Aside0.mk hI
  have HB0 := Aside0.mk hB
  have HFIT := Aside0.mk hfit
  generalize placeOf s.row a1 0 = i at hp HP
  clear hI hfit hB
  refine calls_of_wpN Try.func10 rfl (by rintro _ ⟨h, _⟩; cases h) ?_
  simp only [Try.ntmps10, List.size_toArray, List.length_cons, List.length_nil, Nat.reduceAdd, Nat.reduceSub, Array.replicate_succ, Array.replicate_zero, List.push_toArray, List.append_toArray, List.nil_append, List.cons_append]
  refine wpN_seq (wpN_of ?_)
  go_wp2
  refine wpN_seq (wpN_of ?_)
  go_wp2_with (go_at_call 11; refine HP.out.mono ?_; rintro e w1 ⟨rfl, hb1⟩)
  obtain ⟨c, A, n, sn, rc, buf, hgb, hcb, hl, hr, hn, hC, hR, hg, hgc⟩ := (HI.out.below hb1).open_
  have h0 : w1.cell? ⟨g, 0, none⟩ = some (.chan (some c)) := (blk_cell hgb 0).trans rfl
  have HB1 := Aside0.mk hb1
  have HCB := Aside0.mk hcb
  have HGB := Aside0.mk hgb
  have HL := Aside0.mk hl
  have HR := Aside0.mk hR
  clear hgb hl hn hC hR hb1 hcb
  refine wpN_seq (wpN_of ?_)
  go_wp2
  refine wpN_seq (wpN_region ?_)
  simp only [List.size_toArray, List.length_cons, List.length_nil, Nat.reduceAdd, Nat.zero_add, List.range, List.range.loop]
  refine wpR_select_recv (c := c) (z := .agg #[]) rfl rfl (by simp [go_sem, execOp, rcase, Act.eval]) HCB.out (by have := HL.out; have := HFIT.out; omega) ?_
  generalize buf.getD 0 undef = u0
  simp only [List.getElem_toArray, List.getElem_cons_zero, List.getElem_cons_succ, Act.put, List.setIfInBounds_toArray, List.set_cons_zero, List.set_cons_succ]
  refine wpR_same (.int .i64 0) rfl rfl (by go_simp) ?_
  simp only [List.getElem_toArray, List.getElem_cons_zero, List.getElem_cons_succ, Act.put, List.setIfInBounds_toArray, List.set_cons_zero, List.set_cons_succ]
  refine wpR_same (.bool true) rfl rfl (by go_simp) ?_
  simp only [List.getElem_toArray, List.getElem_cons_zero, List.getElem_cons_succ, Act.put, List.setIfInBounds_toArray, List.set_cons_zero, List.set_cons_succ]
  refine wpR_end ?_
  refine wpN_of ?_
  obtain ⟨w2, hw2⟩ : ∃ w2, w2 = w1.setChan c s.room (buf.extract 1 buf.size) false sn (rc + 1) false := ⟨_, rfl⟩
  rw [← hw2]
  have hcne : c ≠ g := by
    intro e
    have h1 := HGB.out
    have h2 := HCB.out
    rw [e, h1] at h2
    injection h2 with h2
    cases h2
  have HGB2 : Aside0 (w2.heap[g]? = some (.cells #[.chan (some c), .slice A s.row.length n] 62 (0, 0))) := ⟨by rw [hw2]; exact (setChan_other _ _ _ _ _ _ _ _ _ (Ne.symm hcne)).trans HGB.out⟩
  have HCB2 : Aside0 (w2.heap[c]? = some (.chan s.room (buf.extract 1 buf.size) false sn (rc + 1) false)) := ⟨by rw [hw2]; exact heap_setChan _ _ _ _ _ _ _ _ (blk_lt HCB.out)⟩
  have HR2 : Aside0 (Kd.R k65 65 w2 w0.heap.size (fun _ => True) (.slice A s.row.length n) s.row) := ⟨by rw [hw2]; exact Ko.R_chan HR.out HCB.out⟩
  have HK2 : Aside0 (KeptH TQ w w2) := ⟨by rw [hw2]; exact (KeptH.of_below HB1.out).chan_ HCB.out⟩
  have HB2 : Aside0 (Below w0.heap.size w0 w2) := ⟨by rw [hw2]; exact below_setChan (HB0.out.trans (HB1.out.mono HB0.out.size)) hgc _ _ _ _ _ _⟩
  have h21 : w2.cell? ⟨g, 1, none⟩ = some (.slice A s.row.length n) := (blk_cell HGB2.out 1).trans rfl
  have hf21 : w2.frozen? ⟨g, 1, none⟩ = false := blk_frozen HGB2.out 1
  have hgl : g < w2.heap.size := blk_lt HGB2.out
  have hlr : s.row.length < 16 := by have := HFIT.out; omega
  clear hw2 h0
  go_wp2_with fail
  have HGN : Aside0 (∀ (W : World), Kd.R k65 65 W w0.heap.size (fun _ => True) (.slice A s.row.length n) s.row → W.heap[g]? = some (.cells #[.chan (some c), .slice A s.row.length n] 62 (0, 0)) → some g ≠ (Value.slice A s.row.length n).ownBlock) := ⟨fun W h hb => Kd.R_ne h hb (by decide)⟩
  go_region_law ((first
      | (go_simp; go_at_call 29; refine (sat_Cut.calls a2 _ _ rfl).mono ?_; rintro e w3 ⟨rfl, hb3⟩; obtain ⟨h31, hf31, hg3l⟩ := keep_below2 (W := w2.drew) hb3 h21 hf21 hgl)
      | (refine Kd.R_append_step k65 (w0 := w0) w0.heap.size rfl (.tmp 26) (.tmp 31) 60 65 (.agg #[(.int .i64 0), (.int .i64 0)]) 16 rfl Try.underlying60 info65 rfl (by decide) (by omega) (.slice A s.row.length n) s.row ⟨a1, mn (mx a2 0) 1099511627776⟩ [.int .i64 a1, .int .i64 (mn (mx a2 0) 1099511627776)] (fun _ => True) (fun _ => False) (by rfl) (by rfl) ?aP (fun _ h => h.elim) (fun _ _ => trivial) ?aO ?aB ?aS ?aL ?_;
         (case aP => exact k65_mkM _ _ _ _); (case aO => exact Kd.R_below (Kd.R_drew HR2.out) hb3); (case aB => exact (below_drew1 HB2.out).trans (hb3.mono HB2.out.size)); (case aS => exact Nat.le_trans HB2.out.size hb3.size); (case aL => omega); intro v4 w4 hR4 hb4 hg4 hat4; obtain ⟨b4, n4, rfl, hbb4, cur4, hcur4⟩ := R_some hR4 (by simp); obtain ⟨h41, hf41, hg4l⟩ := keep_grown2 hg4 (HGN.out _ HR2.out HGB2.out) h31 hf31 hg3l)))
  all_goals
    have HGB4 : w4.heap[g]? = some (.cells #[.chan (some c), .slice A s.row.length n] 62 (0, 0)) := (hg4.block g hg3l (HGN.out _ HR2.out HGB2.out)).trans ((hb3.block g (blk_lt HGB2.out)).trans HGB2.out)
    have HCB3 : w3.heap[c]? = some (.chan s.room (buf.extract 1 buf.size) false sn (rc + 1) false) := (hb3.block c (blk_lt HCB2.out)).trans HCB2.out
    have HCB4 : w4.heap[c]? = some (.chan s.room (buf.extract 1 buf.size) false sn (rc + 1) false) := (hg4.block c (blk_lt HCB3) (by
      intro e
      obtain ⟨cells, hc⟩ := own_typed (show w3.ownsRow w0.heap.size 65 2 (.slice A s.row.length n) s.row.length _ from (Kd.R_own (Kd.R_below (Kd.R_drew HR2.out) hb3)).choose_spec) c e.symm
      rw [HCB3] at hc
      injection hc with hc
      cases hc)).trans HCB3
    have HFIN := Aside0.mk (IsS62.put1 (w := w) (row := s.row ++ [⟨a1, mn (mx a2 0) 1099511627776⟩]) hg hgc
      (((HK2.out.drew).below hb3).grown hg4 (fun k h => by
        obtain ⟨cells, hc⟩ := own_typed (show w3.ownsRow w0.heap.size 65 2 (.slice A s.row.length n) s.row.length _ from (Kd.R_own (Kd.R_below (Kd.R_drew HR2.out) hb3)).choose_spec) k h
        exact .inl (.cells hc (by decide)))) hb4 HGB4 HCB4 hR4 (by have := HL.out; have := HFIT.out; simp; omega) hr)
    clear HGB4 HCB3 HCB4 hR4 hb4 hg4 hat4 hcur4
    rw [show (s.row ++ [(⟨a1, mn (mx a2 0) 1099511627776⟩ : S65)]).length = s.row.length + 1 by simp] at HFIN
    go_wp2
    go_ret
    exact ⟨rfl, HFIN.out⟩
end Go.Proofs.Ytdcnmjdohjodhaa.Man
