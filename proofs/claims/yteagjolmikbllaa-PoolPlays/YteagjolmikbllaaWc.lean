/-
  Contracts of the pool's Drop and New. Conditions: none.
-/
import Derived.Test.YteagjolmikbllaaWb
set_option linter.unusedVariables false
set_option linter.unusedSimpArgs false
namespace Go.Proofs.Yteagjolmikbllaa.Ob
open Go.RowKit Go.Conc Go.Proofs.Yteagjolmikbllaa.Comm Go.Proofs.YteagjolmikbllaaW.PrintWords Go.Proofs.YteagjolmikbllaaW.PrintLast Go.Proofs.YteagjolmikbllaaW.PrintMore Go.Proofs.Yteagjolmikbllaa.Hid Go.Proofs.Yteagjolmikbllaa.Mp Go.Proofs.Yteagjolmikbllaa.PA
variable {w0 w w1 : World} {g : Nat} {s : PS}
theorem drop_no (id : Int) (hid : I64 id) (hI : IsP w0 w g s) (hc : code s.what id = 0) : Calls Try.prog 22 #[.pointer (some ⟨g, 0, none⟩), .int .i64 id] w fun e w' => e = .returned (.bool false) ∧ Below w.heap.size w w' := by
  have H := Aside0.mk (fun W (h : IsP w0 W g s) => isThere_raw id hid h)
  rw [decide_eq_true hc] at H
  have HI := Aside0.mk (hI.alloc (.cells #[.int .i64 id] 3))
  clear hI hc
  go_enter Try.func22, Try.ntmps22
  go_wp2_with (go_at_call 32; refine (H.out _ HI.out).mono ?_; rintro e w' ⟨rfl, rfl⟩)
  go_ret
  exact ⟨rfl, below_alloc (Below.refl _ _) _⟩
theorem dr_raw (x id : Int) {D : Nat} (h : w.heap[D]? = some (.cells #[.int .i64 id] 3 (0, 0))) : Calls Try.prog 44 #[.int .i64 x, .pointer (some ⟨D, 0, none⟩)] w fun e w' => e = .returned (.bool (decide (x = id))) ∧ Below w.heap.size w w' := by
  have c0 : w.cell? ⟨D, 0, none⟩ = some (.int .i64 id) := (blk_cell h 0).trans rfl
  clear h
  go_enter Try.func44, Try.ntmps44
  go_wp2
  go_ret
  exact ⟨by simp [bq], Below.refl _ _⟩
def dropRow (l : List Int) (id : Int) : List Int := l.filter (fun x => !decide (x = id))
def dropF (s : PS) (id : Int) : Bool × PS := if code s.what id = 0 then (false, s) else (true, ⟨s.size, rem s.what id, dropRow s.stack id⟩)
set_option maxHeartbeats 4000000 in
theorem drop_yes (id : Int) (hid : I64 id) (hI : IsP w0 w g s) (hB : Below w0.heap.size w0 w) (hc : code s.what id ≠ 0) : Calls Try.prog 22 #[.pointer (some ⟨g, 0, none⟩), .int .i64 id] w fun e w' => e = .returned (.bool true) ∧
    IsP w0 w' g ⟨s.size, rem s.what id, dropRow s.stack id⟩ ∧ Below w0.heap.size w0 w' ∧ KeptP g w w' := by
  have H := Aside0.mk (fun W (h : IsP w0 W g s) => isThere_raw id hid h)
  rw [decide_eq_false hc] at H
  obtain ⟨v0, hz⟩ : ∃ v, Mp.look s.what id = some v := by
    unfold code at hc
    cases hl : Mp.look s.what id with
    | none => rw [hl] at hc; exact absurd rfl hc
    | some v => exact ⟨v, rfl⟩
  obtain ⟨w1, hw1⟩ : ∃ w1, w1 = w.alloc (.cells #[.int .i64 id] 3) := ⟨_, rfl⟩
  have hI1 : IsP w0 w1 g s := by rw [hw1]; exact hI.alloc _
  have hb1 : Below w.heap.size w w1 := by rw [hw1]; exact below_alloc (Below.refl _ _) _
  have hD1 : w1.heap[w.heap.size]? = some (.cells #[.int .i64 id] 3 (0, 0)) := by rw [hw1]; exact heap_alloc_new w _
  obtain ⟨mb, A, n, cb, buf, sn, rc, hb, hg, hM, hgm, hR, hcb, hgc, hl, h8⟩ := hI1.open_
  obtain ⟨mb', A', n', cb', buf', sn', rc', hb', _⟩ := hI.open_
  have hbb : w.heap[g]? = some (.cells #[.map (some mb), .slice A s.stack.length n, .chan (some cb)] 59 (0, 0)) := (hb1.block g hI.lt).symm.trans hb
  have hRo : kI.R 3 w w0.heap.size (fun _ => True) (.slice A s.stack.length n) s.stack := by
    obtain ⟨mb', A', n', cb', buf', sn', rc', hb', _, _, _, hR', _⟩ := hI.open_
    rw [hbb] at hb'
    injection hb' with hb'
    injection hb' with hb' _
    injection hb' with hb'
    injection hb' with e1 hb'
    injection hb' with e2 hb'
    rw [e2]
    exact hR'
  have hown_lt : ∀ k, (Value.slice A s.stack.length n).ownBlock = some k → k < w.heap.size := fun k hk => by
    obtain ⟨cs, hcs⟩ := Kd.R_typed hRo k hk
    exact blk_lt hcs
  have c0 : w1.cell? ⟨g, 0, none⟩ = some (.map (some mb)) := (blk_cell hb 0).trans rfl
  have cD : w1.cell? ⟨w.heap.size, 0, none⟩ = some (.int .i64 id) := (blk_cell hD1 0).trans rfl
  obtain ⟨w2, hdel, hM2, hg2, hsz2⟩ := MapI.del (W := w1.drew) 56 Try.underlying56 (MapI.step (W1 := w1.drew) hM rfl) hid 0
  have hne1 : some g ≠ some mb := fun e => ne_map hb hM (by injection e)
  have hne2 : some cb ≠ some mb := fun e => map_ne_chan hM hcb (by injection e with e; exact e.symm)
  have hneD : some w.heap.size ≠ some mb := fun e => ne_map hD1 hM (by injection e)
  have hgb2 : w2.heap[g]? = some (.cells #[.map (some mb), .slice A s.stack.length n, .chan (some cb)] 59 (0, 0)) := (hg2.block g (blk_lt hb) hne1).trans hb
  have hcb2 : w2.heap[cb]? = some (.chan s.size buf false sn rc false) := (hg2.block cb (blk_lt hcb) hne2).trans hcb
  have hD2 : w2.heap[w.heap.size]? = some (.cells #[.int .i64 id] 3 (0, 0)) := (hg2.block w.heap.size (blk_lt hD1) hneD).trans hD1
  have hR2 : kI.R 3 w2 w0.heap.size (fun _ => True) (.slice A s.stack.length n) s.stack := Kd.R_mono (Kd.R_grown (Kd.R_tight rfl (Kd.R_drew hR)) hg2 (fun k hk e => row_ne_map hR hM (by rw [← e]; exact hk))) (fun _ _ => trivial)
  have hB1 : Below w0.heap.size w0 w1 := hB.trans (hb1.mono hB.size)
  have hB2 : Below w0.heap.size w0 w2 := below_grownO (below_drew1 hB1) hg2 (fun k e => by injection e with e; rw [← e]; exact hgm)
  have c12 : w2.cell? ⟨g, 1, none⟩ = some (.slice A s.stack.length n) := (blk_cell hgb2 1).trans rfl
  have hlr := len_rem hM.1 hz
  have hs1 : w1.heap.size = w.heap.size + 1 := by rw [hw1]; simp
  have hs2 : w2.heap.size = w1.heap.size := hsz2
  have HK2 : Aside0 (∀ k, k < w.heap.size → k ≠ mb → w2.heap[k]? = w.heap[k]?) := ⟨fun k hk h2 => (hg2.block k (by show k < w1.heap.size; omega) (fun e => h2 (by injection e))).trans (hb1.block k hk)⟩
  have HR2 := Aside0.mk hR2
  have HB2 := Aside0.mk hB2
  have HM2 := Aside0.mk hM2
  have HGB2 := Aside0.mk hgb2
  have HCB2 := Aside0.mk hcb2
  have HD2 := Aside0.mk hD2
  have HGB := Aside0.mk hbb
  have HLR := Aside0.mk hlr
  have HL := Aside0.mk hl
  have HI1 := Aside0.mk hI1
  have HW1 := Aside0.mk hw1
  have HOL := Aside0.mk hown_lt
  have HS : Aside0 (w2.heap.size = w.heap.size + 1) := ⟨by omega⟩
  clear hb' hbb hRo hown_lt hI hB hI1 hb1 hD1 hb hM hR hcb hgb2 hcb2 hD2 hR2 hB1 hB2 hM2 hg2 hsz2 hlr hs1 hs2 hl hw1
  refine calls_of_wpN Try.func22 rfl (by rintro _ ⟨h, _⟩; cases h) ?_
  simp only [Try.ntmps22, List.size_toArray, List.length_cons, List.length_nil, Nat.reduceAdd, Nat.reduceSub, Array.replicate_succ, Array.replicate_zero, List.push_toArray, List.append_toArray, List.nil_append, List.cons_append]
  refine wpN_seq (wpN_of ?_)
  go_wp2
  refine wpN_seq (wpN_of ?_)
  rw [← HW1.out]
  go_wp2_with (go_at_call 32; refine (H.out _ HI1.out).mono ?_; rintro e w' ⟨rfl, rfl⟩)
  refine wpN_seq (wpN_of ?_)
  go_wp2_with fail
  go_region
  go_wp2
  refine wpN_seq (wpN_of ?_)
  go_wp2_with (go_at_call 43; refine (delFunc_any_dr (fun x => decide (x = id)) w.heap.size s.stack (.slice A s.stack.length n) _ HR2.out (fun W hg x _ => dr_raw x id ((hg.block w.heap.size (by have := HS.out; omega) (fun e => by have := HOL.out _ e.symm; omega)).trans HD2.out))).mono ?_; rintro e w3 ⟨v3, rfl, hR3, hg3, ho3⟩; have HR3 := Aside0.mk hR3; have HG3 := Aside0.mk hg3; have HO3 := Aside0.mk ho3; obtain ⟨A3, n3, rfl⟩ := Kd.R_slice hR3; have HGB3 := Aside0.mk ((hg3.block g (blk_lt HGB2.out) (row_ne_blk HR2.out HGB2.out (by decide))).trans HGB2.out); have HCB3 := Aside0.mk ((hg3.block cb (blk_lt HCB2.out) (row_ne_chan HR2.out HCB2.out)).trans HCB2.out); have HM3 := Aside0.mk (MapI.step (W1 := w3) HM2.out (hg3.block mb HM2.out.lt (row_ne_map HR2.out HM2.out))); have h31 : w3.cell? ⟨g, 1, none⟩ = some (.slice A s.stack.length n) := (blk_cell HGB3.out 1).trans rfl; have hf31 : w3.frozen? ⟨g, 1, none⟩ = false := blk_frozen HGB3.out 1; clear hR3 hg3 ho3)
  obtain ⟨w4, hw4⟩ : ∃ w4, w4 = w3.setCell ⟨g, 1, none⟩ (.slice A3 (keptOf (fun x => decide (x = id)) s.stack).length n3) := ⟨_, rfl⟩
  have hoth4 : ∀ k, k ≠ g → w4.heap[k]? = w3.heap[k]? := fun k hk => by rw [hw4]; exact Below.heap_setCell w3 ⟨g, 1, none⟩ _ k hk
  have hgb4 : w4.heap[g]? = some (.cells #[.map (some mb), .slice A3 (keptOf (fun x => decide (x = id)) s.stack).length n3, .chan (some cb)] 59 (0, 0)) := by rw [hw4]; simpa using blk_set HGB3.out 1 (.slice A3 (keptOf (fun x => decide (x = id)) s.stack).length n3)
  have hcb4 : w4.heap[cb]? = some (.chan s.size buf false sn rc false) := (hoth4 cb (fun e => ne_chan HGB3.out HCB3.out e.symm)).trans HCB3.out
  have hM4 : MapI w4 mb (rem s.what id) := HM3.out.step (hoth4 mb (fun e => ne_map HGB3.out HM3.out e.symm))
  have hR4 : kI.R 3 w4 w0.heap.size (fun _ => True) (.slice A3 (keptOf (fun x => decide (x = id)) s.stack).length n3) (keptOf (fun x => decide (x = id)) s.stack) := by rw [hw4]; exact Kd.R_set HR3.out HGB3.out (by decide) 1 _
  have hB4 : Below w0.heap.size w0 w4 := by rw [hw4]; exact below_set (below_grownO HB2.out HG3.out (fun k e => Kd.R_base HR2.out k e)) hg
  have hs4 : w4.heap.size = w3.heap.size := by rw [hw4]; simp
  have c42 : w4.cell? ⟨g, 2, none⟩ = some (.chan (some cb)) := (blk_cell hgb4 2).trans rfl
  obtain ⟨w5, hw5⟩ : ∃ w5, w5 = w4.setChan cb s.size (buf.push (.agg #[])) false (sn + 1) rc false := ⟨_, rfl⟩
  obtain ⟨hcb5, hoth5, hsz5⟩ := chan_put hcb4 hw5
  have hgb5 := (hoth5 g (ne_chan hgb4 hcb4)).trans hgb4
  have HFIN : Aside0 (IsP w0 w5 g ⟨s.size, rem s.what id, dropRow s.stack id⟩ ∧ Below w0.heap.size w0 w5 ∧ KeptP g w w5) := ⟨⟨mb, _, cb, _, sn + 1, rc, hgb5, hg, hM4.step (hoth5 mb (map_ne_chan hM4 hcb4)), hgm, Kd.R_mono (Kd.R_move (Kd.R_tight rfl hR4) (fun k hk => hoth5 k (fun e => row_ne_chan hR4 hcb4 (by rw [← e]; exact hk)))) (fun _ _ => trivial), hcb5, hgc, by
      show (buf.push (.agg #[])).size + (rem s.what id).length = s.size
      have h1 := HLR.out
      have h2 := HL.out
      rw [Array.size_push]
      omega, h8⟩, by rw [hw5]; exact below_setChan hB4 hgc _ _ _ _ _ _, kept_of HGB.out hgb5 (by have := HS.out; have := HG3.out.size; omega) (fun k h => .inl (by rw [← HO3.out]; exact h)) (fun k hk h1 h2 h3 h4 => (hoth5 k h3).trans ((hoth4 k h1).trans ((HG3.out.block k (by have := HS.out; omega) (fun e => h4 e.symm)).trans (HK2.out k hk h2))))⟩
  have HCB4 := Aside0.mk hcb4
  have HW5 := Aside0.mk hw5
  have HROOM : Aside0 (buf.size < s.size) := ⟨by have := HLR.out; have := HL.out; omega⟩
  rw [← hw4]
  clear hw4 hoth4 hgb4 hcb4 hM4 hR4 hB4 hs4 hw5 hcb5 hoth5 hsz5 hgb5
  refine wpN_seq (wpN_region ?_)
  simp only [List.size_toArray, List.length_cons, List.length_nil, Nat.reduceAdd, Nat.zero_add, List.range, List.range.loop]
  refine wpR_same (.pointer (some ⟨g, 0, none⟩)) rfl rfl (by go_simp) ?_
  simp only [List.getElem_toArray, List.getElem_cons_zero, List.getElem_cons_succ, Act.put, List.setIfInBounds_toArray, List.set_cons_zero, List.set_cons_succ]
  refine wpR_same (.pointer (some ⟨g, 0, none⟩)) rfl rfl (by go_simp) ?_
  simp only [List.getElem_toArray, List.getElem_cons_zero, List.getElem_cons_succ, Act.put, List.setIfInBounds_toArray, List.set_cons_zero, List.set_cons_succ]
  refine wpR_same (.pointer (some ⟨g, 2, none⟩)) rfl rfl (by go_simp) ?_
  simp only [List.getElem_toArray, List.getElem_cons_zero, List.getElem_cons_succ, Act.put, List.setIfInBounds_toArray, List.set_cons_zero, List.set_cons_succ]
  refine wpR_same (.chan (some cb)) rfl rfl (by go_simp) ?_
  simp only [List.getElem_toArray, List.getElem_cons_zero, List.getElem_cons_succ, Act.put, List.setIfInBounds_toArray, List.set_cons_zero, List.set_cons_succ]
  refine wpR_same (.agg #[]) rfl rfl (by go_simp) ?_
  simp only [List.getElem_toArray, List.getElem_cons_zero, List.getElem_cons_succ, Act.put, List.setIfInBounds_toArray, List.set_cons_zero, List.set_cons_succ]
  refine wpR_send (c := cb) (v := .agg #[]) (z := .tuple #[]) rfl rfl (by simp [execOp, scase, Act.eval]) HCB4.out HROOM.out ?_
  rw [← HW5.out]
  simp only [List.getElem_toArray, List.getElem_cons_zero, List.getElem_cons_succ, Act.put, List.setIfInBounds_toArray, List.set_cons_zero, List.set_cons_succ]
  refine wpR_end ?_
  refine wpN_of ?_
  go_wp2
  go_ret
  exact ⟨rfl, HFIN.out⟩
end Go.Proofs.Yteagjolmikbllaa.Ob
