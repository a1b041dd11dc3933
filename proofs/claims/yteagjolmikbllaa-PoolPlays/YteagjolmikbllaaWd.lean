/-
  Contract of the pool's New. Conditions: none.
-/
import Derived.Test.YteagjolmikbllaaWc
set_option linter.unusedVariables false
set_option linter.unusedSimpArgs false
namespace Go.Proofs.Yteagjolmikbllaa.Ob
open Go.RowKit Go.Conc Go.Proofs.Yteagjolmikbllaa.Comm Go.Proofs.YteagjolmikbllaaW.PrintWords Go.Proofs.YteagjolmikbllaaW.PrintLast Go.Proofs.YteagjolmikbllaaW.PrintMore Go.Proofs.Yteagjolmikbllaa.Hid Go.Proofs.Yteagjolmikbllaa.Mp Go.Proofs.Yteagjolmikbllaa.PA
theorem bytes60 : ∃ i, Try.prog.info? 60 = some i ∧ i.bytes = 0 := by
  have h : (Try.prog.info? 60).map (·.bytes) = some 0 := by kernel_rfl
  obtain ⟨i, hi, hb⟩ := Option.map_eq_some_iff.1 h
  exact ⟨i, hi, hb⟩
theorem mkc (w : World) (n : Nat) (hn : n ≤ 8) : (Instr.makeChan 57 (.int .i64 n)).run Try.prog w = .ok (.chan (some w.heap.size)) (w.alloc (.chan n #[] false 0 0 false)) := by
  obtain ⟨i, hi, hb⟩ := bytes60
  simpa using run_makeChan (P := Try.prog) (w := w) Try.underlying57 hi .i64 n (by omega) (by rw [hb]; omega)
def sizeOf (room : Int) : Nat := (mn (mx room 1) 8).toNat
theorem sizeOf_eq (room : Int) : mn (mx room 1) 8 = (sizeOf room : Int) ∧ 1 ≤ sizeOf room ∧ sizeOf room ≤ 8 := by
  have h0 : 1 ≤ mn (mx room 1) 8 ∧ mn (mx room 1) 8 ≤ 8 := by
    unfold mn mx
    constructor <;> (repeat' split) <;> omega
  unfold sizeOf
  omega
set_option maxHeartbeats 2000000 in
theorem new_raw (a0 : Int) (w0 w : World) (hB : Below w0.heap.size w0 w) :
    Calls Try.prog 9 #[.int .i64 a0] w fun e w' => ∃ g : Nat, e = .returned (.pointer (some ⟨g, 0, none⟩)) ∧ IsP w0 w' g ⟨sizeOf a0, [], []⟩ ∧ Below w0.heap.size w0 w' ∧ Below w.heap.size w w' ∧ w.heap.size ≤ g := by
  obtain ⟨hn, hn1, hn8⟩ := sizeOf_eq a0
  generalize sizeOf a0 = n at hn hn1 hn8 ⊢
  have hmk := fun w => mkc w n hn8
  have hmm := @run_makeMap Try.prog
  obtain ⟨j2, hj2⟩ : ∃ j : Int, max a0 1 = j := ⟨_, rfl⟩
  have hj3 : min j2 8 = (n : Int) := by rw [← hj2, ← hn]; unfold mn mx; (repeat' split) <;> omega
  clear hn
  have HB := Aside0.mk hB
  clear hB
  refine calls_of_wpN Try.func9 rfl (by rintro _ ⟨_, h, _⟩; cases h) ?_
  simp only [Try.ntmps9, List.size_toArray, List.length_cons, List.length_nil, Nat.reduceAdd, Nat.reduceSub, Array.replicate_succ, Array.replicate_zero, List.push_toArray, List.append_toArray, List.nil_append, List.cons_append]
  refine wpN_seq (wpN_of ?_)
  go_wp2
  refine wpN_seq (wpN_of ?_)
  go_wp2
  refine wpN_seq (wpN_of ?_)
  go_wp2
  have hgb0 : (((w.alloc (.map #[] 0)).alloc (.chan n #[] false 0 0 false)).alloc (.cells #[.map (some w.heap.size), .slice none 0 0, .chan (some (w.heap.size + 1))] 59)).heap[w.heap.size + 2]? = some (.cells #[.map (some w.heap.size), .slice none 0 0, .chan (some (w.heap.size + 1))] 59 (0, 0)) := by
    have := heap_alloc_new ((w.alloc (.map #[] 0)).alloc (.chan n #[] false 0 0 false)) (.cells #[.map (some w.heap.size), .slice none 0 0, .chan (some (w.heap.size + 1))] 59)
    simpa using this
  have hcb0 : (((w.alloc (.map #[] 0)).alloc (.chan n #[] false 0 0 false)).alloc (.cells #[.map (some w.heap.size), .slice none 0 0, .chan (some (w.heap.size + 1))] 59)).heap[w.heap.size + 1]? = some (.chan n #[] false 0 0 false) := by
    rw [Below.heap_alloc _ _ _ (by simp)]
    have := heap_alloc_new (w.alloc (.map #[] 0)) (.chan n #[] false 0 0 false)
    simpa using this
  have hM0 : MapI (((w.alloc (.map #[] 0)).alloc (.chan n #[] false 0 0 false)).alloc (.cells #[.map (some w.heap.size), .slice none 0 0, .chan (some (w.heap.size + 1))] 59)) w.heap.size [] := by
    refine (MapI.made w).step ?_
    rw [Below.heap_alloc _ _ _ (by simp; omega), Below.heap_alloc _ _ _ (by simp)]
  have HBW : Aside0 (Below w.heap.size w (((w.alloc (.map #[] 0)).alloc (.chan n #[] false 0 0 false)).alloc (.cells #[.map (some w.heap.size), .slice none 0 0, .chan (some (w.heap.size + 1))] 59))) := ⟨below_alloc (below_alloc (below_alloc (Below.refl _ _) _) _) _⟩
  generalize ((w.alloc (.map #[] 0)).alloc (.chan n #[] false 0 0 false)).alloc (.cells #[.map (some w.heap.size), .slice none 0 0, .chan (some (w.heap.size + 1))] 59) = W0 at hgb0 hcb0 hM0 HBW ⊢
  obtain ⟨mb, hmb⟩ : ∃ mb, mb = w.heap.size := ⟨_, rfl⟩
  obtain ⟨c, hc⟩ : ∃ c, c = w.heap.size + 1 := ⟨_, rfl⟩
  obtain ⟨g, hg⟩ : ∃ g, g = w.heap.size + 2 := ⟨_, rfl⟩
  rw [← hg, ← hc, ← hmb] at hgb0
  rw [← hc] at hcb0
  rw [← hmb] at hM0
  rw [← hg, ← hc, ← hmb]
  have HM := Aside0.mk hmb
  have HG := Aside0.mk hg
  have HC := Aside0.mk hc
  have hcg : c ≠ g := by omega
  have hcm : mb ≠ c := by omega
  clear hg hc hmb hmk hmm hj2 hj3
  refine wpN_seq (wpN_seq (wpN_of ?_))
  go_wp2
  refine wpN_block (wpN_loop (fun m a W => ∃ (j : Nat) (buf : Array Value) (u14 u15 u16 u17 u18 u19 u20 : Value), m + j = n ∧ a = ⟨#[.int .i64 n, undef, .pointer none, .pointer (some ⟨g, 0, none⟩), .int .i64 a0, .int .i64 j2, .int .i64 n, .map (some mb), .int .i64 n, .chan (some c), .agg #[.map (some mb), .slice none 0 0, .chan (some c)], .pointer (some ⟨g, 0, none⟩), .int .i64 n, .int .i64 j, u14, u15, u16, u17, u18, u19, u20, undef], []⟩ ∧
      W.heap[g]? = some (.cells #[.map (some mb), .slice none 0 0, .chan (some c)] 59 (0, 0)) ∧ W.heap[c]? = some (.chan n buf false j 0 false) ∧ buf.size = j ∧ MapI W mb [] ∧ Below w.heap.size w W) n ⟨0, #[], _, _, _, _, _, _, _, rfl, rfl, hgb0, hcb0, rfl, hM0, HBW.out⟩ ?_)
  rintro m a W ⟨j, buf, u14, u15, u16, u17, u18, u19, u20, hmj, rfl, hgb, hcb, hbuf, hM, hbel⟩
  have HGB := Aside0.mk hgb
  have HCB := Aside0.mk hcb
  have HBUF := Aside0.mk hbuf
  have HMI := Aside0.mk hM
  have HBEL := Aside0.mk hbel
  have HMJ := Aside0.mk hmj
  have hjn : j ≤ n := by omega
  have h0 : W.cell? ⟨g, 2, none⟩ = some (.chan (some c)) := (blk_cell hgb 2).trans rfl
  clear hgb hcb hbuf hbel hmj hM hgb0 hcb0 hM0
  by_cases hlt : j < n
  · refine wpN_seq (wpN_of ?_)
    go_wp2
    refine wpN_seq (wpN_of ?_)
    go_wp2
    refine wpN_seq (wpN_block (wpN_region ?_))
    simp only [List.size_toArray, List.length_cons, List.length_nil, Nat.reduceAdd, Nat.zero_add, List.range, List.range.loop]
    refine wpR_same (.pointer (some ⟨g, 0, none⟩)) rfl rfl (by go_simp) ?_
    simp only [List.getElem_toArray, List.getElem_cons_zero, List.getElem_cons_succ, Act.put, List.setIfInBounds_toArray, List.set_cons_zero, List.set_cons_succ]
    refine wpR_same (.pointer (some ⟨g, 0, none⟩)) rfl rfl (by go_simp) ?_
    simp only [List.getElem_toArray, List.getElem_cons_zero, List.getElem_cons_succ, Act.put, List.setIfInBounds_toArray, List.set_cons_zero, List.set_cons_succ]
    refine wpR_same (.pointer (some ⟨g, 2, none⟩)) rfl rfl (by go_simp) ?_
    simp only [List.getElem_toArray, List.getElem_cons_zero, List.getElem_cons_succ, Act.put, List.setIfInBounds_toArray, List.set_cons_zero, List.set_cons_succ]
    refine wpR_same (.chan (some c)) rfl rfl (by go_simp) ?_
    simp only [List.getElem_toArray, List.getElem_cons_zero, List.getElem_cons_succ, Act.put, List.setIfInBounds_toArray, List.set_cons_zero, List.set_cons_succ]
    refine wpR_same (.agg #[]) rfl rfl (by go_simp) ?_
    simp only [List.getElem_toArray, List.getElem_cons_zero, List.getElem_cons_succ, Act.put, List.setIfInBounds_toArray, List.set_cons_zero, List.set_cons_succ]
    refine wpR_send (c := c) (v := .agg #[]) (z := .tuple #[]) rfl rfl (by simp [execOp, scase, Act.eval]) HCB.out (by rw [HBUF.out]; exact hlt) ?_
    simp only [List.getElem_toArray, List.getElem_cons_zero, List.getElem_cons_succ, Act.put, List.setIfInBounds_toArray, List.set_cons_zero, List.set_cons_succ]
    refine wpR_end ?_
    refine wpN_of ?_
    go_wp2
    have hmj := HMJ.out
    refine ⟨m - 1, by omega, j + 1, buf.push (.agg #[]), _, _, _, _, _, _, _, by omega, rfl, (setChan_other _ _ _ _ _ _ _ _ _ (Ne.symm hcg)).trans HGB.out, heap_setChan _ _ _ _ _ _ _ _ (blk_lt HCB.out), by rw [Array.size_push, HBUF.out], HMI.out.step (setChan_other _ _ _ _ _ _ _ _ _ hcm), below_setChan HBEL.out (by rw [HC.out]; omega) _ _ _ _ _ _⟩
  · have hje : j = n := by omega
    subst hje
    refine wpN_seq (wpN_of ?_)
    go_wp2
    refine wpN_seq (wpN_of ?_)
    go_wp2
    have hc2 := HC.out
    have hb2 := HB.out.size
    have HFIN : Aside0 (IsP w0 W g ⟨j, [], []⟩ ∧ Below w0.heap.size w0 W ∧ Below w.heap.size w W ∧ w.heap.size ≤ g) := ⟨⟨mb, .slice none 0 0, c, buf, j, 0, HGB.out, by have := HG.out; omega, HMI.out, by have := HM.out; omega, Kd.R_nil _ _ _ _ _, HCB.out, by omega, by show buf.size + 0 = j; exact HBUF.out, hn8⟩, HB.out.trans (HBEL.out.mono HB.out.size), HBEL.out, by have := HG.out; omega⟩
    refine wpN_of ?_
    go_wp2
    go_ret
    exact ⟨g, rfl, by rw [HM.out]; exact HFIN.out⟩
end Go.Proofs.Yteagjolmikbllaa.Ob
