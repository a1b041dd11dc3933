/-
  Contracts of the pool's methods that turn it. Conditions: none.
-/
import Derived.Test.YteagjolmikbllaaRe
import Derived.Test.YteagjolmikbllaaComm
import Derived.Test.YteagjolmikbllaaPAx0
set_option linter.unusedVariables false
set_option linter.unusedSimpArgs false
namespace Go.Proofs.Yteagjolmikbllaa.Ob
open Go.RowKit Go.Conc Go.Proofs.Yteagjolmikbllaa.Comm Go.Proofs.YteagjolmikbllaaW.PrintWords Go.Proofs.YteagjolmikbllaaW.PrintLast Go.Proofs.YteagjolmikbllaaW.PrintMore Go.Proofs.Yteagjolmikbllaa.Hid Go.Proofs.Yteagjolmikbllaa.Mp Go.Proofs.Yteagjolmikbllaa.PA
variable {w0 w w1 : World} {g : Nat} {s : PS}
/-- What is kept where just the pool's blocks turn and its stack stays in its block or goes into a new one. -/
theorem kept_of {mb cb : Nat} {v v' : Value} (hb : w.heap[g]? = some (.cells #[.map (some mb), v, .chan (some cb)] 59 (0, 0))) (hb' : w1.heap[g]? = some (.cells #[.map (some mb), v', .chan (some cb)] 59 (0, 0))) (hs : w.heap.size ≤ w1.heap.size)
    (hv : ∀ k, v'.ownBlock = some k → v.ownBlock = some k ∨ w.heap.size ≤ k) (hk : ∀ k, k < w.heap.size → k ≠ g → k ≠ mb → k ≠ cb → v.ownBlock ≠ some k → w1.heap[k]? = w.heap[k]?) : KeptP g w w1 := by
  refine ⟨hs, fun k hlt hn => hk k hlt (fun e => hn ⟨mb, v, cb, hb, .inl e⟩) (fun e => hn ⟨mb, v, cb, hb, .inr (.inl e)⟩) (fun e => hn ⟨mb, v, cb, hb, .inr (.inr (.inl e))⟩) (fun e => hn ⟨mb, v, cb, hb, .inr (.inr (.inr e))⟩), ?_⟩
  rintro k hlt ⟨mb', v'', cb', hb'', ho⟩
  rw [hb'] at hb''
  injection hb'' with hb''
  injection hb'' with hb'' _
  injection hb'' with hb''
  injection hb'' with e1 hb''
  injection hb'' with e2 hb''
  injection hb'' with e3 _
  injection e1 with e1; injection e1 with e1
  injection e3 with e3; injection e3 with e3
  subst e1; subst e2; subst e3
  rcases ho with h | h | h | h
  · exact ⟨_, _, _, hb, .inl h⟩
  · exact ⟨_, _, _, hb, .inr (.inl h)⟩
  · exact ⟨_, _, _, hb, .inr (.inr (.inl h))⟩
  · rcases hv k h with h2 | h2
    · exact ⟨_, _, _, hb, .inr (.inr (.inr h2))⟩
    · omega
theorem ne_map {b mb : Nat} {l : PL} {cs : Array Value} {t : TypeId} {fr : Nat × Nat} (h : w.heap[b]? = some (.cells cs t fr)) (hM : MapI w mb l) : b ≠ mb := by
  obtain ⟨es, ck, hm⟩ := hM.block
  rintro rfl
  rw [h] at hm
  injection hm with hm
  cases hm
theorem ne_chan {b c cap sn rc : Nat} {buf : Array Value} {cl tm : Bool} {cs : Array Value} {t : TypeId} {fr : Nat × Nat} (h : w.heap[b]? = some (.cells cs t fr)) (hc : w.heap[c]? = some (.chan cap buf cl sn rc tm)) : b ≠ c := by
  rintro rfl
  rw [h] at hc
  injection hc with hc
  cases hc
theorem map_ne_chan {mb c cap sn rc : Nat} {l : PL} {buf : Array Value} {cl tm : Bool} (hM : MapI w mb l) (hc : w.heap[c]? = some (.chan cap buf cl sn rc tm)) : mb ≠ c := by
  obtain ⟨es, ck, hm⟩ := hM.block
  rintro rfl
  rw [hm] at hc
  injection hc with hc
  cases hc
theorem row_ne_map {mb : Nat} {l : PL} {base : Nat} {ok : Nat → Prop} {v : Value} {xs : List Int} (hR : kI.R 3 w base ok v xs) (hM : MapI w mb l) : some mb ≠ v.ownBlock := fun e => by
  obtain ⟨cs, hcs⟩ := Kd.R_typed hR mb e.symm
  exact ne_map hcs hM rfl
theorem row_ne_chan {c cap sn rc : Nat} {buf : Array Value} {cl tm : Bool} {base : Nat} {ok : Nat → Prop} {v : Value} {xs : List Int} (hR : kI.R 3 w base ok v xs) (hc : w.heap[c]? = some (.chan cap buf cl sn rc tm)) : some c ≠ v.ownBlock := fun e => by
  obtain ⟨cs, hcs⟩ := Kd.R_typed hR c e.symm
  exact ne_chan hcs hc rfl
theorem row_ne_blk {b : Nat} {cs : Array Value} {t : TypeId} {base : Nat} {ok : Nat → Prop} {v : Value} {xs : List Int} (hR : kI.R 3 w base ok v xs) (h : w.heap[b]? = some (.cells cs t (0, 0))) (ht : t ≠ 3) : some b ≠ v.ownBlock := fun e => by
  obtain ⟨cs', hcs⟩ := Kd.R_typed hR b e.symm
  rw [h] at hcs
  injection hcs with hcs
  injection hcs with _ hcs _
  exact ht hcs
theorem below_grownO {row : Option Nat} (h : Below w0.heap.size w0 w) (hg : w.grownBy w1 row) (hr : ∀ k, row = some k → w0.heap.size ≤ k) : Below w0.heap.size w0 w1 :=
  ⟨hg.os.trans h.os, hg.tape.trans h.tape, hg.output.trans h.output, Nat.le_trans h.size hg.size, fun k hk => (hg.block k (Nat.lt_of_lt_of_le hk h.size) (fun e => by have := hr k e.symm; omega)).trans (h.block k hk)⟩
theorem wfI {x : Int} (h0 : -9223372036854775808 ≤ x) (h1 : x ≤ 9223372036854775807) : I64 x := WalkArith.wf_i64 (by omega)
/-! #### Make -/
def makeF (s : PS) (id : Int) : Int × PS := if code s.what id = 0 then (if s.what.length < s.size then (0, { s with what := put s.what id 1 }) else (7, s)) else (6, s)
theorem make_there (id : Int) (hid : I64 id) (hI : IsP w0 w g s) (hc : code s.what id ≠ 0) : Calls Try.prog 10 #[.pointer (some ⟨g, 0, none⟩), .int .i64 id] w fun e w' => e = .returned (.int .i64 6) ∧ w = w' := by
  obtain ⟨mb, A, n, cb, buf, sn, rc, hb, _, hM, _⟩ := hI.open_
  have c0 : w.cell? ⟨g, 0, none⟩ = some (.map (some mb)) := (blk_cell hb 0).trans rfl
  have hlk := hM.lookup 56 Try.underlying56 hid
  generalize code s.what id = c at hlk hc
  have hcb : (c != 0) = true := by simp [hc]
  have hcd : decide (c = 0) = false := decide_eq_false hc
  clear hb hM hI
  go_enter Try.func10, Try.ntmps10
  go_wp2
  go_ret
  exact ⟨rfl, rfl⟩
set_option maxHeartbeats 2000000 in
theorem make_full (id : Int) (hid : I64 id) (hI : IsP w0 w g s) (hc : code s.what id = 0) (hf : ¬ s.what.length < s.size) : Calls Try.prog 10 #[.pointer (some ⟨g, 0, none⟩), .int .i64 id] w fun e w' => e = .returned (.int .i64 7) ∧ w = w' := by
  obtain ⟨mb, A, n, cb, buf, sn, rc, hb, _, hM, _, _, hcb, _, hl, _⟩ := hI.open_
  have c0 : w.cell? ⟨g, 0, none⟩ = some (.map (some mb)) := (blk_cell hb 0).trans rfl
  have c2 : w.cell? ⟨g, 2, none⟩ = some (.chan (some cb)) := (blk_cell hb 2).trans rfl
  have hlk := hM.lookup 56 Try.underlying56 hid
  rw [hc] at hlk
  have hbuf : buf = #[] := Array.eq_empty_of_size_eq_zero (by omega)
  subst hbuf
  have HCB := Aside0.mk hcb
  clear hb hM hI hcb
  refine calls_of_wpN Try.func10 rfl (by rintro _ ⟨h, _⟩; cases h) ?_
  simp only [Try.ntmps10, List.size_toArray, List.length_cons, List.length_nil, Nat.reduceAdd, Nat.reduceSub, Array.replicate_succ, Array.replicate_zero, List.push_toArray, List.append_toArray, List.nil_append, List.cons_append]
  refine wpN_seq (wpN_of ?_)
  go_wp2
  refine wpN_seq (wpN_of ?_)
  go_wp2
  refine wpN_seq (wpN_of ?_)
  go_wp2
  refine wpN_seq (wpN_region ?_)
  simp only [List.size_toArray, List.length_cons, List.length_nil, Nat.reduceAdd, Nat.zero_add, List.range, List.range.loop]
  refine wpR_select_default (c := cb) (z := .agg #[]) rfl rfl (by simp [go_sem, execOp, rcase, Act.eval]) HCB.out ?_
  simp only [List.getElem_toArray, List.getElem_cons_zero, List.getElem_cons_succ, Act.put, List.setIfInBounds_toArray, List.set_cons_zero, List.set_cons_succ]
  refine wpR_same (.int .i64 (-1)) rfl rfl (by go_simp) ?_
  simp only [List.getElem_toArray, List.getElem_cons_zero, List.getElem_cons_succ, Act.put, List.setIfInBounds_toArray, List.set_cons_zero, List.set_cons_succ]
  refine wpR_same (.bool false) rfl rfl (by go_simp) ?_
  simp only [List.getElem_toArray, List.getElem_cons_zero, List.getElem_cons_succ, Act.put, List.setIfInBounds_toArray, List.set_cons_zero, List.set_cons_succ]
  refine wpR_end ?_
  refine wpN_of ?_
  go_wp2
  go_ret
  exact ⟨rfl, rfl⟩
/-- The channel's block is written. -/
theorem chan_put {c cap cap' sn rc sn' rc' : Nat} {buf buf' : Array Value} {W : World} (hc : W.heap[c]? = some (.chan cap buf false sn rc false)) {X : World} (hX : X = W.setChan c cap' buf' false sn' rc' false) :
    X.heap[c]? = some (.chan cap' buf' false sn' rc' false) ∧ (∀ k, k ≠ c → X.heap[k]? = W.heap[k]?) ∧ X.heap.size = W.heap.size := by
  subst hX
  exact ⟨heap_setChan _ _ _ _ _ _ _ _ (blk_lt hc), fun k hk => setChan_other _ _ _ _ _ _ _ _ _ hk, by simp [World.setChan]⟩
set_option maxHeartbeats 2000000 in
theorem make_ok (id : Int) (hid : I64 id) (hI : IsP w0 w g s) (hB : Below w0.heap.size w0 w) (hc : code s.what id = 0) (hz : Mp.look s.what id = none) (hf : s.what.length < s.size) : Calls Try.prog 10 #[.pointer (some ⟨g, 0, none⟩), .int .i64 id] w fun e w' => e = .returned (.int .i64 0) ∧
    IsP w0 w' g { s with what := put s.what id 1 } ∧ Below w0.heap.size w0 w' ∧ KeptP g w w' := by
  obtain ⟨mb, A, n, cb, buf, sn, rc, hb, hg, hM, hgm, hR, hcb, hgc, hl, h8⟩ := hI.open_
  have c0 : w.cell? ⟨g, 0, none⟩ = some (.map (some mb)) := (blk_cell hb 0).trans rfl
  have c2 : w.cell? ⟨g, 2, none⟩ = some (.chan (some cb)) := (blk_cell hb 2).trans rfl
  have hlk := hM.lookup 56 Try.underlying56 hid
  rw [hc] at hlk
  obtain ⟨w2, hw2⟩ : ∃ w2, w2 = w.setChan cb s.size (buf.extract 1 buf.size) false sn (rc + 1) false := ⟨_, rfl⟩
  obtain ⟨hcb2, hoth, hsz2⟩ := chan_put hcb hw2
  have hM2 : MapI w2 mb s.what := hM.step (hoth mb (map_ne_chan hM hcb))
  have hgb2 : w2.heap[g]? = some (.cells #[.map (some mb), .slice A s.stack.length n, .chan (some cb)] 59 (0, 0)) := (hoth g (ne_chan hb hcb)).trans hb
  obtain ⟨w3, hrun, hM3, hg3, hsz3⟩ := hM2.put 56 Try.underlying56 hid (v := 1) (show (Lit.int .i64 1).wf = true by decide) (by omega)
  have c02 : w2.cell? ⟨g, 0, none⟩ = some (.map (some mb)) := (blk_cell hgb2 0).trans rfl
  have hne1 : some g ≠ some mb := fun e => ne_map hgb2 hM2 (by injection e)
  have hne2 : some cb ≠ some mb := fun e => map_ne_chan hM2 hcb2 (by injection e with e; exact e.symm)
  have hgb3 : w3.heap[g]? = some (.cells #[.map (some mb), .slice A s.stack.length n, .chan (some cb)] 59 (0, 0)) := (hg3.block g (blk_lt hgb2) hne1).trans hgb2
  have hcb3 : w3.heap[cb]? = some (.chan s.size (buf.extract 1 buf.size) false sn (rc + 1) false) := (hg3.block cb (blk_lt hcb2) hne2).trans hcb2
  have hR2 : kI.R 3 w2 w0.heap.size (fun _ => True) (.slice A s.stack.length n) s.stack := Kd.R_mono (Kd.R_move (Kd.R_tight rfl hR) (fun k hk => hoth k (fun e => row_ne_chan hR hcb (by rw [← e]; exact hk)))) (fun _ _ => trivial)
  have hR3 : kI.R 3 w3 w0.heap.size (fun _ => True) (.slice A s.stack.length n) s.stack := Kd.R_mono (Kd.R_grown (Kd.R_tight rfl hR2) hg3 (fun k hk e => row_ne_map hR2 hM2 (by rw [← e]; exact hk))) (fun _ _ => trivial)
  have hB2 : Below w0.heap.size w0 w2 := by rw [hw2]; exact below_setChan hB hgc _ _ _ _ _ _
  have HFIN : Aside0 (IsP w0 w3 g { s with what := put s.what id 1 } ∧ Below w0.heap.size w0 w3 ∧ KeptP g w w3) := ⟨⟨mb, _, cb, _, sn, rc + 1, hgb3, hg, hM3, hgm, hR3, hcb3, hgc, by
      show (buf.extract 1 buf.size).size + (put s.what id 1).length = s.size
      rw [len_put_new 1 hz, Array.size_extract]
      omega, h8⟩, below_grownO hB2 hg3 (fun k e => by injection e with e; rw [← e]; exact hgm), kept_of hb hgb3 (by omega) (fun k h => .inl h) (fun k hk h1 h2 h3 h4 => (hg3.block k (by omega) (fun e => h2 (by injection e))).trans (hoth k h3))⟩
  have HCB := Aside0.mk hcb
  have HL : Aside0 (0 < buf.size) := ⟨by omega⟩
  have HW2 := Aside0.mk hw2
  clear hb hM hI hcb hB hR hR2 hR3 hB2 hgb2 hgb3 hcb2 hcb3 hM2 hM3 hg3 hoth hw2
  refine calls_of_wpN Try.func10 rfl (by rintro _ ⟨h, _⟩; cases h) ?_
  simp only [Try.ntmps10, List.size_toArray, List.length_cons, List.length_nil, Nat.reduceAdd, Nat.reduceSub, Array.replicate_succ, Array.replicate_zero, List.push_toArray, List.append_toArray, List.nil_append, List.cons_append]
  refine wpN_seq (wpN_of ?_)
  go_wp2
  refine wpN_seq (wpN_of ?_)
  go_wp2
  refine wpN_seq (wpN_of ?_)
  go_wp2
  refine wpN_seq (wpN_region ?_)
  simp only [List.size_toArray, List.length_cons, List.length_nil, Nat.reduceAdd, Nat.zero_add, List.range, List.range.loop]
  refine wpR_select_recv (c := cb) (z := .agg #[]) rfl rfl (by simp [go_sem, execOp, rcase, Act.eval]) HCB.out HL.out ?_
  rw [← HW2.out]
  generalize buf.getD 0 undef = u0
  simp only [List.getElem_toArray, List.getElem_cons_zero, List.getElem_cons_succ, Act.put, List.setIfInBounds_toArray, List.set_cons_zero, List.set_cons_succ]
  refine wpR_same (.int .i64 0) rfl rfl (by go_simp) ?_
  simp only [List.getElem_toArray, List.getElem_cons_zero, List.getElem_cons_succ, Act.put, List.setIfInBounds_toArray, List.set_cons_zero, List.set_cons_succ]
  refine wpR_same (.bool true) rfl rfl (by go_simp) ?_
  simp only [List.getElem_toArray, List.getElem_cons_zero, List.getElem_cons_succ, Act.put, List.setIfInBounds_toArray, List.set_cons_zero, List.set_cons_succ]
  refine wpR_end ?_
  refine wpN_of ?_
  go_wp2
  go_ret
  exact ⟨rfl, HFIN.out⟩
theorem look_code {l : PL} {id : Int} (hv : ∀ p ∈ l, p.2 ≠ 0) (hr : Rising l) (h : code l id = 0) : Mp.look l id = none := by
  unfold code at h
  cases hl : Mp.look l id with
  | none => rfl
  | some v =>
    rw [hl] at h
    exact absurd h (hv _ ((look_some hr).1 hl))
/-! #### rest, Ready, Give -/
def restF (s : PS) (id : Int) : PS := { s with what := put s.what id 2, stack := s.stack ++ [id] }
set_option maxHeartbeats 4000000 in
theorem rest_raw (id : Int) (hid : I64 id) (hI : IsP w0 w g s) (hB : Below w0.heap.size w0 w) {c : Int} (hz : Mp.look s.what id = some c) (hs : s.stack.length ≤ 1000) : Calls Try.prog 38 #[.pointer (some ⟨g, 0, none⟩), .int .i64 id] w fun e w' => e = .returned (.bool true) ∧
    IsP w0 w' g (restF s id) ∧ Below w0.heap.size w0 w' ∧ KeptP g w w' := by
  obtain ⟨mb, A, n, cb, buf, sn, rc, hb, hg, hM, hgm, hR, hcb, hgc, hl, h8⟩ := hI.open_
  have c0 : w.cell? ⟨g, 0, none⟩ = some (.map (some mb)) := (blk_cell hb 0).trans rfl
  obtain ⟨w2, hrun, hM2, hg2, hsz2⟩ := hM.put 56 Try.underlying56 hid (v := 2) (show (Lit.int .i64 2).wf = true by decide) (by omega)
  have hne1 : some g ≠ some mb := fun e => ne_map hb hM (by injection e)
  have hne2 : some cb ≠ some mb := fun e => map_ne_chan hM hcb (by injection e with e; exact e.symm)
  have hgb2 : w2.heap[g]? = some (.cells #[.map (some mb), .slice A s.stack.length n, .chan (some cb)] 59 (0, 0)) := (hg2.block g (blk_lt hb) hne1).trans hb
  have hcb2 : w2.heap[cb]? = some (.chan s.size buf false sn rc false) := (hg2.block cb (blk_lt hcb) hne2).trans hcb
  have hR2 : kI.R 3 w2 w0.heap.size (fun _ => True) (.slice A s.stack.length n) s.stack := Kd.R_mono (Kd.R_grown (Kd.R_tight rfl hR) hg2 (fun k hk e => row_ne_map hR hM (by rw [← e]; exact hk))) (fun _ _ => trivial)
  have hB2 : Below w0.heap.size w0 w2 := below_grownO hB hg2 (fun k e => by injection e with e; rw [← e]; exact hgm)
  have c12 : w2.cell? ⟨g, 1, none⟩ = some (.slice A s.stack.length n) := (blk_cell hgb2 1).trans rfl
  have hlz : (put s.what id 2).length = s.what.length := len_put_old hM.1 2 hz
  have HR2 := Aside0.mk hR2
  have HB2 := Aside0.mk hB2
  have HM2 := Aside0.mk hM2
  have HGB2 := Aside0.mk hgb2
  have HCB2 := Aside0.mk hcb2
  have HK2 : Aside0 (∀ k, k < w.heap.size → k ≠ mb → w2.heap[k]? = w.heap[k]?) := ⟨fun k hk h2 => hg2.block k hk (fun e => h2 (by injection e))⟩
  have HGB := Aside0.mk hb
  have HLZ := Aside0.mk hlz
  have HL := Aside0.mk hl
  have HSZ2 := Aside0.mk hsz2
  clear hb hM hI hcb hB hR hR2 hB2 hgb2 hcb2 hM2 hg2 hlz hl hsz2
  go_enter Try.func38, Try.ntmps38
  go_wp2_with (((with_reducible refine gate_builtin (b := .append) (xs := #[.tmp 14, .tmp 16]) rfl ?_); (try (refine gate_guard (by rfl) ?_; dsimp only)); at_builtin; refine Kd.R_append kI (w0 := w0) w0.heap.size rfl (.tmp 14) (.tmp 16) 22 3 (.int .i64 0) 8 rfl Try.underlying22 info3 rfl (by decide) (by omega) (.slice A s.stack.length n) s.stack id [.int .i64 id] (fun _ => True) (fun _ => False) rfl rfl rfl (fun _ h => h.elim) (fun _ _ => trivial) ?aO ?aB ?aS ?aL ?_; (case aO => exact HR2.out); (case aB => exact HB2.out); (case aS => exact HB2.out.size); (case aL => omega); intro v4 w4 hR4 hb4 hg4 hat4; have HGB4 := Aside0.mk ((hg4.block g (blk_lt HGB2.out) (row_ne_blk HR2.out HGB2.out (by decide))).trans HGB2.out); have HCB4 := Aside0.mk ((hg4.block cb (blk_lt HCB2.out) (row_ne_chan HR2.out HCB2.out)).trans HCB2.out); have HM4 := Aside0.mk (MapI.step (W1 := w4) HM2.out (hg4.block mb HM2.out.lt (row_ne_map HR2.out HM2.out))); have HR4 := Aside0.mk hR4; have HB4 := Aside0.mk hb4; have HG4 := Aside0.mk hg4; have HAT := Aside0.mk hat4; obtain ⟨A4, n4, rfl⟩ := Kd.R_slice hR4; have h41 : w4.cell? ⟨g, 1, none⟩ = some (.slice A s.stack.length n) := (blk_cell HGB4.out 1).trans rfl; have hf41 : w4.frozen? ⟨g, 1, none⟩ = false := blk_frozen HGB4.out 1; clear hR4 hb4 hg4 hat4))
  have hgb5 : (w4.setCell ⟨g, 1, none⟩ (.slice A4 (s.stack ++ [id]).length n4)).heap[g]? = some (.cells #[.map (some mb), .slice A4 (s.stack ++ [id]).length n4, .chan (some cb)] 59 (0, 0)) := by simpa using blk_set HGB4.out 1 (.slice A4 (s.stack ++ [id]).length n4)
  have HFIN : Aside0 (IsP w0 (w4.setCell ⟨g, 1, none⟩ (.slice A4 (s.stack ++ [id]).length n4)) g (restF s id) ∧ Below w0.heap.size w0 (w4.setCell ⟨g, 1, none⟩ (.slice A4 (s.stack ++ [id]).length n4)) ∧ KeptP g w (w4.setCell ⟨g, 1, none⟩ (.slice A4 (s.stack ++ [id]).length n4))) := by
    have hoth : ∀ k, k ≠ g → (w4.setCell ⟨g, 1, none⟩ (.slice A4 (s.stack ++ [id]).length n4)).heap[k]? = w4.heap[k]? := fun k hk => Below.heap_setCell w4 ⟨g, 1, none⟩ _ k hk
    refine ⟨⟨mb, _, cb, buf, sn, rc, hgb5, hg, HM4.out.step (hoth mb (fun e => ne_map HGB4.out HM4.out e.symm)), hgm, Kd.R_set HR4.out HGB4.out (by decide) 1 _, (hoth cb (fun e => ne_chan HGB4.out HCB4.out e.symm)).trans HCB4.out, hgc, by show buf.size + (put s.what id 2).length = s.size; rw [HLZ.out]; exact HL.out, h8⟩, below_set HB4.out hg, ?_⟩
    refine kept_of HGB.out hgb5 (by simp only [World.size_setCell]; have := HG4.out.size; have := HSZ2.out; omega) (fun k hk => ?_) (fun k hk h1 h2 h3 h4 => ?_)
    · have hsz2 := HSZ2.out
      rcases HAT.out with h | ⟨b, h, hge⟩
      · rw [h] at hk; exact .inl hk
      · rw [h] at hk; injection hk with hk; omega
    · exact (hoth k h1).trans ((HG4.out.block k (by have := HSZ2.out; omega) (fun e => h4 e.symm)).trans (HK2.out k hk h2))
  rw [show (s.stack ++ [id]).length = s.stack.length + 1 by simp] at HFIN
  go_ret
  exact ⟨rfl, HFIN.out⟩

def readyF (s : PS) (id : Int) : Bool × PS := if code s.what id = 1 then (true, restF s id) else (false, s)
theorem ready_no (id : Int) (hid : I64 id) (hI : IsP w0 w g s) (hc : code s.what id ≠ 1) : Calls Try.prog 11 #[.pointer (some ⟨g, 0, none⟩), .int .i64 id] w fun e w' => e = .returned (.bool false) ∧ w = w' := by
  have H := Aside0.mk (is_raw id 1 hid hI)
  rw [decide_eq_false hc] at H
  clear hI hc
  go_enter Try.func11, Try.ntmps11
  go_wp2_with (go_at_call 37; refine H.out.mono ?_; rintro e w' ⟨rfl, rfl⟩)
  go_ret
  exact ⟨rfl, rfl⟩
theorem ready_yes (id : Int) (hid : I64 id) (hI : IsP w0 w g s) (hB : Below w0.heap.size w0 w) (hc : code s.what id = 1) (hs : s.stack.length ≤ 1000) : Calls Try.prog 11 #[.pointer (some ⟨g, 0, none⟩), .int .i64 id] w fun e w' => e = .returned (.bool true) ∧
    IsP w0 w' g (restF s id) ∧ Below w0.heap.size w0 w' ∧ KeptP g w w' := by
  have hz : Mp.look s.what id = some 1 := by
    unfold code at hc
    cases hl : Mp.look s.what id with
    | none => rw [hl] at hc; exact absurd hc (by decide)
    | some v => rw [hl] at hc; exact congrArg some hc
  have H := Aside0.mk (is_raw id 1 hid hI)
  rw [decide_eq_true hc] at H
  have HR := Aside0.mk (rest_raw id hid hI hB hz hs)
  clear hI hc hB hz
  go_enter Try.func11, Try.ntmps11
  go_wp2_with (first
    | (go_at_call 37; refine H.out.mono ?_; rintro e w' ⟨rfl, rfl⟩)
    | (go_at_call 38; refine HR.out.mono ?_; rintro e w' ⟨rfl, h1, h2, h3⟩))
  go_ret
  exact ⟨rfl, h1, h2, h3⟩
def giveF (s : PS) (id : Int) : Bool × PS := if code s.what id = 3 then (true, restF s id) else (false, s)
theorem give_no (id : Int) (hid : I64 id) (hI : IsP w0 w g s) (hc : code s.what id ≠ 3) : Calls Try.prog 14 #[.pointer (some ⟨g, 0, none⟩), .int .i64 id] w fun e w' => e = .returned (.bool false) ∧ w = w' := by
  have H := Aside0.mk (is_raw id 3 hid hI)
  rw [decide_eq_false hc] at H
  clear hI hc
  go_enter Try.func14, Try.ntmps14
  go_wp2_with (go_at_call 37; refine H.out.mono ?_; rintro e w' ⟨rfl, rfl⟩)
  go_ret
  exact ⟨rfl, rfl⟩
theorem give_yes (id : Int) (hid : I64 id) (hI : IsP w0 w g s) (hB : Below w0.heap.size w0 w) (hc : code s.what id = 3) (hs : s.stack.length ≤ 1000) : Calls Try.prog 14 #[.pointer (some ⟨g, 0, none⟩), .int .i64 id] w fun e w' => e = .returned (.bool true) ∧
    IsP w0 w' g (restF s id) ∧ Below w0.heap.size w0 w' ∧ KeptP g w w' := by
  have hz : Mp.look s.what id = some 3 := by
    unfold code at hc
    cases hl : Mp.look s.what id with
    | none => rw [hl] at hc; exact absurd hc (by decide)
    | some v => rw [hl] at hc; exact congrArg some hc
  have H := Aside0.mk (is_raw id 3 hid hI)
  rw [decide_eq_true hc] at H
  have HR := Aside0.mk (rest_raw id hid hI hB hz hs)
  clear hI hc hB hz
  go_enter Try.func14, Try.ntmps14
  go_wp2_with (first
    | (go_at_call 37; refine H.out.mono ?_; rintro e w' ⟨rfl, rfl⟩)
    | (go_at_call 38; refine HR.out.mono ?_; rintro e w' ⟨rfl, h1, h2, h3⟩))
  go_ret
  exact ⟨rfl, h1, h2, h3⟩
/-! #### Take -/
theorem take_no (hI : IsP w0 w g s) (h : s.stack = []) : Calls Try.prog 12 #[.pointer (some ⟨g, 0, none⟩)] w fun e w' => e = .returned (.tuple #[.int .i64 0, .bool false]) ∧ w = w' := by
  obtain ⟨mb, A, n, cb, buf, sn, rc, hb, _⟩ := hI.open_
  have c1 : w.cell? ⟨g, 1, none⟩ = some (.slice A 0 n) := by
    have h2 := (blk_cell hb 1).trans rfl
    rw [h] at h2
    exact h2
  clear hI hb
  go_enter Try.func12, Try.ntmps12
  go_wp2
  go_ret2
  exact ⟨rfl, rfl⟩
set_option maxHeartbeats 2000000 in
theorem take_yes (l : List Int) (id : Int) (hid : I64 id) (hI : IsP w0 w g s) (hB : Below w0.heap.size w0 w) (h : s.stack = l ++ [id]) (hl0 : l.length ≤ 1000) {c : Int} (hz : Mp.look s.what id = some c) :
    Calls Try.prog 12 #[.pointer (some ⟨g, 0, none⟩)] w fun e w' => e = .returned (.tuple #[.int .i64 id, .bool true]) ∧ IsP w0 w' g ⟨s.size, put s.what id 3, l⟩ ∧ Below w0.heap.size w0 w' ∧ KeptP g w w' := by
  obtain ⟨mb, A, n, cb, buf, sn, rc, hb, hg, hM, hgm, hR, hcb, hgc, hl, h8⟩ := hI.open_
  rw [h] at hR hb
  have hlen : (l ++ [id]).length = l.length + 1 := by simp
  rw [hlen] at hR hb
  have hRd := Kd.R_reads' hR
  have c0 : w.cell? ⟨g, 0, none⟩ = some (.map (some mb)) := (blk_cell hb 0).trans rfl
  have c1 : w.cell? ⟨g, 1, none⟩ = some (.slice A (l.length + 1) n) := (blk_cell hb 1).trans rfl
  have f1 : w.frozen? ⟨g, 1, none⟩ = false := blk_frozen hb 1
  obtain ⟨ad, rfl, hx⟩ := Kd.at_int hRd.2.2 (l.length : Int) (by omega) (by rw [hlen]; omega)
  have hx2 : rd (l ++ [id]) (l.length : Int) = id := by simp [rd, List.getD]
  rw [hx2, Int.toNat_natCast] at hx
  have hn : l.length + 1 ≤ n := hRd.2.1
  have hR1 : kI.R 3 w w0.heap.size (fun _ => True) (.slice (some ad) l.length n) l := by
    have := Kd.R_take hR (m := l.length) (by omega)
    rwa [List.take_left'] at this
    rfl
  have hgb2 : (w.setCell ⟨g, 1, none⟩ (.slice (some ad) l.length n)).heap[g]? = some (.cells #[.map (some mb), .slice (some ad) l.length n, .chan (some cb)] 59 (0, 0)) := by simpa using blk_set hb 1 (.slice (some ad) l.length n)
  have hoth : ∀ k, k ≠ g → (w.setCell ⟨g, 1, none⟩ (.slice (some ad) l.length n)).heap[k]? = w.heap[k]? := fun k hk => Below.heap_setCell w ⟨g, 1, none⟩ _ k hk
  have hM2 : MapI (w.setCell ⟨g, 1, none⟩ (.slice (some ad) l.length n)) mb s.what := hM.step (hoth mb (fun e => ne_map hb hM e.symm))
  have hR2 := Kd.R_set hR1 hb (by decide) 1 (.slice (some ad) l.length n)
  have hB2 : Below w0.heap.size w0 (w.setCell ⟨g, 1, none⟩ (.slice (some ad) l.length n)) := below_set hB hg
  have hcb2 := (hoth cb (fun e => ne_chan hb hcb e.symm)).trans hcb
  obtain ⟨w3, hrun, hM3, hg3, hsz3⟩ := hM2.put 56 Try.underlying56 hid (v := 3) (show (Lit.int .i64 3).wf = true by decide) (by omega)
  have hne1 : some g ≠ some mb := fun e => ne_map hgb2 hM2 (by injection e)
  have hne2 : some cb ≠ some mb := fun e => map_ne_chan hM2 hcb2 (by injection e with e; exact e.symm)
  have hgb3 := (hg3.block g (blk_lt hgb2) hne1).trans hgb2
  have hcb3 := (hg3.block cb (blk_lt hcb2) hne2).trans hcb2
  have hR3 : kI.R 3 w3 w0.heap.size (fun _ => True) (.slice (some ad) l.length n) l := Kd.R_mono (Kd.R_grown (Kd.R_tight rfl hR2) hg3 (fun k hk e => row_ne_map hR2 hM2 (by rw [← e]; exact hk))) (fun _ _ => trivial)
  have hsz2 : (w.setCell ⟨g, 1, none⟩ (.slice (some ad) l.length n)).heap.size = w.heap.size := by simp
  have HFIN : Aside0 (IsP w0 w3 g ⟨s.size, put s.what id 3, l⟩ ∧ Below w0.heap.size w0 w3 ∧ KeptP g w w3) := ⟨⟨mb, _, cb, buf, sn, rc, hgb3, hg, hM3, hgm, hR3, hcb3, hgc, by
      show buf.size + (put s.what id 3).length = s.size
      rw [len_put_old hM.1 3 hz]
      exact hl, h8⟩, below_grownO hB2 hg3 (fun k e => by injection e with e; rw [← e]; exact hgm), kept_of hb hgb3 (by omega) (fun k h => .inl (by simpa [Value.ownBlock] using h)) (fun k hk h1 h2 h3 h4 => (hg3.block k (by omega) (fun e => h2 (by injection e))).trans (hoth k h1))⟩
  have hw1 : wrap64 ((l.length : Int) + 1 - 1) = (l.length : Int) := by unfold wrap64; omega
  have hw2 : IntKind.i64.wrap ((l.length : Int) + 1 - 1) = (l.length : Int) := by rw [i64_w]; exact hw1
  have h0l : (0 : Int) ≤ (l.length : Int) := by omega
  have hll : (l.length : Int) < (l.length : Int) + 1 := by omega
  have hll2 : (l.length : Int) ≤ (l.length : Int) + 1 := by omega
  have hln : (l.length : Int) ≤ (n : Int) := by omega
  have hln2 : l.length ≤ n := by omega
  have hnz : ((l.length : Int) + 1 == 0) = false := by rw [beq_eq_false_iff_ne]; omega
  have hnz2 : decide ((l.length : Int) + 1 = 0) = false := decide_eq_false (by omega)
  have c02 : (w.setCell ⟨g, 1, none⟩ (.slice (some ad) l.length n)).cell? ⟨g, 0, none⟩ = some (.map (some mb)) := (blk_cell hgb2 0).trans rfl
  clear hI hb hM hR hcb hB hRd hR1 hR2 hR3 hM2 hM3 hgb2 hgb3 hcb2 hcb3 hg3 hoth hB2 hlen h hsz2 hsz3
  go_enter Try.func12, Try.ntmps12
  go_wp2
  go_ret2
  exact ⟨rfl, HFIN.out⟩
end Go.Proofs.Yteagjolmikbllaa.Ob
