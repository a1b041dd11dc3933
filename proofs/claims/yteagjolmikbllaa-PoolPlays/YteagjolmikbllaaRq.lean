/-
  The pool's reference: Make, Ready, Take, Give, Drop, over rows that are only read. Conditions: none.
-/
import Derived.Test.YteagjolmikbllaaRx
import Derived.Test.YteagjolmikbllaaWTab
set_option linter.unusedVariables false
set_option linter.unusedSimpArgs false
namespace Go.Proofs.Yteagjolmikbllaa.Ob
open Go.RowKit Go.Proofs.YteagjolmikbllaaW.PrintWords Go.Proofs.YteagjolmikbllaaW.PrintLast Go.Proofs.YteagjolmikbllaaW.PrintMore Go.Proofs.Yteagjolmikbllaa.Hid Go.Proofs.Yteagjolmikbllaa.Mp Go.Proofs.Yteagjolmikbllaa.PA
/-- What was there, or what is new. -/
def OkN (ok : Nat → Prop) (w : World) (k : Nat) : Prop := ok k ∨ w.heap.size ≤ k
/-- What is handed back: the state's block's cells. -/
def Back (ok : Nat → Prop) (w w' : World) (n : Nat) (vs : Value) (r : Rp) : Prop := ∃ v1 v2 v3 : Value, vs = .agg #[.int .i64 n, v1, v2, v3] ∧ Rd (OkN ok w) w' v1 r.m ∧ Rd (OkN ok w) w' v2 r.i ∧ Rd (OkN ok w) w' v3 r.b ∧ Below w.heap.size w w'
variable {ok : Nat → Prop} {w : World}
def rmake.T4 : Bool × List (List Nat × List Nat) := (true, [([], []), ([0], [0]), ([], []), ([2], [2]), ([1, 3], [1, 3])])
theorem rmake.tab4 : rtab .any (opsOf Try.f25 4) = rmake.T4 := by kernel_rfl
set_option maxHeartbeats 2000000 in
set_option maxRecDepth 100000 in
theorem ready26_no (id : Int) (n : Nat) {lm li lb : List Int} {v1 v2 v3 : Value} (h1 : Rd ok w v1 lm) (h2 : Rd ok w v2 li) (h3 : Rd ok w v3 lb) (l1 : lm.length ≤ 300) (l2 : li.length ≤ 300) (l3 : lb.length ≤ 300) (hn : id ∉ lm) :
    Calls Try.prog 26 #[.agg #[.int .i64 (n : Int), v1, v2, v3], .int .i64 id] w fun e w' => ∃ vs, e = .returned (.tuple #[vs, .bool false]) ∧ Back ok w w' n vs ⟨lm, li, lb⟩ := by
  obtain ⟨A1, c1, rfl, hc1, _⟩ := h1.reads
  obtain ⟨A2, c2, rfl, hc2, _⟩ := h2.reads
  obtain ⟨A3, c3, rfl, hc3, _⟩ := h3.reads
  have H1 := Aside0.mk (h1.mono (ok' := OkN ok w) (fun k _ h => .inl h))
  have H2 := Aside0.mk (h2.mono (ok' := OkN ok w) (fun k _ h => .inl h))
  have H3 := Aside0.mk (h3.mono (ok' := OkN ok w) (fun k _ h => .inl h))
  have L1 := Aside0.mk hc1
  have L2 := Aside0.mk hc2
  have L3 := Aside0.mk hc3
  clear h1 h2 h3 hc1 hc2 hc3
  have HAS := Aside0.mk (fun W (h : Rd (OkN ok w) W (.slice A1 lm.length c1) lm) => has16 id lm A1 c1 W h.C L1.out (by omega))
  rw [decide_eq_false hn] at HAS
  clear hn
  go_enter Try.func26, Try.ntmps26
  go_wp2_with (first
    | ((with_reducible refine gate_dst (N := 2) rfl ?_); refine box_event ?hg (N := 2) ?hd (cs := #[.int .i64 (n : Int), .slice A1 lm.length c1, .slice A2 li.length c2, .slice A3 lb.length c3]) (t := 44) ?hr ?_; (case hd => rfl); (case hg => rfl); (case hr => first | (go_simp; done) | (go_simp; rfl)); intro g1 hg w1 hbox hb; have BK1 := Aside0.mk (show B4 w1 g1 n _ _ _ from hbox); have HB1 := Aside0.mk hb; have GE1 := Aside0.mk (show w.heap.size ≤ g1 by rw [hg]; exact Nat.le_refl _); have h1_ := H1; have h2_ := H2; have h3_ := H3; clear H1 H2 H3; have R1a := Aside0.mk (h1_.out.below hb); have R2a := Aside0.mk (h2_.out.below hb); have R3a := Aside0.mk (h3_.out.below hb); clear h1_ h2_ h3_ hbox hb hg)
    | ((with_reducible refine gate_dst (N := 4) rfl ?_); refine box_event ?hg (N := 4) ?hd (cs := #[.int .i64 0, .slice none 0 0, .slice none 0 0, .slice none 0 0]) (t := 44) ?hr ?_; (case hd => rfl); (case hg => rfl); (case hr => first | (go_simp; done) | (go_simp; rfl)); intro g2 hg w2 hbox hb; have BK2a := Aside0.mk (show B4 w2 g2 0 _ _ _ from hbox); have BK1a := Aside0.mk (BK1.out.below hb); have HBa := Aside0.mk (below_step HB1.out hb); have GE2 := Aside0.mk (show w.heap.size ≤ g2 by rw [hg]; exact HB1.out.size); have NB := Aside0.mk (show g1 ≠ g2 by rw [hg]; exact Nat.ne_of_lt (blk_lt BK1.out)); have r1_ := R1a; have r2_ := R2a; have r3_ := R3a; clear R1a R2a R3a; have R1a := Aside0.mk (r1_.out.below hb); have R2a := Aside0.mk (r2_.out.below hb); have R3a := Aside0.mk (r3_.out.below hb); clear r1_ r2_ r3_ hbox hb hg; obtain ⟨ca0, ca1, ca2, ca3, fa0, fa1, fa2, fa3⟩ := BK1a.out.cells; obtain ⟨cb0, cb1, cb2, cb3, fb0, fb1, fb2, fb3⟩ := BK2a.out.cells; have nb := NB.out; have nc := NB.out.symm)
    | (go_at_call 13; (with_reducible refine (HAS.out _ R1a.out).mono ?_); rintro e wb ⟨rfl, hb⟩; have BK1b := Aside0.mk (B4.below BK1a.out hb); have BK2b := Aside0.mk (B4.below BK2a.out hb); have HBb := Aside0.mk (below_step HBa.out hb); have R1b := Aside0.mk (Rd.below R1a.out hb); have R2b := Aside0.mk (Rd.below R2a.out hb); have R3b := Aside0.mk (Rd.below R3a.out hb); clear hb; clear ca0 ca1 ca2 ca3 fa0 fa1 fa2 fa3 cb0 cb1 cb2 cb3 fb0 fb1 fb2 fb3 nb nc; obtain ⟨ca0, ca1, ca2, ca3, fa0, fa1, fa2, fa3⟩ := BK1b.out.cells; obtain ⟨cb0, cb1, cb2, cb3, fb0, fb1, fb2, fb3⟩ := BK2b.out.cells; have nb := NB.out; have nc := NB.out.symm))
  refine bodyPost_ret (results_ct rfl _ _ g2 44 #[.int .i64 (n : Int), .slice A1 lm.length c1, .slice A2 li.length c2, .slice A3 lb.length c3] (0, 0) _ rfl (B4.all BK2b.out n _ _ _) Try.underlying44 rfl (by kernel_rfl)) rfl ?_
  exact ⟨_, rfl, _, _, _, rfl, Rd.putAll R1b.out BK2b.out n _ _ _, Rd.putAll R2b.out BK2b.out n _ _ _, Rd.putAll R3b.out BK2b.out n _ _ _, below_all HBb.out GE2.out _ _ _ _⟩
set_option maxHeartbeats 2000000 in
set_option maxRecDepth 100000 in
theorem ready26_yes (id : Int) (n : Nat) {lm li lb : List Int} {v1 v2 v3 : Value} (h1 : Rd ok w v1 lm) (h2 : Rd ok w v2 li) (h3 : Rd ok w v3 lb) (l1 : lm.length ≤ 300) (l2 : li.length ≤ 300) (l3 : lb.length ≤ 300) (hn : id ∈ lm) :
    Calls Try.prog 26 #[.agg #[.int .i64 (n : Int), v1, v2, v3], .int .i64 id] w fun e w' => ∃ vs, e = .returned (.tuple #[vs, .bool true]) ∧ Back ok w w' n vs ⟨dropRow lm id, li ++ [id], lb⟩ := by
  obtain ⟨A1, c1, rfl, hc1, _⟩ := h1.reads
  obtain ⟨A2, c2, rfl, hc2, _⟩ := h2.reads
  obtain ⟨A3, c3, rfl, hc3, _⟩ := h3.reads
  have H1 := Aside0.mk (h1.mono (ok' := OkN ok w) (fun k _ h => .inl h))
  have H2 := Aside0.mk (h2.mono (ok' := OkN ok w) (fun k _ h => .inl h))
  have H3 := Aside0.mk (h3.mono (ok' := OkN ok w) (fun k _ h => .inl h))
  have L1 := Aside0.mk hc1
  have L2 := Aside0.mk hc2
  have L3 := Aside0.mk hc3
  clear h1 h2 h3 hc1 hc2 hc3
  have HAS := Aside0.mk (fun W (h : Rd (OkN ok w) W (.slice A1 lm.length c1) lm) => has16 id lm A1 c1 W h.C L1.out (by omega))
  rw [decide_eq_true hn] at HAS
  clear hn
  have HL := Aside0.mk (fun W (h : Rd (OkN ok w) W (.slice A1 lm.length c1) lm) => less16 id lm A1 c1 W h.C L1.out (by omega))
  generalize dropRow lm id = lx at HL ⊢
  have HM := Aside0.mk (fun W (h : Rd (OkN ok w) W (.slice A2 li.length c2) li) => more16 id li A2 c2 W h.C L2.out (by omega))
  generalize li ++ [id] = ly at HM ⊢
  go_enter Try.func26, Try.ntmps26
  go_wp2_with (first
    | ((with_reducible refine gate_dst (N := 2) rfl ?_); refine box_event ?hg (N := 2) ?hd (cs := #[.int .i64 (n : Int), .slice A1 lm.length c1, .slice A2 li.length c2, .slice A3 lb.length c3]) (t := 44) ?hr ?_; (case hd => rfl); (case hg => rfl); (case hr => first | (go_simp; done) | (go_simp; rfl)); intro g1 hg w1 hbox hb; have BK1 := Aside0.mk (show B4 w1 g1 n _ _ _ from hbox); have HB1 := Aside0.mk hb; have GE1 := Aside0.mk (show w.heap.size ≤ g1 by rw [hg]; exact Nat.le_refl _); have h1_ := H1; have h2_ := H2; have h3_ := H3; clear H1 H2 H3; have R1a := Aside0.mk (h1_.out.below hb); have R2a := Aside0.mk (h2_.out.below hb); have R3a := Aside0.mk (h3_.out.below hb); clear h1_ h2_ h3_ hbox hb hg)
    | ((with_reducible refine gate_dst (N := 4) rfl ?_); refine box_event ?hg (N := 4) ?hd (cs := #[.int .i64 0, .slice none 0 0, .slice none 0 0, .slice none 0 0]) (t := 44) ?hr ?_; (case hd => rfl); (case hg => rfl); (case hr => first | (go_simp; done) | (go_simp; rfl)); intro g2 hg w2 hbox hb; have BK2a := Aside0.mk (show B4 w2 g2 0 _ _ _ from hbox); have BK1a := Aside0.mk (BK1.out.below hb); have HBa := Aside0.mk (below_step HB1.out hb); have GE2 := Aside0.mk (show w.heap.size ≤ g2 by rw [hg]; exact HB1.out.size); have NB := Aside0.mk (show g1 ≠ g2 by rw [hg]; exact Nat.ne_of_lt (blk_lt BK1.out)); have r1_ := R1a; have r2_ := R2a; have r3_ := R3a; clear R1a R2a R3a; have R1a := Aside0.mk (r1_.out.below hb); have R2a := Aside0.mk (r2_.out.below hb); have R3a := Aside0.mk (r3_.out.below hb); clear r1_ r2_ r3_ hbox hb hg; obtain ⟨ca0, ca1, ca2, ca3, fa0, fa1, fa2, fa3⟩ := BK1a.out.cells; obtain ⟨cb0, cb1, cb2, cb3, fb0, fb1, fb2, fb3⟩ := BK2a.out.cells; have nb := NB.out; have nc := NB.out.symm)
    | (go_at_call 13; (with_reducible refine (HAS.out _ R1a.out).mono ?_); rintro e wb ⟨rfl, hb⟩; have BK1b := Aside0.mk (B4.below BK1a.out hb); have BK2b := Aside0.mk (B4.below BK2a.out hb); have HBb := Aside0.mk (below_step HBa.out hb); have R1b := Aside0.mk (Rd.below R1a.out hb); have R2b := Aside0.mk (Rd.below R2a.out hb); have R3b := Aside0.mk (Rd.below R3a.out hb); clear hb; clear ca0 ca1 ca2 ca3 fa0 fa1 fa2 fa3 cb0 cb1 cb2 cb3 fb0 fb1 fb2 fb3 nb nc; obtain ⟨ca0, ca1, ca2, ca3, fa0, fa1, fa2, fa3⟩ := BK1b.out.cells; obtain ⟨cb0, cb1, cb2, cb3, fb0, fb1, fb2, fb3⟩ := BK2b.out.cells; have nb := NB.out; have nc := NB.out.symm)
    | (go_at_call 23; (with_reducible refine (HL.out _ R1b.out).mono ?_); rintro e wc ⟨v_, rfl, hR, hb⟩; have BK1c := Aside0.mk (B4.below BK1b.out hb); have BK2c := Aside0.mk (B4.below BK2b.out hb); have HBc := Aside0.mk (below_step HBb.out hb); have R1c := Aside0.mk (Rd.below R1b.out hb); have R2c := Aside0.mk (Rd.below R2b.out hb); have R3c := Aside0.mk (Rd.below R3b.out hb); have RNc := Aside0.mk (Rd.of_R (ok := OkN ok w) hR (fun k hk => .inr (Nat.le_trans HBb.out.size hk))); obtain ⟨A4, n4, rfl⟩ := Kd.R_slice hR; clear hR; clear hb; clear ca0 ca1 ca2 ca3 fa0 fa1 fa2 fa3 cb0 cb1 cb2 cb3 fb0 fb1 fb2 fb3 nb nc; obtain ⟨ca0, ca1, ca2, ca3, fa0, fa1, fa2, fa3⟩ := BK1c.out.cells; obtain ⟨cb0, cb1, cb2, cb3, fb0, fb1, fb2, fb3⟩ := BK2c.out.cells; have nb := NB.out; have nc := NB.out.symm)
    | (go_at_call 45; (with_reducible refine (HM.out _ (R2c.out.put BK1c.out _)).mono ?_); rintro e wd ⟨v_, rfl, hR, hb⟩; have BK1d := Aside0.mk (B4.below (BK1c.out.put1 _) hb); have BK2d := Aside0.mk (B4.below (BK2c.out.far NB.out.symm _) hb); have HBd := Aside0.mk (below_step (below_set HBc.out GE1.out) hb); have R1d := Aside0.mk (Rd.below (RNc.out.put BK1c.out _) hb); have R2d := Aside0.mk (Rd.below (R2c.out.put BK1c.out _) hb); have R3d := Aside0.mk (Rd.below (R3c.out.put BK1c.out _) hb); have RNd := Aside0.mk (Rd.of_R (ok := OkN ok w) hR (fun k hk => .inr (Nat.le_trans (below_set HBc.out GE1.out).size hk))); obtain ⟨A5, n5, rfl⟩ := Kd.R_slice hR; clear hR; clear hb; clear ca0 ca1 ca2 ca3 fa0 fa1 fa2 fa3 cb0 cb1 cb2 cb3 fb0 fb1 fb2 fb3 nb nc; obtain ⟨ca0, ca1, ca2, ca3, fa0, fa1, fa2, fa3⟩ := BK1d.out.cells; obtain ⟨cb0, cb1, cb2, cb3, fb0, fb1, fb2, fb3⟩ := BK2d.out.cells; have nb := NB.out; have nc := NB.out.symm))
  refine bodyPost_ret (results_ct rfl _ _ g2 44 #[.int .i64 (n : Int), .slice A4 lx.length n4, .slice A5 ly.length n5, .slice A3 lb.length c3] (0, 0) _ rfl (B4.all (BK2d.out.far NB.out.symm _) n _ _ _) Try.underlying44 rfl (by kernel_rfl)) rfl ?_
  exact ⟨_, rfl, _, _, _, rfl, Rd.putAll (R1d.out.put BK1d.out _) (BK2d.out.far NB.out.symm _) n _ _ _, Rd.putAll (RNd.out.put BK1d.out _) (BK2d.out.far NB.out.symm _) n _ _ _, Rd.putAll (R3d.out.put BK1d.out _) (BK2d.out.far NB.out.symm _) n _ _ _, below_all (below_set HBd.out GE1.out) GE2.out _ _ _ _⟩
set_option maxHeartbeats 2000000 in
set_option maxRecDepth 100000 in
theorem give28_no (id : Int) (n : Nat) {lm li lb : List Int} {v1 v2 v3 : Value} (h1 : Rd ok w v1 lm) (h2 : Rd ok w v2 li) (h3 : Rd ok w v3 lb) (l1 : lm.length ≤ 300) (l2 : li.length ≤ 300) (l3 : lb.length ≤ 300) (hn : id ∉ lb) :
    Calls Try.prog 28 #[.agg #[.int .i64 (n : Int), v1, v2, v3], .int .i64 id] w fun e w' => ∃ vs, e = .returned (.tuple #[vs, .bool false]) ∧ Back ok w w' n vs ⟨lm, li, lb⟩ := by
  obtain ⟨A1, c1, rfl, hc1, _⟩ := h1.reads
  obtain ⟨A2, c2, rfl, hc2, _⟩ := h2.reads
  obtain ⟨A3, c3, rfl, hc3, _⟩ := h3.reads
  have H1 := Aside0.mk (h1.mono (ok' := OkN ok w) (fun k _ h => .inl h))
  have H2 := Aside0.mk (h2.mono (ok' := OkN ok w) (fun k _ h => .inl h))
  have H3 := Aside0.mk (h3.mono (ok' := OkN ok w) (fun k _ h => .inl h))
  have L1 := Aside0.mk hc1
  have L2 := Aside0.mk hc2
  have L3 := Aside0.mk hc3
  clear h1 h2 h3 hc1 hc2 hc3
  have HAS := Aside0.mk (fun W (h : Rd (OkN ok w) W (.slice A3 lb.length c3) lb) => has16 id lb A3 c3 W h.C L3.out (by omega))
  rw [decide_eq_false hn] at HAS
  clear hn
  go_enter Try.func28, Try.ntmps28
  go_wp2_with (first
    | ((with_reducible refine gate_dst (N := 2) rfl ?_); refine box_event ?hg (N := 2) ?hd (cs := #[.int .i64 (n : Int), .slice A1 lm.length c1, .slice A2 li.length c2, .slice A3 lb.length c3]) (t := 44) ?hr ?_; (case hd => rfl); (case hg => rfl); (case hr => first | (go_simp; done) | (go_simp; rfl)); intro g1 hg w1 hbox hb; have BK1 := Aside0.mk (show B4 w1 g1 n _ _ _ from hbox); have HB1 := Aside0.mk hb; have GE1 := Aside0.mk (show w.heap.size ≤ g1 by rw [hg]; exact Nat.le_refl _); have h1_ := H1; have h2_ := H2; have h3_ := H3; clear H1 H2 H3; have R1a := Aside0.mk (h1_.out.below hb); have R2a := Aside0.mk (h2_.out.below hb); have R3a := Aside0.mk (h3_.out.below hb); clear h1_ h2_ h3_ hbox hb hg)
    | ((with_reducible refine gate_dst (N := 4) rfl ?_); refine box_event ?hg (N := 4) ?hd (cs := #[.int .i64 0, .slice none 0 0, .slice none 0 0, .slice none 0 0]) (t := 44) ?hr ?_; (case hd => rfl); (case hg => rfl); (case hr => first | (go_simp; done) | (go_simp; rfl)); intro g2 hg w2 hbox hb; have BK2a := Aside0.mk (show B4 w2 g2 0 _ _ _ from hbox); have BK1a := Aside0.mk (BK1.out.below hb); have HBa := Aside0.mk (below_step HB1.out hb); have GE2 := Aside0.mk (show w.heap.size ≤ g2 by rw [hg]; exact HB1.out.size); have NB := Aside0.mk (show g1 ≠ g2 by rw [hg]; exact Nat.ne_of_lt (blk_lt BK1.out)); have r1_ := R1a; have r2_ := R2a; have r3_ := R3a; clear R1a R2a R3a; have R1a := Aside0.mk (r1_.out.below hb); have R2a := Aside0.mk (r2_.out.below hb); have R3a := Aside0.mk (r3_.out.below hb); clear r1_ r2_ r3_ hbox hb hg; obtain ⟨ca0, ca1, ca2, ca3, fa0, fa1, fa2, fa3⟩ := BK1a.out.cells; obtain ⟨cb0, cb1, cb2, cb3, fb0, fb1, fb2, fb3⟩ := BK2a.out.cells; have nb := NB.out; have nc := NB.out.symm)
    | (go_at_call 13; (with_reducible refine (HAS.out _ R3a.out).mono ?_); rintro e wb ⟨rfl, hb⟩; have BK1b := Aside0.mk (B4.below BK1a.out hb); have BK2b := Aside0.mk (B4.below BK2a.out hb); have HBb := Aside0.mk (below_step HBa.out hb); have R1b := Aside0.mk (Rd.below R1a.out hb); have R2b := Aside0.mk (Rd.below R2a.out hb); have R3b := Aside0.mk (Rd.below R3a.out hb); clear hb; clear ca0 ca1 ca2 ca3 fa0 fa1 fa2 fa3 cb0 cb1 cb2 cb3 fb0 fb1 fb2 fb3 nb nc; obtain ⟨ca0, ca1, ca2, ca3, fa0, fa1, fa2, fa3⟩ := BK1b.out.cells; obtain ⟨cb0, cb1, cb2, cb3, fb0, fb1, fb2, fb3⟩ := BK2b.out.cells; have nb := NB.out; have nc := NB.out.symm))
  refine bodyPost_ret (results_ct rfl _ _ g2 44 #[.int .i64 (n : Int), .slice A1 lm.length c1, .slice A2 li.length c2, .slice A3 lb.length c3] (0, 0) _ rfl (B4.all BK2b.out n _ _ _) Try.underlying44 rfl (by kernel_rfl)) rfl ?_
  exact ⟨_, rfl, _, _, _, rfl, Rd.putAll R1b.out BK2b.out n _ _ _, Rd.putAll R2b.out BK2b.out n _ _ _, Rd.putAll R3b.out BK2b.out n _ _ _, below_all HBb.out GE2.out _ _ _ _⟩
set_option maxHeartbeats 2000000 in
set_option maxRecDepth 100000 in
theorem give28_yes (id : Int) (n : Nat) {lm li lb : List Int} {v1 v2 v3 : Value} (h1 : Rd ok w v1 lm) (h2 : Rd ok w v2 li) (h3 : Rd ok w v3 lb) (l1 : lm.length ≤ 300) (l2 : li.length ≤ 300) (l3 : lb.length ≤ 300) (hn : id ∈ lb) :
    Calls Try.prog 28 #[.agg #[.int .i64 (n : Int), v1, v2, v3], .int .i64 id] w fun e w' => ∃ vs, e = .returned (.tuple #[vs, .bool true]) ∧ Back ok w w' n vs ⟨lm, li ++ [id], dropRow lb id⟩ := by
  obtain ⟨A1, c1, rfl, hc1, _⟩ := h1.reads
  obtain ⟨A2, c2, rfl, hc2, _⟩ := h2.reads
  obtain ⟨A3, c3, rfl, hc3, _⟩ := h3.reads
  have H1 := Aside0.mk (h1.mono (ok' := OkN ok w) (fun k _ h => .inl h))
  have H2 := Aside0.mk (h2.mono (ok' := OkN ok w) (fun k _ h => .inl h))
  have H3 := Aside0.mk (h3.mono (ok' := OkN ok w) (fun k _ h => .inl h))
  have L1 := Aside0.mk hc1
  have L2 := Aside0.mk hc2
  have L3 := Aside0.mk hc3
  clear h1 h2 h3 hc1 hc2 hc3
  have HAS := Aside0.mk (fun W (h : Rd (OkN ok w) W (.slice A3 lb.length c3) lb) => has16 id lb A3 c3 W h.C L3.out (by omega))
  rw [decide_eq_true hn] at HAS
  clear hn
  have HL := Aside0.mk (fun W (h : Rd (OkN ok w) W (.slice A3 lb.length c3) lb) => less16 id lb A3 c3 W h.C L3.out (by omega))
  generalize dropRow lb id = lx at HL ⊢
  have HM := Aside0.mk (fun W (h : Rd (OkN ok w) W (.slice A2 li.length c2) li) => more16 id li A2 c2 W h.C L2.out (by omega))
  generalize li ++ [id] = ly at HM ⊢
  go_enter Try.func28, Try.ntmps28
  go_wp2_with (first
    | ((with_reducible refine gate_dst (N := 2) rfl ?_); refine box_event ?hg (N := 2) ?hd (cs := #[.int .i64 (n : Int), .slice A1 lm.length c1, .slice A2 li.length c2, .slice A3 lb.length c3]) (t := 44) ?hr ?_; (case hd => rfl); (case hg => rfl); (case hr => first | (go_simp; done) | (go_simp; rfl)); intro g1 hg w1 hbox hb; have BK1 := Aside0.mk (show B4 w1 g1 n _ _ _ from hbox); have HB1 := Aside0.mk hb; have GE1 := Aside0.mk (show w.heap.size ≤ g1 by rw [hg]; exact Nat.le_refl _); have h1_ := H1; have h2_ := H2; have h3_ := H3; clear H1 H2 H3; have R1a := Aside0.mk (h1_.out.below hb); have R2a := Aside0.mk (h2_.out.below hb); have R3a := Aside0.mk (h3_.out.below hb); clear h1_ h2_ h3_ hbox hb hg)
    | ((with_reducible refine gate_dst (N := 4) rfl ?_); refine box_event ?hg (N := 4) ?hd (cs := #[.int .i64 0, .slice none 0 0, .slice none 0 0, .slice none 0 0]) (t := 44) ?hr ?_; (case hd => rfl); (case hg => rfl); (case hr => first | (go_simp; done) | (go_simp; rfl)); intro g2 hg w2 hbox hb; have BK2a := Aside0.mk (show B4 w2 g2 0 _ _ _ from hbox); have BK1a := Aside0.mk (BK1.out.below hb); have HBa := Aside0.mk (below_step HB1.out hb); have GE2 := Aside0.mk (show w.heap.size ≤ g2 by rw [hg]; exact HB1.out.size); have NB := Aside0.mk (show g1 ≠ g2 by rw [hg]; exact Nat.ne_of_lt (blk_lt BK1.out)); have r1_ := R1a; have r2_ := R2a; have r3_ := R3a; clear R1a R2a R3a; have R1a := Aside0.mk (r1_.out.below hb); have R2a := Aside0.mk (r2_.out.below hb); have R3a := Aside0.mk (r3_.out.below hb); clear r1_ r2_ r3_ hbox hb hg; obtain ⟨ca0, ca1, ca2, ca3, fa0, fa1, fa2, fa3⟩ := BK1a.out.cells; obtain ⟨cb0, cb1, cb2, cb3, fb0, fb1, fb2, fb3⟩ := BK2a.out.cells; have nb := NB.out; have nc := NB.out.symm)
    | (go_at_call 13; (with_reducible refine (HAS.out _ R3a.out).mono ?_); rintro e wb ⟨rfl, hb⟩; have BK1b := Aside0.mk (B4.below BK1a.out hb); have BK2b := Aside0.mk (B4.below BK2a.out hb); have HBb := Aside0.mk (below_step HBa.out hb); have R1b := Aside0.mk (Rd.below R1a.out hb); have R2b := Aside0.mk (Rd.below R2a.out hb); have R3b := Aside0.mk (Rd.below R3a.out hb); clear hb; clear ca0 ca1 ca2 ca3 fa0 fa1 fa2 fa3 cb0 cb1 cb2 cb3 fb0 fb1 fb2 fb3 nb nc; obtain ⟨ca0, ca1, ca2, ca3, fa0, fa1, fa2, fa3⟩ := BK1b.out.cells; obtain ⟨cb0, cb1, cb2, cb3, fb0, fb1, fb2, fb3⟩ := BK2b.out.cells; have nb := NB.out; have nc := NB.out.symm)
    | (go_at_call 23; (with_reducible refine (HL.out _ R3b.out).mono ?_); rintro e wc ⟨v_, rfl, hR, hb⟩; have BK1c := Aside0.mk (B4.below BK1b.out hb); have BK2c := Aside0.mk (B4.below BK2b.out hb); have HBc := Aside0.mk (below_step HBb.out hb); have R1c := Aside0.mk (Rd.below R1b.out hb); have R2c := Aside0.mk (Rd.below R2b.out hb); have R3c := Aside0.mk (Rd.below R3b.out hb); have RNc := Aside0.mk (Rd.of_R (ok := OkN ok w) hR (fun k hk => .inr (Nat.le_trans HBb.out.size hk))); obtain ⟨A4, n4, rfl⟩ := Kd.R_slice hR; clear hR; clear hb; clear ca0 ca1 ca2 ca3 fa0 fa1 fa2 fa3 cb0 cb1 cb2 cb3 fb0 fb1 fb2 fb3 nb nc; obtain ⟨ca0, ca1, ca2, ca3, fa0, fa1, fa2, fa3⟩ := BK1c.out.cells; obtain ⟨cb0, cb1, cb2, cb3, fb0, fb1, fb2, fb3⟩ := BK2c.out.cells; have nb := NB.out; have nc := NB.out.symm)
    | (go_at_call 45; (with_reducible refine (HM.out _ (R2c.out.put BK1c.out _)).mono ?_); rintro e wd ⟨v_, rfl, hR, hb⟩; have BK1d := Aside0.mk (B4.below (BK1c.out.put3 _) hb); have BK2d := Aside0.mk (B4.below (BK2c.out.far NB.out.symm _) hb); have HBd := Aside0.mk (below_step (below_set HBc.out GE1.out) hb); have R1d := Aside0.mk (Rd.below (R1c.out.put BK1c.out _) hb); have R2d := Aside0.mk (Rd.below (R2c.out.put BK1c.out _) hb); have R3d := Aside0.mk (Rd.below (RNc.out.put BK1c.out _) hb); have RNd := Aside0.mk (Rd.of_R (ok := OkN ok w) hR (fun k hk => .inr (Nat.le_trans (below_set HBc.out GE1.out).size hk))); obtain ⟨A5, n5, rfl⟩ := Kd.R_slice hR; clear hR; clear hb; clear ca0 ca1 ca2 ca3 fa0 fa1 fa2 fa3 cb0 cb1 cb2 cb3 fb0 fb1 fb2 fb3 nb nc; obtain ⟨ca0, ca1, ca2, ca3, fa0, fa1, fa2, fa3⟩ := BK1d.out.cells; obtain ⟨cb0, cb1, cb2, cb3, fb0, fb1, fb2, fb3⟩ := BK2d.out.cells; have nb := NB.out; have nc := NB.out.symm))
  refine bodyPost_ret (results_ct rfl _ _ g2 44 #[.int .i64 (n : Int), .slice A1 lm.length c1, .slice A5 ly.length n5, .slice A4 lx.length n4] (0, 0) _ rfl (B4.all (BK2d.out.far NB.out.symm _) n _ _ _) Try.underlying44 rfl (by kernel_rfl)) rfl ?_
  exact ⟨_, rfl, _, _, _, rfl, Rd.putAll (R1d.out.put BK1d.out _) (BK2d.out.far NB.out.symm _) n _ _ _, Rd.putAll (RNd.out.put BK1d.out _) (BK2d.out.far NB.out.symm _) n _ _ _, Rd.putAll (R3d.out.put BK1d.out _) (BK2d.out.far NB.out.symm _) n _ _ _, below_all (below_set HBd.out GE1.out) GE2.out _ _ _ _⟩
set_option maxHeartbeats 2000000 in
set_option maxRecDepth 100000 in
theorem drop29_true (id : Int) (n : Nat) {lm li lb : List Int} {v1 v2 v3 : Value} (h1 : Rd ok w v1 lm) (h2 : Rd ok w v2 li) (h3 : Rd ok w v3 lb) (l1 : lm.length ≤ 300) (l2 : li.length ≤ 300) (l3 : lb.length ≤ 300) (hn : decide (id ∈ lm ∨ id ∈ li ∨ id ∈ lb) = true) :
    Calls Try.prog 29 #[.agg #[.int .i64 (n : Int), v1, v2, v3], .int .i64 id] w fun e w' => ∃ vs, e = .returned (.tuple #[vs, .bool true]) ∧ Back ok w w' n vs ⟨dropRow lm id, dropRow li id, dropRow lb id⟩ := by
  obtain ⟨A1, c1, rfl, hc1, _⟩ := h1.reads
  obtain ⟨A2, c2, rfl, hc2, _⟩ := h2.reads
  obtain ⟨A3, c3, rfl, hc3, _⟩ := h3.reads
  have H1 := Aside0.mk (h1.mono (ok' := OkN ok w) (fun k _ h => .inl h))
  have H2 := Aside0.mk (h2.mono (ok' := OkN ok w) (fun k _ h => .inl h))
  have H3 := Aside0.mk (h3.mono (ok' := OkN ok w) (fun k _ h => .inl h))
  have L1 := Aside0.mk hc1
  have L2 := Aside0.mk hc2
  have L3 := Aside0.mk hc3
  clear h1 h2 h3 hc1 hc2 hc3
  have HIS := Aside0.mk (fun W (h1 : Rd (OkN ok w) W (.slice A1 lm.length c1) lm) (h2 : Rd (OkN ok w) W (.slice A2 li.length c2) li) (h3 : Rd (OkN ok w) W (.slice A3 lb.length c3) lb) => is33 (n : Int) id W h1.C L1.out h2.C L2.out h3.C L3.out (by omega) (by omega) (by omega))
  rw [hn] at HIS
  clear hn
  have HX := Aside0.mk (fun W (h : Rd (OkN ok w) W (.slice A1 lm.length c1) lm) => less16 id lm A1 c1 W h.C L1.out (by omega))
  generalize dropRow lm id = lx at HX ⊢
  have HY := Aside0.mk (fun W (h : Rd (OkN ok w) W (.slice A2 li.length c2) li) => less16 id li A2 c2 W h.C L2.out (by omega))
  generalize dropRow li id = ly at HY ⊢
  have HZ := Aside0.mk (fun W (h : Rd (OkN ok w) W (.slice A3 lb.length c3) lb) => less16 id lb A3 c3 W h.C L3.out (by omega))
  generalize dropRow lb id = lz at HZ ⊢
  go_enter Try.func29, Try.ntmps29
  go_wp2_with (first
    | ((with_reducible refine gate_dst (N := 2) rfl ?_); refine box_event ?hg (N := 2) ?hd (cs := #[.int .i64 (n : Int), .slice A1 lm.length c1, .slice A2 li.length c2, .slice A3 lb.length c3]) (t := 44) ?hr ?_; (case hd => rfl); (case hg => rfl); (case hr => first | (go_simp; done) | (go_simp; rfl)); intro g1 hg w1 hbox hb; have BK1 := Aside0.mk (show B4 w1 g1 n _ _ _ from hbox); have HB1 := Aside0.mk hb; have GE1 := Aside0.mk (show w.heap.size ≤ g1 by rw [hg]; exact Nat.le_refl _); have h1_ := H1; have h2_ := H2; have h3_ := H3; clear H1 H2 H3; have R1a := Aside0.mk (h1_.out.below hb); have R2a := Aside0.mk (h2_.out.below hb); have R3a := Aside0.mk (h3_.out.below hb); clear h1_ h2_ h3_ hbox hb hg)
    | ((with_reducible refine gate_dst (N := 4) rfl ?_); refine box_event ?hg (N := 4) ?hd (cs := #[.int .i64 0, .slice none 0 0, .slice none 0 0, .slice none 0 0]) (t := 44) ?hr ?_; (case hd => rfl); (case hg => rfl); (case hr => first | (go_simp; done) | (go_simp; rfl)); intro g2 hg w2 hbox hb; have BK2a := Aside0.mk (show B4 w2 g2 0 _ _ _ from hbox); have BK1a := Aside0.mk (BK1.out.below hb); have HBa := Aside0.mk (below_step HB1.out hb); have GE2 := Aside0.mk (show w.heap.size ≤ g2 by rw [hg]; exact HB1.out.size); have NB := Aside0.mk (show g1 ≠ g2 by rw [hg]; exact Nat.ne_of_lt (blk_lt BK1.out)); have r1_ := R1a; have r2_ := R2a; have r3_ := R3a; clear R1a R2a R3a; have R1a := Aside0.mk (r1_.out.below hb); have R2a := Aside0.mk (r2_.out.below hb); have R3a := Aside0.mk (r3_.out.below hb); clear r1_ r2_ r3_ hbox hb hg; obtain ⟨ca0, ca1, ca2, ca3, fa0, fa1, fa2, fa3⟩ := BK1a.out.cells; obtain ⟨cb0, cb1, cb2, cb3, fb0, fb1, fb2, fb3⟩ := BK2a.out.cells; have nb := NB.out; have nc := NB.out.symm)
    | (go_at_call 33; (with_reducible refine (HIS.out _ R1a.out R2a.out R3a.out).mono ?_); rintro e wb ⟨rfl, hb⟩; have BK1b := Aside0.mk (B4.below BK1a.out hb); have BK2b := Aside0.mk (B4.below BK2a.out hb); have HBb := Aside0.mk (below_step HBa.out hb); have R1b := Aside0.mk (Rd.below R1a.out hb); have R2b := Aside0.mk (Rd.below R2a.out hb); have R3b := Aside0.mk (Rd.below R3a.out hb); clear hb; clear ca0 ca1 ca2 ca3 fa0 fa1 fa2 fa3 cb0 cb1 cb2 cb3 fb0 fb1 fb2 fb3 nb nc; obtain ⟨ca0, ca1, ca2, ca3, fa0, fa1, fa2, fa3⟩ := BK1b.out.cells; obtain ⟨cb0, cb1, cb2, cb3, fb0, fb1, fb2, fb3⟩ := BK2b.out.cells; have nb := NB.out; have nc := NB.out.symm)
    | (go_at_call 23; (with_reducible refine (HX.out _ R1b.out).mono ?_); rintro e wc ⟨v_, rfl, hR, hb⟩; have BK1c := Aside0.mk (B4.below BK1b.out hb); have BK2c := Aside0.mk (B4.below BK2b.out hb); have HBc := Aside0.mk (below_step HBb.out hb); have R1c := Aside0.mk (Rd.below R1b.out hb); have R2c := Aside0.mk (Rd.below R2b.out hb); have R3c := Aside0.mk (Rd.below R3b.out hb); have RNc := Aside0.mk (Rd.of_R (ok := OkN ok w) hR (fun k hk => .inr (Nat.le_trans HBb.out.size hk))); obtain ⟨A4, n4, rfl⟩ := Kd.R_slice hR; clear hR; clear hb; clear ca0 ca1 ca2 ca3 fa0 fa1 fa2 fa3 cb0 cb1 cb2 cb3 fb0 fb1 fb2 fb3 nb nc; obtain ⟨ca0, ca1, ca2, ca3, fa0, fa1, fa2, fa3⟩ := BK1c.out.cells; obtain ⟨cb0, cb1, cb2, cb3, fb0, fb1, fb2, fb3⟩ := BK2c.out.cells; have nb := NB.out; have nc := NB.out.symm)
    | (go_at_call 23; (with_reducible refine (HY.out _ (R2c.out.put BK1c.out _)).mono ?_); rintro e wd ⟨v_, rfl, hR, hb⟩; have BK1d := Aside0.mk (B4.below (BK1c.out.put1 _) hb); have BK2d := Aside0.mk (B4.below (BK2c.out.far NB.out.symm _) hb); have HBd := Aside0.mk (below_step (below_set HBc.out GE1.out) hb); have R1d := Aside0.mk (Rd.below (RNc.out.put BK1c.out _) hb); have R2d := Aside0.mk (Rd.below (R2c.out.put BK1c.out _) hb); have R3d := Aside0.mk (Rd.below (R3c.out.put BK1c.out _) hb); have RNd := Aside0.mk (Rd.of_R (ok := OkN ok w) hR (fun k hk => .inr (Nat.le_trans (below_set HBc.out GE1.out).size hk))); obtain ⟨A5, n5, rfl⟩ := Kd.R_slice hR; clear hR; clear hb; clear ca0 ca1 ca2 ca3 fa0 fa1 fa2 fa3 cb0 cb1 cb2 cb3 fb0 fb1 fb2 fb3 nb nc; obtain ⟨ca0, ca1, ca2, ca3, fa0, fa1, fa2, fa3⟩ := BK1d.out.cells; obtain ⟨cb0, cb1, cb2, cb3, fb0, fb1, fb2, fb3⟩ := BK2d.out.cells; have nb := NB.out; have nc := NB.out.symm)
    | (go_at_call 23; (with_reducible refine (HZ.out _ (R3d.out.put BK1d.out _)).mono ?_); rintro e wf ⟨v_, rfl, hR, hb⟩; have BK1f := Aside0.mk (B4.below (BK1d.out.put2 _) hb); have BK2f := Aside0.mk (B4.below (BK2d.out.far NB.out.symm _) hb); have HBf := Aside0.mk (below_step (below_set HBd.out GE1.out) hb); have R1f := Aside0.mk (Rd.below (R1d.out.put BK1d.out _) hb); have R2f := Aside0.mk (Rd.below (RNd.out.put BK1d.out _) hb); have R3f := Aside0.mk (Rd.below (R3d.out.put BK1d.out _) hb); have RNf := Aside0.mk (Rd.of_R (ok := OkN ok w) hR (fun k hk => .inr (Nat.le_trans (below_set HBd.out GE1.out).size hk))); obtain ⟨A6, n6, rfl⟩ := Kd.R_slice hR; clear hR; clear hb; clear ca0 ca1 ca2 ca3 fa0 fa1 fa2 fa3 cb0 cb1 cb2 cb3 fb0 fb1 fb2 fb3 nb nc; obtain ⟨ca0, ca1, ca2, ca3, fa0, fa1, fa2, fa3⟩ := BK1f.out.cells; obtain ⟨cb0, cb1, cb2, cb3, fb0, fb1, fb2, fb3⟩ := BK2f.out.cells; have nb := NB.out; have nc := NB.out.symm))
  refine bodyPost_ret (results_ct rfl _ _ g2 44 #[.int .i64 (n : Int), .slice A4 lx.length n4, .slice A5 ly.length n5, .slice A6 lz.length n6] (0, 0) _ rfl (B4.all (BK2f.out.far NB.out.symm _) n _ _ _) Try.underlying44 rfl (by kernel_rfl)) rfl ?_
  exact ⟨_, rfl, _, _, _, rfl, Rd.putAll (R1f.out.put BK1f.out _) (BK2f.out.far NB.out.symm _) n _ _ _, Rd.putAll (R2f.out.put BK1f.out _) (BK2f.out.far NB.out.symm _) n _ _ _, Rd.putAll (RNf.out.put BK1f.out _) (BK2f.out.far NB.out.symm _) n _ _ _, below_all (below_set HBf.out GE1.out) GE2.out _ _ _ _⟩
set_option maxHeartbeats 2000000 in
set_option maxRecDepth 100000 in
theorem drop29_false (id : Int) (n : Nat) {lm li lb : List Int} {v1 v2 v3 : Value} (h1 : Rd ok w v1 lm) (h2 : Rd ok w v2 li) (h3 : Rd ok w v3 lb) (l1 : lm.length ≤ 300) (l2 : li.length ≤ 300) (l3 : lb.length ≤ 300) (hn : decide (id ∈ lm ∨ id ∈ li ∨ id ∈ lb) = false) :
    Calls Try.prog 29 #[.agg #[.int .i64 (n : Int), v1, v2, v3], .int .i64 id] w fun e w' => ∃ vs, e = .returned (.tuple #[vs, .bool false]) ∧ Back ok w w' n vs ⟨dropRow lm id, dropRow li id, dropRow lb id⟩ := by
  obtain ⟨A1, c1, rfl, hc1, _⟩ := h1.reads
  obtain ⟨A2, c2, rfl, hc2, _⟩ := h2.reads
  obtain ⟨A3, c3, rfl, hc3, _⟩ := h3.reads
  have H1 := Aside0.mk (h1.mono (ok' := OkN ok w) (fun k _ h => .inl h))
  have H2 := Aside0.mk (h2.mono (ok' := OkN ok w) (fun k _ h => .inl h))
  have H3 := Aside0.mk (h3.mono (ok' := OkN ok w) (fun k _ h => .inl h))
  have L1 := Aside0.mk hc1
  have L2 := Aside0.mk hc2
  have L3 := Aside0.mk hc3
  clear h1 h2 h3 hc1 hc2 hc3
  have HIS := Aside0.mk (fun W (h1 : Rd (OkN ok w) W (.slice A1 lm.length c1) lm) (h2 : Rd (OkN ok w) W (.slice A2 li.length c2) li) (h3 : Rd (OkN ok w) W (.slice A3 lb.length c3) lb) => is33 (n : Int) id W h1.C L1.out h2.C L2.out h3.C L3.out (by omega) (by omega) (by omega))
  rw [hn] at HIS
  clear hn
  have HX := Aside0.mk (fun W (h : Rd (OkN ok w) W (.slice A1 lm.length c1) lm) => less16 id lm A1 c1 W h.C L1.out (by omega))
  generalize dropRow lm id = lx at HX ⊢
  have HY := Aside0.mk (fun W (h : Rd (OkN ok w) W (.slice A2 li.length c2) li) => less16 id li A2 c2 W h.C L2.out (by omega))
  generalize dropRow li id = ly at HY ⊢
  have HZ := Aside0.mk (fun W (h : Rd (OkN ok w) W (.slice A3 lb.length c3) lb) => less16 id lb A3 c3 W h.C L3.out (by omega))
  generalize dropRow lb id = lz at HZ ⊢
  go_enter Try.func29, Try.ntmps29
  go_wp2_with (first
    | ((with_reducible refine gate_dst (N := 2) rfl ?_); refine box_event ?hg (N := 2) ?hd (cs := #[.int .i64 (n : Int), .slice A1 lm.length c1, .slice A2 li.length c2, .slice A3 lb.length c3]) (t := 44) ?hr ?_; (case hd => rfl); (case hg => rfl); (case hr => first | (go_simp; done) | (go_simp; rfl)); intro g1 hg w1 hbox hb; have BK1 := Aside0.mk (show B4 w1 g1 n _ _ _ from hbox); have HB1 := Aside0.mk hb; have GE1 := Aside0.mk (show w.heap.size ≤ g1 by rw [hg]; exact Nat.le_refl _); have h1_ := H1; have h2_ := H2; have h3_ := H3; clear H1 H2 H3; have R1a := Aside0.mk (h1_.out.below hb); have R2a := Aside0.mk (h2_.out.below hb); have R3a := Aside0.mk (h3_.out.below hb); clear h1_ h2_ h3_ hbox hb hg)
    | ((with_reducible refine gate_dst (N := 4) rfl ?_); refine box_event ?hg (N := 4) ?hd (cs := #[.int .i64 0, .slice none 0 0, .slice none 0 0, .slice none 0 0]) (t := 44) ?hr ?_; (case hd => rfl); (case hg => rfl); (case hr => first | (go_simp; done) | (go_simp; rfl)); intro g2 hg w2 hbox hb; have BK2a := Aside0.mk (show B4 w2 g2 0 _ _ _ from hbox); have BK1a := Aside0.mk (BK1.out.below hb); have HBa := Aside0.mk (below_step HB1.out hb); have GE2 := Aside0.mk (show w.heap.size ≤ g2 by rw [hg]; exact HB1.out.size); have NB := Aside0.mk (show g1 ≠ g2 by rw [hg]; exact Nat.ne_of_lt (blk_lt BK1.out)); have r1_ := R1a; have r2_ := R2a; have r3_ := R3a; clear R1a R2a R3a; have R1a := Aside0.mk (r1_.out.below hb); have R2a := Aside0.mk (r2_.out.below hb); have R3a := Aside0.mk (r3_.out.below hb); clear r1_ r2_ r3_ hbox hb hg; obtain ⟨ca0, ca1, ca2, ca3, fa0, fa1, fa2, fa3⟩ := BK1a.out.cells; obtain ⟨cb0, cb1, cb2, cb3, fb0, fb1, fb2, fb3⟩ := BK2a.out.cells; have nb := NB.out; have nc := NB.out.symm)
    | (go_at_call 33; (with_reducible refine (HIS.out _ R1a.out R2a.out R3a.out).mono ?_); rintro e wb ⟨rfl, hb⟩; have BK1b := Aside0.mk (B4.below BK1a.out hb); have BK2b := Aside0.mk (B4.below BK2a.out hb); have HBb := Aside0.mk (below_step HBa.out hb); have R1b := Aside0.mk (Rd.below R1a.out hb); have R2b := Aside0.mk (Rd.below R2a.out hb); have R3b := Aside0.mk (Rd.below R3a.out hb); clear hb; clear ca0 ca1 ca2 ca3 fa0 fa1 fa2 fa3 cb0 cb1 cb2 cb3 fb0 fb1 fb2 fb3 nb nc; obtain ⟨ca0, ca1, ca2, ca3, fa0, fa1, fa2, fa3⟩ := BK1b.out.cells; obtain ⟨cb0, cb1, cb2, cb3, fb0, fb1, fb2, fb3⟩ := BK2b.out.cells; have nb := NB.out; have nc := NB.out.symm)
    | (go_at_call 23; (with_reducible refine (HX.out _ R1b.out).mono ?_); rintro e wc ⟨v_, rfl, hR, hb⟩; have BK1c := Aside0.mk (B4.below BK1b.out hb); have BK2c := Aside0.mk (B4.below BK2b.out hb); have HBc := Aside0.mk (below_step HBb.out hb); have R1c := Aside0.mk (Rd.below R1b.out hb); have R2c := Aside0.mk (Rd.below R2b.out hb); have R3c := Aside0.mk (Rd.below R3b.out hb); have RNc := Aside0.mk (Rd.of_R (ok := OkN ok w) hR (fun k hk => .inr (Nat.le_trans HBb.out.size hk))); obtain ⟨A4, n4, rfl⟩ := Kd.R_slice hR; clear hR; clear hb; clear ca0 ca1 ca2 ca3 fa0 fa1 fa2 fa3 cb0 cb1 cb2 cb3 fb0 fb1 fb2 fb3 nb nc; obtain ⟨ca0, ca1, ca2, ca3, fa0, fa1, fa2, fa3⟩ := BK1c.out.cells; obtain ⟨cb0, cb1, cb2, cb3, fb0, fb1, fb2, fb3⟩ := BK2c.out.cells; have nb := NB.out; have nc := NB.out.symm)
    | (go_at_call 23; (with_reducible refine (HY.out _ (R2c.out.put BK1c.out _)).mono ?_); rintro e wd ⟨v_, rfl, hR, hb⟩; have BK1d := Aside0.mk (B4.below (BK1c.out.put1 _) hb); have BK2d := Aside0.mk (B4.below (BK2c.out.far NB.out.symm _) hb); have HBd := Aside0.mk (below_step (below_set HBc.out GE1.out) hb); have R1d := Aside0.mk (Rd.below (RNc.out.put BK1c.out _) hb); have R2d := Aside0.mk (Rd.below (R2c.out.put BK1c.out _) hb); have R3d := Aside0.mk (Rd.below (R3c.out.put BK1c.out _) hb); have RNd := Aside0.mk (Rd.of_R (ok := OkN ok w) hR (fun k hk => .inr (Nat.le_trans (below_set HBc.out GE1.out).size hk))); obtain ⟨A5, n5, rfl⟩ := Kd.R_slice hR; clear hR; clear hb; clear ca0 ca1 ca2 ca3 fa0 fa1 fa2 fa3 cb0 cb1 cb2 cb3 fb0 fb1 fb2 fb3 nb nc; obtain ⟨ca0, ca1, ca2, ca3, fa0, fa1, fa2, fa3⟩ := BK1d.out.cells; obtain ⟨cb0, cb1, cb2, cb3, fb0, fb1, fb2, fb3⟩ := BK2d.out.cells; have nb := NB.out; have nc := NB.out.symm)
    | (go_at_call 23; (with_reducible refine (HZ.out _ (R3d.out.put BK1d.out _)).mono ?_); rintro e wf ⟨v_, rfl, hR, hb⟩; have BK1f := Aside0.mk (B4.below (BK1d.out.put2 _) hb); have BK2f := Aside0.mk (B4.below (BK2d.out.far NB.out.symm _) hb); have HBf := Aside0.mk (below_step (below_set HBd.out GE1.out) hb); have R1f := Aside0.mk (Rd.below (R1d.out.put BK1d.out _) hb); have R2f := Aside0.mk (Rd.below (RNd.out.put BK1d.out _) hb); have R3f := Aside0.mk (Rd.below (R3d.out.put BK1d.out _) hb); have RNf := Aside0.mk (Rd.of_R (ok := OkN ok w) hR (fun k hk => .inr (Nat.le_trans (below_set HBd.out GE1.out).size hk))); obtain ⟨A6, n6, rfl⟩ := Kd.R_slice hR; clear hR; clear hb; clear ca0 ca1 ca2 ca3 fa0 fa1 fa2 fa3 cb0 cb1 cb2 cb3 fb0 fb1 fb2 fb3 nb nc; obtain ⟨ca0, ca1, ca2, ca3, fa0, fa1, fa2, fa3⟩ := BK1f.out.cells; obtain ⟨cb0, cb1, cb2, cb3, fb0, fb1, fb2, fb3⟩ := BK2f.out.cells; have nb := NB.out; have nc := NB.out.symm))
  refine bodyPost_ret (results_ct rfl _ _ g2 44 #[.int .i64 (n : Int), .slice A4 lx.length n4, .slice A5 ly.length n5, .slice A6 lz.length n6] (0, 0) _ rfl (B4.all (BK2f.out.far NB.out.symm _) n _ _ _) Try.underlying44 rfl (by kernel_rfl)) rfl ?_
  exact ⟨_, rfl, _, _, _, rfl, Rd.putAll (R1f.out.put BK1f.out _) (BK2f.out.far NB.out.symm _) n _ _ _, Rd.putAll (R2f.out.put BK1f.out _) (BK2f.out.far NB.out.symm _) n _ _ _, Rd.putAll (RNf.out.put BK1f.out _) (BK2f.out.far NB.out.symm _) n _ _ _, below_all (below_set HBf.out GE1.out) GE2.out _ _ _ _⟩
set_option maxHeartbeats 2000000 in
set_option maxRecDepth 100000 in
theorem take27_none (n : Nat) {lm li lb : List Int} {v1 v2 v3 : Value} (h1 : Rd ok w v1 lm) (h2 : Rd ok w v2 li) (h3 : Rd ok w v3 lb) (l1 : lm.length ≤ 300) (l2 : li.length ≤ 300) (l3 : lb.length ≤ 300) (hn : li = []) :
    Calls Try.prog 27 #[.agg #[.int .i64 (n : Int), v1, v2, v3]] w fun e w' => ∃ vs, e = .returned (.tuple #[vs, .int .i64 0, .bool false]) ∧ Back ok w w' n vs ⟨lm, li, lb⟩ := by
  obtain ⟨A1, c1, rfl, hc1, _⟩ := h1.reads
  obtain ⟨A2, c2, rfl, hc2, _⟩ := h2.reads
  obtain ⟨A3, c3, rfl, hc3, _⟩ := h3.reads
  have H1 := Aside0.mk (h1.mono (ok' := OkN ok w) (fun k _ h => .inl h))
  have H2 := Aside0.mk (h2.mono (ok' := OkN ok w) (fun k _ h => .inl h))
  have H3 := Aside0.mk (h3.mono (ok' := OkN ok w) (fun k _ h => .inl h))
  have L1 := Aside0.mk hc1
  have L2 := Aside0.mk hc2
  have L3 := Aside0.mk hc3
  clear h1 h2 h3 hc1 hc2 hc3
  subst hn
  go_enter Try.func27, Try.ntmps27
  go_wp2_with (first
    | ((with_reducible refine gate_dst (N := 1) rfl ?_); refine box_event ?hg (N := 1) ?hd (cs := #[.int .i64 (n : Int), .slice A1 lm.length c1, .slice A2 0 c2, .slice A3 lb.length c3]) (t := 44) ?hr ?_; (case hd => rfl); (case hg => rfl); (case hr => first | (go_simp; done) | (go_simp; rfl)); intro g1 hg w1 hbox hb; have BK1 := Aside0.mk (show B4 w1 g1 n _ _ _ from hbox); have HB1 := Aside0.mk hb; have GE1 := Aside0.mk (show w.heap.size ≤ g1 by rw [hg]; exact Nat.le_refl _); have h1_ := H1; have h2_ := H2; have h3_ := H3; clear H1 H2 H3; have R1a := Aside0.mk (h1_.out.below hb); have R2a := Aside0.mk (h2_.out.below hb); have R3a := Aside0.mk (h3_.out.below hb); clear h1_ h2_ h3_ hbox hb hg)
    | ((with_reducible refine gate_dst (N := 2) rfl ?_); refine box_event ?hg (N := 2) ?hd (cs := #[.int .i64 0, .slice none 0 0, .slice none 0 0, .slice none 0 0]) (t := 44) ?hr ?_; (case hd => rfl); (case hg => rfl); (case hr => first | (go_simp; done) | (go_simp; rfl)); intro g2 hg w2 hbox hb; have BK2a := Aside0.mk (show B4 w2 g2 0 _ _ _ from hbox); have BK1a := Aside0.mk (BK1.out.below hb); have HBa := Aside0.mk (below_step HB1.out hb); have GE2 := Aside0.mk (show w.heap.size ≤ g2 by rw [hg]; exact HB1.out.size); have NB := Aside0.mk (show g1 ≠ g2 by rw [hg]; exact Nat.ne_of_lt (blk_lt BK1.out)); have r1_ := R1a; have r2_ := R2a; have r3_ := R3a; clear R1a R2a R3a; have R1a := Aside0.mk (r1_.out.below hb); have R2a := Aside0.mk (r2_.out.below hb); have R3a := Aside0.mk (r3_.out.below hb); clear r1_ r2_ r3_ hbox hb hg; obtain ⟨ca0, ca1, ca2, ca3, fa0, fa1, fa2, fa3⟩ := BK1a.out.cells; obtain ⟨cb0, cb1, cb2, cb3, fb0, fb1, fb2, fb3⟩ := BK2a.out.cells; have nb := NB.out; have nc := NB.out.symm))
  refine bodyPost_ret (results_ctt rfl _ _ g2 44 #[.int .i64 (n : Int), .slice A1 lm.length c1, .slice A2 0 c2, .slice A3 lb.length c3] (0, 0) _ rfl (B4.all BK2a.out n _ _ _) Try.underlying44 rfl (by kernel_rfl)) rfl ?_
  exact ⟨_, rfl, _, _, _, rfl, Rd.putAll R1a.out BK2a.out n _ _ _, Rd.putAll R2a.out BK2a.out n _ _ _, Rd.putAll R3a.out BK2a.out n _ _ _, below_all HBa.out GE2.out _ _ _ _⟩
set_option maxHeartbeats 2000000 in
set_option maxRecDepth 100000 in
theorem take27_some (id : Int) (l : List Int) (n : Nat) {lm li lb : List Int} {v1 v2 v3 : Value} (h1 : Rd ok w v1 lm) (h2 : Rd ok w v2 li) (h3 : Rd ok w v3 lb) (l1 : lm.length ≤ 300) (l2 : li.length ≤ 300) (l3 : lb.length ≤ 300) (hn : li = l ++ [id]) :
    Calls Try.prog 27 #[.agg #[.int .i64 (n : Int), v1, v2, v3]] w fun e w' => ∃ vs, e = .returned (.tuple #[vs, .int .i64 id, .bool true]) ∧ Back ok w w' n vs ⟨lm, dropRow li id, lb ++ [id]⟩ := by
  obtain ⟨A1, c1, rfl, hc1, _⟩ := h1.reads
  obtain ⟨A2, c2, rfl, hc2, _⟩ := h2.reads
  obtain ⟨A3, c3, rfl, hc3, _⟩ := h3.reads
  have H1 := Aside0.mk (h1.mono (ok' := OkN ok w) (fun k _ h => .inl h))
  have H2 := Aside0.mk (h2.mono (ok' := OkN ok w) (fun k _ h => .inl h))
  have H3 := Aside0.mk (h3.mono (ok' := OkN ok w) (fun k _ h => .inl h))
  have L1 := Aside0.mk hc1
  have L2 := Aside0.mk hc2
  have L3 := Aside0.mk hc3
  clear h1 h2 h3 hc1 hc2 hc3
  obtain ⟨p, hp⟩ : ∃ p : Nat, l.length = p := ⟨_, rfl⟩
  have hli : li.length = p + 1 := by rw [hn, ← hp]; simp
  obtain ⟨ad, rfl, hx⟩ := Kd.at_int (Rd.C H2.out) (p : Int) (by omega) (by omega)
  have hrd : rd li (p : Int) = id := by rw [hn, ← hp]; simp [rd, List.getD]
  rw [hrd, Int.toNat_natCast] at hx
  have hxl := World.block_lt_of_cell? w _ hx
  have hw1 : wrap64 ((li.length : Int) - 1) = (p : Int) := by unfold wrap64; omega
  have hw2 : IntKind.i64.wrap ((li.length : Int) - 1) = (p : Int) := by rw [i64_w]; exact hw1
  have h0p : (0 : Int) ≤ (p : Int) := by omega
  have hpl : (p : Int) < (li.length : Int) := by omega
  have hnz : ((li.length : Int) == 0) = false := by rw [beq_eq_false_iff_ne]; omega
  have hnz2 : decide ((li.length : Int) = 0) = false := decide_eq_false (by omega)
  clear hn hp hrd hli
  have HY := Aside0.mk (fun W (h : Rd (OkN ok w) W (.slice (some ad) li.length c2) li) => less16 id li (some ad) c2 W h.C L2.out (by omega))
  generalize dropRow li id = ly at HY ⊢
  have HM := Aside0.mk (fun W (h : Rd (OkN ok w) W (.slice A3 lb.length c3) lb) => more16 id lb A3 c3 W h.C L3.out (by omega))
  generalize lb ++ [id] = lz at HM ⊢
  go_enter Try.func27, Try.ntmps27
  go_wp2_with (first
    | ((with_reducible refine gate_dst (N := 1) rfl ?_); refine box_event ?hg (N := 1) ?hd (cs := #[.int .i64 (n : Int), .slice A1 lm.length c1, .slice (some ad) li.length c2, .slice A3 lb.length c3]) (t := 44) ?hr ?_; (case hd => rfl); (case hg => rfl); (case hr => first | (go_simp; done) | (go_simp; rfl)); intro g1 hg w1 hbox hb; have BK1 := Aside0.mk (show B4 w1 g1 n _ _ _ from hbox); have HB1 := Aside0.mk hb; have GE1 := Aside0.mk (show w.heap.size ≤ g1 by rw [hg]; exact Nat.le_refl _); have h1_ := H1; have h2_ := H2; have h3_ := H3; clear H1 H2 H3; have R1a := Aside0.mk (h1_.out.below hb); have R2a := Aside0.mk (h2_.out.below hb); have R3a := Aside0.mk (h3_.out.below hb); clear h1_ h2_ h3_ hbox hb hg)
    | ((with_reducible refine gate_dst (N := 2) rfl ?_); refine box_event ?hg (N := 2) ?hd (cs := #[.int .i64 0, .slice none 0 0, .slice none 0 0, .slice none 0 0]) (t := 44) ?hr ?_; (case hd => rfl); (case hg => rfl); (case hr => first | (go_simp; done) | (go_simp; rfl)); intro g2 hg w2 hbox hb; have BK2a := Aside0.mk (show B4 w2 g2 0 _ _ _ from hbox); have BK1a := Aside0.mk (BK1.out.below hb); have HBa := Aside0.mk (below_step HB1.out hb); have GE2 := Aside0.mk (show w.heap.size ≤ g2 by rw [hg]; exact HB1.out.size); have NB := Aside0.mk (show g1 ≠ g2 by rw [hg]; exact Nat.ne_of_lt (blk_lt BK1.out)); have r1_ := R1a; have r2_ := R2a; have r3_ := R3a; clear R1a R2a R3a; have R1a := Aside0.mk (r1_.out.below hb); have R2a := Aside0.mk (r2_.out.below hb); have R3a := Aside0.mk (r3_.out.below hb); clear r1_ r2_ r3_ hbox hb hg; obtain ⟨ca0, ca1, ca2, ca3, fa0, fa1, fa2, fa3⟩ := BK1a.out.cells; obtain ⟨cb0, cb1, cb2, cb3, fb0, fb1, fb2, fb3⟩ := BK2a.out.cells; have nb := NB.out; have nc := NB.out.symm; have hxa := (HBa.out.cell hxl).trans hx; clear hx)
    | (go_at_call 23; (with_reducible refine (HY.out _ R2a.out).mono ?_); rintro e wc ⟨v_, rfl, hR, hb⟩; have BK1c := Aside0.mk (B4.below BK1a.out hb); have BK2c := Aside0.mk (B4.below BK2a.out hb); have HBc := Aside0.mk (below_step HBa.out hb); have R1c := Aside0.mk (Rd.below R1a.out hb); have R2c := Aside0.mk (Rd.below R2a.out hb); have R3c := Aside0.mk (Rd.below R3a.out hb); have RNc := Aside0.mk (Rd.of_R (ok := OkN ok w) hR (fun k hk => .inr (Nat.le_trans HBa.out.size hk))); obtain ⟨A4, n4, rfl⟩ := Kd.R_slice hR; clear hR; clear hb; clear ca0 ca1 ca2 ca3 fa0 fa1 fa2 fa3 cb0 cb1 cb2 cb3 fb0 fb1 fb2 fb3 nb nc; obtain ⟨ca0, ca1, ca2, ca3, fa0, fa1, fa2, fa3⟩ := BK1c.out.cells; obtain ⟨cb0, cb1, cb2, cb3, fb0, fb1, fb2, fb3⟩ := BK2c.out.cells; have nb := NB.out; have nc := NB.out.symm)
    | (go_at_call 45; (with_reducible refine (HM.out _ (R3c.out.put BK1c.out _)).mono ?_); rintro e wd ⟨v_, rfl, hR, hb⟩; have BK1d := Aside0.mk (B4.below (BK1c.out.put2 _) hb); have BK2d := Aside0.mk (B4.below (BK2c.out.far NB.out.symm _) hb); have HBd := Aside0.mk (below_step (below_set HBc.out GE1.out) hb); have R1d := Aside0.mk (Rd.below (R1c.out.put BK1c.out _) hb); have R2d := Aside0.mk (Rd.below (RNc.out.put BK1c.out _) hb); have R3d := Aside0.mk (Rd.below (R3c.out.put BK1c.out _) hb); have RNd := Aside0.mk (Rd.of_R (ok := OkN ok w) hR (fun k hk => .inr (Nat.le_trans (below_set HBc.out GE1.out).size hk))); obtain ⟨A5, n5, rfl⟩ := Kd.R_slice hR; clear hR; clear hb; clear ca0 ca1 ca2 ca3 fa0 fa1 fa2 fa3 cb0 cb1 cb2 cb3 fb0 fb1 fb2 fb3 nb nc; obtain ⟨ca0, ca1, ca2, ca3, fa0, fa1, fa2, fa3⟩ := BK1d.out.cells; obtain ⟨cb0, cb1, cb2, cb3, fb0, fb1, fb2, fb3⟩ := BK2d.out.cells; have nb := NB.out; have nc := NB.out.symm))
  refine bodyPost_ret (results_ctt rfl _ _ g2 44 #[.int .i64 (n : Int), .slice A1 lm.length c1, .slice A4 ly.length n4, .slice A5 lz.length n5] (0, 0) _ rfl (B4.all (BK2d.out.far NB.out.symm _) n _ _ _) Try.underlying44 rfl (by kernel_rfl)) rfl ?_
  exact ⟨_, rfl, _, _, _, rfl, Rd.putAll (R1d.out.put BK1d.out _) (BK2d.out.far NB.out.symm _) n _ _ _, Rd.putAll (R2d.out.put BK1d.out _) (BK2d.out.far NB.out.symm _) n _ _ _, Rd.putAll (RNd.out.put BK1d.out _) (BK2d.out.far NB.out.symm _) n _ _ _, below_all (below_set HBd.out GE1.out) GE2.out _ _ _ _⟩
set_option maxHeartbeats 2000000 in
set_option maxRecDepth 100000 in
theorem make25_there (id : Int) (n : Nat) {lm li lb : List Int} {v1 v2 v3 : Value} (h1 : Rd ok w v1 lm) (h2 : Rd ok w v2 li) (h3 : Rd ok w v3 lb) (l1 : lm.length ≤ 300) (l2 : li.length ≤ 300) (l3 : lb.length ≤ 300) (hn : decide (id ∈ lm ∨ id ∈ li ∨ id ∈ lb) = true) :
    Calls Try.prog 25 #[.agg #[.int .i64 (n : Int), v1, v2, v3], .int .i64 id] w fun e w' => ∃ vs, e = .returned (.tuple #[vs, .int .i64 6]) ∧ Back ok w w' n vs ⟨lm, li, lb⟩ := by
  obtain ⟨A1, c1, rfl, hc1, _⟩ := h1.reads
  obtain ⟨A2, c2, rfl, hc2, _⟩ := h2.reads
  obtain ⟨A3, c3, rfl, hc3, _⟩ := h3.reads
  have H1 := Aside0.mk (h1.mono (ok' := OkN ok w) (fun k _ h => .inl h))
  have H2 := Aside0.mk (h2.mono (ok' := OkN ok w) (fun k _ h => .inl h))
  have H3 := Aside0.mk (h3.mono (ok' := OkN ok w) (fun k _ h => .inl h))
  have L1 := Aside0.mk hc1
  have L2 := Aside0.mk hc2
  have L3 := Aside0.mk hc3
  clear h1 h2 h3 hc1 hc2 hc3
  have HIS := Aside0.mk (fun W (h1 : Rd (OkN ok w) W (.slice A1 lm.length c1) lm) (h2 : Rd (OkN ok w) W (.slice A2 li.length c2) li) (h3 : Rd (OkN ok w) W (.slice A3 lb.length c3) lb) => is33 (n : Int) id W h1.C L1.out h2.C L2.out h3.C L3.out (by omega) (by omega) (by omega))
  rw [hn] at HIS
  clear hn
  go_enter Try.func25, Try.ntmps25
  go_wp2_with (first
    | ((with_reducible refine gate_dst (N := 2) rfl ?_); refine box_event ?hg (N := 2) ?hd (cs := #[.int .i64 (n : Int), .slice A1 lm.length c1, .slice A2 li.length c2, .slice A3 lb.length c3]) (t := 44) ?hr ?_; (case hd => rfl); (case hg => rfl); (case hr => first | (go_simp; done) | (go_simp; rfl)); intro g1 hg w1 hbox hb; have BK1 := Aside0.mk (show B4 w1 g1 n _ _ _ from hbox); have HB1 := Aside0.mk hb; have GE1 := Aside0.mk (show w.heap.size ≤ g1 by rw [hg]; exact Nat.le_refl _); have h1_ := H1; have h2_ := H2; have h3_ := H3; clear H1 H2 H3; have R1a := Aside0.mk (h1_.out.below hb); have R2a := Aside0.mk (h2_.out.below hb); have R3a := Aside0.mk (h3_.out.below hb); clear h1_ h2_ h3_ hbox hb hg)
    | ((with_reducible refine gate_dst (N := 4) rfl ?_); refine box_event ?hg (N := 4) ?hd (cs := #[.int .i64 0, .slice none 0 0, .slice none 0 0, .slice none 0 0]) (t := 44) ?hr ?_; (case hd => rfl); (case hg => rfl); (case hr => first | (go_simp; done) | (go_simp; rfl)); intro g2 hg w2 hbox hb; have BK2a := Aside0.mk (show B4 w2 g2 0 _ _ _ from hbox); have BK1a := Aside0.mk (BK1.out.below hb); have HBa := Aside0.mk (below_step HB1.out hb); have GE2 := Aside0.mk (show w.heap.size ≤ g2 by rw [hg]; exact HB1.out.size); have NB := Aside0.mk (show g1 ≠ g2 by rw [hg]; exact Nat.ne_of_lt (blk_lt BK1.out)); have r1_ := R1a; have r2_ := R2a; have r3_ := R3a; clear R1a R2a R3a; have R1a := Aside0.mk (r1_.out.below hb); have R2a := Aside0.mk (r2_.out.below hb); have R3a := Aside0.mk (r3_.out.below hb); clear r1_ r2_ r3_ hbox hb hg; obtain ⟨ca0, ca1, ca2, ca3, fa0, fa1, fa2, fa3⟩ := BK1a.out.cells; obtain ⟨cb0, cb1, cb2, cb3, fb0, fb1, fb2, fb3⟩ := BK2a.out.cells; have nb := NB.out; have nc := NB.out.symm)
    | (go_at_call 33; (with_reducible refine (HIS.out _ R1a.out R2a.out R3a.out).mono ?_); rintro e wb ⟨rfl, hb⟩; have BK1b := Aside0.mk (B4.below BK1a.out hb); have BK2b := Aside0.mk (B4.below BK2a.out hb); have HBb := Aside0.mk (below_step HBa.out hb); have R1b := Aside0.mk (Rd.below R1a.out hb); have R2b := Aside0.mk (Rd.below R2a.out hb); have R3b := Aside0.mk (Rd.below R3a.out hb); clear hb; clear ca0 ca1 ca2 ca3 fa0 fa1 fa2 fa3 cb0 cb1 cb2 cb3 fb0 fb1 fb2 fb3 nb nc; obtain ⟨ca0, ca1, ca2, ca3, fa0, fa1, fa2, fa3⟩ := BK1b.out.cells; obtain ⟨cb0, cb1, cb2, cb3, fb0, fb1, fb2, fb3⟩ := BK2b.out.cells; have nb := NB.out; have nc := NB.out.symm))
  refine bodyPost_ret (results_ct rfl _ _ g2 44 #[.int .i64 (n : Int), .slice A1 lm.length c1, .slice A2 li.length c2, .slice A3 lb.length c3] (0, 0) _ rfl (B4.all BK2b.out n _ _ _) Try.underlying44 rfl (by kernel_rfl)) rfl ?_
  exact ⟨_, rfl, _, _, _, rfl, Rd.putAll R1b.out BK2b.out n _ _ _, Rd.putAll R2b.out BK2b.out n _ _ _, Rd.putAll R3b.out BK2b.out n _ _ _, below_all HBb.out GE2.out _ _ _ _⟩
set_option maxHeartbeats 2000000 in
set_option maxRecDepth 100000 in
theorem make25_full (id : Int) (n : Nat) {lm li lb : List Int} {v1 v2 v3 : Value} (h1 : Rd ok w v1 lm) (h2 : Rd ok w v2 li) (h3 : Rd ok w v3 lb) (l1 : lm.length ≤ 300) (l2 : li.length ≤ 300) (l3 : lb.length ≤ 300) (hn : decide (id ∈ lm ∨ id ∈ li ∨ id ∈ lb) = false) (hf : ¬ lm.length + li.length + lb.length < n) :
    Calls Try.prog 25 #[.agg #[.int .i64 (n : Int), v1, v2, v3], .int .i64 id] w fun e w' => ∃ vs, e = .returned (.tuple #[vs, .int .i64 7]) ∧ Back ok w w' n vs ⟨lm, li, lb⟩ := by
  obtain ⟨A1, c1, rfl, hc1, _⟩ := h1.reads
  obtain ⟨A2, c2, rfl, hc2, _⟩ := h2.reads
  obtain ⟨A3, c3, rfl, hc3, _⟩ := h3.reads
  have H1 := Aside0.mk (h1.mono (ok' := OkN ok w) (fun k _ h => .inl h))
  have H2 := Aside0.mk (h2.mono (ok' := OkN ok w) (fun k _ h => .inl h))
  have H3 := Aside0.mk (h3.mono (ok' := OkN ok w) (fun k _ h => .inl h))
  have L1 := Aside0.mk hc1
  have L2 := Aside0.mk hc2
  have L3 := Aside0.mk hc3
  clear h1 h2 h3 hc1 hc2 hc3
  have HIS := Aside0.mk (fun W (h1 : Rd (OkN ok w) W (.slice A1 lm.length c1) lm) (h2 : Rd (OkN ok w) W (.slice A2 li.length c2) li) (h3 : Rd (OkN ok w) W (.slice A3 lb.length c3) lb) => is33 (n : Int) id W h1.C L1.out h2.C L2.out h3.C L3.out (by omega) (by omega) (by omega))
  rw [hn] at HIS
  clear hn
  obtain ⟨l, hl⟩ : ∃ l : Nat, lm.length + li.length + lb.length = l := ⟨_, rfl⟩
  have HLN := Aside0.mk (fun W (h1 : Rd (OkN ok w) W (.slice A1 lm.length c1) lm) (h2 : Rd (OkN ok w) W (.slice A2 li.length c2) li) (h3 : Rd (OkN ok w) W (.slice A3 lb.length c3) lb) => len31 (n : Int) W h1.C L1.out h2.C L2.out h3.C L3.out l hl (by omega))
  rw [hl] at hf
  have hd1 : decide ((n : Int) ≤ (l : Int)) = true := decide_eq_true (by omega)
  have hd2 : decide (n ≤ l) = true := decide_eq_true (by omega)
  clear hf
  clear l1 l2 l3 hl
  go_enter Try.func25, Try.ntmps25
  go_upto_region 4 with (first
    | ((with_reducible refine gate_dst (N := 2) rfl ?_); refine box_event ?hg (N := 2) ?hd (cs := #[.int .i64 (n : Int), .slice A1 lm.length c1, .slice A2 li.length c2, .slice A3 lb.length c3]) (t := 44) ?hr ?_; (case hd => rfl); (case hg => rfl); (case hr => first | (go_simp; done) | (go_simp; rfl)); intro g1 hg w1 hbox hb; have BK1 := Aside0.mk (show B4 w1 g1 n _ _ _ from hbox); have HB1 := Aside0.mk hb; have GE1 := Aside0.mk (show w.heap.size ≤ g1 by rw [hg]; exact Nat.le_refl _); have h1_ := H1; have h2_ := H2; have h3_ := H3; clear H1 H2 H3; have R1a := Aside0.mk (h1_.out.below hb); have R2a := Aside0.mk (h2_.out.below hb); have R3a := Aside0.mk (h3_.out.below hb); clear h1_ h2_ h3_ hbox hb hg)
    | ((with_reducible refine gate_dst (N := 4) rfl ?_); refine box_event ?hg (N := 4) ?hd (cs := #[.int .i64 0, .slice none 0 0, .slice none 0 0, .slice none 0 0]) (t := 44) ?hr ?_; (case hd => rfl); (case hg => rfl); (case hr => first | (go_simp; done) | (go_simp; rfl)); intro g2 hg w2 hbox hb; have BK2a := Aside0.mk (show B4 w2 g2 0 _ _ _ from hbox); have BK1a := Aside0.mk (BK1.out.below hb); have HBa := Aside0.mk (below_step HB1.out hb); have GE2 := Aside0.mk (show w.heap.size ≤ g2 by rw [hg]; exact HB1.out.size); have NB := Aside0.mk (show g1 ≠ g2 by rw [hg]; exact Nat.ne_of_lt (blk_lt BK1.out)); have r1_ := R1a; have r2_ := R2a; have r3_ := R3a; clear R1a R2a R3a; have R1a := Aside0.mk (r1_.out.below hb); have R2a := Aside0.mk (r2_.out.below hb); have R3a := Aside0.mk (r3_.out.below hb); clear r1_ r2_ r3_ hbox hb hg; obtain ⟨ca0, ca1, ca2, ca3, fa0, fa1, fa2, fa3⟩ := BK1a.out.cells; obtain ⟨cb0, cb1, cb2, cb3, fb0, fb1, fb2, fb3⟩ := BK2a.out.cells; have nb := NB.out; have nc := NB.out.symm)
    | (go_at_call 33; (with_reducible refine (HIS.out _ R1a.out R2a.out R3a.out).mono ?_); rintro e wb ⟨rfl, hb⟩; have BK1b := Aside0.mk (B4.below BK1a.out hb); have BK2b := Aside0.mk (B4.below BK2a.out hb); have HBb := Aside0.mk (below_step HBa.out hb); have R1b := Aside0.mk (Rd.below R1a.out hb); have R2b := Aside0.mk (Rd.below R2a.out hb); have R3b := Aside0.mk (Rd.below R3a.out hb); clear hb; clear ca0 ca1 ca2 ca3 fa0 fa1 fa2 fa3 cb0 cb1 cb2 cb3 fb0 fb1 fb2 fb3 nb nc; obtain ⟨ca0, ca1, ca2, ca3, fa0, fa1, fa2, fa3⟩ := BK1b.out.cells; obtain ⟨cb0, cb1, cb2, cb3, fb0, fb1, fb2, fb3⟩ := BK2b.out.cells; have nb := NB.out; have nc := NB.out.symm))
  have hg1 : g1 < wb.heap.size := blk_lt BK1b.out
  refine start_ (n := 5) (S := fun w' => w'.cell? ⟨g1, 0, none⟩ = some (.int .i64 (n : Int)) ∧ w'.cell? ⟨g1, 1, none⟩ = some (.slice A1 lm.length c1) ∧ w'.cell? ⟨g1, 2, none⟩ = some (.slice A2 li.length c2) ∧ w'.cell? ⟨g1, 3, none⟩ = some (.slice A3 lb.length c3)) (ds := []) #[false, false, false, false, false] (by kernel_rfl) rfl rfl ⟨ca0, ca1, ca2, ca3⟩ (fun hHeld => ?_); refine with_tab rmake.tab4 (fun HT_ => ?_)
  refine pure_ (i := 2) (N := some 14) (v := ?_) (a' := ?_) #[false, false, true, false, false] rfl rfl (any_of HT_.out (by kernel_rfl)) (fun _ _ _ h => h) (Or.inl ⟨by rfl, ?_⟩) ?_ ?_
  rotate_left
  · intro w'
    go_simp
    with_reducible rfl
  rotate_left
  · simp only [Act.put, List.setIfInBounds_toArray, List.set_cons_zero, List.set_cons_succ, i64_w, i32_w]
    rfl
  refine take_ (i := 0) (N := some 12) (v := ?_) (a' := ?_) #[true, false, true, false, false] rfl rfl (take_of HT_.out (by kernel_rfl)) (fun _ _ _ h => h) (Or.inl ⟨by rfl, ?_⟩) hHeld ?_ ?_
  rotate_left
  · intro w' hS_
    obtain ⟨s0, s1, s2, s3⟩ := hS_
    go_simp
    with_reducible rfl
  rotate_left
  · simp only [Act.put, List.setIfInBounds_toArray, List.set_cons_zero, List.set_cons_succ, i64_w, i32_w]
    rfl
  refine take_ (i := 3) (N := some 15) (v := ?_) (a' := ?_) #[true, false, true, true, false] rfl rfl (take_of HT_.out (by kernel_rfl)) (fun _ _ _ h => h) (Or.inl ⟨by rfl, ?_⟩) hHeld ?_ ?_
  rotate_left
  · intro w' hS_
    obtain ⟨s0, s1, s2, s3⟩ := hS_
    go_simp
    with_reducible rfl
  rotate_left
  · simp only [Act.put, List.setIfInBounds_toArray, List.set_cons_zero, List.set_cons_succ, i64_w, i32_w]
    rfl
  refine one_ (i := 1) (N := some 13) #[true, true, true, true, false] rfl rfl (one_of HT_.out (by kernel_rfl)) (by decide) (fun K hK => ?_)
  refine goes_ Try.func31 (by kernel_rfl) rfl #[.agg #[.int .i64 (n : Int), .slice A1 lm.length c1, .slice A2 li.length c2, .slice A3 lb.length c3]] (by rfl) rfl rfl (by (try simp only [List.map_toArray, List.map_cons, List.map_nil]); first | done | rfl) ?_
  refine (HLN.out _ (R1b.out.below (below_drew1 (Below.refl _ wb))) (R2b.out.below (below_drew1 (Below.refl _ wb))) (R3b.out.below (below_drew1 (Below.refl _ wb)))).mono ?_
  rintro e wc ⟨rfl, hb_⟩
  have HBq := Aside0.mk (below_step (below_drew1 (Below.refl _ wb)) hb_)
  have hsw : (fun w' => w'.cell? ⟨g1, 0, none⟩ = some (.int .i64 (n : Int)) ∧ w'.cell? ⟨g1, 1, none⟩ = some (.slice A1 lm.length c1) ∧ w'.cell? ⟨g1, 2, none⟩ = some (.slice A2 li.length c2) ∧ w'.cell? ⟨g1, 3, none⟩ = some (.slice A3 lb.length c3)) wc := by
    have h_ := HBq.out
    exact ⟨(h_.cell (p := ⟨g1, 0, none⟩) hg1).trans ca0, (h_.cell (p := ⟨g1, 1, none⟩) hg1).trans ca1, (h_.cell (p := ⟨g1, 2, none⟩) hg1).trans ca2, (h_.cell (p := ⟨g1, 3, none⟩) hg1).trans ca3⟩
  refine ⟨_, rfl, ?_⟩
  refine hK.out _ _ hsw (fun hHeld => ?_)
  clear hK K
  refine norm_ (a' := ?_) ?_ ?_
  rotate_left
  · show Act.put _ (some 13) _ = _
    simp only [Act.put, List.setIfInBounds_toArray, List.set_cons_zero, List.set_cons_succ, i64_w, i32_w]
    rfl
  refine pure_ (i := 4) (N := some 16) (v := ?_) (a' := ?_) #[true, true, true, true, true] rfl rfl (any_of HT_.out (by kernel_rfl)) (fun _ _ _ h => h) (Or.inl ⟨by rfl, ?_⟩) ?_ ?_
  rotate_left
  · intro w'
    go_simp
    with_reducible rfl
  rotate_left
  · simp only [Act.put, List.setIfInBounds_toArray, List.set_cons_zero, List.set_cons_succ, i64_w, i32_w]
    rfl
  refine done_ (done_of HT_.out (by kernel_rfl)) ?_
  clear hHeld ca0 ca1 ca2 ca3 fa0 fa1 fa2 fa3 cb0 cb1 cb2 cb3 fb0 fb1 fb2 fb3 nb nc
  have BK1c := Aside0.mk (BK1b.out.below HBq.out)
  have BK2c := Aside0.mk (BK2b.out.below HBq.out)
  have HBc := Aside0.mk (HBb.out.trans (HBq.out.mono HBb.out.size))
  have R1c := Aside0.mk (R1b.out.below HBq.out)
  have R2c := Aside0.mk (R2b.out.below HBq.out)
  have R3c := Aside0.mk (R3b.out.below HBq.out)
  obtain ⟨ca0, ca1, ca2, ca3, fa0, fa1, fa2, fa3⟩ := BK1c.out.cells
  obtain ⟨cb0, cb1, cb2, cb3, fb0, fb1, fb2, fb3⟩ := BK2c.out.cells
  have nb := NB.out
  have nc := NB.out.symm
  go_wp2
  refine bodyPost_ret (results_ct rfl _ _ g2 44 #[.int .i64 (n : Int), .slice A1 lm.length c1, .slice A2 li.length c2, .slice A3 lb.length c3] (0, 0) _ rfl (B4.all BK2c.out n _ _ _) Try.underlying44 rfl (by kernel_rfl)) rfl ?_
  exact ⟨_, rfl, _, _, _, rfl, Rd.putAll R1c.out BK2c.out n _ _ _, Rd.putAll R2c.out BK2c.out n _ _ _, Rd.putAll R3c.out BK2c.out n _ _ _, below_all HBc.out GE2.out _ _ _ _⟩
set_option maxHeartbeats 2000000 in
set_option maxRecDepth 100000 in
theorem make25_ok (id : Int) (n : Nat) {lm li lb : List Int} {v1 v2 v3 : Value} (h1 : Rd ok w v1 lm) (h2 : Rd ok w v2 li) (h3 : Rd ok w v3 lb) (l1 : lm.length ≤ 300) (l2 : li.length ≤ 300) (l3 : lb.length ≤ 300) (hn : decide (id ∈ lm ∨ id ∈ li ∨ id ∈ lb) = false) (hf : lm.length + li.length + lb.length < n) :
    Calls Try.prog 25 #[.agg #[.int .i64 (n : Int), v1, v2, v3], .int .i64 id] w fun e w' => ∃ vs, e = .returned (.tuple #[vs, .int .i64 0]) ∧ Back ok w w' n vs ⟨lm ++ [id], li, lb⟩ := by
  obtain ⟨A1, c1, rfl, hc1, _⟩ := h1.reads
  obtain ⟨A2, c2, rfl, hc2, _⟩ := h2.reads
  obtain ⟨A3, c3, rfl, hc3, _⟩ := h3.reads
  have H1 := Aside0.mk (h1.mono (ok' := OkN ok w) (fun k _ h => .inl h))
  have H2 := Aside0.mk (h2.mono (ok' := OkN ok w) (fun k _ h => .inl h))
  have H3 := Aside0.mk (h3.mono (ok' := OkN ok w) (fun k _ h => .inl h))
  have L1 := Aside0.mk hc1
  have L2 := Aside0.mk hc2
  have L3 := Aside0.mk hc3
  clear h1 h2 h3 hc1 hc2 hc3
  have HIS := Aside0.mk (fun W (h1 : Rd (OkN ok w) W (.slice A1 lm.length c1) lm) (h2 : Rd (OkN ok w) W (.slice A2 li.length c2) li) (h3 : Rd (OkN ok w) W (.slice A3 lb.length c3) lb) => is33 (n : Int) id W h1.C L1.out h2.C L2.out h3.C L3.out (by omega) (by omega) (by omega))
  rw [hn] at HIS
  clear hn
  obtain ⟨l, hl⟩ : ∃ l : Nat, lm.length + li.length + lb.length = l := ⟨_, rfl⟩
  have HLN := Aside0.mk (fun W (h1 : Rd (OkN ok w) W (.slice A1 lm.length c1) lm) (h2 : Rd (OkN ok w) W (.slice A2 li.length c2) li) (h3 : Rd (OkN ok w) W (.slice A3 lb.length c3) lb) => len31 (n : Int) W h1.C L1.out h2.C L2.out h3.C L3.out l hl (by omega))
  rw [hl] at hf
  have hd1 : decide ((n : Int) ≤ (l : Int)) = false := decide_eq_false (by omega)
  have hd2 : decide (n ≤ l) = false := decide_eq_false (by omega)
  clear hf
  have HM := Aside0.mk (fun W (h : Rd (OkN ok w) W (.slice A1 lm.length c1) lm) => more16 id lm A1 c1 W h.C L1.out (by omega))
  generalize lm ++ [id] = lx at HM ⊢
  clear l1 l2 l3 hl
  go_enter Try.func25, Try.ntmps25
  go_upto_region 4 with (first
    | ((with_reducible refine gate_dst (N := 2) rfl ?_); refine box_event ?hg (N := 2) ?hd (cs := #[.int .i64 (n : Int), .slice A1 lm.length c1, .slice A2 li.length c2, .slice A3 lb.length c3]) (t := 44) ?hr ?_; (case hd => rfl); (case hg => rfl); (case hr => first | (go_simp; done) | (go_simp; rfl)); intro g1 hg w1 hbox hb; have BK1 := Aside0.mk (show B4 w1 g1 n _ _ _ from hbox); have HB1 := Aside0.mk hb; have GE1 := Aside0.mk (show w.heap.size ≤ g1 by rw [hg]; exact Nat.le_refl _); have h1_ := H1; have h2_ := H2; have h3_ := H3; clear H1 H2 H3; have R1a := Aside0.mk (h1_.out.below hb); have R2a := Aside0.mk (h2_.out.below hb); have R3a := Aside0.mk (h3_.out.below hb); clear h1_ h2_ h3_ hbox hb hg)
    | ((with_reducible refine gate_dst (N := 4) rfl ?_); refine box_event ?hg (N := 4) ?hd (cs := #[.int .i64 0, .slice none 0 0, .slice none 0 0, .slice none 0 0]) (t := 44) ?hr ?_; (case hd => rfl); (case hg => rfl); (case hr => first | (go_simp; done) | (go_simp; rfl)); intro g2 hg w2 hbox hb; have BK2a := Aside0.mk (show B4 w2 g2 0 _ _ _ from hbox); have BK1a := Aside0.mk (BK1.out.below hb); have HBa := Aside0.mk (below_step HB1.out hb); have GE2 := Aside0.mk (show w.heap.size ≤ g2 by rw [hg]; exact HB1.out.size); have NB := Aside0.mk (show g1 ≠ g2 by rw [hg]; exact Nat.ne_of_lt (blk_lt BK1.out)); have r1_ := R1a; have r2_ := R2a; have r3_ := R3a; clear R1a R2a R3a; have R1a := Aside0.mk (r1_.out.below hb); have R2a := Aside0.mk (r2_.out.below hb); have R3a := Aside0.mk (r3_.out.below hb); clear r1_ r2_ r3_ hbox hb hg; obtain ⟨ca0, ca1, ca2, ca3, fa0, fa1, fa2, fa3⟩ := BK1a.out.cells; obtain ⟨cb0, cb1, cb2, cb3, fb0, fb1, fb2, fb3⟩ := BK2a.out.cells; have nb := NB.out; have nc := NB.out.symm)
    | (go_at_call 33; (with_reducible refine (HIS.out _ R1a.out R2a.out R3a.out).mono ?_); rintro e wb ⟨rfl, hb⟩; have BK1b := Aside0.mk (B4.below BK1a.out hb); have BK2b := Aside0.mk (B4.below BK2a.out hb); have HBb := Aside0.mk (below_step HBa.out hb); have R1b := Aside0.mk (Rd.below R1a.out hb); have R2b := Aside0.mk (Rd.below R2a.out hb); have R3b := Aside0.mk (Rd.below R3a.out hb); clear hb; clear ca0 ca1 ca2 ca3 fa0 fa1 fa2 fa3 cb0 cb1 cb2 cb3 fb0 fb1 fb2 fb3 nb nc; obtain ⟨ca0, ca1, ca2, ca3, fa0, fa1, fa2, fa3⟩ := BK1b.out.cells; obtain ⟨cb0, cb1, cb2, cb3, fb0, fb1, fb2, fb3⟩ := BK2b.out.cells; have nb := NB.out; have nc := NB.out.symm))
  have hg1 : g1 < wb.heap.size := blk_lt BK1b.out
  refine start_ (n := 5) (S := fun w' => w'.cell? ⟨g1, 0, none⟩ = some (.int .i64 (n : Int)) ∧ w'.cell? ⟨g1, 1, none⟩ = some (.slice A1 lm.length c1) ∧ w'.cell? ⟨g1, 2, none⟩ = some (.slice A2 li.length c2) ∧ w'.cell? ⟨g1, 3, none⟩ = some (.slice A3 lb.length c3)) (ds := []) #[false, false, false, false, false] (by kernel_rfl) rfl rfl ⟨ca0, ca1, ca2, ca3⟩ (fun hHeld => ?_); refine with_tab rmake.tab4 (fun HT_ => ?_)
  refine pure_ (i := 2) (N := some 14) (v := ?_) (a' := ?_) #[false, false, true, false, false] rfl rfl (any_of HT_.out (by kernel_rfl)) (fun _ _ _ h => h) (Or.inl ⟨by rfl, ?_⟩) ?_ ?_
  rotate_left
  · intro w'
    go_simp
    with_reducible rfl
  rotate_left
  · simp only [Act.put, List.setIfInBounds_toArray, List.set_cons_zero, List.set_cons_succ, i64_w, i32_w]
    rfl
  refine take_ (i := 0) (N := some 12) (v := ?_) (a' := ?_) #[true, false, true, false, false] rfl rfl (take_of HT_.out (by kernel_rfl)) (fun _ _ _ h => h) (Or.inl ⟨by rfl, ?_⟩) hHeld ?_ ?_
  rotate_left
  · intro w' hS_
    obtain ⟨s0, s1, s2, s3⟩ := hS_
    go_simp
    with_reducible rfl
  rotate_left
  · simp only [Act.put, List.setIfInBounds_toArray, List.set_cons_zero, List.set_cons_succ, i64_w, i32_w]
    rfl
  refine take_ (i := 3) (N := some 15) (v := ?_) (a' := ?_) #[true, false, true, true, false] rfl rfl (take_of HT_.out (by kernel_rfl)) (fun _ _ _ h => h) (Or.inl ⟨by rfl, ?_⟩) hHeld ?_ ?_
  rotate_left
  · intro w' hS_
    obtain ⟨s0, s1, s2, s3⟩ := hS_
    go_simp
    with_reducible rfl
  rotate_left
  · simp only [Act.put, List.setIfInBounds_toArray, List.set_cons_zero, List.set_cons_succ, i64_w, i32_w]
    rfl
  refine one_ (i := 1) (N := some 13) #[true, true, true, true, false] rfl rfl (one_of HT_.out (by kernel_rfl)) (by decide) (fun K hK => ?_)
  refine goes_ Try.func31 (by kernel_rfl) rfl #[.agg #[.int .i64 (n : Int), .slice A1 lm.length c1, .slice A2 li.length c2, .slice A3 lb.length c3]] (by rfl) rfl rfl (by (try simp only [List.map_toArray, List.map_cons, List.map_nil]); first | done | rfl) ?_
  refine (HLN.out _ (R1b.out.below (below_drew1 (Below.refl _ wb))) (R2b.out.below (below_drew1 (Below.refl _ wb))) (R3b.out.below (below_drew1 (Below.refl _ wb)))).mono ?_
  rintro e wc ⟨rfl, hb_⟩
  have HBq := Aside0.mk (below_step (below_drew1 (Below.refl _ wb)) hb_)
  have hsw : (fun w' => w'.cell? ⟨g1, 0, none⟩ = some (.int .i64 (n : Int)) ∧ w'.cell? ⟨g1, 1, none⟩ = some (.slice A1 lm.length c1) ∧ w'.cell? ⟨g1, 2, none⟩ = some (.slice A2 li.length c2) ∧ w'.cell? ⟨g1, 3, none⟩ = some (.slice A3 lb.length c3)) wc := by
    have h_ := HBq.out
    exact ⟨(h_.cell (p := ⟨g1, 0, none⟩) hg1).trans ca0, (h_.cell (p := ⟨g1, 1, none⟩) hg1).trans ca1, (h_.cell (p := ⟨g1, 2, none⟩) hg1).trans ca2, (h_.cell (p := ⟨g1, 3, none⟩) hg1).trans ca3⟩
  refine ⟨_, rfl, ?_⟩
  refine hK.out _ _ hsw (fun hHeld => ?_)
  clear hK K
  refine norm_ (a' := ?_) ?_ ?_
  rotate_left
  · show Act.put _ (some 13) _ = _
    simp only [Act.put, List.setIfInBounds_toArray, List.set_cons_zero, List.set_cons_succ, i64_w, i32_w]
    rfl
  refine pure_ (i := 4) (N := some 16) (v := ?_) (a' := ?_) #[true, true, true, true, true] rfl rfl (any_of HT_.out (by kernel_rfl)) (fun _ _ _ h => h) (Or.inl ⟨by rfl, ?_⟩) ?_ ?_
  rotate_left
  · intro w'
    go_simp
    with_reducible rfl
  rotate_left
  · simp only [Act.put, List.setIfInBounds_toArray, List.set_cons_zero, List.set_cons_succ, i64_w, i32_w]
    rfl
  refine done_ (done_of HT_.out (by kernel_rfl)) ?_
  clear hHeld ca0 ca1 ca2 ca3 fa0 fa1 fa2 fa3 cb0 cb1 cb2 cb3 fb0 fb1 fb2 fb3 nb nc
  have BK1c := Aside0.mk (BK1b.out.below HBq.out)
  have BK2c := Aside0.mk (BK2b.out.below HBq.out)
  have HBc := Aside0.mk (HBb.out.trans (HBq.out.mono HBb.out.size))
  have R1c := Aside0.mk (R1b.out.below HBq.out)
  have R2c := Aside0.mk (R2b.out.below HBq.out)
  have R3c := Aside0.mk (R3b.out.below HBq.out)
  obtain ⟨ca0, ca1, ca2, ca3, fa0, fa1, fa2, fa3⟩ := BK1c.out.cells
  obtain ⟨cb0, cb1, cb2, cb3, fb0, fb1, fb2, fb3⟩ := BK2c.out.cells
  have nb := NB.out
  have nc := NB.out.symm
  go_wp2_with (first
    | (go_at_call 45; (with_reducible refine (HM.out _ R1c.out).mono ?_); rintro e wd ⟨v_, rfl, hR, hb⟩; have BK1d := Aside0.mk (B4.below BK1c.out hb); have BK2d := Aside0.mk (B4.below BK2c.out hb); have HBd := Aside0.mk (below_step HBc.out hb); have R1d := Aside0.mk (Rd.below R1c.out hb); have R2d := Aside0.mk (Rd.below R2c.out hb); have R3d := Aside0.mk (Rd.below R3c.out hb); have RNd := Aside0.mk (Rd.of_R (ok := OkN ok w) hR (fun k hk => .inr (Nat.le_trans HBc.out.size hk))); obtain ⟨A4, n4, rfl⟩ := Kd.R_slice hR; clear hR; clear hb; clear ca0 ca1 ca2 ca3 fa0 fa1 fa2 fa3 cb0 cb1 cb2 cb3 fb0 fb1 fb2 fb3 nb nc; obtain ⟨ca0, ca1, ca2, ca3, fa0, fa1, fa2, fa3⟩ := BK1d.out.cells; obtain ⟨cb0, cb1, cb2, cb3, fb0, fb1, fb2, fb3⟩ := BK2d.out.cells; have nb := NB.out; have nc := NB.out.symm))
  refine bodyPost_ret (results_ct rfl _ _ g2 44 #[.int .i64 (n : Int), .slice A4 lx.length n4, .slice A2 li.length c2, .slice A3 lb.length c3] (0, 0) _ rfl (B4.all (BK2d.out.far NB.out.symm _) n _ _ _) Try.underlying44 rfl (by kernel_rfl)) rfl ?_
  exact ⟨_, rfl, _, _, _, rfl, Rd.putAll (RNd.out.put BK1d.out _) (BK2d.out.far NB.out.symm _) n _ _ _, Rd.putAll (R2d.out.put BK1d.out _) (BK2d.out.far NB.out.symm _) n _ _ _, Rd.putAll (R3d.out.put BK1d.out _) (BK2d.out.far NB.out.symm _) n _ _ _, below_all (below_set HBd.out GE1.out) GE2.out _ _ _ _⟩
variable {n : Nat} {r : Rp} {v1 v2 v3 : Value}
/-- What a state of the reference may weigh. -/
def Small (r : Rp) : Prop := r.m.length ≤ 300 ∧ r.i.length ≤ 300 ∧ r.b.length ≤ 300
theorem ref_make (id : Int) (hs : Small r) (h1 : Rd ok w v1 r.m) (h2 : Rd ok w v2 r.i) (h3 : Rd ok w v3 r.b) :
    Calls Try.prog 25 #[.agg #[.int .i64 (n : Int), v1, v2, v3], .int .i64 id] w fun e w' => ∃ vs, e = .returned (.tuple #[vs, .int .i64 (rMake n r id).1]) ∧ Back ok w w' n vs (rMake n r id).2 := by
  unfold rMake
  by_cases hc : id ∈ r.m ∨ id ∈ r.i ∨ id ∈ r.b
  · rw [if_pos hc]
    exact make25_there id n h1 h2 h3 hs.1 hs.2.1 hs.2.2 (decide_eq_true hc)
  · rw [if_neg hc]
    by_cases hf : r.m.length + r.i.length + r.b.length < n
    · rw [if_pos hf]
      exact make25_ok id n h1 h2 h3 hs.1 hs.2.1 hs.2.2 (decide_eq_false hc) hf
    · rw [if_neg hf]
      exact make25_full id n h1 h2 h3 hs.1 hs.2.1 hs.2.2 (decide_eq_false hc) hf
theorem ref_ready (id : Int) (hs : Small r) (h1 : Rd ok w v1 r.m) (h2 : Rd ok w v2 r.i) (h3 : Rd ok w v3 r.b) :
    Calls Try.prog 26 #[.agg #[.int .i64 (n : Int), v1, v2, v3], .int .i64 id] w fun e w' => ∃ vs, e = .returned (.tuple #[vs, .bool (rReady r id).1]) ∧ Back ok w w' n vs (rReady r id).2 := by
  unfold rReady
  by_cases hc : id ∈ r.m
  · rw [if_pos hc]
    exact ready26_yes id n h1 h2 h3 hs.1 hs.2.1 hs.2.2 hc
  · rw [if_neg hc]
    exact ready26_no id n h1 h2 h3 hs.1 hs.2.1 hs.2.2 hc
theorem ref_give (id : Int) (hs : Small r) (h1 : Rd ok w v1 r.m) (h2 : Rd ok w v2 r.i) (h3 : Rd ok w v3 r.b) :
    Calls Try.prog 28 #[.agg #[.int .i64 (n : Int), v1, v2, v3], .int .i64 id] w fun e w' => ∃ vs, e = .returned (.tuple #[vs, .bool (rGive r id).1]) ∧ Back ok w w' n vs (rGive r id).2 := by
  unfold rGive
  by_cases hc : id ∈ r.b
  · rw [if_pos hc]
    exact give28_yes id n h1 h2 h3 hs.1 hs.2.1 hs.2.2 hc
  · rw [if_neg hc]
    exact give28_no id n h1 h2 h3 hs.1 hs.2.1 hs.2.2 hc
theorem ref_drop (id : Int) (hs : Small r) (h1 : Rd ok w v1 r.m) (h2 : Rd ok w v2 r.i) (h3 : Rd ok w v3 r.b) :
    Calls Try.prog 29 #[.agg #[.int .i64 (n : Int), v1, v2, v3], .int .i64 id] w fun e w' => ∃ vs, e = .returned (.tuple #[vs, .bool (rDrop r id).1]) ∧ Back ok w w' n vs (rDrop r id).2 := by
  unfold rDrop
  by_cases hc : id ∈ r.m ∨ id ∈ r.i ∨ id ∈ r.b
  · rw [decide_eq_true hc]
    exact drop29_true id n h1 h2 h3 hs.1 hs.2.1 hs.2.2 (decide_eq_true hc)
  · rw [decide_eq_false hc]
    exact drop29_false id n h1 h2 h3 hs.1 hs.2.1 hs.2.2 (decide_eq_false hc)
theorem ref_take (hs : Small r) (h1 : Rd ok w v1 r.m) (h2 : Rd ok w v2 r.i) (h3 : Rd ok w v3 r.b) :
    Calls Try.prog 27 #[.agg #[.int .i64 (n : Int), v1, v2, v3]] w fun e w' => ∃ vs, e = .returned (.tuple #[vs, .int .i64 (rTake r).1, .bool (rTake r).2.1]) ∧ Back ok w w' n vs (rTake r).2.2 := by
  unfold rTake
  cases hl : r.i.getLast? with
  | none => exact take27_none n h1 h2 h3 hs.1 hs.2.1 hs.2.2 (by simpa using hl)
  | some id =>
    obtain ⟨l, hl2⟩ := List.getLast?_eq_some_iff.1 hl
    exact take27_some id l n h1 h2 h3 hs.1 hs.2.1 hs.2.2 hl2
end Go.Proofs.Yteagjolmikbllaa.Ob
