/-
  Contracts of functions, proved by walking them, and plain facts, several texts in one. Conditions: none.
-/
import Derived.Test.YtmlmiocomlehgaaGreatV4
set_option linter.unusedVariables false
set_option linter.unusedSimpArgs false
set_option linter.unusedSectionVars false
set_option maxHeartbeats 16000000
set_option maxRecDepth 100000
section
namespace Go.Proofs.YtmlmiocomlehgaaGreat.Man
open Go.RowKit Go.Proofs.YtmlmiocomlehgaaGreatW.PrintWords Go.Proofs.YtmlmiocomlehgaaGreatW.PrintLast Go.Proofs.YtmlmiocomlehgaaGreatW.PrintMore Go.Proofs.YtmlmiocomlehgaaGreat.PA Go.Proofs.YtmlmiocomlehgaaGreat.PR Go.Proofs.YtmlmiocomlehgaaGreat.PF Go.Proofs.YtmlmiocomlehgaaGreat.Na Go.Proofs.YtmlmiocomlehgaaGreat.Hid
section
theorem add0 (a : Addr) : a.add 0 = a := by
 unfold Addr.add
 split
 ·rfl
 ·rename_i h
  exact absurd rfl h
theorem FR.atW0 {b : Nat → Prop} {n c : Nat} {W : World} {r : RF} {e g v0 v1 v2 v4 v5 : Value} {ad : Addr} {x : ByteArray} (h : FR b W (.agg #[e, g, v0, v1, v2, .slice (some ad) n c, v4, v5]) r) (hk : r.d.w[0]? = some x) : W.cell? ad = some (.string x) := by
 have := h.atW hk
 rwa [add0] at this
theorem Rd.up {α : Type} {enc : α → Value} {h1 : ∀ x, (enc x).oneCell' = true} {e : Nat} {b b' : Nat → Prop} {W : World} {v : Value} {xs : List α} (h : Rd enc h1 e b W v xs) (hb : ∀ k, b k → k < W.heap.size → b' k) : Rd enc h1 e b' W v xs := by
 obtain ⟨A, c, hv, hc, hC, hA⟩ := h
 refine ⟨A, c, hv, hc, hC, fun ad he => ?_⟩
 obtain ⟨h2, cells, h3⟩ := hA ad he
 exact ⟨hb _ h2 (z70 h3), cells, h3⟩
abbrev Not (b : Nat → Prop) (v : Value) : Nat → Prop := fun k => b k ∧ some k ≠ v.ownBlock
theorem Rd.grow {α : Type} {enc : α → Value} {h1 : ∀ x, (enc x).oneCell' = true} {e : Nat} {b : Nat → Prop} {W W1 : World} {v u u1 : Value} {xs : List α} (h : Rd enc h1 e (Not b u) W v xs) (hg : W.grownBy W1 u.ownBlock) (hat : u1.ownBlock = u.ownBlock ∨ ∃ q, u1.ownBlock = some q ∧ W.heap.size ≤ q) : Rd enc h1 e (Not b u1) W1 v xs := by
 have h2 : Rd enc h1 e (Not b u1) W v xs := h.up (fun k hk hlt => ⟨hk.1, by
  rcases hat with e1 | ⟨q, e1, hq⟩
  ·rw [e1]
   exact hk.2
  ·rw [e1]
   intro e2
   injection e2 with e2
   omega⟩)
 obtain ⟨A, c, rfl, hc, hC, hA⟩ := h
 obtain ⟨A2, c2, hv2, hc2, hC2, hA2⟩ := h2
 injection hv2 with e1 _ e3
 subst e1 e3
 have h3 : Rd enc h1 e (Not b u) W (.slice A xs.length c) xs := ⟨A, c, rfl, hc, hC, hA⟩
 obtain ⟨A4, c4, hv4, hc4, hC4, hA4⟩ := h3.step (W1 := W1) (fun k cells hk hb => hg.block k (z70 hk) hb.2)
 injection hv4 with e1 _ e3
 subst e1 e3
 exact ⟨A, c, rfl, hc, hC4, fun ad he => ⟨(hA2 ad he).1, (hA4 ad he).2⟩⟩
theorem FR.grow {b : Nat → Prop} {W W1 : World} {vs u u1 : Value} {r : RF} (h : FR (Not b u) W vs r) (hg : W.grownBy W1 u.ownBlock) (hat : u1.ownBlock = u.ownBlock ∨ ∃ q, u1.ownBlock = some q ∧ W.heap.size ≤ q) : FR (Not b u1) W1 vs r := by
 obtain ⟨v0, v1, v2, v3, v4, v5, e, h0, h1, h2, h3, h4, h5⟩ := h
 exact ⟨v0, v1, v2, v3, v4, v5, e, h0.grow hg hat, h1.grow hg hat, h2.grow hg hat, h3.grow hg hat, h4.grow hg hat, h5.grow hg hat⟩
theorem zpb {α : Type} {d : Kd α} {e base n : Nat} {ok b : Nat → Prop} {W : World} {v : Value} {xs : List α} (h : FrB b n) (hn : n ≤ W.heap.size) (hR : d.R e W base ok v xs) : FrB (Not b v) W.heap.size := fun k hk => ⟨h k (Nat.le_trans hn hk), fun e1 => by
 have := Kd.R_lt hR k e1.symm
 omega⟩
theorem zk6 {nm : ByteArray} (h : nameB nm = true) : nm.size ≤ 100 := by
 unfold nameB at h
 simp only [Bool.and_eq_true, decide_eq_true_eq] at h
 omega
theorem z2b {d : DS} {b : Nat} (h : DOk d b) {nm : ByteArray} (hn : nameB nm = true) (hw : nm ∈ namesOf d.row false) (dl : Int) : (beginF (endF d nm) nm dl).2 = (beginF d nm dl).2 := by
 obtain ⟨_, h2, _⟩ := zs2 h nm
 have hp : ¬ placeOf d.row nm 0 < 0 := fun e => (zb1 nm d.row 0 (by omega)).1 e ((zi2 d.row nm).2 (.inl hw))
 have hu : (rd_T110 d.row (placeOf d.row nm 0)).f2 = false := by
  rw [zn8 h.inv nm hp]
  exact z14 _ _ (zz4 h.inv nm hw)
 unfold beginF
 rw [if_pos hn, if_pos ((zb1 nm _ 0 (by omega)).2 h2), if_pos hn, if_neg hp, hu, if_neg (by decide)]
 rfl
theorem GB.admit {s : FS} {n : Nat} (h : GB s n) (hn7 : n ≤ 700000) {nm : ByteArray} {l : List ByteArray} (hw : namesOf s.ds.row false = nm :: l) (hm : mayS s nm = true) (dl : Int) :
  GB (admit1 s nm dl) n ∧ ∃ (i : Nat) (x : HV), posH s.hs nm = (i : Int) ∧ s.hs[i]? = some x ∧ x.nm = nm ∧ beginR nm dl (putR i (nextS x.st 0) x.lv (toR s)) = toR (admit1 s nm dl) ∧ namesOf (admit1 s nm dl).ds.row false = l := by
 obtain ⟨i, x, hp, hx, rfl⟩ := z07 hm
 obtain ⟨h1, h2, h3⟩ := z86 h.ok hw dl
 have hgn := h.gn x (List.mem_of_getElem? hx)
 have hA : admit1 s x.nm dl = { s with hs := s.hs.set i ⟨x.nm, nextS x.st 0, x.lv⟩, ds := (beginF (endF s.ds x.nm) x.nm dl).2 } := by
  unfold admit1
  rw [zo1 hp hx]
  simp only [z91 hp]
  rfl
 rw [hA] at h1 h2 h3 ⊢
 refine ⟨h.turn (Nat.le_refl _) (h1.mono (Nat.le_trans h2 h.ok.inv.2.1)) hx _ _, i, x, hp, hx, rfl, ?_, h3⟩
 rw [zc2 hx, (zr3 (s := { s with hs := s.hs.set i ⟨x.nm, nextS x.st 0, x.lv⟩ }) (b := s.ds.row.length) ⟨h.ok.inv.1, Nat.le_refl _, h.ok.inv.2.2⟩ (by have := h.ok.inv.2.1; omega) x.nm dl).1, z2b h.ok hgn (by rw [hw]; simp) dl]
def rw28.T9 : Bool × List (List Nat × List Nat) := (true, [([], []), ([], []), ([], []), ([], []), ([3], [3]), ([], []), ([4, 5], [4, 5]), ([6], [6]), ([0, 1, 2, 7], [0, 1, 2, 7]), ([], []), ([], []), ([8, 9, 10, 8], [8, 9, 10]), ([11, 11, 0, 1, 2, 3, 4, 5, 6, 7, 8, 9, 10, 11], [11])])
theorem rw28.tab9 : rtab .any (opsOf Tryz.f28 9) = rw28.T9 := by kernel_rfl
section
variable {b : Nat → Prop} {w : World}
theorem radmit_s {s : FS} {n : Nat} (hG : GB s n) (hn : n ≤ 700000) (dl : Int) {vs : Value} (h : FR b w vs (toR s)) (hb : FrB b w.heap.size) :
  Calls Tryz.prog 28 #[vs, .int .i64 dl] w fun e w' => ∃ vs' v' : Value, e = .returned (.tuple #[vs', v']) ∧ FR b w' vs' (toR (admitF s dl).2) ∧ Kd.R Kd.string 9 w' w.heap.size (fun _ => True) v' (admitF s dl).1 ∧ Below w.heap.size w w' := by
 obtain ⟨RES, hres⟩ : ∃ R, R = admitL dl (namesOf s.ds.row false) s := ⟨_, rfl⟩
 unfold admitF
 rw [← hres]
 have HRES : Aside0 (∃ r, admitL dl (namesOf s.ds.row false) s = (RES.1, r) ∧ RES.2 = [] ++ r) := ⟨⟨RES.2, by rw [← hres], rfl⟩⟩
 have hwl : (namesOf s.ds.row false).length ≤ 16 := hG.ok.inv.2.2
 have HG0 := as0 hG
 obtain ⟨r0, hr0⟩ : ∃ q, q = toR s := ⟨_, rfl⟩
 rw [← hr0] at h
 have HR0 := as0 hr0
 clear hG hres hr0
 have HB_0 : Aside0 (Below w.heap.size w w) := ⟨Below.refl _ _⟩
 obtain ⟨Aa0, ca0, Aa1, ca1, Aa2, ca2, Aa3, ca3, Aa4, ca4, Aa5, ca5, rfl⟩ := h.form
 have Fa_0 := as0 h
 have HBB := as0 hb
 clear h hb
 go_enter Tryz.func28, Tryz.ntmps28
 go_wp2_with (first
  | ((with_reducible refine bx (N := 2) (cs := #[.int .i64 r0.each, .int .i64 r0.guard, .slice Aa0 r0.N.length ca0, .slice Aa1 r0.S.length ca1, .slice Aa2 r0.L.length ca2, .slice Aa3 r0.d.w.length ca3, .slice Aa4 r0.d.u.length ca4, .slice Aa5 r0.d.a.length ca5]) (t := 33) rfl rfl ?hr ?_); (case hr => first | (go_simp; done) | (go_simp; rfl)); intro ga hg w1 hbox hb; have Fa_1 := as0 (Fa_0.out.below hb); have HB_1 := as0 (z10 HB_0.out hb); have Ba_1 := as0 hbox; have GE_a := as0 (show w.heap.size ≤ ga by rw [hg]; exact HB_0.out.size); clear hbox hb hg; have ya := za0 Ba_1.out)
  | ((with_reducible refine bx (N := 4) (cs := #[.int .i64 0, .int .i64 0, .slice none 0 0, .slice none 0 0, .slice none 0 0, .slice none 0 0, .slice none 0 0, .slice none 0 0]) (t := 33) rfl rfl ?hr ?_); (case hr => first | (go_simp; done) | (go_simp; rfl)); intro gz hg w2 hbox hb; have Ba_2 := as0 (z20 Ba_1.out hb); have Fa_2 := as0 (Fa_1.out.below hb); have HB_2 := as0 (z10 HB_1.out hb); have Bz_2 := as0 hbox; have GE_z := as0 (show w.heap.size ≤ gz by rw [hg]; exact HB_1.out.size); have NE_az := as0 (show ga ≠ gz by rw [hg]; exact Nat.ne_of_lt (z70 Ba_1.out)); clear hbox hb hg; clear ya; have ya := za0 Ba_2.out))
 clear ya
 go_loopg [6] 17 (fun gf v6 wr => ∃ (vO : Value) (s1 : FS) (r1 : RF) (cs : Array Value) (acc : List ByteArray), vO = v6 ∧ Aside0 (r1 = toR s1) ∧ Aside0 (∃ r, admitL dl (namesOf s1.ds.row false) s1 = (RES.1, r) ∧ RES.2 = acc ++ r) ∧ (namesOf s1.ds.row false).length < gf ∧ acc.length + gf ≤ 17 ∧ Aside0 (GB s1 n) ∧ Aside0 (wr.heap[ga]? = some (.cells cs 33 (0, 0))) ∧ Aside0 (wr.heap[gz]? = some (.cells #[.int .i64 0, .int .i64 0, .slice none 0 0, .slice none 0 0, .slice none 0 0, .slice none 0 0, .slice none 0 0, .slice none 0 0] 33 (0, 0))) ∧ Aside0 (FR (Not b v6) wr (.agg cs) r1) ∧ Aside0 (Below w.heap.size w wr) ∧ Aside0 (Kd.R Kd.string 9 wr w.heap.size (fun _ => True) v6 acc))
 case atStart => exact ⟨_, s, r0, _, [], rfl, HR0, HRES, by omega, by simp, HG0, Ba_2, Bz_2, ⟨Fa_2.out.lower (fun k hk => ⟨hk, by simp [Value.ownBlock]⟩)⟩, HB_2, ⟨Kd.R_nil _ _ _ _ _⟩⟩
 case round =>
  obtain ⟨vO, s1, r1, cs, acc, rfl, HR1, HR, hgf, hacc, HG1, Ba_5, Bz_5, Fa_5, HB_5, RO_5⟩ := hrel
  obtain ⟨Aa0, ca0, Aa1, ca1, Aa2, ca2, Aa3, ca3, Aa4, ca4, Aa5, ca5, hcs⟩ := Fa_5.out.form
  injection hcs with hcs
  subst hcs
  obtain ⟨bp, hbp⟩ : ∃ q : Nat → Prop, q = Not b vO := ⟨_, rfl⟩
  rw [← hbp] at Fa_5
  have HBP := as0 (fun (W : World) (hsz : w.heap.size ≤ W.heap.size) (hR : Kd.R Kd.string 9 W w.heap.size (fun _ => True) vO acc) => show FrB bp W.heap.size by rw [hbp]; exact zpb HBB.out hsz hR)
  have HBPE := as0 hbp
  clear hbp
  have hN : r1.d.w = namesOf s1.ds.row false := by rw [HR1.out]; rfl
  have HRB : Aside0 (RB r1 n) := ⟨by rw [HR1.out]; exact HG1.out.rb⟩
  have hstop : (∀ nm l, namesOf s1.ds.row false = nm :: l → mayS s1 nm = false) → s1 = RES.1 ∧ RES.2 = acc := by
   intro hno
   obtain ⟨r, h1, h2⟩ := HR.out
   have h3 : admitL dl (namesOf s1.ds.row false) s1 = (s1, []) := by
    cases hw : namesOf s1.ds.row false with
    | nil => rfl
    | cons nm l => unfold admitL; rw [hno nm l hw, if_neg (by decide)]
   rw [h3] at h1
   obtain ⟨h4, h5⟩ := Prod.mk.inj h1
   rw [← h5] at h2
   exact ⟨h4, by simpa using h2⟩
  cases hw : namesOf s1.ds.row false with
  | nil =>
   obtain ⟨hs1, hs2⟩ := hstop (fun nm l h => by rw [hw] at h; cases h)
   have HE1 := as0 hs1
   have HE2 := as0 hs2
   have hlw : ¬ (0 : Int) < (r1.d.w.length : Int) := by rw [hN, hw]; simp
   clear hs1 hs2 hstop hN hw hgf hacc HR
   have ya := za0 Ba_5.out
   go_wp2_with (first
  | (have yz := za0 Bz_5.out; (with_reducible refine sx (W := wr) (t := 33) (p := 4) (w1 := set8 wr gz (.int .i64 r1.each) (.int .i64 r1.guard) (.slice Aa0 r1.N.length ca0) (.slice Aa1 r1.S.length ca1) (.slice Aa2 r1.L.length ca2) (.slice Aa3 r1.d.w.length ca3) (.slice Aa4 r1.d.u.length ca4) (.slice Aa5 r1.d.a.length ca5)) rfl rfl rfl ?hr ?_); (case hr => first | (go_simp; done) | (go_simp; rfl)); intro w6 hw_; have Ba_6 := as0 (zg0 z30 hw_ NE_az.out Ba_5.out); have Bz_6 := as0 (zu0 (zi0 Bz_5.out) hw_); have Fa_6 := as0 (zk0 z30 hw_ Fa_5.out Bz_5.out (by decide)); have RO_6 : Aside0 (Kd.R Kd.string 9 w6 w.heap.size (fun _ => True) vO acc) := ⟨by rw [hw_]; exact Kd.R_mv RO_5.out Bz_5.out (zx0 (by decide)) (fun k hk => z30 hk)⟩; have HB_6 := as0 (zf0 (zb0 HB_5.out GE_z.out) hw_); clear hw_ yz; clear ya; have ya := za0 Ba_6.out; (repeat (first | go_values | go_skip | go_guarded | go_step | go_upon | go_in)); refine bodyPost_ret (zn0 (p := 4) rfl _ _ gz 33 _ (0, 0) _ rfl Bz_6.out Tryz.underlying33 rfl (by kernel_rfl)) rfl ?_; have hF := Fa_6.out; rw [HBPE.out] at hF; exact ⟨_, _, rfl, (by show FR b _ _ (toR RES.1); rw [← HE1.out, ← HR1.out]; exact hF.lower (fun _ h => h.1)), (by show Kd.R _ _ _ _ _ _ RES.2; rw [HE2.out]; exact RO_6.out), HB_6.out⟩))
  | cons nm l =>
   have hw0 : r1.d.w[0]? = some nm := by rw [hN, hw]; rfl
   have HW := as0 hw0
   have hlw : (0 : Int) < (r1.d.w.length : Int) := by rw [hN, hw, List.length_cons]; omega
   have HMY := as0 (fun (W : World) (vs : Value) (h : FR bp W vs r1) => z06 nm r1 h (by have := HRB.out.s; have := HRB.out.m; omega) HRB.out.s.symm (by rw [HR1.out]; exact HG1.out.e))
   have hmy : mayI r1.S (idxOf r1.N nm 0) r1.each r1.guard = mayS s1 nm := by rw [HR1.out, HG1.out.at]; rfl
   rw [hmy] at HMY
   clear hmy hw0
   obtain ⟨adWa, hA_, -⟩ := Fa_5.out.adW HW.out
   subst hA_
   cases hm : mayS s1 nm with
   | false =>
    rw [hm] at HMY
    obtain ⟨hs1, hs2⟩ := hstop (fun nm' l' h => by rw [hw] at h; injection h with h _; rw [← h]; exact hm)
    have HE1 := as0 hs1
    have HE2 := as0 hs2
    clear hs1 hs2 hstop hN hw hgf hacc HR hm
    have ya := za0 Ba_5.out
    have xw := Fa_5.out.atW HW.out
    have xv := Fa_5.out.atW0 HW.out
    go_wp2_with (first
  | (go_at_call 68; (with_reducible refine (HMY.out _ _ Fa_5.out).mono ?_); rintro e w6 ⟨rfl, hb⟩; have Ba_6 := as0 (z20 Ba_5.out hb); have Bz_6 := as0 (z20 Bz_5.out hb); have Fa_6 := as0 (Fa_5.out.below hb); have RO_6 := as0 (Kd.R_below RO_5.out hb); have HB_6 := as0 (z10 HB_5.out hb); clear hb; clear ya xw xv; have ya := za0 Ba_6.out; have xw := Fa_6.out.atW HW.out; have xv := Fa_6.out.atW0 HW.out)
  | (have yz := za0 Bz_6.out; (with_reducible refine sx (W := w6) (t := 33) (p := 4) (w1 := set8 w6 gz (.int .i64 r1.each) (.int .i64 r1.guard) (.slice Aa0 r1.N.length ca0) (.slice Aa1 r1.S.length ca1) (.slice Aa2 r1.L.length ca2) (.slice (some adWa) r1.d.w.length ca3) (.slice Aa4 r1.d.u.length ca4) (.slice Aa5 r1.d.a.length ca5)) rfl rfl rfl ?hr ?_); (case hr => first | (go_simp; done) | (go_simp; rfl)); intro w7 hw_; have Ba_7 := as0 (zg0 z30 hw_ NE_az.out Ba_6.out); have Bz_7 := as0 (zu0 (zi0 Bz_6.out) hw_); have Fa_7 := as0 (zk0 z30 hw_ Fa_6.out Bz_6.out (by decide)); have RO_7 : Aside0 (Kd.R Kd.string 9 w7 w.heap.size (fun _ => True) vO acc) := ⟨by rw [hw_]; exact Kd.R_mv RO_6.out Bz_6.out (zx0 (by decide)) (fun k hk => z30 hk)⟩; have HB_7 := as0 (zf0 (zb0 HB_6.out GE_z.out) hw_); clear hw_ yz; clear ya xw xv; have ya := za0 Ba_7.out; have xw := Fa_7.out.atW HW.out; have xv := Fa_7.out.atW0 HW.out; (repeat (first | go_values | go_skip | go_guarded | go_step | go_upon | go_in)); refine bodyPost_ret (zn0 (p := 4) rfl _ _ gz 33 _ (0, 0) _ rfl Bz_7.out Tryz.underlying33 rfl (by kernel_rfl)) rfl ?_; have hF := Fa_7.out; rw [HBPE.out] at hF; exact ⟨_, _, rfl, (by show FR b _ _ (toR RES.1); rw [← HE1.out, ← HR1.out]; exact hF.lower (fun _ h => h.1)), (by show Kd.R _ _ _ _ _ _ RES.2; rw [HE2.out]; exact RO_7.out), HB_7.out⟩))
   | true =>
    rw [hm] at HMY
    obtain ⟨hG2, i, x, hp, hx, hxn, hr3, hwl2⟩ := HG1.out.admit hn hw hm dl
    have hxs : r1.S[i]? = some x.st := by rw [HR1.out]; exact (z63 hx).2.1
    have hxl : r1.L[i]? = some x.lv := by rw [HR1.out]; exact (z63 hx).2.2.1
    have hil : i < r1.N.length := by rw [HR1.out]; exact (z63 hx).2.2.2
    have hii : idxOf r1.N nm 0 = (i : Int) := by rw [HR1.out, HG1.out.at]; exact hp
    rw [← HR1.out] at hr3
    have hgn : nameB nm = true := by rw [← hxn]; exact HG1.out.gn x (List.mem_of_getElem? hx)
    have hsz := zk6 hgn
    obtain ⟨r2, hr2⟩ : ∃ q, q = putR i (nextS x.st 0) x.lv r1 := ⟨_, rfl⟩
    obtain ⟨r3, hr3e⟩ : ∃ q, q = toR (admit1 s1 nm dl) := ⟨_, rfl⟩
    rw [← hr2, ← hr3e] at hr3
    have HR3 := as0 hr3e
    have hB2 : RB r2 n := by rw [hr2]; exact HRB.out.put _ _ _
    have HR2 : Aside0 (∃ r, admitL dl (namesOf (admit1 s1 nm dl).ds.row false) (admit1 s1 nm dl) = (RES.1, r) ∧ RES.2 = (acc ++ [nm]) ++ r) := ⟨by
     obtain ⟨r, h1, h2⟩ := HR.out
     rw [hw] at h1
     unfold admitL at h1
     rw [hm, if_pos rfl] at h1
     obtain ⟨h4, h5⟩ := Prod.mk.inj h1
     rw [hwl2]
     refine ⟨(admitL dl l (admit1 s1 nm dl)).2, by rw [← h4], ?_⟩
     rw [h2, ← h5]
     simp⟩
    obtain ⟨ns, hns⟩ : ∃ q, q = nextS x.st 0 := ⟨_, rfl⟩
    rw [← hns] at hr2
    have HN := as0 (fun (W : World) => zu1 x.st 0 W)
    rw [← hns] at HN
    generalize nextB x.st 0 = nb at HN
    obtain ⟨st, hst⟩ : ∃ q, q = x.st := ⟨_, rfl⟩
    obtain ⟨lv, hlv⟩ : ∃ q, q = x.lv := ⟨_, rfl⟩
    rw [← hst] at hxs HN
    rw [← hlv] at hxl hr2
    have HAt := as0 (fun (W : World) (vs : Value) (h : FR bp W vs r1) => z61 nm r1 h)
    rw [hii] at HAt
    have HP := as0 (fun (W : World) (vs : Value) (h : FR bp W vs r1) (hbW : FrB bp W.heap.size) => z03 i ns lv h HRB.out (by omega) hil hbW)
    rw [← hr2] at HP
    have HG := as0 (fun (W : World) (vs : Value) (h : FR bp W vs r2) (hbW : FrB bp W.heap.size) => zg4 nm dl hsz h hB2 (by omega) hbW)
    rw [hr3] at HG
    have HX := as0 hxs
    have HY := as0 hxl
    have hiI : (i : Int) < (r1.S.length : Int) := by have := HRB.out.s; omega
    have hiL : (i : Int) < (r1.L.length : Int) := by have := HRB.out.l; omega
    have hi0 : (0 : Int) ≤ (i : Int) := by omega
    have HG2 := as0 hG2
    have HW2 : Aside0 ((namesOf (admit1 s1 nm dl).ds.row false).length + 1 < gk) := ⟨by rw [hwl2]; rw [hw] at hgf; simpa using hgf⟩
    have hacc2 : acc.length ≤ 17 := by omega
    clear hstop hN hw HR hm hG2 hp hx hxn hr3 hwl2 hxs hxl hil hii hgn hsz hr2 hr3e hB2 hns hst hlv
    obtain ⟨adSa, hA_, -⟩ := Fa_5.out.adS HX.out
    subst hA_
    obtain ⟨adLa, hA_, -⟩ := Fa_5.out.adL HY.out
    subst hA_
    have ya := za0 Ba_5.out
    have xw := Fa_5.out.atW HW.out
    have xv := Fa_5.out.atW0 HW.out
    have xs := Fa_5.out.atS HX.out
    have xl := Fa_5.out.atL HY.out
    go_upto_region 9 with (first
  | (go_at_call 68; (with_reducible refine (HMY.out _ _ Fa_5.out).mono ?_); rintro e w6 ⟨rfl, hb⟩; have Ba_6 := as0 (z20 Ba_5.out hb); have Bz_6 := as0 (z20 Bz_5.out hb); have Fa_6 := as0 (Fa_5.out.below hb); have RO_6 := as0 (Kd.R_below RO_5.out hb); have HB_6 := as0 (z10 HB_5.out hb); clear hb; clear ya xw xv xs xl; have ya := za0 Ba_6.out; have xw := Fa_6.out.atW HW.out; have xv := Fa_6.out.atW0 HW.out; have xs := Fa_6.out.atS HX.out; have xl := Fa_6.out.atL HY.out)
  | (go_at_call 41; (with_reducible refine (HAt.out _ _ Fa_6.out).mono ?_); rintro e w7 ⟨rfl, hb⟩; have Ba_7 := as0 (z20 Ba_6.out hb); have Bz_7 := as0 (z20 Bz_6.out hb); have Fa_7 := as0 (Fa_6.out.below hb); have RO_7 := as0 (Kd.R_below RO_6.out hb); have HB_7 := as0 (z10 HB_6.out hb); clear hb; clear ya xw xv xs xl; have ya := za0 Ba_7.out; have xw := Fa_7.out.atW HW.out; have xv := Fa_7.out.atW0 HW.out; have xs := Fa_7.out.atS HX.out; have xl := Fa_7.out.atL HY.out)
  | (go_at_call 62; (with_reducible refine (HN.out _).mono ?_); rintro e w8 ⟨rfl, hb⟩; have Ba_8 := as0 (z20 Ba_7.out hb); have Bz_8 := as0 (z20 Bz_7.out hb); have Fa_8 := as0 (Fa_7.out.below hb); have RO_8 := as0 (Kd.R_below RO_7.out hb); have HB_8 := as0 (z10 HB_7.out hb); clear hb; clear ya xw xv xs xl; have ya := za0 Ba_8.out; have xw := Fa_8.out.atW HW.out; have xv := Fa_8.out.atW0 HW.out; have xs := Fa_8.out.atS HX.out; have xl := Fa_8.out.atL HY.out))
    refine zy1 (n := 13) (S := fun w' => w'.cell? ⟨ga, 0, none⟩ = some (.int .i64 r1.each) ∧ w'.cell? ⟨ga, 1, none⟩ = some (.int .i64 r1.guard) ∧ w'.cell? ⟨ga, 2, none⟩ = some (.slice Aa0 r1.N.length ca0) ∧ w'.cell? ⟨ga, 3, none⟩ = some (.slice (some adSa) r1.S.length ca1) ∧ w'.cell? ⟨ga, 4, none⟩ = some (.slice (some adLa) r1.L.length ca2) ∧ w'.cell? ⟨ga, 5, none⟩ = some (.slice (some adWa) r1.d.w.length ca3) ∧ w'.cell? ⟨ga, 6, none⟩ = some (.slice Aa4 r1.d.u.length ca4) ∧ w'.cell? ⟨ga, 7, none⟩ = some (.slice Aa5 r1.d.a.length ca5) ∧ w'.cell? (adLa.add i) = some (.bool lv)) (ds := [12]) #[ff,ff,ff,ff,ff,ff,ff,ff,ff,ff,ff,ff,ff] (by kernel_rfl) rfl rfl ⟨ya.1, ya.2.1, ya.2.2.1, ya.2.2.2.1, ya.2.2.2.2.1, ya.2.2.2.2.2.1, ya.2.2.2.2.2.2.1, ya.2.2.2.2.2.2.2.1, xl⟩ (fun hHeld => ?_); refine zc1 rw28.tab9 (fun HT_ => ?_)
    obtain ⟨w9, hw_⟩ : ∃ W, W = w8.drew := ⟨_, rfl⟩
    rw [← hw_] at hHeld ⊢
    have hb : Below w8.heap.size w8 w9 := by rw [hw_]; exact z50 (Below.refl _ _)
    have Ba_9 := as0 (z20 Ba_8.out hb)
    have Bz_9 := as0 (z20 Bz_8.out hb)
    have Fa_9 := as0 (Fa_8.out.below hb)
    have RO_9 := as0 (Kd.R_below RO_8.out hb)
    have HB_9 := as0 (z10 HB_8.out hb)
    clear hb hw_
    clear ya xw xv xs xl
    have ya := za0 Ba_9.out
    have xw := Fa_9.out.atW HW.out
    have xv := Fa_9.out.atW0 HW.out
    have xs := Fa_9.out.atS HX.out
    have xl := Fa_9.out.atL HY.out
    refine zl0 (i := 1) (N := some 42) (v := ?_) (a' := ?_) #[ff,tt,ff,ff,ff,ff,ff,ff,ff,ff,ff,ff,ff] rfl rfl (zh0 HT_.out (by kernel_rfl)) (fun _ _ _ h => h) (Or.inl ⟨by rfl, ?_⟩) ?_ ?_
    rotate_left
    ·intro w'
     go_simp
     with_reducible rfl
    rotate_left
    ·simp only [Act.put, lSI, lS0, lS1, ze0, zd0]
     rfl
    refine zl0 (i := 2) (N := some 43) (v := ?_) (a' := ?_) #[ff,tt,tt,ff,ff,ff,ff,ff,ff,ff,ff,ff,ff] rfl rfl (zh0 HT_.out (by kernel_rfl)) (fun _ _ _ h => h) (Or.inl ⟨by rfl, ?_⟩) ?_ ?_
    rotate_left
    ·intro w'
     go_simp
     with_reducible rfl
    rotate_left
    ·simp only [Act.put, lSI, lS0, lS1, ze0, zd0]
     rfl
    refine zl0 (i := 3) (N := some 44) (v := ?_) (a' := ?_) #[ff,tt,tt,tt,ff,ff,ff,ff,ff,ff,ff,ff,ff] rfl rfl (zh0 HT_.out (by kernel_rfl)) (fun _ _ _ h => h) (Or.inl ⟨by rfl, ?_⟩) ?_ ?_
    rotate_left
    ·intro w'
     go_simp
     with_reducible rfl
    rotate_left
    ·simp only [Act.put, lSI, lS0, lS1, ze0, zd0]
     rfl
    refine zl0 (i := 5) (N := some 46) (v := ?_) (a' := ?_) #[ff,tt,tt,tt,ff,tt,ff,ff,ff,ff,ff,ff,ff] rfl rfl (zh0 HT_.out (by kernel_rfl)) (fun _ _ _ h => h) (Or.inl ⟨by rfl, ?_⟩) ?_ ?_
    rotate_left
    ·intro w'
     go_simp
     with_reducible rfl
    rotate_left
    ·simp only [Act.put, lSI, lS0, lS1, ze0, zd0]
     rfl
    refine zl0 (i := 9) (N := some 50) (v := ?_) (a' := ?_) #[ff,tt,tt,tt,ff,tt,ff,ff,ff,tt,ff,ff,ff] rfl rfl (zh0 HT_.out (by kernel_rfl)) (fun _ _ _ h => h) (Or.inl ⟨by rfl, ?_⟩) ?_ ?_
    rotate_left
    ·intro w'
     go_simp
     with_reducible rfl
    rotate_left
    ·simp only [Act.put, lSI, lS0, lS1, ze0, zd0]
     rfl
    refine zl0 (i := 10) (N := some 51) (v := ?_) (a' := ?_) #[ff,tt,tt,tt,ff,tt,ff,ff,ff,tt,tt,ff,ff] rfl rfl (zh0 HT_.out (by kernel_rfl)) (fun _ _ _ h => h) (Or.inl ⟨by rfl, ?_⟩) ?_ ?_
    rotate_left
    ·intro w'
     go_simp
     with_reducible rfl
    rotate_left
    ·simp only [Act.put, lSI, lS0, lS1, ze0, zd0]
     rfl
    refine take_ (i := 0) (N := some 41) (v := ?_) (a' := ?_) #[tt,tt,tt,tt,ff,tt,ff,ff,ff,tt,tt,ff,ff] rfl rfl (zp0 HT_.out (by kernel_rfl)) (fun _ _ _ h => h) (Or.inl ⟨by rfl, ?_⟩) hHeld ?_ ?_
    rotate_left
    ·intro w' hS_
     obtain ⟨s0, s1, s2, s3, s4, s5, s6, s7, s8⟩ := hS_
     go_simp
     with_reducible rfl
    rotate_left
    ·simp only [Act.put, lSI, lS0, lS1, ze0, zd0]
     rfl
    refine take_ (i := 4) (N := some 45) (v := ?_) (a' := ?_) #[tt,tt,tt,tt,tt,tt,ff,ff,ff,tt,tt,ff,ff] rfl rfl (zp0 HT_.out (by kernel_rfl)) (fun _ _ _ h => h) (Or.inl ⟨by rfl, ?_⟩) hHeld ?_ ?_
    rotate_left
    ·intro w' hS_
     obtain ⟨s0, s1, s2, s3, s4, s5, s6, s7, s8⟩ := hS_
     go_simp
     with_reducible rfl
    rotate_left
    ·simp only [Act.put, lSI, lS0, lS1, ze0, zd0]
     rfl
    refine zl0 (i := 6) (N := some 47) (v := ?_) (a' := ?_) #[tt,tt,tt,tt,tt,tt,tt,ff,ff,tt,tt,ff,ff] rfl rfl (zh0 HT_.out (by kernel_rfl)) (fun _ _ _ h => h) (Or.inl ⟨by rfl, ?_⟩) ?_ ?_
    rotate_left
    ·intro w'
     go_simp
     with_reducible rfl
    rotate_left
    ·simp only [Act.put, lSI, lS0, lS1, ze0, zd0]
     rfl
    refine take_ (i := 7) (N := some 48) (v := ?_) (a' := ?_) #[tt,tt,tt,tt,tt,tt,tt,tt,ff,tt,tt,ff,ff] rfl rfl (zp0 HT_.out (by kernel_rfl)) (fun _ _ _ h => h) (Or.inl ⟨by rfl, ?_⟩) hHeld ?_ ?_
    rotate_left
    ·intro w' hS_
     obtain ⟨s0, s1, s2, s3, s4, s5, s6, s7, s8⟩ := hS_
     go_simp
     with_reducible rfl
    rotate_left
    ·simp only [Act.put, lSI, lS0, lS1, ze0, zd0]
     rfl
    refine zx2 (i := 8) (N := some 49) #[tt,tt,tt,tt,tt,tt,tt,tt,tt,tt,tt,ff,ff] rfl rfl (z21 HT_.out (by kernel_rfl)) (by decide) (fun K hK => ?_)
    refine z02 Tryz.func64 (by kernel_rfl) rfl #[.agg #[.int .i64 r1.each, .int .i64 r1.guard, .slice Aa0 r1.N.length ca0, .slice (some adSa) r1.S.length ca1, .slice (some adLa) r1.L.length ca2, .slice (some adWa) r1.d.w.length ca3, .slice Aa4 r1.d.u.length ca4, .slice Aa5 r1.d.a.length ca5], .int .i64 (i : Int), .int .i64 ns, .bool lv] (by rfl) rfl rfl (by (try simp only [List.map_toArray, List.map_cons, List.map_nil]); first | done | rfl) ?_
    refine (HP.out _ _ Fa_9.out (HBP.out _ HB_9.out.size RO_9.out)).mono ?_
    rintro e w10 ⟨vs_, rfl, hF_, hb⟩
    obtain ⟨Ab0, cb0, Ab1, cb1, Ab2, cb2, Ab3, cb3, Ab4, cb4, Ab5, cb5, rfl⟩ := hF_.form
    have Ba_10 := as0 (z20 Ba_9.out hb)
    have Bz_10 := as0 (z20 Bz_9.out hb)
    have Fa_10 := as0 (Fa_9.out.below hb)
    have RO_10 := as0 (Kd.R_below RO_9.out hb)
    have HB_10 := as0 (z10 HB_9.out hb)
    have Fb_10 := as0 hF_
    clear hb hF_
    clear ya xw xv xs xl
    have ya := za0 Ba_10.out
    have xw := Fa_10.out.atW HW.out
    have xv := Fa_10.out.atW0 HW.out
    have xs := Fa_10.out.atS HX.out
    have xl := Fa_10.out.atL HY.out
    refine ⟨_, rfl, ?_⟩
    refine hK.out _ _ ⟨ya.1, ya.2.1, ya.2.2.1, ya.2.2.2.1, ya.2.2.2.2.1, ya.2.2.2.2.2.1, ya.2.2.2.2.2.2.1, ya.2.2.2.2.2.2.2.1, xl⟩ (fun hHeld => ?_)
    clear hK K
    refine zh1 (a' := ?_) ?_ ?_
    rotate_left
    ·show Act.put _ (some 49) _ = _
     simp only [Act.put, lSI, lS0, lS1, ze0, zd0]
     rfl
    refine zx2 (i := 11) (N := some 52) #[tt,tt,tt,tt,tt,tt,tt,tt,tt,tt,tt,tt,ff] rfl rfl (z21 HT_.out (by kernel_rfl)) (by decide) (fun K hK => ?_)
    refine z02 Tryz.func67 (by kernel_rfl) rfl #[.agg #[.int .i64 r2.each, .int .i64 r2.guard, .slice Ab0 r2.N.length cb0, .slice Ab1 r2.S.length cb1, .slice Ab2 r2.L.length cb2, .slice Ab3 r2.d.w.length cb3, .slice Ab4 r2.d.u.length cb4, .slice Ab5 r2.d.a.length cb5], .string nm, .int .i64 dl] (by rfl) rfl rfl (by (try simp only [List.map_toArray, List.map_cons, List.map_nil]); first | done | rfl) ?_
    refine (HG.out _ _ Fb_10.out (HBP.out _ HB_10.out.size RO_10.out)).mono ?_
    rintro e w11 ⟨vs_, rfl, hF_, hb⟩
    obtain ⟨Ad0, cd0, Ad1, cd1, Ad2, cd2, Ad3, cd3, Ad4, cd4, Ad5, cd5, rfl⟩ := hF_.form
    have Ba_11 := as0 (z20 Ba_10.out hb)
    have Bz_11 := as0 (z20 Bz_10.out hb)
    have Fa_11 := as0 (Fa_10.out.below hb)
    have Fb_11 := as0 (Fb_10.out.below hb)
    have RO_11 := as0 (Kd.R_below RO_10.out hb)
    have HB_11 := as0 (z10 HB_10.out hb)
    have Fd_11 := as0 hF_
    clear hb hF_
    clear ya xw xv xs xl
    have ya := za0 Ba_11.out
    have xw := Fa_11.out.atW HW.out
    have xv := Fa_11.out.atW0 HW.out
    have xs := Fa_11.out.atS HX.out
    have xl := Fa_11.out.atL HY.out
    refine ⟨_, rfl, ?_⟩
    refine hK.out _ _ ⟨ya.1, ya.2.1, ya.2.2.1, ya.2.2.2.1, ya.2.2.2.2.1, ya.2.2.2.2.2.1, ya.2.2.2.2.2.2.1, ya.2.2.2.2.2.2.2.1, xl⟩ (fun hHeld => ?_)
    clear hK K
    refine zh1 (a' := ?_) ?_ ?_
    rotate_left
    ·show Act.put _ (some 52) _ = _
     simp only [Act.put, lSI, lS0, lS1, ze0, zd0]
     rfl
    refine z85 (i := 12) (N := none) #[tt,tt,tt,tt,tt,tt,tt,tt,tt,tt,tt,tt,tt] rfl rfl (z21 HT_.out (by kernel_rfl)) (by decide) (fun K hK => ?_)
    refine put_ (w1 := ?_) (by rfl) rfl ?_ ?_
    rotate_left
    ·go_simp
     rfl
    refine hK.out _ _ ?_
    clear hK K
    refine zr2 (zg1 HT_.out (by kernel_rfl)) ?_
    clear hHeld
    obtain ⟨w12, hw_⟩ : ∃ W, W = ((((((((w11.setCell ⟨ga, 0, none⟩ (.int .i64 r3.each)).setCell ⟨ga, 1, none⟩ (.int .i64 r3.guard)).setCell ⟨ga, 2, none⟩ (.slice Ad0 r3.N.length cd0)).setCell ⟨ga, 3, none⟩ (.slice Ad1 r3.S.length cd1)).setCell ⟨ga, 4, none⟩ (.slice Ad2 r3.L.length cd2)).setCell ⟨ga, 5, none⟩ (.slice Ad3 r3.d.w.length cd3)).setCell ⟨ga, 6, none⟩ (.slice Ad4 r3.d.u.length cd4)).setCell ⟨ga, 7, none⟩ (.slice Ad5 r3.d.a.length cd5)) := ⟨_, rfl⟩
    rw [← hw_]
    have Ba_12 := as0 (zu0 (zi0 Ba_11.out) hw_)
    have Bz_12 := as0 (zg0 z30 hw_ NE_az.out.symm Bz_11.out)
    have Fa_12 := as0 (zk0 z30 hw_ Fa_11.out Ba_11.out (by decide))
    have Fb_12 := as0 (zk0 z30 hw_ Fb_11.out Ba_11.out (by decide))
    have Fd_12 := as0 (zk0 z30 hw_ Fd_11.out Ba_11.out (by decide))
    have RO_12 : Aside0 (Kd.R Kd.string 9 w12 w.heap.size (fun _ => True) vO acc) := ⟨by rw [hw_]; exact Kd.R_mv RO_11.out Ba_11.out (zx0 (by decide)) (fun k hk => z30 hk)⟩
    have HB_12 := as0 (zf0 (zb0 HB_11.out GE_a.out) hw_)
    clear hw_ 
    clear ya xw xv xs xl
    have ya := za0 Ba_12.out
    have xw := Fa_12.out.atW HW.out
    have xv := Fa_12.out.atW0 HW.out
    have xs := Fa_12.out.atS HX.out
    have xl := Fa_12.out.atL HY.out
    go_wp2_with ((with_reducible refine zm0 (b := .append) (xs := #[.tmp 53, .tmp 55]) rfl ?_); (try (refine z41 (by rfl) ?_; dsimp only)); at_builtin; refine Kd.R_append Kd.string (w0 := w12) w.heap.size rfl (.tmp 53) (.tmp 55) 27 9 (.string ⟨#[]⟩) 16 rfl Tryz.underlying27 z53 rfl (by decide) (by omega) _ acc nm [.string nm] (fun _ => True) (fun _ => False) rfl ?aX ?aP (fun _ h => h.elim) (fun _ _ => trivial) ?aO ?aB ?aS ?aL ?_; (case aX => (show Value.slice (some ⟨w12.heap.size, 0, none⟩) 1 1 = _; simp)); (case aP => exact rfl); (case aO => exact RO_12.out); (case aB => exact Below.refl _ _ |>.mono HB_12.out.size); (case aS => exact HB_12.out.size); (case aL => have := hacc2; omega); intro v7 w7_ ho hb hg hat; have HO7 := as0 ho; have HG7 := as0 hg; have HAT7 := as0 hat; clear ho hb hg hat)
    obtain ⟨g', rfl⟩ : ∃ g', gk = g' + 1 := ⟨gk - 1, by have := HW2.out; omega⟩
    have hFd := Fd_12.out
    rw [HBPE.out] at hFd
    have hB7 := HB_12.out.grown HG7.out HB_12.out.size (fun k h => Kd.R_base RO_12.out k h)
    have hBa := (HG7.out.block ga (z70 Ba_12.out) (Kd.R_ne RO_12.out Ba_12.out (by decide))).trans Ba_12.out
    have hBz := (HG7.out.block gz (z70 Bz_12.out) (Kd.R_ne RO_12.out Bz_12.out (by decide))).trans Bz_12.out
    have hF7 := hFd.grow HG7.out HAT7.out
    have hwl3 := HW2.out
    have HFa := as0 hBa
    have HFz := as0 hBz
    have HF7 := as0 hF7
    have HB7 := as0 hB7
    clear hFd hBa hBz hF7 hB7
    go_roundg g'
    case measure => omega
    case rel => exact ⟨_, admit1 s1 nm dl, r3, _, acc ++ [nm], rfl, HR3, HR2, by omega, by simp; omega, HG2, HFa, HFz, HF7, HB7, HO7⟩
end
end
section
theorem zv0 {W : World} {g i k : Nat} {v : Value} (h : k ≠ g) : (W.setCell ⟨g, i, none⟩ v).heap[k]? = W.heap[k]? := Below.heap_setCell W ⟨g, i, none⟩ v k h
theorem z92 {w0 W : World} {g i : Nat} {v : Value} (h : Below w0.heap.size w0 W) (hg : w0.heap.size ≤ g) : Below w0.heap.size w0 (W.setCell ⟨g, i, none⟩ v) := zc0 h hg
theorem has_memB (x : ByteArray) (l : List ByteArray) : hasB x l = memB x l := by
 by_cases c : x ∈ l
 ·rw [(ze2 x l).2 c, zo3.2 c]
 ·rw [z14 x l c, z66.2 c]
theorem zg5 {P : Program} {fn : Func} {p q1 q2 q3 : Tmp} {ty : TypeId} (h : fn.results = #[.cell p ty, .tmp q1, .tmp q2, .tmp q3]) (tmps : Array Value) (w : World) (g : Nat) (t : TypeId) (cs : Array Value) (fr : Nat × Nat) (d : TypeDesc)
  (hp : tmps.getD p undef = .pointer (some ⟨g, 0, none⟩)) (hg : w.heap[g]? = some (.cells cs t fr))
  (hu : P.underlying ty = some d) (hd : (match d with | .struct _ | .array _ _ => true | _ => false) = true) (hi : (P.info? ty).map (·.size) = some cs.size) :
  (results fn tmps).run P w = .ok (.tuple #[.agg cs, tmps.getD q1 undef, tmps.getD q2 undef, tmps.getD q3 undef]) w := by
 have hp' : tmps[p]?.getD undef = .pointer (some ⟨g, 0, none⟩) := by simpa using hp
 simp [results, h, hp', asAddr, run_loadVar_row w g t ty cs fr d hg hu hd hi]
def goesL (l : List ByteArray) (x : HV) : Bool := !(x.lv || memB x.nm l)
def leaveL (dl : Int) : List HV → FS → FS
 | [], s => s
 | x :: r, s => leaveL dl r (leaveF s x dl)
theorem z68 (l : List ByteArray) (dl : Int) : ∀ (hs : List HV) (s : FS), leftL l dl hs s = (leaveL dl (hs.filter (goesL l)) s, (hs.filter (goesL l)).map (·.nm))
 | [], s => rfl
 | x :: hs, s => by
  unfold leftL
  by_cases c : (x.lv || memB x.nm l) = true
  ·rw [if_pos c, z68 l dl hs s, List.filter_cons, if_neg (by unfold goesL; rw [c]; decide)]
  ·have c2 : goesL l x = true := by unfold goesL; simpa using c
   rw [if_neg c, z68 l dl hs (leaveF s x dl), List.filter_cons, if_pos c2]
   rfl
def lefts (l : List ByteArray) (hs : List HV) : List ByteArray := (hs.filter (goesL l)).map (·.nm)
theorem zxa {l : List ByteArray} {hs : List HV} {k : Nat} {x : HV} (hx : hs[k]? = some x) (h : goesL l x = true) : lefts l (hs.take (k + 1)) = lefts l (hs.take k) ++ [x.nm] := by
 obtain ⟨h1, h2⟩ := List.getElem?_eq_some_iff.1 hx
 unfold lefts
 rw [List.take_succ_eq_append_getElem h1, h2, List.filter_append, List.map_append, List.filter_cons, if_pos h]
 rfl
theorem zs8 {l : List ByteArray} {hs : List HV} {k : Nat} {x : HV} (hx : hs[k]? = some x) (h : goesL l x = false) : lefts l (hs.take (k + 1)) = lefts l (hs.take k) := by
 obtain ⟨h1, h2⟩ := List.getElem?_eq_some_iff.1 hx
 unfold lefts
 rw [List.take_succ_eq_append_getElem h1, h2, List.filter_append, List.map_append, List.filter_cons, if_neg (by rw [h]; decide)]
 simp
theorem z15 {hs : List HV} {i : Nat} {x y z : HV} (hx : hs[i]? = some x) (hy : y ∈ hs) (hne : y ≠ x) : y ∈ hs.set i z := by
 obtain ⟨j, hj⟩ := List.getElem?_of_mem hy
 have hij : i ≠ j := by
  rintro rfl
  rw [hx] at hj
  injection hj with hj
  exact hne hj.symm
 exact List.mem_of_getElem? (i := j) (by rw [List.getElem?_set_ne hij]; exact hj)
theorem zi3 : ∀ {hs : List HV} {i : Nat} {x y : HV}, hs[i]? = some x → y ∈ hs → y ≠ x → y ∈ hs.eraseIdx i
 | [], _, _, _, h, _, _ => by simp at h
 | a :: hs, 0, x, y, h, hy, hne => by
  have : a = x := by simpa using h
  subst this
  rcases List.mem_cons.1 hy with rfl | hy
  ·exact absurd rfl hne
  ·simpa using hy
 | a :: hs, i + 1, x, y, h, hy, hne => by
  rcases List.mem_cons.1 hy with rfl | hy
  ·simp
  ·have := zi3 (by simpa using h) hy hne
   simp [this]
theorem GB.leave {s : FS} {n : Nat} (h : GB s n) (hn : n ≤ 700000) {i : Nat} {x : HV} (hx : s.hs[i]? = some x) (dl : Int) : GB (leaveF s x dl) (n + 1) ∧ ∀ y ∈ s.hs, y.nm ≠ x.nm → y ∈ (leaveF s x dl).hs := by
 have hp := zp4 h.nd hx
 have hd := (zt8 h.ok (by omega) x dl).1
 have hne : ∀ y : HV, y.nm ≠ x.nm → y ≠ x := fun y h e => h (by rw [e])
 unfold leaveF at hd ⊢
 by_cases c3 : x.st = 3
 ·rw [if_pos c3] at hd ⊢
  rw [zb3 hp] at hd ⊢
  exact ⟨h.cut (Nat.le_succ _) hd i, fun y hy hn => zi3 hx hy (hne y hn)⟩
 ·rw [if_neg c3] at hd ⊢
  rw [z91 hp, z91 hp] at hd ⊢
  by_cases ce : nextB x.st 5 = true
  ·rw [if_pos ce] at hd ⊢
   exact ⟨h.turn (Nat.le_succ _) hd hx _ _, fun y hy hn => z15 hx hy (hne y hn)⟩
  ·rw [if_neg ce] at hd ⊢
   exact ⟨h.turn (Nat.le_succ _) hd hx _ _, fun y hy hn => z15 hx hy (hne y hn)⟩
theorem GB.come {s : FS} {n : Nat} (h : GB s n) {nm : ByteArray} (hn : nameB nm = true) (hp : posH s.hs nm = -1) : GB { s with hs := s.hs ++ [⟨nm, 0, false⟩] } (n + 1) := by
 refine ⟨h.ok.mono (Nat.le_succ _), by simp; exact h.hl, ?_, ?_, h.e⟩
 ·show ((s.hs ++ [(⟨nm, 0, false⟩ : HV)]).map (·.nm)).Nodup
  rw [List.map_append, List.nodup_append]
  refine ⟨h.nd, by simp, ?_⟩
  intro a ha b hb
  have hb2 : b = nm := by simpa using hb
  subst hb2
  rintro rfl
  obtain ⟨x, hx, e⟩ := List.mem_map.1 ha
  rcases za3 s.hs a with ⟨_, h2⟩ | ⟨i, x, h1, _, _⟩
  ·exact h2 x hx e
  ·omega
 ·intro y hy
  rcases List.mem_append.1 hy with hy | hy
  ·exact h.gn y hy
  ·rw [List.mem_singleton.1 hy]
   exact hn
theorem z8b {b : Nat → Prop} {w : World} {n : Nat} {r : RF} {vs : Value} (h : FR b w vs r) (hB : RB r n) (hn : n ≤ 900000) :
  Calls Tryz.prog 61 #[vs, .int .i64 (-1)] w fun e w' => ∃ (AN : Option Addr) (cN : Nat) (AS : Option Addr) (cS : Nat) (AL : Option Addr) (cL : Nat) (A3 : Option Addr) (c3 : Nat) (A4 : Option Addr) (c4 : Nat) (A5 : Option Addr) (c5 : Nat),
   e = .returned (.agg #[.int .i64 r.each, .int .i64 r.guard, .slice AN r.N.length cN, .slice AS r.S.length cS, .slice AL r.L.length cL, .slice A3 r.d.w.length c3, .slice A4 r.d.u.length c4, .slice A5 r.d.a.length c5]) ∧
   Kd.R Kd.string 9 w' w.heap.size (fun _ => True) (.slice AN r.N.length cN) r.N ∧ Kd.R (Kd.int .i64) 3 w' w.heap.size (fun _ => True) (.slice AS r.S.length cS) r.S ∧ Kd.R Kd.bool 4 w' w.heap.size (fun _ => True) (.slice AL r.L.length cL) r.L ∧
   RdS b w' (.slice A3 r.d.w.length c3) r.d.w ∧ RdS b w' (.slice A4 r.d.u.length c4) r.d.u ∧ RdI b w' (.slice A5 r.d.a.length c5) r.d.a ∧ Below w.heap.size w w' := by
 have hc := zw8 (-1) r h hB.s hB.l (by have := hB.m; omega)
 rw [zi4 (by decide) r.N r.N.length (Nat.le_refl _), zi4 (by decide) r.S r.N.length (by rw [hB.s]; exact Nat.le_refl _), zi4 (by decide) r.L r.N.length (by rw [hB.l]; exact Nat.le_refl _), List.take_length, ← hB.s, List.take_length, hB.s, ← hB.l, List.take_length] at hc
 refine hc.mono fun e w' hh => ?_
 obtain ⟨vN, vS, vL, v3, v4, v5, rfl, h0, h1, h2, h3, h4, h5, hbl⟩ := hh
 obtain ⟨AN, cN, rfl⟩ := Kd.R_slice h0
 obtain ⟨AS, cS, rfl⟩ := Kd.R_slice h1
 obtain ⟨AL, cL, rfl⟩ := Kd.R_slice h2
 obtain ⟨A3, c3, rfl⟩ := h3.slice
 obtain ⟨A4, c4, rfl⟩ := h4.slice
 obtain ⟨A5, c5, rfl⟩ := h5.slice
 exact ⟨_, _, _, _, _, _, _, _, _, _, _, _, rfl, h0, h1, h2, h3, h4, h5, hbl⟩
abbrev Old (b : Nat → Prop) (m : Nat) : Nat → Prop := fun k => b k ∧ k < m
theorem FR.old {b : Nat → Prop} {w : World} {vs : Value} {r : RF} (h : FR b w vs r) : FR (Old b w.heap.size) w vs r := by
 obtain ⟨v0, v1, v2, v3, v4, v5, e, h0, h1, h2, h3, h4, h5⟩ := h
 exact ⟨v0, v1, v2, v3, v4, v5, e, h0.up (fun k h1 h2 => ⟨h1, h2⟩), h1.up (fun k h1 h2 => ⟨h1, h2⟩), h2.up (fun k h1 h2 => ⟨h1, h2⟩), h3.up (fun k h1 h2 => ⟨h1, h2⟩), h4.up (fun k h1 h2 => ⟨h1, h2⟩), h5.up (fun k h1 h2 => ⟨h1, h2⟩)⟩
theorem Rd.growOld {α β : Type} {enc : α → Value} {h1 : ∀ x, (enc x).oneCell' = true} {d : Kd β} {e e2 m : Nat} {b ok : Nat → Prop} {W W1 : World} {v u : Value} {xs : List α} {ys : List β} (h : Rd enc h1 e (Old b m) W v xs) (hR : d.R e2 W m ok u ys) (hg : W.grownBy W1 u.ownBlock) : Rd enc h1 e (Old b m) W1 v xs :=
 h.step (fun k cells hk hb => hg.block k (z70 hk) (za5 hR hb.2))
theorem zv5 {α : Type} {d : Kd α} {e m : Nat} {ok : Nat → Prop} {W : World} {u v : Value} {ys : List α} (hR : d.R e W m ok u ys) (hlt : ∀ q, v.ownBlock = some q → q < m) : ∀ k, u.ownBlock = some k → some k ≠ v.ownBlock := fun k hk e => by
 have := Kd.R_base hR k hk
 have := hlt k e.symm
 omega
theorem R_at' {W : World} {base n c i : Nat} {ok : Nat → Prop} {ad : Addr} {xs : List ByteArray} {x : ByteArray} (h : Kd.R Kd.string 9 W base ok (.slice (some ad) n c) xs) (hx : xs[i]? = some x) : W.cell? (ad.add i) = some (.string x) := by
 obtain ⟨a, h1, h2⟩ := (Rd.of_R h).at hx
 injection h1 with h1
 rw [h1]
 exact h2
theorem C_at' {W : World} {n i : Nat} {A : Option Addr} {xs : List ByteArray} {x : ByteArray} (h : Kd.C Kd.string W A n xs) (hx : xs[i]? = some x) : ∃ ad, A = some ad ∧ W.cell? (ad.add i) = some (.string x) := by
 obtain ⟨hk1, hk2⟩ := List.getElem?_eq_some_iff.1 hx
 obtain ⟨ad, hae, hcell⟩ := h.2.2 (by have := h.1; omega)
 refine ⟨ad, hae, ?_⟩
 obtain ⟨cs, hcs1, hK, hcc⟩ := hcell i x hx
 obtain rfl : cs = [.string x] := hK
 have := hcc 0 (.string x) rfl
 simpa [Kd.string, Kd.scalar] using this
theorem zj5 {l : List ByteArray} (h : checkE l = 0) : ∀ x ∈ l, nameB x = true := by
 unfold checkE at h
 by_cases c1 : 16 < l.length
 ·rw [if_pos c1] at h
  cases h
 ·rw [if_neg c1] at h
  by_cases c2 : l.all nameB = false
  ·rw [if_pos c2] at h
   cases h
  ·have c3 : l.all nameB = true := by simpa using c2
   exact List.all_eq_true.1 c3
def rw23.T14 : Bool × List (List Nat × List Nat) := (true, [([], []), ([], []), ([], []), ([1, 2], [1, 2]), ([3], [3]), ([], []), ([0, 4, 5], [0, 4, 5]), ([6, 6, 0, 1, 2, 3, 4, 5, 6], [6])])
theorem rw23.tab14 : rtab .any (opsOf Tryz.f23 14) = rw23.T14 := by kernel_rfl
def rw23.T18 : Bool × List (List Nat × List Nat) := (true, [([], []), ([], []), ([], []), ([1, 2], [1, 2]), ([3], [3]), ([0, 4], [0, 4]), ([5, 5, 0, 1, 2, 3, 4, 5], [5])])
theorem rw23.tab18 : rtab .any (opsOf Tryz.f23 18) = rw23.T18 := by kernel_rfl
def rw23.T23 : Bool × List (List Nat × List Nat) := (true, [([], []), ([0], [0]), ([], []), ([], []), ([2, 3], [2, 3]), ([4], [4]), ([5], [5]), ([1, 6], [1, 6]), ([0, 1, 2, 3, 4, 5, 6, 7], []), ([8, 7, 7, 0, 1, 2, 3, 4, 5, 6, 7], [7, 8])])
theorem rw23.tab23 : rtab .any (opsOf Tryz.f23 23) = rw23.T23 := by kernel_rfl
def rw23.T28 : Bool × List (List Nat × List Nat) := (true, [([], []), ([], []), ([], []), ([0, 1, 2], [0, 1, 2]), ([], []), ([], []), ([4, 5], [4, 5]), ([6], [6]), ([3, 7, 3], [3, 7]), ([8, 8, 0, 1, 2, 3, 4, 5, 6, 7, 8], [8])])
theorem rw23.tab28 : rtab .any (opsOf Tryz.f23 28) = rw23.T28 := by kernel_rfl
section
variable {b : Nat → Prop} {w : World}
theorem zm6 {s : FS} {n : Nat} (hG : GB s n) (hn : n ≤ 300000) (l : List ByteArray) (hsz : ∀ x ∈ l, x.size ≤ 9223372036854775807) (A1 : Option Addr) (c1 : Nat) (hC : ∀ W, Below w.heap.size w W → Kd.C Kd.string W A1 l.length l) (hc1 : l.length ≤ c1) (dl : Int) {vs : Value} (h : FR b w vs (toR s)) (hb : FrB b w.heap.size) (ec : Int) (hec : checkE l = ec) (hne : ec ≠ 0) :
  Calls Tryz.prog 23 #[vs, .slice A1 l.length c1, .int .i64 dl] w fun e w' => ∃ vs' va vb : Value, e = .returned (.tuple #[vs', va, vb, .int .i64 ec]) ∧ FR b w' vs' (toR s) ∧ RdS b w' va [] ∧ RdS b w' vb [] ∧ Below w.heap.size w w' := by
 have HCH := as0 (fun (W : World) (hW : Below w.heap.size w W) => zl5 l A1 c1 W hsz (hC W hW) hc1)
 rw [hec] at HCH
 have hd : (ec != 0) = true := by simp [hne]
 generalize toR s = r at h ⊢
 clear hG hn hsz hC hc1 hec hne
 have HB_0 : Aside0 (Below w.heap.size w w) := ⟨Below.refl _ _⟩
 obtain ⟨Aa0, ca0, Aa1, ca1, Aa2, ca2, Aa3, ca3, Aa4, ca4, Aa5, ca5, rfl⟩ := h.form
 have Fa_0 := as0 h
 have HBB := as0 hb
 clear h hb
 go_enter Tryz.func23, Tryz.ntmps23
 go_wp2_with (first
  | ((with_reducible refine bx (N := 3) (cs := #[.int .i64 r.each, .int .i64 r.guard, .slice Aa0 r.N.length ca0, .slice Aa1 r.S.length ca1, .slice Aa2 r.L.length ca2, .slice Aa3 r.d.w.length ca3, .slice Aa4 r.d.u.length ca4, .slice Aa5 r.d.a.length ca5]) (t := 33) rfl rfl ?hr ?_); (case hr => first | (go_simp; done) | (go_simp; rfl)); intro ga hg w1 hbox hb; have Fa_1 := as0 (Fa_0.out.below hb); have HB_1 := as0 (z10 HB_0.out hb); have Ba_1 := as0 hbox; have GE_a := as0 (show w.heap.size ≤ ga by rw [hg]; exact HB_0.out.size); clear hbox hb hg; have ya := za0 Ba_1.out)
  | ((with_reducible refine bx (N := 6) (cs := #[.int .i64 0, .int .i64 0, .slice none 0 0, .slice none 0 0, .slice none 0 0, .slice none 0 0, .slice none 0 0, .slice none 0 0]) (t := 33) rfl rfl ?hr ?_); (case hr => first | (go_simp; done) | (go_simp; rfl)); intro gz hg w2 hbox hb; have Ba_2 := as0 (z20 Ba_1.out hb); have Fa_2 := as0 (Fa_1.out.below hb); have HB_2 := as0 (z10 HB_1.out hb); have Bz_2 := as0 hbox; have GE_z := as0 (show w.heap.size ≤ gz by rw [hg]; exact HB_1.out.size); have NE_az := as0 (show ga ≠ gz by rw [hg]; exact Nat.ne_of_lt (z70 Ba_1.out)); clear hbox hb hg; clear ya; have ya := za0 Ba_2.out)
  | (go_at_call 58; (with_reducible refine (HCH.out _ HB_2.out).mono ?_); rintro e w3 ⟨rfl, hb⟩; have Ba_3 := as0 (z20 Ba_2.out hb); have Bz_3 := as0 (z20 Bz_2.out hb); have Fa_3 := as0 (Fa_2.out.below hb); have HB_3 := as0 (z10 HB_2.out hb); clear hb; clear ya; have ya := za0 Ba_3.out)
  | (have yz := za0 Bz_3.out; (with_reducible refine sx (W := w3) (t := 33) (p := 6) (w1 := set8 w3 gz (.int .i64 r.each) (.int .i64 r.guard) (.slice Aa0 r.N.length ca0) (.slice Aa1 r.S.length ca1) (.slice Aa2 r.L.length ca2) (.slice Aa3 r.d.w.length ca3) (.slice Aa4 r.d.u.length ca4) (.slice Aa5 r.d.a.length ca5)) rfl rfl rfl ?hr ?_); (case hr => first | (go_simp; done) | (go_simp; rfl)); intro w4 hw_; have Ba_4 := as0 (zg0 z30 hw_ NE_az.out Ba_3.out); have Bz_4 := as0 (zu0 (zi0 Bz_3.out) hw_); have Fa_4 := as0 (zk0 z30 hw_ Fa_3.out Bz_3.out (by decide)); have HB_4 := as0 (zf0 (zb0 HB_3.out GE_z.out) hw_); clear hw_ yz; clear ya; have ya := za0 Ba_4.out; (repeat (first | go_values | go_skip | go_guarded | go_step | go_upon | go_in)); refine bodyPost_ret (zg5 (p := 6) rfl _ _ gz 33 _ (0, 0) _ rfl Bz_4.out Tryz.underlying33 rfl (by kernel_rfl)) rfl ?_; exact ⟨_, _, _, rfl, Fa_4.out, ⟨none, 0, rfl, Nat.le_refl _, ⟨rfl, Nat.zero_le _, fun h => absurd h (by simp)⟩, fun ad h => by cases h⟩, ⟨none, 0, rfl, Nat.le_refl _, ⟨rfl, Nat.zero_le _, fun h => absurd h (by simp)⟩, fun ad h => by cases h⟩, HB_4.out⟩))
theorem zp7 {s : FS} {n : Nat} (hG : GB s n) (hn : n ≤ 300000) (l : List ByteArray) (hsz : ∀ x ∈ l, x.size ≤ 9223372036854775807) (A1 : Option Addr) (c1 : Nat) (hC : ∀ W, Below w.heap.size w W → Kd.C Kd.string W A1 l.length l) (hc1 : l.length ≤ c1) (dl : Int) {vs : Value} (h : FR b w vs (toR s)) (hb : FrB b w.heap.size) (hec : checkE l = 0) :
    Calls Tryz.prog 23 #[vs, .slice A1 l.length c1, .int .i64 dl] w fun e w' => ∃ vs' va vb : Value, e = .returned (.tuple #[vs', va, vb, .int .i64 (resolveF s l dl).1.2.2]) ∧ FR b w' vs' (toR (resolveF s l dl).2) ∧ RdS b w' va (resolveF s l dl).1.1 ∧ RdS b w' vb (resolveF s l dl).1.2.1 ∧ Below w.heap.size w w' := by
  have HCH := as0 (fun (W : World) (hW : Below w.heap.size w W) => zl5 l A1 c1 W hsz (hC W hW) hc1)
  rw [hec] at HCH
  have HGN := as0 (zj5 hec)
  have hl16 := zl4 hec
  obtain ⟨xs, hxs⟩ : ∃ q, q = s.hs.filter (goesL l) := ⟨_, rfl⟩
  obtain ⟨L, hL⟩ : ∃ q, q = lefts l s.hs := ⟨_, rfl⟩
  have hLx : L = xs.map (·.nm) := by rw [hL, hxs]; rfl
  obtain ⟨SL, hSL⟩ : ∃ q, q = leaveL dl xs s := ⟨_, rfl⟩
  obtain ⟨RES, hRES⟩ : ∃ q, q = cameL l SL := ⟨_, rfl⟩
  have hres : resolveF s l dl = ((RES.2, L, 0), RES.1) := by
    unfold resolveF
    rw [if_pos hec, z68, ← hxs, ← hSL, ← hRES, hLx]
  rw [hres]
  have hsub : ∀ y ∈ xs, y ∈ s.hs := by intro y hy; rw [hxs] at hy; exact (List.mem_filter.1 hy).1
  have hxn : xs.length ≤ n := by rw [hxs]; exact Nat.le_trans (List.length_filter_le _ _) hG.hl
  have hxd : (xs.map (·.nm)).Nodup := by rw [hxs]; exact hG.nd.sublist ((List.filter_sublist).map _)
  have HL := as0 hL
  have HLX := as0 hLx
  have HSL := as0 hSL
  have HRES := as0 hRES
  have HSUB := as0 hsub
  have HXD := as0 hxd
  have HCC := as0 hC
  have HSZ := as0 hsz
  have HG0 := as0 hG
  have hhl := hG.hl
  have HHC := as0 (fun (W : World) (hW : Below w.heap.size w W) (x : ByteArray) => has_raw x l A1 c1 W (hC W hW) hc1)
  obtain ⟨r0, hr0⟩ : ∃ q, q = toR s := ⟨_, rfl⟩
  rw [← hr0] at h
  have HR0 := as0 hr0
  have hNl : r0.N.length = s.hs.length := by rw [hr0]; simp [toR]
  have hLl : r0.L.length = s.hs.length := by rw [hr0]; simp [toR]
  have HNL := as0 hNl
  have HLL := as0 hLl
  clear hG hsz hC hec hxs hL hLx hSL hRES hres hsub hxd hr0 hNl hLl
  have HB_0 : Aside0 (Below w.heap.size w w) := ⟨Below.refl _ _⟩
  obtain ⟨Aa0, ca0, Aa1, ca1, Aa2, ca2, Aa3, ca3, Aa4, ca4, Aa5, ca5, rfl⟩ := h.form
  have Fa_0 := as0 h
  have HBB := as0 hb
  clear h hb
  go_enter Tryz.func23, Tryz.ntmps23
  go_wp2_with (first
    | ((with_reducible refine bx (N := 3) (cs := #[.int .i64 r0.each, .int .i64 r0.guard, .slice Aa0 r0.N.length ca0, .slice Aa1 r0.S.length ca1, .slice Aa2 r0.L.length ca2, .slice Aa3 r0.d.w.length ca3, .slice Aa4 r0.d.u.length ca4, .slice Aa5 r0.d.a.length ca5]) (t := 33) rfl rfl ?hr ?_); (case hr => first | (go_simp; done) | (go_simp; rfl)); intro ga hg w1 hbox hb; have Fa_1 := as0 (Fa_0.out.below hb); have HB_1 := as0 (z10 HB_0.out hb); have Ba_1 := as0 hbox; have GE_a := as0 (show w.heap.size ≤ ga by rw [hg]; exact HB_0.out.size); clear hbox hb hg; have ya := za0 Ba_1.out)
    | ((with_reducible refine bx (N := 6) (cs := #[.int .i64 0, .int .i64 0, .slice none 0 0, .slice none 0 0, .slice none 0 0, .slice none 0 0, .slice none 0 0, .slice none 0 0]) (t := 33) rfl rfl ?hr ?_); (case hr => first | (go_simp; done) | (go_simp; rfl)); intro gz hg w2 hbox hb; have Ba_2 := as0 (z20 Ba_1.out hb); have Fa_2 := as0 (Fa_1.out.below hb); have HB_2 := as0 (z10 HB_1.out hb); have Bz_2 := as0 hbox; have GE_z := as0 (show w.heap.size ≤ gz by rw [hg]; exact HB_1.out.size); have NE_az := as0 (show ga ≠ gz by rw [hg]; exact Nat.ne_of_lt (z70 Ba_1.out)); clear hbox hb hg; clear ya; have ya := za0 Ba_2.out)
    | (go_at_call 58; (with_reducible refine (HCH.out _ HB_2.out).mono ?_); rintro e w3 ⟨rfl, hb⟩; have Ba_3 := as0 (z20 Ba_2.out hb); have Bz_3 := as0 (z20 Bz_2.out hb); have Fa_3 := as0 (Fa_2.out.below hb); have HB_3 := as0 (z10 HB_2.out hb); clear hb; clear ya; have ya := za0 Ba_3.out))
  clear ya
  go_loopw [12, 13] (fun v12 v13 wr => ∃ (vO : Value) (k : Nat), vO = v12 ∧ k ≤ s.hs.length ∧ v13 = .int .i64 (k : Int) ∧ Aside0 (wr.heap[ga]? = some (.cells #[.int .i64 r0.each, .int .i64 r0.guard, .slice Aa0 r0.N.length ca0, .slice Aa1 r0.S.length ca1, .slice Aa2 r0.L.length ca2, .slice Aa3 r0.d.w.length ca3, .slice Aa4 r0.d.u.length ca4, .slice Aa5 r0.d.a.length ca5] 33 (0, 0))) ∧ Aside0 (wr.heap[gz]? = some (.cells #[.int .i64 0, .int .i64 0, .slice none 0 0, .slice none 0 0, .slice none 0 0, .slice none 0 0, .slice none 0 0, .slice none 0 0] 33 (0, 0))) ∧ Aside0 (FR (Not b vO) wr (.agg #[.int .i64 r0.each, .int .i64 r0.guard, .slice Aa0 r0.N.length ca0, .slice Aa1 r0.S.length ca1, .slice Aa2 r0.L.length ca2, .slice Aa3 r0.d.w.length ca3, .slice Aa4 r0.d.u.length ca4, .slice Aa5 r0.d.a.length ca5]) r0) ∧ Aside0 (Below w.heap.size w wr) ∧ Aside0 (Kd.R Kd.string 9 wr w.heap.size (fun _ => True) vO (lefts l (s.hs.take k)))) (fun _ v13 _ => s.hs.length - (intOf v13).toNat)
  case atStart => exact ⟨_, 0, rfl, Nat.zero_le _, rfl, Ba_3, Bz_3, ⟨Fa_3.out.lower (fun k hk => ⟨hk, by simp [Value.ownBlock]⟩)⟩, HB_3, ⟨Kd.R_nil _ _ _ _ _⟩⟩
  case round =>
    obtain ⟨vO, k, rfl, hk, rfl, Ba_10, Bz_10, Fa_10, HB_10, RO_10⟩ := hrel
    obtain ⟨yk, hyk⟩ : ∃ q, q = lefts l (s.hs.take k) := ⟨_, rfl⟩
    rw [← hyk] at RO_10
    have HYK := as0 hyk
    clear hyk
    by_cases hlt : k < s.hs.length
    · obtain ⟨x, hx⟩ : ∃ x, s.hs[k]? = some x := ⟨_, List.getElem?_eq_getElem hlt⟩
      have HX := as0 (show r0.N[k]? = some x.nm by rw [HR0.out]; exact (z63 hx).1)
      have HY := as0 (show r0.L[k]? = some x.lv by rw [HR0.out]; exact (z63 hx).2.2.1)
      have HXX := as0 hx
      have hkI : (k : Int) < (r0.N.length : Int) := by have := HNL.out; omega
      have hkL : (k : Int) < (r0.L.length : Int) := by have := HLL.out; omega
      have hk0 : (0 : Int) ≤ (k : Int) := by omega
      have hkm : k ≤ 300000 := by omega
      have HHX := as0 (fun (W : World) (hW : Below w.heap.size w W) => HHC.out W hW x.nm)
      rw [has_memB] at HHX
      obtain ⟨adNa, hA_, -⟩ := Fa_10.out.adN HX.out
      subst hA_
      obtain ⟨adLa, hA_, -⟩ := Fa_10.out.adL HY.out
      subst hA_
      obtain ⟨lv, hlv⟩ : ∃ q, q = x.lv := ⟨_, rfl⟩
      rw [← hlv] at HY
      have HLV := as0 hlv
      clear hx hlv
      have hyl : yk.length ≤ k := by rw [HYK.out]; unfold lefts; rw [List.length_map]; exact Nat.le_trans (List.length_filter_le _ _) (by simp; omega)
      have HYL := as0 hyl
      clear hyl
      cases hmb : memB x.nm l with
      | true =>
        rw [hmb] at HHX
        have ya := za0 Ba_10.out
        have xn := Fa_10.out.atN HX.out
        have xl := Fa_10.out.atL HY.out
        go_wp2_with (first
    | (go_at_call 59; (with_reducible refine (HHX.out _ HB_10.out).mono ?_); rintro e w11 ⟨rfl, hb0⟩; have hb := Drawn0.below hb0; clear hb0; have Ba_11 := as0 (z20 Ba_10.out hb); have Bz_11 := as0 (z20 Bz_10.out hb); have Fa_11 := as0 (Fa_10.out.below hb); have RO_11 := as0 (Kd.R_below RO_10.out hb); have HB_11 := as0 (z10 HB_10.out hb); clear hb; clear ya xn xl; have ya := za0 Ba_11.out; have xn := Fa_11.out.atN HX.out; have xl := Fa_11.out.atL HY.out))
        go_roundw
        case measure => simp [intOf]; omega
        case rel => exact ⟨_, k + 1, rfl, by omega, by rw [show ((k : Int) + 1) = ((k + 1 : Nat) : Int) by omega], Ba_11, Bz_11, Fa_11, HB_11, ⟨by rw [zs8 HXX.out (by unfold goesL; rw [hmb]; simp), ← HYK.out]; exact RO_11.out⟩⟩
      | false =>
        cases lv with
        | true =>
          rw [hmb] at HHX
          have ya := za0 Ba_10.out
          have xn := Fa_10.out.atN HX.out
          have xl := Fa_10.out.atL HY.out
          go_wp2_with (first
    | (go_at_call 59; (with_reducible refine (HHX.out _ HB_10.out).mono ?_); rintro e w11 ⟨rfl, hb0⟩; have hb := Drawn0.below hb0; clear hb0; have Ba_11 := as0 (z20 Ba_10.out hb); have Bz_11 := as0 (z20 Bz_10.out hb); have Fa_11 := as0 (Fa_10.out.below hb); have RO_11 := as0 (Kd.R_below RO_10.out hb); have HB_11 := as0 (z10 HB_10.out hb); clear hb; clear ya xn xl; have ya := za0 Ba_11.out; have xn := Fa_11.out.atN HX.out; have xl := Fa_11.out.atL HY.out))
          go_roundw
          case measure => simp [intOf]; omega
          case rel => exact ⟨_, k + 1, rfl, by omega, by rw [show ((k : Int) + 1) = ((k + 1 : Nat) : Int) by omega], Ba_11, Bz_11, Fa_11, HB_11, ⟨by rw [zs8 HXX.out (by unfold goesL; rw [← HLV.out]; rfl), ← HYK.out]; exact RO_11.out⟩⟩
        | false =>
          rw [hmb] at HHX
          have ya := za0 Ba_10.out
          have xn := Fa_10.out.atN HX.out
          have xl := Fa_10.out.atL HY.out
          go_wp2_with (first
    | (go_at_call 59; (with_reducible refine (HHX.out _ HB_10.out).mono ?_); rintro e w11 ⟨rfl, hb0⟩; have hb := Drawn0.below hb0; clear hb0; have Ba_11 := as0 (z20 Ba_10.out hb); have Bz_11 := as0 (z20 Bz_10.out hb); have Fa_11 := as0 (Fa_10.out.below hb); have RO_11 := as0 (Kd.R_below RO_10.out hb); have HB_11 := as0 (z10 HB_10.out hb); clear hb; clear ya xn xl; have ya := za0 Ba_11.out; have xn := Fa_11.out.atN HX.out; have xl := Fa_11.out.atL HY.out)
    | ((with_reducible refine zm0 (b := .append) (xs := #[.tmp 51, .tmp 57]) rfl ?_); (try (refine z41 (by rfl) ?_; dsimp only)); at_builtin; refine Kd.R_append Kd.string (w0 := w11) w.heap.size rfl (.tmp 51) (.tmp 57) 27 9 (.string ⟨#[]⟩) 16 rfl Tryz.underlying27 z53 rfl (by decide) (by omega) _ yk x.nm [.string x.nm] (fun _ => True) (fun _ => False) rfl ?aX ?aP (fun _ h => h.elim) (fun _ _ => trivial) ?aO ?aB ?aS ?aL ?_; (case aX => (show Value.slice (some ⟨w11.heap.size, 0, none⟩) 1 1 = _; simp)); (case aP => exact rfl); (case aO => exact RO_11.out); (case aB => exact Below.refl _ _ |>.mono HB_11.out.size); (case aS => exact HB_11.out.size); (case aL => have := HYL.out; omega); intro v12 w12 ho hb hg hat; have HO := as0 ho; have HG := as0 hg; have HAT := as0 hat; clear ho hb hg hat))
          have hg := HG.out
          have RO_12 : Aside0 (Kd.R Kd.string 9 w12 w.heap.size (fun _ => True) v12 (lefts l (s.hs.take (k + 1)))) := ⟨by rw [zxa HXX.out (by unfold goesL; rw [← HLV.out, hmb]; rfl), ← HYK.out]; exact HO.out⟩
          have Ba_12 := as0 ((hg.block ga (z70 Ba_11.out) (Kd.R_ne RO_11.out Ba_11.out (by decide))).trans Ba_11.out)
          have Bz_12 := as0 ((hg.block gz (z70 Bz_11.out) (Kd.R_ne RO_11.out Bz_11.out (by decide))).trans Bz_11.out)
          have Fa_12 := as0 (Fa_11.out.grow hg HAT.out)
          have HB_12 := as0 (HB_11.out.grown hg HB_11.out.size (fun k h => Kd.R_base RO_11.out k h))
          clear hg
          go_roundw
          case measure => simp [intOf]; omega
          case rel => exact ⟨_, k + 1, rfl, by omega, by rw [show ((k : Int) + 1) = ((k + 1 : Nat) : Int) by omega], Ba_12, Bz_12, Fa_12, HB_12, RO_12⟩
    · have hkI : ¬ (k : Int) < (r0.N.length : Int) := by have := HNL.out; omega
      have hke : k = s.hs.length := by omega
      have hyL : yk = L := by rw [HYK.out, HL.out, hke, List.take_length]
      rw [hyL] at RO_10
      have HYK2 := as0 hyL
      clear hyL HYK hke hk hlt
      obtain ⟨A2, n2, rfl⟩ := Kd.R_slice RO_10.out
      have Fb_10 := as0 (Fa_10.out.lower (fun k h => h.1))
      obtain ⟨ya0, ya1, ya2, ya3, ya4, ya5, ya6, ya7⟩ := zy3 Ba_10.out
      go_wp2
      go_loopw [15] (fun v15 wr => ∃ (k : Nat) (s1 : FS) (r1 : RF) (cs : Array Value), k ≤ xs.length ∧ v15 = .int .i64 (k : Int) ∧ Aside0 (r1 = toR s1) ∧ Aside0 (leaveL dl (xs.drop k) s1 = SL) ∧ Aside0 (∀ (j : Nat) (y : HV), k ≤ j → xs[j]? = some y → y ∈ s1.hs) ∧ Aside0 (GB s1 (n + k)) ∧ Aside0 (wr.heap[ga]? = some (.cells cs 33 (0, 0))) ∧ Aside0 (wr.heap[gz]? = some (.cells #[.int .i64 0, .int .i64 0, .slice none 0 0, .slice none 0 0, .slice none 0 0, .slice none 0 0, .slice none 0 0, .slice none 0 0] 33 (0, 0))) ∧ Aside0 (FR b wr (.agg cs) r1) ∧ Aside0 (Below w.heap.size w wr) ∧ Aside0 (Kd.R Kd.string 9 wr w.heap.size (fun _ => True) (.slice A2 L.length n2) L)) (fun v15 _ => xs.length - (intOf v15).toNat)
      case atStart => exact ⟨0, s, r0, _, Nat.zero_le _, rfl, HR0, ⟨HSL.out.symm⟩, ⟨fun j y _ hy => HSUB.out y (List.mem_of_getElem? hy)⟩, HG0, Ba_10, Bz_10, Fb_10, HB_10, RO_10⟩
      case round =>
        obtain ⟨k, s1, r1, cs, hk, rfl, HR1, HLV, HST, HG1, Ba_20, Bz_20, Fa_20, HB_20, RL_20⟩ := hrel
        obtain ⟨Aa0, ca0, Aa1, ca1, Aa2, ca2, Aa3, ca3, Aa4, ca4, Aa5, ca5, hcs⟩ := Fa_20.out.form
        injection hcs with hcs
        subst hcs
        have HLL2 : Aside0 (L.length = xs.length) := ⟨by rw [HLX.out, List.length_map]⟩
        by_cases hlt : k < xs.length
        · obtain ⟨x, hx⟩ : ∃ x, xs[k]? = some x := ⟨_, List.getElem?_eq_getElem hlt⟩
          obtain ⟨i, hi⟩ := List.getElem?_of_mem (HST.out k x (Nat.le_refl _) hx)
          have hkI : (k : Int) < (L.length : Int) := by have := HLL2.out; omega
          have hk0 : (0 : Int) ≤ (k : Int) := by omega
          have HLK := as0 (show L[k]? = some x.nm by rw [HLX.out]; simp [hx])
          obtain ⟨hG2, hmem⟩ := HG1.out.leave (by omega) hi dl
          have hgn := HG1.out.gn x (List.mem_of_getElem? hi)
          obtain ⟨r2, hr2⟩ : ∃ q, q = toR (leaveF s1 x dl) := ⟨_, rfl⟩
          have HLVE := as0 (fun (W : World) (vs : Value) (h : FR b W vs r1) (hbW : FrB b W.heap.size) => rleave_s (b := b) HG1.out (by omega) hi (zk6 hgn) dl (by rw [← HR1.out]; exact h) hbW)
          rw [← hr2] at HLVE
          have HR2 := as0 hr2
          have HST2 : Aside0 (∀ (j : Nat) (y : HV), k + 1 ≤ j → xs[j]? = some y → y ∈ (leaveF s1 x dl).hs) := ⟨fun j y hj hy => hmem y (HST.out j y (by omega) hy) (fun e => by
            have hn := HXD.out
            have h1 : (xs.map (·.nm))[j]? = some x.nm := by simp [hy, e]
            have h2 : (xs.map (·.nm))[k]? = some x.nm := by simp [hx]
            have h3 := zp8 _ j x.nm 0 hn h1
            have h4 := zp8 _ k x.nm 0 hn h2
            omega)⟩
          have HLV2 : Aside0 (leaveL dl (xs.drop (k + 1)) (leaveF s1 x dl) = SL) := ⟨by
            have h1 := HLV.out
            obtain ⟨h2, h3⟩ := List.getElem?_eq_some_iff.1 hx
            rw [List.drop_eq_getElem_cons h2, h3] at h1
            exact h1⟩
          have HG2 := as0 hG2
          obtain ⟨nm, hnm⟩ : ∃ q, q = x.nm := ⟨_, rfl⟩
          rw [← hnm] at HLK HLVE
          clear hx hi hG2 hmem hgn hr2 hnm
          have hAL : ∃ ad, A2 = some ad := by
            obtain ⟨a, h1, -⟩ := (Rd.of_R RL_20.out).at HLK.out
            exact ⟨a, h1⟩
          obtain ⟨adl, rfl⟩ := hAL
          have ya := za0 Ba_20.out
          have xlk := R_at' RL_20.out HLK.out
          go_upto_region 14 with fail
          refine zy1 (n := 8) (S := fun w' => w'.cell? ⟨ga, 0, none⟩ = some (.int .i64 r1.each) ∧ w'.cell? ⟨ga, 1, none⟩ = some (.int .i64 r1.guard) ∧ w'.cell? ⟨ga, 2, none⟩ = some (.slice Aa0 r1.N.length ca0) ∧ w'.cell? ⟨ga, 3, none⟩ = some (.slice Aa1 r1.S.length ca1) ∧ w'.cell? ⟨ga, 4, none⟩ = some (.slice Aa2 r1.L.length ca2) ∧ w'.cell? ⟨ga, 5, none⟩ = some (.slice Aa3 r1.d.w.length ca3) ∧ w'.cell? ⟨ga, 6, none⟩ = some (.slice Aa4 r1.d.u.length ca4) ∧ w'.cell? ⟨ga, 7, none⟩ = some (.slice Aa5 r1.d.a.length ca5) ∧ w'.cell? (adl.add k) = some (.string nm)) (ds := [7]) #[ff,ff,ff,ff,ff,ff,ff,ff] (by kernel_rfl) rfl rfl ⟨ya.1, ya.2.1, ya.2.2.1, ya.2.2.2.1, ya.2.2.2.2.1, ya.2.2.2.2.2.1, ya.2.2.2.2.2.2.1, ya.2.2.2.2.2.2.2.1, xlk⟩ (fun hHeld => ?_); refine zc1 rw23.tab14 (fun HT_ => ?_)
          obtain ⟨w21, hw_⟩ : ∃ W, W = wr.drew := ⟨_, rfl⟩
          rw [← hw_] at hHeld ⊢
          have hb : Below wr.heap.size wr w21 := by rw [hw_]; exact z50 (Below.refl _ _)
          have Ba_21 := as0 (z20 Ba_20.out hb)
          have Bz_21 := as0 (z20 Bz_20.out hb)
          have Fa_21 := as0 (Fa_20.out.below hb)
          have RL_21 := as0 (Kd.R_below RL_20.out hb)
          have HB_21 := as0 (z10 HB_20.out hb)
          clear hb hw_
          clear ya xlk
          have ya := za0 Ba_21.out
          have xlk := R_at' RL_21.out HLK.out
          refine zl0 (i := 1) (N := some 66) (v := ?_) (a' := ?_) #[ff,tt,ff,ff,ff,ff,ff,ff] rfl rfl (zh0 HT_.out (by kernel_rfl)) (fun _ _ _ h => h) (Or.inl ⟨by rfl, ?_⟩) ?_ ?_
          rotate_left
          · intro w'
            go_simp
            with_reducible rfl
          rotate_left
          · simp only [Act.put, lSI, lS0, lS1, ze0, zd0]
            rfl
          refine zl0 (i := 2) (N := some 67) (v := ?_) (a' := ?_) #[ff,tt,tt,ff,ff,ff,ff,ff] rfl rfl (zh0 HT_.out (by kernel_rfl)) (fun _ _ _ h => h) (Or.inl ⟨by rfl, ?_⟩) ?_ ?_
          rotate_left
          · intro w'
            go_simp
            with_reducible rfl
          rotate_left
          · simp only [Act.put, lSI, lS0, lS1, ze0, zd0]
            rfl
          refine zl0 (i := 3) (N := some 68) (v := ?_) (a' := ?_) #[ff,tt,tt,tt,ff,ff,ff,ff] rfl rfl (zh0 HT_.out (by kernel_rfl)) (fun _ _ _ h => h) (Or.inl ⟨by rfl, ?_⟩) ?_ ?_
          rotate_left
          · intro w'
            go_simp
            with_reducible rfl
          rotate_left
          · simp only [Act.put, lSI, lS0, lS1, ze0, zd0]
            rfl
          refine zl0 (i := 5) (N := some 70) (v := ?_) (a' := ?_) #[ff,tt,tt,tt,ff,tt,ff,ff] rfl rfl (zh0 HT_.out (by kernel_rfl)) (fun _ _ _ h => h) (Or.inl ⟨by rfl, ?_⟩) ?_ ?_
          rotate_left
          · intro w'
            go_simp
            with_reducible rfl
          rotate_left
          · simp only [Act.put, lSI, lS0, lS1, ze0, zd0]
            rfl
          refine take_ (i := 0) (N := some 65) (v := ?_) (a' := ?_) #[tt,tt,tt,tt,ff,tt,ff,ff] rfl rfl (zp0 HT_.out (by kernel_rfl)) (fun _ _ _ h => h) (Or.inl ⟨by rfl, ?_⟩) hHeld ?_ ?_
          rotate_left
          · intro w' hS_
            obtain ⟨s0, s1, s2, s3, s4, s5, s6, s7, s8⟩ := hS_
            go_simp
            with_reducible rfl
          rotate_left
          · simp only [Act.put, lSI, lS0, lS1, ze0, zd0]
            rfl
          refine take_ (i := 4) (N := some 69) (v := ?_) (a' := ?_) #[tt,tt,tt,tt,tt,tt,ff,ff] rfl rfl (zp0 HT_.out (by kernel_rfl)) (fun _ _ _ h => h) (Or.inl ⟨by rfl, ?_⟩) hHeld ?_ ?_
          rotate_left
          · intro w' hS_
            obtain ⟨s0, s1, s2, s3, s4, s5, s6, s7, s8⟩ := hS_
            go_simp
            with_reducible rfl
          rotate_left
          · simp only [Act.put, lSI, lS0, lS1, ze0, zd0]
            rfl
          refine zx2 (i := 6) (N := some 71) #[tt,tt,tt,tt,tt,tt,tt,ff] rfl rfl (z21 HT_.out (by kernel_rfl)) (by decide) (fun K hK => ?_)
          refine z02 Tryz.func60 (by kernel_rfl) rfl #[.agg #[.int .i64 r1.each, .int .i64 r1.guard, .slice Aa0 r1.N.length ca0, .slice Aa1 r1.S.length ca1, .slice Aa2 r1.L.length ca2, .slice Aa3 r1.d.w.length ca3, .slice Aa4 r1.d.u.length ca4, .slice Aa5 r1.d.a.length ca5], .string nm, .int .i64 dl] (by rfl) rfl rfl (by (try simp only [List.map_toArray, List.map_cons, List.map_nil]); first | done | rfl) ?_
          refine (HLVE.out _ _ Fa_21.out (zf1 HBB.out HB_21.out.size)).mono ?_
          rintro e w22 ⟨vs_, rfl, hF_, hb⟩
          obtain ⟨Ab0, cb0, Ab1, cb1, Ab2, cb2, Ab3, cb3, Ab4, cb4, Ab5, cb5, rfl⟩ := hF_.form
          have Ba_22 := as0 (z20 Ba_21.out hb)
          have Bz_22 := as0 (z20 Bz_21.out hb)
          have Fa_22 := as0 (Fa_21.out.below hb)
          have RL_22 := as0 (Kd.R_below RL_21.out hb)
          have HB_22 := as0 (z10 HB_21.out hb)
          have Fb_22 := as0 hF_
          clear hb hF_
          clear ya xlk
          have ya := za0 Ba_22.out
          have xlk := R_at' RL_22.out HLK.out
          refine ⟨_, rfl, ?_⟩
          refine hK.out _ _ ⟨ya.1, ya.2.1, ya.2.2.1, ya.2.2.2.1, ya.2.2.2.2.1, ya.2.2.2.2.2.1, ya.2.2.2.2.2.2.1, ya.2.2.2.2.2.2.2.1, xlk⟩ (fun hHeld => ?_)
          clear hK K
          refine zh1 (a' := ?_) ?_ ?_
          rotate_left
          · show Act.put _ (some 71) _ = _
            simp only [Act.put, lSI, lS0, lS1, ze0, zd0]
            rfl
          refine z85 (i := 7) (N := none) #[tt,tt,tt,tt,tt,tt,tt,tt] rfl rfl (z21 HT_.out (by kernel_rfl)) (by decide) (fun K hK => ?_)
          refine put_ (w1 := ?_) (by rfl) rfl ?_ ?_
          rotate_left
          · go_simp
            rfl
          refine hK.out _ _ ?_
          clear hK K
          refine zr2 (zg1 HT_.out (by kernel_rfl)) ?_
          clear hHeld
          obtain ⟨w23, hw_⟩ : ∃ W, W = ((((((((w22.setCell ⟨ga, 0, none⟩ (.int .i64 r2.each)).setCell ⟨ga, 1, none⟩ (.int .i64 r2.guard)).setCell ⟨ga, 2, none⟩ (.slice Ab0 r2.N.length cb0)).setCell ⟨ga, 3, none⟩ (.slice Ab1 r2.S.length cb1)).setCell ⟨ga, 4, none⟩ (.slice Ab2 r2.L.length cb2)).setCell ⟨ga, 5, none⟩ (.slice Ab3 r2.d.w.length cb3)).setCell ⟨ga, 6, none⟩ (.slice Ab4 r2.d.u.length cb4)).setCell ⟨ga, 7, none⟩ (.slice Ab5 r2.d.a.length cb5)) := ⟨_, rfl⟩
          rw [← hw_]
          have Ba_23 := as0 (zu0 (zi0 Ba_22.out) hw_)
          have Bz_23 := as0 (zg0 z30 hw_ NE_az.out.symm Bz_22.out)
          have Fa_23 := as0 (zk0 z30 hw_ Fa_22.out Ba_22.out (by decide))
          have Fb_23 := as0 (zk0 z30 hw_ Fb_22.out Ba_22.out (by decide))
          have RL_23 : Aside0 (Kd.R Kd.string 9 w23 w.heap.size (fun _ => True) (.slice (some adl) L.length n2) L) := ⟨by rw [hw_]; exact Kd.R_mv RL_22.out Ba_22.out (zx0 (by decide)) (fun k hk => z30 hk)⟩
          have HB_23 := as0 (zf0 (zb0 HB_22.out GE_a.out) hw_)
          clear hw_ 
          clear ya xlk
          have ya := za0 Ba_23.out
          have xlk := R_at' RL_23.out HLK.out
          go_wp2
          go_roundw
          case measure => simp [intOf]; omega
          case rel => exact ⟨k + 1, leaveF s1 x dl, r2, _, by omega, by rw [show ((k : Int) + 1) = ((k + 1 : Nat) : Int) by omega], HR2, HLV2, HST2, HG2, Ba_23, Bz_23, Fb_23, HB_23, RL_23⟩
        · have hkI : ¬ (k : Int) < (L.length : Int) := by have := HLL2.out; omega
          have hke : k = xs.length := by omega
          have hSL2 : s1 = SL := by
            have h := HLV.out
            rw [hke, List.drop_eq_nil_of_le (Nat.le_refl _)] at h
            exact h
          have HS1 := as0 hSL2
          have hkn : k ≤ 300000 := by omega
          have HCAME : Aside0 (∃ r, cameL (l.drop 0) s1 = (RES.1, r) ∧ RES.2 = [] ++ r) := ⟨⟨RES.2, by rw [hSL2, List.drop_zero, ← HRES.out], rfl⟩⟩
          clear hSL2 hke hlt HLV HST HS1
          have RL2_20 := as0 (Rd.lower (b' := Not b (.slice none 0 0)) (Rd.of_R RL_20.out) (fun k hk => ⟨HBB.out k hk, by simp [Value.ownBlock]⟩))
          have Fc_20 := as0 (Fa_20.out.lower (b' := Not b (.slice none 0 0)) (fun k hk => ⟨hk, by simp [Value.ownBlock]⟩))
          go_wp2
          go_loopw [11, 16] (fun v11 v16 wr => ∃ (vO : Value) (m : Nat) (s2 : FS) (r2 : RF) (cs : Array Value) (acc : List ByteArray), vO = v11 ∧ m ≤ l.length ∧ v16 = .int .i64 (m : Int) ∧ acc.length ≤ m ∧ Aside0 (r2 = toR s2) ∧ Aside0 (∃ r, cameL (l.drop m) s2 = (RES.1, r) ∧ RES.2 = acc ++ r) ∧ Aside0 (GB s2 (n + k + m)) ∧ Aside0 (wr.heap[ga]? = some (.cells cs 33 (0, 0))) ∧ Aside0 (wr.heap[gz]? = some (.cells #[.int .i64 0, .int .i64 0, .slice none 0 0, .slice none 0 0, .slice none 0 0, .slice none 0 0, .slice none 0 0, .slice none 0 0] 33 (0, 0))) ∧ Aside0 (FR (Not b vO) wr (.agg cs) r2) ∧ Aside0 (Below w.heap.size w wr) ∧ Aside0 (Kd.R Kd.string 9 wr w.heap.size (fun _ => True) vO acc) ∧ Aside0 (RdS (Not b vO) wr (.slice A2 L.length n2) L)) (fun _ v16 _ => l.length - (intOf v16).toNat)
          case atStart => exact ⟨_, 0, s1, r1, _, [], rfl, Nat.zero_le _, rfl, Nat.zero_le _, HR1, HCAME, HG1, Ba_20, Bz_20, Fc_20, HB_20, ⟨Kd.R_nil _ _ _ _ _⟩, RL2_20⟩
          case round =>
            obtain ⟨vO, m, s2, r2, cs, acc, rfl, hm, rfl, hacc, HR2, HCA, HG2, Ba_40, Bz_40, Fa_40, HB_40, RO_40, RL_40⟩ := hrel
            obtain ⟨Aa0, ca0, Aa1, ca1, Aa2, ca2, Aa3, ca3, Aa4, ca4, Aa5, ca5, hcs⟩ := Fa_40.out.form
            injection hcs with hcs
            subst hcs
            clear HCAME
            by_cases hlt : m < l.length
            · obtain ⟨nm, hnm⟩ : ∃ x, l[m]? = some x := ⟨_, List.getElem?_eq_getElem hlt⟩
              have hgn := HGN.out nm (List.mem_of_getElem? hnm)
              have hmI : (m : Int) < (l.length : Int) := by omega
              have hm0 : (0 : Int) ≤ (m : Int) := by omega
              have hdrop : l.drop m = nm :: l.drop (m + 1) := by
                obtain ⟨h2, h3⟩ := List.getElem?_eq_some_iff.1 hnm
                rw [List.drop_eq_getElem_cons h2, h3]
              have hca := HCA.out
              rw [hdrop] at hca
              unfold cameL at hca
              clear HCA hdrop
              obtain ⟨adl, rfl, -⟩ := C_at' (HCC.out _ HB_40.out) hnm
              have HLM := as0 (fun (W : World) (hW : Below w.heap.size w W) => show W.cell? (adl.add m) = some (.string nm) by
                obtain ⟨a, h1, h2⟩ := C_at' (HCC.out W hW) hnm
                injection h1 with h1
                rw [h1]
                exact h2)
              have HAt := as0 (fun (b' : Nat → Prop) (W : World) (vs : Value) (h : FR b' W vs r2) => z61 nm r2 h)
              have hat2 : idxOf r2.N nm 0 = posH s2.hs nm := by rw [HR2.out]; exact HG2.out.at nm
              rw [hat2] at HAt
              clear hat2 hnm
              have HRB : Aside0 (RB r2 (n + k + m)) := ⟨by rw [HR2.out]; exact HG2.out.rb⟩
              have hacc2 : acc.length ≤ 16 := by omega
              rcases zx3 s2.hs nm with ⟨hlook, hpos⟩ | ⟨i, x, hlook, hpos, hx, hxnm⟩
              · rw [hpos] at HAt
                rw [hlook] at hca
                dsimp only at hca
                obtain ⟨acc2, hacc2e⟩ : ∃ q, q = acc ++ [nm] := ⟨_, rfl⟩
                have HACC2 := as0 hacc2e.symm
                have hal : acc2.length ≤ m + 1 := by rw [hacc2e]; simp; omega
                have HCA2 : Aside0 (∃ r, cameL (l.drop (m + 1)) { s2 with hs := s2.hs ++ [⟨nm, 0, false⟩] } = (RES.1, r) ∧ RES.2 = acc2 ++ r) := ⟨by
                  obtain ⟨r, h1, h2⟩ := hca
                  obtain ⟨h3, h4⟩ := Prod.mk.inj h1
                  refine ⟨(cameL (l.drop (m + 1)) { s2 with hs := s2.hs ++ [⟨nm, 0, false⟩] }).2, by rw [← h3], ?_⟩
                  rw [h2, ← h4, hacc2e]
                  simp⟩
                have HG3 := as0 (HG2.out.come hgn hpos)
                obtain ⟨r3, hr3⟩ : ∃ q, q = toR { s2 with hs := s2.hs ++ [⟨nm, 0, false⟩] } := ⟨_, rfl⟩
                have HR3 := as0 hr3
                have EN : Aside0 (r2.N ++ [nm] = r3.N) := ⟨by rw [hr3, HR2.out]; simp [toR]⟩
                have ES : Aside0 (r2.S ++ [0] = r3.S) := ⟨by rw [hr3, HR2.out]; simp [toR]⟩
                have EL : Aside0 (r2.L ++ [false] = r3.L) := ⟨by rw [hr3, HR2.out]; simp [toR]⟩
                have ED : Aside0 (r3.d = r2.d ∧ r3.each = r2.each ∧ r3.guard = r2.guard) := ⟨by rw [hr3, HR2.out]; exact ⟨rfl, rfl, rfl⟩⟩
                have HCP := as0 (fun (b' : Nat → Prop) (W : World) (vs : Value) (h : FR b' W vs r2) => z8b h HRB.out (by omega))
                have hLNl : Aside0 (r2.N.length ≤ 700000 ∧ r2.S.length ≤ 700000 ∧ r2.L.length ≤ 700000) := ⟨by have := HRB.out.m; have := HRB.out.s; have := HRB.out.l; omega⟩
                clear hlook hpos hca hacc2e hr3 hgn
                have ya := za0 Ba_40.out
                have xlm := HLM.out _ HB_40.out
                go_upto_region 18 with fail
                refine zy1 (n := 7) (S := fun w' => w'.cell? ⟨ga, 0, none⟩ = some (.int .i64 r2.each) ∧ w'.cell? ⟨ga, 1, none⟩ = some (.int .i64 r2.guard) ∧ w'.cell? ⟨ga, 2, none⟩ = some (.slice Aa0 r2.N.length ca0) ∧ w'.cell? ⟨ga, 3, none⟩ = some (.slice Aa1 r2.S.length ca1) ∧ w'.cell? ⟨ga, 4, none⟩ = some (.slice Aa2 r2.L.length ca2) ∧ w'.cell? ⟨ga, 5, none⟩ = some (.slice Aa3 r2.d.w.length ca3) ∧ w'.cell? ⟨ga, 6, none⟩ = some (.slice Aa4 r2.d.u.length ca4) ∧ w'.cell? ⟨ga, 7, none⟩ = some (.slice Aa5 r2.d.a.length ca5) ∧ w'.cell? (adl.add m) = some (.string nm)) (ds := []) #[ff,ff,ff,ff,ff,ff,ff] (by kernel_rfl) rfl rfl ⟨ya.1, ya.2.1, ya.2.2.1, ya.2.2.2.1, ya.2.2.2.2.1, ya.2.2.2.2.2.1, ya.2.2.2.2.2.2.1, ya.2.2.2.2.2.2.2.1, xlm⟩ (fun hHeld => ?_); refine zc1 rw23.tab18 (fun HT_ => ?_)
                obtain ⟨w41, hw_⟩ : ∃ W, W = wr.drew := ⟨_, rfl⟩
                rw [← hw_] at hHeld ⊢
                have hb : Below wr.heap.size wr w41 := by rw [hw_]; exact z50 (Below.refl _ _)
                have Ba_41 := as0 (z20 Ba_40.out hb)
                have Bz_41 := as0 (z20 Bz_40.out hb)
                have Fa_41 := as0 (Fa_40.out.below hb)
                have RO_41 := as0 (Kd.R_below RO_40.out hb)
                have RL_41 := as0 (RL_40.out.below hb)
                have HB_41 := as0 (z10 HB_40.out hb)
                clear hb hw_
                clear ya xlm
                have ya := za0 Ba_41.out
                have xlm := HLM.out _ HB_41.out
                refine zl0 (i := 1) (N := some 79) (v := ?_) (a' := ?_) #[ff,tt,ff,ff,ff,ff,ff] rfl rfl (zh0 HT_.out (by kernel_rfl)) (fun _ _ _ h => h) (Or.inl ⟨by rfl, ?_⟩) ?_ ?_
                rotate_left
                · intro w'
                  go_simp
                  with_reducible rfl
                rotate_left
                · simp only [Act.put, lSI, lS0, lS1, ze0, zd0]
                  rfl
                refine zl0 (i := 2) (N := some 80) (v := ?_) (a' := ?_) #[ff,tt,tt,ff,ff,ff,ff] rfl rfl (zh0 HT_.out (by kernel_rfl)) (fun _ _ _ h => h) (Or.inl ⟨by rfl, ?_⟩) ?_ ?_
                rotate_left
                · intro w'
                  go_simp
                  with_reducible rfl
                rotate_left
                · simp only [Act.put, lSI, lS0, lS1, ze0, zd0]
                  rfl
                refine zl0 (i := 3) (N := some 81) (v := ?_) (a' := ?_) #[ff,tt,tt,tt,ff,ff,ff] rfl rfl (zh0 HT_.out (by kernel_rfl)) (fun _ _ _ h => h) (Or.inl ⟨by rfl, ?_⟩) ?_ ?_
                rotate_left
                · intro w'
                  go_simp
                  with_reducible rfl
                rotate_left
                · simp only [Act.put, lSI, lS0, lS1, ze0, zd0]
                  rfl
                refine take_ (i := 0) (N := some 78) (v := ?_) (a' := ?_) #[tt,tt,tt,tt,ff,ff,ff] rfl rfl (zp0 HT_.out (by kernel_rfl)) (fun _ _ _ h => h) (Or.inl ⟨by rfl, ?_⟩) hHeld ?_ ?_
                rotate_left
                · intro w' hS_
                  obtain ⟨s0, s1, s2, s3, s4, s5, s6, s7, s8⟩ := hS_
                  go_simp
                  with_reducible rfl
                rotate_left
                · simp only [Act.put, lSI, lS0, lS1, ze0, zd0]
                  rfl
                refine take_ (i := 4) (N := some 82) (v := ?_) (a' := ?_) #[tt,tt,tt,tt,tt,ff,ff] rfl rfl (zp0 HT_.out (by kernel_rfl)) (fun _ _ _ h => h) (Or.inl ⟨by rfl, ?_⟩) hHeld ?_ ?_
                rotate_left
                · intro w' hS_
                  obtain ⟨s0, s1, s2, s3, s4, s5, s6, s7, s8⟩ := hS_
                  go_simp
                  with_reducible rfl
                rotate_left
                · simp only [Act.put, lSI, lS0, lS1, ze0, zd0]
                  rfl
                refine zx2 (i := 5) (N := some 83) #[tt,tt,tt,tt,tt,tt,ff] rfl rfl (z21 HT_.out (by kernel_rfl)) (by decide) (fun K hK => ?_)
                refine z02 Tryz.func41 (by kernel_rfl) rfl #[.agg #[.int .i64 r2.each, .int .i64 r2.guard, .slice Aa0 r2.N.length ca0, .slice Aa1 r2.S.length ca1, .slice Aa2 r2.L.length ca2, .slice Aa3 r2.d.w.length ca3, .slice Aa4 r2.d.u.length ca4, .slice Aa5 r2.d.a.length ca5], .string nm] (by rfl) rfl rfl (by (try simp only [List.map_toArray, List.map_cons, List.map_nil]); first | done | rfl) ?_
                refine (HAt.out _ _ _ Fa_41.out).mono ?_
                rintro e w42 ⟨rfl, hb⟩
                have Ba_42 := as0 (z20 Ba_41.out hb)
                have Bz_42 := as0 (z20 Bz_41.out hb)
                have Fa_42 := as0 (Fa_41.out.below hb)
                have RO_42 := as0 (Kd.R_below RO_41.out hb)
                have RL_42 := as0 (RL_41.out.below hb)
                have HB_42 := as0 (z10 HB_41.out hb)
                clear hb
                clear ya xlm
                have ya := za0 Ba_42.out
                have xlm := HLM.out _ HB_42.out
                refine ⟨_, rfl, ?_⟩
                refine hK.out _ _ ⟨ya.1, ya.2.1, ya.2.2.1, ya.2.2.2.1, ya.2.2.2.2.1, ya.2.2.2.2.2.1, ya.2.2.2.2.2.2.1, ya.2.2.2.2.2.2.2.1, xlm⟩ (fun hHeld => ?_)
                clear hK K
                refine zh1 (a' := ?_) ?_ ?_
                rotate_left
                · show Act.put _ (some 83) _ = _
                  simp only [Act.put, lSI, lS0, lS1, ze0, zd0]
                  rfl
                refine zl0 (i := 6) (N := some 17) (v := ?_) (a' := ?_) #[tt,tt,tt,tt,tt,tt,tt] rfl rfl (zh0 HT_.out (by kernel_rfl)) (fun _ _ _ h => h) (Or.inl ⟨by rfl, ?_⟩) ?_ ?_
                rotate_left
                · intro w'
                  go_simp
                  with_reducible rfl
                rotate_left
                · simp only [Act.put, lSI, lS0, lS1, ze0, zd0]
                  rfl
                refine zr2 (zg1 HT_.out (by kernel_rfl)) ?_
                clear hHeld
                go_upto_region 23 with (first
    | ((with_reducible refine zm0 (b := .append) (xs := #[.tmp 94, .tmp 99]) rfl ?_); (try (refine z41 (by rfl) ?_; dsimp only)); at_builtin; refine Kd.R_append Kd.string (w0 := w42) w.heap.size rfl (.tmp 94) (.tmp 99) 27 9 (.string ⟨#[]⟩) 16 rfl Tryz.underlying27 z53 rfl (by decide) (by omega) _ acc nm [.string nm] (fun _ => True) (fun _ => False) rfl ?aX ?aP (fun _ h => h.elim) (fun _ _ => trivial) ?aO ?aB ?aS ?aL ?_; (case aX => (show Value.slice (some ⟨w42.heap.size, 0, none⟩) 1 1 = _; simp)); (case aP => exact rfl); (case aO => exact RO_42.out); (case aB => exact Below.refl _ _ |>.mono HB_42.out.size); (case aS => exact HB_42.out.size); (case aL => have := hacc2; omega); intro v2O w43 ho hb hg hat; rw [HACC2.out] at ho; have Ba_43 := as0 ((hg.block ga (z70 Ba_42.out) (Kd.R_ne RO_42.out Ba_42.out (by decide))).trans Ba_42.out); have Bz_43 := as0 ((hg.block gz (z70 Bz_42.out) (Kd.R_ne RO_42.out Bz_42.out (by decide))).trans Bz_42.out); have Fa_43 := as0 (Fa_42.out.grow hg hat); have RL_43 := as0 (RL_42.out.grow hg hat); have HB_43 := as0 (HB_42.out.grown hg HB_42.out.size (fun k h => Kd.R_base RO_42.out k h)); have RO_43 := as0 ho; clear ho hb hg hat; clear ya xlm; have ya := za0 Ba_43.out; have xlm := HLM.out _ HB_43.out)
    | (go_at_call 61; (with_reducible refine (HCP.out _ _ _ Fa_43.out.old).mono ?_); rintro e w44 ⟨AN, cN, AS, cS, AL, cL, A3, c3, A4, c4, A5, c5, rfl, hN_, hS_, hL_, k3, k4, k5, hb⟩; obtain ⟨wc, hwc⟩ : ∃ q, q = w43 := ⟨_, rfl⟩; have OC := as0 (fun q (hq : v2O.ownBlock = some q) => show q < wc.heap.size by rw [hwc]; exact Kd.R_lt RO_43.out q hq); rw [← hwc] at hN_ hS_ hL_ k3 k4 k5; have RLo := as0 (show RdS (Old (Not b v2O) wc.heap.size) w43 (.slice A2 L.length n2) L by rw [hwc]; exact RL_43.out.up (fun k h1 h2 => ⟨h1, h2⟩)); have HW_ := as0 (show w.heap.size ≤ wc.heap.size by rw [hwc]; exact HB_43.out.size); have HCw : Aside0 (Below wc.heap.size wc w44) := ⟨by rw [hwc]; exact hb⟩; have RL_44 := as0 (RLo.out.below hb); have RO_44 := as0 (Kd.R_below RO_43.out hb); have HB_44 := as0 (z10 HB_43.out hb); have Ba_44 := as0 (z20 Ba_43.out hb); have Bz_44 := as0 (z20 Bz_43.out hb); have RN_44 := as0 hN_; have RS_44 := as0 hS_; have RB_44 := as0 hL_; have K3_44 := as0 k3; have K4_44 := as0 k4; have K5_44 := as0 k5; have HC_44 := HCw; clear hb hwc hN_ hS_ hL_ k3 k4 k5 RLo HCw; clear ya xlm; have ya := za0 Ba_44.out; have xlm := HLM.out _ HB_44.out)
    | ((with_reducible refine bx (N := 18) (cs := #[.int .i64 0, .int .i64 0, .slice none 0 0, .slice none 0 0, .slice none 0 0, .slice none 0 0, .slice none 0 0, .slice none 0 0]) (t := 33) rfl rfl ?hr ?_); (case hr => first | (go_simp; done) | (go_simp; rfl)); intro gg hg w45 hbox hb; have Ba_45 := as0 (z20 Ba_44.out hb); have Bz_45 := as0 (z20 Bz_44.out hb); have RO_45 := as0 (Kd.R_below RO_44.out hb); have RL_45 := as0 (RL_44.out.below hb); have RN_45 := as0 (Kd.R_below RN_44.out hb); have RS_45 := as0 (Kd.R_below RS_44.out hb); have RB_45 := as0 (Kd.R_below RB_44.out hb); have K3_45 := as0 (K3_44.out.below hb); have K4_45 := as0 (K4_44.out.below hb); have K5_45 := as0 (K5_44.out.below hb); have HC_45 := as0 (z10 HC_44.out hb); have HB_45 := as0 (z10 HB_44.out hb); have Bg_45 := as0 hbox; have GC_g := as0 (show wc.heap.size ≤ gg by rw [hg]; exact HC_44.out.size); have GE_g := as0 (show w.heap.size ≤ gg by rw [hg]; exact HB_44.out.size); have NE_ag := as0 (show ga ≠ gg by rw [hg]; exact Nat.ne_of_lt (z70 Ba_44.out)); have NE_zg := as0 (show gz ≠ gg by rw [hg]; exact Nat.ne_of_lt (z70 Bz_44.out)); clear hbox hb hg; clear ya xlm; have ya := za0 Ba_45.out; have yg := za0 Bg_45.out; have xlm := HLM.out _ HB_45.out)
    | ((with_reducible refine sx (W := w45) (t := 33) (p := 18) (w1 := set8 w45 gg (.int .i64 r2.each) (.int .i64 r2.guard) (.slice AN r2.N.length cN) (.slice AS r2.S.length cS) (.slice AL r2.L.length cL) (.slice A3 r2.d.w.length c3) (.slice A4 r2.d.u.length c4) (.slice A5 r2.d.a.length c5)) rfl rfl rfl ?hr ?_); (case hr => first | (go_simp; done) | (go_simp; rfl)); intro w46 hw_; have Ba_46 := as0 (zg0 z30 hw_ NE_ag.out Ba_45.out); have Bz_46 := as0 (zg0 z30 hw_ NE_zg.out Bz_45.out); have Bg_46 := as0 (zu0 (zi0 Bg_45.out) hw_); have RO_46 : Aside0 (Kd.R Kd.string 9 w46 w.heap.size (fun _ => True) v2O acc2) := ⟨by rw [hw_]; exact Kd.R_mv RO_45.out Bg_45.out (zx0 (by decide)) (fun k hk => z30 hk)⟩; have RL_46 : Aside0 (RdS (Old (Not b v2O) wc.heap.size) w46 (.slice A2 L.length n2) L) := ⟨by rw [hw_]; exact RL_45.out.far Bg_45.out (by decide) (fun k hk => z30 hk)⟩; have RN_46 : Aside0 (Kd.R Kd.string 9 w46 wc.heap.size (fun _ => True) (.slice AN r2.N.length cN) (r2.N)) := ⟨by rw [hw_]; exact Kd.R_mv RN_45.out Bg_45.out (zx0 (by decide)) (fun k hk => z30 hk)⟩; have RS_46 : Aside0 (Kd.R (Kd.int .i64) 3 w46 wc.heap.size (fun _ => True) (.slice AS r2.S.length cS) (r2.S)) := ⟨by rw [hw_]; exact Kd.R_mv RS_45.out Bg_45.out (zx0 (by decide)) (fun k hk => z30 hk)⟩; have RB_46 : Aside0 (Kd.R Kd.bool 4 w46 wc.heap.size (fun _ => True) (.slice AL r2.L.length cL) (r2.L)) := ⟨by rw [hw_]; exact Kd.R_mv RB_45.out Bg_45.out (zx0 (by decide)) (fun k hk => z30 hk)⟩; have K3_46 : Aside0 (RdS (Old (Not b v2O) wc.heap.size) w46 (.slice A3 r2.d.w.length c3) r2.d.w) := ⟨by rw [hw_]; exact K3_45.out.far Bg_45.out (by decide) (fun k hk => z30 hk)⟩; have K4_46 : Aside0 (RdS (Old (Not b v2O) wc.heap.size) w46 (.slice A4 r2.d.u.length c4) r2.d.u) := ⟨by rw [hw_]; exact K4_45.out.far Bg_45.out (by decide) (fun k hk => z30 hk)⟩; have K5_46 : Aside0 (RdI (Old (Not b v2O) wc.heap.size) w46 (.slice A5 r2.d.a.length c5) r2.d.a) := ⟨by rw [hw_]; exact K5_45.out.far Bg_45.out (by decide) (fun k hk => z30 hk)⟩; have HC_46 : Aside0 (Below wc.heap.size wc w46) := ⟨by rw [hw_]; exact zb0 HC_45.out GC_g.out⟩; have HB_46 := as0 (zf0 (zb0 HB_45.out GE_g.out) hw_); clear hw_ ; clear ya yg xlm; have ya := za0 Ba_46.out; have yg := za0 Bg_46.out; have xlm := HLM.out _ HB_46.out))
                refine zy1 (n := 10) (S := fun w' => w'.cell? ⟨gg, 2, none⟩ = some (.slice AN r2.N.length cN) ∧ w'.cell? (adl.add m) = some (.string nm)) (ds := [9]) #[ff,ff,ff,ff,ff,ff,ff,ff,ff,ff] (by kernel_rfl) rfl rfl ⟨yg.2.2.1, xlm⟩ (fun hHeld => ?_); refine zc1 rw23.tab23 (fun HT_ => ?_)
                obtain ⟨w47, hw_⟩ : ∃ W, W = w46.drew := ⟨_, rfl⟩
                rw [← hw_] at hHeld ⊢
                have hb : Below w46.heap.size w46 w47 := by rw [hw_]; exact z50 (Below.refl _ _)
                have Ba_47 := as0 (z20 Ba_46.out hb)
                have Bz_47 := as0 (z20 Bz_46.out hb)
                have Bg_47 := as0 (z20 Bg_46.out hb)
                have RO_47 := as0 (Kd.R_below RO_46.out hb)
                have RL_47 := as0 (RL_46.out.below hb)
                have RN_47 := as0 (Kd.R_below RN_46.out hb)
                have RS_47 := as0 (Kd.R_below RS_46.out hb)
                have RB_47 := as0 (Kd.R_below RB_46.out hb)
                have K3_47 := as0 (K3_46.out.below hb)
                have K4_47 := as0 (K4_46.out.below hb)
                have K5_47 := as0 (K5_46.out.below hb)
                have HC_47 := as0 (z10 HC_46.out hb)
                have HB_47 := as0 (z10 HB_46.out hb)
                clear hb hw_
                clear ya yg xlm
                have ya := za0 Ba_47.out
                have yg := za0 Bg_47.out
                have xlm := HLM.out _ HB_47.out
                refine zl0 (i := 0) (N := some 105) (v := ?_) (a' := ?_) #[tt,ff,ff,ff,ff,ff,ff,ff,ff,ff] rfl rfl (zh0 HT_.out (by kernel_rfl)) (fun _ _ _ h => h) (Or.inl ⟨by rfl, ?_⟩) ?_ ?_
                rotate_left
                · intro w'
                  go_simp
                  with_reducible rfl
                rotate_left
                · simp only [Act.put, lSI, lS0, lS1, ze0, zd0]
                  rfl
                refine zl0 (i := 2) (N := some 107) (v := ?_) (a' := ?_) #[tt,ff,tt,ff,ff,ff,ff,ff,ff,ff] rfl rfl (zh0 HT_.out (by kernel_rfl)) (fun _ _ _ h => h) (Or.inl ⟨by rfl, ?_⟩) ?_ ?_
                rotate_left
                · intro w'
                  go_simp
                  with_reducible rfl
                rotate_left
                · simp only [Act.put, lSI, lS0, lS1, ze0, zd0]
                  rfl
                refine zl0 (i := 3) (N := some 108) (v := ?_) (a' := ?_) #[tt,ff,tt,tt,ff,ff,ff,ff,ff,ff] rfl rfl (zh0 HT_.out (by kernel_rfl)) (fun _ _ _ h => h) (Or.inl ⟨by rfl, ?_⟩) ?_ ?_
                rotate_left
                · intro w'
                  go_simp
                  with_reducible rfl
                rotate_left
                · simp only [Act.put, lSI, lS0, lS1, ze0, zd0]
                  rfl
                refine zl0 (i := 4) (N := some 109) (v := ?_) (a' := ?_) #[tt,ff,tt,tt,tt,ff,ff,ff,ff,ff] rfl rfl (zh0 HT_.out (by kernel_rfl)) (fun _ _ _ h => h) (Or.inl ⟨by rfl, ?_⟩) ?_ ?_
                rotate_left
                · intro w'
                  go_simp
                  with_reducible rfl
                rotate_left
                · simp only [Act.put, lSI, lS0, lS1, ze0, zd0]
                  rfl
                refine take_ (i := 1) (N := some 106) (v := ?_) (a' := ?_) #[tt,tt,tt,tt,tt,ff,ff,ff,ff,ff] rfl rfl (zp0 HT_.out (by kernel_rfl)) (fun _ _ _ h => h) (Or.inl ⟨by rfl, ?_⟩) hHeld ?_ ?_
                rotate_left
                · intro w' hS_
                  obtain ⟨s0, s1⟩ := hS_
                  go_simp
                  with_reducible rfl
                rotate_left
                · simp only [Act.put, lSI, lS0, lS1, ze0, zd0]
                  rfl
                refine take_ (i := 5) (N := some 110) (v := ?_) (a' := ?_) #[tt,tt,tt,tt,tt,tt,ff,ff,ff,ff] rfl rfl (zp0 HT_.out (by kernel_rfl)) (fun _ _ _ h => h) (Or.inl ⟨by rfl, ?_⟩) hHeld ?_ ?_
                rotate_left
                · intro w' hS_
                  obtain ⟨s0, s1⟩ := hS_
                  go_simp
                  with_reducible rfl
                rotate_left
                · simp only [Act.put, lSI, lS0, lS1, ze0, zd0]
                  rfl
                refine zx2 (i := 6) (N := some 111) #[tt,tt,tt,tt,tt,tt,tt,ff,ff,ff] rfl rfl (z21 HT_.out (by kernel_rfl)) (by decide) (fun K hK => ?_)
                refine zv8 (w1 := ?_) (v := ?_) (by rfl) rfl ?_ ?_
                rotate_left 2
                · go_simp
                  constructor
                  · rfl
                  · rfl
                refine hK.out _ _ ⟨(z60 (zj0 Bg_47.out _) 2).trans rfl, HLM.out _ (z80 HB_47.out _)⟩ (fun hHeld => ?_)
                clear hK K
                refine zh1 (a' := ?_) ?_ ?_
                rotate_left
                · show Act.put _ (some 111) _ = _
                  simp only [Act.put, lSI, lS0, lS1, ze0, zd0]
                  rfl
                refine zx2 (i := 7) (N := some 112) #[tt,tt,tt,tt,tt,tt,tt,tt,ff,ff] rfl rfl (z21 HT_.out (by kernel_rfl)) (by decide) (fun K hK => ?_)
                refine Kd.R_append_step Kd.string (w0 := wc) wc.heap.size (by rfl) (.tmp 106) (.tmp 111) 27 9 (.string ⟨#[]⟩) 16 rfl Tryz.underlying27 info9s rfl (by decide) (by omega) (.slice AN r2.N.length cN) r2.N nm [.string nm] (fun _ => True) (fun _ => False) (by rfl) (by rfl) ?aP (fun _ h => h.elim) (fun _ _ => trivial) ?aO ?aB ?aS ?aL ?_
                (case aP => rfl); (case aO => exact RN_47.out); (case aB => exact HC_47.out); (case aS => exact HC_47.out.size); (case aL => have := hLNl.out.1; omega)
                intro u23 w48 ho hb_ hg hat
                rw [EN.out] at ho
                obtain ⟨AN3, cN3, hu_⟩ := Kd.R_slice ho
                subst hu_
                have RN_48 := as0 ho
                have Ba_48 := as0 ((hg.block ga (z70 Ba_47.out) (Kd.R_ne RN_47.out Ba_47.out (by decide))).trans Ba_47.out)
                have Bz_48 := as0 ((hg.block gz (z70 Bz_47.out) (Kd.R_ne RN_47.out Bz_47.out (by decide))).trans Bz_47.out)
                have Bg_48 := as0 ((hg.block gg (z70 Bg_47.out) (Kd.R_ne RN_47.out Bg_47.out (by decide))).trans Bg_47.out)
                have K3_48 := as0 (K3_47.out.growOld RN_47.out hg)
                have K4_48 := as0 (K4_47.out.growOld RN_47.out hg)
                have K5_48 := as0 (K5_47.out.growOld RN_47.out hg)
                have RL_48 := as0 (RL_47.out.growOld RN_47.out hg)
                have RO_48 := as0 (Kd.R_grown2 RO_47.out rfl hg (zv5 RN_47.out OC.out))
                have RS_48 := as0 (Kd.R_grown2 RS_47.out rfl hg (zp1 RN_47.out RS_47.out (by decide)))
                have RB_48 := as0 (Kd.R_grown2 RB_47.out rfl hg (zp1 RN_47.out RB_47.out (by decide)))
                have HB_48 := as0 (HB_47.out.grown hg HB_47.out.size (fun k h => Nat.le_trans HW_.out (Kd.R_base RN_47.out k h)))
                have HC_48 := as0 (HC_47.out.grown hg HC_47.out.size (fun k h => Kd.R_base RN_47.out k h))
                clear ho hb_ hg hat
                clear ya yg xlm
                have ya := za0 Ba_48.out
                have yg := za0 Bg_48.out
                have xlm := HLM.out _ HB_48.out
                refine hK.out _ _ ⟨(z60 Bg_48.out 2).trans rfl, HLM.out _ HB_48.out⟩ (fun hHeld => ?_)
                clear hK K
                refine zh1 (a' := ?_) ?_ ?_
                rotate_left
                · show Act.put _ (some 112) _ = _
                  simp only [Act.put, lSI, lS0, lS1, ze0, zd0]
                  rfl
                refine zl0 (i := 8) (N := some 113) (v := ?_) (a' := ?_) #[tt,tt,tt,tt,tt,tt,tt,tt,tt,ff] rfl rfl (zh0 HT_.out (by kernel_rfl)) (fun _ _ _ h => h) (Or.inl ⟨by rfl, ?_⟩) ?_ ?_
                rotate_left
                · intro w'
                  go_simp
                  with_reducible rfl
                rotate_left
                · simp only [Act.put, lSI, lS0, lS1, ze0, zd0]
                  rfl
                refine z85 (i := 9) (N := none) #[tt,tt,tt,tt,tt,tt,tt,tt,tt,tt] rfl rfl (z21 HT_.out (by kernel_rfl)) (by decide) (fun K hK => ?_)
                refine put_ (w1 := ?_) (by rfl) rfl ?_ ?_
                rotate_left
                · go_simp
                  rfl
                refine hK.out _ _ ?_
                clear hK K
                refine zr2 (zg1 HT_.out (by kernel_rfl)) ?_
                clear hHeld
                obtain ⟨w49, hw_⟩ : ∃ W, W = (w48.setCell ⟨gg, 2, none⟩ (.slice AN3 r3.N.length cN3)) := ⟨_, rfl⟩
                rw [← hw_]
                have Ba_49 := as0 (zg0 zv0 hw_ NE_ag.out Ba_48.out)
                have Bz_49 := as0 (zg0 zv0 hw_ NE_zg.out Bz_48.out)
                have Bg_49 := as0 (zu0 (zz1 Bg_48.out 2 (.slice AN3 r3.N.length cN3) rfl) hw_)
                have RO_49 : Aside0 (Kd.R Kd.string 9 w49 w.heap.size (fun _ => True) v2O acc2) := ⟨by rw [hw_]; exact Kd.R_mv RO_48.out Bg_48.out (zx0 (by decide)) (fun k hk => zv0 hk)⟩
                have RL_49 : Aside0 (RdS (Old (Not b v2O) wc.heap.size) w49 (.slice A2 L.length n2) L) := ⟨by rw [hw_]; exact RL_48.out.far Bg_48.out (by decide) (fun k hk => zv0 hk)⟩
                have RN_49 : Aside0 (Kd.R Kd.string 9 w49 wc.heap.size (fun _ => True) (.slice AN3 r3.N.length cN3) (r3.N)) := ⟨by rw [hw_]; exact Kd.R_mv RN_48.out Bg_48.out (zx0 (by decide)) (fun k hk => zv0 hk)⟩
                have RS_49 : Aside0 (Kd.R (Kd.int .i64) 3 w49 wc.heap.size (fun _ => True) (.slice AS r2.S.length cS) (r2.S)) := ⟨by rw [hw_]; exact Kd.R_mv RS_48.out Bg_48.out (zx0 (by decide)) (fun k hk => zv0 hk)⟩
                have RB_49 : Aside0 (Kd.R Kd.bool 4 w49 wc.heap.size (fun _ => True) (.slice AL r2.L.length cL) (r2.L)) := ⟨by rw [hw_]; exact Kd.R_mv RB_48.out Bg_48.out (zx0 (by decide)) (fun k hk => zv0 hk)⟩
                have K3_49 : Aside0 (RdS (Old (Not b v2O) wc.heap.size) w49 (.slice A3 r2.d.w.length c3) r2.d.w) := ⟨by rw [hw_]; exact K3_48.out.far Bg_48.out (by decide) (fun k hk => zv0 hk)⟩
                have K4_49 : Aside0 (RdS (Old (Not b v2O) wc.heap.size) w49 (.slice A4 r2.d.u.length c4) r2.d.u) := ⟨by rw [hw_]; exact K4_48.out.far Bg_48.out (by decide) (fun k hk => zv0 hk)⟩
                have K5_49 : Aside0 (RdI (Old (Not b v2O) wc.heap.size) w49 (.slice A5 r2.d.a.length c5) r2.d.a) := ⟨by rw [hw_]; exact K5_48.out.far Bg_48.out (by decide) (fun k hk => zv0 hk)⟩
                have HC_49 : Aside0 (Below wc.heap.size wc w49) := ⟨by rw [hw_]; exact z92 HC_48.out GC_g.out⟩
                have HB_49 := as0 (zf0 (z92 HB_48.out GE_g.out) hw_)
                clear hw_
                clear ya yg xlm
                have ya := za0 Ba_49.out
                have yg := za0 Bg_49.out
                have xlm := HLM.out _ HB_49.out
                go_wp2_with (first
    | ((with_reducible refine zm0 (b := .append) (xs := #[.tmp 115, .tmp 116]) rfl ?_); (try (refine z41 (by rfl) ?_; dsimp only)); at_builtin; refine Kd.R_append (Kd.int .i64) (w0 := w49) wc.heap.size rfl (.tmp 115) (.tmp 116) 28 3 (.int .i64 0) 8 rfl Tryz.underlying28 z76 rfl (by decide) (by omega) _ r2.S (0 : Int) [.int .i64 0] (fun _ => True) (fun _ => False) rfl ?aX ?aP (fun _ h => h.elim) (fun _ _ => trivial) ?aO ?aB ?aS ?aL ?_; (case aX => (show Value.slice (some ⟨w49.heap.size, 0, none⟩) 1 1 = _; simp)); (case aP => exact rfl); (case aO => exact RS_49.out); (case aB => exact Below.refl _ _ |>.mono HC_49.out.size); (case aS => exact HC_49.out.size); (case aL => have := hLNl.out.2.1; omega); intro u_ w50 ho hb_ hg hat; rw [ES.out] at ho; obtain ⟨AS3, cS3, hu_⟩ := Kd.R_slice ho; subst hu_; have RS_50 := as0 ho; have Ba_50 := as0 ((hg.block ga (z70 Ba_49.out) (Kd.R_ne RS_49.out Ba_49.out (by decide))).trans Ba_49.out); have Bz_50 := as0 ((hg.block gz (z70 Bz_49.out) (Kd.R_ne RS_49.out Bz_49.out (by decide))).trans Bz_49.out); have Bg_50 := as0 ((hg.block gg (z70 Bg_49.out) (Kd.R_ne RS_49.out Bg_49.out (by decide))).trans Bg_49.out); have K3_50 := as0 (K3_49.out.growOld RS_49.out hg); have K4_50 := as0 (K4_49.out.growOld RS_49.out hg); have K5_50 := as0 (K5_49.out.growOld RS_49.out hg); have RL_50 := as0 (RL_49.out.growOld RS_49.out hg); have RO_50 := as0 (Kd.R_grown2 RO_49.out rfl hg (zv5 RS_49.out OC.out)); have RN_50 := as0 (Kd.R_grown2 RN_49.out rfl hg (zp1 RS_49.out RN_49.out (by decide))); have RB_50 := as0 (Kd.R_grown2 RB_49.out rfl hg (zp1 RS_49.out RB_49.out (by decide))); have HB_50 := as0 (HB_49.out.grown hg HB_49.out.size (fun k h => Nat.le_trans HW_.out (Kd.R_base RS_49.out k h))); have HC_50 := as0 (HC_49.out.grown hg HC_49.out.size (fun k h => Kd.R_base RS_49.out k h)); clear ho hb_ hg hat; clear ya yg xlm; have ya := za0 Ba_50.out; have yg := za0 Bg_50.out; have xlm := HLM.out _ HB_50.out)
    | ((with_reducible refine sx (W := w50) (t := 28) (p := 118) (w1 := (w50.setCell ⟨gg, 3, none⟩ (.slice AS3 r3.S.length cS3))) rfl rfl rfl ?hr ?_); (case hr => first | (go_simp; done) | (go_simp; rfl)); intro w51 hw_; have Ba_51 := as0 (zg0 zv0 hw_ NE_ag.out Ba_50.out); have Bz_51 := as0 (zg0 zv0 hw_ NE_zg.out Bz_50.out); have Bg_51 := as0 (zu0 (zz1 Bg_50.out 3 (.slice AS3 r3.S.length cS3) rfl) hw_); have RO_51 : Aside0 (Kd.R Kd.string 9 w51 w.heap.size (fun _ => True) v2O acc2) := ⟨by rw [hw_]; exact Kd.R_mv RO_50.out Bg_50.out (zx0 (by decide)) (fun k hk => zv0 hk)⟩; have RL_51 : Aside0 (RdS (Old (Not b v2O) wc.heap.size) w51 (.slice A2 L.length n2) L) := ⟨by rw [hw_]; exact RL_50.out.far Bg_50.out (by decide) (fun k hk => zv0 hk)⟩; have RN_51 : Aside0 (Kd.R Kd.string 9 w51 wc.heap.size (fun _ => True) (.slice AN3 r3.N.length cN3) (r3.N)) := ⟨by rw [hw_]; exact Kd.R_mv RN_50.out Bg_50.out (zx0 (by decide)) (fun k hk => zv0 hk)⟩; have RS_51 : Aside0 (Kd.R (Kd.int .i64) 3 w51 wc.heap.size (fun _ => True) (.slice AS3 r3.S.length cS3) (r3.S)) := ⟨by rw [hw_]; exact Kd.R_mv RS_50.out Bg_50.out (zx0 (by decide)) (fun k hk => zv0 hk)⟩; have RB_51 : Aside0 (Kd.R Kd.bool 4 w51 wc.heap.size (fun _ => True) (.slice AL r2.L.length cL) (r2.L)) := ⟨by rw [hw_]; exact Kd.R_mv RB_50.out Bg_50.out (zx0 (by decide)) (fun k hk => zv0 hk)⟩; have K3_51 : Aside0 (RdS (Old (Not b v2O) wc.heap.size) w51 (.slice A3 r2.d.w.length c3) r2.d.w) := ⟨by rw [hw_]; exact K3_50.out.far Bg_50.out (by decide) (fun k hk => zv0 hk)⟩; have K4_51 : Aside0 (RdS (Old (Not b v2O) wc.heap.size) w51 (.slice A4 r2.d.u.length c4) r2.d.u) := ⟨by rw [hw_]; exact K4_50.out.far Bg_50.out (by decide) (fun k hk => zv0 hk)⟩; have K5_51 : Aside0 (RdI (Old (Not b v2O) wc.heap.size) w51 (.slice A5 r2.d.a.length c5) r2.d.a) := ⟨by rw [hw_]; exact K5_50.out.far Bg_50.out (by decide) (fun k hk => zv0 hk)⟩; have HC_51 : Aside0 (Below wc.heap.size wc w51) := ⟨by rw [hw_]; exact z92 HC_50.out GC_g.out⟩; have HB_51 := as0 (zf0 (z92 HB_50.out GE_g.out) hw_); clear hw_ ; clear ya yg xlm; have ya := za0 Ba_51.out; have yg := za0 Bg_51.out; have xlm := HLM.out _ HB_51.out)
    | ((with_reducible refine zm0 (b := .append) (xs := #[.tmp 120, .tmp 121]) rfl ?_); (try (refine z41 (by rfl) ?_; dsimp only)); at_builtin; refine Kd.R_append Kd.bool (w0 := w51) wc.heap.size rfl (.tmp 120) (.tmp 121) 29 4 (.bool false) 1 rfl Tryz.underlying29 info4 rfl (by decide) (by omega) _ r2.L false [.bool false] (fun _ => True) (fun _ => False) rfl ?aX ?aP (fun _ h => h.elim) (fun _ _ => trivial) ?aO ?aB ?aS ?aL ?_; (case aX => (show Value.slice (some ⟨w51.heap.size, 0, none⟩) 1 1 = _; simp)); (case aP => exact rfl); (case aO => exact RB_51.out); (case aB => exact Below.refl _ _ |>.mono HC_51.out.size); (case aS => exact HC_51.out.size); (case aL => have := hLNl.out.2.2; omega); intro u_ w52 ho hb_ hg hat; rw [EL.out] at ho; obtain ⟨AL3, cL3, hu_⟩ := Kd.R_slice ho; subst hu_; have RB_52 := as0 ho; have Ba_52 := as0 ((hg.block ga (z70 Ba_51.out) (Kd.R_ne RB_51.out Ba_51.out (by decide))).trans Ba_51.out); have Bz_52 := as0 ((hg.block gz (z70 Bz_51.out) (Kd.R_ne RB_51.out Bz_51.out (by decide))).trans Bz_51.out); have Bg_52 := as0 ((hg.block gg (z70 Bg_51.out) (Kd.R_ne RB_51.out Bg_51.out (by decide))).trans Bg_51.out); have K3_52 := as0 (K3_51.out.growOld RB_51.out hg); have K4_52 := as0 (K4_51.out.growOld RB_51.out hg); have K5_52 := as0 (K5_51.out.growOld RB_51.out hg); have RL_52 := as0 (RL_51.out.growOld RB_51.out hg); have RO_52 := as0 (Kd.R_grown2 RO_51.out rfl hg (zv5 RB_51.out OC.out)); have RN_52 := as0 (Kd.R_grown2 RN_51.out rfl hg (zp1 RB_51.out RN_51.out (by decide))); have RS_52 := as0 (Kd.R_grown2 RS_51.out rfl hg (zp1 RB_51.out RS_51.out (by decide))); have HB_52 := as0 (HB_51.out.grown hg HB_51.out.size (fun k h => Nat.le_trans HW_.out (Kd.R_base RB_51.out k h))); have HC_52 := as0 (HC_51.out.grown hg HC_51.out.size (fun k h => Kd.R_base RB_51.out k h)); clear ho hb_ hg hat; clear ya yg xlm; have ya := za0 Ba_52.out; have yg := za0 Bg_52.out; have xlm := HLM.out _ HB_52.out)
    | ((with_reducible refine sx (W := w52) (t := 29) (p := 123) (w1 := (w52.setCell ⟨gg, 4, none⟩ (.slice AL3 r3.L.length cL3))) rfl rfl rfl ?hr ?_); (case hr => first | (go_simp; done) | (go_simp; rfl)); intro w53 hw_; have Ba_53 := as0 (zg0 zv0 hw_ NE_ag.out Ba_52.out); have Bz_53 := as0 (zg0 zv0 hw_ NE_zg.out Bz_52.out); have Bg_53 := as0 (zu0 (zz1 Bg_52.out 4 (.slice AL3 r3.L.length cL3) rfl) hw_); have RO_53 : Aside0 (Kd.R Kd.string 9 w53 w.heap.size (fun _ => True) v2O acc2) := ⟨by rw [hw_]; exact Kd.R_mv RO_52.out Bg_52.out (zx0 (by decide)) (fun k hk => zv0 hk)⟩; have RL_53 : Aside0 (RdS (Old (Not b v2O) wc.heap.size) w53 (.slice A2 L.length n2) L) := ⟨by rw [hw_]; exact RL_52.out.far Bg_52.out (by decide) (fun k hk => zv0 hk)⟩; have RN_53 : Aside0 (Kd.R Kd.string 9 w53 wc.heap.size (fun _ => True) (.slice AN3 r3.N.length cN3) (r3.N)) := ⟨by rw [hw_]; exact Kd.R_mv RN_52.out Bg_52.out (zx0 (by decide)) (fun k hk => zv0 hk)⟩; have RS_53 : Aside0 (Kd.R (Kd.int .i64) 3 w53 wc.heap.size (fun _ => True) (.slice AS3 r3.S.length cS3) (r3.S)) := ⟨by rw [hw_]; exact Kd.R_mv RS_52.out Bg_52.out (zx0 (by decide)) (fun k hk => zv0 hk)⟩; have RB_53 : Aside0 (Kd.R Kd.bool 4 w53 wc.heap.size (fun _ => True) (.slice AL3 r3.L.length cL3) (r3.L)) := ⟨by rw [hw_]; exact Kd.R_mv RB_52.out Bg_52.out (zx0 (by decide)) (fun k hk => zv0 hk)⟩; have K3_53 : Aside0 (RdS (Old (Not b v2O) wc.heap.size) w53 (.slice A3 r2.d.w.length c3) r2.d.w) := ⟨by rw [hw_]; exact K3_52.out.far Bg_52.out (by decide) (fun k hk => zv0 hk)⟩; have K4_53 : Aside0 (RdS (Old (Not b v2O) wc.heap.size) w53 (.slice A4 r2.d.u.length c4) r2.d.u) := ⟨by rw [hw_]; exact K4_52.out.far Bg_52.out (by decide) (fun k hk => zv0 hk)⟩; have K5_53 : Aside0 (RdI (Old (Not b v2O) wc.heap.size) w53 (.slice A5 r2.d.a.length c5) r2.d.a) := ⟨by rw [hw_]; exact K5_52.out.far Bg_52.out (by decide) (fun k hk => zv0 hk)⟩; have HC_53 : Aside0 (Below wc.heap.size wc w53) := ⟨by rw [hw_]; exact z92 HC_52.out GC_g.out⟩; have HB_53 := as0 (zf0 (z92 HB_52.out GE_g.out) hw_); clear hw_ ; clear ya yg xlm; have ya := za0 Ba_53.out; have yg := za0 Bg_53.out; have xlm := HLM.out _ HB_53.out; have hnot : ∀ k, wc.heap.size ≤ k → Not b v2O k := fun k hk => ⟨HBB.out k (Nat.le_trans HW_.out hk), fun e => by have := OC.out k e.symm; omega⟩; have Fn_53 : Aside0 (FR (Not b v2O) w53 (.agg #[.int .i64 r2.each, .int .i64 r2.guard, .slice AN3 r3.N.length cN3, .slice AS3 r3.S.length cS3, .slice AL3 r3.L.length cL3, .slice A3 r2.d.w.length c3, .slice A4 r2.d.u.length c4, .slice A5 r2.d.a.length c5]) r3) := ⟨⟨_, _, _, _, _, _, by rw [ED.out.2.1, ED.out.2.2], (Rd.of_R RN_53.out).lower hnot, (Rd.of_R RS_53.out).lower hnot, (Rd.of_R RB_53.out).lower hnot, by rw [ED.out.1]; exact K3_53.out.lower (fun _ h => h.1), by rw [ED.out.1]; exact K4_53.out.lower (fun _ h => h.1), by rw [ED.out.1]; exact K5_53.out.lower (fun _ h => h.1)⟩⟩; have RL2_53 := as0 (RL_53.out.lower (fun _ h => h.1)); clear hnot)
    | ((with_reducible refine sx (W := w53) (t := 33) (p := 3) (w1 := set8 w53 ga (.int .i64 r2.each) (.int .i64 r2.guard) (.slice AN3 r3.N.length cN3) (.slice AS3 r3.S.length cS3) (.slice AL3 r3.L.length cL3) (.slice A3 r2.d.w.length c3) (.slice A4 r2.d.u.length c4) (.slice A5 r2.d.a.length c5)) rfl rfl rfl ?hr ?_); (case hr => first | (go_simp; done) | (go_simp; rfl)); intro w54 hw_; have Ba_54 := as0 (zu0 (zi0 Ba_53.out) hw_); have Bz_54 := as0 (zg0 z30 hw_ NE_az.out.symm Bz_53.out); have Bg_54 := as0 (zg0 z30 hw_ NE_ag.out.symm Bg_53.out); have RO_54 : Aside0 (Kd.R Kd.string 9 w54 w.heap.size (fun _ => True) v2O acc2) := ⟨by rw [hw_]; exact Kd.R_mv RO_53.out Ba_53.out (zx0 (by decide)) (fun k hk => z30 hk)⟩; have RL2_54 : Aside0 (RdS (Not b v2O) w54 (.slice A2 L.length n2) L) := ⟨by rw [hw_]; exact RL2_53.out.far Ba_53.out (by decide) (fun k hk => z30 hk)⟩; have Fn_54 : Aside0 (FR (Not b v2O) w54 (.agg #[.int .i64 r2.each, .int .i64 r2.guard, .slice AN3 r3.N.length cN3, .slice AS3 r3.S.length cS3, .slice AL3 r3.L.length cL3, .slice A3 r2.d.w.length c3, .slice A4 r2.d.u.length c4, .slice A5 r2.d.a.length c5]) r3) := ⟨by rw [hw_]; exact Fn_53.out.far Ba_53.out (by decide) (by decide) (by decide) (fun k hk => z30 hk)⟩; have HB_54 := as0 (zf0 (zb0 HB_53.out GE_a.out) hw_); clear hw_ ; clear ya yg xlm; have ya := za0 Ba_54.out; have yg := za0 Bg_54.out; have xlm := HLM.out _ HB_54.out))
                go_roundw
                case measure => simp [intOf]; omega
                case rel => exact ⟨_, m + 1, _, r3, _, acc2, rfl, by omega, by rw [show ((m : Int) + 1) = ((m + 1 : Nat) : Int) by omega], hal, HR3, HCA2, HG3, Ba_54, Bz_54, Fn_54, HB_54, RO_54, RL2_54⟩
              · rw [hpos] at HAt
                rw [hlook] at hca
                dsimp only at hca
                have hil := (z63 hx).2.2.2
                rw [← HR2.out] at hil
                have hiL : (i : Int) < (r2.L.length : Int) := by have := HRB.out.l; omega
                have hiI : (i : Int) < (r2.S.length : Int) := by have := HRB.out.s; omega
                have hi0 : (0 : Int) ≤ (i : Int) := by omega
                have hge : decide (0 ≤ (i : Int)) = true := decide_eq_true hi0
                have HY := as0 (show r2.L[i]? = some x.lv by rw [HR2.out]; exact (z63 hx).2.2.1)
                have HX := as0 (show r2.S[i]? = some x.st by rw [HR2.out]; exact (z63 hx).2.1)
                obtain ⟨adLa, hA_, -⟩ := Fa_40.out.adL HY.out
                subst hA_
                cases hlv : x.lv with
                | false =>
                    rw [hlv] at HY
                    rw [if_neg (by rw [hlv]; decide)] at hca
                    have HCA2 := as0 hca
                    have HG3 := as0 (HG2.out.mono (Nat.le_succ _))
                    clear hlook hpos hca hx hxnm hgn hil HX hlv
                    have ya := za0 Ba_40.out
                    have xlm := HLM.out _ HB_40.out
                    have xl := Fa_40.out.atL HY.out
                    go_upto_region 18 with fail
                    refine zy1 (n := 7) (S := fun w' => w'.cell? ⟨ga, 0, none⟩ = some (.int .i64 r2.each) ∧ w'.cell? ⟨ga, 1, none⟩ = some (.int .i64 r2.guard) ∧ w'.cell? ⟨ga, 2, none⟩ = some (.slice Aa0 r2.N.length ca0) ∧ w'.cell? ⟨ga, 3, none⟩ = some (.slice Aa1 r2.S.length ca1) ∧ w'.cell? ⟨ga, 4, none⟩ = some (.slice (some adLa) r2.L.length ca2) ∧ w'.cell? ⟨ga, 5, none⟩ = some (.slice Aa3 r2.d.w.length ca3) ∧ w'.cell? ⟨ga, 6, none⟩ = some (.slice Aa4 r2.d.u.length ca4) ∧ w'.cell? ⟨ga, 7, none⟩ = some (.slice Aa5 r2.d.a.length ca5) ∧ w'.cell? (adl.add m) = some (.string nm)) (ds := []) #[ff,ff,ff,ff,ff,ff,ff] (by kernel_rfl) rfl rfl ⟨ya.1, ya.2.1, ya.2.2.1, ya.2.2.2.1, ya.2.2.2.2.1, ya.2.2.2.2.2.1, ya.2.2.2.2.2.2.1, ya.2.2.2.2.2.2.2.1, xlm⟩ (fun hHeld => ?_); refine zc1 rw23.tab18 (fun HT_ => ?_)
                    obtain ⟨w41, hw_⟩ : ∃ W, W = wr.drew := ⟨_, rfl⟩
                    rw [← hw_] at hHeld ⊢
                    have hb : Below wr.heap.size wr w41 := by rw [hw_]; exact z50 (Below.refl _ _)
                    have Ba_41 := as0 (z20 Ba_40.out hb)
                    have Bz_41 := as0 (z20 Bz_40.out hb)
                    have Fa_41 := as0 (Fa_40.out.below hb)
                    have RO_41 := as0 (Kd.R_below RO_40.out hb)
                    have RL_41 := as0 (RL_40.out.below hb)
                    have HB_41 := as0 (z10 HB_40.out hb)
                    clear hb hw_
                    clear ya xlm xl
                    have ya := za0 Ba_41.out
                    have xlm := HLM.out _ HB_41.out
                    have xl := Fa_41.out.atL HY.out
                    refine zl0 (i := 1) (N := some 79) (v := ?_) (a' := ?_) #[ff,tt,ff,ff,ff,ff,ff] rfl rfl (zh0 HT_.out (by kernel_rfl)) (fun _ _ _ h => h) (Or.inl ⟨by rfl, ?_⟩) ?_ ?_
                    rotate_left
                    · intro w'
                      go_simp
                      with_reducible rfl
                    rotate_left
                    · simp only [Act.put, lSI, lS0, lS1, ze0, zd0]
                      rfl
                    refine zl0 (i := 2) (N := some 80) (v := ?_) (a' := ?_) #[ff,tt,tt,ff,ff,ff,ff] rfl rfl (zh0 HT_.out (by kernel_rfl)) (fun _ _ _ h => h) (Or.inl ⟨by rfl, ?_⟩) ?_ ?_
                    rotate_left
                    · intro w'
                      go_simp
                      with_reducible rfl
                    rotate_left
                    · simp only [Act.put, lSI, lS0, lS1, ze0, zd0]
                      rfl
                    refine zl0 (i := 3) (N := some 81) (v := ?_) (a' := ?_) #[ff,tt,tt,tt,ff,ff,ff] rfl rfl (zh0 HT_.out (by kernel_rfl)) (fun _ _ _ h => h) (Or.inl ⟨by rfl, ?_⟩) ?_ ?_
                    rotate_left
                    · intro w'
                      go_simp
                      with_reducible rfl
                    rotate_left
                    · simp only [Act.put, lSI, lS0, lS1, ze0, zd0]
                      rfl
                    refine take_ (i := 0) (N := some 78) (v := ?_) (a' := ?_) #[tt,tt,tt,tt,ff,ff,ff] rfl rfl (zp0 HT_.out (by kernel_rfl)) (fun _ _ _ h => h) (Or.inl ⟨by rfl, ?_⟩) hHeld ?_ ?_
                    rotate_left
                    · intro w' hS_
                      obtain ⟨s0, s1, s2, s3, s4, s5, s6, s7, s8⟩ := hS_
                      go_simp
                      with_reducible rfl
                    rotate_left
                    · simp only [Act.put, lSI, lS0, lS1, ze0, zd0]
                      rfl
                    refine take_ (i := 4) (N := some 82) (v := ?_) (a' := ?_) #[tt,tt,tt,tt,tt,ff,ff] rfl rfl (zp0 HT_.out (by kernel_rfl)) (fun _ _ _ h => h) (Or.inl ⟨by rfl, ?_⟩) hHeld ?_ ?_
                    rotate_left
                    · intro w' hS_
                      obtain ⟨s0, s1, s2, s3, s4, s5, s6, s7, s8⟩ := hS_
                      go_simp
                      with_reducible rfl
                    rotate_left
                    · simp only [Act.put, lSI, lS0, lS1, ze0, zd0]
                      rfl
                    refine zx2 (i := 5) (N := some 83) #[tt,tt,tt,tt,tt,tt,ff] rfl rfl (z21 HT_.out (by kernel_rfl)) (by decide) (fun K hK => ?_)
                    refine z02 Tryz.func41 (by kernel_rfl) rfl #[.agg #[.int .i64 r2.each, .int .i64 r2.guard, .slice Aa0 r2.N.length ca0, .slice Aa1 r2.S.length ca1, .slice (some adLa) r2.L.length ca2, .slice Aa3 r2.d.w.length ca3, .slice Aa4 r2.d.u.length ca4, .slice Aa5 r2.d.a.length ca5], .string nm] (by rfl) rfl rfl (by (try simp only [List.map_toArray, List.map_cons, List.map_nil]); first | done | rfl) ?_
                    refine (HAt.out _ _ _ Fa_41.out).mono ?_
                    rintro e w42 ⟨rfl, hb⟩
                    have Ba_42 := as0 (z20 Ba_41.out hb)
                    have Bz_42 := as0 (z20 Bz_41.out hb)
                    have Fa_42 := as0 (Fa_41.out.below hb)
                    have RO_42 := as0 (Kd.R_below RO_41.out hb)
                    have RL_42 := as0 (RL_41.out.below hb)
                    have HB_42 := as0 (z10 HB_41.out hb)
                    clear hb
                    clear ya xlm xl
                    have ya := za0 Ba_42.out
                    have xlm := HLM.out _ HB_42.out
                    have xl := Fa_42.out.atL HY.out
                    refine ⟨_, rfl, ?_⟩
                    refine hK.out _ _ ⟨ya.1, ya.2.1, ya.2.2.1, ya.2.2.2.1, ya.2.2.2.2.1, ya.2.2.2.2.2.1, ya.2.2.2.2.2.2.1, ya.2.2.2.2.2.2.2.1, xlm⟩ (fun hHeld => ?_)
                    clear hK K
                    refine zh1 (a' := ?_) ?_ ?_
                    rotate_left
                    · show Act.put _ (some 83) _ = _
                      simp only [Act.put, lSI, lS0, lS1, ze0, zd0]
                      rfl
                    refine zl0 (i := 6) (N := some 17) (v := ?_) (a' := ?_) #[tt,tt,tt,tt,tt,tt,tt] rfl rfl (zh0 HT_.out (by kernel_rfl)) (fun _ _ _ h => h) (Or.inl ⟨by rfl, ?_⟩) ?_ ?_
                    rotate_left
                    · intro w'
                      go_simp
                      with_reducible rfl
                    rotate_left
                    · simp only [Act.put, lSI, lS0, lS1, ze0, zd0]
                      rfl
                    refine zr2 (zg1 HT_.out (by kernel_rfl)) ?_
                    clear hHeld
                    go_wp2
                    go_roundw
                    case measure => simp [intOf]; omega
                    case rel => exact ⟨_, m + 1, s2, r2, _, acc, rfl, by omega, by rw [show ((m : Int) + 1) = ((m + 1 : Nat) : Int) by omega], by omega, HR2, HCA2, HG3, Ba_42, Bz_42, Fa_42, HB_42, RO_42, RL_42⟩
                | true =>
                    rw [hlv] at HY
                    rw [if_pos hlv] at hca
                    obtain ⟨acc2, hacc2e⟩ : ∃ q, q = acc ++ [nm] := ⟨_, rfl⟩
                    have HACC2 := as0 hacc2e.symm
                    have hal : acc2.length ≤ m + 1 := by rw [hacc2e]; simp; omega
                    have hset : setH s2.hs nm ⟨x.nm, nextS x.st 6, false⟩ = s2.hs.set i ⟨x.nm, nextS x.st 6, false⟩ := z91 hpos _
                    rw [hset] at hca
                    obtain ⟨s3, hs3⟩ : ∃ q, q = ({ s2 with hs := s2.hs.set i ⟨x.nm, nextS x.st 6, false⟩, ds := endF s2.ds nm } : FS) := ⟨_, rfl⟩
                    rw [← hs3] at hca
                    have HCA2 : Aside0 (∃ r, cameL (l.drop (m + 1)) s3 = (RES.1, r) ∧ RES.2 = acc2 ++ r) := ⟨by
                      obtain ⟨r, h1, h2⟩ := hca
                      obtain ⟨h3, h4⟩ := Prod.mk.inj h1
                      refine ⟨(cameL (l.drop (m + 1)) s3).2, by rw [← h3], ?_⟩
                      rw [h2, ← h4, hacc2e]
                      simp⟩
                    have HG3 : Aside0 (GB s3 (n + k + (m + 1))) := ⟨by rw [hs3]; exact HG2.out.turn (Nat.le_succ _) ((zs2 HG2.out.ok nm).1.mono (Nat.le_succ _)) hx _ _⟩
                    obtain ⟨r3, hr3⟩ : ∃ q, q = toR s3 := ⟨_, rfl⟩
                    have HR3 := as0 hr3
                    obtain ⟨st, hst⟩ : ∃ q, q = x.st := ⟨_, rfl⟩
                    obtain ⟨ns, hns⟩ : ∃ q, q = nextS st 6 := ⟨_, rfl⟩
                    obtain ⟨r4, hr4⟩ : ∃ q, q = putR i ns false r2 := ⟨_, rfl⟩
                    rw [← hst] at HX
                    have hend : endR nm r4 = r3 := by
                      rw [hr4, hr3, hs3, HR2.out, hns, hst, zc2 hx, zc3 (s := { s2 with hs := s2.hs.set i ⟨x.nm, nextS x.st 6, false⟩ }) HG2.out.ok.inv nm]
                    have HN := as0 (fun (W : World) => zu1 st 6 W)
                    rw [← hns] at HN
                    generalize nextB st 6 = nb at HN
                    have HP := as0 (fun (b' : Nat → Prop) (W : World) (vs : Value) (h : FR b' W vs r2) (hbW : FrB b' W.heap.size) => z03 i ns false h HRB.out (by omega) hil hbW)
                    rw [← hr4] at HP
                    have hB4 : RB r4 (n + k + m) := by rw [hr4]; exact HRB.out.put _ _ _
                    have HE := as0 (fun (b' : Nat → Prop) (W : World) (vs : Value) (h : FR b' W vs r4) (hbW : FrB b' W.heap.size) => zj3 nm h hB4 (by omega) hbW)
                    rw [hend] at HE
                    clear hlook hpos hca hx hxnm hgn hil hset hs3 hr3 hst hns hr4 hend hB4 hacc2e hlv
                    obtain ⟨adSa, hA_, -⟩ := Fa_40.out.adS HX.out
                    subst hA_
                    have ya := za0 Ba_40.out
                    have xlm := HLM.out _ HB_40.out
                    have xl := Fa_40.out.atL HY.out
                    have xs := Fa_40.out.atS HX.out
                    go_upto_region 18 with fail
                    refine zy1 (n := 7) (S := fun w' => w'.cell? ⟨ga, 0, none⟩ = some (.int .i64 r2.each) ∧ w'.cell? ⟨ga, 1, none⟩ = some (.int .i64 r2.guard) ∧ w'.cell? ⟨ga, 2, none⟩ = some (.slice Aa0 r2.N.length ca0) ∧ w'.cell? ⟨ga, 3, none⟩ = some (.slice (some adSa) r2.S.length ca1) ∧ w'.cell? ⟨ga, 4, none⟩ = some (.slice (some adLa) r2.L.length ca2) ∧ w'.cell? ⟨ga, 5, none⟩ = some (.slice Aa3 r2.d.w.length ca3) ∧ w'.cell? ⟨ga, 6, none⟩ = some (.slice Aa4 r2.d.u.length ca4) ∧ w'.cell? ⟨ga, 7, none⟩ = some (.slice Aa5 r2.d.a.length ca5) ∧ w'.cell? (adl.add m) = some (.string nm)) (ds := []) #[ff,ff,ff,ff,ff,ff,ff] (by kernel_rfl) rfl rfl ⟨ya.1, ya.2.1, ya.2.2.1, ya.2.2.2.1, ya.2.2.2.2.1, ya.2.2.2.2.2.1, ya.2.2.2.2.2.2.1, ya.2.2.2.2.2.2.2.1, xlm⟩ (fun hHeld => ?_); refine zc1 rw23.tab18 (fun HT_ => ?_)
                    obtain ⟨w41, hw_⟩ : ∃ W, W = wr.drew := ⟨_, rfl⟩
                    rw [← hw_] at hHeld ⊢
                    have hb : Below wr.heap.size wr w41 := by rw [hw_]; exact z50 (Below.refl _ _)
                    have Ba_41 := as0 (z20 Ba_40.out hb)
                    have Bz_41 := as0 (z20 Bz_40.out hb)
                    have Fa_41 := as0 (Fa_40.out.below hb)
                    have RO_41 := as0 (Kd.R_below RO_40.out hb)
                    have RL_41 := as0 (RL_40.out.below hb)
                    have HB_41 := as0 (z10 HB_40.out hb)
                    clear hb hw_
                    clear ya xlm xl xs
                    have ya := za0 Ba_41.out
                    have xlm := HLM.out _ HB_41.out
                    have xl := Fa_41.out.atL HY.out
                    have xs := Fa_41.out.atS HX.out
                    refine zl0 (i := 1) (N := some 79) (v := ?_) (a' := ?_) #[ff,tt,ff,ff,ff,ff,ff] rfl rfl (zh0 HT_.out (by kernel_rfl)) (fun _ _ _ h => h) (Or.inl ⟨by rfl, ?_⟩) ?_ ?_
                    rotate_left
                    · intro w'
                      go_simp
                      with_reducible rfl
                    rotate_left
                    · simp only [Act.put, lSI, lS0, lS1, ze0, zd0]
                      rfl
                    refine zl0 (i := 2) (N := some 80) (v := ?_) (a' := ?_) #[ff,tt,tt,ff,ff,ff,ff] rfl rfl (zh0 HT_.out (by kernel_rfl)) (fun _ _ _ h => h) (Or.inl ⟨by rfl, ?_⟩) ?_ ?_
                    rotate_left
                    · intro w'
                      go_simp
                      with_reducible rfl
                    rotate_left
                    · simp only [Act.put, lSI, lS0, lS1, ze0, zd0]
                      rfl
                    refine zl0 (i := 3) (N := some 81) (v := ?_) (a' := ?_) #[ff,tt,tt,tt,ff,ff,ff] rfl rfl (zh0 HT_.out (by kernel_rfl)) (fun _ _ _ h => h) (Or.inl ⟨by rfl, ?_⟩) ?_ ?_
                    rotate_left
                    · intro w'
                      go_simp
                      with_reducible rfl
                    rotate_left
                    · simp only [Act.put, lSI, lS0, lS1, ze0, zd0]
                      rfl
                    refine take_ (i := 0) (N := some 78) (v := ?_) (a' := ?_) #[tt,tt,tt,tt,ff,ff,ff] rfl rfl (zp0 HT_.out (by kernel_rfl)) (fun _ _ _ h => h) (Or.inl ⟨by rfl, ?_⟩) hHeld ?_ ?_
                    rotate_left
                    · intro w' hS_
                      obtain ⟨s0, s1, s2, s3, s4, s5, s6, s7, s8⟩ := hS_
                      go_simp
                      with_reducible rfl
                    rotate_left
                    · simp only [Act.put, lSI, lS0, lS1, ze0, zd0]
                      rfl
                    refine take_ (i := 4) (N := some 82) (v := ?_) (a' := ?_) #[tt,tt,tt,tt,tt,ff,ff] rfl rfl (zp0 HT_.out (by kernel_rfl)) (fun _ _ _ h => h) (Or.inl ⟨by rfl, ?_⟩) hHeld ?_ ?_
                    rotate_left
                    · intro w' hS_
                      obtain ⟨s0, s1, s2, s3, s4, s5, s6, s7, s8⟩ := hS_
                      go_simp
                      with_reducible rfl
                    rotate_left
                    · simp only [Act.put, lSI, lS0, lS1, ze0, zd0]
                      rfl
                    refine zx2 (i := 5) (N := some 83) #[tt,tt,tt,tt,tt,tt,ff] rfl rfl (z21 HT_.out (by kernel_rfl)) (by decide) (fun K hK => ?_)
                    refine z02 Tryz.func41 (by kernel_rfl) rfl #[.agg #[.int .i64 r2.each, .int .i64 r2.guard, .slice Aa0 r2.N.length ca0, .slice (some adSa) r2.S.length ca1, .slice (some adLa) r2.L.length ca2, .slice Aa3 r2.d.w.length ca3, .slice Aa4 r2.d.u.length ca4, .slice Aa5 r2.d.a.length ca5], .string nm] (by rfl) rfl rfl (by (try simp only [List.map_toArray, List.map_cons, List.map_nil]); first | done | rfl) ?_
                    refine (HAt.out _ _ _ Fa_41.out).mono ?_
                    rintro e w42 ⟨rfl, hb⟩
                    have Ba_42 := as0 (z20 Ba_41.out hb)
                    have Bz_42 := as0 (z20 Bz_41.out hb)
                    have Fa_42 := as0 (Fa_41.out.below hb)
                    have RO_42 := as0 (Kd.R_below RO_41.out hb)
                    have RL_42 := as0 (RL_41.out.below hb)
                    have HB_42 := as0 (z10 HB_41.out hb)
                    clear hb
                    clear ya xlm xl xs
                    have ya := za0 Ba_42.out
                    have xlm := HLM.out _ HB_42.out
                    have xl := Fa_42.out.atL HY.out
                    have xs := Fa_42.out.atS HX.out
                    refine ⟨_, rfl, ?_⟩
                    refine hK.out _ _ ⟨ya.1, ya.2.1, ya.2.2.1, ya.2.2.2.1, ya.2.2.2.2.1, ya.2.2.2.2.2.1, ya.2.2.2.2.2.2.1, ya.2.2.2.2.2.2.2.1, xlm⟩ (fun hHeld => ?_)
                    clear hK K
                    refine zh1 (a' := ?_) ?_ ?_
                    rotate_left
                    · show Act.put _ (some 83) _ = _
                      simp only [Act.put, lSI, lS0, lS1, ze0, zd0]
                      rfl
                    refine zl0 (i := 6) (N := some 17) (v := ?_) (a' := ?_) #[tt,tt,tt,tt,tt,tt,tt] rfl rfl (zh0 HT_.out (by kernel_rfl)) (fun _ _ _ h => h) (Or.inl ⟨by rfl, ?_⟩) ?_ ?_
                    rotate_left
                    · intro w'
                      go_simp
                      with_reducible rfl
                    rotate_left
                    · simp only [Act.put, lSI, lS0, lS1, ze0, zd0]
                      rfl
                    refine zr2 (zg1 HT_.out (by kernel_rfl)) ?_
                    clear hHeld
                    go_upto_region 28 with (first
    | ((with_reducible refine zm0 (b := .append) (xs := #[.tmp 94, .tmp 99]) rfl ?_); (try (refine z41 (by rfl) ?_; dsimp only)); at_builtin; refine Kd.R_append Kd.string (w0 := w42) w.heap.size rfl (.tmp 94) (.tmp 99) 27 9 (.string ⟨#[]⟩) 16 rfl Tryz.underlying27 z53 rfl (by decide) (by omega) _ acc nm [.string nm] (fun _ => True) (fun _ => False) rfl ?aX ?aP (fun _ h => h.elim) (fun _ _ => trivial) ?aO ?aB ?aS ?aL ?_; (case aX => (show Value.slice (some ⟨w42.heap.size, 0, none⟩) 1 1 = _; simp)); (case aP => exact rfl); (case aO => exact RO_42.out); (case aB => exact Below.refl _ _ |>.mono HB_42.out.size); (case aS => exact HB_42.out.size); (case aL => have := hacc2; omega); intro v2O w43 ho hb hg hat; rw [HACC2.out] at ho; have Ba_43 := as0 ((hg.block ga (z70 Ba_42.out) (Kd.R_ne RO_42.out Ba_42.out (by decide))).trans Ba_42.out); have Bz_43 := as0 ((hg.block gz (z70 Bz_42.out) (Kd.R_ne RO_42.out Bz_42.out (by decide))).trans Bz_42.out); have Fa_43 := as0 (Fa_42.out.grow hg hat); have RL_43 := as0 (RL_42.out.grow hg hat); have HB_43 := as0 (HB_42.out.grown hg HB_42.out.size (fun k h => Kd.R_base RO_42.out k h)); have RO_43 := as0 ho; clear ho hb hg hat; clear ya xlm xl xs; have ya := za0 Ba_43.out; have xlm := HLM.out _ HB_43.out; have xl := Fa_43.out.atL HY.out; have xs := Fa_43.out.atS HX.out)
    | (go_at_call 62; (with_reducible refine (HN.out _).mono ?_); rintro e w44 ⟨rfl, hb⟩; have Ba_44 := as0 (z20 Ba_43.out hb); have Bz_44 := as0 (z20 Bz_43.out hb); have Fa_44 := as0 (Fa_43.out.below hb); have RO_44 := as0 (Kd.R_below RO_43.out hb); have RL_44 := as0 (RL_43.out.below hb); have HB_44 := as0 (z10 HB_43.out hb); clear hb; clear ya xlm xl xs; have ya := za0 Ba_44.out; have xlm := HLM.out _ HB_44.out; have xl := Fa_44.out.atL HY.out; have xs := Fa_44.out.atS HX.out))
                    refine zy1 (n := 10) (S := fun w' => w'.cell? ⟨ga, 0, none⟩ = some (.int .i64 r2.each) ∧ w'.cell? ⟨ga, 1, none⟩ = some (.int .i64 r2.guard) ∧ w'.cell? ⟨ga, 2, none⟩ = some (.slice Aa0 r2.N.length ca0) ∧ w'.cell? ⟨ga, 3, none⟩ = some (.slice (some adSa) r2.S.length ca1) ∧ w'.cell? ⟨ga, 4, none⟩ = some (.slice (some adLa) r2.L.length ca2) ∧ w'.cell? ⟨ga, 5, none⟩ = some (.slice Aa3 r2.d.w.length ca3) ∧ w'.cell? ⟨ga, 6, none⟩ = some (.slice Aa4 r2.d.u.length ca4) ∧ w'.cell? ⟨ga, 7, none⟩ = some (.slice Aa5 r2.d.a.length ca5) ∧ w'.cell? (adl.add m) = some (.string nm)) (ds := [9]) #[ff,ff,ff,ff,ff,ff,ff,ff,ff,ff] (by kernel_rfl) rfl rfl ⟨ya.1, ya.2.1, ya.2.2.1, ya.2.2.2.1, ya.2.2.2.2.1, ya.2.2.2.2.2.1, ya.2.2.2.2.2.2.1, ya.2.2.2.2.2.2.2.1, xlm⟩ (fun hHeld => ?_); refine zc1 rw23.tab28 (fun HT_ => ?_)
                    obtain ⟨w45, hw_⟩ : ∃ W, W = w44.drew := ⟨_, rfl⟩
                    rw [← hw_] at hHeld ⊢
                    have hb : Below w44.heap.size w44 w45 := by rw [hw_]; exact z50 (Below.refl _ _)
                    have Ba_45 := as0 (z20 Ba_44.out hb)
                    have Bz_45 := as0 (z20 Bz_44.out hb)
                    have Fa_45 := as0 (Fa_44.out.below hb)
                    have RO_45 := as0 (Kd.R_below RO_44.out hb)
                    have RL_45 := as0 (RL_44.out.below hb)
                    have HB_45 := as0 (z10 HB_44.out hb)
                    clear hb hw_
                    clear ya xlm xl xs
                    have ya := za0 Ba_45.out
                    have xlm := HLM.out _ HB_45.out
                    have xl := Fa_45.out.atL HY.out
                    have xs := Fa_45.out.atS HX.out
                    refine zl0 (i := 1) (N := some 135) (v := ?_) (a' := ?_) #[ff,tt,ff,ff,ff,ff,ff,ff,ff,ff] rfl rfl (zh0 HT_.out (by kernel_rfl)) (fun _ _ _ h => h) (Or.inl ⟨by rfl, ?_⟩) ?_ ?_
                    rotate_left
                    · intro w'
                      go_simp
                      with_reducible rfl
                    rotate_left
                    · simp only [Act.put, lSI, lS0, lS1, ze0, zd0]
                      rfl
                    refine zl0 (i := 2) (N := some 136) (v := ?_) (a' := ?_) #[ff,tt,tt,ff,ff,ff,ff,ff,ff,ff] rfl rfl (zh0 HT_.out (by kernel_rfl)) (fun _ _ _ h => h) (Or.inl ⟨by rfl, ?_⟩) ?_ ?_
                    rotate_left
                    · intro w'
                      go_simp
                      with_reducible rfl
                    rotate_left
                    · simp only [Act.put, lSI, lS0, lS1, ze0, zd0]
                      rfl
                    refine zl0 (i := 4) (N := some 138) (v := ?_) (a' := ?_) #[ff,tt,tt,ff,tt,ff,ff,ff,ff,ff] rfl rfl (zh0 HT_.out (by kernel_rfl)) (fun _ _ _ h => h) (Or.inl ⟨by rfl, ?_⟩) ?_ ?_
                    rotate_left
                    · intro w'
                      go_simp
                      with_reducible rfl
                    rotate_left
                    · simp only [Act.put, lSI, lS0, lS1, ze0, zd0]
                      rfl
                    refine zl0 (i := 5) (N := some 139) (v := ?_) (a' := ?_) #[ff,tt,tt,ff,tt,tt,ff,ff,ff,ff] rfl rfl (zh0 HT_.out (by kernel_rfl)) (fun _ _ _ h => h) (Or.inl ⟨by rfl, ?_⟩) ?_ ?_
                    rotate_left
                    · intro w'
                      go_simp
                      with_reducible rfl
                    rotate_left
                    · simp only [Act.put, lSI, lS0, lS1, ze0, zd0]
                      rfl
                    refine zl0 (i := 6) (N := some 140) (v := ?_) (a' := ?_) #[ff,tt,tt,ff,tt,tt,tt,ff,ff,ff] rfl rfl (zh0 HT_.out (by kernel_rfl)) (fun _ _ _ h => h) (Or.inl ⟨by rfl, ?_⟩) ?_ ?_
                    rotate_left
                    · intro w'
                      go_simp
                      with_reducible rfl
                    rotate_left
                    · simp only [Act.put, lSI, lS0, lS1, ze0, zd0]
                      rfl
                    refine take_ (i := 0) (N := some 134) (v := ?_) (a' := ?_) #[tt,tt,tt,ff,tt,tt,tt,ff,ff,ff] rfl rfl (zp0 HT_.out (by kernel_rfl)) (fun _ _ _ h => h) (Or.inl ⟨by rfl, ?_⟩) hHeld ?_ ?_
                    rotate_left
                    · intro w' hS_
                      obtain ⟨s0, s1, s2, s3, s4, s5, s6, s7, s8⟩ := hS_
                      go_simp
                      with_reducible rfl
                    rotate_left
                    · simp only [Act.put, lSI, lS0, lS1, ze0, zd0]
                      rfl
                    refine take_ (i := 7) (N := some 141) (v := ?_) (a' := ?_) #[tt,tt,tt,ff,tt,tt,tt,tt,ff,ff] rfl rfl (zp0 HT_.out (by kernel_rfl)) (fun _ _ _ h => h) (Or.inl ⟨by rfl, ?_⟩) hHeld ?_ ?_
                    rotate_left
                    · intro w' hS_
                      obtain ⟨s0, s1, s2, s3, s4, s5, s6, s7, s8⟩ := hS_
                      go_simp
                      with_reducible rfl
                    rotate_left
                    · simp only [Act.put, lSI, lS0, lS1, ze0, zd0]
                      rfl
                    refine zx2 (i := 3) (N := some 137) #[tt,tt,tt,tt,tt,tt,tt,tt,ff,ff] rfl rfl (z21 HT_.out (by kernel_rfl)) (by decide) (fun K hK => ?_)
                    refine z02 Tryz.func64 (by kernel_rfl) rfl #[.agg #[.int .i64 r2.each, .int .i64 r2.guard, .slice Aa0 r2.N.length ca0, .slice (some adSa) r2.S.length ca1, .slice (some adLa) r2.L.length ca2, .slice Aa3 r2.d.w.length ca3, .slice Aa4 r2.d.u.length ca4, .slice Aa5 r2.d.a.length ca5], .int .i64 (i : Int), .int .i64 ns, .bool false] (by rfl) rfl rfl (by (try simp only [List.map_toArray, List.map_cons, List.map_nil]); first | done | rfl) ?_
                    refine (HP.out _ _ _ Fa_45.out (zpb HBB.out HB_45.out.size RO_45.out)).mono ?_
                    rintro e w46 ⟨vs_, rfl, hF_, hb⟩
                    obtain ⟨Ab0, cb0, Ab1, cb1, Ab2, cb2, Ab3, cb3, Ab4, cb4, Ab5, cb5, rfl⟩ := hF_.form
                    have Ba_46 := as0 (z20 Ba_45.out hb)
                    have Bz_46 := as0 (z20 Bz_45.out hb)
                    have Fa_46 := as0 (Fa_45.out.below hb)
                    have RO_46 := as0 (Kd.R_below RO_45.out hb)
                    have RL_46 := as0 (RL_45.out.below hb)
                    have HB_46 := as0 (z10 HB_45.out hb)
                    have Fb_46 := as0 hF_
                    clear hb hF_
                    clear ya xlm xl xs
                    have ya := za0 Ba_46.out
                    have xlm := HLM.out _ HB_46.out
                    have xl := Fa_46.out.atL HY.out
                    have xs := Fa_46.out.atS HX.out
                    refine ⟨_, rfl, ?_⟩
                    refine hK.out _ _ ⟨ya.1, ya.2.1, ya.2.2.1, ya.2.2.2.1, ya.2.2.2.2.1, ya.2.2.2.2.2.1, ya.2.2.2.2.2.2.1, ya.2.2.2.2.2.2.2.1, xlm⟩ (fun hHeld => ?_)
                    clear hK K
                    refine zh1 (a' := ?_) ?_ ?_
                    rotate_left
                    · show Act.put _ (some 137) _ = _
                      simp only [Act.put, lSI, lS0, lS1, ze0, zd0]
                      rfl
                    refine zx2 (i := 8) (N := some 142) #[tt,tt,tt,tt,tt,tt,tt,tt,tt,ff] rfl rfl (z21 HT_.out (by kernel_rfl)) (by decide) (fun K hK => ?_)
                    refine z02 Tryz.func63 (by kernel_rfl) rfl #[.agg #[.int .i64 r4.each, .int .i64 r4.guard, .slice Ab0 r4.N.length cb0, .slice Ab1 r4.S.length cb1, .slice Ab2 r4.L.length cb2, .slice Ab3 r4.d.w.length cb3, .slice Ab4 r4.d.u.length cb4, .slice Ab5 r4.d.a.length cb5], .string nm] (by rfl) rfl rfl (by (try simp only [List.map_toArray, List.map_cons, List.map_nil]); first | done | rfl) ?_
                    refine (HE.out _ _ _ Fb_46.out (zpb HBB.out HB_46.out.size RO_46.out)).mono ?_
                    rintro e w47 ⟨vs_, rfl, hF_, hb⟩
                    obtain ⟨Ad0, cd0, Ad1, cd1, Ad2, cd2, Ad3, cd3, Ad4, cd4, Ad5, cd5, rfl⟩ := hF_.form
                    have Ba_47 := as0 (z20 Ba_46.out hb)
                    have Bz_47 := as0 (z20 Bz_46.out hb)
                    have Fa_47 := as0 (Fa_46.out.below hb)
                    have Fb_47 := as0 (Fb_46.out.below hb)
                    have RO_47 := as0 (Kd.R_below RO_46.out hb)
                    have RL_47 := as0 (RL_46.out.below hb)
                    have HB_47 := as0 (z10 HB_46.out hb)
                    have Fd_47 := as0 hF_
                    clear hb hF_
                    clear ya xlm xl xs
                    have ya := za0 Ba_47.out
                    have xlm := HLM.out _ HB_47.out
                    have xl := Fa_47.out.atL HY.out
                    have xs := Fa_47.out.atS HX.out
                    refine ⟨_, rfl, ?_⟩
                    refine hK.out _ _ ⟨ya.1, ya.2.1, ya.2.2.1, ya.2.2.2.1, ya.2.2.2.2.1, ya.2.2.2.2.2.1, ya.2.2.2.2.2.2.1, ya.2.2.2.2.2.2.2.1, xlm⟩ (fun hHeld => ?_)
                    clear hK K
                    refine zh1 (a' := ?_) ?_ ?_
                    rotate_left
                    · show Act.put _ (some 142) _ = _
                      simp only [Act.put, lSI, lS0, lS1, ze0, zd0]
                      rfl
                    refine z85 (i := 9) (N := none) #[tt,tt,tt,tt,tt,tt,tt,tt,tt,tt] rfl rfl (z21 HT_.out (by kernel_rfl)) (by decide) (fun K hK => ?_)
                    refine put_ (w1 := ?_) (by rfl) rfl ?_ ?_
                    rotate_left
                    · go_simp
                      rfl
                    refine hK.out _ _ ?_
                    clear hK K
                    refine zr2 (zg1 HT_.out (by kernel_rfl)) ?_
                    clear hHeld
                    obtain ⟨w48, hw_⟩ : ∃ W, W = ((((((((w47.setCell ⟨ga, 0, none⟩ (.int .i64 r3.each)).setCell ⟨ga, 1, none⟩ (.int .i64 r3.guard)).setCell ⟨ga, 2, none⟩ (.slice Ad0 r3.N.length cd0)).setCell ⟨ga, 3, none⟩ (.slice Ad1 r3.S.length cd1)).setCell ⟨ga, 4, none⟩ (.slice Ad2 r3.L.length cd2)).setCell ⟨ga, 5, none⟩ (.slice Ad3 r3.d.w.length cd3)).setCell ⟨ga, 6, none⟩ (.slice Ad4 r3.d.u.length cd4)).setCell ⟨ga, 7, none⟩ (.slice Ad5 r3.d.a.length cd5)) := ⟨_, rfl⟩
                    rw [← hw_]
                    have Ba_48 := as0 (zu0 (zi0 Ba_47.out) hw_)
                    have Bz_48 := as0 (zg0 z30 hw_ NE_az.out.symm Bz_47.out)
                    have Fa_48 := as0 (zk0 z30 hw_ Fa_47.out Ba_47.out (by decide))
                    have Fb_48 := as0 (zk0 z30 hw_ Fb_47.out Ba_47.out (by decide))
                    have Fd_48 := as0 (zk0 z30 hw_ Fd_47.out Ba_47.out (by decide))
                    have RO_48 : Aside0 (Kd.R Kd.string 9 w48 w.heap.size (fun _ => True) v2O acc2) := ⟨by rw [hw_]; exact Kd.R_mv RO_47.out Ba_47.out (zx0 (by decide)) (fun k hk => z30 hk)⟩
                    have RL_48 : Aside0 (RdS (Not b v2O) w48 (.slice A2 L.length n2) L) := ⟨by rw [hw_]; exact RL_47.out.far Ba_47.out (by decide) (fun k hk => z30 hk)⟩
                    have HB_48 := as0 (zf0 (zb0 HB_47.out GE_a.out) hw_)
                    clear hw_ 
                    clear ya xlm xl xs
                    have ya := za0 Ba_48.out
                    have xlm := HLM.out _ HB_48.out
                    have xl := Fa_48.out.atL HY.out
                    have xs := Fa_48.out.atS HX.out
                    go_wp2
                    go_roundw
                    case measure => simp [intOf]; omega
                    case rel => exact ⟨_, m + 1, s3, r3, _, acc2, rfl, by omega, by rw [show ((m : Int) + 1) = ((m + 1 : Nat) : Int) by omega], hal, HR3, HCA2, HG3, Ba_48, Bz_48, Fd_48, HB_48, RO_48, RL_48⟩
            · have hmI : ¬ (m : Int) < (l.length : Int) := by omega
              have hme : m = l.length := by omega
              have hfin : s2 = RES.1 ∧ RES.2 = acc := by
                obtain ⟨r, h1, h2⟩ := HCA.out
                rw [hme, List.drop_eq_nil_of_le (Nat.le_refl _)] at h1
                obtain ⟨h3, h4⟩ := Prod.mk.inj h1
                rw [← h4] at h2
                exact ⟨h3, by simpa using h2⟩
              have HFIN := as0 hfin
              clear hfin hme HCA
              have ya := za0 Ba_40.out
              go_wp2_with (first
    | (have yz := za0 Bz_40.out; (with_reducible refine sx (W := wr) (t := 33) (p := 6) (w1 := set8 wr gz (.int .i64 r2.each) (.int .i64 r2.guard) (.slice Aa0 r2.N.length ca0) (.slice Aa1 r2.S.length ca1) (.slice Aa2 r2.L.length ca2) (.slice Aa3 r2.d.w.length ca3) (.slice Aa4 r2.d.u.length ca4) (.slice Aa5 r2.d.a.length ca5)) rfl rfl rfl ?hr ?_); (case hr => first | (go_simp; done) | (go_simp; rfl)); intro w41 hw_; have Ba_41 := as0 (zg0 z30 hw_ NE_az.out Ba_40.out); have Bz_41 := as0 (zu0 (zi0 Bz_40.out) hw_); have Fa_41 := as0 (zk0 z30 hw_ Fa_40.out Bz_40.out (by decide)); have RO_41 : Aside0 (Kd.R Kd.string 9 w41 w.heap.size (fun _ => True) vO acc) := ⟨by rw [hw_]; exact Kd.R_mv RO_40.out Bz_40.out (zx0 (by decide)) (fun k hk => z30 hk)⟩; have RL_41 : Aside0 (RdS (Not b vO) w41 (.slice A2 L.length n2) L) := ⟨by rw [hw_]; exact RL_40.out.far Bz_40.out (by decide) (fun k hk => z30 hk)⟩; have HB_41 := as0 (zf0 (zb0 HB_40.out GE_z.out) hw_); clear hw_ yz; clear ya; have ya := za0 Ba_41.out; (repeat (first | go_values | go_skip | go_guarded | go_step | go_upon | go_in)); refine bodyPost_ret (zg5 (p := 6) rfl _ _ gz 33 _ (0, 0) _ rfl Bz_41.out Tryz.underlying33 rfl (by kernel_rfl)) rfl ?_; exact ⟨_, _, _, rfl, (by show FR b _ _ (toR RES.1); rw [← HFIN.out.1, ← HR2.out]; exact Fa_41.out.lower (fun _ h => h.1)), (by show RdS b _ _ RES.2; rw [HFIN.out.2]; exact (Rd.of_R RO_41.out).lower HBB.out), RL_41.out.lower (fun _ h => h.1), HB_41.out⟩))
theorem zm9 {s : FS} {n : Nat} (hG : GB s n) (hn : n ≤ 300000) (l : List ByteArray) (hsz : ∀ x ∈ l, x.size ≤ 9223372036854775807) (A1 : Option Addr) (c1 : Nat) (hC : ∀ W, Below w.heap.size w W → Kd.C Kd.string W A1 l.length l) (hc1 : l.length ≤ c1) (dl : Int) {vs : Value} (h : FR b w vs (toR s)) (hb : FrB b w.heap.size) :
  Calls Tryz.prog 23 #[vs, .slice A1 l.length c1, .int .i64 dl] w fun e w' => ∃ vs' va vb : Value, e = .returned (.tuple #[vs', va, vb, .int .i64 (resolveF s l dl).1.2.2]) ∧ FR b w' vs' (toR (resolveF s l dl).2) ∧ RdS b w' va (resolveF s l dl).1.1 ∧ RdS b w' vb (resolveF s l dl).1.2.1 ∧ Below w.heap.size w w' := by
 by_cases hec : checkE l = 0
 ·exact zp7 hG hn l hsz A1 c1 hC hc1 dl h hb hec
 ·have hr : resolveF s l dl = (([], [], checkE l), s) := by
   unfold resolveF
   rw [if_neg hec]
  rw [hr]
  exact zm6 hG hn l hsz A1 c1 hC hc1 dl h hb _ rfl hec
end
end
end Go.Proofs.YtmlmiocomlehgaaGreat.Man
end
section
namespace Go.Proofs.YtmlmiocomlehgaaGreat.Nil
open Go.RowKit Go.Proofs.YtmlmiocomlehgaaGreatW.PrintWords Go.Proofs.YtmlmiocomlehgaaGreatW.PrintLast Go.Proofs.YtmlmiocomlehgaaGreatW.PrintMore Go.Proofs.YtmlmiocomlehgaaGreat.PA Go.Proofs.YtmlmiocomlehgaaGreat.PF Go.Proofs.YtmlmiocomlehgaaGreat.Hid Go.Proofs.YtmlmiocomlehgaaGreat.Man
section
theorem zq1 {w w1 : World} {o1 o2 : Obj} (h : Below ((w.alloc o1).alloc o2).heap.size ((w.alloc o1).alloc o2) w1) : w1.heap[w.heap.size]? = some o1 ∧ w1.heap[w.heap.size + 1]? = some o2 := by
 refine ⟨(h.block w.heap.size (by simp; omega)).trans ((Below.heap_alloc (w.alloc o1) _ _ (by simp)).trans (heap_alloc_new w o1)), (h.block (w.heap.size + 1) (by simp)).trans ?_⟩
 have := heap_alloc_new (w.alloc o1) o2
 simpa using this
theorem z11 {P : Program} {fn : Func} {p : Tmp} {ty : TypeId} (h : fn.results = #[.cell p ty]) (tmps : Array Value) (w : World) (g : Nat) (t : TypeId) (cs : Array Value) (fr : Nat × Nat) (d : TypeDesc)
  (hp : tmps.getD p undef = .pointer (some ⟨g, 0, none⟩)) (hg : w.heap[g]? = some (.cells cs t fr))
  (hu : P.underlying ty = some d) (hd : (match d with | .struct _ | .array _ _ => true | _ => false) = true) (hi : (P.info? ty).map (·.size) = some cs.size) :
  (results fn tmps).run P w = .ok (.agg cs) w := by
 have hp' : tmps[p]?.getD undef = .pointer (some ⟨g, 0, none⟩) := by simpa using hp
 simp [results, h, hp', asAddr, run_loadVar_row w g t ty cs fr d hg hu hd hi]
theorem set4 {w : World} {g : Nat} {t : TypeId} {a b c d a' b' c' d' : Value} (h : w.heap[g]? = some (.cells #[a, b, c, d] t (0, 0))) :
  ((((w.setCell ⟨g, 0, none⟩ a').setCell ⟨g, 1, none⟩ b').setCell ⟨g, 2, none⟩ c').setCell ⟨g, 3, none⟩ d').heap[g]? = some (.cells #[a', b', c', d'] t (0, 0)) := by
 simpa using zz0 (zz0 (zz0 (zz0 h 0 a') 1 b') 2 c') 3 d'
theorem below4 {w0 w : World} {g : Nat} {a b c d : Value} (h : Below w0.heap.size w0 w) (hg : w0.heap.size ≤ g) :
  Below w0.heap.size w0 ((((w.setCell ⟨g, 0, none⟩ a).setCell ⟨g, 1, none⟩ b).setCell ⟨g, 2, none⟩ c).setCell ⟨g, 3, none⟩ d) :=
 zc0 (zc0 (zc0 (zc0 h hg) hg) hg) hg
end
end Go.Proofs.YtmlmiocomlehgaaGreat.Nil
end
section
namespace Go.Proofs.YtmlmiocomlehgaaGreat.Man
open Go.RowKit Go.Proofs.YtmlmiocomlehgaaGreatW.PrintWords Go.Proofs.YtmlmiocomlehgaaGreatW.PrintLast Go.Proofs.YtmlmiocomlehgaaGreatW.PrintMore Go.Proofs.YtmlmiocomlehgaaGreat.PA Go.Proofs.YtmlmiocomlehgaaGreat.PF Go.Proofs.YtmlmiocomlehgaaGreat.Hid Go.Proofs.YtmlmiocomlehgaaGreat.Na Go.Proofs.YtmlmiocomlehgaaGreat.Nil
section
structure SV where
 is : Bool
 e : Int
 a : List ByteArray
 b : List ByteArray
def stepF (s : FS) (k n : Int) (nm : ByteArray) (l : List ByteArray) : SV × FS :=
 if kindOf k = 0 then (⟨false, (resolveF s l n).1.2.2, (resolveF s l n).1.1, (resolveF s l n).1.2.1⟩, (resolveF s l n).2)
 else if kindOf k = 1 then (⟨false, (drainF s nm).1, [], []⟩, (drainF s nm).2)
 else if kindOf k = 2 then (⟨false, (undrainF s nm).1, [], []⟩, (undrainF s nm).2)
 else if kindOf k = 3 then (⟨false, (forceF s nm n).1, [], []⟩, (forceF s nm n).2)
 else if kindOf k = 4 then (⟨false, (ejectF s nm).1, [], []⟩, (ejectF s nm).2)
 else if kindOf k = 5 then (⟨false, 0, (admitF s n).1, []⟩, (admitF s n).2)
 else if kindOf k = 6 then (⟨(probeF s nm).1, 0, [], []⟩, (probeF s nm).2)
 else (⟨(emptyF s nm).1, 0, [], []⟩, (emptyF s nm).2)
theorem FInv.step {s : FS} {q : Nat} (h : FInv s q) (hq : q ≤ 100) (k n : Int) (nm : ByteArray) (l : List ByteArray) : FInv (stepF s k n nm l).2 (q + 1) := by
 unfold stepF
 (repeat' split)
 ·exact h.resolve hq l n
 ·exact h.drain hq nm
 ·exact h.undrain nm
 ·exact h.force hq nm n
 ·exact h.eject nm
 ·exact h.admit n
 ·exact h.probe nm
 ·exact h.empty nm
section
variable {w0 w w1 w2 : World} {g p : Nat} {s : FS} {a b c d : Value}
theorem farW (W : World) (k : Nat) (hne : k ≠ p) : ((((W.setCell ⟨p, 0, none⟩ a).setCell ⟨p, 1, none⟩ b).setCell ⟨p, 2, none⟩ c).setCell ⟨p, 3, none⟩ d).heap[k]? = W.heap[k]? :=
 (Below.heap_setCell _ ⟨p, 3, none⟩ _ k hne).trans ((Below.heap_setCell _ ⟨p, 2, none⟩ _ k hne).trans ((Below.heap_setCell _ ⟨p, 1, none⟩ _ k hne).trans (Below.heap_setCell _ ⟨p, 0, none⟩ _ k hne)))
theorem zr5 {α : Type} {kd : Kd α} {e base : Nat} {v : Value} {xs : List α} {t : Nat} {cs : Array Value} (h : kd.R e w2 base (fun _ => True) v xs) (hb : w2.heap[p]? = some (.cells cs t (0, 0))) (ht : ∀ q, q ∈ e :: kd.E → q ≠ t) : kd.R e ((((w2.setCell ⟨p, 0, none⟩ a).setCell ⟨p, 1, none⟩ b).setCell ⟨p, 2, none⟩ c).setCell ⟨p, 3, none⟩ d) base (fun _ => True) v xs := by
 refine Kd.R_mono (Kd.R_move (Kd.R_bound h) (fun k hk => farW w2 k ?_)) (fun _ _ => trivial)
 rintro rfl
 obtain ⟨_, _, _, q, hq, cells, hc⟩ := hk
 rw [hb] at hc
 injection hc with hc
 injection hc with _ hc _
 exact ht q hq hc.symm
theorem zu2 {cs : Array Value} {t : Nat} (hF : IsF w0 w2 g s) (hB : Below w0.heap.size w0 w2) (hK : KeptH TF w w2) (hb : w2.heap[p]? = some (.cells cs t (0, 0))) (ht : t ∉ TF) (hp : w.heap.size ≤ p) (hp0 : w0.heap.size ≤ p) :
  St w0 w ((((w2.setCell ⟨p, 0, none⟩ a).setCell ⟨p, 1, none⟩ b).setCell ⟨p, 2, none⟩ c).setCell ⟨p, 3, none⟩ d) g s := by
 refine ⟨hF.step (fun k hk => farW w2 k ?_), below4 hB hp0, ⟨⟨?_, fun i hi hn => (farW w2 i (by omega)).trans (hK.1.2 i hi hn)⟩, fun k hk h2 => hK.2 k hk (h2.of_eq (farW w2 k (by omega)))⟩⟩
 ·rintro rfl
  exact z01 hb ht hk
 ·have := hK.1.1
  simp [World.setCell]
  omega
end
theorem ztc {t : Nat} (h : 9 ≠ t) : ∀ q, q ∈ 9 :: Kd.string.E → q ≠ t := by
 intro q hq
 have : q = 9 := by simpa [Kd.string, Kd.scalar] using hq
 subst this
 exact h
section
variable {w0 w : World} {g : Nat} {s : FS} {q : Nat} (hq : q ≤ 100) (hv : FInv s q) (hF : IsF w0 w g s) (hB : Below w0.heap.size w0 w)
include hq hv hF hB
theorem step_0 (k n : Int) (nm : ByteArray) (l : List ByteArray) (A : Option Addr) (c : Nat) (hc : l.length ≤ c) (hs : ∀ x ∈ l, x.size ≤ maxLen) (hC : ∀ W, KeptH TF w W → Below w0.heap.size w0 W → Kd.C Kd.string W A l.length l) (h : kindOf k = 0) :
  Calls Tryz.prog 7 #[ptr g, stV k n nm A l.length c] w fun e w' => ∃ va vb : Value, e = .returned (.agg #[.bool (stepF s k n nm l).1.is, .int .i64 (stepF s k n nm l).1.e, va, vb]) ∧ Kd.R Kd.string 9 w' w.heap.size (fun _ => True) va (stepF s k n nm l).1.a ∧ Kd.R Kd.string 9 w' w.heap.size (fun _ => True) vb (stepF s k n nm l).1.b ∧ St w0 w w' g (stepF s k n nm l).2 := by
 have HK := as0 (fun W => zd1 k n nm A l.length c W)
 rw [h] at HK
 have HSZ := as0 (zt0 hB)
 unfold stepF
 rw [h]
 rw [if_pos rfl]
 clear h
 go_enter Tryz.func7, Tryz.ntmps7
 go_wp2_with (first
  | (go_at_call 17; refine (HK.out _).mono ?_; rintro e w1 ⟨rfl, hb1⟩; have HBW := as0 (z10 (z80 (z80 (Below.refl _ w) _) _) hb1); have HF1 := as0 (hF.below HBW.out); have HB1 := as0 (z10 hB HBW.out); have HK1 := as0 (KeptH.of_below (T := TF) HBW.out); have HZ1 := as0 HBW.out.size; obtain ⟨bs, bn⟩ := zq1 hb1; have sc1 := z60 bs 1; have sc2 := z60 bs 2; have sc3 := z60 bs 3; have sl := z70 bs; have nl := z70 bn; have BN := as0 bn; clear hb1 bs bn)
  | (go_at_call 11; refine (zb4 hq hv HF1.out HB1.out l A c n hc hs (fun W hW hb => hC W (HK1.out.trans hW) hb)).mono ?_; rintro e w2 ⟨v1, v2, rfl, hr1, hr2, hi, hb, hk⟩; obtain ⟨A1, n1, rfl⟩ := Kd.R_slice hr1; obtain ⟨A2, n2, rfl⟩ := Kd.R_slice hr2; have HR1 := as0 (Kd.R_lower hr1 HZ1.out); have HR2 := as0 (Kd.R_lower hr2 HZ1.out); clear hr1 hr2; have BN2 := as0 (Ko.blkc hk BN.out (by decide)); have bn2 := BN2.out; have nf0 := z40 bn2 0; have nf1 := z40 bn2 1; have nf2 := z40 bn2 2; have nf3 := z40 bn2 3; have nc0 := z60 bn2 0; have nc1 := z60 bn2 1; have nc2 := z60 bn2 2; have nc3 := z60 bn2 3; have nl2 := z70 bn2; have HF2 := as0 hi; have HB2 := as0 hb; have HK2 := as0 (HK1.out.trans hk); clear hi hb hk bn2))
 refine bodyPost_ret (z11 (p := 4) rfl _ _ (w.heap.size + 1) 39 _ (0, 0) _ rfl (set4 BN2.out) Tryz.underlying39 rfl (by kernel_rfl)) rfl ?_
 exact ⟨_, _, rfl, zr5 HR1.out BN2.out (ztc (by decide)), zr5 HR2.out BN2.out (ztc (by decide)), zu2 HF2.out HB2.out HK2.out BN2.out (by decide) (by omega) (by have := HSZ.out; omega)⟩
theorem step_1 (k n : Int) (nm : ByteArray) (l : List ByteArray) (A : Option Addr) (c : Nat) (hc : l.length ≤ c) (hs : ∀ x ∈ l, x.size ≤ maxLen) (hC : ∀ W, KeptH TF w W → Below w0.heap.size w0 W → Kd.C Kd.string W A l.length l) (h : kindOf k = 1) :
  Calls Tryz.prog 7 #[ptr g, stV k n nm A l.length c] w fun e w' => ∃ va vb : Value, e = .returned (.agg #[.bool (stepF s k n nm l).1.is, .int .i64 (stepF s k n nm l).1.e, va, vb]) ∧ Kd.R Kd.string 9 w' w.heap.size (fun _ => True) va (stepF s k n nm l).1.a ∧ Kd.R Kd.string 9 w' w.heap.size (fun _ => True) vb (stepF s k n nm l).1.b ∧ St w0 w w' g (stepF s k n nm l).2 := by
 have HK := as0 (fun W => zd1 k n nm A l.length c W)
 rw [h] at HK
 have HSZ := as0 (zt0 hB)
 unfold stepF
 rw [h]
 rw [if_neg (by decide)]
 rw [if_pos rfl]
 clear h
 go_enter Tryz.func7, Tryz.ntmps7
 go_wp2_with (first
  | (go_at_call 17; refine (HK.out _).mono ?_; rintro e w1 ⟨rfl, hb1⟩; have HBW := as0 (z10 (z80 (z80 (Below.refl _ w) _) _) hb1); have HF1 := as0 (hF.below HBW.out); have HB1 := as0 (z10 hB HBW.out); have HK1 := as0 (KeptH.of_below (T := TF) HBW.out); have HZ1 := as0 HBW.out.size; obtain ⟨bs, bn⟩ := zq1 hb1; have sc1 := z60 bs 1; have sc2 := z60 bs 2; have sc3 := z60 bs 3; have sl := z70 bs; have nl := z70 bn; have BN := as0 bn; clear hb1 bs bn)
  | (go_at_call 12; refine (zr4 hq hv HF1.out HB1.out nm).mono ?_; rintro e w2 ⟨rfl, hi, hb, hk⟩; have BN2 := as0 (Ko.blkc hk BN.out (by decide)); have bn2 := BN2.out; have nf0 := z40 bn2 0; have nf1 := z40 bn2 1; have nf2 := z40 bn2 2; have nf3 := z40 bn2 3; have nc0 := z60 bn2 0; have nc1 := z60 bn2 1; have nc2 := z60 bn2 2; have nc3 := z60 bn2 3; have nl2 := z70 bn2; have HF2 := as0 hi; have HB2 := as0 hb; have HK2 := as0 (HK1.out.trans hk); clear hi hb hk bn2))
 refine bodyPost_ret (z11 (p := 4) rfl _ _ (w.heap.size + 1) 39 _ (0, 0) _ rfl (set4 BN2.out) Tryz.underlying39 rfl (by kernel_rfl)) rfl ?_
 exact ⟨_, _, rfl, Kd.R_nil _ _ _ _ _, Kd.R_nil _ _ _ _ _, zu2 HF2.out HB2.out HK2.out BN2.out (by decide) (by omega) (by have := HSZ.out; omega)⟩
theorem step_2 (k n : Int) (nm : ByteArray) (l : List ByteArray) (A : Option Addr) (c : Nat) (hc : l.length ≤ c) (hs : ∀ x ∈ l, x.size ≤ maxLen) (hC : ∀ W, KeptH TF w W → Below w0.heap.size w0 W → Kd.C Kd.string W A l.length l) (h : kindOf k = 2) :
  Calls Tryz.prog 7 #[ptr g, stV k n nm A l.length c] w fun e w' => ∃ va vb : Value, e = .returned (.agg #[.bool (stepF s k n nm l).1.is, .int .i64 (stepF s k n nm l).1.e, va, vb]) ∧ Kd.R Kd.string 9 w' w.heap.size (fun _ => True) va (stepF s k n nm l).1.a ∧ Kd.R Kd.string 9 w' w.heap.size (fun _ => True) vb (stepF s k n nm l).1.b ∧ St w0 w w' g (stepF s k n nm l).2 := by
 have HK := as0 (fun W => zd1 k n nm A l.length c W)
 rw [h] at HK
 have HSZ := as0 (zt0 hB)
 unfold stepF
 rw [h]
 rw [if_neg (by decide)]
 rw [if_neg (by decide)]
 rw [if_pos rfl]
 clear h
 go_enter Tryz.func7, Tryz.ntmps7
 go_wp2_with (first
  | (go_at_call 17; refine (HK.out _).mono ?_; rintro e w1 ⟨rfl, hb1⟩; have HBW := as0 (z10 (z80 (z80 (Below.refl _ w) _) _) hb1); have HF1 := as0 (hF.below HBW.out); have HB1 := as0 (z10 hB HBW.out); have HK1 := as0 (KeptH.of_below (T := TF) HBW.out); have HZ1 := as0 HBW.out.size; obtain ⟨bs, bn⟩ := zq1 hb1; have sc1 := z60 bs 1; have sc2 := z60 bs 2; have sc3 := z60 bs 3; have sl := z70 bs; have nl := z70 bn; have BN := as0 bn; clear hb1 bs bn)
  | (go_at_call 18; refine (za8 hq hv HF1.out HB1.out nm).mono ?_; rintro e w2 ⟨rfl, hi, hb, hk⟩; have BN2 := as0 (Ko.blkc hk BN.out (by decide)); have bn2 := BN2.out; have nf0 := z40 bn2 0; have nf1 := z40 bn2 1; have nf2 := z40 bn2 2; have nf3 := z40 bn2 3; have nc0 := z60 bn2 0; have nc1 := z60 bn2 1; have nc2 := z60 bn2 2; have nc3 := z60 bn2 3; have nl2 := z70 bn2; have HF2 := as0 hi; have HB2 := as0 hb; have HK2 := as0 (HK1.out.trans hk); clear hi hb hk bn2))
 refine bodyPost_ret (z11 (p := 4) rfl _ _ (w.heap.size + 1) 39 _ (0, 0) _ rfl (set4 BN2.out) Tryz.underlying39 rfl (by kernel_rfl)) rfl ?_
 exact ⟨_, _, rfl, Kd.R_nil _ _ _ _ _, Kd.R_nil _ _ _ _ _, zu2 HF2.out HB2.out HK2.out BN2.out (by decide) (by omega) (by have := HSZ.out; omega)⟩
theorem step_3 (k n : Int) (nm : ByteArray) (l : List ByteArray) (A : Option Addr) (c : Nat) (hc : l.length ≤ c) (hs : ∀ x ∈ l, x.size ≤ maxLen) (hC : ∀ W, KeptH TF w W → Below w0.heap.size w0 W → Kd.C Kd.string W A l.length l) (h : kindOf k = 3) :
  Calls Tryz.prog 7 #[ptr g, stV k n nm A l.length c] w fun e w' => ∃ va vb : Value, e = .returned (.agg #[.bool (stepF s k n nm l).1.is, .int .i64 (stepF s k n nm l).1.e, va, vb]) ∧ Kd.R Kd.string 9 w' w.heap.size (fun _ => True) va (stepF s k n nm l).1.a ∧ Kd.R Kd.string 9 w' w.heap.size (fun _ => True) vb (stepF s k n nm l).1.b ∧ St w0 w w' g (stepF s k n nm l).2 := by
 have HK := as0 (fun W => zd1 k n nm A l.length c W)
 rw [h] at HK
 have HSZ := as0 (zt0 hB)
 unfold stepF
 rw [h]
 rw [if_neg (by decide)]
 rw [if_neg (by decide)]
 rw [if_neg (by decide)]
 rw [if_pos rfl]
 clear h
 go_enter Tryz.func7, Tryz.ntmps7
 go_wp2_with (first
  | (go_at_call 17; refine (HK.out _).mono ?_; rintro e w1 ⟨rfl, hb1⟩; have HBW := as0 (z10 (z80 (z80 (Below.refl _ w) _) _) hb1); have HF1 := as0 (hF.below HBW.out); have HB1 := as0 (z10 hB HBW.out); have HK1 := as0 (KeptH.of_below (T := TF) HBW.out); have HZ1 := as0 HBW.out.size; obtain ⟨bs, bn⟩ := zq1 hb1; have sc1 := z60 bs 1; have sc2 := z60 bs 2; have sc3 := z60 bs 3; have sl := z70 bs; have nl := z70 bn; have BN := as0 bn; clear hb1 bs bn)
  | (go_at_call 19; refine (zwc hq hv HF1.out HB1.out nm n).mono ?_; rintro e w2 ⟨rfl, hi, hb, hk⟩; have BN2 := as0 (Ko.blkc hk BN.out (by decide)); have bn2 := BN2.out; have nf0 := z40 bn2 0; have nf1 := z40 bn2 1; have nf2 := z40 bn2 2; have nf3 := z40 bn2 3; have nc0 := z60 bn2 0; have nc1 := z60 bn2 1; have nc2 := z60 bn2 2; have nc3 := z60 bn2 3; have nl2 := z70 bn2; have HF2 := as0 hi; have HB2 := as0 hb; have HK2 := as0 (HK1.out.trans hk); clear hi hb hk bn2))
 refine bodyPost_ret (z11 (p := 4) rfl _ _ (w.heap.size + 1) 39 _ (0, 0) _ rfl (set4 BN2.out) Tryz.underlying39 rfl (by kernel_rfl)) rfl ?_
 exact ⟨_, _, rfl, Kd.R_nil _ _ _ _ _, Kd.R_nil _ _ _ _ _, zu2 HF2.out HB2.out HK2.out BN2.out (by decide) (by omega) (by have := HSZ.out; omega)⟩
theorem step_4 (k n : Int) (nm : ByteArray) (l : List ByteArray) (A : Option Addr) (c : Nat) (hc : l.length ≤ c) (hs : ∀ x ∈ l, x.size ≤ maxLen) (hC : ∀ W, KeptH TF w W → Below w0.heap.size w0 W → Kd.C Kd.string W A l.length l) (h : kindOf k = 4) :
  Calls Tryz.prog 7 #[ptr g, stV k n nm A l.length c] w fun e w' => ∃ va vb : Value, e = .returned (.agg #[.bool (stepF s k n nm l).1.is, .int .i64 (stepF s k n nm l).1.e, va, vb]) ∧ Kd.R Kd.string 9 w' w.heap.size (fun _ => True) va (stepF s k n nm l).1.a ∧ Kd.R Kd.string 9 w' w.heap.size (fun _ => True) vb (stepF s k n nm l).1.b ∧ St w0 w w' g (stepF s k n nm l).2 := by
 have HK := as0 (fun W => zd1 k n nm A l.length c W)
 rw [h] at HK
 have HSZ := as0 (zt0 hB)
 unfold stepF
 rw [h]
 rw [if_neg (by decide)]
 rw [if_neg (by decide)]
 rw [if_neg (by decide)]
 rw [if_neg (by decide)]
 rw [if_pos rfl]
 clear h
 go_enter Tryz.func7, Tryz.ntmps7
 go_wp2_with (first
  | (go_at_call 17; refine (HK.out _).mono ?_; rintro e w1 ⟨rfl, hb1⟩; have HBW := as0 (z10 (z80 (z80 (Below.refl _ w) _) _) hb1); have HF1 := as0 (hF.below HBW.out); have HB1 := as0 (z10 hB HBW.out); have HK1 := as0 (KeptH.of_below (T := TF) HBW.out); have HZ1 := as0 HBW.out.size; obtain ⟨bs, bn⟩ := zq1 hb1; have sc1 := z60 bs 1; have sc2 := z60 bs 2; have sc3 := z60 bs 3; have sl := z70 bs; have nl := z70 bn; have BN := as0 bn; clear hb1 bs bn)
  | (go_at_call 20; refine (z1c hq hv HF1.out HB1.out nm).mono ?_; rintro e w2 ⟨rfl, hi, hb, hk⟩; have BN2 := as0 (Ko.blkc hk BN.out (by decide)); have bn2 := BN2.out; have nf0 := z40 bn2 0; have nf1 := z40 bn2 1; have nf2 := z40 bn2 2; have nf3 := z40 bn2 3; have nc0 := z60 bn2 0; have nc1 := z60 bn2 1; have nc2 := z60 bn2 2; have nc3 := z60 bn2 3; have nl2 := z70 bn2; have HF2 := as0 hi; have HB2 := as0 hb; have HK2 := as0 (HK1.out.trans hk); clear hi hb hk bn2))
 refine bodyPost_ret (z11 (p := 4) rfl _ _ (w.heap.size + 1) 39 _ (0, 0) _ rfl (set4 BN2.out) Tryz.underlying39 rfl (by kernel_rfl)) rfl ?_
 exact ⟨_, _, rfl, Kd.R_nil _ _ _ _ _, Kd.R_nil _ _ _ _ _, zu2 HF2.out HB2.out HK2.out BN2.out (by decide) (by omega) (by have := HSZ.out; omega)⟩
theorem step_5 (k n : Int) (nm : ByteArray) (l : List ByteArray) (A : Option Addr) (c : Nat) (hc : l.length ≤ c) (hs : ∀ x ∈ l, x.size ≤ maxLen) (hC : ∀ W, KeptH TF w W → Below w0.heap.size w0 W → Kd.C Kd.string W A l.length l) (h : kindOf k = 5) :
  Calls Tryz.prog 7 #[ptr g, stV k n nm A l.length c] w fun e w' => ∃ va vb : Value, e = .returned (.agg #[.bool (stepF s k n nm l).1.is, .int .i64 (stepF s k n nm l).1.e, va, vb]) ∧ Kd.R Kd.string 9 w' w.heap.size (fun _ => True) va (stepF s k n nm l).1.a ∧ Kd.R Kd.string 9 w' w.heap.size (fun _ => True) vb (stepF s k n nm l).1.b ∧ St w0 w w' g (stepF s k n nm l).2 := by
 have HK := as0 (fun W => zd1 k n nm A l.length c W)
 rw [h] at HK
 have HSZ := as0 (zt0 hB)
 unfold stepF
 rw [h]
 rw [if_neg (by decide)]
 rw [if_neg (by decide)]
 rw [if_neg (by decide)]
 rw [if_neg (by decide)]
 rw [if_neg (by decide)]
 rw [if_pos rfl]
 clear h
 go_enter Tryz.func7, Tryz.ntmps7
 go_wp2_with (first
  | (go_at_call 17; refine (HK.out _).mono ?_; rintro e w1 ⟨rfl, hb1⟩; have HBW := as0 (z10 (z80 (z80 (Below.refl _ w) _) _) hb1); have HF1 := as0 (hF.below HBW.out); have HB1 := as0 (z10 hB HBW.out); have HK1 := as0 (KeptH.of_below (T := TF) HBW.out); have HZ1 := as0 HBW.out.size; obtain ⟨bs, bn⟩ := zq1 hb1; have sc1 := z60 bs 1; have sc2 := z60 bs 2; have sc3 := z60 bs 3; have sl := z70 bs; have nl := z70 bn; have BN := as0 bn; clear hb1 bs bn)
  | (go_at_call 13; refine (zu6 hq hv HF1.out HB1.out n).mono ?_; rintro e w2 ⟨v1, rfl, hr1, hi, hb, hk⟩; obtain ⟨A1, n1, rfl⟩ := Kd.R_slice hr1; have HR1 := as0 (Kd.R_lower hr1 HZ1.out); clear hr1; have BN2 := as0 (Ko.blkc hk BN.out (by decide)); have bn2 := BN2.out; have nf0 := z40 bn2 0; have nf1 := z40 bn2 1; have nf2 := z40 bn2 2; have nf3 := z40 bn2 3; have nc0 := z60 bn2 0; have nc1 := z60 bn2 1; have nc2 := z60 bn2 2; have nc3 := z60 bn2 3; have nl2 := z70 bn2; have HF2 := as0 hi; have HB2 := as0 hb; have HK2 := as0 (HK1.out.trans hk); clear hi hb hk bn2))
 refine bodyPost_ret (z11 (p := 4) rfl _ _ (w.heap.size + 1) 39 _ (0, 0) _ rfl (set4 BN2.out) Tryz.underlying39 rfl (by kernel_rfl)) rfl ?_
 exact ⟨_, _, rfl, zr5 HR1.out BN2.out (ztc (by decide)), Kd.R_nil _ _ _ _ _, zu2 HF2.out HB2.out HK2.out BN2.out (by decide) (by omega) (by have := HSZ.out; omega)⟩
theorem step_6 (k n : Int) (nm : ByteArray) (l : List ByteArray) (A : Option Addr) (c : Nat) (hc : l.length ≤ c) (hs : ∀ x ∈ l, x.size ≤ maxLen) (hC : ∀ W, KeptH TF w W → Below w0.heap.size w0 W → Kd.C Kd.string W A l.length l) (h : kindOf k = 6) :
  Calls Tryz.prog 7 #[ptr g, stV k n nm A l.length c] w fun e w' => ∃ va vb : Value, e = .returned (.agg #[.bool (stepF s k n nm l).1.is, .int .i64 (stepF s k n nm l).1.e, va, vb]) ∧ Kd.R Kd.string 9 w' w.heap.size (fun _ => True) va (stepF s k n nm l).1.a ∧ Kd.R Kd.string 9 w' w.heap.size (fun _ => True) vb (stepF s k n nm l).1.b ∧ St w0 w w' g (stepF s k n nm l).2 := by
 have HK := as0 (fun W => zd1 k n nm A l.length c W)
 rw [h] at HK
 have HSZ := as0 (zt0 hB)
 unfold stepF
 rw [h]
 rw [if_neg (by decide)]
 rw [if_neg (by decide)]
 rw [if_neg (by decide)]
 rw [if_neg (by decide)]
 rw [if_neg (by decide)]
 rw [if_neg (by decide)]
 rw [if_pos rfl]
 clear h
 go_enter Tryz.func7, Tryz.ntmps7
 go_wp2_with (first
  | (go_at_call 17; refine (HK.out _).mono ?_; rintro e w1 ⟨rfl, hb1⟩; have HBW := as0 (z10 (z80 (z80 (Below.refl _ w) _) _) hb1); have HF1 := as0 (hF.below HBW.out); have HB1 := as0 (z10 hB HBW.out); have HK1 := as0 (KeptH.of_below (T := TF) HBW.out); have HZ1 := as0 HBW.out.size; obtain ⟨bs, bn⟩ := zq1 hb1; have sc1 := z60 bs 1; have sc2 := z60 bs 2; have sc3 := z60 bs 3; have sl := z70 bs; have nl := z70 bn; have BN := as0 bn; clear hb1 bs bn)
  | (go_at_call 21; refine (z4d hq hv HF1.out HB1.out nm).mono ?_; rintro e w2 ⟨rfl, hi, hb, hk⟩; have BN2 := as0 (Ko.blkc hk BN.out (by decide)); have bn2 := BN2.out; have nf0 := z40 bn2 0; have nf1 := z40 bn2 1; have nf2 := z40 bn2 2; have nf3 := z40 bn2 3; have nc0 := z60 bn2 0; have nc1 := z60 bn2 1; have nc2 := z60 bn2 2; have nc3 := z60 bn2 3; have nl2 := z70 bn2; have HF2 := as0 hi; have HB2 := as0 hb; have HK2 := as0 (HK1.out.trans hk); clear hi hb hk bn2))
 refine bodyPost_ret (z11 (p := 4) rfl _ _ (w.heap.size + 1) 39 _ (0, 0) _ rfl (set4 BN2.out) Tryz.underlying39 rfl (by kernel_rfl)) rfl ?_
 exact ⟨_, _, rfl, Kd.R_nil _ _ _ _ _, Kd.R_nil _ _ _ _ _, zu2 HF2.out HB2.out HK2.out BN2.out (by decide) (by omega) (by have := HSZ.out; omega)⟩
theorem step_7 (k n : Int) (nm : ByteArray) (l : List ByteArray) (A : Option Addr) (c : Nat) (hc : l.length ≤ c) (hs : ∀ x ∈ l, x.size ≤ maxLen) (hC : ∀ W, KeptH TF w W → Below w0.heap.size w0 W → Kd.C Kd.string W A l.length l) (h : kindOf k = 7) :
  Calls Tryz.prog 7 #[ptr g, stV k n nm A l.length c] w fun e w' => ∃ va vb : Value, e = .returned (.agg #[.bool (stepF s k n nm l).1.is, .int .i64 (stepF s k n nm l).1.e, va, vb]) ∧ Kd.R Kd.string 9 w' w.heap.size (fun _ => True) va (stepF s k n nm l).1.a ∧ Kd.R Kd.string 9 w' w.heap.size (fun _ => True) vb (stepF s k n nm l).1.b ∧ St w0 w w' g (stepF s k n nm l).2 := by
 have HK := as0 (fun W => zd1 k n nm A l.length c W)
 rw [h] at HK
 have HSZ := as0 (zt0 hB)
 unfold stepF
 rw [h]
 rw [if_neg (by decide)]
 rw [if_neg (by decide)]
 rw [if_neg (by decide)]
 rw [if_neg (by decide)]
 rw [if_neg (by decide)]
 rw [if_neg (by decide)]
 rw [if_neg (by decide)]
 clear h
 go_enter Tryz.func7, Tryz.ntmps7
 go_wp2_with (first
  | (go_at_call 17; refine (HK.out _).mono ?_; rintro e w1 ⟨rfl, hb1⟩; have HBW := as0 (z10 (z80 (z80 (Below.refl _ w) _) _) hb1); have HF1 := as0 (hF.below HBW.out); have HB1 := as0 (z10 hB HBW.out); have HK1 := as0 (KeptH.of_below (T := TF) HBW.out); have HZ1 := as0 HBW.out.size; obtain ⟨bs, bn⟩ := zq1 hb1; have sc1 := z60 bs 1; have sc2 := z60 bs 2; have sc3 := z60 bs 3; have sl := z70 bs; have nl := z70 bn; have BN := as0 bn; clear hb1 bs bn)
  | (go_at_call 22; refine (zob hq hv HF1.out HB1.out nm).mono ?_; rintro e w2 ⟨rfl, hi, hb, hk⟩; have BN2 := as0 (Ko.blkc hk BN.out (by decide)); have bn2 := BN2.out; have nf0 := z40 bn2 0; have nf1 := z40 bn2 1; have nf2 := z40 bn2 2; have nf3 := z40 bn2 3; have nc0 := z60 bn2 0; have nc1 := z60 bn2 1; have nc2 := z60 bn2 2; have nc3 := z60 bn2 3; have nl2 := z70 bn2; have HF2 := as0 hi; have HB2 := as0 hb; have HK2 := as0 (HK1.out.trans hk); clear hi hb hk bn2))
 refine bodyPost_ret (z11 (p := 4) rfl _ _ (w.heap.size + 1) 39 _ (0, 0) _ rfl (set4 BN2.out) Tryz.underlying39 rfl (by kernel_rfl)) rfl ?_
 exact ⟨_, _, rfl, Kd.R_nil _ _ _ _ _, Kd.R_nil _ _ _ _ _, zu2 HF2.out HB2.out HK2.out BN2.out (by decide) (by omega) (by have := HSZ.out; omega)⟩
theorem step_any (k n : Int) (nm : ByteArray) (l : List ByteArray) (A : Option Addr) (c : Nat) (hc : l.length ≤ c) (hs : ∀ x ∈ l, x.size ≤ maxLen) (hC : ∀ W, KeptH TF w W → Below w0.heap.size w0 W → Kd.C Kd.string W A l.length l) :
  Calls Tryz.prog 7 #[ptr g, stV k n nm A l.length c] w fun e w' => ∃ va vb : Value, e = .returned (.agg #[.bool (stepF s k n nm l).1.is, .int .i64 (stepF s k n nm l).1.e, va, vb]) ∧ Kd.R Kd.string 9 w' w.heap.size (fun _ => True) va (stepF s k n nm l).1.a ∧ Kd.R Kd.string 9 w' w.heap.size (fun _ => True) vb (stepF s k n nm l).1.b ∧ St w0 w w' g (stepF s k n nm l).2 := by
 rcases zd5 k with h | h | h | h | h | h | h | h
 ·exact step_0 hq hv hF hB k n nm l A c hc hs hC h
 ·exact step_1 hq hv hF hB k n nm l A c hc hs hC h
 ·exact step_2 hq hv hF hB k n nm l A c hc hs hC h
 ·exact step_3 hq hv hF hB k n nm l A c hc hs hC h
 ·exact step_4 hq hv hF hB k n nm l A c hc hs hC h
 ·exact step_5 hq hv hF hB k n nm l A c hc hs hC h
 ·exact step_6 hq hv hF hB k n nm l A c hc hs hC h
 ·exact step_7 hq hv hF hB k n nm l A c hc hs hC h
end
end
end Go.Proofs.YtmlmiocomlehgaaGreat.Man
end
section
namespace Go.Proofs.YtmlmiocomlehgaaGreat.Man
open Go.RowKit Go.Proofs.YtmlmiocomlehgaaGreatW.PrintWords Go.Proofs.YtmlmiocomlehgaaGreatW.PrintLast Go.Proofs.YtmlmiocomlehgaaGreatW.PrintMore Go.Proofs.YtmlmiocomlehgaaGreat.PA Go.Proofs.YtmlmiocomlehgaaGreat.PR Go.Proofs.YtmlmiocomlehgaaGreat.PF Go.Proofs.YtmlmiocomlehgaaGreat.Na Go.Proofs.YtmlmiocomlehgaaGreat.Hid Go.Proofs.YtmlmiocomlehgaaGreat.Nil
section
theorem zs1 {P : Program} {fn : Func} {p q : Tmp} {t1 t2 : TypeId} (h : fn.results = #[.cell p t1, .cell q t2]) (tmps : Array Value) (w : World) (g1 g2 : Nat) (cs1 cs2 : Array Value)
  (hp : tmps.getD p undef = .pointer (some ⟨g1, 0, none⟩)) (hp2 : tmps.getD q undef = .pointer (some ⟨g2, 0, none⟩))
  (r1 : (loadVar t1 ⟨g1, 0, none⟩).run P w = .ok (.agg cs1) w) (r2 : (loadVar t2 ⟨g2, 0, none⟩).run P w = .ok (.agg cs2) w) :
  (results fn tmps).run P w = .ok (.tuple #[.agg cs1, .agg cs2]) w := by
 have hp' : tmps[p]?.getD undef = .pointer (some ⟨g1, 0, none⟩) := by simpa using hp
 have hp2' : tmps[q]?.getD undef = .pointer (some ⟨g2, 0, none⟩) := by simpa using hp2
 simp [results, h, hp', hp2', asAddr, r1, r2]
theorem b4cells {W : World} {g t : Nat} {c0 c1 c2 c3 : Value} (h : W.heap[g]? = some (.cells #[c0, c1, c2, c3] t (0, 0))) : W.cell? ⟨g, 0, none⟩ = some c0 ∧ W.cell? ⟨g, 1, none⟩ = some c1 ∧ W.cell? ⟨g, 2, none⟩ = some c2 ∧ W.cell? ⟨g, 3, none⟩ = some c3 := ⟨(z60 h 0).trans rfl, (z60 h 1).trans rfl, (z60 h 2).trans rfl, (z60 h 3).trans rfl⟩
theorem zw0 {W : World} {g t : Nat} {c0 c1 c2 c3 : Value} (h : W.heap[g]? = some (.cells #[c0, c1, c2, c3] t (0, 0))) :
  W.cell? ⟨g, 0, none⟩ = some c0 ∧ W.cell? ⟨g, 1, none⟩ = some c1 ∧ W.cell? ⟨g, 2, none⟩ = some c2 ∧ W.cell? ⟨g, 3, none⟩ = some c3 ∧ W.frozen? ⟨g, 0, none⟩ = false ∧ W.frozen? ⟨g, 1, none⟩ = false ∧ W.frozen? ⟨g, 2, none⟩ = false ∧ W.frozen? ⟨g, 3, none⟩ = false ∧ g < W.heap.size := by
 obtain ⟨a0, a1, a2, a3⟩ := b4cells h
 exact ⟨a0, a1, a2, a3, z40 h 0, z40 h 1, z40 h 2, z40 h 3, z70 h⟩
abbrev se4 (W : World) (g : Nat) (a0 a1 a2 a3 : Value) : World := (((W.setCell ⟨g, 0, none⟩ a0).setCell ⟨g, 1, none⟩ a1).setCell ⟨g, 2, none⟩ a2).setCell ⟨g, 3, none⟩ a3
theorem zq0 {W : World} {g k : Nat} {a0 a1 a2 a3 : Value} (h : k ≠ g) : (se4 W g a0 a1 a2 a3).heap[k]? = W.heap[k]? :=
 (Below.heap_setCell _ ⟨g, 3, none⟩ _ k h).trans ((Below.heap_setCell _ ⟨g, 2, none⟩ _ k h).trans ((Below.heap_setCell _ ⟨g, 1, none⟩ _ k h).trans (Below.heap_setCell _ ⟨g, 0, none⟩ _ k h)))
theorem zt2 {W : World} {g t : Nat} {c0 c1 c2 c3 a0 a1 a2 a3 : Value} (h : W.heap[g]? = some (.cells #[c0, c1, c2, c3] t (0, 0))) : (se4 W g a0 a1 a2 a3).heap[g]? = some (.cells #[a0, a1, a2, a3] t (0, 0)) := by
 simpa using zz0 (zz0 (zz0 (zz0 h 0 a0) 1 a1) 2 a2) 3 a3
theorem zi1 {w0 W : World} {g : Nat} {a0 a1 a2 a3 : Value} (h : Below w0.heap.size w0 W) (hg : w0.heap.size ≤ g) : Below w0.heap.size w0 (se4 W g a0 a1 a2 a3) := zc0 (zc0 (zc0 (zc0 h hg) hg) hg) hg
theorem zh2 (b : Nat → Prop) (W : World) : RdS b W (.slice none 0 0) [] := ⟨none, 0, rfl, Nat.le_refl _, ⟨rfl, Nat.zero_le _, fun h => absurd h (by simp)⟩, fun ad h => by cases h⟩
section
variable {b : Nat → Prop} {w : World}
theorem zlb {s : FS} {n : Nat} (hG : GB s n) (hn : n ≤ 300000) (k t : Int) (nm : ByteArray) (hsz : nm.size ≤ 100) (l : List ByteArray) (hls : ∀ x ∈ l, x.size ≤ 9223372036854775807) (A : Option Addr) (c : Nat) (hc : l.length ≤ c) (hC : ∀ W, Below w.heap.size w W → Kd.C Kd.string W A l.length l) {vs : Value} (h : FR b w vs (toR s)) (hb : FrB b w.heap.size) (hk : kindOf k = 0) :
  Calls Tryz.prog 8 #[vs, stV k t nm A l.length c] w fun e w' => ∃ vs' va vb : Value, e = .returned (.tuple #[vs', .agg #[.bool (stepF s k t nm l).1.is, .int .i64 (stepF s k t nm l).1.e, va, vb]]) ∧ FR b w' vs' (toR (stepF s k t nm l).2) ∧ RdS b w' va (stepF s k t nm l).1.a ∧ RdS b w' vb (stepF s k t nm l).1.b ∧ Below w.heap.size w w' := by
 have HK := as0 (fun W => zd1 k t nm A l.length c W)
 rw [hk] at HK
 have HCC := as0 hC
 have HF := as0 (fun (W : World) (vs : Value) (hBW : Below w.heap.size w W) (h : FR b W vs (toR s)) (hbW : FrB b W.heap.size) => zm9 hG hn l hls A c (fun W' hb' => HCC.out W' (z10 hBW hb')) hc t h hbW)
 unfold stepF
 rw [hk]
 rw [if_pos rfl]
 obtain ⟨q0, hq0⟩ : ∃ q, q = resolveF s l t := ⟨_, rfl⟩
 rw [← hq0] at HF ⊢
 obtain ⟨r1, hr1⟩ : ∃ q, q = toR q0.2 := ⟨_, rfl⟩
 rw [← hr1] at HF
 dsimp only
 rw [← hr1]
 obtain ⟨lsA, hla⟩ : ∃ q, q = q0.1.1 := ⟨_, rfl⟩
 obtain ⟨lsB, hlb⟩ : ∃ q, q = q0.1.2.1 := ⟨_, rfl⟩
 obtain ⟨ev, hev⟩ : ∃ q, q = q0.1.2.2 := ⟨_, rfl⟩
 rw [← hla, ← hlb, ← hev] at HF ⊢
 clear hq0 hla hlb hev hr1
 generalize toR s = r at h HF
 clear hG hn hsz hls hC hk
 have HB_0 : Aside0 (Below w.heap.size w w) := ⟨Below.refl _ _⟩
 obtain ⟨Aa0, ca0, Aa1, ca1, Aa2, ca2, Aa3, ca3, Aa4, ca4, Aa5, ca5, rfl⟩ := h.form
 have Fa_0 := as0 h
 have HBB := as0 hb
 clear h hb
 go_enter Tryz.func8, Tryz.ntmps8
 go_wp2_with (first
  | ((with_reducible refine bx (N := 2) (cs := #[.int .i64 r.each, .int .i64 r.guard, .slice Aa0 r.N.length ca0, .slice Aa1 r.S.length ca1, .slice Aa2 r.L.length ca2, .slice Aa3 r.d.w.length ca3, .slice Aa4 r.d.u.length ca4, .slice Aa5 r.d.a.length ca5]) (t := 33) rfl rfl ?hr ?_); (case hr => first | (go_simp; done) | (go_simp; rfl)); intro ga hg w1 hbox hb; have Fa_1 := as0 (Fa_0.out.below hb); have HB_1 := as0 (z10 HB_0.out hb); have Ba_1 := as0 hbox; have GE_a := as0 (show w.heap.size ≤ ga by rw [hg]; exact HB_0.out.size); clear hbox hb hg; have ya := za0 Ba_1.out)
  | ((with_reducible refine bx (N := 3) (cs := #[.int .i64 k, .int .i64 t, .string nm, .slice A l.length c]) (t := 36) rfl rfl ?hr ?_); (case hr => first | (go_simp; done) | (go_simp; rfl)); intro gs hg w2 hbox hb; have Ba_2 := as0 (z20 Ba_1.out hb); have Fa_2 := as0 (Fa_1.out.below hb); have HB_2 := as0 (z10 HB_1.out hb); have Bs_2 := as0 hbox; have GE_s := as0 (show w.heap.size ≤ gs by rw [hg]; exact HB_1.out.size); have NE_as := as0 (show ga ≠ gs by rw [hg]; exact Nat.ne_of_lt (z70 Ba_1.out)); clear hbox hb hg; clear ya; have ya := za0 Ba_2.out; have ys := zw0 Bs_2.out)
  | ((with_reducible refine bx (N := 4) (cs := #[.int .i64 0, .int .i64 0, .slice none 0 0, .slice none 0 0, .slice none 0 0, .slice none 0 0, .slice none 0 0, .slice none 0 0]) (t := 33) rfl rfl ?hr ?_); (case hr => first | (go_simp; done) | (go_simp; rfl)); intro gz hg w3 hbox hb; have Ba_3 := as0 (z20 Ba_2.out hb); have Bs_3 := as0 (z20 Bs_2.out hb); have Fa_3 := as0 (Fa_2.out.below hb); have HB_3 := as0 (z10 HB_2.out hb); have Bz_3 := as0 hbox; have GE_z := as0 (show w.heap.size ≤ gz by rw [hg]; exact HB_2.out.size); have NE_az := as0 (show ga ≠ gz by rw [hg]; exact Nat.ne_of_lt (z70 Ba_2.out)); have NE_sz := as0 (show gs ≠ gz by rw [hg]; exact Nat.ne_of_lt (z70 Bs_2.out)); clear hbox hb hg; clear ya ys; have ya := za0 Ba_3.out; have ys := zw0 Bs_3.out)
  | ((with_reducible refine bx (N := 5) (cs := #[.bool false, .int .i64 0, .slice none 0 0, .slice none 0 0]) (t := 39) rfl rfl ?hr ?_); (case hr => first | (go_simp; done) | (go_simp; rfl)); intro gy hg w4 hbox hb; have Ba_4 := as0 (z20 Ba_3.out hb); have Bs_4 := as0 (z20 Bs_3.out hb); have Bz_4 := as0 (z20 Bz_3.out hb); have Fa_4 := as0 (Fa_3.out.below hb); have HB_4 := as0 (z10 HB_3.out hb); have By_4 := as0 hbox; have GE_y := as0 (show w.heap.size ≤ gy by rw [hg]; exact HB_3.out.size); have NE_ay := as0 (show ga ≠ gy by rw [hg]; exact Nat.ne_of_lt (z70 Ba_3.out)); have NE_sy := as0 (show gs ≠ gy by rw [hg]; exact Nat.ne_of_lt (z70 Bs_3.out)); have NE_zy := as0 (show gz ≠ gy by rw [hg]; exact Nat.ne_of_lt (z70 Bz_3.out)); clear hbox hb hg; clear ya ys; have ya := za0 Ba_4.out; have ys := zw0 Bs_4.out)
  | (go_at_call 17; (with_reducible refine (HK.out _).mono ?_); rintro e w5 ⟨rfl, hb⟩; have Ba_5 := as0 (z20 Ba_4.out hb); have Bs_5 := as0 (z20 Bs_4.out hb); have Bz_5 := as0 (z20 Bz_4.out hb); have By_5 := as0 (z20 By_4.out hb); have Fa_5 := as0 (Fa_4.out.below hb); have HB_5 := as0 (z10 HB_4.out hb); clear hb; clear ya ys; have ya := za0 Ba_5.out; have ys := zw0 Bs_5.out)
  | (go_at_call 23; (with_reducible refine (HF.out _ _ HB_5.out Fa_5.out (zf1 HBB.out HB_5.out.size)).mono ?_); rintro e w6 ⟨vs_, va_, vb_, rfl, hF_, hA2, hB2, hb⟩; obtain ⟨Ab0, cb0, Ab1, cb1, Ab2, cb2, Ab3, cb3, Ab4, cb4, Ab5, cb5, rfl⟩ := hF_.form; have Ba_6 := as0 (z20 Ba_5.out hb); have Bs_6 := as0 (z20 Bs_5.out hb); have Bz_6 := as0 (z20 Bz_5.out hb); have By_6 := as0 (z20 By_5.out hb); have Fa_6 := as0 (Fa_5.out.below hb); have HB_6 := as0 (z10 HB_5.out hb); have Fb_6 := as0 hF_; obtain ⟨Aa, na, rfl⟩ := hA2.slice; obtain ⟨Ab, nb, rfl⟩ := hB2.slice; have RA_6 := as0 hA2; have RB_6 := as0 hB2; clear hA2 hB2; clear hb hF_; clear ya ys)
  | ((with_reducible refine bx (N := 6) (cs := #[.int .i64 0, .int .i64 0, .slice none 0 0, .slice none 0 0, .slice none 0 0, .slice none 0 0, .slice none 0 0, .slice none 0 0]) (t := 33) rfl rfl ?hr ?_); (case hr => first | (go_simp; done) | (go_simp; rfl)); intro gn hg w7 hbox hb; have Bz_7 := as0 (z20 Bz_6.out hb); have By_7 := as0 (z20 By_6.out hb); have Fb_7 := as0 (Fb_6.out.below hb); have RA_7 := as0 (RA_6.out.below hb); have RB_7 := as0 (RB_6.out.below hb); have HB_7 := as0 (z10 HB_6.out hb); have Bn_7 := as0 hbox; have GE_n := as0 (show w.heap.size ≤ gn by rw [hg]; exact HB_6.out.size); have NE_zn := as0 (show gz ≠ gn by rw [hg]; exact Nat.ne_of_lt (z70 Bz_6.out)); have NE_yn := as0 (show gy ≠ gn by rw [hg]; exact Nat.ne_of_lt (z70 By_6.out)); clear hbox hb hg; have yn := za0 Bn_7.out)
  | ((with_reducible refine sx (W := w7) (t := 33) (p := 6) (w1 := set8 w7 gn (.int .i64 r1.each) (.int .i64 r1.guard) (.slice Ab0 r1.N.length cb0) (.slice Ab1 r1.S.length cb1) (.slice Ab2 r1.L.length cb2) (.slice Ab3 r1.d.w.length cb3) (.slice Ab4 r1.d.u.length cb4) (.slice Ab5 r1.d.a.length cb5)) rfl rfl rfl ?hr ?_); (case hr => first | (go_simp; done) | (go_simp; rfl)); intro w8 hw_; have Bz_8 := as0 (zg0 z30 hw_ NE_zn.out Bz_7.out); have By_8 := as0 (zg0 z30 hw_ NE_yn.out By_7.out); have Bn_8 := as0 (zu0 (zi0 Bn_7.out) hw_); have Fb_8 := as0 (zk0 z30 hw_ Fb_7.out Bn_7.out (by decide)); have RA_8 : Aside0 (RdS b w8 (.slice Aa lsA.length na) lsA) := ⟨by rw [hw_]; exact RA_7.out.far Bn_7.out (by decide) (fun k hk => z30 hk)⟩; have RB_8 : Aside0 (RdS b w8 (.slice Ab lsB.length nb) lsB) := ⟨by rw [hw_]; exact RB_7.out.far Bn_7.out (by decide) (fun k hk => z30 hk)⟩; have HB_8 := as0 (zf0 (zb0 HB_7.out GE_n.out) hw_); clear hw_ ; clear yn; have yn := za0 Bn_8.out)
  | (have yz := za0 Bz_8.out; (with_reducible refine sx (W := w8) (t := 33) (p := 4) (w1 := set8 w8 gz (.int .i64 r1.each) (.int .i64 r1.guard) (.slice Ab0 r1.N.length cb0) (.slice Ab1 r1.S.length cb1) (.slice Ab2 r1.L.length cb2) (.slice Ab3 r1.d.w.length cb3) (.slice Ab4 r1.d.u.length cb4) (.slice Ab5 r1.d.a.length cb5)) rfl rfl rfl ?hr ?_); (case hr => first | (go_simp; done) | (go_simp; rfl)); intro w9 hw_; have Bz_9 := as0 (zu0 (zi0 Bz_8.out) hw_); have By_9 := as0 (zg0 z30 hw_ NE_zy.out.symm By_8.out); have Bn_9 := as0 (zg0 z30 hw_ NE_zn.out.symm Bn_8.out); have Fb_9 := as0 (zk0 z30 hw_ Fb_8.out Bz_8.out (by decide)); have RA_9 : Aside0 (RdS b w9 (.slice Aa lsA.length na) lsA) := ⟨by rw [hw_]; exact RA_8.out.far Bz_8.out (by decide) (fun k hk => z30 hk)⟩; have RB_9 : Aside0 (RdS b w9 (.slice Ab lsB.length nb) lsB) := ⟨by rw [hw_]; exact RB_8.out.far Bz_8.out (by decide) (fun k hk => z30 hk)⟩; have HB_9 := as0 (zf0 (zb0 HB_8.out GE_z.out) hw_); clear hw_ yz; clear yn; have yn := za0 Bn_9.out)
  | (have yy := zw0 By_9.out; (with_reducible refine sx (W := w9) (t := 39) (p := 5) (w1 := se4 w9 gy (.bool false) (.int .i64 ev) (.slice Aa lsA.length na) (.slice Ab lsB.length nb)) rfl rfl rfl ?hr ?_); (case hr => first | (go_simp; done) | (go_simp; rfl)); intro w10 hw_; have Bz_10 := as0 (zg0 zq0 hw_ NE_zy.out Bz_9.out); have By_10 := as0 (zu0 (zt2 By_9.out) hw_); have Bn_10 := as0 (zg0 zq0 hw_ NE_yn.out.symm Bn_9.out); have Fb_10 := as0 (zk0 zq0 hw_ Fb_9.out By_9.out (by decide)); have RA_10 : Aside0 (RdS b w10 (.slice Aa lsA.length na) lsA) := ⟨by rw [hw_]; exact RA_9.out.far By_9.out (by decide) (fun k hk => zq0 hk)⟩; have RB_10 : Aside0 (RdS b w10 (.slice Ab lsB.length nb) lsB) := ⟨by rw [hw_]; exact RB_9.out.far By_9.out (by decide) (fun k hk => zq0 hk)⟩; have HB_10 := as0 (zf0 (zi1 HB_9.out GE_y.out) hw_); clear hw_ yy; clear yn; have yn := za0 Bn_10.out; (repeat (first | go_values | go_skip | go_guarded | go_step | go_upon | go_in)); have hlz := run_loadVar_row (P := Tryz.prog) w10 gz 33 33 _ (0, 0) _ Bz_10.out Tryz.underlying33 rfl (by kernel_rfl); have hly := run_loadVar_row (P := Tryz.prog) w10 gy 39 39 _ (0, 0) _ By_10.out Tryz.underlying39 rfl (by kernel_rfl); refine bodyPost_ret (zs1 (p := 4) (q := 5) (t1 := 33) (t2 := 39) rfl _ _ gz gy _ _ rfl rfl hlz hly) rfl ?_; exact ⟨_, _, _, rfl, Fb_10.out, RA_10.out, RB_10.out, HB_10.out⟩))
theorem zcc {s : FS} {n : Nat} (hG : GB s n) (hn : n ≤ 300000) (k t : Int) (nm : ByteArray) (hsz : nm.size ≤ 100) (l : List ByteArray) (hls : ∀ x ∈ l, x.size ≤ 9223372036854775807) (A : Option Addr) (c : Nat) (hc : l.length ≤ c) (hC : ∀ W, Below w.heap.size w W → Kd.C Kd.string W A l.length l) {vs : Value} (h : FR b w vs (toR s)) (hb : FrB b w.heap.size) (hk : kindOf k = 1) :
  Calls Tryz.prog 8 #[vs, stV k t nm A l.length c] w fun e w' => ∃ vs' va vb : Value, e = .returned (.tuple #[vs', .agg #[.bool (stepF s k t nm l).1.is, .int .i64 (stepF s k t nm l).1.e, va, vb]]) ∧ FR b w' vs' (toR (stepF s k t nm l).2) ∧ RdS b w' va (stepF s k t nm l).1.a ∧ RdS b w' vb (stepF s k t nm l).1.b ∧ Below w.heap.size w w' := by
 have HK := as0 (fun W => zd1 k t nm A l.length c W)
 rw [hk] at HK
 have HCC := as0 hC
 have HF := as0 (fun (W : World) (vs : Value) (hBW : Below w.heap.size w W) (h : FR b W vs (toR s)) (hbW : FrB b W.heap.size) => rdrain_s hG (by omega) nm hsz h hbW)
 unfold stepF
 rw [hk]
 rw [if_neg (by decide)]
 rw [if_pos rfl]
 obtain ⟨q0, hq0⟩ : ∃ q, q = drainF s nm := ⟨_, rfl⟩
 rw [← hq0] at HF ⊢
 obtain ⟨r1, hr1⟩ : ∃ q, q = toR q0.2 := ⟨_, rfl⟩
 rw [← hr1] at HF
 dsimp only
 rw [← hr1]
 obtain ⟨ev, hev⟩ : ∃ q, q = q0.1 := ⟨_, rfl⟩
 rw [← hev] at HF ⊢
 clear hq0 hev hr1
 generalize toR s = r at h HF
 clear hG hn hsz hls hC hk
 have HB_0 : Aside0 (Below w.heap.size w w) := ⟨Below.refl _ _⟩
 obtain ⟨Aa0, ca0, Aa1, ca1, Aa2, ca2, Aa3, ca3, Aa4, ca4, Aa5, ca5, rfl⟩ := h.form
 have Fa_0 := as0 h
 have HBB := as0 hb
 clear h hb
 go_enter Tryz.func8, Tryz.ntmps8
 go_wp2_with (first
  | ((with_reducible refine bx (N := 2) (cs := #[.int .i64 r.each, .int .i64 r.guard, .slice Aa0 r.N.length ca0, .slice Aa1 r.S.length ca1, .slice Aa2 r.L.length ca2, .slice Aa3 r.d.w.length ca3, .slice Aa4 r.d.u.length ca4, .slice Aa5 r.d.a.length ca5]) (t := 33) rfl rfl ?hr ?_); (case hr => first | (go_simp; done) | (go_simp; rfl)); intro ga hg w1 hbox hb; have Fa_1 := as0 (Fa_0.out.below hb); have HB_1 := as0 (z10 HB_0.out hb); have Ba_1 := as0 hbox; have GE_a := as0 (show w.heap.size ≤ ga by rw [hg]; exact HB_0.out.size); clear hbox hb hg; have ya := za0 Ba_1.out)
  | ((with_reducible refine bx (N := 3) (cs := #[.int .i64 k, .int .i64 t, .string nm, .slice A l.length c]) (t := 36) rfl rfl ?hr ?_); (case hr => first | (go_simp; done) | (go_simp; rfl)); intro gs hg w2 hbox hb; have Ba_2 := as0 (z20 Ba_1.out hb); have Fa_2 := as0 (Fa_1.out.below hb); have HB_2 := as0 (z10 HB_1.out hb); have Bs_2 := as0 hbox; have GE_s := as0 (show w.heap.size ≤ gs by rw [hg]; exact HB_1.out.size); have NE_as := as0 (show ga ≠ gs by rw [hg]; exact Nat.ne_of_lt (z70 Ba_1.out)); clear hbox hb hg; clear ya; have ya := za0 Ba_2.out; have ys := zw0 Bs_2.out)
  | ((with_reducible refine bx (N := 4) (cs := #[.int .i64 0, .int .i64 0, .slice none 0 0, .slice none 0 0, .slice none 0 0, .slice none 0 0, .slice none 0 0, .slice none 0 0]) (t := 33) rfl rfl ?hr ?_); (case hr => first | (go_simp; done) | (go_simp; rfl)); intro gz hg w3 hbox hb; have Ba_3 := as0 (z20 Ba_2.out hb); have Bs_3 := as0 (z20 Bs_2.out hb); have Fa_3 := as0 (Fa_2.out.below hb); have HB_3 := as0 (z10 HB_2.out hb); have Bz_3 := as0 hbox; have GE_z := as0 (show w.heap.size ≤ gz by rw [hg]; exact HB_2.out.size); have NE_az := as0 (show ga ≠ gz by rw [hg]; exact Nat.ne_of_lt (z70 Ba_2.out)); have NE_sz := as0 (show gs ≠ gz by rw [hg]; exact Nat.ne_of_lt (z70 Bs_2.out)); clear hbox hb hg; clear ya ys; have ya := za0 Ba_3.out; have ys := zw0 Bs_3.out)
  | ((with_reducible refine bx (N := 5) (cs := #[.bool false, .int .i64 0, .slice none 0 0, .slice none 0 0]) (t := 39) rfl rfl ?hr ?_); (case hr => first | (go_simp; done) | (go_simp; rfl)); intro gy hg w4 hbox hb; have Ba_4 := as0 (z20 Ba_3.out hb); have Bs_4 := as0 (z20 Bs_3.out hb); have Bz_4 := as0 (z20 Bz_3.out hb); have Fa_4 := as0 (Fa_3.out.below hb); have HB_4 := as0 (z10 HB_3.out hb); have By_4 := as0 hbox; have GE_y := as0 (show w.heap.size ≤ gy by rw [hg]; exact HB_3.out.size); have NE_ay := as0 (show ga ≠ gy by rw [hg]; exact Nat.ne_of_lt (z70 Ba_3.out)); have NE_sy := as0 (show gs ≠ gy by rw [hg]; exact Nat.ne_of_lt (z70 Bs_3.out)); have NE_zy := as0 (show gz ≠ gy by rw [hg]; exact Nat.ne_of_lt (z70 Bz_3.out)); clear hbox hb hg; clear ya ys; have ya := za0 Ba_4.out; have ys := zw0 Bs_4.out)
  | (go_at_call 17; (with_reducible refine (HK.out _).mono ?_); rintro e w5 ⟨rfl, hb⟩; have Ba_5 := as0 (z20 Ba_4.out hb); have Bs_5 := as0 (z20 Bs_4.out hb); have Bz_5 := as0 (z20 Bz_4.out hb); have By_5 := as0 (z20 By_4.out hb); have Fa_5 := as0 (Fa_4.out.below hb); have HB_5 := as0 (z10 HB_4.out hb); clear hb; clear ya ys; have ya := za0 Ba_5.out; have ys := zw0 Bs_5.out)
  | (go_at_call 24; (with_reducible refine (HF.out _ _ HB_5.out Fa_5.out (zf1 HBB.out HB_5.out.size)).mono ?_); rintro e w6 ⟨vs_, rfl, hF_, hb⟩; obtain ⟨Ab0, cb0, Ab1, cb1, Ab2, cb2, Ab3, cb3, Ab4, cb4, Ab5, cb5, rfl⟩ := hF_.form; have Ba_6 := as0 (z20 Ba_5.out hb); have Bs_6 := as0 (z20 Bs_5.out hb); have Bz_6 := as0 (z20 Bz_5.out hb); have By_6 := as0 (z20 By_5.out hb); have Fa_6 := as0 (Fa_5.out.below hb); have HB_6 := as0 (z10 HB_5.out hb); have Fb_6 := as0 hF_; clear hb hF_; clear ya ys)
  | ((with_reducible refine bx (N := 10) (cs := #[.int .i64 0, .int .i64 0, .slice none 0 0, .slice none 0 0, .slice none 0 0, .slice none 0 0, .slice none 0 0, .slice none 0 0]) (t := 33) rfl rfl ?hr ?_); (case hr => first | (go_simp; done) | (go_simp; rfl)); intro gn hg w7 hbox hb; have Bz_7 := as0 (z20 Bz_6.out hb); have By_7 := as0 (z20 By_6.out hb); have Fb_7 := as0 (Fb_6.out.below hb); have HB_7 := as0 (z10 HB_6.out hb); have Bn_7 := as0 hbox; have GE_n := as0 (show w.heap.size ≤ gn by rw [hg]; exact HB_6.out.size); have NE_zn := as0 (show gz ≠ gn by rw [hg]; exact Nat.ne_of_lt (z70 Bz_6.out)); have NE_yn := as0 (show gy ≠ gn by rw [hg]; exact Nat.ne_of_lt (z70 By_6.out)); clear hbox hb hg; have yn := za0 Bn_7.out)
  | ((with_reducible refine sx (W := w7) (t := 33) (p := 10) (w1 := set8 w7 gn (.int .i64 r1.each) (.int .i64 r1.guard) (.slice Ab0 r1.N.length cb0) (.slice Ab1 r1.S.length cb1) (.slice Ab2 r1.L.length cb2) (.slice Ab3 r1.d.w.length cb3) (.slice Ab4 r1.d.u.length cb4) (.slice Ab5 r1.d.a.length cb5)) rfl rfl rfl ?hr ?_); (case hr => first | (go_simp; done) | (go_simp; rfl)); intro w8 hw_; have Bz_8 := as0 (zg0 z30 hw_ NE_zn.out Bz_7.out); have By_8 := as0 (zg0 z30 hw_ NE_yn.out By_7.out); have Bn_8 := as0 (zu0 (zi0 Bn_7.out) hw_); have Fb_8 := as0 (zk0 z30 hw_ Fb_7.out Bn_7.out (by decide)); have HB_8 := as0 (zf0 (zb0 HB_7.out GE_n.out) hw_); clear hw_ ; clear yn; have yn := za0 Bn_8.out)
  | (have yz := za0 Bz_8.out; (with_reducible refine sx (W := w8) (t := 33) (p := 4) (w1 := set8 w8 gz (.int .i64 r1.each) (.int .i64 r1.guard) (.slice Ab0 r1.N.length cb0) (.slice Ab1 r1.S.length cb1) (.slice Ab2 r1.L.length cb2) (.slice Ab3 r1.d.w.length cb3) (.slice Ab4 r1.d.u.length cb4) (.slice Ab5 r1.d.a.length cb5)) rfl rfl rfl ?hr ?_); (case hr => first | (go_simp; done) | (go_simp; rfl)); intro w9 hw_; have Bz_9 := as0 (zu0 (zi0 Bz_8.out) hw_); have By_9 := as0 (zg0 z30 hw_ NE_zy.out.symm By_8.out); have Bn_9 := as0 (zg0 z30 hw_ NE_zn.out.symm Bn_8.out); have Fb_9 := as0 (zk0 z30 hw_ Fb_8.out Bz_8.out (by decide)); have HB_9 := as0 (zf0 (zb0 HB_8.out GE_z.out) hw_); clear hw_ yz; clear yn; have yn := za0 Bn_9.out)
  | (have yy := zw0 By_9.out; (with_reducible refine sx (W := w9) (t := 39) (p := 5) (w1 := se4 w9 gy (.bool false) (.int .i64 ev) (.slice none 0 0) (.slice none 0 0)) rfl rfl rfl ?hr ?_); (case hr => first | (go_simp; done) | (go_simp; rfl)); intro w10 hw_; have Bz_10 := as0 (zg0 zq0 hw_ NE_zy.out Bz_9.out); have By_10 := as0 (zu0 (zt2 By_9.out) hw_); have Bn_10 := as0 (zg0 zq0 hw_ NE_yn.out.symm Bn_9.out); have Fb_10 := as0 (zk0 zq0 hw_ Fb_9.out By_9.out (by decide)); have HB_10 := as0 (zf0 (zi1 HB_9.out GE_y.out) hw_); clear hw_ yy; clear yn; have yn := za0 Bn_10.out; (repeat (first | go_values | go_skip | go_guarded | go_step | go_upon | go_in)); have hlz := run_loadVar_row (P := Tryz.prog) w10 gz 33 33 _ (0, 0) _ Bz_10.out Tryz.underlying33 rfl (by kernel_rfl); have hly := run_loadVar_row (P := Tryz.prog) w10 gy 39 39 _ (0, 0) _ By_10.out Tryz.underlying39 rfl (by kernel_rfl); refine bodyPost_ret (zs1 (p := 4) (q := 5) (t1 := 33) (t2 := 39) rfl _ _ gz gy _ _ rfl rfl hlz hly) rfl ?_; exact ⟨_, _, _, rfl, Fb_10.out, zh2 _ _, zh2 _ _, HB_10.out⟩))
theorem z7b {s : FS} {n : Nat} (hG : GB s n) (hn : n ≤ 300000) (k t : Int) (nm : ByteArray) (hsz : nm.size ≤ 100) (l : List ByteArray) (hls : ∀ x ∈ l, x.size ≤ 9223372036854775807) (A : Option Addr) (c : Nat) (hc : l.length ≤ c) (hC : ∀ W, Below w.heap.size w W → Kd.C Kd.string W A l.length l) {vs : Value} (h : FR b w vs (toR s)) (hb : FrB b w.heap.size) (hk : kindOf k = 2) :
  Calls Tryz.prog 8 #[vs, stV k t nm A l.length c] w fun e w' => ∃ vs' va vb : Value, e = .returned (.tuple #[vs', .agg #[.bool (stepF s k t nm l).1.is, .int .i64 (stepF s k t nm l).1.e, va, vb]]) ∧ FR b w' vs' (toR (stepF s k t nm l).2) ∧ RdS b w' va (stepF s k t nm l).1.a ∧ RdS b w' vb (stepF s k t nm l).1.b ∧ Below w.heap.size w w' := by
 have HK := as0 (fun W => zd1 k t nm A l.length c W)
 rw [hk] at HK
 have HCC := as0 hC
 have HF := as0 (fun (W : World) (vs : Value) (hBW : Below w.heap.size w W) (h : FR b W vs (toR s)) (hbW : FrB b W.heap.size) => zw9 hG (by omega) nm hsz h hbW)
 unfold stepF
 rw [hk]
 rw [if_neg (by decide)]
 rw [if_neg (by decide)]
 rw [if_pos rfl]
 obtain ⟨q0, hq0⟩ : ∃ q, q = undrainF s nm := ⟨_, rfl⟩
 rw [← hq0] at HF ⊢
 obtain ⟨r1, hr1⟩ : ∃ q, q = toR q0.2 := ⟨_, rfl⟩
 rw [← hr1] at HF
 dsimp only
 rw [← hr1]
 obtain ⟨ev, hev⟩ : ∃ q, q = q0.1 := ⟨_, rfl⟩
 rw [← hev] at HF ⊢
 clear hq0 hev hr1
 generalize toR s = r at h HF
 clear hG hn hsz hls hC hk
 have HB_0 : Aside0 (Below w.heap.size w w) := ⟨Below.refl _ _⟩
 obtain ⟨Aa0, ca0, Aa1, ca1, Aa2, ca2, Aa3, ca3, Aa4, ca4, Aa5, ca5, rfl⟩ := h.form
 have Fa_0 := as0 h
 have HBB := as0 hb
 clear h hb
 go_enter Tryz.func8, Tryz.ntmps8
 go_wp2_with (first
  | ((with_reducible refine bx (N := 2) (cs := #[.int .i64 r.each, .int .i64 r.guard, .slice Aa0 r.N.length ca0, .slice Aa1 r.S.length ca1, .slice Aa2 r.L.length ca2, .slice Aa3 r.d.w.length ca3, .slice Aa4 r.d.u.length ca4, .slice Aa5 r.d.a.length ca5]) (t := 33) rfl rfl ?hr ?_); (case hr => first | (go_simp; done) | (go_simp; rfl)); intro ga hg w1 hbox hb; have Fa_1 := as0 (Fa_0.out.below hb); have HB_1 := as0 (z10 HB_0.out hb); have Ba_1 := as0 hbox; have GE_a := as0 (show w.heap.size ≤ ga by rw [hg]; exact HB_0.out.size); clear hbox hb hg; have ya := za0 Ba_1.out)
  | ((with_reducible refine bx (N := 3) (cs := #[.int .i64 k, .int .i64 t, .string nm, .slice A l.length c]) (t := 36) rfl rfl ?hr ?_); (case hr => first | (go_simp; done) | (go_simp; rfl)); intro gs hg w2 hbox hb; have Ba_2 := as0 (z20 Ba_1.out hb); have Fa_2 := as0 (Fa_1.out.below hb); have HB_2 := as0 (z10 HB_1.out hb); have Bs_2 := as0 hbox; have GE_s := as0 (show w.heap.size ≤ gs by rw [hg]; exact HB_1.out.size); have NE_as := as0 (show ga ≠ gs by rw [hg]; exact Nat.ne_of_lt (z70 Ba_1.out)); clear hbox hb hg; clear ya; have ya := za0 Ba_2.out; have ys := zw0 Bs_2.out)
  | ((with_reducible refine bx (N := 4) (cs := #[.int .i64 0, .int .i64 0, .slice none 0 0, .slice none 0 0, .slice none 0 0, .slice none 0 0, .slice none 0 0, .slice none 0 0]) (t := 33) rfl rfl ?hr ?_); (case hr => first | (go_simp; done) | (go_simp; rfl)); intro gz hg w3 hbox hb; have Ba_3 := as0 (z20 Ba_2.out hb); have Bs_3 := as0 (z20 Bs_2.out hb); have Fa_3 := as0 (Fa_2.out.below hb); have HB_3 := as0 (z10 HB_2.out hb); have Bz_3 := as0 hbox; have GE_z := as0 (show w.heap.size ≤ gz by rw [hg]; exact HB_2.out.size); have NE_az := as0 (show ga ≠ gz by rw [hg]; exact Nat.ne_of_lt (z70 Ba_2.out)); have NE_sz := as0 (show gs ≠ gz by rw [hg]; exact Nat.ne_of_lt (z70 Bs_2.out)); clear hbox hb hg; clear ya ys; have ya := za0 Ba_3.out; have ys := zw0 Bs_3.out)
  | ((with_reducible refine bx (N := 5) (cs := #[.bool false, .int .i64 0, .slice none 0 0, .slice none 0 0]) (t := 39) rfl rfl ?hr ?_); (case hr => first | (go_simp; done) | (go_simp; rfl)); intro gy hg w4 hbox hb; have Ba_4 := as0 (z20 Ba_3.out hb); have Bs_4 := as0 (z20 Bs_3.out hb); have Bz_4 := as0 (z20 Bz_3.out hb); have Fa_4 := as0 (Fa_3.out.below hb); have HB_4 := as0 (z10 HB_3.out hb); have By_4 := as0 hbox; have GE_y := as0 (show w.heap.size ≤ gy by rw [hg]; exact HB_3.out.size); have NE_ay := as0 (show ga ≠ gy by rw [hg]; exact Nat.ne_of_lt (z70 Ba_3.out)); have NE_sy := as0 (show gs ≠ gy by rw [hg]; exact Nat.ne_of_lt (z70 Bs_3.out)); have NE_zy := as0 (show gz ≠ gy by rw [hg]; exact Nat.ne_of_lt (z70 Bz_3.out)); clear hbox hb hg; clear ya ys; have ya := za0 Ba_4.out; have ys := zw0 Bs_4.out)
  | (go_at_call 17; (with_reducible refine (HK.out _).mono ?_); rintro e w5 ⟨rfl, hb⟩; have Ba_5 := as0 (z20 Ba_4.out hb); have Bs_5 := as0 (z20 Bs_4.out hb); have Bz_5 := as0 (z20 Bz_4.out hb); have By_5 := as0 (z20 By_4.out hb); have Fa_5 := as0 (Fa_4.out.below hb); have HB_5 := as0 (z10 HB_4.out hb); clear hb; clear ya ys; have ya := za0 Ba_5.out; have ys := zw0 Bs_5.out)
  | (go_at_call 25; (with_reducible refine (HF.out _ _ HB_5.out Fa_5.out (zf1 HBB.out HB_5.out.size)).mono ?_); rintro e w6 ⟨vs_, rfl, hF_, hb⟩; obtain ⟨Ab0, cb0, Ab1, cb1, Ab2, cb2, Ab3, cb3, Ab4, cb4, Ab5, cb5, rfl⟩ := hF_.form; have Ba_6 := as0 (z20 Ba_5.out hb); have Bs_6 := as0 (z20 Bs_5.out hb); have Bz_6 := as0 (z20 Bz_5.out hb); have By_6 := as0 (z20 By_5.out hb); have Fa_6 := as0 (Fa_5.out.below hb); have HB_6 := as0 (z10 HB_5.out hb); have Fb_6 := as0 hF_; clear hb hF_; clear ya ys)
  | ((with_reducible refine bx (N := 12) (cs := #[.int .i64 0, .int .i64 0, .slice none 0 0, .slice none 0 0, .slice none 0 0, .slice none 0 0, .slice none 0 0, .slice none 0 0]) (t := 33) rfl rfl ?hr ?_); (case hr => first | (go_simp; done) | (go_simp; rfl)); intro gn hg w7 hbox hb; have Bz_7 := as0 (z20 Bz_6.out hb); have By_7 := as0 (z20 By_6.out hb); have Fb_7 := as0 (Fb_6.out.below hb); have HB_7 := as0 (z10 HB_6.out hb); have Bn_7 := as0 hbox; have GE_n := as0 (show w.heap.size ≤ gn by rw [hg]; exact HB_6.out.size); have NE_zn := as0 (show gz ≠ gn by rw [hg]; exact Nat.ne_of_lt (z70 Bz_6.out)); have NE_yn := as0 (show gy ≠ gn by rw [hg]; exact Nat.ne_of_lt (z70 By_6.out)); clear hbox hb hg; have yn := za0 Bn_7.out)
  | ((with_reducible refine sx (W := w7) (t := 33) (p := 12) (w1 := set8 w7 gn (.int .i64 r1.each) (.int .i64 r1.guard) (.slice Ab0 r1.N.length cb0) (.slice Ab1 r1.S.length cb1) (.slice Ab2 r1.L.length cb2) (.slice Ab3 r1.d.w.length cb3) (.slice Ab4 r1.d.u.length cb4) (.slice Ab5 r1.d.a.length cb5)) rfl rfl rfl ?hr ?_); (case hr => first | (go_simp; done) | (go_simp; rfl)); intro w8 hw_; have Bz_8 := as0 (zg0 z30 hw_ NE_zn.out Bz_7.out); have By_8 := as0 (zg0 z30 hw_ NE_yn.out By_7.out); have Bn_8 := as0 (zu0 (zi0 Bn_7.out) hw_); have Fb_8 := as0 (zk0 z30 hw_ Fb_7.out Bn_7.out (by decide)); have HB_8 := as0 (zf0 (zb0 HB_7.out GE_n.out) hw_); clear hw_ ; clear yn; have yn := za0 Bn_8.out)
  | (have yz := za0 Bz_8.out; (with_reducible refine sx (W := w8) (t := 33) (p := 4) (w1 := set8 w8 gz (.int .i64 r1.each) (.int .i64 r1.guard) (.slice Ab0 r1.N.length cb0) (.slice Ab1 r1.S.length cb1) (.slice Ab2 r1.L.length cb2) (.slice Ab3 r1.d.w.length cb3) (.slice Ab4 r1.d.u.length cb4) (.slice Ab5 r1.d.a.length cb5)) rfl rfl rfl ?hr ?_); (case hr => first | (go_simp; done) | (go_simp; rfl)); intro w9 hw_; have Bz_9 := as0 (zu0 (zi0 Bz_8.out) hw_); have By_9 := as0 (zg0 z30 hw_ NE_zy.out.symm By_8.out); have Bn_9 := as0 (zg0 z30 hw_ NE_zn.out.symm Bn_8.out); have Fb_9 := as0 (zk0 z30 hw_ Fb_8.out Bz_8.out (by decide)); have HB_9 := as0 (zf0 (zb0 HB_8.out GE_z.out) hw_); clear hw_ yz; clear yn; have yn := za0 Bn_9.out)
  | (have yy := zw0 By_9.out; (with_reducible refine sx (W := w9) (t := 39) (p := 5) (w1 := se4 w9 gy (.bool false) (.int .i64 ev) (.slice none 0 0) (.slice none 0 0)) rfl rfl rfl ?hr ?_); (case hr => first | (go_simp; done) | (go_simp; rfl)); intro w10 hw_; have Bz_10 := as0 (zg0 zq0 hw_ NE_zy.out Bz_9.out); have By_10 := as0 (zu0 (zt2 By_9.out) hw_); have Bn_10 := as0 (zg0 zq0 hw_ NE_yn.out.symm Bn_9.out); have Fb_10 := as0 (zk0 zq0 hw_ Fb_9.out By_9.out (by decide)); have HB_10 := as0 (zf0 (zi1 HB_9.out GE_y.out) hw_); clear hw_ yy; clear yn; have yn := za0 Bn_10.out; (repeat (first | go_values | go_skip | go_guarded | go_step | go_upon | go_in)); have hlz := run_loadVar_row (P := Tryz.prog) w10 gz 33 33 _ (0, 0) _ Bz_10.out Tryz.underlying33 rfl (by kernel_rfl); have hly := run_loadVar_row (P := Tryz.prog) w10 gy 39 39 _ (0, 0) _ By_10.out Tryz.underlying39 rfl (by kernel_rfl); refine bodyPost_ret (zs1 (p := 4) (q := 5) (t1 := 33) (t2 := 39) rfl _ _ gz gy _ _ rfl rfl hlz hly) rfl ?_; exact ⟨_, _, _, rfl, Fb_10.out, zh2 _ _, zh2 _ _, HB_10.out⟩))
theorem zsa {s : FS} {n : Nat} (hG : GB s n) (hn : n ≤ 300000) (k t : Int) (nm : ByteArray) (hsz : nm.size ≤ 100) (l : List ByteArray) (hls : ∀ x ∈ l, x.size ≤ 9223372036854775807) (A : Option Addr) (c : Nat) (hc : l.length ≤ c) (hC : ∀ W, Below w.heap.size w W → Kd.C Kd.string W A l.length l) {vs : Value} (h : FR b w vs (toR s)) (hb : FrB b w.heap.size) (hk : kindOf k = 3) :
  Calls Tryz.prog 8 #[vs, stV k t nm A l.length c] w fun e w' => ∃ vs' va vb : Value, e = .returned (.tuple #[vs', .agg #[.bool (stepF s k t nm l).1.is, .int .i64 (stepF s k t nm l).1.e, va, vb]]) ∧ FR b w' vs' (toR (stepF s k t nm l).2) ∧ RdS b w' va (stepF s k t nm l).1.a ∧ RdS b w' vb (stepF s k t nm l).1.b ∧ Below w.heap.size w w' := by
 have HK := as0 (fun W => zd1 k t nm A l.length c W)
 rw [hk] at HK
 have HCC := as0 hC
 have HF := as0 (fun (W : World) (vs : Value) (hBW : Below w.heap.size w W) (h : FR b W vs (toR s)) (hbW : FrB b W.heap.size) => rforce_s hG (by omega) nm hsz t h hbW)
 unfold stepF
 rw [hk]
 rw [if_neg (by decide)]
 rw [if_neg (by decide)]
 rw [if_neg (by decide)]
 rw [if_pos rfl]
 obtain ⟨q0, hq0⟩ : ∃ q, q = forceF s nm t := ⟨_, rfl⟩
 rw [← hq0] at HF ⊢
 obtain ⟨r1, hr1⟩ : ∃ q, q = toR q0.2 := ⟨_, rfl⟩
 rw [← hr1] at HF
 dsimp only
 rw [← hr1]
 obtain ⟨ev, hev⟩ : ∃ q, q = q0.1 := ⟨_, rfl⟩
 rw [← hev] at HF ⊢
 clear hq0 hev hr1
 generalize toR s = r at h HF
 clear hG hn hsz hls hC hk
 have HB_0 : Aside0 (Below w.heap.size w w) := ⟨Below.refl _ _⟩
 obtain ⟨Aa0, ca0, Aa1, ca1, Aa2, ca2, Aa3, ca3, Aa4, ca4, Aa5, ca5, rfl⟩ := h.form
 have Fa_0 := as0 h
 have HBB := as0 hb
 clear h hb
 go_enter Tryz.func8, Tryz.ntmps8
 go_wp2_with (first
  | ((with_reducible refine bx (N := 2) (cs := #[.int .i64 r.each, .int .i64 r.guard, .slice Aa0 r.N.length ca0, .slice Aa1 r.S.length ca1, .slice Aa2 r.L.length ca2, .slice Aa3 r.d.w.length ca3, .slice Aa4 r.d.u.length ca4, .slice Aa5 r.d.a.length ca5]) (t := 33) rfl rfl ?hr ?_); (case hr => first | (go_simp; done) | (go_simp; rfl)); intro ga hg w1 hbox hb; have Fa_1 := as0 (Fa_0.out.below hb); have HB_1 := as0 (z10 HB_0.out hb); have Ba_1 := as0 hbox; have GE_a := as0 (show w.heap.size ≤ ga by rw [hg]; exact HB_0.out.size); clear hbox hb hg; have ya := za0 Ba_1.out)
  | ((with_reducible refine bx (N := 3) (cs := #[.int .i64 k, .int .i64 t, .string nm, .slice A l.length c]) (t := 36) rfl rfl ?hr ?_); (case hr => first | (go_simp; done) | (go_simp; rfl)); intro gs hg w2 hbox hb; have Ba_2 := as0 (z20 Ba_1.out hb); have Fa_2 := as0 (Fa_1.out.below hb); have HB_2 := as0 (z10 HB_1.out hb); have Bs_2 := as0 hbox; have GE_s := as0 (show w.heap.size ≤ gs by rw [hg]; exact HB_1.out.size); have NE_as := as0 (show ga ≠ gs by rw [hg]; exact Nat.ne_of_lt (z70 Ba_1.out)); clear hbox hb hg; clear ya; have ya := za0 Ba_2.out; have ys := zw0 Bs_2.out)
  | ((with_reducible refine bx (N := 4) (cs := #[.int .i64 0, .int .i64 0, .slice none 0 0, .slice none 0 0, .slice none 0 0, .slice none 0 0, .slice none 0 0, .slice none 0 0]) (t := 33) rfl rfl ?hr ?_); (case hr => first | (go_simp; done) | (go_simp; rfl)); intro gz hg w3 hbox hb; have Ba_3 := as0 (z20 Ba_2.out hb); have Bs_3 := as0 (z20 Bs_2.out hb); have Fa_3 := as0 (Fa_2.out.below hb); have HB_3 := as0 (z10 HB_2.out hb); have Bz_3 := as0 hbox; have GE_z := as0 (show w.heap.size ≤ gz by rw [hg]; exact HB_2.out.size); have NE_az := as0 (show ga ≠ gz by rw [hg]; exact Nat.ne_of_lt (z70 Ba_2.out)); have NE_sz := as0 (show gs ≠ gz by rw [hg]; exact Nat.ne_of_lt (z70 Bs_2.out)); clear hbox hb hg; clear ya ys; have ya := za0 Ba_3.out; have ys := zw0 Bs_3.out)
  | ((with_reducible refine bx (N := 5) (cs := #[.bool false, .int .i64 0, .slice none 0 0, .slice none 0 0]) (t := 39) rfl rfl ?hr ?_); (case hr => first | (go_simp; done) | (go_simp; rfl)); intro gy hg w4 hbox hb; have Ba_4 := as0 (z20 Ba_3.out hb); have Bs_4 := as0 (z20 Bs_3.out hb); have Bz_4 := as0 (z20 Bz_3.out hb); have Fa_4 := as0 (Fa_3.out.below hb); have HB_4 := as0 (z10 HB_3.out hb); have By_4 := as0 hbox; have GE_y := as0 (show w.heap.size ≤ gy by rw [hg]; exact HB_3.out.size); have NE_ay := as0 (show ga ≠ gy by rw [hg]; exact Nat.ne_of_lt (z70 Ba_3.out)); have NE_sy := as0 (show gs ≠ gy by rw [hg]; exact Nat.ne_of_lt (z70 Bs_3.out)); have NE_zy := as0 (show gz ≠ gy by rw [hg]; exact Nat.ne_of_lt (z70 Bz_3.out)); clear hbox hb hg; clear ya ys; have ya := za0 Ba_4.out; have ys := zw0 Bs_4.out)
  | (go_at_call 17; (with_reducible refine (HK.out _).mono ?_); rintro e w5 ⟨rfl, hb⟩; have Ba_5 := as0 (z20 Ba_4.out hb); have Bs_5 := as0 (z20 Bs_4.out hb); have Bz_5 := as0 (z20 Bz_4.out hb); have By_5 := as0 (z20 By_4.out hb); have Fa_5 := as0 (Fa_4.out.below hb); have HB_5 := as0 (z10 HB_4.out hb); clear hb; clear ya ys; have ya := za0 Ba_5.out; have ys := zw0 Bs_5.out)
  | (go_at_call 26; (with_reducible refine (HF.out _ _ HB_5.out Fa_5.out (zf1 HBB.out HB_5.out.size)).mono ?_); rintro e w6 ⟨vs_, rfl, hF_, hb⟩; obtain ⟨Ab0, cb0, Ab1, cb1, Ab2, cb2, Ab3, cb3, Ab4, cb4, Ab5, cb5, rfl⟩ := hF_.form; have Ba_6 := as0 (z20 Ba_5.out hb); have Bs_6 := as0 (z20 Bs_5.out hb); have Bz_6 := as0 (z20 Bz_5.out hb); have By_6 := as0 (z20 By_5.out hb); have Fa_6 := as0 (Fa_5.out.below hb); have HB_6 := as0 (z10 HB_5.out hb); have Fb_6 := as0 hF_; clear hb hF_; clear ya ys)
  | ((with_reducible refine bx (N := 14) (cs := #[.int .i64 0, .int .i64 0, .slice none 0 0, .slice none 0 0, .slice none 0 0, .slice none 0 0, .slice none 0 0, .slice none 0 0]) (t := 33) rfl rfl ?hr ?_); (case hr => first | (go_simp; done) | (go_simp; rfl)); intro gn hg w7 hbox hb; have Bz_7 := as0 (z20 Bz_6.out hb); have By_7 := as0 (z20 By_6.out hb); have Fb_7 := as0 (Fb_6.out.below hb); have HB_7 := as0 (z10 HB_6.out hb); have Bn_7 := as0 hbox; have GE_n := as0 (show w.heap.size ≤ gn by rw [hg]; exact HB_6.out.size); have NE_zn := as0 (show gz ≠ gn by rw [hg]; exact Nat.ne_of_lt (z70 Bz_6.out)); have NE_yn := as0 (show gy ≠ gn by rw [hg]; exact Nat.ne_of_lt (z70 By_6.out)); clear hbox hb hg; have yn := za0 Bn_7.out)
  | ((with_reducible refine sx (W := w7) (t := 33) (p := 14) (w1 := set8 w7 gn (.int .i64 r1.each) (.int .i64 r1.guard) (.slice Ab0 r1.N.length cb0) (.slice Ab1 r1.S.length cb1) (.slice Ab2 r1.L.length cb2) (.slice Ab3 r1.d.w.length cb3) (.slice Ab4 r1.d.u.length cb4) (.slice Ab5 r1.d.a.length cb5)) rfl rfl rfl ?hr ?_); (case hr => first | (go_simp; done) | (go_simp; rfl)); intro w8 hw_; have Bz_8 := as0 (zg0 z30 hw_ NE_zn.out Bz_7.out); have By_8 := as0 (zg0 z30 hw_ NE_yn.out By_7.out); have Bn_8 := as0 (zu0 (zi0 Bn_7.out) hw_); have Fb_8 := as0 (zk0 z30 hw_ Fb_7.out Bn_7.out (by decide)); have HB_8 := as0 (zf0 (zb0 HB_7.out GE_n.out) hw_); clear hw_ ; clear yn; have yn := za0 Bn_8.out)
  | (have yz := za0 Bz_8.out; (with_reducible refine sx (W := w8) (t := 33) (p := 4) (w1 := set8 w8 gz (.int .i64 r1.each) (.int .i64 r1.guard) (.slice Ab0 r1.N.length cb0) (.slice Ab1 r1.S.length cb1) (.slice Ab2 r1.L.length cb2) (.slice Ab3 r1.d.w.length cb3) (.slice Ab4 r1.d.u.length cb4) (.slice Ab5 r1.d.a.length cb5)) rfl rfl rfl ?hr ?_); (case hr => first | (go_simp; done) | (go_simp; rfl)); intro w9 hw_; have Bz_9 := as0 (zu0 (zi0 Bz_8.out) hw_); have By_9 := as0 (zg0 z30 hw_ NE_zy.out.symm By_8.out); have Bn_9 := as0 (zg0 z30 hw_ NE_zn.out.symm Bn_8.out); have Fb_9 := as0 (zk0 z30 hw_ Fb_8.out Bz_8.out (by decide)); have HB_9 := as0 (zf0 (zb0 HB_8.out GE_z.out) hw_); clear hw_ yz; clear yn; have yn := za0 Bn_9.out)
  | (have yy := zw0 By_9.out; (with_reducible refine sx (W := w9) (t := 39) (p := 5) (w1 := se4 w9 gy (.bool false) (.int .i64 ev) (.slice none 0 0) (.slice none 0 0)) rfl rfl rfl ?hr ?_); (case hr => first | (go_simp; done) | (go_simp; rfl)); intro w10 hw_; have Bz_10 := as0 (zg0 zq0 hw_ NE_zy.out Bz_9.out); have By_10 := as0 (zu0 (zt2 By_9.out) hw_); have Bn_10 := as0 (zg0 zq0 hw_ NE_yn.out.symm Bn_9.out); have Fb_10 := as0 (zk0 zq0 hw_ Fb_9.out By_9.out (by decide)); have HB_10 := as0 (zf0 (zi1 HB_9.out GE_y.out) hw_); clear hw_ yy; clear yn; have yn := za0 Bn_10.out; (repeat (first | go_values | go_skip | go_guarded | go_step | go_upon | go_in)); have hlz := run_loadVar_row (P := Tryz.prog) w10 gz 33 33 _ (0, 0) _ Bz_10.out Tryz.underlying33 rfl (by kernel_rfl); have hly := run_loadVar_row (P := Tryz.prog) w10 gy 39 39 _ (0, 0) _ By_10.out Tryz.underlying39 rfl (by kernel_rfl); refine bodyPost_ret (zs1 (p := 4) (q := 5) (t1 := 33) (t2 := 39) rfl _ _ gz gy _ _ rfl rfl hlz hly) rfl ?_; exact ⟨_, _, _, rfl, Fb_10.out, zh2 _ _, zh2 _ _, HB_10.out⟩))
theorem z2c {s : FS} {n : Nat} (hG : GB s n) (hn : n ≤ 300000) (k t : Int) (nm : ByteArray) (hsz : nm.size ≤ 100) (l : List ByteArray) (hls : ∀ x ∈ l, x.size ≤ 9223372036854775807) (A : Option Addr) (c : Nat) (hc : l.length ≤ c) (hC : ∀ W, Below w.heap.size w W → Kd.C Kd.string W A l.length l) {vs : Value} (h : FR b w vs (toR s)) (hb : FrB b w.heap.size) (hk : kindOf k = 4) :
  Calls Tryz.prog 8 #[vs, stV k t nm A l.length c] w fun e w' => ∃ vs' va vb : Value, e = .returned (.tuple #[vs', .agg #[.bool (stepF s k t nm l).1.is, .int .i64 (stepF s k t nm l).1.e, va, vb]]) ∧ FR b w' vs' (toR (stepF s k t nm l).2) ∧ RdS b w' va (stepF s k t nm l).1.a ∧ RdS b w' vb (stepF s k t nm l).1.b ∧ Below w.heap.size w w' := by
 have HK := as0 (fun W => zd1 k t nm A l.length c W)
 rw [hk] at HK
 have HCC := as0 hC
 have HF := as0 (fun (W : World) (vs : Value) (hBW : Below w.heap.size w W) (h : FR b W vs (toR s)) (hbW : FrB b W.heap.size) => reject_s hG (by omega) nm hsz h hbW)
 unfold stepF
 rw [hk]
 rw [if_neg (by decide)]
 rw [if_neg (by decide)]
 rw [if_neg (by decide)]
 rw [if_neg (by decide)]
 rw [if_pos rfl]
 obtain ⟨q0, hq0⟩ : ∃ q, q = ejectF s nm := ⟨_, rfl⟩
 rw [← hq0] at HF ⊢
 obtain ⟨r1, hr1⟩ : ∃ q, q = toR q0.2 := ⟨_, rfl⟩
 rw [← hr1] at HF
 dsimp only
 rw [← hr1]
 obtain ⟨ev, hev⟩ : ∃ q, q = q0.1 := ⟨_, rfl⟩
 rw [← hev] at HF ⊢
 clear hq0 hev hr1
 generalize toR s = r at h HF
 clear hG hn hsz hls hC hk
 have HB_0 : Aside0 (Below w.heap.size w w) := ⟨Below.refl _ _⟩
 obtain ⟨Aa0, ca0, Aa1, ca1, Aa2, ca2, Aa3, ca3, Aa4, ca4, Aa5, ca5, rfl⟩ := h.form
 have Fa_0 := as0 h
 have HBB := as0 hb
 clear h hb
 go_enter Tryz.func8, Tryz.ntmps8
 go_wp2_with (first
  | ((with_reducible refine bx (N := 2) (cs := #[.int .i64 r.each, .int .i64 r.guard, .slice Aa0 r.N.length ca0, .slice Aa1 r.S.length ca1, .slice Aa2 r.L.length ca2, .slice Aa3 r.d.w.length ca3, .slice Aa4 r.d.u.length ca4, .slice Aa5 r.d.a.length ca5]) (t := 33) rfl rfl ?hr ?_); (case hr => first | (go_simp; done) | (go_simp; rfl)); intro ga hg w1 hbox hb; have Fa_1 := as0 (Fa_0.out.below hb); have HB_1 := as0 (z10 HB_0.out hb); have Ba_1 := as0 hbox; have GE_a := as0 (show w.heap.size ≤ ga by rw [hg]; exact HB_0.out.size); clear hbox hb hg; have ya := za0 Ba_1.out)
  | ((with_reducible refine bx (N := 3) (cs := #[.int .i64 k, .int .i64 t, .string nm, .slice A l.length c]) (t := 36) rfl rfl ?hr ?_); (case hr => first | (go_simp; done) | (go_simp; rfl)); intro gs hg w2 hbox hb; have Ba_2 := as0 (z20 Ba_1.out hb); have Fa_2 := as0 (Fa_1.out.below hb); have HB_2 := as0 (z10 HB_1.out hb); have Bs_2 := as0 hbox; have GE_s := as0 (show w.heap.size ≤ gs by rw [hg]; exact HB_1.out.size); have NE_as := as0 (show ga ≠ gs by rw [hg]; exact Nat.ne_of_lt (z70 Ba_1.out)); clear hbox hb hg; clear ya; have ya := za0 Ba_2.out; have ys := zw0 Bs_2.out)
  | ((with_reducible refine bx (N := 4) (cs := #[.int .i64 0, .int .i64 0, .slice none 0 0, .slice none 0 0, .slice none 0 0, .slice none 0 0, .slice none 0 0, .slice none 0 0]) (t := 33) rfl rfl ?hr ?_); (case hr => first | (go_simp; done) | (go_simp; rfl)); intro gz hg w3 hbox hb; have Ba_3 := as0 (z20 Ba_2.out hb); have Bs_3 := as0 (z20 Bs_2.out hb); have Fa_3 := as0 (Fa_2.out.below hb); have HB_3 := as0 (z10 HB_2.out hb); have Bz_3 := as0 hbox; have GE_z := as0 (show w.heap.size ≤ gz by rw [hg]; exact HB_2.out.size); have NE_az := as0 (show ga ≠ gz by rw [hg]; exact Nat.ne_of_lt (z70 Ba_2.out)); have NE_sz := as0 (show gs ≠ gz by rw [hg]; exact Nat.ne_of_lt (z70 Bs_2.out)); clear hbox hb hg; clear ya ys; have ya := za0 Ba_3.out; have ys := zw0 Bs_3.out)
  | ((with_reducible refine bx (N := 5) (cs := #[.bool false, .int .i64 0, .slice none 0 0, .slice none 0 0]) (t := 39) rfl rfl ?hr ?_); (case hr => first | (go_simp; done) | (go_simp; rfl)); intro gy hg w4 hbox hb; have Ba_4 := as0 (z20 Ba_3.out hb); have Bs_4 := as0 (z20 Bs_3.out hb); have Bz_4 := as0 (z20 Bz_3.out hb); have Fa_4 := as0 (Fa_3.out.below hb); have HB_4 := as0 (z10 HB_3.out hb); have By_4 := as0 hbox; have GE_y := as0 (show w.heap.size ≤ gy by rw [hg]; exact HB_3.out.size); have NE_ay := as0 (show ga ≠ gy by rw [hg]; exact Nat.ne_of_lt (z70 Ba_3.out)); have NE_sy := as0 (show gs ≠ gy by rw [hg]; exact Nat.ne_of_lt (z70 Bs_3.out)); have NE_zy := as0 (show gz ≠ gy by rw [hg]; exact Nat.ne_of_lt (z70 Bz_3.out)); clear hbox hb hg; clear ya ys; have ya := za0 Ba_4.out; have ys := zw0 Bs_4.out)
  | (go_at_call 17; (with_reducible refine (HK.out _).mono ?_); rintro e w5 ⟨rfl, hb⟩; have Ba_5 := as0 (z20 Ba_4.out hb); have Bs_5 := as0 (z20 Bs_4.out hb); have Bz_5 := as0 (z20 Bz_4.out hb); have By_5 := as0 (z20 By_4.out hb); have Fa_5 := as0 (Fa_4.out.below hb); have HB_5 := as0 (z10 HB_4.out hb); clear hb; clear ya ys; have ya := za0 Ba_5.out; have ys := zw0 Bs_5.out)
  | (go_at_call 27; (with_reducible refine (HF.out _ _ HB_5.out Fa_5.out (zf1 HBB.out HB_5.out.size)).mono ?_); rintro e w6 ⟨vs_, rfl, hF_, hb⟩; obtain ⟨Ab0, cb0, Ab1, cb1, Ab2, cb2, Ab3, cb3, Ab4, cb4, Ab5, cb5, rfl⟩ := hF_.form; have Ba_6 := as0 (z20 Ba_5.out hb); have Bs_6 := as0 (z20 Bs_5.out hb); have Bz_6 := as0 (z20 Bz_5.out hb); have By_6 := as0 (z20 By_5.out hb); have Fa_6 := as0 (Fa_5.out.below hb); have HB_6 := as0 (z10 HB_5.out hb); have Fb_6 := as0 hF_; clear hb hF_; clear ya ys)
  | ((with_reducible refine bx (N := 16) (cs := #[.int .i64 0, .int .i64 0, .slice none 0 0, .slice none 0 0, .slice none 0 0, .slice none 0 0, .slice none 0 0, .slice none 0 0]) (t := 33) rfl rfl ?hr ?_); (case hr => first | (go_simp; done) | (go_simp; rfl)); intro gn hg w7 hbox hb; have Bz_7 := as0 (z20 Bz_6.out hb); have By_7 := as0 (z20 By_6.out hb); have Fb_7 := as0 (Fb_6.out.below hb); have HB_7 := as0 (z10 HB_6.out hb); have Bn_7 := as0 hbox; have GE_n := as0 (show w.heap.size ≤ gn by rw [hg]; exact HB_6.out.size); have NE_zn := as0 (show gz ≠ gn by rw [hg]; exact Nat.ne_of_lt (z70 Bz_6.out)); have NE_yn := as0 (show gy ≠ gn by rw [hg]; exact Nat.ne_of_lt (z70 By_6.out)); clear hbox hb hg; have yn := za0 Bn_7.out)
  | ((with_reducible refine sx (W := w7) (t := 33) (p := 16) (w1 := set8 w7 gn (.int .i64 r1.each) (.int .i64 r1.guard) (.slice Ab0 r1.N.length cb0) (.slice Ab1 r1.S.length cb1) (.slice Ab2 r1.L.length cb2) (.slice Ab3 r1.d.w.length cb3) (.slice Ab4 r1.d.u.length cb4) (.slice Ab5 r1.d.a.length cb5)) rfl rfl rfl ?hr ?_); (case hr => first | (go_simp; done) | (go_simp; rfl)); intro w8 hw_; have Bz_8 := as0 (zg0 z30 hw_ NE_zn.out Bz_7.out); have By_8 := as0 (zg0 z30 hw_ NE_yn.out By_7.out); have Bn_8 := as0 (zu0 (zi0 Bn_7.out) hw_); have Fb_8 := as0 (zk0 z30 hw_ Fb_7.out Bn_7.out (by decide)); have HB_8 := as0 (zf0 (zb0 HB_7.out GE_n.out) hw_); clear hw_ ; clear yn; have yn := za0 Bn_8.out)
  | (have yz := za0 Bz_8.out; (with_reducible refine sx (W := w8) (t := 33) (p := 4) (w1 := set8 w8 gz (.int .i64 r1.each) (.int .i64 r1.guard) (.slice Ab0 r1.N.length cb0) (.slice Ab1 r1.S.length cb1) (.slice Ab2 r1.L.length cb2) (.slice Ab3 r1.d.w.length cb3) (.slice Ab4 r1.d.u.length cb4) (.slice Ab5 r1.d.a.length cb5)) rfl rfl rfl ?hr ?_); (case hr => first | (go_simp; done) | (go_simp; rfl)); intro w9 hw_; have Bz_9 := as0 (zu0 (zi0 Bz_8.out) hw_); have By_9 := as0 (zg0 z30 hw_ NE_zy.out.symm By_8.out); have Bn_9 := as0 (zg0 z30 hw_ NE_zn.out.symm Bn_8.out); have Fb_9 := as0 (zk0 z30 hw_ Fb_8.out Bz_8.out (by decide)); have HB_9 := as0 (zf0 (zb0 HB_8.out GE_z.out) hw_); clear hw_ yz; clear yn; have yn := za0 Bn_9.out)
  | (have yy := zw0 By_9.out; (with_reducible refine sx (W := w9) (t := 39) (p := 5) (w1 := se4 w9 gy (.bool false) (.int .i64 ev) (.slice none 0 0) (.slice none 0 0)) rfl rfl rfl ?hr ?_); (case hr => first | (go_simp; done) | (go_simp; rfl)); intro w10 hw_; have Bz_10 := as0 (zg0 zq0 hw_ NE_zy.out Bz_9.out); have By_10 := as0 (zu0 (zt2 By_9.out) hw_); have Bn_10 := as0 (zg0 zq0 hw_ NE_yn.out.symm Bn_9.out); have Fb_10 := as0 (zk0 zq0 hw_ Fb_9.out By_9.out (by decide)); have HB_10 := as0 (zf0 (zi1 HB_9.out GE_y.out) hw_); clear hw_ yy; clear yn; have yn := za0 Bn_10.out; (repeat (first | go_values | go_skip | go_guarded | go_step | go_upon | go_in)); have hlz := run_loadVar_row (P := Tryz.prog) w10 gz 33 33 _ (0, 0) _ Bz_10.out Tryz.underlying33 rfl (by kernel_rfl); have hly := run_loadVar_row (P := Tryz.prog) w10 gy 39 39 _ (0, 0) _ By_10.out Tryz.underlying39 rfl (by kernel_rfl); refine bodyPost_ret (zs1 (p := 4) (q := 5) (t1 := 33) (t2 := 39) rfl _ _ gz gy _ _ rfl rfl hlz hly) rfl ?_; exact ⟨_, _, _, rfl, Fb_10.out, zh2 _ _, zh2 _ _, HB_10.out⟩))
theorem zyc {s : FS} {n : Nat} (hG : GB s n) (hn : n ≤ 300000) (k t : Int) (nm : ByteArray) (hsz : nm.size ≤ 100) (l : List ByteArray) (hls : ∀ x ∈ l, x.size ≤ 9223372036854775807) (A : Option Addr) (c : Nat) (hc : l.length ≤ c) (hC : ∀ W, Below w.heap.size w W → Kd.C Kd.string W A l.length l) {vs : Value} (h : FR b w vs (toR s)) (hb : FrB b w.heap.size) (hk : kindOf k = 5) :
  Calls Tryz.prog 8 #[vs, stV k t nm A l.length c] w fun e w' => ∃ vs' va vb : Value, e = .returned (.tuple #[vs', .agg #[.bool (stepF s k t nm l).1.is, .int .i64 (stepF s k t nm l).1.e, va, vb]]) ∧ FR b w' vs' (toR (stepF s k t nm l).2) ∧ RdS b w' va (stepF s k t nm l).1.a ∧ RdS b w' vb (stepF s k t nm l).1.b ∧ Below w.heap.size w w' := by
 have HK := as0 (fun W => zd1 k t nm A l.length c W)
 rw [hk] at HK
 have HCC := as0 hC
 have HF := as0 (fun (W : World) (vs : Value) (hBW : Below w.heap.size w W) (h : FR b W vs (toR s)) (hbW : FrB b W.heap.size) => radmit_s hG (by omega) t h hbW)
 unfold stepF
 rw [hk]
 rw [if_neg (by decide)]
 rw [if_neg (by decide)]
 rw [if_neg (by decide)]
 rw [if_neg (by decide)]
 rw [if_neg (by decide)]
 rw [if_pos rfl]
 obtain ⟨q0, hq0⟩ : ∃ q, q = admitF s t := ⟨_, rfl⟩
 rw [← hq0] at HF ⊢
 obtain ⟨r1, hr1⟩ : ∃ q, q = toR q0.2 := ⟨_, rfl⟩
 rw [← hr1] at HF
 dsimp only
 rw [← hr1]
 obtain ⟨ev, hev⟩ : ∃ q, q = q0.1 := ⟨_, rfl⟩
 rw [← hev] at HF ⊢
 clear hq0 hev hr1
 generalize toR s = r at h HF
 clear hG hn hsz hls hC hk
 have HB_0 : Aside0 (Below w.heap.size w w) := ⟨Below.refl _ _⟩
 obtain ⟨Aa0, ca0, Aa1, ca1, Aa2, ca2, Aa3, ca3, Aa4, ca4, Aa5, ca5, rfl⟩ := h.form
 have Fa_0 := as0 h
 have HBB := as0 hb
 clear h hb
 go_enter Tryz.func8, Tryz.ntmps8
 go_wp2_with (first
  | ((with_reducible refine bx (N := 2) (cs := #[.int .i64 r.each, .int .i64 r.guard, .slice Aa0 r.N.length ca0, .slice Aa1 r.S.length ca1, .slice Aa2 r.L.length ca2, .slice Aa3 r.d.w.length ca3, .slice Aa4 r.d.u.length ca4, .slice Aa5 r.d.a.length ca5]) (t := 33) rfl rfl ?hr ?_); (case hr => first | (go_simp; done) | (go_simp; rfl)); intro ga hg w1 hbox hb; have Fa_1 := as0 (Fa_0.out.below hb); have HB_1 := as0 (z10 HB_0.out hb); have Ba_1 := as0 hbox; have GE_a := as0 (show w.heap.size ≤ ga by rw [hg]; exact HB_0.out.size); clear hbox hb hg; have ya := za0 Ba_1.out)
  | ((with_reducible refine bx (N := 3) (cs := #[.int .i64 k, .int .i64 t, .string nm, .slice A l.length c]) (t := 36) rfl rfl ?hr ?_); (case hr => first | (go_simp; done) | (go_simp; rfl)); intro gs hg w2 hbox hb; have Ba_2 := as0 (z20 Ba_1.out hb); have Fa_2 := as0 (Fa_1.out.below hb); have HB_2 := as0 (z10 HB_1.out hb); have Bs_2 := as0 hbox; have GE_s := as0 (show w.heap.size ≤ gs by rw [hg]; exact HB_1.out.size); have NE_as := as0 (show ga ≠ gs by rw [hg]; exact Nat.ne_of_lt (z70 Ba_1.out)); clear hbox hb hg; clear ya; have ya := za0 Ba_2.out; have ys := zw0 Bs_2.out)
  | ((with_reducible refine bx (N := 4) (cs := #[.int .i64 0, .int .i64 0, .slice none 0 0, .slice none 0 0, .slice none 0 0, .slice none 0 0, .slice none 0 0, .slice none 0 0]) (t := 33) rfl rfl ?hr ?_); (case hr => first | (go_simp; done) | (go_simp; rfl)); intro gz hg w3 hbox hb; have Ba_3 := as0 (z20 Ba_2.out hb); have Bs_3 := as0 (z20 Bs_2.out hb); have Fa_3 := as0 (Fa_2.out.below hb); have HB_3 := as0 (z10 HB_2.out hb); have Bz_3 := as0 hbox; have GE_z := as0 (show w.heap.size ≤ gz by rw [hg]; exact HB_2.out.size); have NE_az := as0 (show ga ≠ gz by rw [hg]; exact Nat.ne_of_lt (z70 Ba_2.out)); have NE_sz := as0 (show gs ≠ gz by rw [hg]; exact Nat.ne_of_lt (z70 Bs_2.out)); clear hbox hb hg; clear ya ys; have ya := za0 Ba_3.out; have ys := zw0 Bs_3.out)
  | ((with_reducible refine bx (N := 5) (cs := #[.bool false, .int .i64 0, .slice none 0 0, .slice none 0 0]) (t := 39) rfl rfl ?hr ?_); (case hr => first | (go_simp; done) | (go_simp; rfl)); intro gy hg w4 hbox hb; have Ba_4 := as0 (z20 Ba_3.out hb); have Bs_4 := as0 (z20 Bs_3.out hb); have Bz_4 := as0 (z20 Bz_3.out hb); have Fa_4 := as0 (Fa_3.out.below hb); have HB_4 := as0 (z10 HB_3.out hb); have By_4 := as0 hbox; have GE_y := as0 (show w.heap.size ≤ gy by rw [hg]; exact HB_3.out.size); have NE_ay := as0 (show ga ≠ gy by rw [hg]; exact Nat.ne_of_lt (z70 Ba_3.out)); have NE_sy := as0 (show gs ≠ gy by rw [hg]; exact Nat.ne_of_lt (z70 Bs_3.out)); have NE_zy := as0 (show gz ≠ gy by rw [hg]; exact Nat.ne_of_lt (z70 Bz_3.out)); clear hbox hb hg; clear ya ys; have ya := za0 Ba_4.out; have ys := zw0 Bs_4.out)
  | (go_at_call 17; (with_reducible refine (HK.out _).mono ?_); rintro e w5 ⟨rfl, hb⟩; have Ba_5 := as0 (z20 Ba_4.out hb); have Bs_5 := as0 (z20 Bs_4.out hb); have Bz_5 := as0 (z20 Bz_4.out hb); have By_5 := as0 (z20 By_4.out hb); have Fa_5 := as0 (Fa_4.out.below hb); have HB_5 := as0 (z10 HB_4.out hb); clear hb; clear ya ys; have ya := za0 Ba_5.out; have ys := zw0 Bs_5.out)
  | (go_at_call 28; (with_reducible refine (HF.out _ _ HB_5.out Fa_5.out (zf1 HBB.out HB_5.out.size)).mono ?_); rintro e w6 ⟨vs_, va_, rfl, hF_, hA2, hb⟩; obtain ⟨Ab0, cb0, Ab1, cb1, Ab2, cb2, Ab3, cb3, Ab4, cb4, Ab5, cb5, rfl⟩ := hF_.form; have Ba_6 := as0 (z20 Ba_5.out hb); have Bs_6 := as0 (z20 Bs_5.out hb); have Bz_6 := as0 (z20 Bz_5.out hb); have By_6 := as0 (z20 By_5.out hb); have Fa_6 := as0 (Fa_5.out.below hb); have HB_6 := as0 (z10 HB_5.out hb); have Fb_6 := as0 hF_; have hA3 := (Rd.of_R hA2).lower (b' := b) (fun k hk => ((zf1 HBB.out HB_5.out.size)) k hk); obtain ⟨Aa, na, rfl⟩ := hA3.slice; have RA_6 := as0 hA3; clear hA2 hA3; clear hb hF_; clear ya ys)
  | ((with_reducible refine bx (N := 18) (cs := #[.int .i64 0, .int .i64 0, .slice none 0 0, .slice none 0 0, .slice none 0 0, .slice none 0 0, .slice none 0 0, .slice none 0 0]) (t := 33) rfl rfl ?hr ?_); (case hr => first | (go_simp; done) | (go_simp; rfl)); intro gn hg w7 hbox hb; have Bz_7 := as0 (z20 Bz_6.out hb); have By_7 := as0 (z20 By_6.out hb); have Fb_7 := as0 (Fb_6.out.below hb); have RA_7 := as0 (RA_6.out.below hb); have HB_7 := as0 (z10 HB_6.out hb); have Bn_7 := as0 hbox; have GE_n := as0 (show w.heap.size ≤ gn by rw [hg]; exact HB_6.out.size); have NE_zn := as0 (show gz ≠ gn by rw [hg]; exact Nat.ne_of_lt (z70 Bz_6.out)); have NE_yn := as0 (show gy ≠ gn by rw [hg]; exact Nat.ne_of_lt (z70 By_6.out)); clear hbox hb hg; have yn := za0 Bn_7.out)
  | ((with_reducible refine sx (W := w7) (t := 33) (p := 18) (w1 := set8 w7 gn (.int .i64 r1.each) (.int .i64 r1.guard) (.slice Ab0 r1.N.length cb0) (.slice Ab1 r1.S.length cb1) (.slice Ab2 r1.L.length cb2) (.slice Ab3 r1.d.w.length cb3) (.slice Ab4 r1.d.u.length cb4) (.slice Ab5 r1.d.a.length cb5)) rfl rfl rfl ?hr ?_); (case hr => first | (go_simp; done) | (go_simp; rfl)); intro w8 hw_; have Bz_8 := as0 (zg0 z30 hw_ NE_zn.out Bz_7.out); have By_8 := as0 (zg0 z30 hw_ NE_yn.out By_7.out); have Bn_8 := as0 (zu0 (zi0 Bn_7.out) hw_); have Fb_8 := as0 (zk0 z30 hw_ Fb_7.out Bn_7.out (by decide)); have RA_8 : Aside0 (RdS b w8 (.slice Aa ev.length na) ev) := ⟨by rw [hw_]; exact RA_7.out.far Bn_7.out (by decide) (fun k hk => z30 hk)⟩; have HB_8 := as0 (zf0 (zb0 HB_7.out GE_n.out) hw_); clear hw_ ; clear yn; have yn := za0 Bn_8.out)
  | (have yz := za0 Bz_8.out; (with_reducible refine sx (W := w8) (t := 33) (p := 4) (w1 := set8 w8 gz (.int .i64 r1.each) (.int .i64 r1.guard) (.slice Ab0 r1.N.length cb0) (.slice Ab1 r1.S.length cb1) (.slice Ab2 r1.L.length cb2) (.slice Ab3 r1.d.w.length cb3) (.slice Ab4 r1.d.u.length cb4) (.slice Ab5 r1.d.a.length cb5)) rfl rfl rfl ?hr ?_); (case hr => first | (go_simp; done) | (go_simp; rfl)); intro w9 hw_; have Bz_9 := as0 (zu0 (zi0 Bz_8.out) hw_); have By_9 := as0 (zg0 z30 hw_ NE_zy.out.symm By_8.out); have Bn_9 := as0 (zg0 z30 hw_ NE_zn.out.symm Bn_8.out); have Fb_9 := as0 (zk0 z30 hw_ Fb_8.out Bz_8.out (by decide)); have RA_9 : Aside0 (RdS b w9 (.slice Aa ev.length na) ev) := ⟨by rw [hw_]; exact RA_8.out.far Bz_8.out (by decide) (fun k hk => z30 hk)⟩; have HB_9 := as0 (zf0 (zb0 HB_8.out GE_z.out) hw_); clear hw_ yz; clear yn; have yn := za0 Bn_9.out)
  | (have yy := zw0 By_9.out; (with_reducible refine sx (W := w9) (t := 39) (p := 5) (w1 := se4 w9 gy (.bool false) (.int .i64 0) (.slice Aa ev.length na) (.slice none 0 0)) rfl rfl rfl ?hr ?_); (case hr => first | (go_simp; done) | (go_simp; rfl)); intro w10 hw_; have Bz_10 := as0 (zg0 zq0 hw_ NE_zy.out Bz_9.out); have By_10 := as0 (zu0 (zt2 By_9.out) hw_); have Bn_10 := as0 (zg0 zq0 hw_ NE_yn.out.symm Bn_9.out); have Fb_10 := as0 (zk0 zq0 hw_ Fb_9.out By_9.out (by decide)); have RA_10 : Aside0 (RdS b w10 (.slice Aa ev.length na) ev) := ⟨by rw [hw_]; exact RA_9.out.far By_9.out (by decide) (fun k hk => zq0 hk)⟩; have HB_10 := as0 (zf0 (zi1 HB_9.out GE_y.out) hw_); clear hw_ yy; clear yn; have yn := za0 Bn_10.out; (repeat (first | go_values | go_skip | go_guarded | go_step | go_upon | go_in)); have hlz := run_loadVar_row (P := Tryz.prog) w10 gz 33 33 _ (0, 0) _ Bz_10.out Tryz.underlying33 rfl (by kernel_rfl); have hly := run_loadVar_row (P := Tryz.prog) w10 gy 39 39 _ (0, 0) _ By_10.out Tryz.underlying39 rfl (by kernel_rfl); refine bodyPost_ret (zs1 (p := 4) (q := 5) (t1 := 33) (t2 := 39) rfl _ _ gz gy _ _ rfl rfl hlz hly) rfl ?_; exact ⟨_, _, _, rfl, Fb_10.out, RA_10.out, zh2 _ _, HB_10.out⟩))
theorem zsc {s : FS} {n : Nat} (hG : GB s n) (hn : n ≤ 300000) (k t : Int) (nm : ByteArray) (hsz : nm.size ≤ 100) (l : List ByteArray) (hls : ∀ x ∈ l, x.size ≤ 9223372036854775807) (A : Option Addr) (c : Nat) (hc : l.length ≤ c) (hC : ∀ W, Below w.heap.size w W → Kd.C Kd.string W A l.length l) {vs : Value} (h : FR b w vs (toR s)) (hb : FrB b w.heap.size) (hk : kindOf k = 6) :
  Calls Tryz.prog 8 #[vs, stV k t nm A l.length c] w fun e w' => ∃ vs' va vb : Value, e = .returned (.tuple #[vs', .agg #[.bool (stepF s k t nm l).1.is, .int .i64 (stepF s k t nm l).1.e, va, vb]]) ∧ FR b w' vs' (toR (stepF s k t nm l).2) ∧ RdS b w' va (stepF s k t nm l).1.a ∧ RdS b w' vb (stepF s k t nm l).1.b ∧ Below w.heap.size w w' := by
 have HK := as0 (fun W => zd1 k t nm A l.length c W)
 rw [hk] at HK
 have HCC := as0 hC
 have HF := as0 (fun (W : World) (vs : Value) (hBW : Below w.heap.size w W) (h : FR b W vs (toR s)) (hbW : FrB b W.heap.size) => rprobe_s hG (by omega) nm hsz h hbW)
 unfold stepF
 rw [hk]
 rw [if_neg (by decide)]
 rw [if_neg (by decide)]
 rw [if_neg (by decide)]
 rw [if_neg (by decide)]
 rw [if_neg (by decide)]
 rw [if_neg (by decide)]
 rw [if_pos rfl]
 obtain ⟨q0, hq0⟩ : ∃ q, q = probeF s nm := ⟨_, rfl⟩
 rw [← hq0] at HF ⊢
 obtain ⟨r1, hr1⟩ : ∃ q, q = toR q0.2 := ⟨_, rfl⟩
 rw [← hr1] at HF
 dsimp only
 rw [← hr1]
 obtain ⟨ev, hev⟩ : ∃ q, q = q0.1 := ⟨_, rfl⟩
 rw [← hev] at HF ⊢
 clear hq0 hev hr1
 generalize toR s = r at h HF
 clear hG hn hsz hls hC hk
 have HB_0 : Aside0 (Below w.heap.size w w) := ⟨Below.refl _ _⟩
 obtain ⟨Aa0, ca0, Aa1, ca1, Aa2, ca2, Aa3, ca3, Aa4, ca4, Aa5, ca5, rfl⟩ := h.form
 have Fa_0 := as0 h
 have HBB := as0 hb
 clear h hb
 go_enter Tryz.func8, Tryz.ntmps8
 go_wp2_with (first
  | ((with_reducible refine bx (N := 2) (cs := #[.int .i64 r.each, .int .i64 r.guard, .slice Aa0 r.N.length ca0, .slice Aa1 r.S.length ca1, .slice Aa2 r.L.length ca2, .slice Aa3 r.d.w.length ca3, .slice Aa4 r.d.u.length ca4, .slice Aa5 r.d.a.length ca5]) (t := 33) rfl rfl ?hr ?_); (case hr => first | (go_simp; done) | (go_simp; rfl)); intro ga hg w1 hbox hb; have Fa_1 := as0 (Fa_0.out.below hb); have HB_1 := as0 (z10 HB_0.out hb); have Ba_1 := as0 hbox; have GE_a := as0 (show w.heap.size ≤ ga by rw [hg]; exact HB_0.out.size); clear hbox hb hg; have ya := za0 Ba_1.out)
  | ((with_reducible refine bx (N := 3) (cs := #[.int .i64 k, .int .i64 t, .string nm, .slice A l.length c]) (t := 36) rfl rfl ?hr ?_); (case hr => first | (go_simp; done) | (go_simp; rfl)); intro gs hg w2 hbox hb; have Ba_2 := as0 (z20 Ba_1.out hb); have Fa_2 := as0 (Fa_1.out.below hb); have HB_2 := as0 (z10 HB_1.out hb); have Bs_2 := as0 hbox; have GE_s := as0 (show w.heap.size ≤ gs by rw [hg]; exact HB_1.out.size); have NE_as := as0 (show ga ≠ gs by rw [hg]; exact Nat.ne_of_lt (z70 Ba_1.out)); clear hbox hb hg; clear ya; have ya := za0 Ba_2.out; have ys := zw0 Bs_2.out)
  | ((with_reducible refine bx (N := 4) (cs := #[.int .i64 0, .int .i64 0, .slice none 0 0, .slice none 0 0, .slice none 0 0, .slice none 0 0, .slice none 0 0, .slice none 0 0]) (t := 33) rfl rfl ?hr ?_); (case hr => first | (go_simp; done) | (go_simp; rfl)); intro gz hg w3 hbox hb; have Ba_3 := as0 (z20 Ba_2.out hb); have Bs_3 := as0 (z20 Bs_2.out hb); have Fa_3 := as0 (Fa_2.out.below hb); have HB_3 := as0 (z10 HB_2.out hb); have Bz_3 := as0 hbox; have GE_z := as0 (show w.heap.size ≤ gz by rw [hg]; exact HB_2.out.size); have NE_az := as0 (show ga ≠ gz by rw [hg]; exact Nat.ne_of_lt (z70 Ba_2.out)); have NE_sz := as0 (show gs ≠ gz by rw [hg]; exact Nat.ne_of_lt (z70 Bs_2.out)); clear hbox hb hg; clear ya ys; have ya := za0 Ba_3.out; have ys := zw0 Bs_3.out)
  | ((with_reducible refine bx (N := 5) (cs := #[.bool false, .int .i64 0, .slice none 0 0, .slice none 0 0]) (t := 39) rfl rfl ?hr ?_); (case hr => first | (go_simp; done) | (go_simp; rfl)); intro gy hg w4 hbox hb; have Ba_4 := as0 (z20 Ba_3.out hb); have Bs_4 := as0 (z20 Bs_3.out hb); have Bz_4 := as0 (z20 Bz_3.out hb); have Fa_4 := as0 (Fa_3.out.below hb); have HB_4 := as0 (z10 HB_3.out hb); have By_4 := as0 hbox; have GE_y := as0 (show w.heap.size ≤ gy by rw [hg]; exact HB_3.out.size); have NE_ay := as0 (show ga ≠ gy by rw [hg]; exact Nat.ne_of_lt (z70 Ba_3.out)); have NE_sy := as0 (show gs ≠ gy by rw [hg]; exact Nat.ne_of_lt (z70 Bs_3.out)); have NE_zy := as0 (show gz ≠ gy by rw [hg]; exact Nat.ne_of_lt (z70 Bz_3.out)); clear hbox hb hg; clear ya ys; have ya := za0 Ba_4.out; have ys := zw0 Bs_4.out)
  | (go_at_call 17; (with_reducible refine (HK.out _).mono ?_); rintro e w5 ⟨rfl, hb⟩; have Ba_5 := as0 (z20 Ba_4.out hb); have Bs_5 := as0 (z20 Bs_4.out hb); have Bz_5 := as0 (z20 Bz_4.out hb); have By_5 := as0 (z20 By_4.out hb); have Fa_5 := as0 (Fa_4.out.below hb); have HB_5 := as0 (z10 HB_4.out hb); clear hb; clear ya ys; have ya := za0 Ba_5.out; have ys := zw0 Bs_5.out)
  | (go_at_call 29; (with_reducible refine (HF.out _ _ HB_5.out Fa_5.out (zf1 HBB.out HB_5.out.size)).mono ?_); rintro e w6 ⟨vs_, rfl, hF_, hb⟩; obtain ⟨Ab0, cb0, Ab1, cb1, Ab2, cb2, Ab3, cb3, Ab4, cb4, Ab5, cb5, rfl⟩ := hF_.form; have Ba_6 := as0 (z20 Ba_5.out hb); have Bs_6 := as0 (z20 Bs_5.out hb); have Bz_6 := as0 (z20 Bz_5.out hb); have By_6 := as0 (z20 By_5.out hb); have Fa_6 := as0 (Fa_5.out.below hb); have HB_6 := as0 (z10 HB_5.out hb); have Fb_6 := as0 hF_; clear hb hF_; clear ya ys)
  | ((with_reducible refine bx (N := 20) (cs := #[.int .i64 0, .int .i64 0, .slice none 0 0, .slice none 0 0, .slice none 0 0, .slice none 0 0, .slice none 0 0, .slice none 0 0]) (t := 33) rfl rfl ?hr ?_); (case hr => first | (go_simp; done) | (go_simp; rfl)); intro gn hg w7 hbox hb; have Bz_7 := as0 (z20 Bz_6.out hb); have By_7 := as0 (z20 By_6.out hb); have Fb_7 := as0 (Fb_6.out.below hb); have HB_7 := as0 (z10 HB_6.out hb); have Bn_7 := as0 hbox; have GE_n := as0 (show w.heap.size ≤ gn by rw [hg]; exact HB_6.out.size); have NE_zn := as0 (show gz ≠ gn by rw [hg]; exact Nat.ne_of_lt (z70 Bz_6.out)); have NE_yn := as0 (show gy ≠ gn by rw [hg]; exact Nat.ne_of_lt (z70 By_6.out)); clear hbox hb hg; have yn := za0 Bn_7.out)
  | ((with_reducible refine sx (W := w7) (t := 33) (p := 20) (w1 := set8 w7 gn (.int .i64 r1.each) (.int .i64 r1.guard) (.slice Ab0 r1.N.length cb0) (.slice Ab1 r1.S.length cb1) (.slice Ab2 r1.L.length cb2) (.slice Ab3 r1.d.w.length cb3) (.slice Ab4 r1.d.u.length cb4) (.slice Ab5 r1.d.a.length cb5)) rfl rfl rfl ?hr ?_); (case hr => first | (go_simp; done) | (go_simp; rfl)); intro w8 hw_; have Bz_8 := as0 (zg0 z30 hw_ NE_zn.out Bz_7.out); have By_8 := as0 (zg0 z30 hw_ NE_yn.out By_7.out); have Bn_8 := as0 (zu0 (zi0 Bn_7.out) hw_); have Fb_8 := as0 (zk0 z30 hw_ Fb_7.out Bn_7.out (by decide)); have HB_8 := as0 (zf0 (zb0 HB_7.out GE_n.out) hw_); clear hw_ ; clear yn; have yn := za0 Bn_8.out)
  | (have yz := za0 Bz_8.out; (with_reducible refine sx (W := w8) (t := 33) (p := 4) (w1 := set8 w8 gz (.int .i64 r1.each) (.int .i64 r1.guard) (.slice Ab0 r1.N.length cb0) (.slice Ab1 r1.S.length cb1) (.slice Ab2 r1.L.length cb2) (.slice Ab3 r1.d.w.length cb3) (.slice Ab4 r1.d.u.length cb4) (.slice Ab5 r1.d.a.length cb5)) rfl rfl rfl ?hr ?_); (case hr => first | (go_simp; done) | (go_simp; rfl)); intro w9 hw_; have Bz_9 := as0 (zu0 (zi0 Bz_8.out) hw_); have By_9 := as0 (zg0 z30 hw_ NE_zy.out.symm By_8.out); have Bn_9 := as0 (zg0 z30 hw_ NE_zn.out.symm Bn_8.out); have Fb_9 := as0 (zk0 z30 hw_ Fb_8.out Bz_8.out (by decide)); have HB_9 := as0 (zf0 (zb0 HB_8.out GE_z.out) hw_); clear hw_ yz; clear yn; have yn := za0 Bn_9.out)
  | (have yy := zw0 By_9.out; (with_reducible refine sx (W := w9) (t := 39) (p := 5) (w1 := se4 w9 gy (.bool ev) (.int .i64 0) (.slice none 0 0) (.slice none 0 0)) rfl rfl rfl ?hr ?_); (case hr => first | (go_simp; done) | (go_simp; rfl)); intro w10 hw_; have Bz_10 := as0 (zg0 zq0 hw_ NE_zy.out Bz_9.out); have By_10 := as0 (zu0 (zt2 By_9.out) hw_); have Bn_10 := as0 (zg0 zq0 hw_ NE_yn.out.symm Bn_9.out); have Fb_10 := as0 (zk0 zq0 hw_ Fb_9.out By_9.out (by decide)); have HB_10 := as0 (zf0 (zi1 HB_9.out GE_y.out) hw_); clear hw_ yy; clear yn; have yn := za0 Bn_10.out; (repeat (first | go_values | go_skip | go_guarded | go_step | go_upon | go_in)); have hlz := run_loadVar_row (P := Tryz.prog) w10 gz 33 33 _ (0, 0) _ Bz_10.out Tryz.underlying33 rfl (by kernel_rfl); have hly := run_loadVar_row (P := Tryz.prog) w10 gy 39 39 _ (0, 0) _ By_10.out Tryz.underlying39 rfl (by kernel_rfl); refine bodyPost_ret (zs1 (p := 4) (q := 5) (t1 := 33) (t2 := 39) rfl _ _ gz gy _ _ rfl rfl hlz hly) rfl ?_; exact ⟨_, _, _, rfl, Fb_10.out, zh2 _ _, zh2 _ _, HB_10.out⟩))
theorem znb {s : FS} {n : Nat} (hG : GB s n) (hn : n ≤ 300000) (k t : Int) (nm : ByteArray) (hsz : nm.size ≤ 100) (l : List ByteArray) (hls : ∀ x ∈ l, x.size ≤ 9223372036854775807) (A : Option Addr) (c : Nat) (hc : l.length ≤ c) (hC : ∀ W, Below w.heap.size w W → Kd.C Kd.string W A l.length l) {vs : Value} (h : FR b w vs (toR s)) (hb : FrB b w.heap.size) (hk : kindOf k = 7) :
  Calls Tryz.prog 8 #[vs, stV k t nm A l.length c] w fun e w' => ∃ vs' va vb : Value, e = .returned (.tuple #[vs', .agg #[.bool (stepF s k t nm l).1.is, .int .i64 (stepF s k t nm l).1.e, va, vb]]) ∧ FR b w' vs' (toR (stepF s k t nm l).2) ∧ RdS b w' va (stepF s k t nm l).1.a ∧ RdS b w' vb (stepF s k t nm l).1.b ∧ Below w.heap.size w w' := by
 have HK := as0 (fun W => zd1 k t nm A l.length c W)
 rw [hk] at HK
 have HCC := as0 hC
 have HF := as0 (fun (W : World) (vs : Value) (hBW : Below w.heap.size w W) (h : FR b W vs (toR s)) (hbW : FrB b W.heap.size) => rempty_s hG (by omega) nm hsz h hbW)
 unfold stepF
 rw [hk]
 rw [if_neg (by decide)]
 rw [if_neg (by decide)]
 rw [if_neg (by decide)]
 rw [if_neg (by decide)]
 rw [if_neg (by decide)]
 rw [if_neg (by decide)]
 rw [if_neg (by decide)]
 obtain ⟨q0, hq0⟩ : ∃ q, q = emptyF s nm := ⟨_, rfl⟩
 rw [← hq0] at HF ⊢
 obtain ⟨r1, hr1⟩ : ∃ q, q = toR q0.2 := ⟨_, rfl⟩
 rw [← hr1] at HF
 dsimp only
 rw [← hr1]
 obtain ⟨ev, hev⟩ : ∃ q, q = q0.1 := ⟨_, rfl⟩
 rw [← hev] at HF ⊢
 clear hq0 hev hr1
 generalize toR s = r at h HF
 clear hG hn hsz hls hC hk
 have HB_0 : Aside0 (Below w.heap.size w w) := ⟨Below.refl _ _⟩
 obtain ⟨Aa0, ca0, Aa1, ca1, Aa2, ca2, Aa3, ca3, Aa4, ca4, Aa5, ca5, rfl⟩ := h.form
 have Fa_0 := as0 h
 have HBB := as0 hb
 clear h hb
 go_enter Tryz.func8, Tryz.ntmps8
 go_wp2_with (first
  | ((with_reducible refine bx (N := 2) (cs := #[.int .i64 r.each, .int .i64 r.guard, .slice Aa0 r.N.length ca0, .slice Aa1 r.S.length ca1, .slice Aa2 r.L.length ca2, .slice Aa3 r.d.w.length ca3, .slice Aa4 r.d.u.length ca4, .slice Aa5 r.d.a.length ca5]) (t := 33) rfl rfl ?hr ?_); (case hr => first | (go_simp; done) | (go_simp; rfl)); intro ga hg w1 hbox hb; have Fa_1 := as0 (Fa_0.out.below hb); have HB_1 := as0 (z10 HB_0.out hb); have Ba_1 := as0 hbox; have GE_a := as0 (show w.heap.size ≤ ga by rw [hg]; exact HB_0.out.size); clear hbox hb hg; have ya := za0 Ba_1.out)
  | ((with_reducible refine bx (N := 3) (cs := #[.int .i64 k, .int .i64 t, .string nm, .slice A l.length c]) (t := 36) rfl rfl ?hr ?_); (case hr => first | (go_simp; done) | (go_simp; rfl)); intro gs hg w2 hbox hb; have Ba_2 := as0 (z20 Ba_1.out hb); have Fa_2 := as0 (Fa_1.out.below hb); have HB_2 := as0 (z10 HB_1.out hb); have Bs_2 := as0 hbox; have GE_s := as0 (show w.heap.size ≤ gs by rw [hg]; exact HB_1.out.size); have NE_as := as0 (show ga ≠ gs by rw [hg]; exact Nat.ne_of_lt (z70 Ba_1.out)); clear hbox hb hg; clear ya; have ya := za0 Ba_2.out; have ys := zw0 Bs_2.out)
  | ((with_reducible refine bx (N := 4) (cs := #[.int .i64 0, .int .i64 0, .slice none 0 0, .slice none 0 0, .slice none 0 0, .slice none 0 0, .slice none 0 0, .slice none 0 0]) (t := 33) rfl rfl ?hr ?_); (case hr => first | (go_simp; done) | (go_simp; rfl)); intro gz hg w3 hbox hb; have Ba_3 := as0 (z20 Ba_2.out hb); have Bs_3 := as0 (z20 Bs_2.out hb); have Fa_3 := as0 (Fa_2.out.below hb); have HB_3 := as0 (z10 HB_2.out hb); have Bz_3 := as0 hbox; have GE_z := as0 (show w.heap.size ≤ gz by rw [hg]; exact HB_2.out.size); have NE_az := as0 (show ga ≠ gz by rw [hg]; exact Nat.ne_of_lt (z70 Ba_2.out)); have NE_sz := as0 (show gs ≠ gz by rw [hg]; exact Nat.ne_of_lt (z70 Bs_2.out)); clear hbox hb hg; clear ya ys; have ya := za0 Ba_3.out; have ys := zw0 Bs_3.out)
  | ((with_reducible refine bx (N := 5) (cs := #[.bool false, .int .i64 0, .slice none 0 0, .slice none 0 0]) (t := 39) rfl rfl ?hr ?_); (case hr => first | (go_simp; done) | (go_simp; rfl)); intro gy hg w4 hbox hb; have Ba_4 := as0 (z20 Ba_3.out hb); have Bs_4 := as0 (z20 Bs_3.out hb); have Bz_4 := as0 (z20 Bz_3.out hb); have Fa_4 := as0 (Fa_3.out.below hb); have HB_4 := as0 (z10 HB_3.out hb); have By_4 := as0 hbox; have GE_y := as0 (show w.heap.size ≤ gy by rw [hg]; exact HB_3.out.size); have NE_ay := as0 (show ga ≠ gy by rw [hg]; exact Nat.ne_of_lt (z70 Ba_3.out)); have NE_sy := as0 (show gs ≠ gy by rw [hg]; exact Nat.ne_of_lt (z70 Bs_3.out)); have NE_zy := as0 (show gz ≠ gy by rw [hg]; exact Nat.ne_of_lt (z70 Bz_3.out)); clear hbox hb hg; clear ya ys; have ya := za0 Ba_4.out; have ys := zw0 Bs_4.out)
  | (go_at_call 17; (with_reducible refine (HK.out _).mono ?_); rintro e w5 ⟨rfl, hb⟩; have Ba_5 := as0 (z20 Ba_4.out hb); have Bs_5 := as0 (z20 Bs_4.out hb); have Bz_5 := as0 (z20 Bz_4.out hb); have By_5 := as0 (z20 By_4.out hb); have Fa_5 := as0 (Fa_4.out.below hb); have HB_5 := as0 (z10 HB_4.out hb); clear hb; clear ya ys; have ya := za0 Ba_5.out; have ys := zw0 Bs_5.out)
  | (go_at_call 30; (with_reducible refine (HF.out _ _ HB_5.out Fa_5.out (zf1 HBB.out HB_5.out.size)).mono ?_); rintro e w6 ⟨vs_, rfl, hF_, hb⟩; obtain ⟨Ab0, cb0, Ab1, cb1, Ab2, cb2, Ab3, cb3, Ab4, cb4, Ab5, cb5, rfl⟩ := hF_.form; have Ba_6 := as0 (z20 Ba_5.out hb); have Bs_6 := as0 (z20 Bs_5.out hb); have Bz_6 := as0 (z20 Bz_5.out hb); have By_6 := as0 (z20 By_5.out hb); have Fa_6 := as0 (Fa_5.out.below hb); have HB_6 := as0 (z10 HB_5.out hb); have Fb_6 := as0 hF_; clear hb hF_; clear ya ys)
  | ((with_reducible refine bx (N := 22) (cs := #[.int .i64 0, .int .i64 0, .slice none 0 0, .slice none 0 0, .slice none 0 0, .slice none 0 0, .slice none 0 0, .slice none 0 0]) (t := 33) rfl rfl ?hr ?_); (case hr => first | (go_simp; done) | (go_simp; rfl)); intro gn hg w7 hbox hb; have Bz_7 := as0 (z20 Bz_6.out hb); have By_7 := as0 (z20 By_6.out hb); have Fb_7 := as0 (Fb_6.out.below hb); have HB_7 := as0 (z10 HB_6.out hb); have Bn_7 := as0 hbox; have GE_n := as0 (show w.heap.size ≤ gn by rw [hg]; exact HB_6.out.size); have NE_zn := as0 (show gz ≠ gn by rw [hg]; exact Nat.ne_of_lt (z70 Bz_6.out)); have NE_yn := as0 (show gy ≠ gn by rw [hg]; exact Nat.ne_of_lt (z70 By_6.out)); clear hbox hb hg; have yn := za0 Bn_7.out)
  | ((with_reducible refine sx (W := w7) (t := 33) (p := 22) (w1 := set8 w7 gn (.int .i64 r1.each) (.int .i64 r1.guard) (.slice Ab0 r1.N.length cb0) (.slice Ab1 r1.S.length cb1) (.slice Ab2 r1.L.length cb2) (.slice Ab3 r1.d.w.length cb3) (.slice Ab4 r1.d.u.length cb4) (.slice Ab5 r1.d.a.length cb5)) rfl rfl rfl ?hr ?_); (case hr => first | (go_simp; done) | (go_simp; rfl)); intro w8 hw_; have Bz_8 := as0 (zg0 z30 hw_ NE_zn.out Bz_7.out); have By_8 := as0 (zg0 z30 hw_ NE_yn.out By_7.out); have Bn_8 := as0 (zu0 (zi0 Bn_7.out) hw_); have Fb_8 := as0 (zk0 z30 hw_ Fb_7.out Bn_7.out (by decide)); have HB_8 := as0 (zf0 (zb0 HB_7.out GE_n.out) hw_); clear hw_ ; clear yn; have yn := za0 Bn_8.out)
  | (have yz := za0 Bz_8.out; (with_reducible refine sx (W := w8) (t := 33) (p := 4) (w1 := set8 w8 gz (.int .i64 r1.each) (.int .i64 r1.guard) (.slice Ab0 r1.N.length cb0) (.slice Ab1 r1.S.length cb1) (.slice Ab2 r1.L.length cb2) (.slice Ab3 r1.d.w.length cb3) (.slice Ab4 r1.d.u.length cb4) (.slice Ab5 r1.d.a.length cb5)) rfl rfl rfl ?hr ?_); (case hr => first | (go_simp; done) | (go_simp; rfl)); intro w9 hw_; have Bz_9 := as0 (zu0 (zi0 Bz_8.out) hw_); have By_9 := as0 (zg0 z30 hw_ NE_zy.out.symm By_8.out); have Bn_9 := as0 (zg0 z30 hw_ NE_zn.out.symm Bn_8.out); have Fb_9 := as0 (zk0 z30 hw_ Fb_8.out Bz_8.out (by decide)); have HB_9 := as0 (zf0 (zb0 HB_8.out GE_z.out) hw_); clear hw_ yz; clear yn; have yn := za0 Bn_9.out)
  | (have yy := zw0 By_9.out; (with_reducible refine sx (W := w9) (t := 39) (p := 5) (w1 := se4 w9 gy (.bool ev) (.int .i64 0) (.slice none 0 0) (.slice none 0 0)) rfl rfl rfl ?hr ?_); (case hr => first | (go_simp; done) | (go_simp; rfl)); intro w10 hw_; have Bz_10 := as0 (zg0 zq0 hw_ NE_zy.out Bz_9.out); have By_10 := as0 (zu0 (zt2 By_9.out) hw_); have Bn_10 := as0 (zg0 zq0 hw_ NE_yn.out.symm Bn_9.out); have Fb_10 := as0 (zk0 zq0 hw_ Fb_9.out By_9.out (by decide)); have HB_10 := as0 (zf0 (zi1 HB_9.out GE_y.out) hw_); clear hw_ yy; clear yn; have yn := za0 Bn_10.out; (repeat (first | go_values | go_skip | go_guarded | go_step | go_upon | go_in)); have hlz := run_loadVar_row (P := Tryz.prog) w10 gz 33 33 _ (0, 0) _ Bz_10.out Tryz.underlying33 rfl (by kernel_rfl); have hly := run_loadVar_row (P := Tryz.prog) w10 gy 39 39 _ (0, 0) _ By_10.out Tryz.underlying39 rfl (by kernel_rfl); refine bodyPost_ret (zs1 (p := 4) (q := 5) (t1 := 33) (t2 := 39) rfl _ _ gz gy _ _ rfl rfl hlz hly) rfl ?_; exact ⟨_, _, _, rfl, Fb_10.out, zh2 _ _, zh2 _ _, HB_10.out⟩))
theorem z28 {s : FS} {n : Nat} (hG : GB s n) (hn : n ≤ 300000) (k t : Int) (nm : ByteArray) (hsz : nm.size ≤ 100) (l : List ByteArray) (hls : ∀ x ∈ l, x.size ≤ 9223372036854775807) (A : Option Addr) (c : Nat) (hc : l.length ≤ c) (hC : ∀ W, Below w.heap.size w W → Kd.C Kd.string W A l.length l) {vs : Value} (h : FR b w vs (toR s)) (hb : FrB b w.heap.size) :
  Calls Tryz.prog 8 #[vs, stV k t nm A l.length c] w fun e w' => ∃ vs' va vb : Value, e = .returned (.tuple #[vs', .agg #[.bool (stepF s k t nm l).1.is, .int .i64 (stepF s k t nm l).1.e, va, vb]]) ∧ FR b w' vs' (toR (stepF s k t nm l).2) ∧ RdS b w' va (stepF s k t nm l).1.a ∧ RdS b w' vb (stepF s k t nm l).1.b ∧ Below w.heap.size w w' := by
 rcases zd5 k with hk | hk | hk | hk | hk | hk | hk | hk
 ·exact zlb hG hn k t nm hsz l hls A c hc hC h hb hk
 ·exact zcc hG hn k t nm hsz l hls A c hc hC h hb hk
 ·exact z7b hG hn k t nm hsz l hls A c hc hC h hb hk
 ·exact zsa hG hn k t nm hsz l hls A c hc hC h hb hk
 ·exact z2c hG hn k t nm hsz l hls A c hc hC h hb hk
 ·exact zyc hG hn k t nm hsz l hls A c hc hC h hb hk
 ·exact zsc hG hn k t nm hsz l hls A c hc hC h hb hk
 ·exact znb hG hn k t nm hsz l hls A c hc hC h hb hk
theorem zla (i : Bool) (e : Int) (a b : List ByteArray) (A1 A2 B1 B2 : Option Addr) (a1 a2 b1 b2 : Nat) (hA1 : ∀ W, Below w.heap.size w W → Kd.C Kd.string W A1 a.length a) (ha1 : a.length ≤ a1) (hA2 : ∀ W, Below w.heap.size w W → Kd.C Kd.string W A2 a.length a) (ha2 : a.length ≤ a2)
  (hB1 : ∀ W, Below w.heap.size w W → Kd.C Kd.string W B1 b.length b) (hb1 : b.length ≤ b1) (hB2 : ∀ W, Below w.heap.size w W → Kd.C Kd.string W B2 b.length b) (hb2 : b.length ≤ b2) :
  Calls Tryz.prog 9 #[.agg #[.bool i, .int .i64 e, .slice A1 a.length a1, .slice B1 b.length b1], .agg #[.bool i, .int .i64 e, .slice A2 a.length a2, .slice B2 b.length b2]] w fun en w' => en = .returned (.bool true) ∧ Below w.heap.size w w' := by
 have HSA := as0 (fun (W : World) (h : Below w.heap.size w W) => zh4 a a A1 A2 a1 a2 W (hA1 W h) ha1 (hA2 W h) ha2)
 have HSB := as0 (fun (W : World) (h : Below w.heap.size w W) => zh4 b b B1 B2 b1 b2 W (hB1 W h) hb1 (hB2 W h) hb2)
 rw [decide_eq_true rfl] at HSA HSB
 have hi : (i == i) = true := by simp
 have he : (e == e) = true := by simp
 clear hA1 hA2 hB1 hB2 ha1 ha2 hb1 hb2
 have HB_0 : Aside0 (Below w.heap.size w w) := ⟨Below.refl _ _⟩
 go_enter Tryz.func9, Tryz.ntmps9
 go_wp2_with (first
  | ((with_reducible refine bx (N := 2) (cs := #[.bool i, .int .i64 e, .slice A1 a.length a1, .slice B1 b.length b1]) (t := 39) rfl rfl ?hr ?_); (case hr => first | (go_simp; done) | (go_simp; rfl)); intro ga hg w1 hbox hb; have HB_1 := as0 (z10 HB_0.out hb); have Ba_1 := as0 hbox; have GE_a := as0 (show w.heap.size ≤ ga by rw [hg]; exact HB_0.out.size); clear hbox hb hg; have ya := zw0 Ba_1.out)
  | ((with_reducible refine bx (N := 3) (cs := #[.bool i, .int .i64 e, .slice A2 a.length a2, .slice B2 b.length b2]) (t := 39) rfl rfl ?hr ?_); (case hr => first | (go_simp; done) | (go_simp; rfl)); intro gz hg w2 hbox hb; have Ba_2 := as0 (z20 Ba_1.out hb); have HB_2 := as0 (z10 HB_1.out hb); have Bz_2 := as0 hbox; have GE_z := as0 (show w.heap.size ≤ gz by rw [hg]; exact HB_1.out.size); have NE_az := as0 (show ga ≠ gz by rw [hg]; exact Nat.ne_of_lt (z70 Ba_1.out)); clear hbox hb hg; clear ya; have ya := zw0 Ba_2.out; have yz := zw0 Bz_2.out)
  | (go_at_call 31; (with_reducible refine (HSA.out _ HB_2.out).mono ?_); rintro en w3 ⟨rfl, hb0⟩; have hb := Drawn0.below hb0; clear hb0; have Ba_3 := as0 (z20 Ba_2.out hb); have Bz_3 := as0 (z20 Bz_2.out hb); have HB_3 := as0 (z10 HB_2.out hb); clear hb; clear ya yz; have ya := zw0 Ba_3.out; have yz := zw0 Bz_3.out)
  | (go_at_call 31; (with_reducible refine (HSB.out _ HB_3.out).mono ?_); rintro en w4 ⟨rfl, hb0⟩; have hb := Drawn0.below hb0; clear hb0; have Ba_4 := as0 (z20 Ba_3.out hb); have Bz_4 := as0 (z20 Bz_3.out hb); have HB_4 := as0 (z10 HB_3.out hb); clear hb; clear ya yz; have ya := zw0 Ba_4.out; have yz := zw0 Bz_4.out))
 go_ret
 exact ⟨rfl, HB_4.out⟩
end
end
end Go.Proofs.YtmlmiocomlehgaaGreat.Man
end
section
namespace Go.Proofs.YtmlmiocomlehgaaGreat.Man
open Go.RowKit Go.Proofs.YtmlmiocomlehgaaGreatW.PrintWords Go.Proofs.YtmlmiocomlehgaaGreatW.PrintLast Go.Proofs.YtmlmiocomlehgaaGreatW.PrintMore Go.Proofs.YtmlmiocomlehgaaGreat.PA Go.Proofs.YtmlmiocomlehgaaGreat.PF Go.Proofs.YtmlmiocomlehgaaGreat.Hid
section
theorem z2a (a b : List Int) (hl : a.length = b.length) (hm : a.length ≤ 9223372036854775807) (d : Nat) : ∀ (k j : Nat), j ≤ a.length → a.length - j = d → d < k → hostlerref01_Same.l0 k a b (j : Int) = some (decide (a.drop j = b.drop j)) := by
 induction d with
 | zero =>
  intro k j hj hd hk
  obtain ⟨k, rfl⟩ : ∃ m, k = m + 1 := ⟨k - 1, by omega⟩
  simp only [hostlerref01_Same.l0]
  rw [if_neg (by omega), List.drop_eq_nil_of_le (by omega), List.drop_eq_nil_of_le (by omega)]
  simp
 | succ d ih =>
  intro k j hj hd hk
  obtain ⟨k, rfl⟩ : ∃ m, k = m + 1 := ⟨k - 1, by omega⟩
  have hlt : j < a.length := by omega
  have hlt2 : j < b.length := by omega
  simp only [hostlerref01_Same.l0]
  rw [if_pos (by omega), if_pos (by omega), if_pos (by omega)]
  have d1 := List.drop_eq_getElem_cons hlt
  have d2 := List.drop_eq_getElem_cons hlt2
  have e : rd a (j : Int) = a[j] := by simp [rd, List.getD, hlt]
  have e2 : rd b (j : Int) = b[j] := by simp [rd, List.getD, hlt2]
  rw [e, e2]
  have ih' := ih k (j + 1) (by omega) (by omega) (by omega)
  rw [show ((j + 1 : Nat) : Int) = (j : Int) + 1 by omega] at ih'
  have hw : wrap64 ((j : Int) + 1) = (j : Int) + 1 := by unfold wrap64; omega
  rw [hw, ih']
  by_cases c : a[j] = b[j]
  ·rw [if_pos c, d1, d2, c]
   generalize List.drop (j + 1) a = r
   generalize List.drop (j + 1) b = q
   simp
  ·rw [if_neg c, d1, d2]
   generalize List.drop (j + 1) a = r
   generalize List.drop (j + 1) b = q
   simp [c]
theorem z0a (a b : List Int) (hm : a.length ≤ 9223372036854775807) : hostlerref01_Same.f (a.length + 1) a b = some (decide (a = b)) := by
 unfold hostlerref01_Same.f
 by_cases h : a.length = b.length
 ·rw [if_pos (by omega)]
  have := z2a a b h hm a.length (a.length + 1) 0 (by omega) (by omega) (by omega)
  simpa using this
 ·rw [if_neg (by omega), decide_eq_false (fun e => h (by rw [e]))]
theorem zza (a b : List Int) (A B : Option Addr) (c d : Nat) (w : World) (hA : Kd.C (Kd.int .i64) w A a.length a) (ha : a.length ≤ c) (hB : Kd.C (Kd.int .i64) w B b.length b) (hb : b.length ≤ d) : Calls Tryz.prog 33 #[.slice A a.length c, .slice B b.length d] w fun e w' => e = .returned (.bool (decide (a = b))) ∧ Drawn0 w w' :=
 hostlerref01_Same.calls (a.length + 1) A c a B d b _ w hA ha hB hb (z0a a b hA.2.1)
end
end Go.Proofs.YtmlmiocomlehgaaGreat.Man
end
