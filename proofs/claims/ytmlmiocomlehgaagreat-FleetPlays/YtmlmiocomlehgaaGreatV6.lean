/-
  Contracts of functions, proved by walking them, and plain facts, several texts in one. Conditions: none.
-/
import Derived.Test.YtmlmiocomlehgaaGreatV5
import Derived.Lib.SmallJoins
import Derived.OpenShut
import Derived.WideShapes
import Derived.SizedLaws
import Derived.Deep.Slices
import Derived.ChangeSlices
set_option linter.unusedVariables false
set_option linter.unusedSimpArgs false
set_option linter.unusedSectionVars false
set_option maxHeartbeats 16000000
set_option maxRecDepth 100000
section
namespace Go.Proofs.YtmlmiocomlehgaaGreat.Man
open Go.RowKit Go.Proofs.YtmlmiocomlehgaaGreatW.PrintWords Go.Proofs.YtmlmiocomlehgaaGreatW.PrintLast Go.Proofs.YtmlmiocomlehgaaGreatW.PrintMore Go.Proofs.YtmlmiocomlehgaaGreat.PA Go.Proofs.YtmlmiocomlehgaaGreat.PR Go.Proofs.YtmlmiocomlehgaaGreat.PF Go.Proofs.YtmlmiocomlehgaaGreat.Na Go.Proofs.YtmlmiocomlehgaaGreat.Hid Go.Proofs.YtmlmiocomlehgaaGreat.Nil
section
theorem Rd.le {α : Type} {enc : α → Value} {h1 : ∀ x, (enc x).oneCell' = true} {e n c : Nat} {b : Nat → Prop} {W : World} {A : Option Addr} {xs : List α} (h : Rd enc h1 e b W (.slice A n c) xs) : xs.length ≤ c := by
 obtain ⟨A', c', hv, hc, _⟩ := h
 injection hv with _ _ h3
 rw [h3]
 exact hc
theorem cap_eq {s : FS} {n : Nat} (hG : GB s n) (hn : n ≤ 300000) (h0 : 0 ≤ s.each) : capV s = (actI (s.hs.map (·.st)) : Int) * pos0 s.each := by
 unfold capV
 have e : actN s.hs = actI (s.hs.map (·.st)) := by
  unfold actN actI
  first | rfl | (rw [List.filter_map, List.length_map]; rfl)
 rw [e]
 have h1 : actI (s.hs.map (·.st)) ≤ n := Nat.le_trans (zic _) (by rw [List.length_map]; exact hG.hl)
 have hp := zqa hG.e
 have h2 := zqc (a := (actI (s.hs.map (·.st)) : Int)) (A := 300000) (by omega) (by omega) hp.1 hp.2
 exact zx5 (by omega) (by omega)
theorem state_x {s : FS} {n : Nat} (hG : GB s n) {i : Nat} {x : HV} (hx : s.hs[i]? = some x) : stateV s x.nm = (x.st, true) ∧ leavesV s x.nm = x.lv := by
 unfold stateV leavesV
 rw [zo1 (zp4 hG.nd hx) hx]
 exact ⟨rfl, rfl⟩
def rw10.T1 : Bool × List (List Nat × List Nat) := (true, [([], []), ([0], [0]), ([], []), ([2], [2]), ([1, 3, 1], [1, 3]), ([4], [4]), ([5, 4], [5]), ([6], [6]), ([7, 6, 6], [6, 7]), ([6], [6]), ([9, 6], [6, 9]), ([8, 10, 8, 6], [6, 8, 10]), ([11, 6], [6, 11]), ([6, 12], [6, 12]), ([13, 11], [13]), ([14], [14]), ([15, 14, 14], [14, 15]), ([14], [14]), ([17, 16, 14], [14, 17]), ([16, 18, 14], [14, 16, 18]), ([14, 19], [14, 19]), ([20, 18], [20]), ([21], [21]), ([21], [21]), ([22, 23, 21, 21], [21, 22, 23]), ([21], [21]), ([25, 21], [21, 25]), ([21], [21]), ([26, 27, 24, 21], [21, 26, 27]), ([24, 28, 28, 21], [21, 24, 28]), ([29, 21], [21, 29]), ([21, 30], [21, 30]), ([31, 29], [31]), ([32], [32]), ([32], [32]), ([33, 34, 32, 32], [32, 33, 34]), ([32], [32]), ([36, 32], [32, 36]), ([37, 32], [32, 37]), ([32], [32]), ([38, 39, 35, 32], [32, 38, 39]), ([35, 40, 32], [32, 35, 40]), ([32, 41], [32, 41])])
theorem rw10.tab1 : rtab .any (opsOf Tryz.f10 1) = rw10.T1 := by kernel_rfl
def rw10.T7 : Bool × List (List Nat × List Nat) := (true, [([], []), ([], []), ([1], [1]), ([], []), ([2, 3], [2, 3]), ([4], [4]), ([0, 5], [0, 5]), ([6], [6]), ([7], [7]), ([8, 7], [7, 8]), ([7, 9], [7, 9]), ([10, 7], [10]), ([11], [11]), ([11], [11]), ([13, 11], [11, 13]), ([11], [11]), ([14, 15, 11], [11, 14, 15]), ([16, 11], [11, 16]), ([12, 17, 11, 11], [11, 12, 17]), ([11], [11]), ([19, 11], [11, 19]), ([11], [11]), ([20, 21, 11], [11, 20, 21]), ([22, 11], [11, 22]), ([18, 23, 11], [11, 18, 23]), ([11, 24], [11, 24])])
theorem rw10.tab7 : rtab .any (opsOf Tryz.f10 7) = rw10.T7 := by kernel_rfl
section
variable {b : Nat → Prop} {w : World}
theorem like_any {w0 : World} {g : Nat} {s : FS} {n q : Nat} (hq : q ≤ 100) (hv : FInv s q) (hF : IsF w0 w g s) (hG : GB s n) (hn : n ≤ 300000) (he0 : 0 ≤ s.each) (nm : ByteArray) (t : Int) {vs : Value} (h : FR b w vs (toR s)) :
  Calls Tryz.prog 10 #[ptr g, vs, .string nm, .int .i64 t] w fun e w' => e = .returned (.bool true) ∧ Below w.heap.size w w' := by
 obtain ⟨r, hr⟩ : ∃ q, q = toR s := ⟨_, rfl⟩
 rw [← hr] at h
 have HR := as0 hr
 have HNAM := as0 (fun (W : World) (h : Below w.heap.size w W) => z9b hq hv (hF.below h))
 rw [show s.hs.map (·.nm) = r.N by rw [hr]; rfl] at HNAM
 have HSTS := as0 (fun (W : World) (h : Below w.heap.size w W) => zt9 hq hv (hF.below h))
 rw [show s.hs.map (·.st) = r.S by rw [hr]; rfl] at HSTS
 have HCAP := as0 (fun (W : World) (h : Below w.heap.size w W) => z94 hq hv (hF.below h))
 have HRCP := as0 (fun (W : World) (vs : Value) (h : FR b W vs r) => rcap_raw r h (by rw [hr]; have := hG.hl; simp [toR]; omega) (by rw [hr]; exact hG.e))
 rw [show (actI r.S : Int) * pos0 r.each = capV s by rw [hr]; exact (cap_eq hG hn he0).symm] at HRCP
 generalize capV s = cp at HCAP HRCP
 have HDUE := as0 (fun (W : World) (h : Below w.heap.size w W) => due_any hq hv (hF.below h) t)
 have hdue : dueOf s.ds t = refDue r.d t := by rw [hr]; exact zib hG.ok.inv t
 rw [hdue] at HDUE
 obtain ⟨du, hdu⟩ : ∃ q, q = refDue r.d t := ⟨_, rfl⟩
 rw [← hdu] at HDUE
 have HRDU := as0 (fun (W : World) (e g v0 v1 v2 v3 v4 v5 : Value) (h : FR b W (.agg #[e, g, v0, v1, v2, v3, v4, v5]) r) => ref_due t r.d h.get.2.2.2.1 h.get.2.2.2.2.1 h.get.2.2.2.2.2 (by rw [hr]; have := hG.rb.u; omega) (by rw [hr]; exact hG.rb.a))
 rw [← hdu] at HRDU
 have HAHD := as0 (fun (W : World) (h : Below w.heap.size w W) => z47 hq hv (hF.below h) nm)
 rw [show idxOf (namesOf s.ds.row false) nm 0 = idxOf r.d.w nm 0 by rw [hr]; rfl] at HAHD
 have HPL := as0 (fun (W : World) (e g v0 v1 v2 v3 v4 v5 : Value) (h : FR b W (.agg #[e, g, v0, v1, v2, v3, v4, v5]) r) => h.place nm)
 generalize idxOf r.d.w nm 0 = ia at HAHD HPL
 have HSTA := as0 (fun (W : World) (h : Below w.heap.size w W) (x : ByteArray) => zec (hF.below h) x)
 have HLVS := as0 (fun (W : World) (h : Below w.heap.size w W) (x : ByteArray) => ze9 (hF.below h) x)
 have hhl : s.hs.length ≤ 300000 := Nat.le_trans hG.hl hn
 have hNl : r.N.length = s.hs.length := by rw [hr]; simp [toR]
 have hlN : r.N.length ≤ 300000 := by have := hG.hl; omega
 have hlS : r.S.length ≤ 300000 := by rw [hr]; have := hG.hl; simp [toR]; omega
 have HNL := as0 hNl
 have HRB : Aside0 (RB r n) := ⟨by rw [hr]; exact hG.rb⟩
 have HG := as0 hG
 have HAt := as0 (fun (W : World) (vs : Value) (h : FR b W vs r) => z61 nm r h)
 rw [show idxOf r.N nm 0 = posH s.hs nm by rw [hr]; exact hG.at nm] at HAt
 have HB_0 : Aside0 (Below w.heap.size w w) := ⟨Below.refl _ _⟩
 clear hq hv hF hG hn he0 hr hdue hdu hNl hlN hlS
 obtain ⟨Aa0, ca0, Aa1, ca1, Aa2, ca2, Aa3, ca3, Aa4, ca4, Aa5, ca5, rfl⟩ := h.form
 have Fa_0 := as0 h
 clear h
 go_enter Tryz.func10, Tryz.ntmps10
 go_upto_region 1 with (first
  | ((with_reducible refine bx (N := 5) (cs := #[.int .i64 r.each, .int .i64 r.guard, .slice Aa0 r.N.length ca0, .slice Aa1 r.S.length ca1, .slice Aa2 r.L.length ca2, .slice Aa3 r.d.w.length ca3, .slice Aa4 r.d.u.length ca4, .slice Aa5 r.d.a.length ca5]) (t := 33) rfl rfl ?hr ?_); (case hr => first | (go_simp; done) | (go_simp; rfl)); intro ga hg w1 hbox hb; have Fa_1 := as0 (Fa_0.out.below hb); have HB_1 := as0 (z10 HB_0.out hb); have Ba_1 := as0 hbox; have GE_a := as0 (show w.heap.size ≤ ga by rw [hg]; exact HB_0.out.size); clear hbox hb hg; have ya := za0 Ba_1.out))
 refine zy1 (n := 43) (S := fun w' => w'.cell? ⟨ga, 0, none⟩ = some (.int .i64 r.each) ∧ w'.cell? ⟨ga, 1, none⟩ = some (.int .i64 r.guard) ∧ w'.cell? ⟨ga, 2, none⟩ = some (.slice Aa0 r.N.length ca0) ∧ w'.cell? ⟨ga, 3, none⟩ = some (.slice Aa1 r.S.length ca1) ∧ w'.cell? ⟨ga, 4, none⟩ = some (.slice Aa2 r.L.length ca2) ∧ w'.cell? ⟨ga, 5, none⟩ = some (.slice Aa3 r.d.w.length ca3) ∧ w'.cell? ⟨ga, 6, none⟩ = some (.slice Aa4 r.d.u.length ca4) ∧ w'.cell? ⟨ga, 7, none⟩ = some (.slice Aa5 r.d.a.length ca5)) (ds := []) #[ff,ff,ff,ff,ff,ff,ff,ff,ff,ff,ff,ff,ff,ff,ff,ff,ff,ff,ff,ff,ff,ff,ff,ff,ff,ff,ff,ff,ff,ff,ff,ff,ff,ff,ff,ff,ff,ff,ff,ff,ff,ff,ff] (by kernel_rfl) rfl rfl ⟨ya.1, ya.2.1, ya.2.2.1, ya.2.2.2.1, ya.2.2.2.2.1, ya.2.2.2.2.2.1, ya.2.2.2.2.2.2.1, ya.2.2.2.2.2.2.2.1⟩ (fun hHeld => ?_); refine zc1 rw10.tab1 (fun HT_ => ?_)
 obtain ⟨w2, hw_⟩ : ∃ W, W = w1.drew := ⟨_, rfl⟩
 rw [← hw_] at hHeld ⊢
 have hb : Below w1.heap.size w1 w2 := by rw [hw_]; exact z50 (Below.refl _ _)
 have Ba_2 := as0 (z20 Ba_1.out hb)
 have Fa_2 := as0 (Fa_1.out.below hb)
 have HB_2 := as0 (z10 HB_1.out hb)
 clear hb hw_
 clear ya
 have ya := za0 Ba_2.out
 refine zl0 (i := 0) (N := some 14) (v := ?_) (a' := ?_) #[tt,ff,ff,ff,ff,ff,ff,ff,ff,ff,ff,ff,ff,ff,ff,ff,ff,ff,ff,ff,ff,ff,ff,ff,ff,ff,ff,ff,ff,ff,ff,ff,ff,ff,ff,ff,ff,ff,ff,ff,ff,ff,ff] rfl rfl (zh0 HT_.out (by kernel_rfl)) (fun _ _ _ h => h) (Or.inl ⟨by rfl, ?_⟩) ?_ ?_
 rotate_left
 ·intro w'
  go_simp
  with_reducible rfl
 rotate_left
 ·simp only [Act.put, lSI, lS0, lS1, ze0, zd0]
  rfl
 refine zl0 (i := 2) (N := some 16) (v := ?_) (a' := ?_) #[tt,ff,tt,ff,ff,ff,ff,ff,ff,ff,ff,ff,ff,ff,ff,ff,ff,ff,ff,ff,ff,ff,ff,ff,ff,ff,ff,ff,ff,ff,ff,ff,ff,ff,ff,ff,ff,ff,ff,ff,ff,ff,ff] rfl rfl (zh0 HT_.out (by kernel_rfl)) (fun _ _ _ h => h) (Or.inl ⟨by rfl, ?_⟩) ?_ ?_
 rotate_left
 ·intro w'
  go_simp
  with_reducible rfl
 rotate_left
 ·simp only [Act.put, lSI, lS0, lS1, ze0, zd0]
  rfl
 refine take_ (i := 3) (N := some 17) (v := ?_) (a' := ?_) #[tt,ff,tt,tt,ff,ff,ff,ff,ff,ff,ff,ff,ff,ff,ff,ff,ff,ff,ff,ff,ff,ff,ff,ff,ff,ff,ff,ff,ff,ff,ff,ff,ff,ff,ff,ff,ff,ff,ff,ff,ff,ff,ff] rfl rfl (zp0 HT_.out (by kernel_rfl)) (fun _ _ _ h => h) (Or.inl ⟨by rfl, ?_⟩) hHeld ?_ ?_
 rotate_left
 ·intro w' hS_
  obtain ⟨s0, s1, s2, s3, s4, s5, s6, s7⟩ := hS_
  go_simp
  with_reducible rfl
 rotate_left
 ·simp only [Act.put, lSI, lS0, lS1, ze0, zd0]
  rfl
 refine zx2 (i := 1) (N := some 15) #[tt,tt,tt,tt,ff,ff,ff,ff,ff,ff,ff,ff,ff,ff,ff,ff,ff,ff,ff,ff,ff,ff,ff,ff,ff,ff,ff,ff,ff,ff,ff,ff,ff,ff,ff,ff,ff,ff,ff,ff,ff,ff,ff] rfl rfl (z21 HT_.out (by kernel_rfl)) (by decide) (fun K hK => ?_)
 refine z02 Tryz.func32 (by kernel_rfl) rfl #[ptr g] (by rfl) rfl rfl (by (try simp only [List.map_toArray, List.map_cons, List.map_nil]); first | done | rfl) ?_
 refine (HNAM.out _ HB_2.out).mono ?_
 rintro en w3 ⟨v_, rfl, hr_, hb⟩
 obtain ⟨AN1, cN1, rfl⟩ := Kd.R_slice hr_
 have Ba_3 := as0 (z20 Ba_2.out hb)
 have Fa_3 := as0 (Fa_2.out.below hb)
 have HB_3 := as0 (z10 HB_2.out hb)
 have RN1_3 := as0 hr_
 clear hb hr_
 clear ya
 have ya := za0 Ba_3.out
 refine ⟨_, rfl, ?_⟩
 refine hK.out _ _ ⟨ya.1, ya.2.1, ya.2.2.1, ya.2.2.2.1, ya.2.2.2.2.1, ya.2.2.2.2.2.1, ya.2.2.2.2.2.2.1, ya.2.2.2.2.2.2.2.1⟩ (fun hHeld => ?_)
 clear hK K
 refine zh1 (a' := ?_) ?_ ?_
 rotate_left
 ·show Act.put _ (some 15) _ = _
  simp only [Act.put, lSI, lS0, lS1, ze0, zd0]
  rfl
 refine zx2 (i := 4) (N := some 18) #[tt,tt,tt,tt,tt,ff,ff,ff,ff,ff,ff,ff,ff,ff,ff,ff,ff,ff,ff,ff,ff,ff,ff,ff,ff,ff,ff,ff,ff,ff,ff,ff,ff,ff,ff,ff,ff,ff,ff,ff,ff,ff,ff] rfl rfl (z21 HT_.out (by kernel_rfl)) (by decide) (fun K hK => ?_)
 refine z02 Tryz.func31 (by kernel_rfl) rfl #[.slice AN1 r.N.length cN1, .slice Aa0 r.N.length ca0] (by rfl) rfl rfl (by (try simp only [List.map_toArray, List.map_cons, List.map_nil]); first | done | rfl) ?_
 have hsm := zh4 r.N r.N AN1 Aa0 cN1 ca0 _ (Kd.R_reads' RN1_3.out).2.2 (Kd.R_reads' RN1_3.out).2.1 Fa_3.out.get.1.C Fa_3.out.get.1.le
 rw [decide_eq_true rfl] at hsm
 refine hsm.mono ?_
 clear hsm
 rintro en w4 ⟨rfl, hb0⟩
 have hb := Drawn0.below hb0
 clear hb0
 have Ba_4 := as0 (z20 Ba_3.out hb)
 have Fa_4 := as0 (Fa_3.out.below hb)
 have RN1_4 := as0 (Kd.R_below RN1_3.out hb)
 have HB_4 := as0 (z10 HB_3.out hb)
 clear hb
 clear ya
 have ya := za0 Ba_4.out
 refine ⟨_, rfl, ?_⟩
 refine hK.out _ _ ⟨ya.1, ya.2.1, ya.2.2.1, ya.2.2.2.1, ya.2.2.2.2.1, ya.2.2.2.2.2.1, ya.2.2.2.2.2.2.1, ya.2.2.2.2.2.2.2.1⟩ (fun hHeld => ?_)
 clear hK K
 refine zh1 (a' := ?_) ?_ ?_
 rotate_left
 ·show Act.put _ (some 18) _ = _
  simp only [Act.put, lSI, lS0, lS1, ze0, zd0]
  rfl
 refine zl0 (i := 5) (N := some 19) (v := ?_) (a' := ?_) #[tt,tt,tt,tt,tt,tt,ff,ff,ff,ff,ff,ff,ff,ff,ff,ff,ff,ff,ff,ff,ff,ff,ff,ff,ff,ff,ff,ff,ff,ff,ff,ff,ff,ff,ff,ff,ff,ff,ff,ff,ff,ff,ff] rfl rfl (zh0 HT_.out (by kernel_rfl)) (fun _ _ _ h => h) (Or.inl ⟨by rfl, ?_⟩) ?_ ?_
 rotate_left
 ·intro w'
  go_simp
  with_reducible rfl
 rotate_left
 ·simp only [Act.put, lSI, lS0, lS1, ze0, zd0]
  rfl
 refine zl0 (i := 6) (N := some 20) (v := ?_) (a' := ?_) #[tt,tt,tt,tt,tt,tt,tt,ff,ff,ff,ff,ff,ff,ff,ff,ff,ff,ff,ff,ff,ff,ff,ff,ff,ff,ff,ff,ff,ff,ff,ff,ff,ff,ff,ff,ff,ff,ff,ff,ff,ff,ff,ff] rfl rfl (zh0 HT_.out (by kernel_rfl)) (fun _ _ _ h => h) (Or.inl ⟨by rfl, ?_⟩) ?_ ?_
 rotate_left
 ·intro w'
  go_simp
  with_reducible rfl
 rotate_left
 ·simp only [Act.put, lSI, lS0, lS1, ze0, zd0]
  rfl
 refine zl0 (i := 7) (N := some 21) (v := ?_) (a' := ?_) #[tt,tt,tt,tt,tt,tt,tt,tt,ff,ff,ff,ff,ff,ff,ff,ff,ff,ff,ff,ff,ff,ff,ff,ff,ff,ff,ff,ff,ff,ff,ff,ff,ff,ff,ff,ff,ff,ff,ff,ff,ff,ff,ff] rfl rfl (zh0 HT_.out (by kernel_rfl)) (fun _ _ _ h => h) (Or.inl ⟨by rfl, ?_⟩) ?_ ?_
 rotate_left
 ·intro w'
  go_simp
  with_reducible rfl
 rotate_left
 ·simp only [Act.put, lSI, lS0, lS1, ze0, zd0]
  rfl
 refine zl0 (i := 9) (N := some 23) (v := ?_) (a' := ?_) #[tt,tt,tt,tt,tt,tt,tt,tt,ff,tt,ff,ff,ff,ff,ff,ff,ff,ff,ff,ff,ff,ff,ff,ff,ff,ff,ff,ff,ff,ff,ff,ff,ff,ff,ff,ff,ff,ff,ff,ff,ff,ff,ff] rfl rfl (zh0 HT_.out (by kernel_rfl)) (fun _ _ _ h => h) (Or.inl ⟨by rfl, ?_⟩) ?_ ?_
 rotate_left
 ·intro w'
  go_simp
  with_reducible rfl
 rotate_left
 ·simp only [Act.put, lSI, lS0, lS1, ze0, zd0]
  rfl
 refine take_ (i := 10) (N := some 24) (v := ?_) (a' := ?_) #[tt,tt,tt,tt,tt,tt,tt,tt,ff,tt,tt,ff,ff,ff,ff,ff,ff,ff,ff,ff,ff,ff,ff,ff,ff,ff,ff,ff,ff,ff,ff,ff,ff,ff,ff,ff,ff,ff,ff,ff,ff,ff,ff] rfl rfl (zp0 HT_.out (by kernel_rfl)) (fun _ _ _ h => h) (Or.inl ⟨by rfl, ?_⟩) hHeld ?_ ?_
 rotate_left
 ·intro w' hS_
  obtain ⟨s0, s1, s2, s3, s4, s5, s6, s7⟩ := hS_
  go_simp
  with_reducible rfl
 rotate_left
 ·simp only [Act.put, lSI, lS0, lS1, ze0, zd0]
  rfl
 refine zx2 (i := 8) (N := some 22) #[tt,tt,tt,tt,tt,tt,tt,tt,tt,tt,tt,ff,ff,ff,ff,ff,ff,ff,ff,ff,ff,ff,ff,ff,ff,ff,ff,ff,ff,ff,ff,ff,ff,ff,ff,ff,ff,ff,ff,ff,ff,ff,ff] rfl rfl (z21 HT_.out (by kernel_rfl)) (by decide) (fun K hK => ?_)
 refine z02 Tryz.func34 (by kernel_rfl) rfl #[ptr g] (by rfl) rfl rfl (by (try simp only [List.map_toArray, List.map_cons, List.map_nil]); first | done | rfl) ?_
 refine (HSTS.out _ HB_4.out).mono ?_
 rintro en w5 ⟨v_, rfl, hr_, hb⟩
 obtain ⟨AS1, cS1, rfl⟩ := Kd.R_slice hr_
 have Ba_5 := as0 (z20 Ba_4.out hb)
 have Fa_5 := as0 (Fa_4.out.below hb)
 have HB_5 := as0 (z10 HB_4.out hb)
 have RS1_5 := as0 hr_
 clear hb hr_
 clear ya
 have ya := za0 Ba_5.out
 refine ⟨_, rfl, ?_⟩
 refine hK.out _ _ ⟨ya.1, ya.2.1, ya.2.2.1, ya.2.2.2.1, ya.2.2.2.2.1, ya.2.2.2.2.2.1, ya.2.2.2.2.2.2.1, ya.2.2.2.2.2.2.2.1⟩ (fun hHeld => ?_)
 clear hK K
 refine zh1 (a' := ?_) ?_ ?_
 rotate_left
 ·show Act.put _ (some 22) _ = _
  simp only [Act.put, lSI, lS0, lS1, ze0, zd0]
  rfl
 refine zx2 (i := 11) (N := some 25) #[tt,tt,tt,tt,tt,tt,tt,tt,tt,tt,tt,tt,ff,ff,ff,ff,ff,ff,ff,ff,ff,ff,ff,ff,ff,ff,ff,ff,ff,ff,ff,ff,ff,ff,ff,ff,ff,ff,ff,ff,ff,ff,ff] rfl rfl (z21 HT_.out (by kernel_rfl)) (by decide) (fun K hK => ?_)
 refine z02 Tryz.func33 (by kernel_rfl) rfl #[.slice AS1 r.S.length cS1, .slice Aa1 r.S.length ca1] (by rfl) rfl rfl (by (try simp only [List.map_toArray, List.map_cons, List.map_nil]); first | done | rfl) ?_
 have hsm := zza r.S r.S AS1 Aa1 cS1 ca1 _ (Kd.R_reads' RS1_5.out).2.2 (Kd.R_reads' RS1_5.out).2.1 Fa_5.out.get.2.1.C Fa_5.out.get.2.1.le
 rw [decide_eq_true rfl] at hsm
 refine hsm.mono ?_
 clear hsm
 rintro en w6 ⟨rfl, hb0⟩
 have hb := Drawn0.below hb0
 clear hb0
 have Ba_6 := as0 (z20 Ba_5.out hb)
 have Fa_6 := as0 (Fa_5.out.below hb)
 have RS1_6 := as0 (Kd.R_below RS1_5.out hb)
 have HB_6 := as0 (z10 HB_5.out hb)
 clear hb
 clear ya
 have ya := za0 Ba_6.out
 refine ⟨_, rfl, ?_⟩
 refine hK.out _ _ ⟨ya.1, ya.2.1, ya.2.2.1, ya.2.2.2.1, ya.2.2.2.2.1, ya.2.2.2.2.2.1, ya.2.2.2.2.2.2.1, ya.2.2.2.2.2.2.2.1⟩ (fun hHeld => ?_)
 clear hK K
 refine zh1 (a' := ?_) ?_ ?_
 rotate_left
 ·show Act.put _ (some 25) _ = _
  simp only [Act.put, lSI, lS0, lS1, ze0, zd0]
  rfl
 refine zl0 (i := 12) (N := some 26) (v := ?_) (a' := ?_) #[tt,tt,tt,tt,tt,tt,tt,tt,tt,tt,tt,tt,tt,ff,ff,ff,ff,ff,ff,ff,ff,ff,ff,ff,ff,ff,ff,ff,ff,ff,ff,ff,ff,ff,ff,ff,ff,ff,ff,ff,ff,ff,ff] rfl rfl (zh0 HT_.out (by kernel_rfl)) (fun _ _ _ h => h) (Or.inl ⟨by rfl, ?_⟩) ?_ ?_
 rotate_left
 ·intro w'
  go_simp
  with_reducible rfl
 rotate_left
 ·simp only [Act.put, lSI, lS0, lS1, ze0, zd0]
  rfl
 refine zl0 (i := 13) (N := some 27) (v := ?_) (a' := ?_) #[tt,tt,tt,tt,tt,tt,tt,tt,tt,tt,tt,tt,tt,tt,ff,ff,ff,ff,ff,ff,ff,ff,ff,ff,ff,ff,ff,ff,ff,ff,ff,ff,ff,ff,ff,ff,ff,ff,ff,ff,ff,ff,ff] rfl rfl (zh0 HT_.out (by kernel_rfl)) (fun _ _ _ h => h) (Or.inl ⟨by rfl, ?_⟩) ?_ ?_
 rotate_left
 ·intro w'
  go_simp
  with_reducible rfl
 rotate_left
 ·simp only [Act.put, lSI, lS0, lS1, ze0, zd0]
  rfl
 refine zl0 (i := 14) (N := some 28) (v := ?_) (a' := ?_) #[tt,tt,tt,tt,tt,tt,tt,tt,tt,tt,tt,tt,tt,tt,tt,ff,ff,ff,ff,ff,ff,ff,ff,ff,ff,ff,ff,ff,ff,ff,ff,ff,ff,ff,ff,ff,ff,ff,ff,ff,ff,ff,ff] rfl rfl (zh0 HT_.out (by kernel_rfl)) (fun _ _ _ h => h) (Or.inl ⟨by rfl, ?_⟩) ?_ ?_
 rotate_left
 ·intro w'
  go_simp
  with_reducible rfl
 rotate_left
 ·simp only [Act.put, lSI, lS0, lS1, ze0, zd0]
  rfl
 refine zl0 (i := 15) (N := some 29) (v := ?_) (a' := ?_) #[tt,tt,tt,tt,tt,tt,tt,tt,tt,tt,tt,tt,tt,tt,tt,tt,ff,ff,ff,ff,ff,ff,ff,ff,ff,ff,ff,ff,ff,ff,ff,ff,ff,ff,ff,ff,ff,ff,ff,ff,ff,ff,ff] rfl rfl (zh0 HT_.out (by kernel_rfl)) (fun _ _ _ h => h) (Or.inl ⟨by rfl, ?_⟩) ?_ ?_
 rotate_left
 ·intro w'
  go_simp
  with_reducible rfl
 rotate_left
 ·simp only [Act.put, lSI, lS0, lS1, ze0, zd0]
  rfl
 refine take_ (i := 17) (N := some 31) (v := ?_) (a' := ?_) #[tt,tt,tt,tt,tt,tt,tt,tt,tt,tt,tt,tt,tt,tt,tt,tt,ff,tt,ff,ff,ff,ff,ff,ff,ff,ff,ff,ff,ff,ff,ff,ff,ff,ff,ff,ff,ff,ff,ff,ff,ff,ff,ff] rfl rfl (zp0 HT_.out (by kernel_rfl)) (fun _ _ _ h => h) (Or.inl ⟨by rfl, ?_⟩) hHeld ?_ ?_
 rotate_left
 ·intro w' hS_
  obtain ⟨s0, s1, s2, s3, s4, s5, s6, s7⟩ := hS_
  go_simp
  with_reducible rfl
 rotate_left
 ·simp only [Act.put, lSI, lS0, lS1, ze0, zd0]
  rfl
 refine zx2 (i := 16) (N := some 30) #[tt,tt,tt,tt,tt,tt,tt,tt,tt,tt,tt,tt,tt,tt,tt,tt,tt,tt,ff,ff,ff,ff,ff,ff,ff,ff,ff,ff,ff,ff,ff,ff,ff,ff,ff,ff,ff,ff,ff,ff,ff,ff,ff] rfl rfl (z21 HT_.out (by kernel_rfl)) (by decide) (fun K hK => ?_)
 refine z02 Tryz.func15 (by kernel_rfl) rfl #[ptr g] (by rfl) rfl rfl (by (try simp only [List.map_toArray, List.map_cons, List.map_nil]); first | done | rfl) ?_
 refine (HCAP.out _ HB_6.out).mono ?_
 rintro en w7 ⟨rfl, hb⟩
 have Ba_7 := as0 (z20 Ba_6.out hb)
 have Fa_7 := as0 (Fa_6.out.below hb)
 have HB_7 := as0 (z10 HB_6.out hb)
 clear hb
 clear ya
 have ya := za0 Ba_7.out
 refine ⟨_, rfl, ?_⟩
 refine hK.out _ _ ⟨ya.1, ya.2.1, ya.2.2.1, ya.2.2.2.1, ya.2.2.2.2.1, ya.2.2.2.2.2.1, ya.2.2.2.2.2.2.1, ya.2.2.2.2.2.2.2.1⟩ (fun hHeld => ?_)
 clear hK K
 refine zh1 (a' := ?_) ?_ ?_
 rotate_left
 ·show Act.put _ (some 30) _ = _
  simp only [Act.put, lSI, lS0, lS1, ze0, zd0]
  rfl
 refine zx2 (i := 18) (N := some 32) #[tt,tt,tt,tt,tt,tt,tt,tt,tt,tt,tt,tt,tt,tt,tt,tt,tt,tt,tt,ff,ff,ff,ff,ff,ff,ff,ff,ff,ff,ff,ff,ff,ff,ff,ff,ff,ff,ff,ff,ff,ff,ff,ff] rfl rfl (z21 HT_.out (by kernel_rfl)) (by decide) (fun K hK => ?_)
 refine z02 Tryz.func35 (by kernel_rfl) rfl #[.agg #[.int .i64 r.each, .int .i64 r.guard, .slice Aa0 r.N.length ca0, .slice Aa1 r.S.length ca1, .slice Aa2 r.L.length ca2, .slice Aa3 r.d.w.length ca3, .slice Aa4 r.d.u.length ca4, .slice Aa5 r.d.a.length ca5]] (by rfl) rfl rfl (by (try simp only [List.map_toArray, List.map_cons, List.map_nil]); first | done | rfl) ?_
 refine (HRCP.out _ _ Fa_7.out).mono ?_
 rintro en w8 ⟨rfl, hb⟩
 have Ba_8 := as0 (z20 Ba_7.out hb)
 have Fa_8 := as0 (Fa_7.out.below hb)
 have HB_8 := as0 (z10 HB_7.out hb)
 clear hb
 clear ya
 have ya := za0 Ba_8.out
 refine ⟨_, rfl, ?_⟩
 refine hK.out _ _ ⟨ya.1, ya.2.1, ya.2.2.1, ya.2.2.2.1, ya.2.2.2.2.1, ya.2.2.2.2.2.1, ya.2.2.2.2.2.2.1, ya.2.2.2.2.2.2.2.1⟩ (fun hHeld => ?_)
 clear hK K
 refine zh1 (a' := ?_) ?_ ?_
 rotate_left
 ·show Act.put _ (some 32) _ = _
  simp only [Act.put, lSI, lS0, lS1, ze0, zd0]
  rfl
 refine zl0 (i := 19) (N := some 33) (v := ?_) (a' := ?_) #[tt,tt,tt,tt,tt,tt,tt,tt,tt,tt,tt,tt,tt,tt,tt,tt,tt,tt,tt,tt,ff,ff,ff,ff,ff,ff,ff,ff,ff,ff,ff,ff,ff,ff,ff,ff,ff,ff,ff,ff,ff,ff,ff] rfl rfl (zh0 HT_.out (by kernel_rfl)) (fun _ _ _ h => h) (Or.inl ⟨by rfl, ?_⟩) ?_ ?_
 rotate_left
 ·intro w'
  go_simp
  with_reducible rfl
 rotate_left
 ·simp only [Act.put, lSI, lS0, lS1, ze0, zd0]
  rfl
 refine zl0 (i := 20) (N := some 34) (v := ?_) (a' := ?_) #[tt,tt,tt,tt,tt,tt,tt,tt,tt,tt,tt,tt,tt,tt,tt,tt,tt,tt,tt,tt,tt,ff,ff,ff,ff,ff,ff,ff,ff,ff,ff,ff,ff,ff,ff,ff,ff,ff,ff,ff,ff,ff,ff] rfl rfl (zh0 HT_.out (by kernel_rfl)) (fun _ _ _ h => h) (Or.inl ⟨by rfl, ?_⟩) ?_ ?_
 rotate_left
 ·intro w'
  go_simp
  with_reducible rfl
 rotate_left
 ·simp only [Act.put, lSI, lS0, lS1, ze0, zd0]
  rfl
 refine zl0 (i := 21) (N := some 35) (v := ?_) (a' := ?_) #[tt,tt,tt,tt,tt,tt,tt,tt,tt,tt,tt,tt,tt,tt,tt,tt,tt,tt,tt,tt,tt,tt,ff,ff,ff,ff,ff,ff,ff,ff,ff,ff,ff,ff,ff,ff,ff,ff,ff,ff,ff,ff,ff] rfl rfl (zh0 HT_.out (by kernel_rfl)) (fun _ _ _ h => h) (Or.inl ⟨by rfl, ?_⟩) ?_ ?_
 rotate_left
 ·intro w'
  go_simp
  with_reducible rfl
 rotate_left
 ·simp only [Act.put, lSI, lS0, lS1, ze0, zd0]
  rfl
 refine zl0 (i := 22) (N := some 36) (v := ?_) (a' := ?_) #[tt,tt,tt,tt,tt,tt,tt,tt,tt,tt,tt,tt,tt,tt,tt,tt,tt,tt,tt,tt,tt,tt,tt,ff,ff,ff,ff,ff,ff,ff,ff,ff,ff,ff,ff,ff,ff,ff,ff,ff,ff,ff,ff] rfl rfl (zh0 HT_.out (by kernel_rfl)) (fun _ _ _ h => h) (Or.inl ⟨by rfl, ?_⟩) ?_ ?_
 rotate_left
 ·intro w'
  go_simp
  with_reducible rfl
 rotate_left
 ·simp only [Act.put, lSI, lS0, lS1, ze0, zd0]
  rfl
 refine zl0 (i := 23) (N := some 37) (v := ?_) (a' := ?_) #[tt,tt,tt,tt,tt,tt,tt,tt,tt,tt,tt,tt,tt,tt,tt,tt,tt,tt,tt,tt,tt,tt,tt,tt,ff,ff,ff,ff,ff,ff,ff,ff,ff,ff,ff,ff,ff,ff,ff,ff,ff,ff,ff] rfl rfl (zh0 HT_.out (by kernel_rfl)) (fun _ _ _ h => h) (Or.inl ⟨by rfl, ?_⟩) ?_ ?_
 rotate_left
 ·intro w'
  go_simp
  with_reducible rfl
 rotate_left
 ·simp only [Act.put, lSI, lS0, lS1, ze0, zd0]
  rfl
 refine zl0 (i := 25) (N := some 39) (v := ?_) (a' := ?_) #[tt,tt,tt,tt,tt,tt,tt,tt,tt,tt,tt,tt,tt,tt,tt,tt,tt,tt,tt,tt,tt,tt,tt,tt,ff,tt,ff,ff,ff,ff,ff,ff,ff,ff,ff,ff,ff,ff,ff,ff,ff,ff,ff] rfl rfl (zh0 HT_.out (by kernel_rfl)) (fun _ _ _ h => h) (Or.inl ⟨by rfl, ?_⟩) ?_ ?_
 rotate_left
 ·intro w'
  go_simp
  with_reducible rfl
 rotate_left
 ·simp only [Act.put, lSI, lS0, lS1, ze0, zd0]
  rfl
 refine zl0 (i := 27) (N := some 41) (v := ?_) (a' := ?_) #[tt,tt,tt,tt,tt,tt,tt,tt,tt,tt,tt,tt,tt,tt,tt,tt,tt,tt,tt,tt,tt,tt,tt,tt,ff,tt,ff,tt,ff,ff,ff,ff,ff,ff,ff,ff,ff,ff,ff,ff,ff,ff,ff] rfl rfl (zh0 HT_.out (by kernel_rfl)) (fun _ _ _ h => h) (Or.inl ⟨by rfl, ?_⟩) ?_ ?_
 rotate_left
 ·intro w'
  go_simp
  with_reducible rfl
 rotate_left
 ·simp only [Act.put, lSI, lS0, lS1, ze0, zd0]
  rfl
 refine take_ (i := 26) (N := some 40) (v := ?_) (a' := ?_) #[tt,tt,tt,tt,tt,tt,tt,tt,tt,tt,tt,tt,tt,tt,tt,tt,tt,tt,tt,tt,tt,tt,tt,tt,ff,tt,tt,tt,ff,ff,ff,ff,ff,ff,ff,ff,ff,ff,ff,ff,ff,ff,ff] rfl rfl (zp0 HT_.out (by kernel_rfl)) (fun _ _ _ h => h) (Or.inl ⟨by rfl, ?_⟩) hHeld ?_ ?_
 rotate_left
 ·intro w' hS_
  obtain ⟨s0, s1, s2, s3, s4, s5, s6, s7⟩ := hS_
  go_simp
  with_reducible rfl
 rotate_left
 ·simp only [Act.put, lSI, lS0, lS1, ze0, zd0]
  rfl
 refine zx2 (i := 24) (N := some 38) #[tt,tt,tt,tt,tt,tt,tt,tt,tt,tt,tt,tt,tt,tt,tt,tt,tt,tt,tt,tt,tt,tt,tt,tt,tt,tt,tt,tt,ff,ff,ff,ff,ff,ff,ff,ff,ff,ff,ff,ff,ff,ff,ff] rfl rfl (z21 HT_.out (by kernel_rfl)) (by decide) (fun K hK => ?_)
 refine z02 Tryz.func36 (by kernel_rfl) rfl #[ptr g, .int .i64 t] (by rfl) rfl rfl (by (try simp only [List.map_toArray, List.map_cons, List.map_nil]); first | done | rfl) ?_
 refine (HDUE.out _ HB_8.out).mono ?_
 rintro en w9 ⟨v_, rfl, hr_, hb⟩
 obtain ⟨AD1, cD1, rfl⟩ := Kd.R_slice hr_
 have Ba_9 := as0 (z20 Ba_8.out hb)
 have Fa_9 := as0 (Fa_8.out.below hb)
 have HB_9 := as0 (z10 HB_8.out hb)
 have RD1_9 := as0 hr_
 clear hb hr_
 clear ya
 have ya := za0 Ba_9.out
 refine ⟨_, rfl, ?_⟩
 refine hK.out _ _ ⟨ya.1, ya.2.1, ya.2.2.1, ya.2.2.2.1, ya.2.2.2.2.1, ya.2.2.2.2.2.1, ya.2.2.2.2.2.2.1, ya.2.2.2.2.2.2.2.1⟩ (fun hHeld => ?_)
 clear hK K
 refine zh1 (a' := ?_) ?_ ?_
 rotate_left
 ·show Act.put _ (some 38) _ = _
  simp only [Act.put, lSI, lS0, lS1, ze0, zd0]
  rfl
 refine zx2 (i := 28) (N := some 42) #[tt,tt,tt,tt,tt,tt,tt,tt,tt,tt,tt,tt,tt,tt,tt,tt,tt,tt,tt,tt,tt,tt,tt,tt,tt,tt,tt,tt,tt,ff,ff,ff,ff,ff,ff,ff,ff,ff,ff,ff,ff,ff,ff] rfl rfl (z21 HT_.out (by kernel_rfl)) (by decide) (fun K hK => ?_)
 refine z02 Tryz.func37 (by kernel_rfl) rfl #[.agg #[.slice Aa3 r.d.w.length ca3, .slice Aa4 r.d.u.length ca4, .slice Aa5 r.d.a.length ca5], .int .i64 t] (by rfl) rfl rfl (by (try simp only [List.map_toArray, List.map_cons, List.map_nil]); first | done | rfl) ?_
 refine (HRDU.out _ _ _ _ _ _ _ _ _ Fa_9.out).mono ?_
 rintro en w10 ⟨v_, rfl, hr_, hb⟩
 obtain ⟨AD2, cD2, rfl⟩ := Kd.R_slice hr_
 have Ba_10 := as0 (z20 Ba_9.out hb)
 have Fa_10 := as0 (Fa_9.out.below hb)
 have RD1_10 := as0 (Kd.R_below RD1_9.out hb)
 have HB_10 := as0 (z10 HB_9.out hb)
 have RD2_10 := as0 hr_
 clear hb hr_
 clear ya
 have ya := za0 Ba_10.out
 refine ⟨_, rfl, ?_⟩
 refine hK.out _ _ ⟨ya.1, ya.2.1, ya.2.2.1, ya.2.2.2.1, ya.2.2.2.2.1, ya.2.2.2.2.2.1, ya.2.2.2.2.2.2.1, ya.2.2.2.2.2.2.2.1⟩ (fun hHeld => ?_)
 clear hK K
 refine zh1 (a' := ?_) ?_ ?_
 rotate_left
 ·show Act.put _ (some 42) _ = _
  simp only [Act.put, lSI, lS0, lS1, ze0, zd0]
  rfl
 refine zx2 (i := 29) (N := some 43) #[tt,tt,tt,tt,tt,tt,tt,tt,tt,tt,tt,tt,tt,tt,tt,tt,tt,tt,tt,tt,tt,tt,tt,tt,tt,tt,tt,tt,tt,tt,ff,ff,ff,ff,ff,ff,ff,ff,ff,ff,ff,ff,ff] rfl rfl (z21 HT_.out (by kernel_rfl)) (by decide) (fun K hK => ?_)
 refine z02 Tryz.func31 (by kernel_rfl) rfl #[.slice AD1 du.length cD1, .slice AD2 du.length cD2] (by rfl) rfl rfl (by (try simp only [List.map_toArray, List.map_cons, List.map_nil]); first | done | rfl) ?_
 have hsm := zh4 du du AD1 AD2 cD1 cD2 _ (Kd.R_reads' RD1_10.out).2.2 (Kd.R_reads' RD1_10.out).2.1 (Kd.R_reads' RD2_10.out).2.2 (Kd.R_reads' RD2_10.out).2.1
 rw [decide_eq_true rfl] at hsm
 refine hsm.mono ?_
 clear hsm
 rintro en w11 ⟨rfl, hb0⟩
 have hb := Drawn0.below hb0
 clear hb0
 have Ba_11 := as0 (z20 Ba_10.out hb)
 have Fa_11 := as0 (Fa_10.out.below hb)
 have RD1_11 := as0 (Kd.R_below RD1_10.out hb)
 have RD2_11 := as0 (Kd.R_below RD2_10.out hb)
 have HB_11 := as0 (z10 HB_10.out hb)
 clear hb
 clear ya
 have ya := za0 Ba_11.out
 refine ⟨_, rfl, ?_⟩
 refine hK.out _ _ ⟨ya.1, ya.2.1, ya.2.2.1, ya.2.2.2.1, ya.2.2.2.2.1, ya.2.2.2.2.2.1, ya.2.2.2.2.2.2.1, ya.2.2.2.2.2.2.2.1⟩ (fun hHeld => ?_)
 clear hK K
 refine zh1 (a' := ?_) ?_ ?_
 rotate_left
 ·show Act.put _ (some 43) _ = _
  simp only [Act.put, lSI, lS0, lS1, ze0, zd0]
  rfl
 refine zl0 (i := 30) (N := some 44) (v := ?_) (a' := ?_) #[tt,tt,tt,tt,tt,tt,tt,tt,tt,tt,tt,tt,tt,tt,tt,tt,tt,tt,tt,tt,tt,tt,tt,tt,tt,tt,tt,tt,tt,tt,tt,ff,ff,ff,ff,ff,ff,ff,ff,ff,ff,ff,ff] rfl rfl (zh0 HT_.out (by kernel_rfl)) (fun _ _ _ h => h) (Or.inl ⟨by rfl, ?_⟩) ?_ ?_
 rotate_left
 ·intro w'
  go_simp
  with_reducible rfl
 rotate_left
 ·simp only [Act.put, lSI, lS0, lS1, ze0, zd0]
  rfl
 refine zl0 (i := 31) (N := some 45) (v := ?_) (a' := ?_) #[tt,tt,tt,tt,tt,tt,tt,tt,tt,tt,tt,tt,tt,tt,tt,tt,tt,tt,tt,tt,tt,tt,tt,tt,tt,tt,tt,tt,tt,tt,tt,tt,ff,ff,ff,ff,ff,ff,ff,ff,ff,ff,ff] rfl rfl (zh0 HT_.out (by kernel_rfl)) (fun _ _ _ h => h) (Or.inl ⟨by rfl, ?_⟩) ?_ ?_
 rotate_left
 ·intro w'
  go_simp
  with_reducible rfl
 rotate_left
 ·simp only [Act.put, lSI, lS0, lS1, ze0, zd0]
  rfl
 refine zl0 (i := 32) (N := some 46) (v := ?_) (a' := ?_) #[tt,tt,tt,tt,tt,tt,tt,tt,tt,tt,tt,tt,tt,tt,tt,tt,tt,tt,tt,tt,tt,tt,tt,tt,tt,tt,tt,tt,tt,tt,tt,tt,tt,ff,ff,ff,ff,ff,ff,ff,ff,ff,ff] rfl rfl (zh0 HT_.out (by kernel_rfl)) (fun _ _ _ h => h) (Or.inl ⟨by rfl, ?_⟩) ?_ ?_
 rotate_left
 ·intro w'
  go_simp
  with_reducible rfl
 rotate_left
 ·simp only [Act.put, lSI, lS0, lS1, ze0, zd0]
  rfl
 refine zl0 (i := 33) (N := some 47) (v := ?_) (a' := ?_) #[tt,tt,tt,tt,tt,tt,tt,tt,tt,tt,tt,tt,tt,tt,tt,tt,tt,tt,tt,tt,tt,tt,tt,tt,tt,tt,tt,tt,tt,tt,tt,tt,tt,tt,ff,ff,ff,ff,ff,ff,ff,ff,ff] rfl rfl (zh0 HT_.out (by kernel_rfl)) (fun _ _ _ h => h) (Or.inl ⟨by rfl, ?_⟩) ?_ ?_
 rotate_left
 ·intro w'
  go_simp
  with_reducible rfl
 rotate_left
 ·simp only [Act.put, lSI, lS0, lS1, ze0, zd0]
  rfl
 refine zl0 (i := 34) (N := some 48) (v := ?_) (a' := ?_) #[tt,tt,tt,tt,tt,tt,tt,tt,tt,tt,tt,tt,tt,tt,tt,tt,tt,tt,tt,tt,tt,tt,tt,tt,tt,tt,tt,tt,tt,tt,tt,tt,tt,tt,tt,ff,ff,ff,ff,ff,ff,ff,ff] rfl rfl (zh0 HT_.out (by kernel_rfl)) (fun _ _ _ h => h) (Or.inl ⟨by rfl, ?_⟩) ?_ ?_
 rotate_left
 ·intro w'
  go_simp
  with_reducible rfl
 rotate_left
 ·simp only [Act.put, lSI, lS0, lS1, ze0, zd0]
  rfl
 refine zl0 (i := 36) (N := some 50) (v := ?_) (a' := ?_) #[tt,tt,tt,tt,tt,tt,tt,tt,tt,tt,tt,tt,tt,tt,tt,tt,tt,tt,tt,tt,tt,tt,tt,tt,tt,tt,tt,tt,tt,tt,tt,tt,tt,tt,tt,ff,tt,ff,ff,ff,ff,ff,ff] rfl rfl (zh0 HT_.out (by kernel_rfl)) (fun _ _ _ h => h) (Or.inl ⟨by rfl, ?_⟩) ?_ ?_
 rotate_left
 ·intro w'
  go_simp
  with_reducible rfl
 rotate_left
 ·simp only [Act.put, lSI, lS0, lS1, ze0, zd0]
  rfl
 refine zl0 (i := 37) (N := some 51) (v := ?_) (a' := ?_) #[tt,tt,tt,tt,tt,tt,tt,tt,tt,tt,tt,tt,tt,tt,tt,tt,tt,tt,tt,tt,tt,tt,tt,tt,tt,tt,tt,tt,tt,tt,tt,tt,tt,tt,tt,ff,tt,tt,ff,ff,ff,ff,ff] rfl rfl (zh0 HT_.out (by kernel_rfl)) (fun _ _ _ h => h) (Or.inl ⟨by rfl, ?_⟩) ?_ ?_
 rotate_left
 ·intro w'
  go_simp
  with_reducible rfl
 rotate_left
 ·simp only [Act.put, lSI, lS0, lS1, ze0, zd0]
  rfl
 refine zl0 (i := 39) (N := some 53) (v := ?_) (a' := ?_) #[tt,tt,tt,tt,tt,tt,tt,tt,tt,tt,tt,tt,tt,tt,tt,tt,tt,tt,tt,tt,tt,tt,tt,tt,tt,tt,tt,tt,tt,tt,tt,tt,tt,tt,tt,ff,tt,tt,ff,tt,ff,ff,ff] rfl rfl (zh0 HT_.out (by kernel_rfl)) (fun _ _ _ h => h) (Or.inl ⟨by rfl, ?_⟩) ?_ ?_
 rotate_left
 ·intro w'
  go_simp
  with_reducible rfl
 rotate_left
 ·simp only [Act.put, lSI, lS0, lS1, ze0, zd0]
  rfl
 refine take_ (i := 38) (N := some 52) (v := ?_) (a' := ?_) #[tt,tt,tt,tt,tt,tt,tt,tt,tt,tt,tt,tt,tt,tt,tt,tt,tt,tt,tt,tt,tt,tt,tt,tt,tt,tt,tt,tt,tt,tt,tt,tt,tt,tt,tt,ff,tt,tt,tt,tt,ff,ff,ff] rfl rfl (zp0 HT_.out (by kernel_rfl)) (fun _ _ _ h => h) (Or.inl ⟨by rfl, ?_⟩) hHeld ?_ ?_
 rotate_left
 ·intro w' hS_
  obtain ⟨s0, s1, s2, s3, s4, s5, s6, s7⟩ := hS_
  go_simp
  with_reducible rfl
 rotate_left
 ·simp only [Act.put, lSI, lS0, lS1, ze0, zd0]
  rfl
 refine zx2 (i := 35) (N := some 49) #[tt,tt,tt,tt,tt,tt,tt,tt,tt,tt,tt,tt,tt,tt,tt,tt,tt,tt,tt,tt,tt,tt,tt,tt,tt,tt,tt,tt,tt,tt,tt,tt,tt,tt,tt,tt,tt,tt,tt,tt,ff,ff,ff] rfl rfl (z21 HT_.out (by kernel_rfl)) (by decide) (fun K hK => ?_)
 refine z02 Tryz.func14 (by kernel_rfl) rfl #[ptr g, .string nm] (by rfl) rfl rfl (by (try simp only [List.map_toArray, List.map_cons, List.map_nil]); first | done | rfl) ?_
 refine (HAHD.out _ HB_11.out).mono ?_
 rintro en w12 ⟨rfl, hb⟩
 have Ba_12 := as0 (z20 Ba_11.out hb)
 have Fa_12 := as0 (Fa_11.out.below hb)
 have HB_12 := as0 (z10 HB_11.out hb)
 clear hb
 clear ya
 have ya := za0 Ba_12.out
 refine ⟨_, rfl, ?_⟩
 refine hK.out _ _ ⟨ya.1, ya.2.1, ya.2.2.1, ya.2.2.2.1, ya.2.2.2.2.1, ya.2.2.2.2.2.1, ya.2.2.2.2.2.2.1, ya.2.2.2.2.2.2.2.1⟩ (fun hHeld => ?_)
 clear hK K
 refine zh1 (a' := ?_) ?_ ?_
 rotate_left
 ·show Act.put _ (some 49) _ = _
  simp only [Act.put, lSI, lS0, lS1, ze0, zd0]
  rfl
 refine zx2 (i := 40) (N := some 54) #[tt,tt,tt,tt,tt,tt,tt,tt,tt,tt,tt,tt,tt,tt,tt,tt,tt,tt,tt,tt,tt,tt,tt,tt,tt,tt,tt,tt,tt,tt,tt,tt,tt,tt,tt,tt,tt,tt,tt,tt,tt,ff,ff] rfl rfl (z21 HT_.out (by kernel_rfl)) (by decide) (fun K hK => ?_)
 refine z02 Tryz.func38 (by kernel_rfl) rfl #[.slice Aa3 r.d.w.length ca3, .string nm] (by rfl) rfl rfl (by (try simp only [List.map_toArray, List.map_cons, List.map_nil]); first | done | rfl) ?_
 refine (HPL.out _ _ _ _ _ _ _ _ _ Fa_12.out).mono ?_
 rintro en w13 ⟨rfl, hb⟩
 have Ba_13 := as0 (z20 Ba_12.out hb)
 have Fa_13 := as0 (Fa_12.out.below hb)
 have HB_13 := as0 (z10 HB_12.out hb)
 clear hb
 clear ya
 have ya := za0 Ba_13.out
 refine ⟨_, rfl, ?_⟩
 refine hK.out _ _ ⟨ya.1, ya.2.1, ya.2.2.1, ya.2.2.2.1, ya.2.2.2.2.1, ya.2.2.2.2.2.1, ya.2.2.2.2.2.2.1, ya.2.2.2.2.2.2.2.1⟩ (fun hHeld => ?_)
 clear hK K
 refine zh1 (a' := ?_) ?_ ?_
 rotate_left
 ·show Act.put _ (some 54) _ = _
  simp only [Act.put, lSI, lS0, lS1, ze0, zd0]
  rfl
 refine zl0 (i := 41) (N := some 55) (v := ?_) (a' := ?_) #[tt,tt,tt,tt,tt,tt,tt,tt,tt,tt,tt,tt,tt,tt,tt,tt,tt,tt,tt,tt,tt,tt,tt,tt,tt,tt,tt,tt,tt,tt,tt,tt,tt,tt,tt,tt,tt,tt,tt,tt,tt,tt,ff] rfl rfl (zh0 HT_.out (by kernel_rfl)) (fun _ _ _ h => h) (Or.inl ⟨by rfl, ?_⟩) ?_ ?_
 rotate_left
 ·intro w'
  go_simp
  with_reducible rfl
 rotate_left
 ·simp only [Act.put, lSI, lS0, lS1, ze0, zd0]
  rfl
 refine zl0 (i := 42) (N := some 56) (v := ?_) (a' := ?_) #[tt,tt,tt,tt,tt,tt,tt,tt,tt,tt,tt,tt,tt,tt,tt,tt,tt,tt,tt,tt,tt,tt,tt,tt,tt,tt,tt,tt,tt,tt,tt,tt,tt,tt,tt,tt,tt,tt,tt,tt,tt,tt,tt] rfl rfl (zh0 HT_.out (by kernel_rfl)) (fun _ _ _ h => h) (Or.inl ⟨by rfl, ?_⟩) ?_ ?_
 rotate_left
 ·intro w'
  go_simp
  with_reducible rfl
 rotate_left
 ·simp only [Act.put, lSI, lS0, lS1, ze0, zd0]
  rfl
 refine zr2 (zg1 HT_.out (by kernel_rfl)) ?_
 clear hHeld
 go_wp2
 clear ya
 go_loopw [9] (fun v9 wr => ∃ k : Nat, k ≤ s.hs.length ∧ v9 = .int .i64 (k : Int) ∧ Aside0 (wr.heap[ga]? = some (.cells #[.int .i64 r.each, .int .i64 r.guard, .slice Aa0 r.N.length ca0, .slice Aa1 r.S.length ca1, .slice Aa2 r.L.length ca2, .slice Aa3 r.d.w.length ca3, .slice Aa4 r.d.u.length ca4, .slice Aa5 r.d.a.length ca5] 33 (0, 0))) ∧ Aside0 (FR b wr (.agg #[.int .i64 r.each, .int .i64 r.guard, .slice Aa0 r.N.length ca0, .slice Aa1 r.S.length ca1, .slice Aa2 r.L.length ca2, .slice Aa3 r.d.w.length ca3, .slice Aa4 r.d.u.length ca4, .slice Aa5 r.d.a.length ca5]) r) ∧ Aside0 (Below w.heap.size w wr)) (fun v9 _ => s.hs.length - (intOf v9).toNat)
 case atStart => exact ⟨0, Nat.zero_le _, rfl, Ba_13, Fa_13, HB_13⟩
 case round =>
  obtain ⟨k, hk, rfl, Ba_40, Fa_40, HB_40⟩ := hrel
  by_cases hlt : k < s.hs.length
  ·obtain ⟨x, hx⟩ : ∃ x, s.hs[k]? = some x := ⟨_, List.getElem?_eq_getElem hlt⟩
   obtain ⟨y0, y1, y2, y3⟩ := z63 hx
   rw [← HR.out] at y0 y1 y2 y3
   have HX := as0 y0
   have HY := as0 y1
   have HZ := as0 y2
   have hkm : k ≤ 300000 := by omega
   have hkI : (k : Int) < (r.N.length : Int) := by omega
   have hkS : (k : Int) < (r.S.length : Int) := by have := HRB.out.s; omega
   have hkL : (k : Int) < (r.L.length : Int) := by have := HRB.out.l; omega
   have hk0 : (0 : Int) ≤ (k : Int) := by omega
   have HS1 := as0 (fun (W : World) (h : Below w.heap.size w W) => HSTA.out W h x.nm)
   have HL1 := as0 (fun (W : World) (h : Below w.heap.size w W) => HLVS.out W h x.nm)
   obtain ⟨sx, lx⟩ := state_x HG.out hx
   rw [sx] at HS1
   rw [lx] at HL1
   clear sx lx hx y0 y1 y2 y3
   obtain ⟨adNa, hA_, -⟩ := Fa_40.out.adN HX.out
   subst hA_
   obtain ⟨adSa, hA_, -⟩ := Fa_40.out.adS HY.out
   subst hA_
   obtain ⟨adLa, hA_, -⟩ := Fa_40.out.adL HZ.out
   subst hA_
   obtain ⟨xn, hxn⟩ : ∃ q, q = x.nm := ⟨_, rfl⟩
   obtain ⟨xt, hxt⟩ : ∃ q, q = x.st := ⟨_, rfl⟩
   obtain ⟨lv, hlv⟩ : ∃ q, q = x.lv := ⟨_, rfl⟩
   rw [← hxn] at HX HS1 HL1
   rw [← hxt] at HY HS1
   rw [← hlv] at HZ HL1
   clear hxn hxt hlv
   have hb1 : (xt != xt) = false := by simp
   have hb2 : (lv != lv) = false := by simp
   have ya := za0 Ba_40.out
   have xn_ := Fa_40.out.atN HX.out
   have xs := Fa_40.out.atS HY.out
   have xl := Fa_40.out.atL HZ.out
   go_upto_region 7 with (first
  | (go_at_call 39; (with_reducible refine (HS1.out _ HB_40.out).mono ?_); rintro e w41 ⟨rfl, hb⟩; have Ba_41 := as0 (z20 Ba_40.out hb); have Fa_41 := as0 (Fa_40.out.below hb); have HB_41 := as0 (z10 HB_40.out hb); clear hb; clear ya xn_ xs xl; have ya := za0 Ba_41.out; have xn_ := Fa_41.out.atN HX.out; have xs := Fa_41.out.atS HY.out; have xl := Fa_41.out.atL HZ.out))
   refine zy1 (n := 26) (S := fun w' => w'.cell? ⟨ga, 0, none⟩ = some (.int .i64 r.each) ∧ w'.cell? ⟨ga, 1, none⟩ = some (.int .i64 r.guard) ∧ w'.cell? ⟨ga, 2, none⟩ = some (.slice (some adNa) r.N.length ca0) ∧ w'.cell? ⟨ga, 3, none⟩ = some (.slice (some adSa) r.S.length ca1) ∧ w'.cell? ⟨ga, 4, none⟩ = some (.slice (some adLa) r.L.length ca2) ∧ w'.cell? ⟨ga, 5, none⟩ = some (.slice Aa3 r.d.w.length ca3) ∧ w'.cell? ⟨ga, 6, none⟩ = some (.slice Aa4 r.d.u.length ca4) ∧ w'.cell? ⟨ga, 7, none⟩ = some (.slice Aa5 r.d.a.length ca5) ∧ w'.cell? (adNa.add k) = some (.string xn) ∧ w'.cell? (adSa.add k) = some (.int .i64 xt) ∧ w'.cell? (adLa.add k) = some (.bool lv)) (ds := []) #[ff,ff,ff,ff,ff,ff,ff,ff,ff,ff,ff,ff,ff,ff,ff,ff,ff,ff,ff,ff,ff,ff,ff,ff,ff,ff] (by kernel_rfl) rfl rfl ⟨ya.1, ya.2.1, ya.2.2.1, ya.2.2.2.1, ya.2.2.2.2.1, ya.2.2.2.2.2.1, ya.2.2.2.2.2.2.1, ya.2.2.2.2.2.2.2.1, xn_, xs, xl⟩ (fun hHeld => ?_); refine zc1 rw10.tab7 (fun HT_ => ?_)
   obtain ⟨w42, hw_⟩ : ∃ W, W = w41.drew := ⟨_, rfl⟩
   rw [← hw_] at hHeld ⊢
   have hb : Below w41.heap.size w41 w42 := by rw [hw_]; exact z50 (Below.refl _ _)
   have Ba_42 := as0 (z20 Ba_41.out hb)
   have Fa_42 := as0 (Fa_41.out.below hb)
   have HB_42 := as0 (z10 HB_41.out hb)
   clear hb hw_
   clear ya xn_ xs xl
   have ya := za0 Ba_42.out
   have xn_ := Fa_42.out.atN HX.out
   have xs := Fa_42.out.atS HY.out
   have xl := Fa_42.out.atL HZ.out
   refine zl0 (i := 0) (N := some 74) (v := ?_) (a' := ?_) #[tt,ff,ff,ff,ff,ff,ff,ff,ff,ff,ff,ff,ff,ff,ff,ff,ff,ff,ff,ff,ff,ff,ff,ff,ff,ff] rfl rfl (zh0 HT_.out (by kernel_rfl)) (fun _ _ _ h => h) (Or.inl ⟨by rfl, ?_⟩) ?_ ?_
   rotate_left
   ·intro w'
    go_simp
    with_reducible rfl
   rotate_left
   ·simp only [Act.put, lSI, lS0, lS1, ze0, zd0]
    rfl
   refine zl0 (i := 1) (N := some 75) (v := ?_) (a' := ?_) #[tt,tt,ff,ff,ff,ff,ff,ff,ff,ff,ff,ff,ff,ff,ff,ff,ff,ff,ff,ff,ff,ff,ff,ff,ff,ff] rfl rfl (zh0 HT_.out (by kernel_rfl)) (fun _ _ _ h => h) (Or.inl ⟨by rfl, ?_⟩) ?_ ?_
   rotate_left
   ·intro w'
    go_simp
    with_reducible rfl
   rotate_left
   ·simp only [Act.put, lSI, lS0, lS1, ze0, zd0]
    rfl
   refine zl0 (i := 3) (N := some 77) (v := ?_) (a' := ?_) #[tt,tt,ff,tt,ff,ff,ff,ff,ff,ff,ff,ff,ff,ff,ff,ff,ff,ff,ff,ff,ff,ff,ff,ff,ff,ff] rfl rfl (zh0 HT_.out (by kernel_rfl)) (fun _ _ _ h => h) (Or.inl ⟨by rfl, ?_⟩) ?_ ?_
   rotate_left
   ·intro w'
    go_simp
    with_reducible rfl
   rotate_left
   ·simp only [Act.put, lSI, lS0, lS1, ze0, zd0]
    rfl
   refine take_ (i := 2) (N := some 76) (v := ?_) (a' := ?_) #[tt,tt,tt,tt,ff,ff,ff,ff,ff,ff,ff,ff,ff,ff,ff,ff,ff,ff,ff,ff,ff,ff,ff,ff,ff,ff] rfl rfl (zp0 HT_.out (by kernel_rfl)) (fun _ _ _ h => h) (Or.inl ⟨by rfl, ?_⟩) hHeld ?_ ?_
   rotate_left
   ·intro w' hS_
    obtain ⟨s0, s1, s2, s3, s4, s5, s6, s7, s8, s9, s10⟩ := hS_
    go_simp
    with_reducible rfl
   rotate_left
   ·simp only [Act.put, lSI, lS0, lS1, ze0, zd0]
    rfl
   refine zl0 (i := 4) (N := some 78) (v := ?_) (a' := ?_) #[tt,tt,tt,tt,tt,ff,ff,ff,ff,ff,ff,ff,ff,ff,ff,ff,ff,ff,ff,ff,ff,ff,ff,ff,ff,ff] rfl rfl (zh0 HT_.out (by kernel_rfl)) (fun _ _ _ h => h) (Or.inl ⟨by rfl, ?_⟩) ?_ ?_
   rotate_left
   ·intro w'
    go_simp
    with_reducible rfl
   rotate_left
   ·simp only [Act.put, lSI, lS0, lS1, ze0, zd0]
    rfl
   refine take_ (i := 5) (N := some 79) (v := ?_) (a' := ?_) #[tt,tt,tt,tt,tt,tt,ff,ff,ff,ff,ff,ff,ff,ff,ff,ff,ff,ff,ff,ff,ff,ff,ff,ff,ff,ff] rfl rfl (zp0 HT_.out (by kernel_rfl)) (fun _ _ _ h => h) (Or.inl ⟨by rfl, ?_⟩) hHeld ?_ ?_
   rotate_left
   ·intro w' hS_
    obtain ⟨s0, s1, s2, s3, s4, s5, s6, s7, s8, s9, s10⟩ := hS_
    go_simp
    with_reducible rfl
   rotate_left
   ·simp only [Act.put, lSI, lS0, lS1, ze0, zd0]
    rfl
   refine zl0 (i := 6) (N := some 80) (v := ?_) (a' := ?_) #[tt,tt,tt,tt,tt,tt,tt,ff,ff,ff,ff,ff,ff,ff,ff,ff,ff,ff,ff,ff,ff,ff,ff,ff,ff,ff] rfl rfl (zh0 HT_.out (by kernel_rfl)) (fun _ _ _ h => h) (Or.inl ⟨by rfl, ?_⟩) ?_ ?_
   rotate_left
   ·intro w'
    go_simp
    with_reducible rfl
   rotate_left
   ·simp only [Act.put, lSI, lS0, lS1, ze0, zd0]
    rfl
   refine zl0 (i := 7) (N := some 81) (v := ?_) (a' := ?_) #[tt,tt,tt,tt,tt,tt,tt,tt,ff,ff,ff,ff,ff,ff,ff,ff,ff,ff,ff,ff,ff,ff,ff,ff,ff,ff] rfl rfl (zh0 HT_.out (by kernel_rfl)) (fun _ _ _ h => h) (Or.inl ⟨by rfl, ?_⟩) ?_ ?_
   rotate_left
   ·intro w'
    go_simp
    with_reducible rfl
   rotate_left
   ·simp only [Act.put, lSI, lS0, lS1, ze0, zd0]
    rfl
   refine zl0 (i := 8) (N := some 82) (v := ?_) (a' := ?_) #[tt,tt,tt,tt,tt,tt,tt,tt,tt,ff,ff,ff,ff,ff,ff,ff,ff,ff,ff,ff,ff,ff,ff,ff,ff,ff] rfl rfl (zh0 HT_.out (by kernel_rfl)) (fun _ _ _ h => h) (Or.inl ⟨by rfl, ?_⟩) ?_ ?_
   rotate_left
   ·intro w'
    go_simp
    with_reducible rfl
   rotate_left
   ·simp only [Act.put, lSI, lS0, lS1, ze0, zd0]
    rfl
   refine zl0 (i := 9) (N := some 83) (v := ?_) (a' := ?_) #[tt,tt,tt,tt,tt,tt,tt,tt,tt,tt,ff,ff,ff,ff,ff,ff,ff,ff,ff,ff,ff,ff,ff,ff,ff,ff] rfl rfl (zh0 HT_.out (by kernel_rfl)) (fun _ _ _ h => h) (Or.inl ⟨by rfl, ?_⟩) ?_ ?_
   rotate_left
   ·intro w'
    go_simp
    with_reducible rfl
   rotate_left
   ·simp only [Act.put, lSI, lS0, lS1, ze0, zd0]
    rfl
   refine zl0 (i := 10) (N := some 84) (v := ?_) (a' := ?_) #[tt,tt,tt,tt,tt,tt,tt,tt,tt,tt,tt,ff,ff,ff,ff,ff,ff,ff,ff,ff,ff,ff,ff,ff,ff,ff] rfl rfl (zh0 HT_.out (by kernel_rfl)) (fun _ _ _ h => h) (Or.inl ⟨by rfl, ?_⟩) ?_ ?_
   rotate_left
   ·intro w'
    go_simp
    with_reducible rfl
   rotate_left
   ·simp only [Act.put, lSI, lS0, lS1, ze0, zd0]
    rfl
   refine zl0 (i := 11) (N := some 85) (v := ?_) (a' := ?_) #[tt,tt,tt,tt,tt,tt,tt,tt,tt,tt,tt,tt,ff,ff,ff,ff,ff,ff,ff,ff,ff,ff,ff,ff,ff,ff] rfl rfl (zh0 HT_.out (by kernel_rfl)) (fun _ _ _ h => h) (Or.inl ⟨by rfl, ?_⟩) ?_ ?_
   rotate_left
   ·intro w'
    go_simp
    with_reducible rfl
   rotate_left
   ·simp only [Act.put, lSI, lS0, lS1, ze0, zd0]
    rfl
   refine zl0 (i := 12) (N := some 86) (v := ?_) (a' := ?_) #[tt,tt,tt,tt,tt,tt,tt,tt,tt,tt,tt,tt,tt,ff,ff,ff,ff,ff,ff,ff,ff,ff,ff,ff,ff,ff] rfl rfl (zh0 HT_.out (by kernel_rfl)) (fun _ _ _ h => h) (Or.inl ⟨by rfl, ?_⟩) ?_ ?_
   rotate_left
   ·intro w'
    go_simp
    with_reducible rfl
   rotate_left
   ·simp only [Act.put, lSI, lS0, lS1, ze0, zd0]
    rfl
   refine zl0 (i := 13) (N := some 87) (v := ?_) (a' := ?_) #[tt,tt,tt,tt,tt,tt,tt,tt,tt,tt,tt,tt,tt,tt,ff,ff,ff,ff,ff,ff,ff,ff,ff,ff,ff,ff] rfl rfl (zh0 HT_.out (by kernel_rfl)) (fun _ _ _ h => h) (Or.inl ⟨by rfl, ?_⟩) ?_ ?_
   rotate_left
   ·intro w'
    go_simp
    with_reducible rfl
   rotate_left
   ·simp only [Act.put, lSI, lS0, lS1, ze0, zd0]
    rfl
   refine zl0 (i := 15) (N := some 89) (v := ?_) (a' := ?_) #[tt,tt,tt,tt,tt,tt,tt,tt,tt,tt,tt,tt,tt,tt,ff,tt,ff,ff,ff,ff,ff,ff,ff,ff,ff,ff] rfl rfl (zh0 HT_.out (by kernel_rfl)) (fun _ _ _ h => h) (Or.inl ⟨by rfl, ?_⟩) ?_ ?_
   rotate_left
   ·intro w'
    go_simp
    with_reducible rfl
   rotate_left
   ·simp only [Act.put, lSI, lS0, lS1, ze0, zd0]
    rfl
   refine zl0 (i := 19) (N := some 93) (v := ?_) (a' := ?_) #[tt,tt,tt,tt,tt,tt,tt,tt,tt,tt,tt,tt,tt,tt,ff,tt,ff,ff,ff,tt,ff,ff,ff,ff,ff,ff] rfl rfl (zh0 HT_.out (by kernel_rfl)) (fun _ _ _ h => h) (Or.inl ⟨by rfl, ?_⟩) ?_ ?_
   rotate_left
   ·intro w'
    go_simp
    with_reducible rfl
   rotate_left
   ·simp only [Act.put, lSI, lS0, lS1, ze0, zd0]
    rfl
   refine zl0 (i := 21) (N := some 95) (v := ?_) (a' := ?_) #[tt,tt,tt,tt,tt,tt,tt,tt,tt,tt,tt,tt,tt,tt,ff,tt,ff,ff,ff,tt,ff,tt,ff,ff,ff,ff] rfl rfl (zh0 HT_.out (by kernel_rfl)) (fun _ _ _ h => h) (Or.inl ⟨by rfl, ?_⟩) ?_ ?_
   rotate_left
   ·intro w'
    go_simp
    with_reducible rfl
   rotate_left
   ·simp only [Act.put, lSI, lS0, lS1, ze0, zd0]
    rfl
   refine take_ (i := 14) (N := some 88) (v := ?_) (a' := ?_) #[tt,tt,tt,tt,tt,tt,tt,tt,tt,tt,tt,tt,tt,tt,tt,tt,ff,ff,ff,tt,ff,tt,ff,ff,ff,ff] rfl rfl (zp0 HT_.out (by kernel_rfl)) (fun _ _ _ h => h) (Or.inl ⟨by rfl, ?_⟩) hHeld ?_ ?_
   rotate_left
   ·intro w' hS_
    obtain ⟨s0, s1, s2, s3, s4, s5, s6, s7, s8, s9, s10⟩ := hS_
    go_simp
    with_reducible rfl
   rotate_left
   ·simp only [Act.put, lSI, lS0, lS1, ze0, zd0]
    rfl
   refine zl0 (i := 16) (N := some 90) (v := ?_) (a' := ?_) #[tt,tt,tt,tt,tt,tt,tt,tt,tt,tt,tt,tt,tt,tt,tt,tt,tt,ff,ff,tt,ff,tt,ff,ff,ff,ff] rfl rfl (zh0 HT_.out (by kernel_rfl)) (fun _ _ _ h => h) (Or.inl ⟨by rfl, ?_⟩) ?_ ?_
   rotate_left
   ·intro w'
    go_simp
    with_reducible rfl
   rotate_left
   ·simp only [Act.put, lSI, lS0, lS1, ze0, zd0]
    rfl
   refine take_ (i := 17) (N := some 91) (v := ?_) (a' := ?_) #[tt,tt,tt,tt,tt,tt,tt,tt,tt,tt,tt,tt,tt,tt,tt,tt,tt,tt,ff,tt,ff,tt,ff,ff,ff,ff] rfl rfl (zp0 HT_.out (by kernel_rfl)) (fun _ _ _ h => h) (Or.inl ⟨by rfl, ?_⟩) hHeld ?_ ?_
   rotate_left
   ·intro w' hS_
    obtain ⟨s0, s1, s2, s3, s4, s5, s6, s7, s8, s9, s10⟩ := hS_
    go_simp
    with_reducible rfl
   rotate_left
   ·simp only [Act.put, lSI, lS0, lS1, ze0, zd0]
    rfl
   refine take_ (i := 20) (N := some 94) (v := ?_) (a' := ?_) #[tt,tt,tt,tt,tt,tt,tt,tt,tt,tt,tt,tt,tt,tt,tt,tt,tt,tt,ff,tt,tt,tt,ff,ff,ff,ff] rfl rfl (zp0 HT_.out (by kernel_rfl)) (fun _ _ _ h => h) (Or.inl ⟨by rfl, ?_⟩) hHeld ?_ ?_
   rotate_left
   ·intro w' hS_
    obtain ⟨s0, s1, s2, s3, s4, s5, s6, s7, s8, s9, s10⟩ := hS_
    go_simp
    with_reducible rfl
   rotate_left
   ·simp only [Act.put, lSI, lS0, lS1, ze0, zd0]
    rfl
   refine zl0 (i := 22) (N := some 96) (v := ?_) (a' := ?_) #[tt,tt,tt,tt,tt,tt,tt,tt,tt,tt,tt,tt,tt,tt,tt,tt,tt,tt,ff,tt,tt,tt,tt,ff,ff,ff] rfl rfl (zh0 HT_.out (by kernel_rfl)) (fun _ _ _ h => h) (Or.inl ⟨by rfl, ?_⟩) ?_ ?_
   rotate_left
   ·intro w'
    go_simp
    with_reducible rfl
   rotate_left
   ·simp only [Act.put, lSI, lS0, lS1, ze0, zd0]
    rfl
   refine take_ (i := 23) (N := some 97) (v := ?_) (a' := ?_) #[tt,tt,tt,tt,tt,tt,tt,tt,tt,tt,tt,tt,tt,tt,tt,tt,tt,tt,ff,tt,tt,tt,tt,tt,ff,ff] rfl rfl (zp0 HT_.out (by kernel_rfl)) (fun _ _ _ h => h) (Or.inl ⟨by rfl, ?_⟩) hHeld ?_ ?_
   rotate_left
   ·intro w' hS_
    obtain ⟨s0, s1, s2, s3, s4, s5, s6, s7, s8, s9, s10⟩ := hS_
    go_simp
    with_reducible rfl
   rotate_left
   ·simp only [Act.put, lSI, lS0, lS1, ze0, zd0]
    rfl
   refine zx2 (i := 18) (N := some 92) #[tt,tt,tt,tt,tt,tt,tt,tt,tt,tt,tt,tt,tt,tt,tt,tt,tt,tt,tt,tt,tt,tt,tt,tt,ff,ff] rfl rfl (z21 HT_.out (by kernel_rfl)) (by decide) (fun K hK => ?_)
   refine z02 Tryz.func40 (by kernel_rfl) rfl #[ptr g, .string xn] (by rfl) rfl rfl (by (try simp only [List.map_toArray, List.map_cons, List.map_nil]); first | done | rfl) ?_
   refine (HL1.out _ HB_42.out).mono ?_
   rintro e w43 ⟨rfl, hb⟩
   have Ba_43 := as0 (z20 Ba_42.out hb)
   have Fa_43 := as0 (Fa_42.out.below hb)
   have HB_43 := as0 (z10 HB_42.out hb)
   clear hb
   clear ya xn_ xs xl
   have ya := za0 Ba_43.out
   have xn_ := Fa_43.out.atN HX.out
   have xs := Fa_43.out.atS HY.out
   have xl := Fa_43.out.atL HZ.out
   refine ⟨_, rfl, ?_⟩
   refine hK.out _ _ ⟨ya.1, ya.2.1, ya.2.2.1, ya.2.2.2.1, ya.2.2.2.2.1, ya.2.2.2.2.2.1, ya.2.2.2.2.2.2.1, ya.2.2.2.2.2.2.2.1, xn_, xs, xl⟩ (fun hHeld => ?_)
   clear hK K
   refine zh1 (a' := ?_) ?_ ?_
   rotate_left
   ·show Act.put _ (some 92) _ = _
    simp only [Act.put, lSI, lS0, lS1, ze0, zd0]
    rfl
   refine zl0 (i := 24) (N := some 98) (v := ?_) (a' := ?_) #[tt,tt,tt,tt,tt,tt,tt,tt,tt,tt,tt,tt,tt,tt,tt,tt,tt,tt,tt,tt,tt,tt,tt,tt,tt,ff] rfl rfl (zh0 HT_.out (by kernel_rfl)) (fun _ _ _ h => h) (Or.inl ⟨by rfl, ?_⟩) ?_ ?_
   rotate_left
   ·intro w'
    go_simp
    with_reducible rfl
   rotate_left
   ·simp only [Act.put, lSI, lS0, lS1, ze0, zd0]
    rfl
   refine zl0 (i := 25) (N := some 99) (v := ?_) (a' := ?_) #[tt,tt,tt,tt,tt,tt,tt,tt,tt,tt,tt,tt,tt,tt,tt,tt,tt,tt,tt,tt,tt,tt,tt,tt,tt,tt] rfl rfl (zh0 HT_.out (by kernel_rfl)) (fun _ _ _ h => h) (Or.inl ⟨by rfl, ?_⟩) ?_ ?_
   rotate_left
   ·intro w'
    go_simp
    with_reducible rfl
   rotate_left
   ·simp only [Act.put, lSI, lS0, lS1, ze0, zd0]
    rfl
   refine zr2 (zg1 HT_.out (by kernel_rfl)) ?_
   clear hHeld
   go_wp2
   go_roundw
   case measure => simp [intOf]; omega
   case rel => exact ⟨k + 1, by omega, by rw [show ((k : Int) + 1) = ((k + 1 : Nat) : Int) by omega], Ba_43, Fa_43, HB_43⟩
  ·have hkI : ¬ (k : Int) < (r.N.length : Int) := by have := HNL.out; omega
   have HS1 := as0 (fun (W : World) (h : Below w.heap.size w W) => HSTA.out W h nm)
   have HL1 := as0 (fun (W : World) (h : Below w.heap.size w W) => HLVS.out W h nm)
   clear hk hlt
   rcases zx3 s.hs nm with ⟨hlook, hpos⟩ | ⟨i, x, hlook, hpos, hx, hxnm⟩
   ·have hst : stateV s nm = (0, false) := by unfold stateV; rw [hlook]
    rw [hst] at HS1
    rw [hpos] at HAt
    have hlv : leavesV s nm = false := by unfold leavesV; rw [hlook]
    rw [hlv] at HL1
    clear hlv
    clear hst hlook hpos
    have ya := za0 Ba_40.out
    go_wp2_with (first
  | (go_at_call 39; (with_reducible refine (HS1.out _ HB_40.out).mono ?_); rintro e w41 ⟨rfl, hb⟩; have Ba_41 := as0 (z20 Ba_40.out hb); have Fa_41 := as0 (Fa_40.out.below hb); have HB_41 := as0 (z10 HB_40.out hb); clear hb; clear ya; have ya := za0 Ba_41.out)
  | (go_at_call 41; (with_reducible refine (HAt.out _ _ Fa_41.out).mono ?_); rintro e w42 ⟨rfl, hb⟩; have Ba_42 := as0 (z20 Ba_41.out hb); have Fa_42 := as0 (Fa_41.out.below hb); have HB_42 := as0 (z10 HB_41.out hb); clear hb; clear ya; have ya := za0 Ba_42.out)
  | (go_at_call 40; (with_reducible refine (HL1.out _ HB_42.out).mono ?_); rintro e w43 ⟨rfl, hb⟩; have Ba_43 := as0 (z20 Ba_42.out hb); have Fa_43 := as0 (Fa_42.out.below hb); have HB_43 := as0 (z10 HB_42.out hb); clear hb; clear ya; have ya := za0 Ba_43.out))
    go_ret
    exact ⟨rfl, HB_43.out⟩
   ·have hst : stateV s nm = (x.st, true) := by unfold stateV; rw [hlook]
    rw [hst] at HS1
    rw [hpos] at HAt
    generalize x.st = xt at HS1
    have hge : decide (0 ≤ (i : Int)) = true := decide_eq_true (by omega)
    clear hst hlook hpos hx hxnm
    have ya := za0 Ba_40.out
    go_wp2_with (first
  | (go_at_call 39; (with_reducible refine (HS1.out _ HB_40.out).mono ?_); rintro e w41 ⟨rfl, hb⟩; have Ba_41 := as0 (z20 Ba_40.out hb); have Fa_41 := as0 (Fa_40.out.below hb); have HB_41 := as0 (z10 HB_40.out hb); clear hb; clear ya; have ya := za0 Ba_41.out)
  | (go_at_call 41; (with_reducible refine (HAt.out _ _ Fa_41.out).mono ?_); rintro e w42 ⟨rfl, hb⟩; have Ba_42 := as0 (z20 Ba_41.out hb); have Fa_42 := as0 (Fa_41.out.below hb); have HB_42 := as0 (z10 HB_41.out hb); clear hb; clear ya; have ya := za0 Ba_42.out))
    go_ret
    exact ⟨rfl, HB_42.out⟩
end
end
end Go.Proofs.YtmlmiocomlehgaaGreat.Man
end
section
namespace Go.Proofs.YtmlmiocomlehgaaGreat.Man
open Go.RowKit Go.Proofs.YtmlmiocomlehgaaGreatW.PrintWords Go.Proofs.YtmlmiocomlehgaaGreatW.PrintLast Go.Proofs.YtmlmiocomlehgaaGreatW.PrintMore Go.Proofs.YtmlmiocomlehgaaGreat.PA Go.Proofs.YtmlmiocomlehgaaGreat.PF Go.Proofs.YtmlmiocomlehgaaGreat.Hid Go.Proofs.YtmlmiocomlehgaaGreat.Na Go.Proofs.YtmlmiocomlehgaaGreat.Nil
section
attribute [local go_sem] zt1 zv1 zd2 zb2
structure HS where
 f0 : Int
 f1 : Int
 f2 : ByteArray
 A : Option Addr
 n : Nat
 c : Nat
def kHd : Kd (Option Addr × Nat × Nat) := Kd.scalar (fun h => .slice h.1 h.2.1 h.2.2) (fun _ => rfl)
def kH : Kd HS := Kd.iso (Kd.pair (Kd.int .i64) (Kd.pair (Kd.int .i64) (Kd.pair Kd.string kHd))) (fun x : HS => (x.f0, x.f1, x.f2, (x.A, x.n, x.c)))
def hcells (x : HS) : List Value := [.int .i64 x.f0, .int .i64 x.f1, .string x.f2, .slice x.A x.n x.c]
theorem kH_open {w : World} {x : HS} {cs : List Value} (h : kH.K w x cs) : cs = hcells x := by
 obtain ⟨c0, r0, rfl, h0, c1, r1, rfl, h1, c2, r2, rfl, h2, h3⟩ := h
 have e0 : c0 = [.int .i64 x.f0] := h0
 have e1 : c1 = [.int .i64 x.f1] := h1
 have e2 : c2 = [.string x.f2] := h2
 have e3 : r2 = [.slice x.A x.n x.c] := h3
 subst e0 e1 e2 e3
 rfl
theorem kH_mk (w : World) (x : HS) : kH.K w x (hcells x) := ⟨[.int .i64 x.f0], [.int .i64 x.f1, .string x.f2, .slice x.A x.n x.c], rfl, rfl, ⟨[.int .i64 x.f1], [.string x.f2, .slice x.A x.n x.c], rfl, rfl, ⟨[.string x.f2], [.slice x.A x.n x.c], rfl, rfl, rfl⟩⟩⟩
theorem kH_mkM (w : World) (base : Nat) (ok : Nat → Prop) (x : HS) : kH.M w base ok x (hcells x) := ⟨[.int .i64 x.f0], [.int .i64 x.f1, .string x.f2, .slice x.A x.n x.c], rfl, rfl, ⟨[.int .i64 x.f1], [.string x.f2, .slice x.A x.n x.c], rfl, rfl, ⟨[.string x.f2], [.slice x.A x.n x.c], rfl, rfl, rfl⟩⟩⟩
theorem at_TH {w : World} {A : Option Addr} {xs : List HS} (h : Kd.C kH w A xs.length xs) {i : Nat} {x : HS} (hx : xs[i]? = some x) : ∃ ad, A = some ad ∧ w.cell? (ad.add (i * 4)) = some (.int .i64 x.f0) ∧ w.cell? ⟨(ad.add (i * 4)).block, (ad.add (i * 4)).off + 1, none⟩ = some (.int .i64 x.f1) ∧ w.cell? ⟨(ad.add (i * 4)).block, (ad.add (i * 4)).off + 2, none⟩ = some (.string x.f2) ∧ w.cell? ⟨(ad.add (i * 4)).block, (ad.add (i * 4)).off + 3, none⟩ = some (.slice x.A x.n x.c) := by
 have hlt := (List.getElem?_eq_some_iff.1 hx).1
 obtain ⟨_, _, h2⟩ := h
 obtain ⟨ad, rfl, hc⟩ := h2 (by omega)
 obtain ⟨cs, _, hk, hcell⟩ := hc i x hx
 obtain rfl := kH_open hk
 exact ⟨ad, rfl, hcell 0 _ rfl, by rw [← z43 _ _ 1 (by omega)]; exact hcell 1 _ rfl, by rw [← z43 _ _ 2 (by omega)]; exact hcell 2 _ rfl, by rw [← z43 _ _ 3 (by omega)]; exact hcell 3 _ rfl⟩
def cutH (x : HS) : HS := ⟨x.f0, x.f1, x.f2.extract 0 (min x.f2.size 20), x.A, min x.n 20, x.c⟩
theorem zac (xs : List HS) (A : Option Addr) (c : Nat) (w : World) (hC : Kd.C kH w A xs.length xs) (hc : xs.length ≤ c) (hn : ∀ x ∈ xs, x.n ≤ x.c) :
  Calls Tryz.prog 6 #[.slice A xs.length c] w fun e w' => ∃ v, e = .returned v ∧ Kd.R kH 36 w' w.heap.size (fun _ => True) v ((xs.take 80).map cutH) ∧ Below w.heap.size w w' := by
 have HC := as0 hC
 have HNC := as0 hn
 have hlm : xs.length ≤ 9223372036854775807 := hC.2.1
 obtain ⟨es, hes⟩ : ∃ e, e = (xs.take 80).map cutH := ⟨_, rfl⟩
 rw [← hes]
 have HES := as0 hes
 clear hC hn hes
 go_enter Tryz.func6, Tryz.ntmps6
 go_wp2
 go_loopw [3, 4] (fun v3 v4 wr => ∃ k : Nat, v4 = .int .i64 (k : Int) ∧ k ≤ xs.length ∧ k ≤ 80 ∧ Aside0 (Kd.R kH 36 wr w.heap.size (fun _ => True) v3 ((xs.take k).map cutH)) ∧ Aside0 (Below w.heap.size w wr)) (fun _ v4 _ => xs.length - (intOf v4).toNat)
 case atStart => exact ⟨0, rfl, Nat.zero_le _, Nat.zero_le _, ⟨by simpa using Kd.R_nil _ _ _ _ _⟩, ⟨Below.refl _ _⟩⟩
 case round =>
  obtain ⟨k, rfl, hkl, hk80, HO, HB⟩ := hrel
  by_cases hlt : k < xs.length
  ·have hkI : (k : Int) < (xs.length : Int) := by omega
   by_cases h80 : k < 80
   ·obtain ⟨Ao, no, rfl⟩ := Kd.R_slice HO.out
    have h80I : (k : Int) < 80 := by omega
    obtain ⟨x, hx⟩ : ∃ x, xs[k]? = some x := ⟨_, List.getElem?_eq_getElem hlt⟩
    obtain ⟨ad, had, hx0, hx1, hx2, hx3⟩ := at_TH (Kd.C_below HC.out HB.out) hx
    subst had
    have hk0 : (0 : Int) ≤ (k : Int) := by omega
    obtain ⟨m5, hm5⟩ : ∃ m : Nat, m = min x.f2.size 20 := ⟨_, rfl⟩
    obtain ⟨m6, hm6⟩ : ∃ m : Nat, m = min x.n 20 := ⟨_, rfl⟩
    have hj5 : (if (20 : Int) < (x.f2.size : Int) then (20 : Int) else (x.f2.size : Int)) = (m5 : Int) := by split <;> omega
    have hj6 : (if (20 : Int) < (x.n : Int) then (20 : Int) else (x.n : Int)) = (m6 : Int) := by split <;> omega
    have h5a : m5 ≤ x.f2.size := by omega
    have h6a : m6 ≤ x.n := by omega
    have h6c : x.n ≤ x.c := HNC.out x (List.mem_of_getElem? hx)
    have h6d : m6 ≤ x.c := by omega
    have HX := as0 hx
    have HM5 := as0 hm5
    have HM6 := as0 hm6
    have HY : Aside0 ((xs.take (k + 1)).map cutH = (xs.take k).map cutH ++ [⟨x.f0, x.f1, x.f2.extract 0 m5, x.A, m6, x.c⟩]) := ⟨by
     rw [List.take_add_one, hx, hm5, hm6]
     simp [cutH]⟩
    have hyl : ((xs.take k).map cutH).length ≤ 80 := by simp; omega
    generalize (xs.take k).map cutH = ys at HO HY hyl
    have HYL := as0 hyl
    clear hx hm5 hm6 hyl
    go_wp2_with ((with_reducible refine zm0 (b := .append) (xs := #[.tmp 36, .tmp 38]) rfl ?_); (try (refine z41 (by rfl) ?_; dsimp only)); at_builtin; refine Kd.R_append kH (w0 := w) w.heap.size rfl (.tmp 36) (.tmp 38) 22 36 (.agg #[(.int .i64 0), (.int .i64 0), (.string ⟨#[]⟩), (.slice none 0 0)]) 56 rfl Tryz.underlying22 info36 rfl (by decide) (by omega) (.slice Ao ys.length no) ys ⟨x.f0, x.f1, x.f2.extract 0 m5, x.A, m6, x.c⟩ [.int .i64 x.f0, .int .i64 x.f1, .string (x.f2.extract 0 m5), .slice x.A m6 x.c] (fun _ => True) (fun _ => False) rfl ?aX ?aP (fun _ h => h.elim) (fun _ _ => trivial) ?aO ?aB ?aS ?aL ?_; (case aX => (show Value.slice (some ⟨wr.heap.size + 1, 0, none⟩) 1 1 = _; simp)); (case aP => exact kH_mkM _ _ _ ⟨x.f0, x.f1, x.f2.extract 0 m5, x.A, m6, x.c⟩); (case aO => exact Kd.R_alloc HO.out _); (case aB => exact z80 HB.out _); (case aS => have := HB.out.size; simp; omega); (case aL => have := HYL.out; omega); intro v5 w5 ho hb hg hat; have HO5 := as0 ho; have HB5 := as0 hb; clear ho hb hg hat)
    go_roundw
    case measure => simp [intOf]; omega
    case rel => exact ⟨k + 1, by rw [show ((k : Int) + 1) = ((k + 1 : Nat) : Int) by omega], by omega, by omega, ⟨by rw [HY.out]; exact HO5.out⟩, HB5⟩
   ·have h80I : ¬ (k : Int) < 80 := by omega
    have hke : k = 80 := by omega
    subst hke
    rw [← HES.out] at HO
    obtain ⟨Ao, no, rfl⟩ := Kd.R_slice HO.out
    go_wp2
    go_ret
    exact ⟨_, rfl, HO.out, HB.out⟩
  ·have hkI : ¬ (k : Int) < (xs.length : Int) := by omega
   have hke : k = xs.length := by omega
   have he : (xs.take k).map cutH = es := by rw [HES.out, hke, List.take_length, List.take_of_length_le (show xs.length ≤ 80 by omega)]
   rw [he] at HO
   obtain ⟨Ao, no, rfl⟩ := Kd.R_slice HO.out
   clear he
   go_wp2
   go_ret
   exact ⟨_, rfl, HO.out, HB.out⟩
end
section
def Script (w : World) (es : List HS) : Prop := (es.length ≤ 80 ∧ ∀ e ∈ es, e.f2.size ≤ 20) ∧ ∀ (k : Nat) (e : HS), es[k]? = some e → ∃ hk : List ByteArray, hk.length = e.n ∧ e.n ≤ e.c ∧ (∀ x ∈ hk, x.size ≤ maxLen) ∧ ∀ W, Below w.heap.size w W → Kd.C Kd.string W e.A hk.length hk
theorem list_ofS {α : Type} {Q : Nat → α → Prop} : ∀ n, (∀ i, i < n → ∃ a, Q i a) → ∃ xs : List α, xs.length = n ∧ ∀ j p, xs[j]? = some p → Q j p := by
 intro n
 induction n with
 | zero => exact fun _ => ⟨[], rfl, fun j p h => by simp at h⟩
 | succ n ih =>
  intro h
  obtain ⟨xs, hl, hx⟩ := ih (fun i hi => h i (by omega))
  obtain ⟨a, ha⟩ := h n (by omega)
  refine ⟨xs ++ [a], by simp [hl], fun j p hj => ?_⟩
  by_cases hjn : j < n
  ·rw [List.getElem?_append_left (by omega)] at hj
   exact hx j p hj
  ·rw [List.getElem?_append_right (by omega)] at hj
   have : j = n := by
    have := List.getElem?_eq_some_iff.1 hj
    obtain ⟨h1, _⟩ := this
    simp at h1
    omega
   subst this
   rw [hl] at hj
   have e : a = p := by simpa using hj
   exact e ▸ ha
def OfStep (w : World) (x : HS) (y : S36) : Prop := x.n = y.f3.length ∧ x.n ≤ x.c ∧ Kd.string.C w x.A y.f3.length y.f3
theorem headers {w : World} {A : Option Addr} {l : List S36} (hC : Kd.C k36 w A l.length l) : ∃ xs : List HS, xs.length = l.length ∧ Kd.C kH w A xs.length xs ∧ ∀ (i : Nat) (x : HS), xs[i]? = some x → ∃ y, l[i]? = some y ∧ OfStep w x y := by
 obtain ⟨_, hm, hr⟩ := hC
 by_cases h0 : l.length = 0
 ·refine ⟨[], h0.symm, ⟨rfl, Nat.zero_le _, fun h => absurd h (by simp)⟩, fun i x hx => by simp at hx⟩
 ·obtain ⟨ad, rfl, hc⟩ := hr (by omega)
  obtain ⟨xs, hl, hx⟩ := list_ofS (Q := fun i (x : HS) => (∃ y, l[i]? = some y ∧ OfStep w x y) ∧ ∀ j u, (hcells x)[j]? = some u → w.cell? (ad.add (i * 4 + j)) = some u) l.length (fun i hi => by
   obtain ⟨cs, _, hk, hcell⟩ := hc i l[i] (List.getElem?_eq_getElem hi)
   obtain ⟨A3, c3, rfl, hl3, hC3⟩ := k36_open hk
   exact ⟨⟨l[i].f0, l[i].f1, l[i].f2, A3, l[i].f3.length, c3⟩, ⟨l[i], List.getElem?_eq_getElem hi, rfl, hl3, hC3⟩, hcell⟩)
  refine ⟨xs, hl, ⟨rfl, by rw [hl]; exact hm, fun _ => ⟨ad, rfl, fun j p hp => ⟨hcells p, rfl, kH_mk w p, (hx j p hp).2⟩⟩⟩, fun i x h => (hx i x h).1⟩
theorem zvc (A : Option Addr) (c : Nat) (l : List S36) (w : World) (hC : Kd.C k36 w A l.length l) (hc : l.length ≤ c) (hs : ∀ y ∈ l, ∀ x ∈ y.f3, x.size ≤ maxLen) :
  ∃ es, Script w es ∧ ∀ W, Below w.heap.size w W → Calls Tryz.prog 6 #[.slice A l.length c] W fun e w' => ∃ v, e = .returned v ∧ Kd.R kH 36 w' W.heap.size (fun _ => True) v es ∧ Below W.heap.size W w' := by
 obtain ⟨xs, hl, hCx, hx⟩ := headers hC
 refine ⟨(xs.take 80).map cutH, ⟨⟨?_, fun e he => by
  obtain ⟨x, _, rfl⟩ := List.mem_map.1 he
  show (x.f2.extract 0 (min x.f2.size 20)).size ≤ 20
  rw [ByteArray.size_extract]
  omega⟩, fun k e he => ?_⟩, fun W hb => ?_⟩
 ·simp
  omega
 ·rw [List.getElem?_map] at he
  obtain ⟨x, hx1, rfl⟩ := Option.map_eq_some_iff.1 he
  have hx2 : xs[k]? = some x := by
   rw [List.getElem?_take] at hx1
   split at hx1
   ·exact hx1
   ·cases hx1
  obtain ⟨y, hy, h1, h2, h3⟩ := hx k x hx2
  refine ⟨y.f3.take (min x.n 20), ?_, ?_, fun z hz => hs y (List.mem_of_getElem? hy) z (List.mem_of_mem_take hz), fun W hb => Kd.C_below (Kd.C_take h3 (by omega)) hb⟩
  ·show (y.f3.take (min x.n 20)).length = min x.n 20
   rw [List.length_take]
   omega
  ·show min x.n 20 ≤ x.c
   omega
 ·have := zac xs A c W (Kd.C_below hCx hb) (by omega) (fun x hxm => by
   obtain ⟨i, hi⟩ := List.getElem?_of_mem hxm
   obtain ⟨y, _, _, h2, _⟩ := hx i x hi
   exact h2)
  rw [hl] at this
  exact this
theorem kH_tf : ∀ q, q ∈ 36 :: kH.E → q ∉ TF := by
 intro q hq
 have : q = 36 := by simpa [kH, kHd, Kd.iso, Kd.pair, Kd.int, Kd.string, Kd.scalar] using hq
 subst this
 decide
end
end Go.Proofs.YtmlmiocomlehgaaGreat.Man
end
section
namespace Go.Proofs.YtmlmiocomlehgaaGreat.Man
open Go.RowKit Go.Proofs.YtmlmiocomlehgaaGreatW.PrintWords Go.Proofs.YtmlmiocomlehgaaGreatW.PrintLast Go.Proofs.YtmlmiocomlehgaaGreatW.PrintMore Go.Proofs.YtmlmiocomlehgaaGreat.PA Go.Proofs.YtmlmiocomlehgaaGreat.PR Go.Proofs.YtmlmiocomlehgaaGreat.PF Go.Proofs.YtmlmiocomlehgaaGreat.Na Go.Proofs.YtmlmiocomlehgaaGreat.Hid Go.Proofs.YtmlmiocomlehgaaGreat.Nil
section
theorem z16 (l : List ByteArray) (dl : Int) : ∀ (hs : List HV) (s : FS), (leftL l dl hs s).1.each = s.each ∧ (leftL l dl hs s).1.guard = s.guard
 | [], s => ⟨rfl, rfl⟩
 | x :: hs, s => by
  unfold leftL
  split
  ·exact z16 l dl hs s
  ·obtain ⟨h1, h2⟩ := z16 l dl hs (leaveF s x dl)
   have h3 : (leaveF s x dl).each = s.each ∧ (leaveF s x dl).guard = s.guard := by
    unfold leaveF
    (repeat' split) <;> exact ⟨rfl, rfl⟩
   exact ⟨h1.trans h3.1, h2.trans h3.2⟩
theorem zv4 : ∀ (l : List ByteArray) (s : FS), (cameL l s).1.each = s.each ∧ (cameL l s).1.guard = s.guard
 | [], s => ⟨rfl, rfl⟩
 | nm :: l, s => by
  unfold cameL
  split
  ·exact zv4 l { s with hs := s.hs ++ [⟨nm, 0, false⟩] }
  ·rename_i x _
   split
   ·exact zv4 l { s with hs := setH s.hs nm ⟨x.nm, nextS x.st 6, false⟩, ds := endF s.ds nm }
   ·exact zv4 l s
theorem zr6 (dl : Int) : ∀ (l : List ByteArray) (s : FS), (admitL dl l s).1.each = s.each ∧ (admitL dl l s).1.guard = s.guard
 | [], s => ⟨rfl, rfl⟩
 | nm :: l, s => by
  unfold admitL
  split
  ·exact zr6 dl l (admit1 s nm dl)
  ·exact ⟨rfl, rfl⟩
theorem zwb (s : FS) (k n : Int) (nm : ByteArray) (l : List ByteArray) : (stepF s k n nm l).2.each = s.each ∧ (stepF s k n nm l).2.guard = s.guard := by
 unfold stepF
 split
 ·show (resolveF s l n).2.each = _ ∧ (resolveF s l n).2.guard = _
  unfold resolveF
  split
  ·exact ⟨(zv4 l _).1.trans (z16 l n s.hs s).1, (zv4 l _).2.trans (z16 l n s.hs s).2⟩
  ·exact ⟨rfl, rfl⟩
 split
 ·show (drainF s nm).2.each = _ ∧ (drainF s nm).2.guard = _
  unfold drainF
  (repeat' split) <;> exact ⟨rfl, rfl⟩
 split
 ·show (undrainF s nm).2.each = _ ∧ (undrainF s nm).2.guard = _
  unfold undrainF
  (repeat' split) <;> exact ⟨rfl, rfl⟩
 split
 ·show (forceF s nm n).2.each = _ ∧ (forceF s nm n).2.guard = _
  unfold forceF
  (repeat' split) <;> exact ⟨rfl, rfl⟩
 split
 ·show (ejectF s nm).2.each = _ ∧ (ejectF s nm).2.guard = _
  unfold ejectF
  (repeat' split) <;> exact ⟨rfl, rfl⟩
 split
 ·exact zr6 n _ s
 split
 ·show (probeF s nm).2.each = _ ∧ (probeF s nm).2.guard = _
  unfold probeF
  (repeat' split) <;> exact ⟨rfl, rfl⟩
 ·show (emptyF s nm).2.each = _ ∧ (emptyF s nm).2.guard = _
  unfold emptyF
  (repeat' split) <;> exact ⟨rfl, rfl⟩
def GN (hs : List HV) : Prop := ∀ x ∈ hs, nameB x.nm = true
theorem GN.set {hs : List HV} (h : GN hs) (i : Nat) {y : HV} (hy : nameB y.nm = true) : GN (hs.set i y) := fun z hz => by
 rcases List.mem_or_eq_of_mem_set hz with hz | rfl
 ·exact h z hz
 ·exact hy
theorem GN.put {hs : List HV} (h : GN hs) (nm : ByteArray) {y : HV} (hy : nameB y.nm = true) : GN (setH hs nm y) := h.set _ hy
theorem GN.del {hs : List HV} (h : GN hs) (nm : ByteArray) : GN (delH hs nm) := fun y hy => h y (List.mem_of_mem_eraseIdx hy)
theorem GN.look {hs : List HV} (h : GN hs) {nm : ByteArray} {x : HV} (hx : lookH hs nm = some x) : nameB x.nm = true := by
 rcases zx3 hs nm with ⟨h1, _⟩ | ⟨i, y, h1, _, h3, _⟩
 ·rw [h1] at hx
  cases hx
 ·rw [h1] at hx
  injection hx with hx
  subst hx
  exact h y (List.mem_of_getElem? h3)
theorem GN.leave {s : FS} (h : GN s.hs) {x : HV} (hx : nameB x.nm = true) (dl : Int) : GN (leaveF s x dl).hs := by
 unfold leaveF
 split
 ·exact h.del _
 ·split
  ·exact h.put _ hx
  ·exact h.put _ hx
theorem GN.left (l : List ByteArray) (dl : Int) : ∀ (hs : List HV) (s : FS), GN hs → GN s.hs → GN (leftL l dl hs s).1.hs
 | [], s, _, h => h
 | x :: hs, s, hh, h => by
  have h1 : GN hs := fun y hy => hh y (by simp [hy])
  unfold leftL
  split
  ·exact GN.left l dl hs s h1 h
  ·exact GN.left l dl hs (leaveF s x dl) h1 (h.leave (hh x (by simp)) dl)
theorem GN.came : ∀ (l : List ByteArray) (s : FS), (∀ x ∈ l, nameB x = true) → GN s.hs → GN (cameL l s).1.hs
 | [], s, _, h => h
 | nm :: l, s, hl, h => by
  have h1 : ∀ x ∈ l, nameB x = true := fun y hy => hl y (by simp [hy])
  have h0 := hl nm (by simp)
  unfold cameL
  split
  ·refine GN.came l { s with hs := s.hs ++ [⟨nm, 0, false⟩] } h1 (fun y hy => ?_)
   rcases List.mem_append.1 hy with hy | hy
   ·exact h y hy
   ·rw [List.mem_singleton.1 hy]
    exact h0
  ·rename_i x hx
   split
   ·exact GN.came l { s with hs := setH s.hs nm ⟨x.nm, nextS x.st 6, false⟩, ds := endF s.ds nm } h1 (h.put _ (show nameB x.nm = true from h.look hx))
   ·exact GN.came l s h1 h
theorem GN.admit1 {s : FS} (h : GN s.hs) (nm : ByteArray) (dl : Int) : GN (admit1 s nm dl).hs := by
 unfold Man.admit1
 dsimp only
 split
 ·rename_i x hx
  exact h.put _ (show nameB x.nm = true from h.look hx)
 ·exact h
theorem GN.admitL (dl : Int) : ∀ (l : List ByteArray) (s : FS), GN s.hs → GN (admitL dl l s).1.hs
 | [], s, h => h
 | nm :: l, s, h => by
  unfold Man.admitL
  split
  ·exact GN.admitL dl l (Man.admit1 s nm dl) (h.admit1 nm dl)
  ·exact h
theorem GN.step {s : FS} (h : GN s.hs) (k n : Int) (nm : ByteArray) (l : List ByteArray) : GN (stepF s k n nm l).2.hs := by
 unfold stepF
 split
 ·show GN (resolveF s l n).2.hs
  unfold resolveF
  split
  ·rename_i hc
   exact GN.came l _ (zj5 hc) (GN.left l n s.hs s h h)
  ·exact h
 split
 ·show GN (drainF s nm).2.hs
  unfold drainF
  (repeat' split) <;> exact h
 split
 ·show GN (undrainF s nm).2.hs
  unfold undrainF
  (repeat' split) <;> first | exact h | (rename_i x hx _ _ _; exact h.put _ (show nameB x.nm = true from h.look hx))
 split
 ·show GN (forceF s nm n).2.hs
  unfold forceF
  (repeat' split) <;> first | exact h | (rename_i x hx _; exact h.put _ (show nameB x.nm = true from h.look hx))
 split
 ·show GN (ejectF s nm).2.hs
  unfold ejectF
  (repeat' split) <;> first | exact h | (rename_i x hx _ _; exact h.put _ (show nameB x.nm = true from h.look hx))
 split
 ·exact GN.admitL n _ s h
 split
 ·show GN (probeF s nm).2.hs
  unfold probeF
  (repeat' split) <;> first | exact h | (rename_i x hx; exact h.put _ (show nameB x.nm = true from h.look hx))
 ·show GN (emptyF s nm).2.hs
  unfold emptyF
  split
  ·rename_i x hx
   split
   ·show GN (if x.lv = true then delH s.hs nm else setH s.hs nm (evH x 4))
    split
    ·exact h.del _
    ·exact h.put _ (show nameB x.nm = true from h.look hx)
   ·exact h.put _ (show nameB x.nm = true from h.look hx)
  ·exact h
theorem IsF.nodup {w0 W : World} {g : Nat} {s : FS} (h : IsF w0 W g s) : (s.hs.map (·.nm)).Nodup := by
 obtain ⟨gd, v, ps, h⟩ := h
 exact h.names
structure GP (s : FS) (n : Nat) : Prop where
 inv : FInv s n
 gn : GN s.hs
 e0 : 0 ≤ s.each
 e8 : s.each ≤ 8
theorem GP.step {s : FS} {n : Nat} (h : GP s n) (hn : n ≤ 100) (k t : Int) (nm : ByteArray) (l : List ByteArray) : GP (stepF s k t nm l).2 (n + 1) :=
 ⟨h.inv.step hn k t nm l, h.gn.step k t nm l, by rw [(zwb s k t nm l).1]; exact h.e0, by rw [(zwb s k t nm l).1]; exact h.e8⟩
theorem GP.gb {s : FS} {n : Nat} (h : GP s n) (hn : n ≤ 100) {w0 W : World} {g : Nat} (hF : IsF w0 W g s) : GB s 200000 :=
 ⟨h.inv.ok.mono (by omega), by have := h.inv.hh; omega, hF.nodup, h.gn, by have := h.e8; omega⟩
abbrev bT : Nat → Prop := fun _ => True
theorem Rd.keepF {α : Type} {enc : α → Value} {h1 : ∀ x, (enc x).oneCell' = true} {e : Nat} {b : Nat → Prop} {W W1 : World} {v : Value} {xs : List α} (h : Rd enc h1 e b W v xs) (hk : KeptH TF W W1) (he : e ∉ TF) : Rd enc h1 e b W1 v xs := h.step (fun k cells hc _ => hk.1.2 k (z70 hc) (z01 hc he))
theorem FR.keepF {b : Nat → Prop} {W W1 : World} {vs : Value} {r : RF} (h : FR b W vs r) (hk : KeptH TF W W1) : FR b W1 vs r := by
 obtain ⟨v0, v1, v2, v3, v4, v5, e, k0, k1, k2, k3, k4, k5⟩ := h
 exact ⟨v0, v1, v2, v3, v4, v5, e, k0.keepF hk (by decide), k1.keepF hk (by decide), k2.keepF hk (by decide), k3.keepF hk (by decide), k4.keepF hk (by decide), k5.keepF hk (by decide)⟩
theorem IsF.mv {w0 W W1 : World} {g b t : Nat} {s : FS} {cs : Array Value} (h : IsF w0 W g s) (hg : W.heap[b]? = some (.cells cs t (0, 0))) (ht : t ∉ TF) (hk : ∀ k, k ≠ b → W1.heap[k]? = W.heap[k]?) : IsF w0 W1 g s :=
 h.step (fun k hh => hk k (by rintro rfl; exact z01 hg ht hh))
theorem kH_ne {t : Nat} (h : 36 ≠ t) : ∀ q, q ∈ 36 :: kH.E → q ≠ t := by
 intro q hq
 have : q = 36 := by simpa [kH, kHd, Kd.iso, Kd.pair, Kd.int, Kd.string, Kd.scalar] using hq
 subst this
 exact h
theorem kH_new {W W1 : World} {base m : Nat} {v : Value} {es : List HS} (h : Kd.R kH 36 W base (fun k => k < m) v es) (hk : ∀ k, k < m → W1.heap[k]? = W.heap[k]?) : Kd.R kH 36 W1 base (fun k => k < m) v es :=
 Kd.R_mono (Kd.R_move (Kd.R_bound h) (fun k hk' => hk k hk'.1)) (fun _ h => h.1)
end
section
theorem zc7 (b0 b1 : Int) (A : Option Addr) (c : Nat) (l : List S36) (w : World) (hC : Kd.C k36 w A l.length l) (hc : l.length ≤ c) (hs : ∀ y ∈ l, ∀ x ∈ y.f3, x.size ≤ maxLen) :
  Calls Tryz.prog 3 #[.int .i64 b0, .int .i64 b1, .slice A l.length c] w fun e w' => e = .returned (.bool true) ∧ Below w.heap.size w w' := by
 have HL := as0 (zuc w)
 obtain ⟨es, ⟨⟨hes80, hes20⟩, hscr⟩, hearly⟩ := zvc A c l w hC hc hs
 have HE := as0 hearly
 have HSCR := as0 hscr
 have HS20 := as0 hes20
 obtain ⟨e9, he0, he9⟩ := mod_n b0 9 (by decide) (by decide)
 obtain ⟨g41, hg0, hg41⟩ := mod_n b1 41 (by decide) (by decide)
 have hE : wrap64 (Int.tmod (IntKind.u64.wrap b0) 9) = (e9 : Int) := he0
 have hGU : wrap64 (Int.tmod (IntKind.u64.wrap b1) 41) = (g41 : Int) := hg0
 have HN := as0 (fun W hb => zu8 (e9 : Int) (g41 : Int) w W hb)
 have HFIRST : Aside0 (GP ⟨(e9 : Int), (g41 : Int), [], ⟨[]⟩⟩ 0) := ⟨⟨FInv.new _ _, fun x hx => (by cases hx), by show (0 : Int) ≤ (e9 : Int); omega, by show (e9 : Int) ≤ 8; omega⟩⟩
 obtain ⟨r0, hr0⟩ : ∃ q, q = toR ⟨(e9 : Int), (g41 : Int), [], ⟨[]⟩⟩ := ⟨_, rfl⟩
 have HR0 := as0 hr0
 have HF0 : Aside0 (∀ W, FR bT W (.agg #[.int .i64 (e9 : Int), .int .i64 (g41 : Int), .slice none 0 0, .slice none 0 0, .slice none 0 0, .slice none 0 0, .slice none 0 0, .slice none 0 0]) r0) := ⟨fun W => by
  have z : ∀ {α : Type} (enc : α → Value) (h1 : ∀ x, (enc x).oneCell' = true) (e : Nat), Rd enc h1 e bT W (.slice none 0 0) [] := fun enc h1 e => ⟨none, 0, rfl, Nat.le_refl _, ⟨rfl, Nat.zero_le _, fun h => absurd h (by simp)⟩, fun ad h => by cases h⟩
  rw [hr0]
  exact ⟨_, _, _, _, _, _, rfl, z _ _ _, z _ _ _, z _ _ _, z _ _ _, z _ _ _, z _ _ _⟩⟩
 clear he0 hg0 he9 hg41 hC hearly hscr hes20 hr0
 have HB_0 : Aside0 (Below w.heap.size w w) := ⟨Below.refl _ _⟩
 go_enter Tryz.func3, Tryz.ntmps3
 go_upto_region 5 with (first
  | (go_at_call 4; refine HL.out.mono ?_; rintro e w1 ⟨rfl, hb⟩; have HB_1 := as0 hb; clear hb))
 try simp only [hGU, hE]
 clear hE hGU
 go_wp2_with (first
  | (go_at_call 5; refine (HN.out _ HB_1.out).mono ?_; rintro e w2 ⟨g, rfl, hi, hb, hb2⟩; have K_2 := as0 hi; have HB_2 := as0 hb; clear hi hb hb2)
  | ((with_reducible refine bx (N := 8) (cs := #[.int .i64 0, .int .i64 0, .slice none 0 0, .slice none 0 0, .slice none 0 0, .slice none 0 0, .slice none 0 0, .slice none 0 0]) (t := 33) rfl rfl ?hr ?_); (case hr => first | (go_simp; done) | (go_simp; rfl)); intro ga hg w3 hbox hb; have K_3 := as0 (K_2.out.below hb); have HB_3 := as0 (z10 HB_2.out hb); have Ba_3 := as0 hbox; have GE_a := as0 (show w.heap.size ≤ ga by rw [hg]; exact HB_2.out.size); clear hbox hb hg; have ya := za0 Ba_3.out)
  | ((with_reducible refine sx (W := w3) (t := 33) (p := 8) (w1 := set8 w3 ga (.int .i64 (e9 : Int)) (.int .i64 (g41 : Int)) (.slice none 0 0) (.slice none 0 0) (.slice none 0 0) (.slice none 0 0) (.slice none 0 0) (.slice none 0 0)) rfl rfl rfl ?hr ?_); (case hr => first | (go_simp; done) | (go_simp; rfl)); intro w4 hw_; have Ba_4 := as0 (zu0 (zi0 Ba_3.out) hw_); have K_4 : Aside0 (IsF w w4 g ⟨(e9 : Int), (g41 : Int), [], ⟨[]⟩⟩) := ⟨by rw [hw_]; exact K_3.out.mv Ba_3.out (by decide) (fun k hk => z30 hk)⟩; have HB_4 := as0 (zf0 (zb0 HB_3.out GE_a.out) hw_); clear hw_ ; clear ya; have ya := za0 Ba_4.out)
  | (go_at_call 6; refine (HE.out _ HB_4.out).mono ?_; rintro e w5 ⟨v4, rfl, hr, hb⟩; obtain ⟨A4, n4, rfl⟩ := Kd.R_slice hr; have Ba_5 := as0 (z20 Ba_4.out hb); have K_5 := as0 (K_4.out.below hb); have HB_5 := as0 (z10 HB_4.out hb); have N_5 := as0 hr; obtain ⟨bN, hbN⟩ : ∃ q, q = w4.heap.size := ⟨_, rfl⟩; rw [← hbN] at N_5; clear hr hb hbN; clear ya; have ya := za0 Ba_5.out))
 clear ya
 go_loopw [9] (fun v9 wr => ∃ (k : Nat) (s : FS) (r : RF) (cs : Array Value), v9 = .int .i64 (k : Int) ∧ k ≤ es.length ∧ Aside0 (r = toR s) ∧ Aside0 (GP s k) ∧ Aside0 (wr.heap[ga]? = some (.cells cs 33 (0, 0))) ∧ Aside0 (FR bT wr (.agg cs) r) ∧ Aside0 (IsF w wr g s) ∧ Aside0 (Below w.heap.size w wr) ∧ Aside0 (Kd.R kH 36 wr bN (fun _ => True) (.slice A4 es.length n4) es)) (fun v9 _ => es.length - (intOf v9).toNat)
 case atStart => exact ⟨0, _, r0, _, rfl, Nat.zero_le _, HR0, HFIRST, Ba_5, ⟨HF0.out _⟩, K_5, HB_5, N_5⟩
 case round =>
  obtain ⟨k, s, r, cs, rfl, hkl, HR, HP, Ba_40, Fa_40, K_40, HB_40, N0⟩ := hrel
  obtain ⟨Aa0, ca0, Aa1, ca1, Aa2, ca2, Aa3, ca3, Aa4, ca4, Aa5, ca5, hcs⟩ := Fa_40.out.form
  injection hcs with hcs
  subst hcs
  by_cases hlt : k < es.length
  ·obtain ⟨x, hx⟩ : ∃ x, es[k]? = some x := ⟨_, List.getElem?_eq_getElem hlt⟩
   have hx20 := HS20.out x (List.mem_of_getElem? hx)
   obtain ⟨hk, hkn, hknc, hks, hkC⟩ := HSCR.out k x hx
   obtain ⟨ad, had, hx0, hx1, hx2, hx3⟩ := at_TH (Kd.R_reads' N0.out).2.2 hx
   subst had
   obtain ⟨mm, hmm⟩ : ∃ q, q = wr.heap.size := ⟨_, rfl⟩
   have N_40 := as0 (show Kd.R kH 36 wr bN (fun k => k < mm) _ es from Kd.R_mono (Kd.R_bound N0.out) (fun k hk => by rw [hmm]; exact hk.2.2.1))
   have HMM := as0 hmm
   have hk0 : (0 : Int) ≤ (k : Int) := by omega
   have hkI : (k : Int) < (es.length : Int) := by omega
   have hk80 : k ≤ 80 := by omega
   have HST := as0 (fun (W : World) (hF : IsF w W g s) (hB : Below w.heap.size w W) => step_any (q := k) (by omega) HP.out.inv hF hB x.f0 x.f1 x.f2 hk x.A x.c (by omega) hks (fun W' _ hb => hkC W' hb))
   rw [hkn] at HST
   have HSR := as0 (fun (W : World) (vs : Value) (hB : Below w.heap.size w W) (h : FR bT W vs (toR s)) => z28 (b := bT) (HP.out.gb (by omega) K_40.out) (by decide) x.f0 x.f1 x.f2 (by omega) hk hks x.A x.c (by omega) (fun W' hb => hkC W' (z10 hB hb)) h (fun _ _ => trivial))
   rw [hkn, ← HR.out] at HSR
   have HP2 := as0 (HP.out.step (by omega) x.f0 x.f1 x.f2 hk)
   obtain ⟨s', hs'⟩ : ∃ q, q = (stepF s x.f0 x.f1 x.f2 hk).2 := ⟨_, rfl⟩
   obtain ⟨sv, hsv⟩ : ∃ q, q = (stepF s x.f0 x.f1 x.f2 hk).1 := ⟨_, rfl⟩
   rw [← hs', ← hsv] at HST HSR
   rw [← hs'] at HP2
   obtain ⟨r1, hr1⟩ : ∃ q, q = toR s' := ⟨_, rfl⟩
   rw [← hr1] at HSR
   have HR1 := as0 hr1
   obtain ⟨svi, svE, lsA, lsB⟩ := sv
   dsimp only at HST HSR
   have HLK := as0 (fun (W : World) (vs : Value) (hF : IsF w W g s') (h : FR bT W vs r1) => like_any (b := bT) (q := k + 1) (by omega) HP2.out.inv hF (HP2.out.gb (by omega) hF) (by decide) HP2.out.e0 x.f2 x.f1 (by rw [← HR1.out]; exact h))
   clear hs' hsv hr1 hkC hks hx hx20 hmm N0 HL HE HN HFIRST HR0 HF0
   have ya := za0 Ba_40.out
   go_wp2_with (first
  | ((with_reducible refine bx (N := 10) (cs := #[.int .i64 0, .int .i64 0, .string ⟨#[]⟩, .slice none 0 0]) (t := 36) rfl rfl ?hr ?_); (case hr => first | (go_simp; done) | (go_simp; rfl)); intro go hg w41 hbox hb; have Ba_41 := as0 (z20 Ba_40.out hb); have Fa_41 := as0 (Fa_40.out.below hb); have K_41 := as0 (K_40.out.below hb); have N_41 := as0 (Kd.R_below N_40.out hb); have HB_41 := as0 (z10 HB_40.out hb); have Bo_41 := as0 hbox; have GM_o := as0 (show mm ≤ go by rw [hg, HMM.out]; exact Nat.le_refl _); have GE_o := as0 (show w.heap.size ≤ go by rw [hg]; exact HB_40.out.size); have NE_ao := as0 (show ga ≠ go by rw [hg]; exact Nat.ne_of_lt (z70 Ba_40.out)); clear hbox hb hg; clear ya; have ya := za0 Ba_41.out; have yo := zw0 Bo_41.out)
  | ((with_reducible refine sx (W := w41) (t := 36) (p := 10) (w1 := se4 w41 go (.int .i64 x.f0) (.int .i64 x.f1) (.string x.f2) (.slice x.A x.n x.c)) rfl rfl rfl ?hr ?_); (case hr => first | (go_simp; done) | (go_simp; rfl)); intro w42 hw_; have Ba_42 := as0 (zg0 zq0 hw_ NE_ao.out Ba_41.out); have Bo_42 := as0 (zu0 (zt2 Bo_41.out) hw_); have Fa_42 := as0 (zk0 zq0 hw_ Fa_41.out Bo_41.out (by decide)); have K_42 : Aside0 (IsF w w42 g s) := ⟨by rw [hw_]; exact K_41.out.mv Bo_41.out (by decide) (fun k hk => zq0 hk)⟩; have N_42 : Aside0 (Kd.R kH 36 w42 bN (fun k => k < mm) (.slice (some ad) es.length n4) es) := ⟨by rw [hw_]; exact kH_new N_41.out (fun k hk => zq0 (Nat.ne_of_lt (Nat.lt_of_lt_of_le hk GM_o.out)))⟩; have HB_42 := as0 (zf0 (zi1 HB_41.out GE_o.out) hw_); clear hw_ ; clear ya yo; have ya := za0 Ba_42.out; have yo := zw0 Bo_42.out)
  | (go_at_call 7; (with_reducible refine (HST.out _ K_42.out HB_42.out).mono ?_); rintro e w43 ⟨va_, vb_, rfl, hra, hrb, hi, hb, hkp⟩; obtain ⟨Aa, na, rfl⟩ := Kd.R_slice hra; obtain ⟨Ab, nb, rfl⟩ := Kd.R_slice hrb; have RA_43 := as0 ((Rd.of_R hra).lower (b' := bT) (fun _ _ => trivial)); have RB_43 := as0 ((Rd.of_R hrb).lower (b' := bT) (fun _ _ => trivial)); have Ba_43 := as0 (Ko.blkc hkp Ba_42.out (by decide)); have Bo_43 := as0 (Ko.blkc hkp Bo_42.out (by decide)); have Fa_43 := as0 (Fa_42.out.keepF hkp); have N_43 := as0 (z65 N_42.out hkp kH_tf); have K_43 := as0 hi; have HB_43 := as0 hb; clear hra hrb hi hb hkp; clear ya yo; have ya := za0 Ba_43.out; have yo := zw0 Bo_43.out)
  | ((with_reducible refine bx (N := 11) (cs := #[.bool false, .int .i64 0, .slice none 0 0, .slice none 0 0]) (t := 39) rfl rfl ?hr ?_); (case hr => first | (go_simp; done) | (go_simp; rfl)); intro gp hg w44 hbox hb; have Ba_44 := as0 (z20 Ba_43.out hb); have Bo_44 := as0 (z20 Bo_43.out hb); have Fa_44 := as0 (Fa_43.out.below hb); have K_44 := as0 (K_43.out.below hb); have N_44 := as0 (Kd.R_below N_43.out hb); have RA_44 := as0 (RA_43.out.below hb); have RB_44 := as0 (RB_43.out.below hb); have HB_44 := as0 (z10 HB_43.out hb); have Bp_44 := as0 hbox; have GE_p := as0 (show w.heap.size ≤ gp by rw [hg]; exact HB_43.out.size); have NE_ap := as0 (show ga ≠ gp by rw [hg]; exact Nat.ne_of_lt (z70 Ba_43.out)); have NE_op := as0 (show go ≠ gp by rw [hg]; exact Nat.ne_of_lt (z70 Bo_43.out)); clear hbox hb hg; clear ya yo; have ya := za0 Ba_44.out; have yo := zw0 Bo_44.out; have yp := zw0 Bp_44.out)
  | ((with_reducible refine sx (W := w44) (t := 39) (p := 11) (w1 := se4 w44 gp (.bool svi) (.int .i64 svE) (.slice Aa lsA.length na) (.slice Ab lsB.length nb)) rfl rfl rfl ?hr ?_); (case hr => first | (go_simp; done) | (go_simp; rfl)); intro w45 hw_; have Ba_45 := as0 (zg0 zq0 hw_ NE_ap.out Ba_44.out); have Bo_45 := as0 (zg0 zq0 hw_ NE_op.out Bo_44.out); have Bp_45 := as0 (zu0 (zt2 Bp_44.out) hw_); have Fa_45 := as0 (zk0 zq0 hw_ Fa_44.out Bp_44.out (by decide)); have K_45 : Aside0 (IsF w w45 g s') := ⟨by rw [hw_]; exact K_44.out.mv Bp_44.out (by decide) (fun k hk => zq0 hk)⟩; have N_45 : Aside0 (Kd.R kH 36 w45 bN (fun k => k < mm) (.slice (some ad) es.length n4) es) := ⟨by rw [hw_]; exact Kd.R_mv N_44.out Bp_44.out (kH_ne (by decide)) (fun k hk => zq0 hk)⟩; have RA_45 : Aside0 (RdS bT w45 (.slice Aa lsA.length na) lsA) := ⟨by rw [hw_]; exact RA_44.out.far Bp_44.out (by decide) (fun k hk => zq0 hk)⟩; have RB_45 : Aside0 (RdS bT w45 (.slice Ab lsB.length nb) lsB) := ⟨by rw [hw_]; exact RB_44.out.far Bp_44.out (by decide) (fun k hk => zq0 hk)⟩; have HB_45 := as0 (zf0 (zi1 HB_44.out GE_p.out) hw_); clear hw_ ; clear ya yo yp; have ya := za0 Ba_45.out; have yo := zw0 Bo_45.out; have yp := zw0 Bp_45.out)
  | (go_at_call 8; (with_reducible refine (HSR.out _ _ HB_45.out Fa_45.out).mono ?_); rintro e w46 ⟨vs_, va_, vb_, rfl, hF_, hA2, hB2, hb⟩; obtain ⟨Ab0, cb0, Ab1, cb1, Ab2, cb2, Ab3, cb3, Ab4, cb4, Ab5, cb5, rfl⟩ := hF_.form; obtain ⟨Ac, nc, rfl⟩ := hA2.slice; obtain ⟨Ad, nd, rfl⟩ := hB2.slice; have Ba_46 := as0 (z20 Ba_45.out hb); have Bo_46 := as0 (z20 Bo_45.out hb); have Bp_46 := as0 (z20 Bp_45.out hb); have Fa_46 := as0 (Fa_45.out.below hb); have K_46 := as0 (K_45.out.below hb); have N_46 := as0 (Kd.R_below N_45.out hb); have RA_46 := as0 (RA_45.out.below hb); have RB_46 := as0 (RB_45.out.below hb); have HB_46 := as0 (z10 HB_45.out hb); have Fb_46 := as0 hF_; have RC_46 := as0 hA2; have RD_46 := as0 hB2; clear hb hF_ hA2 hB2; clear ya yo yp; have ya := za0 Ba_46.out; have yo := zw0 Bo_46.out; have yp := zw0 Bp_46.out)
  | ((with_reducible refine bx (N := 12) (cs := #[.int .i64 0, .int .i64 0, .slice none 0 0, .slice none 0 0, .slice none 0 0, .slice none 0 0, .slice none 0 0, .slice none 0 0]) (t := 33) rfl rfl ?hr ?_); (case hr => first | (go_simp; done) | (go_simp; rfl)); intro gn hg w47 hbox hb; have Ba_47 := as0 (z20 Ba_46.out hb); have Bo_47 := as0 (z20 Bo_46.out hb); have Bp_47 := as0 (z20 Bp_46.out hb); have Fa_47 := as0 (Fa_46.out.below hb); have Fb_47 := as0 (Fb_46.out.below hb); have K_47 := as0 (K_46.out.below hb); have N_47 := as0 (Kd.R_below N_46.out hb); have RA_47 := as0 (RA_46.out.below hb); have RB_47 := as0 (RB_46.out.below hb); have RC_47 := as0 (RC_46.out.below hb); have RD_47 := as0 (RD_46.out.below hb); have HB_47 := as0 (z10 HB_46.out hb); have Bn_47 := as0 hbox; have GE_n := as0 (show w.heap.size ≤ gn by rw [hg]; exact HB_46.out.size); have NE_an := as0 (show ga ≠ gn by rw [hg]; exact Nat.ne_of_lt (z70 Ba_46.out)); have NE_on := as0 (show go ≠ gn by rw [hg]; exact Nat.ne_of_lt (z70 Bo_46.out)); have NE_pn := as0 (show gp ≠ gn by rw [hg]; exact Nat.ne_of_lt (z70 Bp_46.out)); clear hbox hb hg; clear ya yo yp; have ya := za0 Ba_47.out; have yo := zw0 Bo_47.out; have yp := zw0 Bp_47.out; have yn := za0 Bn_47.out)
  | ((with_reducible refine bx (N := 13) (cs := #[.bool false, .int .i64 0, .slice none 0 0, .slice none 0 0]) (t := 39) rfl rfl ?hr ?_); (case hr => first | (go_simp; done) | (go_simp; rfl)); intro gq hg w48 hbox hb; have Ba_48 := as0 (z20 Ba_47.out hb); have Bo_48 := as0 (z20 Bo_47.out hb); have Bp_48 := as0 (z20 Bp_47.out hb); have Bn_48 := as0 (z20 Bn_47.out hb); have Fa_48 := as0 (Fa_47.out.below hb); have Fb_48 := as0 (Fb_47.out.below hb); have K_48 := as0 (K_47.out.below hb); have N_48 := as0 (Kd.R_below N_47.out hb); have RA_48 := as0 (RA_47.out.below hb); have RB_48 := as0 (RB_47.out.below hb); have RC_48 := as0 (RC_47.out.below hb); have RD_48 := as0 (RD_47.out.below hb); have HB_48 := as0 (z10 HB_47.out hb); have Bq_48 := as0 hbox; have GE_q := as0 (show w.heap.size ≤ gq by rw [hg]; exact HB_47.out.size); have NE_aq := as0 (show ga ≠ gq by rw [hg]; exact Nat.ne_of_lt (z70 Ba_47.out)); have NE_oq := as0 (show go ≠ gq by rw [hg]; exact Nat.ne_of_lt (z70 Bo_47.out)); have NE_pq := as0 (show gp ≠ gq by rw [hg]; exact Nat.ne_of_lt (z70 Bp_47.out)); have NE_nq := as0 (show gn ≠ gq by rw [hg]; exact Nat.ne_of_lt (z70 Bn_47.out)); clear hbox hb hg; clear ya yo yp yn; have ya := za0 Ba_48.out; have yo := zw0 Bo_48.out; have yp := zw0 Bp_48.out; have yn := za0 Bn_48.out; have yq := zw0 Bq_48.out)
  | ((with_reducible refine sx (W := w48) (t := 33) (p := 12) (w1 := set8 w48 gn (.int .i64 r1.each) (.int .i64 r1.guard) (.slice Ab0 r1.N.length cb0) (.slice Ab1 r1.S.length cb1) (.slice Ab2 r1.L.length cb2) (.slice Ab3 r1.d.w.length cb3) (.slice Ab4 r1.d.u.length cb4) (.slice Ab5 r1.d.a.length cb5)) rfl rfl rfl ?hr ?_); (case hr => first | (go_simp; done) | (go_simp; rfl)); intro w49 hw_; have Ba_49 := as0 (zg0 z30 hw_ NE_an.out Ba_48.out); have Bo_49 := as0 (zg0 z30 hw_ NE_on.out Bo_48.out); have Bp_49 := as0 (zg0 z30 hw_ NE_pn.out Bp_48.out); have Bn_49 := as0 (zu0 (zi0 Bn_48.out) hw_); have Bq_49 := as0 (zg0 z30 hw_ NE_nq.out.symm Bq_48.out); have Fa_49 := as0 (zk0 z30 hw_ Fa_48.out Bn_48.out (by decide)); have Fb_49 := as0 (zk0 z30 hw_ Fb_48.out Bn_48.out (by decide)); have K_49 : Aside0 (IsF w w49 g s') := ⟨by rw [hw_]; exact K_48.out.mv Bn_48.out (by decide) (fun k hk => z30 hk)⟩; have N_49 : Aside0 (Kd.R kH 36 w49 bN (fun k => k < mm) (.slice (some ad) es.length n4) es) := ⟨by rw [hw_]; exact Kd.R_mv N_48.out Bn_48.out (kH_ne (by decide)) (fun k hk => z30 hk)⟩; have RA_49 : Aside0 (RdS bT w49 (.slice Aa lsA.length na) lsA) := ⟨by rw [hw_]; exact RA_48.out.far Bn_48.out (by decide) (fun k hk => z30 hk)⟩; have RB_49 : Aside0 (RdS bT w49 (.slice Ab lsB.length nb) lsB) := ⟨by rw [hw_]; exact RB_48.out.far Bn_48.out (by decide) (fun k hk => z30 hk)⟩; have RC_49 : Aside0 (RdS bT w49 (.slice Ac lsA.length nc) lsA) := ⟨by rw [hw_]; exact RC_48.out.far Bn_48.out (by decide) (fun k hk => z30 hk)⟩; have RD_49 : Aside0 (RdS bT w49 (.slice Ad lsB.length nd) lsB) := ⟨by rw [hw_]; exact RD_48.out.far Bn_48.out (by decide) (fun k hk => z30 hk)⟩; have HB_49 := as0 (zf0 (zb0 HB_48.out GE_n.out) hw_); clear hw_ ; clear ya yo yp yn yq; have ya := za0 Ba_49.out; have yo := zw0 Bo_49.out; have yp := zw0 Bp_49.out; have yn := za0 Bn_49.out; have yq := zw0 Bq_49.out)
  | ((with_reducible refine sx (W := w49) (t := 39) (p := 13) (w1 := se4 w49 gq (.bool svi) (.int .i64 svE) (.slice Ac lsA.length nc) (.slice Ad lsB.length nd)) rfl rfl rfl ?hr ?_); (case hr => first | (go_simp; done) | (go_simp; rfl)); intro w50 hw_; have Ba_50 := as0 (zg0 zq0 hw_ NE_aq.out Ba_49.out); have Bo_50 := as0 (zg0 zq0 hw_ NE_oq.out Bo_49.out); have Bp_50 := as0 (zg0 zq0 hw_ NE_pq.out Bp_49.out); have Bn_50 := as0 (zg0 zq0 hw_ NE_nq.out Bn_49.out); have Bq_50 := as0 (zu0 (zt2 Bq_49.out) hw_); have Fa_50 := as0 (zk0 zq0 hw_ Fa_49.out Bq_49.out (by decide)); have Fb_50 := as0 (zk0 zq0 hw_ Fb_49.out Bq_49.out (by decide)); have K_50 : Aside0 (IsF w w50 g s') := ⟨by rw [hw_]; exact K_49.out.mv Bq_49.out (by decide) (fun k hk => zq0 hk)⟩; have N_50 : Aside0 (Kd.R kH 36 w50 bN (fun k => k < mm) (.slice (some ad) es.length n4) es) := ⟨by rw [hw_]; exact Kd.R_mv N_49.out Bq_49.out (kH_ne (by decide)) (fun k hk => zq0 hk)⟩; have RA_50 : Aside0 (RdS bT w50 (.slice Aa lsA.length na) lsA) := ⟨by rw [hw_]; exact RA_49.out.far Bq_49.out (by decide) (fun k hk => zq0 hk)⟩; have RB_50 : Aside0 (RdS bT w50 (.slice Ab lsB.length nb) lsB) := ⟨by rw [hw_]; exact RB_49.out.far Bq_49.out (by decide) (fun k hk => zq0 hk)⟩; have RC_50 : Aside0 (RdS bT w50 (.slice Ac lsA.length nc) lsA) := ⟨by rw [hw_]; exact RC_49.out.far Bq_49.out (by decide) (fun k hk => zq0 hk)⟩; have RD_50 : Aside0 (RdS bT w50 (.slice Ad lsB.length nd) lsB) := ⟨by rw [hw_]; exact RD_49.out.far Bq_49.out (by decide) (fun k hk => zq0 hk)⟩; have HB_50 := as0 (zf0 (zi1 HB_49.out GE_q.out) hw_); clear hw_ ; clear ya yo yp yn yq; have ya := za0 Ba_50.out; have yo := zw0 Bo_50.out; have yp := zw0 Bp_50.out; have yn := za0 Bn_50.out; have yq := zw0 Bq_50.out)
  | ((with_reducible refine sx (W := w50) (t := 33) (p := 8) (w1 := set8 w50 ga (.int .i64 r1.each) (.int .i64 r1.guard) (.slice Ab0 r1.N.length cb0) (.slice Ab1 r1.S.length cb1) (.slice Ab2 r1.L.length cb2) (.slice Ab3 r1.d.w.length cb3) (.slice Ab4 r1.d.u.length cb4) (.slice Ab5 r1.d.a.length cb5)) rfl rfl rfl ?hr ?_); (case hr => first | (go_simp; done) | (go_simp; rfl)); intro w51 hw_; have Ba_51 := as0 (zu0 (zi0 Ba_50.out) hw_); have Bo_51 := as0 (zg0 z30 hw_ NE_ao.out.symm Bo_50.out); have Bp_51 := as0 (zg0 z30 hw_ NE_ap.out.symm Bp_50.out); have Bn_51 := as0 (zg0 z30 hw_ NE_an.out.symm Bn_50.out); have Bq_51 := as0 (zg0 z30 hw_ NE_aq.out.symm Bq_50.out); have Fb_51 := as0 (zk0 z30 hw_ Fb_50.out Ba_50.out (by decide)); have K_51 : Aside0 (IsF w w51 g s') := ⟨by rw [hw_]; exact K_50.out.mv Ba_50.out (by decide) (fun k hk => z30 hk)⟩; have N_51 : Aside0 (Kd.R kH 36 w51 bN (fun k => k < mm) (.slice (some ad) es.length n4) es) := ⟨by rw [hw_]; exact Kd.R_mv N_50.out Ba_50.out (kH_ne (by decide)) (fun k hk => z30 hk)⟩; have RA_51 : Aside0 (RdS bT w51 (.slice Aa lsA.length na) lsA) := ⟨by rw [hw_]; exact RA_50.out.far Ba_50.out (by decide) (fun k hk => z30 hk)⟩; have RB_51 : Aside0 (RdS bT w51 (.slice Ab lsB.length nb) lsB) := ⟨by rw [hw_]; exact RB_50.out.far Ba_50.out (by decide) (fun k hk => z30 hk)⟩; have RC_51 : Aside0 (RdS bT w51 (.slice Ac lsA.length nc) lsA) := ⟨by rw [hw_]; exact RC_50.out.far Ba_50.out (by decide) (fun k hk => z30 hk)⟩; have RD_51 : Aside0 (RdS bT w51 (.slice Ad lsB.length nd) lsB) := ⟨by rw [hw_]; exact RD_50.out.far Ba_50.out (by decide) (fun k hk => z30 hk)⟩; have HB_51 := as0 (zf0 (zb0 HB_50.out GE_a.out) hw_); clear hw_ ; clear ya yo yp yn yq; have ya := za0 Ba_51.out; have yo := zw0 Bo_51.out; have yp := zw0 Bp_51.out; have yn := za0 Bn_51.out; have yq := zw0 Bq_51.out)
  | (go_at_call 9; have hsm := (zla (w := w51) svi svE lsA lsB Aa Ac Ab Ad na nc nb nd (fun W' h => (RA_51.out.below h).C) RA_51.out.le (fun W' h => (RC_51.out.below h).C) RC_51.out.le (fun W' h => (RB_51.out.below h).C) RB_51.out.le (fun W' h => (RD_51.out.below h).C) RD_51.out.le); (with_reducible refine hsm.mono ?_); clear hsm; rintro e w52 ⟨rfl, hb⟩; have Ba_52 := as0 (z20 Ba_51.out hb); have Bo_52 := as0 (z20 Bo_51.out hb); have Bp_52 := as0 (z20 Bp_51.out hb); have Bn_52 := as0 (z20 Bn_51.out hb); have Bq_52 := as0 (z20 Bq_51.out hb); have Fb_52 := as0 (Fb_51.out.below hb); have K_52 := as0 (K_51.out.below hb); have N_52 := as0 (Kd.R_below N_51.out hb); have RA_52 := as0 (RA_51.out.below hb); have RB_52 := as0 (RB_51.out.below hb); have RC_52 := as0 (RC_51.out.below hb); have RD_52 := as0 (RD_51.out.below hb); have HB_52 := as0 (z10 HB_51.out hb); clear hb; clear ya yo yp yn yq; have ya := za0 Ba_52.out; have yo := zw0 Bo_52.out; have yp := zw0 Bp_52.out; have yn := za0 Bn_52.out; have yq := zw0 Bq_52.out)
  | (go_at_call 10; (with_reducible refine (HLK.out _ _ K_52.out Fb_52.out).mono ?_); rintro e w53 ⟨rfl, hb⟩; have Ba_53 := as0 (z20 Ba_52.out hb); have Bo_53 := as0 (z20 Bo_52.out hb); have Bp_53 := as0 (z20 Bp_52.out hb); have Bn_53 := as0 (z20 Bn_52.out hb); have Bq_53 := as0 (z20 Bq_52.out hb); have Fb_53 := as0 (Fb_52.out.below hb); have K_53 := as0 (K_52.out.below hb); have N_53 := as0 (Kd.R_below N_52.out hb); have RA_53 := as0 (RA_52.out.below hb); have RB_53 := as0 (RB_52.out.below hb); have RC_53 := as0 (RC_52.out.below hb); have RD_53 := as0 (RD_52.out.below hb); have HB_53 := as0 (z10 HB_52.out hb); clear hb; clear ya yo yp yn yq; have ya := za0 Ba_53.out; have yo := zw0 Bo_53.out; have yp := zw0 Bp_53.out; have yn := za0 Bn_53.out; have yq := zw0 Bq_53.out))
   go_roundw
   case measure => simp [intOf]; omega
   case rel => exact ⟨k + 1, s', r1, _, by rw [show ((k : Int) + 1) = ((k + 1 : Nat) : Int) by omega], by omega, HR1, HP2, Ba_53, Fb_53, K_53, HB_53, ⟨Kd.R_mono N_53.out (fun _ _ => trivial)⟩⟩
  ·have hkI : ¬ (k : Int) < (es.length : Int) := by omega
   obtain ⟨ya0, ya1, ya2, ya3, ya4, ya5, ya6, ya7⟩ := zy3 Ba_40.out
   go_wp2
   go_ret
   exact ⟨rfl, HB_40.out⟩
theorem plays_law (b0 b1 : Int) (A : Option Addr) (c : Nat) (l : List S36) (w : World) (_ : (Lit.int .i64 b0).wf = true) (_ : (Lit.int .i64 b1).wf = true) (hC : Kd.C k36 w A l.length l) (hc : l.length ≤ c) (hw : ∀ x ∈ l, (Lit.int .i64 x.f0).wf = true ∧ (Lit.int .i64 x.f1).wf = true ∧ x.f2.size ≤ maxLen ∧ (x.f3.length ≤ maxLen ∧ ∀ y ∈ x.f3, y.size ≤ maxLen)) :
  Calls Tryz.prog 3 #[.int .i64 b0, .int .i64 b1, .slice A l.length c] w fun e w' => e = .returned (.bool true) ∧ Below w.heap.size w w' := zc7 b0 b1 A c l w hC hc (fun y hy => (hw y hy).2.2.2.2)
end
end Go.Proofs.YtmlmiocomlehgaaGreat.Man
end
section
namespace Go.Proofs.YtmlmiocomlehgaaGreatOpn
open Go Go.WideShapes Go.RowKit Go.Proofs.YtmlmiocomlehgaaGreatW.PrintWords Go.Proofs.YtmlmiocomlehgaaGreat.PA
section
def Opens {α : Type} (P : Program) (t : TypeId) (d : Kd α) (wf : α → Prop) : Prop :=
 ∀ {H : Type} {enc : TypeId × Value → H} {w : World} {base : Nat} {spare : Nat → Bool} {held : Bool} {fuel : Nat} {cs : List Value} {x : DataW H × List MemPlace},
  DataW.trod enc P w base spare held fuel t cs = some x → ∃ a, d.K w a cs ∧ wf a
theorem zx6 {P : Program} {t : TypeId} {k : IntKind} (ht : P.underlying t = some (.int k)) : Opens P t (Kd.int k) (fun a => (Lit.int k a).wf = true) := by
 intro H enc w base spare held fuel cs x h
 obtain ⟨n, e, _, wn⟩ := DataW.trod_int ht h
 exact ⟨n, e, wn⟩
theorem opens_bool {P : Program} {t : TypeId} (ht : P.underlying t = some .bool) : Opens P t Kd.bool (fun _ => True) := by
 intro H enc w base spare held fuel cs x h
 obtain ⟨b, e, _⟩ := DataW.trod_bool ht h
 exact ⟨b, e, trivial⟩
theorem zd4 {P : Program} {t : TypeId} (ht : P.underlying t = some .string) : Opens P t Kd.string (fun a => a.size ≤ maxLen) := by
 intro H enc w base spare held fuel cs x h
 obtain ⟨b, e, _, hs⟩ := DataW.trod_string ht h
 exact ⟨b, e, hs⟩
theorem list_of {α : Type} {Q : Nat → α → Prop} : ∀ n, (∀ i, i < n → ∃ a, Q i a) → ∃ xs : List α, xs.length = n ∧ ∀ j p, xs[j]? = some p → Q j p := by
 intro n
 induction n with
 | zero => exact fun _ => ⟨[], rfl, fun j p h => by simp at h⟩
 | succ n ih =>
  intro h
  obtain ⟨xs, hl, hx⟩ := ih (fun i hi => h i (by omega))
  obtain ⟨a, ha⟩ := h n (by omega)
  refine ⟨xs ++ [a], by simp [hl], fun j p hj => ?_⟩
  by_cases hjn : j < n
  ·rw [List.getElem?_append_left (by omega)] at hj
   exact hx j p hj
  ·rw [List.getElem?_append_right (by omega)] at hj
   have : j = n := by
    have := List.getElem?_eq_some_iff.1 hj
    obtain ⟨h1, _⟩ := this
    simp at h1
    omega
   subst this
   rw [hl] at hj
   have e : a = p := by simpa using hj
   exact e ▸ ha
theorem add_add_ (a : Addr) (i j : Nat) : (a.add i).add j = a.add (i + j) := by
 unfold Addr.add
 (repeat' split) <;> simp_all <;> omega
theorem zq4 {α : Type} {P : Program} {t e : TypeId} {d : Kd α} {wf : α → Prop} (ht : P.underlying t = some (.slice e)) (hsz : P.cellsOf e = d.sz) (hd : Opens P e d wf) :
  Opens P t (Kd.slice e d) (fun xs => xs.length ≤ maxLen ∧ ∀ x ∈ xs, wf x) := by
 intro H enc w base spare held fuel cs x h
 rcases Go.Deep.open_slice ht h with ⟨rfl, _⟩ | ⟨a, len, cap, m, n, D, Pl, rfl, _, hl, hm, hmm, _, hel⟩
 ·exact ⟨[], ⟨none, 0, rfl, Nat.le_refl _, rfl, by simp, fun h => absurd h (by simp)⟩, by simp, by simp⟩
 ·have hlm : len ≤ m := by rw [hmm]; split <;> omega
  obtain ⟨xs, hxl, hx⟩ := list_of (Q := fun i p => (∃ c, c.length = d.sz ∧ d.K w p c ∧ ∀ k u, c[k]? = some u → w.cell? (a.add (i * d.sz + k)) = some u) ∧ wf p) len (fun i hi => by
   obtain ⟨cs', h1, h2⟩ := hel i (by omega)
   obtain ⟨p, hk, hw⟩ := hd h2
   obtain ⟨_, hlen, hcell⟩ := World.cells?_some h1
   refine ⟨p, ⟨cs', d.K_len hk, hk, fun k u hu => ?_⟩, hw⟩
   have hkl : k < P.cellsOf e := by
    obtain ⟨h3, _⟩ := List.getElem?_eq_some_iff.1 hu
    omega
   rw [← hu, ← hcell k hkl, add_add_, hsz])
  refine ⟨xs, ⟨some a, cap, by rw [hxl], by omega, rfl, ?_, fun _ => ⟨a, rfl, fun j p hj => (hx j p hj).1⟩⟩, by omega, fun p hp => ?_⟩
  ·have : maxLen = 9223372036854775807 := by decide
   omega
  ·obtain ⟨j, hj⟩ := List.getElem?_of_mem hp
   exact (hx j p hj).2
theorem open_row {α : Type} {P : Program} {t e : TypeId} {d : Kd α} {wf : α → Prop} (ht : P.underlying t = some (.slice e)) (hsz : P.cellsOf e = d.sz) (hd : Opens P e d wf)
  {H : Type} {enc : TypeId × Value → H} {w : World} {base : Nat} {spare : Nat → Bool} {held : Bool} {a : Option Addr} {len cap : Nat} {D : DataW H} {ps : List MemPlace} (h : DataW.Trod enc P w base spare held t (.slice a len cap) D ps) :
  ∃ l : List α, len = l.length ∧ l.length ≤ cap ∧ d.C w a l.length l ∧ l.length ≤ maxLen ∧ ∀ x ∈ l, wf x := by
 obtain ⟨fuel, hf⟩ := h
 obtain ⟨l, ⟨A, c, e0, hc, hr⟩, hm, hw⟩ := zq4 ht hsz hd hf
 simp [Value.cells] at e0
 obtain ⟨rfl, rfl, rfl⟩ := e0
 exact ⟨l, rfl, hc, hr, hm, hw⟩
theorem sized_row {H : Type} {enc : TypeId × Value → H} {P : Program} {W : World} {base : Nat} {spare : Nat → Bool} {held : Bool} {t e : TypeId} {a : Option Addr} {len cap : Nat} {d : DataW H} {ps : List MemPlace} {ts : List TypeId} {ds : List (DataW H)} {j : Nat}
  (hsz : (DataW.weightsEach P ts ds).all (· ≤ reachBytes) = true) (ht : ts[j]? = some t) (hd : ds[j]? = some d) (hu : P.underlying t = some (.slice e)) {B : Nat} (hB : P.bytesOf e = B)
  (h : DataW.Trod enc P W base spare held t (.slice a len cap) d ps) : len * B ≤ 140737488351232 := by
 obtain ⟨fuel, hf⟩ := h
 rcases DataW.trod_slice hu hf with ⟨hcs, _⟩ | ⟨x, l, c, elems, rest, n, _, hcs, hx, _, hl, hm, hlen, _⟩
 ·simp [Value.cells] at hcs
  obtain ⟨rfl, rfl, rfl⟩ := hcs
  simp
 ·simp [Value.cells] at hcs
  obtain ⟨rfl, rfl, rfl⟩ := hcs
  obtain ⟨hx, _⟩ := Prod.mk.inj hx
  subst hx
  have z := sized_slice hsz ht hd hu
  rw [hB] at z
  exact Nat.le_trans (Nat.mul_le_mul_right _ (by simp; omega)) z
theorem zj7 {α β : Type} {a : Kd α} {b : Kd β} {w : World} {x : α} {y : β} {cs : List Value} (off k : Nat) (h0 : a.K w x ((cs.drop off).take k)) (h1 : b.K w y (cs.drop (off + k))) : (Kd.pair a b).K w (x, y) (cs.drop off) :=
 ⟨_, _, by rw [← List.drop_drop, List.take_append_drop], h0, h1⟩
theorem last_at {α : Type} {a : Kd α} {w : World} {x : α} {cs : List Value} (off k : Nat) (hl : cs.length = off + k) (h0 : a.K w x ((cs.drop off).take k)) : a.K w x (cs.drop off) := by
 rwa [List.take_of_length_le (by rw [List.length_drop]; omega)] at h0
theorem z3a {α : Type} {a : Kd α} {w : World} {x : α} {cs : List Value} (h : a.K w x (cs.drop 0)) : a.K w x cs := h
theorem opens_st36 : Opens Tryz.prog 36 k36 (fun x => (Lit.int .i64 x.f0).wf = true ∧ (Lit.int .i64 x.f1).wf = true ∧ x.f2.size ≤ maxLen ∧ (x.f3.length ≤ maxLen ∧ ∀ y ∈ x.f3, y.size ≤ maxLen)) := by
 intro H enc w base spare held fuel cs x h
 obtain ⟨xs, n, _, _, hl, hlen, hf⟩ := DataW.trod_struct Tryz.underlying36 h
 have hl' : cs.length = 4 := hl.trans (by kernel_rfl)
 have h_0 : DataW.trod enc Tryz.prog w base spare held n 3 ((cs.drop 0).take (Tryz.prog.cellsOf 3)) = xs[0]? := hf 0 _ rfl
 rw [show Tryz.prog.cellsOf 3 = 1 by kernel_rfl, List.getElem?_eq_getElem (by rw [hlen]; decide)] at h_0
 obtain ⟨a_0, k_0, w_0⟩ := (zx6 Tryz.underlying3) h_0
 have h_1 : DataW.trod enc Tryz.prog w base spare held n 3 ((cs.drop 1).take (Tryz.prog.cellsOf 3)) = xs[1]? := hf 1 _ rfl
 rw [show Tryz.prog.cellsOf 3 = 1 by kernel_rfl, List.getElem?_eq_getElem (by rw [hlen]; decide)] at h_1
 obtain ⟨a_1, k_1, w_1⟩ := (zx6 Tryz.underlying3) h_1
 have h_2 : DataW.trod enc Tryz.prog w base spare held n 9 ((cs.drop 2).take (Tryz.prog.cellsOf 9)) = xs[2]? := hf 2 _ rfl
 rw [show Tryz.prog.cellsOf 9 = 1 by kernel_rfl, List.getElem?_eq_getElem (by rw [hlen]; decide)] at h_2
 obtain ⟨a_2, k_2, w_2⟩ := (zd4 Tryz.underlying9) h_2
 have h_3 : DataW.trod enc Tryz.prog w base spare held n 27 ((cs.drop 3).take (Tryz.prog.cellsOf 27)) = xs[3]? := hf 3 _ rfl
 rw [show Tryz.prog.cellsOf 27 = 1 by kernel_rfl, List.getElem?_eq_getElem (by rw [hlen]; decide)] at h_3
 obtain ⟨a_3, k_3, w_3⟩ := (zq4 Tryz.underlying27 (by kernel_rfl) (zd4 Tryz.underlying9)) h_3
 exact ⟨⟨a_0, a_1, a_2, a_3⟩, z3a (zj7 0 1 k_0 (zj7 1 1 k_1 (zj7 2 1 k_2 (last_at 3 1 hl' k_3)))), w_0, w_1, w_2, w_3⟩
end
end Go.Proofs.YtmlmiocomlehgaaGreatOpn
end
section
namespace Go.Proofs.YtmlmiocomlehgaaGreatW.PrintWords
open Go.ChangeShapes Go.WideShapes
section
theorem sized_ints {H : Type} {enc : TypeId × Value → H} {P : Program} {W : World} {base : Nat} {spare : Nat → Bool} {held : Bool} {t e : TypeId} {k : IntKind} {a : Option Addr} {len cap : Nat} {d : DataW H} {ps : List MemPlace} {ts : List TypeId} {ds : List (DataW H)} {j : Nat}
  (hsz : (DataW.weightsEach P ts ds).all (· ≤ reachBytes) = true) (ht : ts[j]? = some t) (hd : ds[j]? = some d) (hu : P.underlying t = some (.slice e)) (he : P.underlying e = some (.int k)) (hc : P.cellsOf e = 1) {B : Nat} (hB : P.bytesOf e = B)
  (h : DataW.Trod enc P W base spare held t (.slice a len cap) d ps) : len * B ≤ 140737488351232 := by
 obtain ⟨fuel, hf⟩ := h
 rcases open_ints hu he hc hf with ⟨hcs, _⟩ | ⟨x, l, c, zs, hcs, _, hl, _, hz, hx, _, _⟩
 ·simp [Value.cells] at hcs
  obtain ⟨rfl, rfl, rfl⟩ := hcs
  simp
 ·simp [Value.cells] at hcs
  obtain ⟨rfl, rfl, rfl⟩ := hcs
  obtain ⟨hx, _⟩ := Prod.mk.inj hx
  subst hx
  have z := sized_slice hsz ht hd hu
  rw [hB] at z
  have hl2 : len ≤ zs.length := by
   rw [hz]
   split
   ·exact hl
   ·exact Nat.le_refl _
  have h1 : (lits (H := H) k (zs.take len)).length + (lits (H := H) k (zs.drop len)).length = zs.length := by
   simp [lits]
   omega
  rw [h1] at z
  exact Nat.le_trans (Nat.mul_le_mul_right _ hl2) z
end
end Go.Proofs.YtmlmiocomlehgaaGreatW.PrintWords
end
