/-
  Contracts of functions, proved by walking them, and plain facts, several texts in one. Conditions: none.
-/
import Derived.Test.YtmlmiocomlehgaaGreatV3
set_option linter.unusedVariables false
set_option linter.unusedSimpArgs false
set_option linter.unusedSectionVars false
set_option maxHeartbeats 16000000
set_option maxRecDepth 100000
section
namespace Go.Proofs.YtmlmiocomlehgaaGreat.Man
open Go.RowKit Go.Proofs.YtmlmiocomlehgaaGreatW.PrintWords Go.Proofs.YtmlmiocomlehgaaGreatW.PrintLast Go.Proofs.YtmlmiocomlehgaaGreatW.PrintMore Go.Proofs.YtmlmiocomlehgaaGreat.PA Go.Proofs.YtmlmiocomlehgaaGreat.PR Go.Proofs.YtmlmiocomlehgaaGreat.PF Go.Proofs.YtmlmiocomlehgaaGreat.Na Go.Proofs.YtmlmiocomlehgaaGreat.Hid
section
def cutK {α : Type} (i : Int) (l : List α) (k : Nat) : List α := ((l.take k).zipIdx.filter (fun p => !decide ((p.2 : Int) = i))).map (·.1)
theorem z33 {α : Type} (i : Int) (l : List α) : cutK i l 0 = [] := by simp [cutK]
theorem zt3 {α : Type} {i : Int} {l : List α} {k : Nat} (h : (k : Int) = i) : cutK i l (k + 1) = cutK i l k := by
 unfold cutK
 by_cases hk : k < l.length
 ·rw [List.take_succ_eq_append_getElem hk, List.zipIdx_append]
  simp [h, Nat.min_eq_left (Nat.le_of_lt hk)]
 ·rw [List.take_of_length_le (by omega), List.take_of_length_le (by omega)]
theorem z13 {α : Type} {i : Int} {l : List α} {k : Nat} {x : α} (h : (k : Int) ≠ i) (hx : l[k]? = some x) : cutK i l (k + 1) = cutK i l k ++ [x] := by
 unfold cutK
 obtain ⟨hk, he⟩ := List.getElem?_eq_some_iff.1 hx
 rw [List.take_succ_eq_append_getElem hk, List.zipIdx_append]
 simp [h, he, Nat.min_eq_left (Nat.le_of_lt hk)]
theorem zc6 {α : Type} (i : Int) (l : List α) (k : Nat) : (cutK i l k).length ≤ k := by
 unfold cutK
 rw [List.length_map]
 refine Nat.le_trans (List.length_filter_le _ _) ?_
 simp
 omega
theorem zzc {w : World} {o1 o2 o3 : Obj} : (((w.alloc o1).alloc o2).alloc o3).heap[w.heap.size]? = some o1 ∧ (((w.alloc o1).alloc o2).alloc o3).heap[w.heap.size + 1]? = some o2 ∧ (((w.alloc o1).alloc o2).alloc o3).heap[w.heap.size + 1 + 1]? = some o3 := by
 refine ⟨zj0 (zj0 (heap_alloc_new w o1) o2) o3, ?_, ?_⟩
 ·have := heap_alloc_new (w.alloc o1) o2
  exact zj0 (by simpa using this) o3
 ·have := heap_alloc_new ((w.alloc o1).alloc o2) o3
  simpa using this
theorem zk1 {W w1 : World} {row : Option Nat} (hg : W.grownBy w1 row) {p : Addr} (hlt : p.block < W.heap.size) (hne : some p.block ≠ row) : w1.cell? p = W.cell? p := World.cell?_of_block (hg.block p.block hlt hne)
theorem zs0 (a : Addr) (k : Nat) : (a.add k).block = a.block := by unfold Addr.add; split <;> rfl
theorem zp1 {α β : Type} {d : Kd α} {d' : Kd β} {e e' base base' : Nat} {ok ok' : Nat → Prop} {W : World} {v v' : Value} {xs : List α} {ys : List β} (h : d.R e W base ok v xs) (h' : d'.R e' W base' ok' v' ys) (he : e' ≠ e) : ∀ k, v.ownBlock = some k → some k ≠ v'.ownBlock := by
 intro k hk
 obtain ⟨inner, ho⟩ := Kd.R_own h
 obtain ⟨cells, hc⟩ := zw1 ho k hk
 exact Kd.R_ne h' hc he
theorem za5 {α : Type} {d : Kd α} {e base : Nat} {ok : Nat → Prop} {W : World} {v : Value} {xs : List α} (h : d.R e W base ok v xs) {k : Nat} (hk : k < base) : some k ≠ v.ownBlock := by
 obtain ⟨inner, ho⟩ := Kd.R_own h
 intro he
 have := zm2 ho k he.symm
 omega
theorem rd_lt {α : Type} {enc : α → Value} {h1 : ∀ x, (enc x).oneCell' = true} {e n c : Nat} {b : Nat → Prop} {W : World} {ad : Addr} {xs : List α} (h : Rd enc h1 e b W (.slice (some ad) n c) xs) : ad.block < W.heap.size := by
 obtain ⟨A, c', hv, _, _, hA⟩ := h
 injection hv with hv _ _
 obtain ⟨_, cells, hc⟩ := hA ad hv.symm
 exact z70 hc
theorem Kd.R_mv {α : Type} {d : Kd α} {e base g t : Nat} {ok : Nat → Prop} {W W1 : World} {v : Value} {xs : List α} {cs : Array Value} (h : d.R e W base ok v xs) (hg : W.heap[g]? = some (.cells cs t (0, 0))) (ht : ∀ q, q ∈ e :: d.E → q ≠ t) (hk : ∀ k, k ≠ g → W1.heap[k]? = W.heap[k]?) : d.R e W1 base ok v xs := Kd.R_mono (Kd.R_step (Kd.R_types h hg ht) (fun k hk' _ => hk k hk'.2)) (fun _ hk => hk.1)
theorem put_ {P : Program} {ops : Array Oper} {Q : Exit → Act → World → Prop} {oi : Oper} {a : Act} {w w1 : World} {K : Act → World → Prop} (hw : Region.wanted oi (yielded ops a.tmps) = true) (hN : oi.dst = none) (hrun : (execOp a.eval oi).run P w = .ok .skip w1) (h : K (a.put none undef) w1) :
  if Region.wanted oi (yielded ops a.tmps) = true then Oper.wp P oi a w K Q else K (a.put none undef) w := by
 rw [if_pos hw]
 unfold Oper.wp
 rw [hrun]
 show K (a.put oi.dst undef) w1
 rw [hN]
 exact h
theorem info9s : (Tryz.prog.info? 9).map (fun i => (i.zero, i.size, i.bytes)) = some (some (.string ⟨#[]⟩), 1, 16) := by kernel_rfl
def rcut.T9 : Bool × List (List Nat × List Nat) := (true, [([], []), ([0], [0]), ([], []), ([2], [2]), ([], []), ([3, 4], [3, 4]), ([5], [5]), ([6], [6]), ([1, 7], [1, 7]), ([0, 1, 2, 3, 4, 5, 6, 7, 8], []), ([9, 8, 8, 0, 1, 2, 3, 4, 5, 6, 7, 8], [8, 9])])
theorem rcut.tab9 : rtab .any (opsOf Tryz.f61 9) = rcut.T9 := by kernel_rfl
def rcut.T10 : Bool × List (List Nat × List Nat) := (true, [([], []), ([0], [0]), ([], []), ([2], [2]), ([], []), ([3, 4], [3, 4]), ([5], [5]), ([6], [6]), ([1, 7], [1, 7]), ([0, 1, 2, 3, 4, 5, 6, 7, 8], []), ([9, 8, 8, 0, 1, 2, 3, 4, 5, 6, 7, 8], [8, 9])])
theorem rcut.tab10 : rtab .any (opsOf Tryz.f61 10) = rcut.T10 := by kernel_rfl
def rcut.T11 : Bool × List (List Nat × List Nat) := (true, [([], []), ([0], [0]), ([], []), ([2], [2]), ([], []), ([3, 4], [3, 4]), ([5], [5]), ([6], [6]), ([1, 7], [1, 7]), ([0, 1, 2, 3, 4, 5, 6, 7, 8], []), ([9, 8, 8, 0, 1, 2, 3, 4, 5, 6, 7, 8], [8, 9])])
theorem rcut.tab11 : rtab .any (opsOf Tryz.f61 11) = rcut.T11 := by kernel_rfl
section
variable {b : Nat → Prop} {w : World}
theorem zw8 (i : Int) (r : RF) {vs : Value} (h : FR b w vs r) (hS : r.S.length = r.N.length) (hL : r.L.length = r.N.length) (hl : r.N.length ≤ 1000000) :
  Calls Tryz.prog 61 #[vs, .int .i64 i] w fun e w' => ∃ vN vS vL v3 v4 v5, e = .returned (.agg #[.int .i64 r.each, .int .i64 r.guard, vN, vS, vL, v3, v4, v5]) ∧ Kd.R Kd.string 9 w' w.heap.size (fun _ => True) vN (cutK i r.N r.N.length) ∧ Kd.R (Kd.int .i64) 3 w' w.heap.size (fun _ => True) vS (cutK i r.S r.N.length) ∧ Kd.R Kd.bool 4 w' w.heap.size (fun _ => True) vL (cutK i r.L r.N.length) ∧ RdS b w' v3 r.d.w ∧ RdS b w' v4 r.d.u ∧ RdI b w' v5 r.d.a ∧ Below w.heap.size w w' := by
 obtain ⟨v0, v1, v2, v3, v4, v5, rfl, h0, h1, h2, h3, h4, h5⟩ := h
 have H0 := as0 h0
 have H1 := as0 h1
 have H2 := as0 h2
 have H3 := as0 h3
 have H4 := as0 h4
 have H5 := as0 h5
 obtain ⟨A0, c0, rfl⟩ := h0.slice
 obtain ⟨A1, c1, rfl⟩ := h1.slice
 obtain ⟨A2, c2, rfl⟩ := h2.slice
 obtain ⟨A3, c3, rfl⟩ := h3.slice
 obtain ⟨A4, c4, rfl⟩ := h4.slice
 obtain ⟨A5, c5, rfl⟩ := h5.slice
 have HS := as0 hS
 have HL := as0 hL
 have HLN := as0 hl
 clear h0 h1 h2 h3 h4 h5 hS hL hl
 go_enter Tryz.func61, Tryz.ntmps61
 go_upto_region 5 with fail
 obtain ⟨w4, hw4⟩ : ∃ W, W = ((w.alloc (.cells #[.int .i64 r.each, .int .i64 r.guard, .slice A0 r.N.length c0, .slice A1 r.S.length c1, .slice A2 r.L.length c2, .slice A3 r.d.w.length c3, .slice A4 r.d.u.length c4, .slice A5 r.d.a.length c5] 33)).alloc (.cells #[.int .i64 0, .int .i64 0, .slice none 0 0, .slice none 0 0, .slice none 0 0, .slice none 0 0, .slice none 0 0, .slice none 0 0] 33)).alloc (.cells #[.int .i64 r.each, .int .i64 r.guard, .slice none 0 0, .slice none 0 0, .slice none 0 0, .slice A3 r.d.w.length c3, .slice A4 r.d.u.length c4, .slice A5 r.d.a.length c5] 33) := ⟨_, rfl⟩
 have hbk : w4.heap[w.heap.size]? = some (.cells #[.int .i64 r.each, .int .i64 r.guard, .slice A0 r.N.length c0, .slice A1 r.S.length c1, .slice A2 r.L.length c2, .slice A3 r.d.w.length c3, .slice A4 r.d.u.length c4, .slice A5 r.d.a.length c5] 33 (0, 0)) ∧ w4.heap[w.heap.size + 1]? = some (.cells #[.int .i64 0, .int .i64 0, .slice none 0 0, .slice none 0 0, .slice none 0 0, .slice none 0 0, .slice none 0 0, .slice none 0 0] 33 (0, 0)) ∧ w4.heap[w.heap.size + 1 + 1]? = some (.cells #[.int .i64 r.each, .int .i64 r.guard, .slice none 0 0, .slice none 0 0, .slice none 0 0, .slice A3 r.d.w.length c3, .slice A4 r.d.u.length c4, .slice A5 r.d.a.length c5] 33 (0, 0)) := by rw [hw4]; exact zzc
 have HB4 : Aside0 (Below w.heap.size w w4) := ⟨by rw [hw4]; exact z80 (z80 (z80 (Below.refl _ w) _) _) _⟩
 rw [← hw4]
 obtain ⟨hbf, hbz, hbo⟩ := hbk
 have HBF := as0 hbf
 have HBZ := as0 hbz
 have HBO := as0 hbo
 obtain ⟨gf, hgf⟩ : ∃ g, g = w.heap.size := ⟨_, rfl⟩
 obtain ⟨gz, hgz⟩ : ∃ g, g = w.heap.size + 1 := ⟨_, rfl⟩
 obtain ⟨go, hgo⟩ : ∃ g, g = w.heap.size + 1 + 1 := ⟨_, rfl⟩
 have NFO : Aside0 (gf ≠ go) := ⟨by omega⟩
 have NZO : Aside0 (gz ≠ go) := ⟨by omega⟩
 have GZ : Aside0 (w.heap.size ≤ gz) := ⟨by omega⟩
 have GO : Aside0 (w.heap.size ≤ go) := ⟨by omega⟩
 rw [← hgo, ← hgz, ← hgf]
 rw [← hgf] at HBF
 rw [← hgz] at HBZ
 rw [← hgo] at HBO
 clear hw4 hbf hbz hbo hgf hgz hgo
 go_wp2
 go_loopw [6] (fun v6 wr => ∃ (k : Nat) (vN vS vL : Value), k ≤ r.N.length ∧ v6 = .int .i64 (k : Int) ∧ Aside0 (wr.heap[gf]? = some (.cells #[.int .i64 r.each, .int .i64 r.guard, .slice A0 r.N.length c0, .slice A1 r.S.length c1, .slice A2 r.L.length c2, .slice A3 r.d.w.length c3, .slice A4 r.d.u.length c4, .slice A5 r.d.a.length c5] 33 (0, 0))) ∧ Aside0 (wr.heap[gz]? = some (.cells #[.int .i64 0, .int .i64 0, .slice none 0 0, .slice none 0 0, .slice none 0 0, .slice none 0 0, .slice none 0 0, .slice none 0 0] 33 (0, 0))) ∧ Aside0 (wr.heap[go]? = some (.cells #[.int .i64 r.each, .int .i64 r.guard, vN, vS, vL, .slice A3 r.d.w.length c3, .slice A4 r.d.u.length c4, .slice A5 r.d.a.length c5] 33 (0, 0))) ∧ Aside0 (Kd.R Kd.string 9 wr w.heap.size (fun _ => True) vN (cutK i r.N k)) ∧ Aside0 (Kd.R (Kd.int .i64) 3 wr w.heap.size (fun _ => True) vS (cutK i r.S k)) ∧ Aside0 (Kd.R Kd.bool 4 wr w.heap.size (fun _ => True) vL (cutK i r.L k)) ∧ Aside0 (Below w.heap.size w wr)) (fun v6 _ => r.N.length - (intOf v6).toNat)
 case atStart => exact ⟨0, _, _, _, Nat.zero_le _, rfl, HBF, HBZ, HBO, ⟨by rw [z33]; exact Kd.R_nil _ _ _ _ _⟩, ⟨by rw [z33]; exact Kd.R_nil _ _ _ _ _⟩, ⟨by rw [z33]; exact Kd.R_nil _ _ _ _ _⟩, HB4⟩
 case round =>
  obtain ⟨k, vN, vS, vL, hk, rfl, BF, BZ, BO, RN, RS, RL, HB⟩ := hrel
  obtain ⟨f0, f1, f2, f3, f4, f5, f6, f7⟩ := zy3 BF.out
  have hkm : k ≤ 1000000 := by have := HLN.out; omega
  by_cases hlt : k < r.N.length
  ·have hkI : (k : Int) < (r.N.length : Int) := by omega
   have hkS : (k : Int) < (r.S.length : Int) := by have := HS.out; omega
   have hkL : (k : Int) < (r.L.length : Int) := by have := HL.out; omega
   have hk0 : (0 : Int) ≤ (k : Int) := by omega
   by_cases hi : (k : Int) = i
   ·have hd : ((k : Int) != i) = false := by simp [hi]
    have HI := as0 hi
    clear hi
    go_wp2
    go_roundw
    case measure => simp [intOf]; omega
    case rel => exact ⟨k + 1, vN, vS, vL, by omega, by rw [show ((k : Int) + 1) = ((k + 1 : Nat) : Int) by omega], BF, BZ, BO, ⟨by rw [zt3 HI.out]; exact RN.out⟩, ⟨by rw [zt3 HI.out]; exact RS.out⟩, ⟨by rw [zt3 HI.out]; exact RL.out⟩, HB⟩
   ·have hd : ((k : Int) != i) = true := by simp [hi]
    obtain ⟨xN, hxN⟩ : ∃ x, r.N[k]? = some x := ⟨_, List.getElem?_eq_getElem hlt⟩
    obtain ⟨xS, hxS⟩ : ∃ x, r.S[k]? = some x := ⟨_, List.getElem?_eq_getElem (by have := HS.out; omega)⟩
    obtain ⟨xL, hxL⟩ : ∃ x, r.L[k]? = some x := ⟨_, List.getElem?_eq_getElem (by have := HL.out; omega)⟩
    have EN := as0 (z13 hi hxN)
    have ES := as0 (z13 hi hxS)
    have EL := as0 (z13 hi hxL)
    have LN : Aside0 ((cutK i r.N k).length ≤ 1000000) := ⟨by have := zc6 i r.N k; have := HLN.out; omega⟩
    have LS : Aside0 ((cutK i r.S k).length ≤ 1000000) := ⟨by have := zc6 i r.S k; have := HLN.out; omega⟩
    have LL : Aside0 ((cutK i r.L k).length ≤ 1000000) := ⟨by have := zc6 i r.L k; have := HLN.out; omega⟩
    generalize cutK i r.N k = yN at RN EN LN
    generalize cutK i r.S k = yS at RS ES LS
    generalize cutK i r.L k = yL at RL EL LL
    obtain ⟨adN, hadN, qN⟩ := (H0.out.below HB.out).at hxN
    obtain ⟨adS, hadS, qS⟩ := (H1.out.below HB.out).at hxS
    obtain ⟨adL, hadL, qL⟩ := (H2.out.below HB.out).at hxL
    subst hadN hadS hadL
    have LAN := as0 (rd_lt H0.out)
    have LAS := as0 (rd_lt H1.out)
    have LAL := as0 (rd_lt H2.out)
    have QN := as0 qN
    have QS := as0 qS
    have QL := as0 qL
    clear hi hxN hxS hxL qN qS qL hlt
    go_upto_region 9 with fail
    refine zy1 (n := 11) (S := fun w' => w'.cell? ⟨go, 2, none⟩ = some vN ∧ w'.cell? ⟨gf, 2, none⟩ = some (.slice (some adN) r.N.length c0) ∧ w'.cell? (adN.add k) = some (.string xN)) (ds := [10]) #[ff,ff,ff,ff,ff,ff,ff,ff,ff,ff,ff] (by kernel_rfl) rfl rfl ⟨(z60 BO.out 2).trans rfl, (z60 BF.out 2).trans rfl, QN.out⟩ (fun hHeld => ?_); refine zc1 rcut.tab9 (fun HT_ => ?_)
    obtain ⟨Wd, hWd⟩ : ∃ Wd, Wd = wr.drew := ⟨_, rfl⟩
    rw [← hWd] at hHeld ⊢
    have BFd : Aside0 (Wd.heap[gf]? = some (.cells #[.int .i64 r.each, .int .i64 r.guard, .slice (some adN) r.N.length c0, .slice (some adS) r.S.length c1, .slice (some adL) r.L.length c2, .slice A3 r.d.w.length c3, .slice A4 r.d.u.length c4, .slice A5 r.d.a.length c5] 33 (0, 0))) := ⟨by rw [hWd]; exact BF.out⟩
    have BZd : Aside0 (Wd.heap[gz]? = some (.cells #[.int .i64 0, .int .i64 0, .slice none 0 0, .slice none 0 0, .slice none 0 0, .slice none 0 0, .slice none 0 0, .slice none 0 0] 33 (0, 0))) := ⟨by rw [hWd]; exact BZ.out⟩
    have BOd : Aside0 (Wd.heap[go]? = some (.cells #[.int .i64 r.each, .int .i64 r.guard, vN, vS, vL, .slice A3 r.d.w.length c3, .slice A4 r.d.u.length c4, .slice A5 r.d.a.length c5] 33 (0, 0))) := ⟨by rw [hWd]; exact BO.out⟩
    have RNd : Aside0 (Kd.R Kd.string 9 Wd w.heap.size (fun _ => True) vN yN) := ⟨by rw [hWd]; exact Kd.R_drew RN.out⟩
    have RSd : Aside0 (Kd.R (Kd.int .i64) 3 Wd w.heap.size (fun _ => True) vS yS) := ⟨by rw [hWd]; exact Kd.R_drew RS.out⟩
    have RLd : Aside0 (Kd.R Kd.bool 4 Wd w.heap.size (fun _ => True) vL yL) := ⟨by rw [hWd]; exact Kd.R_drew RL.out⟩
    have HBd : Aside0 (Below w.heap.size w Wd) := ⟨by rw [hWd]; exact z50 HB.out⟩
    have QNd : Aside0 (Wd.cell? (adN.add k) = some (.string xN)) := ⟨by rw [hWd]; exact QN.out⟩
    have QSd : Aside0 (Wd.cell? (adS.add k) = some (.int .i64 xS)) := ⟨by rw [hWd]; exact QS.out⟩
    have QLd : Aside0 (Wd.cell? (adL.add k) = some (.bool xL)) := ⟨by rw [hWd]; exact QL.out⟩
    clear hWd
    refine zl0 (i := 0) (N := some 26) (v := ?_) (a' := ?_) #[tt,ff,ff,ff,ff,ff,ff,ff,ff,ff,ff] rfl rfl (zh0 HT_.out (by kernel_rfl)) (fun _ _ _ h => h) (Or.inl ⟨by rfl, ?_⟩) ?_ ?_
    rotate_left
    ·intro w'
     go_simp
     with_reducible rfl
    rotate_left
    ·simp only [Act.put, lSI, lS0, lS1, ze0, zd0]
     rfl
    refine zl0 (i := 2) (N := some 28) (v := ?_) (a' := ?_) #[tt,ff,tt,ff,ff,ff,ff,ff,ff,ff,ff] rfl rfl (zh0 HT_.out (by kernel_rfl)) (fun _ _ _ h => h) (Or.inl ⟨by rfl, ?_⟩) ?_ ?_
    rotate_left
    ·intro w'
     go_simp
     with_reducible rfl
    rotate_left
    ·simp only [Act.put, lSI, lS0, lS1, ze0, zd0]
     rfl
    refine zl0 (i := 4) (N := some 30) (v := ?_) (a' := ?_) #[tt,ff,tt,ff,tt,ff,ff,ff,ff,ff,ff] rfl rfl (zh0 HT_.out (by kernel_rfl)) (fun _ _ _ h => h) (Or.inl ⟨by rfl, ?_⟩) ?_ ?_
    rotate_left
    ·intro w'
     go_simp
     with_reducible rfl
    rotate_left
    ·simp only [Act.put, lSI, lS0, lS1, ze0, zd0]
     rfl
    refine take_ (i := 1) (N := some 27) (v := ?_) (a' := ?_) #[tt,tt,tt,ff,tt,ff,ff,ff,ff,ff,ff] rfl rfl (zp0 HT_.out (by kernel_rfl)) (fun _ _ _ h => h) (Or.inl ⟨by rfl, ?_⟩) hHeld ?_ ?_
    rotate_left
    ·intro w' hS_
     obtain ⟨s0, s1, s2⟩ := hS_
     go_simp
     with_reducible rfl
    rotate_left
    ·simp only [Act.put, lSI, lS0, lS1, ze0, zd0]
     rfl
    refine take_ (i := 3) (N := some 29) (v := ?_) (a' := ?_) #[tt,tt,tt,tt,tt,ff,ff,ff,ff,ff,ff] rfl rfl (zp0 HT_.out (by kernel_rfl)) (fun _ _ _ h => h) (Or.inl ⟨by rfl, ?_⟩) hHeld ?_ ?_
    rotate_left
    ·intro w' hS_
     obtain ⟨s0, s1, s2⟩ := hS_
     go_simp
     with_reducible rfl
    rotate_left
    ·simp only [Act.put, lSI, lS0, lS1, ze0, zd0]
     rfl
    refine zl0 (i := 5) (N := some 31) (v := ?_) (a' := ?_) #[tt,tt,tt,tt,tt,tt,ff,ff,ff,ff,ff] rfl rfl (zh0 HT_.out (by kernel_rfl)) (fun _ _ _ h => h) (Or.inl ⟨by rfl, ?_⟩) ?_ ?_
    rotate_left
    ·intro w'
     go_simp
     with_reducible rfl
    rotate_left
    ·simp only [Act.put, lSI, lS0, lS1, ze0, zd0]
     rfl
    refine take_ (i := 6) (N := some 32) (v := ?_) (a' := ?_) #[tt,tt,tt,tt,tt,tt,tt,ff,ff,ff,ff] rfl rfl (zp0 HT_.out (by kernel_rfl)) (fun _ _ _ h => h) (Or.inl ⟨by rfl, ?_⟩) hHeld ?_ ?_
    rotate_left
    ·intro w' hS_
     obtain ⟨s0, s1, s2⟩ := hS_
     go_simp
     with_reducible rfl
    rotate_left
    ·simp only [Act.put, lSI, lS0, lS1, ze0, zd0]
     rfl
    refine zx2 (i := 7) (N := some 33) #[tt,tt,tt,tt,tt,tt,tt,tt,ff,ff,ff] rfl rfl (z21 HT_.out (by kernel_rfl)) (by decide) (fun K hK => ?_)
    refine zv8 (w1 := ?_) (v := ?_) (by rfl) rfl ?_ ?_
    rotate_left 2
    ·go_simp
     constructor
     ·rfl
     ·rfl
    refine hK.out _ _ ⟨(z60 (zj0 BOd.out _) 2).trans rfl, (z60 (zj0 BFd.out _) 2).trans rfl, ((z80 (Below.refl _ _) _).cell (p := adN.add k) (by rw [zs0]; exact Nat.lt_of_lt_of_le LAN.out HBd.out.size)).trans QNd.out⟩ (fun hHeld => ?_)
    clear hK K
    refine zh1 (a' := ?_) ?_ ?_
    rotate_left
    ·show Act.put _ (some 33) _ = _
     simp only [Act.put, lSI, lS0, lS1, ze0, zd0]
     rfl
    refine zx2 (i := 8) (N := some 34) #[tt,tt,tt,tt,tt,tt,tt,tt,tt,ff,ff] rfl rfl (z21 HT_.out (by kernel_rfl)) (by decide) (fun K hK => ?_)
    refine Kd.R_append_step Kd.string (w0 := w) w.heap.size (by rfl) (.tmp 27) (.tmp 33) 27 9 (.string ⟨#[]⟩) 16 rfl Tryz.underlying27 info9s rfl (by decide) (by omega) vN yN xN [.string xN] (fun _ => True) (fun _ => False) (by rfl) (by rfl) ?aP (fun _ h => h.elim) (fun _ _ => trivial) ?aO ?aB ?aS ?aL ?_
    (case aP => rfl); (case aO => exact RNd.out); (case aB => exact HBd.out); (case aS => exact HBd.out.size); (case aL => have := LN.out; omega)
    intro u9 wx9 ho hb_ hg hat
    obtain ⟨Au9, nu9, hu_⟩ := Kd.R_slice ho; obtain ⟨m9, hm_⟩ : ∃ m, m = (yN ++ [xN]).length := ⟨_, rfl⟩; rw [← hm_] at hu_; subst hu_; clear hm_
    have RNx9 := as0 ho
    have HBx9 := as0 hb_
    have HGx9 := as0 hg
    have BFx9 := as0 ((hg.block gf (z70 BFd.out) (Kd.R_ne RNd.out BFd.out (by decide))).trans BFd.out)
    have BZx9 := as0 ((hg.block gz (z70 BZd.out) (Kd.R_ne RNd.out BZd.out (by decide))).trans BZd.out)
    have BOx9 := as0 ((hg.block go (z70 BOd.out) (Kd.R_ne RNd.out BOd.out (by decide))).trans BOd.out)
    have RSx9 := as0 (Kd.R_grown2 RSd.out rfl hg (zp1 RNd.out RSd.out (by decide)))
    have RLx9 := as0 (Kd.R_grown2 RLd.out rfl hg (zp1 RNd.out RLd.out (by decide)))
    have QNx9 := as0 ((zk1 hg (p := adN.add k) (by rw [zs0]; exact Nat.lt_of_lt_of_le LAN.out HBd.out.size) (by rw [zs0]; exact za5 RNd.out LAN.out)).trans QNd.out)
    have QSx9 := as0 ((zk1 hg (p := adS.add k) (by rw [zs0]; exact Nat.lt_of_lt_of_le LAS.out HBd.out.size) (by rw [zs0]; exact za5 RNd.out LAS.out)).trans QSd.out)
    have QLx9 := as0 ((zk1 hg (p := adL.add k) (by rw [zs0]; exact Nat.lt_of_lt_of_le LAL.out HBd.out.size) (by rw [zs0]; exact za5 RNd.out LAL.out)).trans QLd.out)
    have of9 : wx9.frozen? ⟨go, 2, none⟩ = false := z40 BOx9.out 2
    have ol9 := z70 BOx9.out
    have oc9 := (z60 BOx9.out 2)
    clear ho hb_ hg hat
    refine hK.out _ _ ⟨(z60 BOx9.out 2).trans rfl, (z60 BFx9.out 2).trans rfl, QNx9.out⟩ (fun hHeld => ?_)
    clear hK K
    refine zh1 (a' := ?_) ?_ ?_
    rotate_left
    ·show Act.put _ (some 34) _ = _
     simp only [Act.put, lSI, lS0, lS1, ze0, zd0]
     rfl
    refine zl0 (i := 9) (N := some 35) (v := ?_) (a' := ?_) #[tt,tt,tt,tt,tt,tt,tt,tt,tt,tt,ff] rfl rfl (zh0 HT_.out (by kernel_rfl)) (fun _ _ _ h => h) (Or.inl ⟨by rfl, ?_⟩) ?_ ?_
    rotate_left
    ·intro w'
     go_simp
     with_reducible rfl
    rotate_left
    ·simp only [Act.put, lSI, lS0, lS1, ze0, zd0]
     rfl
    refine z85 (i := 10) (N := none) #[tt,tt,tt,tt,tt,tt,tt,tt,tt,tt,tt] rfl rfl (z21 HT_.out (by kernel_rfl)) (by decide) (fun K hK => ?_)
    refine put_ (w1 := ?_) (by rfl) rfl ?_ ?_
    rotate_left
    ·go_simp
     rfl
    refine hK.out _ _ ?_
    clear hK K
    refine zr2 (zg1 HT_.out (by kernel_rfl)) ?_
    clear hHeld of9 ol9 oc9
    obtain ⟨w9, hw_⟩ : ∃ W, W = (wx9.setCell ⟨go, 2, none⟩ (.slice Au9 m9 nu9)) := ⟨_, rfl⟩
    have BF9 : Aside0 (w9.heap[gf]? = some (.cells #[.int .i64 r.each, .int .i64 r.guard, .slice (some adN) r.N.length c0, .slice (some adS) r.S.length c1, .slice (some adL) r.L.length c2, .slice A3 r.d.w.length c3, .slice A4 r.d.u.length c4, .slice A5 r.d.a.length c5] 33 (0, 0))) := ⟨by rw [hw_]; exact (Below.heap_setCell wx9 ⟨go, 2, none⟩ (.slice Au9 m9 nu9) gf NFO.out).trans BFx9.out⟩
    have BZ9 : Aside0 (w9.heap[gz]? = some (.cells #[.int .i64 0, .int .i64 0, .slice none 0 0, .slice none 0 0, .slice none 0 0, .slice none 0 0, .slice none 0 0, .slice none 0 0] 33 (0, 0))) := ⟨by rw [hw_]; exact (Below.heap_setCell wx9 ⟨go, 2, none⟩ (.slice Au9 m9 nu9) gz NZO.out).trans BZx9.out⟩
    have BO9 : Aside0 (w9.heap[go]? = some (.cells #[.int .i64 r.each, .int .i64 r.guard, (.slice Au9 m9 nu9), vS, vL, .slice A3 r.d.w.length c3, .slice A4 r.d.u.length c4, .slice A5 r.d.a.length c5] 33 (0, 0))) := ⟨by rw [hw_]; exact zz1 BOx9.out 2 (.slice Au9 m9 nu9) rfl⟩
    have RN9 : Aside0 (Kd.R Kd.string 9 w9 w.heap.size (fun _ => True) (.slice Au9 m9 nu9) (yN ++ [xN])) := ⟨by rw [hw_]; exact Kd.R_set RNx9.out BOx9.out (zx0 (by decide)) 2 (.slice Au9 m9 nu9)⟩
    have QN9 : Aside0 (w9.cell? (adN.add k) = some (.string xN)) := ⟨by rw [hw_]; exact (World.cell?_of_block (by rw [zs0]; exact Below.heap_setCell wx9 ⟨go, 2, none⟩ (.slice Au9 m9 nu9) _ (Nat.ne_of_lt (Nat.lt_of_lt_of_le LAN.out GO.out)))).trans QNx9.out⟩
    have RS9 : Aside0 (Kd.R (Kd.int .i64) 3 w9 w.heap.size (fun _ => True) vS (yS)) := ⟨by rw [hw_]; exact Kd.R_set RSx9.out BOx9.out (zx0 (by decide)) 2 (.slice Au9 m9 nu9)⟩
    have QS9 : Aside0 (w9.cell? (adS.add k) = some (.int .i64 xS)) := ⟨by rw [hw_]; exact (World.cell?_of_block (by rw [zs0]; exact Below.heap_setCell wx9 ⟨go, 2, none⟩ (.slice Au9 m9 nu9) _ (Nat.ne_of_lt (Nat.lt_of_lt_of_le LAS.out GO.out)))).trans QSx9.out⟩
    have RL9 : Aside0 (Kd.R Kd.bool 4 w9 w.heap.size (fun _ => True) vL (yL)) := ⟨by rw [hw_]; exact Kd.R_set RLx9.out BOx9.out (zx0 (by decide)) 2 (.slice Au9 m9 nu9)⟩
    have QL9 : Aside0 (w9.cell? (adL.add k) = some (.bool xL)) := ⟨by rw [hw_]; exact (World.cell?_of_block (by rw [zs0]; exact Below.heap_setCell wx9 ⟨go, 2, none⟩ (.slice Au9 m9 nu9) _ (Nat.ne_of_lt (Nat.lt_of_lt_of_le LAL.out GO.out)))).trans QLx9.out⟩
    have HB9 : Aside0 (Below w.heap.size w w9) := ⟨by rw [hw_]; exact zc0 HBx9.out GO.out⟩
    rw [← hw_]
    clear hw_
    go_upto_region 10 with fail
    refine zy1 (n := 11) (S := fun w' => w'.cell? ⟨go, 3, none⟩ = some vS ∧ w'.cell? ⟨gf, 3, none⟩ = some (.slice (some adS) r.S.length c1) ∧ w'.cell? (adS.add k) = some (.int .i64 xS)) (ds := [10]) #[ff,ff,ff,ff,ff,ff,ff,ff,ff,ff,ff] (by kernel_rfl) rfl rfl ⟨(z60 BO9.out 3).trans rfl, (z60 BF9.out 3).trans rfl, QS9.out⟩ (fun hHeld => ?_); refine zc1 rcut.tab10 (fun HT_ => ?_)
    obtain ⟨Wd, hWd⟩ : ∃ Wd, Wd = w9.drew := ⟨_, rfl⟩
    rw [← hWd] at hHeld ⊢
    have BFd : Aside0 (Wd.heap[gf]? = some (.cells #[.int .i64 r.each, .int .i64 r.guard, .slice (some adN) r.N.length c0, .slice (some adS) r.S.length c1, .slice (some adL) r.L.length c2, .slice A3 r.d.w.length c3, .slice A4 r.d.u.length c4, .slice A5 r.d.a.length c5] 33 (0, 0))) := ⟨by rw [hWd]; exact BF9.out⟩
    have BZd : Aside0 (Wd.heap[gz]? = some (.cells #[.int .i64 0, .int .i64 0, .slice none 0 0, .slice none 0 0, .slice none 0 0, .slice none 0 0, .slice none 0 0, .slice none 0 0] 33 (0, 0))) := ⟨by rw [hWd]; exact BZ9.out⟩
    have BOd : Aside0 (Wd.heap[go]? = some (.cells #[.int .i64 r.each, .int .i64 r.guard, (.slice Au9 m9 nu9), vS, vL, .slice A3 r.d.w.length c3, .slice A4 r.d.u.length c4, .slice A5 r.d.a.length c5] 33 (0, 0))) := ⟨by rw [hWd]; exact BO9.out⟩
    have RNd : Aside0 (Kd.R Kd.string 9 Wd w.heap.size (fun _ => True) (.slice Au9 m9 nu9) (yN ++ [xN])) := ⟨by rw [hWd]; exact Kd.R_drew RN9.out⟩
    have RSd : Aside0 (Kd.R (Kd.int .i64) 3 Wd w.heap.size (fun _ => True) vS yS) := ⟨by rw [hWd]; exact Kd.R_drew RS9.out⟩
    have RLd : Aside0 (Kd.R Kd.bool 4 Wd w.heap.size (fun _ => True) vL yL) := ⟨by rw [hWd]; exact Kd.R_drew RL9.out⟩
    have HBd : Aside0 (Below w.heap.size w Wd) := ⟨by rw [hWd]; exact z50 HB9.out⟩
    have QNd : Aside0 (Wd.cell? (adN.add k) = some (.string xN)) := ⟨by rw [hWd]; exact QN9.out⟩
    have QSd : Aside0 (Wd.cell? (adS.add k) = some (.int .i64 xS)) := ⟨by rw [hWd]; exact QS9.out⟩
    have QLd : Aside0 (Wd.cell? (adL.add k) = some (.bool xL)) := ⟨by rw [hWd]; exact QL9.out⟩
    clear hWd
    refine zl0 (i := 0) (N := some 36) (v := ?_) (a' := ?_) #[tt,ff,ff,ff,ff,ff,ff,ff,ff,ff,ff] rfl rfl (zh0 HT_.out (by kernel_rfl)) (fun _ _ _ h => h) (Or.inl ⟨by rfl, ?_⟩) ?_ ?_
    rotate_left
    ·intro w'
     go_simp
     with_reducible rfl
    rotate_left
    ·simp only [Act.put, lSI, lS0, lS1, ze0, zd0]
     rfl
    refine zl0 (i := 2) (N := some 38) (v := ?_) (a' := ?_) #[tt,ff,tt,ff,ff,ff,ff,ff,ff,ff,ff] rfl rfl (zh0 HT_.out (by kernel_rfl)) (fun _ _ _ h => h) (Or.inl ⟨by rfl, ?_⟩) ?_ ?_
    rotate_left
    ·intro w'
     go_simp
     with_reducible rfl
    rotate_left
    ·simp only [Act.put, lSI, lS0, lS1, ze0, zd0]
     rfl
    refine zl0 (i := 4) (N := some 40) (v := ?_) (a' := ?_) #[tt,ff,tt,ff,tt,ff,ff,ff,ff,ff,ff] rfl rfl (zh0 HT_.out (by kernel_rfl)) (fun _ _ _ h => h) (Or.inl ⟨by rfl, ?_⟩) ?_ ?_
    rotate_left
    ·intro w'
     go_simp
     with_reducible rfl
    rotate_left
    ·simp only [Act.put, lSI, lS0, lS1, ze0, zd0]
     rfl
    refine take_ (i := 1) (N := some 37) (v := ?_) (a' := ?_) #[tt,tt,tt,ff,tt,ff,ff,ff,ff,ff,ff] rfl rfl (zp0 HT_.out (by kernel_rfl)) (fun _ _ _ h => h) (Or.inl ⟨by rfl, ?_⟩) hHeld ?_ ?_
    rotate_left
    ·intro w' hS_
     obtain ⟨s0, s1, s2⟩ := hS_
     go_simp
     with_reducible rfl
    rotate_left
    ·simp only [Act.put, lSI, lS0, lS1, ze0, zd0]
     rfl
    refine take_ (i := 3) (N := some 39) (v := ?_) (a' := ?_) #[tt,tt,tt,tt,tt,ff,ff,ff,ff,ff,ff] rfl rfl (zp0 HT_.out (by kernel_rfl)) (fun _ _ _ h => h) (Or.inl ⟨by rfl, ?_⟩) hHeld ?_ ?_
    rotate_left
    ·intro w' hS_
     obtain ⟨s0, s1, s2⟩ := hS_
     go_simp
     with_reducible rfl
    rotate_left
    ·simp only [Act.put, lSI, lS0, lS1, ze0, zd0]
     rfl
    refine zl0 (i := 5) (N := some 41) (v := ?_) (a' := ?_) #[tt,tt,tt,tt,tt,tt,ff,ff,ff,ff,ff] rfl rfl (zh0 HT_.out (by kernel_rfl)) (fun _ _ _ h => h) (Or.inl ⟨by rfl, ?_⟩) ?_ ?_
    rotate_left
    ·intro w'
     go_simp
     with_reducible rfl
    rotate_left
    ·simp only [Act.put, lSI, lS0, lS1, ze0, zd0]
     rfl
    refine take_ (i := 6) (N := some 42) (v := ?_) (a' := ?_) #[tt,tt,tt,tt,tt,tt,tt,ff,ff,ff,ff] rfl rfl (zp0 HT_.out (by kernel_rfl)) (fun _ _ _ h => h) (Or.inl ⟨by rfl, ?_⟩) hHeld ?_ ?_
    rotate_left
    ·intro w' hS_
     obtain ⟨s0, s1, s2⟩ := hS_
     go_simp
     with_reducible rfl
    rotate_left
    ·simp only [Act.put, lSI, lS0, lS1, ze0, zd0]
     rfl
    refine zx2 (i := 7) (N := some 43) #[tt,tt,tt,tt,tt,tt,tt,tt,ff,ff,ff] rfl rfl (z21 HT_.out (by kernel_rfl)) (by decide) (fun K hK => ?_)
    refine zv8 (w1 := ?_) (v := ?_) (by rfl) rfl ?_ ?_
    rotate_left 2
    ·go_simp
     constructor
     ·rfl
     ·rfl
    refine hK.out _ _ ⟨(z60 (zj0 BOd.out _) 3).trans rfl, (z60 (zj0 BFd.out _) 3).trans rfl, ((z80 (Below.refl _ _) _).cell (p := adS.add k) (by rw [zs0]; exact Nat.lt_of_lt_of_le LAS.out HBd.out.size)).trans QSd.out⟩ (fun hHeld => ?_)
    clear hK K
    refine zh1 (a' := ?_) ?_ ?_
    rotate_left
    ·show Act.put _ (some 43) _ = _
     simp only [Act.put, lSI, lS0, lS1, ze0, zd0]
     rfl
    refine zx2 (i := 8) (N := some 44) #[tt,tt,tt,tt,tt,tt,tt,tt,tt,ff,ff] rfl rfl (z21 HT_.out (by kernel_rfl)) (by decide) (fun K hK => ?_)
    refine Kd.R_append_step (Kd.int .i64) (w0 := w) w.heap.size (by rfl) (.tmp 37) (.tmp 43) 28 3 (.int .i64 0) 8 rfl Tryz.underlying28 z76 rfl (by decide) (by omega) vS yS xS [.int .i64 xS] (fun _ => True) (fun _ => False) (by rfl) (by rfl) ?aP (fun _ h => h.elim) (fun _ _ => trivial) ?aO ?aB ?aS ?aL ?_
    (case aP => rfl); (case aO => exact RSd.out); (case aB => exact HBd.out); (case aS => exact HBd.out.size); (case aL => have := LS.out; omega)
    intro u10 wx10 ho hb_ hg hat
    obtain ⟨Au10, nu10, hu_⟩ := Kd.R_slice ho; obtain ⟨m10, hm_⟩ : ∃ m, m = (yS ++ [xS]).length := ⟨_, rfl⟩; rw [← hm_] at hu_; subst hu_; clear hm_
    have RSx10 := as0 ho
    have HBx10 := as0 hb_
    have HGx10 := as0 hg
    have BFx10 := as0 ((hg.block gf (z70 BFd.out) (Kd.R_ne RSd.out BFd.out (by decide))).trans BFd.out)
    have BZx10 := as0 ((hg.block gz (z70 BZd.out) (Kd.R_ne RSd.out BZd.out (by decide))).trans BZd.out)
    have BOx10 := as0 ((hg.block go (z70 BOd.out) (Kd.R_ne RSd.out BOd.out (by decide))).trans BOd.out)
    have RNx10 := as0 (Kd.R_grown2 RNd.out rfl hg (zp1 RSd.out RNd.out (by decide)))
    have RLx10 := as0 (Kd.R_grown2 RLd.out rfl hg (zp1 RSd.out RLd.out (by decide)))
    have QNx10 := as0 ((zk1 hg (p := adN.add k) (by rw [zs0]; exact Nat.lt_of_lt_of_le LAN.out HBd.out.size) (by rw [zs0]; exact za5 RSd.out LAN.out)).trans QNd.out)
    have QSx10 := as0 ((zk1 hg (p := adS.add k) (by rw [zs0]; exact Nat.lt_of_lt_of_le LAS.out HBd.out.size) (by rw [zs0]; exact za5 RSd.out LAS.out)).trans QSd.out)
    have QLx10 := as0 ((zk1 hg (p := adL.add k) (by rw [zs0]; exact Nat.lt_of_lt_of_le LAL.out HBd.out.size) (by rw [zs0]; exact za5 RSd.out LAL.out)).trans QLd.out)
    have of10 : wx10.frozen? ⟨go, 3, none⟩ = false := z40 BOx10.out 3
    have ol10 := z70 BOx10.out
    have oc10 := (z60 BOx10.out 3)
    clear ho hb_ hg hat
    refine hK.out _ _ ⟨(z60 BOx10.out 3).trans rfl, (z60 BFx10.out 3).trans rfl, QSx10.out⟩ (fun hHeld => ?_)
    clear hK K
    refine zh1 (a' := ?_) ?_ ?_
    rotate_left
    ·show Act.put _ (some 44) _ = _
     simp only [Act.put, lSI, lS0, lS1, ze0, zd0]
     rfl
    refine zl0 (i := 9) (N := some 45) (v := ?_) (a' := ?_) #[tt,tt,tt,tt,tt,tt,tt,tt,tt,tt,ff] rfl rfl (zh0 HT_.out (by kernel_rfl)) (fun _ _ _ h => h) (Or.inl ⟨by rfl, ?_⟩) ?_ ?_
    rotate_left
    ·intro w'
     go_simp
     with_reducible rfl
    rotate_left
    ·simp only [Act.put, lSI, lS0, lS1, ze0, zd0]
     rfl
    refine z85 (i := 10) (N := none) #[tt,tt,tt,tt,tt,tt,tt,tt,tt,tt,tt] rfl rfl (z21 HT_.out (by kernel_rfl)) (by decide) (fun K hK => ?_)
    refine put_ (w1 := ?_) (by rfl) rfl ?_ ?_
    rotate_left
    ·go_simp
     rfl
    refine hK.out _ _ ?_
    clear hK K
    refine zr2 (zg1 HT_.out (by kernel_rfl)) ?_
    clear hHeld of10 ol10 oc10
    obtain ⟨w10, hw_⟩ : ∃ W, W = (wx10.setCell ⟨go, 3, none⟩ (.slice Au10 m10 nu10)) := ⟨_, rfl⟩
    have BF10 : Aside0 (w10.heap[gf]? = some (.cells #[.int .i64 r.each, .int .i64 r.guard, .slice (some adN) r.N.length c0, .slice (some adS) r.S.length c1, .slice (some adL) r.L.length c2, .slice A3 r.d.w.length c3, .slice A4 r.d.u.length c4, .slice A5 r.d.a.length c5] 33 (0, 0))) := ⟨by rw [hw_]; exact (Below.heap_setCell wx10 ⟨go, 3, none⟩ (.slice Au10 m10 nu10) gf NFO.out).trans BFx10.out⟩
    have BZ10 : Aside0 (w10.heap[gz]? = some (.cells #[.int .i64 0, .int .i64 0, .slice none 0 0, .slice none 0 0, .slice none 0 0, .slice none 0 0, .slice none 0 0, .slice none 0 0] 33 (0, 0))) := ⟨by rw [hw_]; exact (Below.heap_setCell wx10 ⟨go, 3, none⟩ (.slice Au10 m10 nu10) gz NZO.out).trans BZx10.out⟩
    have BO10 : Aside0 (w10.heap[go]? = some (.cells #[.int .i64 r.each, .int .i64 r.guard, (.slice Au9 m9 nu9), (.slice Au10 m10 nu10), vL, .slice A3 r.d.w.length c3, .slice A4 r.d.u.length c4, .slice A5 r.d.a.length c5] 33 (0, 0))) := ⟨by rw [hw_]; exact zz1 BOx10.out 3 (.slice Au10 m10 nu10) rfl⟩
    have RN10 : Aside0 (Kd.R Kd.string 9 w10 w.heap.size (fun _ => True) (.slice Au9 m9 nu9) ((yN ++ [xN]))) := ⟨by rw [hw_]; exact Kd.R_set RNx10.out BOx10.out (zx0 (by decide)) 3 (.slice Au10 m10 nu10)⟩
    have QN10 : Aside0 (w10.cell? (adN.add k) = some (.string xN)) := ⟨by rw [hw_]; exact (World.cell?_of_block (by rw [zs0]; exact Below.heap_setCell wx10 ⟨go, 3, none⟩ (.slice Au10 m10 nu10) _ (Nat.ne_of_lt (Nat.lt_of_lt_of_le LAN.out GO.out)))).trans QNx10.out⟩
    have RS10 : Aside0 (Kd.R (Kd.int .i64) 3 w10 w.heap.size (fun _ => True) (.slice Au10 m10 nu10) (yS ++ [xS])) := ⟨by rw [hw_]; exact Kd.R_set RSx10.out BOx10.out (zx0 (by decide)) 3 (.slice Au10 m10 nu10)⟩
    have QS10 : Aside0 (w10.cell? (adS.add k) = some (.int .i64 xS)) := ⟨by rw [hw_]; exact (World.cell?_of_block (by rw [zs0]; exact Below.heap_setCell wx10 ⟨go, 3, none⟩ (.slice Au10 m10 nu10) _ (Nat.ne_of_lt (Nat.lt_of_lt_of_le LAS.out GO.out)))).trans QSx10.out⟩
    have RL10 : Aside0 (Kd.R Kd.bool 4 w10 w.heap.size (fun _ => True) vL (yL)) := ⟨by rw [hw_]; exact Kd.R_set RLx10.out BOx10.out (zx0 (by decide)) 3 (.slice Au10 m10 nu10)⟩
    have QL10 : Aside0 (w10.cell? (adL.add k) = some (.bool xL)) := ⟨by rw [hw_]; exact (World.cell?_of_block (by rw [zs0]; exact Below.heap_setCell wx10 ⟨go, 3, none⟩ (.slice Au10 m10 nu10) _ (Nat.ne_of_lt (Nat.lt_of_lt_of_le LAL.out GO.out)))).trans QLx10.out⟩
    have HB10 : Aside0 (Below w.heap.size w w10) := ⟨by rw [hw_]; exact zc0 HBx10.out GO.out⟩
    rw [← hw_]
    clear hw_
    go_upto_region 11 with fail
    refine zy1 (n := 11) (S := fun w' => w'.cell? ⟨go, 4, none⟩ = some vL ∧ w'.cell? ⟨gf, 4, none⟩ = some (.slice (some adL) r.L.length c2) ∧ w'.cell? (adL.add k) = some (.bool xL)) (ds := [10]) #[ff,ff,ff,ff,ff,ff,ff,ff,ff,ff,ff] (by kernel_rfl) rfl rfl ⟨(z60 BO10.out 4).trans rfl, (z60 BF10.out 4).trans rfl, QL10.out⟩ (fun hHeld => ?_); refine zc1 rcut.tab11 (fun HT_ => ?_)
    obtain ⟨Wd, hWd⟩ : ∃ Wd, Wd = w10.drew := ⟨_, rfl⟩
    rw [← hWd] at hHeld ⊢
    have BFd : Aside0 (Wd.heap[gf]? = some (.cells #[.int .i64 r.each, .int .i64 r.guard, .slice (some adN) r.N.length c0, .slice (some adS) r.S.length c1, .slice (some adL) r.L.length c2, .slice A3 r.d.w.length c3, .slice A4 r.d.u.length c4, .slice A5 r.d.a.length c5] 33 (0, 0))) := ⟨by rw [hWd]; exact BF10.out⟩
    have BZd : Aside0 (Wd.heap[gz]? = some (.cells #[.int .i64 0, .int .i64 0, .slice none 0 0, .slice none 0 0, .slice none 0 0, .slice none 0 0, .slice none 0 0, .slice none 0 0] 33 (0, 0))) := ⟨by rw [hWd]; exact BZ10.out⟩
    have BOd : Aside0 (Wd.heap[go]? = some (.cells #[.int .i64 r.each, .int .i64 r.guard, (.slice Au9 m9 nu9), (.slice Au10 m10 nu10), vL, .slice A3 r.d.w.length c3, .slice A4 r.d.u.length c4, .slice A5 r.d.a.length c5] 33 (0, 0))) := ⟨by rw [hWd]; exact BO10.out⟩
    have RNd : Aside0 (Kd.R Kd.string 9 Wd w.heap.size (fun _ => True) (.slice Au9 m9 nu9) (yN ++ [xN])) := ⟨by rw [hWd]; exact Kd.R_drew RN10.out⟩
    have RSd : Aside0 (Kd.R (Kd.int .i64) 3 Wd w.heap.size (fun _ => True) (.slice Au10 m10 nu10) (yS ++ [xS])) := ⟨by rw [hWd]; exact Kd.R_drew RS10.out⟩
    have RLd : Aside0 (Kd.R Kd.bool 4 Wd w.heap.size (fun _ => True) vL yL) := ⟨by rw [hWd]; exact Kd.R_drew RL10.out⟩
    have HBd : Aside0 (Below w.heap.size w Wd) := ⟨by rw [hWd]; exact z50 HB10.out⟩
    have QNd : Aside0 (Wd.cell? (adN.add k) = some (.string xN)) := ⟨by rw [hWd]; exact QN10.out⟩
    have QSd : Aside0 (Wd.cell? (adS.add k) = some (.int .i64 xS)) := ⟨by rw [hWd]; exact QS10.out⟩
    have QLd : Aside0 (Wd.cell? (adL.add k) = some (.bool xL)) := ⟨by rw [hWd]; exact QL10.out⟩
    clear hWd
    refine zl0 (i := 0) (N := some 46) (v := ?_) (a' := ?_) #[tt,ff,ff,ff,ff,ff,ff,ff,ff,ff,ff] rfl rfl (zh0 HT_.out (by kernel_rfl)) (fun _ _ _ h => h) (Or.inl ⟨by rfl, ?_⟩) ?_ ?_
    rotate_left
    ·intro w'
     go_simp
     with_reducible rfl
    rotate_left
    ·simp only [Act.put, lSI, lS0, lS1, ze0, zd0]
     rfl
    refine zl0 (i := 2) (N := some 48) (v := ?_) (a' := ?_) #[tt,ff,tt,ff,ff,ff,ff,ff,ff,ff,ff] rfl rfl (zh0 HT_.out (by kernel_rfl)) (fun _ _ _ h => h) (Or.inl ⟨by rfl, ?_⟩) ?_ ?_
    rotate_left
    ·intro w'
     go_simp
     with_reducible rfl
    rotate_left
    ·simp only [Act.put, lSI, lS0, lS1, ze0, zd0]
     rfl
    refine zl0 (i := 4) (N := some 50) (v := ?_) (a' := ?_) #[tt,ff,tt,ff,tt,ff,ff,ff,ff,ff,ff] rfl rfl (zh0 HT_.out (by kernel_rfl)) (fun _ _ _ h => h) (Or.inl ⟨by rfl, ?_⟩) ?_ ?_
    rotate_left
    ·intro w'
     go_simp
     with_reducible rfl
    rotate_left
    ·simp only [Act.put, lSI, lS0, lS1, ze0, zd0]
     rfl
    refine take_ (i := 1) (N := some 47) (v := ?_) (a' := ?_) #[tt,tt,tt,ff,tt,ff,ff,ff,ff,ff,ff] rfl rfl (zp0 HT_.out (by kernel_rfl)) (fun _ _ _ h => h) (Or.inl ⟨by rfl, ?_⟩) hHeld ?_ ?_
    rotate_left
    ·intro w' hS_
     obtain ⟨s0, s1, s2⟩ := hS_
     go_simp
     with_reducible rfl
    rotate_left
    ·simp only [Act.put, lSI, lS0, lS1, ze0, zd0]
     rfl
    refine take_ (i := 3) (N := some 49) (v := ?_) (a' := ?_) #[tt,tt,tt,tt,tt,ff,ff,ff,ff,ff,ff] rfl rfl (zp0 HT_.out (by kernel_rfl)) (fun _ _ _ h => h) (Or.inl ⟨by rfl, ?_⟩) hHeld ?_ ?_
    rotate_left
    ·intro w' hS_
     obtain ⟨s0, s1, s2⟩ := hS_
     go_simp
     with_reducible rfl
    rotate_left
    ·simp only [Act.put, lSI, lS0, lS1, ze0, zd0]
     rfl
    refine zl0 (i := 5) (N := some 51) (v := ?_) (a' := ?_) #[tt,tt,tt,tt,tt,tt,ff,ff,ff,ff,ff] rfl rfl (zh0 HT_.out (by kernel_rfl)) (fun _ _ _ h => h) (Or.inl ⟨by rfl, ?_⟩) ?_ ?_
    rotate_left
    ·intro w'
     go_simp
     with_reducible rfl
    rotate_left
    ·simp only [Act.put, lSI, lS0, lS1, ze0, zd0]
     rfl
    refine take_ (i := 6) (N := some 52) (v := ?_) (a' := ?_) #[tt,tt,tt,tt,tt,tt,tt,ff,ff,ff,ff] rfl rfl (zp0 HT_.out (by kernel_rfl)) (fun _ _ _ h => h) (Or.inl ⟨by rfl, ?_⟩) hHeld ?_ ?_
    rotate_left
    ·intro w' hS_
     obtain ⟨s0, s1, s2⟩ := hS_
     go_simp
     with_reducible rfl
    rotate_left
    ·simp only [Act.put, lSI, lS0, lS1, ze0, zd0]
     rfl
    refine zx2 (i := 7) (N := some 53) #[tt,tt,tt,tt,tt,tt,tt,tt,ff,ff,ff] rfl rfl (z21 HT_.out (by kernel_rfl)) (by decide) (fun K hK => ?_)
    refine zv8 (w1 := ?_) (v := ?_) (by rfl) rfl ?_ ?_
    rotate_left 2
    ·go_simp
     constructor
     ·rfl
     ·rfl
    refine hK.out _ _ ⟨(z60 (zj0 BOd.out _) 4).trans rfl, (z60 (zj0 BFd.out _) 4).trans rfl, ((z80 (Below.refl _ _) _).cell (p := adL.add k) (by rw [zs0]; exact Nat.lt_of_lt_of_le LAL.out HBd.out.size)).trans QLd.out⟩ (fun hHeld => ?_)
    clear hK K
    refine zh1 (a' := ?_) ?_ ?_
    rotate_left
    ·show Act.put _ (some 53) _ = _
     simp only [Act.put, lSI, lS0, lS1, ze0, zd0]
     rfl
    refine zx2 (i := 8) (N := some 54) #[tt,tt,tt,tt,tt,tt,tt,tt,tt,ff,ff] rfl rfl (z21 HT_.out (by kernel_rfl)) (by decide) (fun K hK => ?_)
    refine Kd.R_append_step Kd.bool (w0 := w) w.heap.size (by rfl) (.tmp 47) (.tmp 53) 29 4 (.bool false) 1 rfl Tryz.underlying29 info4 rfl (by decide) (by omega) vL yL xL [.bool xL] (fun _ => True) (fun _ => False) (by rfl) (by rfl) ?aP (fun _ h => h.elim) (fun _ _ => trivial) ?aO ?aB ?aS ?aL ?_
    (case aP => rfl); (case aO => exact RLd.out); (case aB => exact HBd.out); (case aS => exact HBd.out.size); (case aL => have := LL.out; omega)
    intro u11 wx11 ho hb_ hg hat
    obtain ⟨Au11, nu11, hu_⟩ := Kd.R_slice ho; obtain ⟨m11, hm_⟩ : ∃ m, m = (yL ++ [xL]).length := ⟨_, rfl⟩; rw [← hm_] at hu_; subst hu_; clear hm_
    have RLx11 := as0 ho
    have HBx11 := as0 hb_
    have HGx11 := as0 hg
    have BFx11 := as0 ((hg.block gf (z70 BFd.out) (Kd.R_ne RLd.out BFd.out (by decide))).trans BFd.out)
    have BZx11 := as0 ((hg.block gz (z70 BZd.out) (Kd.R_ne RLd.out BZd.out (by decide))).trans BZd.out)
    have BOx11 := as0 ((hg.block go (z70 BOd.out) (Kd.R_ne RLd.out BOd.out (by decide))).trans BOd.out)
    have RNx11 := as0 (Kd.R_grown2 RNd.out rfl hg (zp1 RLd.out RNd.out (by decide)))
    have RSx11 := as0 (Kd.R_grown2 RSd.out rfl hg (zp1 RLd.out RSd.out (by decide)))
    have QNx11 := as0 ((zk1 hg (p := adN.add k) (by rw [zs0]; exact Nat.lt_of_lt_of_le LAN.out HBd.out.size) (by rw [zs0]; exact za5 RLd.out LAN.out)).trans QNd.out)
    have QSx11 := as0 ((zk1 hg (p := adS.add k) (by rw [zs0]; exact Nat.lt_of_lt_of_le LAS.out HBd.out.size) (by rw [zs0]; exact za5 RLd.out LAS.out)).trans QSd.out)
    have QLx11 := as0 ((zk1 hg (p := adL.add k) (by rw [zs0]; exact Nat.lt_of_lt_of_le LAL.out HBd.out.size) (by rw [zs0]; exact za5 RLd.out LAL.out)).trans QLd.out)
    have of11 : wx11.frozen? ⟨go, 4, none⟩ = false := z40 BOx11.out 4
    have ol11 := z70 BOx11.out
    have oc11 := (z60 BOx11.out 4)
    clear ho hb_ hg hat
    refine hK.out _ _ ⟨(z60 BOx11.out 4).trans rfl, (z60 BFx11.out 4).trans rfl, QLx11.out⟩ (fun hHeld => ?_)
    clear hK K
    refine zh1 (a' := ?_) ?_ ?_
    rotate_left
    ·show Act.put _ (some 54) _ = _
     simp only [Act.put, lSI, lS0, lS1, ze0, zd0]
     rfl
    refine zl0 (i := 9) (N := some 55) (v := ?_) (a' := ?_) #[tt,tt,tt,tt,tt,tt,tt,tt,tt,tt,ff] rfl rfl (zh0 HT_.out (by kernel_rfl)) (fun _ _ _ h => h) (Or.inl ⟨by rfl, ?_⟩) ?_ ?_
    rotate_left
    ·intro w'
     go_simp
     with_reducible rfl
    rotate_left
    ·simp only [Act.put, lSI, lS0, lS1, ze0, zd0]
     rfl
    refine z85 (i := 10) (N := none) #[tt,tt,tt,tt,tt,tt,tt,tt,tt,tt,tt] rfl rfl (z21 HT_.out (by kernel_rfl)) (by decide) (fun K hK => ?_)
    refine put_ (w1 := ?_) (by rfl) rfl ?_ ?_
    rotate_left
    ·go_simp
     rfl
    refine hK.out _ _ ?_
    clear hK K
    refine zr2 (zg1 HT_.out (by kernel_rfl)) ?_
    clear hHeld of11 ol11 oc11
    obtain ⟨w11, hw_⟩ : ∃ W, W = (wx11.setCell ⟨go, 4, none⟩ (.slice Au11 m11 nu11)) := ⟨_, rfl⟩
    have BF11 : Aside0 (w11.heap[gf]? = some (.cells #[.int .i64 r.each, .int .i64 r.guard, .slice (some adN) r.N.length c0, .slice (some adS) r.S.length c1, .slice (some adL) r.L.length c2, .slice A3 r.d.w.length c3, .slice A4 r.d.u.length c4, .slice A5 r.d.a.length c5] 33 (0, 0))) := ⟨by rw [hw_]; exact (Below.heap_setCell wx11 ⟨go, 4, none⟩ (.slice Au11 m11 nu11) gf NFO.out).trans BFx11.out⟩
    have BZ11 : Aside0 (w11.heap[gz]? = some (.cells #[.int .i64 0, .int .i64 0, .slice none 0 0, .slice none 0 0, .slice none 0 0, .slice none 0 0, .slice none 0 0, .slice none 0 0] 33 (0, 0))) := ⟨by rw [hw_]; exact (Below.heap_setCell wx11 ⟨go, 4, none⟩ (.slice Au11 m11 nu11) gz NZO.out).trans BZx11.out⟩
    have BO11 : Aside0 (w11.heap[go]? = some (.cells #[.int .i64 r.each, .int .i64 r.guard, (.slice Au9 m9 nu9), (.slice Au10 m10 nu10), (.slice Au11 m11 nu11), .slice A3 r.d.w.length c3, .slice A4 r.d.u.length c4, .slice A5 r.d.a.length c5] 33 (0, 0))) := ⟨by rw [hw_]; exact zz1 BOx11.out 4 (.slice Au11 m11 nu11) rfl⟩
    have RN11 : Aside0 (Kd.R Kd.string 9 w11 w.heap.size (fun _ => True) (.slice Au9 m9 nu9) ((yN ++ [xN]))) := ⟨by rw [hw_]; exact Kd.R_set RNx11.out BOx11.out (zx0 (by decide)) 4 (.slice Au11 m11 nu11)⟩
    have QN11 : Aside0 (w11.cell? (adN.add k) = some (.string xN)) := ⟨by rw [hw_]; exact (World.cell?_of_block (by rw [zs0]; exact Below.heap_setCell wx11 ⟨go, 4, none⟩ (.slice Au11 m11 nu11) _ (Nat.ne_of_lt (Nat.lt_of_lt_of_le LAN.out GO.out)))).trans QNx11.out⟩
    have RS11 : Aside0 (Kd.R (Kd.int .i64) 3 w11 w.heap.size (fun _ => True) (.slice Au10 m10 nu10) ((yS ++ [xS]))) := ⟨by rw [hw_]; exact Kd.R_set RSx11.out BOx11.out (zx0 (by decide)) 4 (.slice Au11 m11 nu11)⟩
    have QS11 : Aside0 (w11.cell? (adS.add k) = some (.int .i64 xS)) := ⟨by rw [hw_]; exact (World.cell?_of_block (by rw [zs0]; exact Below.heap_setCell wx11 ⟨go, 4, none⟩ (.slice Au11 m11 nu11) _ (Nat.ne_of_lt (Nat.lt_of_lt_of_le LAS.out GO.out)))).trans QSx11.out⟩
    have RL11 : Aside0 (Kd.R Kd.bool 4 w11 w.heap.size (fun _ => True) (.slice Au11 m11 nu11) (yL ++ [xL])) := ⟨by rw [hw_]; exact Kd.R_set RLx11.out BOx11.out (zx0 (by decide)) 4 (.slice Au11 m11 nu11)⟩
    have QL11 : Aside0 (w11.cell? (adL.add k) = some (.bool xL)) := ⟨by rw [hw_]; exact (World.cell?_of_block (by rw [zs0]; exact Below.heap_setCell wx11 ⟨go, 4, none⟩ (.slice Au11 m11 nu11) _ (Nat.ne_of_lt (Nat.lt_of_lt_of_le LAL.out GO.out)))).trans QLx11.out⟩
    have HB11 : Aside0 (Below w.heap.size w w11) := ⟨by rw [hw_]; exact zc0 HBx11.out GO.out⟩
    rw [← hw_]
    clear hw_
    go_wp2
    go_roundw
    case measure => simp [intOf]; omega
    case rel => exact ⟨k + 1, _, _, _, by omega, by rw [show ((k : Int) + 1) = ((k + 1 : Nat) : Int) by omega], BF11, BZ11, BO11, ⟨by rw [EN.out]; exact RN11.out⟩, ⟨by rw [ES.out]; exact RS11.out⟩, ⟨by rw [EL.out]; exact RL11.out⟩, HB11⟩
  ·have hkI : ¬ (k : Int) < (r.N.length : Int) := by omega
   have hke : k = r.N.length := by omega
   rw [hke] at RN RS RL
   obtain ⟨AN, nN, rfl⟩ := Kd.R_slice RN.out
   obtain ⟨AS, nS, rfl⟩ := Kd.R_slice RS.out
   obtain ⟨AL, nL, rfl⟩ := Kd.R_slice RL.out
   obtain ⟨o0, o1, o2, o3, o4, o5, o6, o7⟩ := zy3 BO.out
   obtain ⟨z0, z1, z2, z3, z4, z5, z6, z7⟩ := zy3 BZ.out
   obtain ⟨y0, y1, y2, y3, y4, y5, y6, y7⟩ := b8frozen BZ.out
   have zl := z70 BZ.out
   have ol := z70 BO.out
   clear hke hk
   go_wp2
   refine bodyPost_ret (z11 (p := 4) rfl _ _ gz 33 _ (0, 0) _ rfl (zi0 BZ.out) Tryz.underlying33 rfl (by kernel_rfl)) rfl ?_
   exact ⟨_, _, _, _, _, _, rfl, Kd.R_mv RN.out BZ.out (zx0 (by decide)) (fun k hk => z30 hk), Kd.R_mv RS.out BZ.out (zx0 (by decide)) (fun k hk => z30 hk), Kd.R_mv RL.out BZ.out (zx0 (by decide)) (fun k hk => z30 hk), (H3.out.below HB.out).far BZ.out (by decide) (fun k hk => z30 hk), (H4.out.below HB.out).far BZ.out (by decide) (fun k hk => z30 hk), (H5.out.below HB.out).far BZ.out (by decide) (fun k hk => z30 hk), zb0 HB.out GZ.out⟩
end
end
section
theorem zx5 {n : Int} (h0 : -9223372036854775808 ≤ n) (h1 : n ≤ 9223372036854775807) : wrap64 n = n := by unfold wrap64; omega
theorem zg2 (x : Int) (l : List Int) : actI (x :: l) = actI l + if x = 0 then 1 else 0 := by
 unfold actI
 rw [List.filter_cons]
 by_cases h : x = 0
 ·simp [h]
 ·simp [h]
theorem zic (l : List Int) : actI l ≤ l.length := List.length_filter_le _ _
theorem zqc {a b A B : Int} (a0 : 0 ≤ a) (a1 : a ≤ A) (b0 : 0 ≤ b) (b1 : b ≤ B) : 0 ≤ a * b ∧ a * b ≤ A * B := ⟨Int.mul_nonneg a0 b0, Int.mul_le_mul a1 b1 b0 (by omega)⟩
theorem zqa {e : Int} (he : e ≤ 1000) : 0 ≤ pos0 e ∧ pos0 e ≤ 1000 := by unfold pos0; split <;> omega
theorem z48 (xs : List Int) (e : Int) (hm : xs.length ≤ 1000000) (he : e ≤ 1000) (d : Nat) : ∀ (k j : Nat) (n : Int), j ≤ xs.length → xs.length - j = d → d < k → 0 ≤ n → n ≤ j * 1000 → hostlerref11_Capacity.l0 k xs e n (j : Int) = some (n + (actI (xs.drop j) : Int) * pos0 e) := by
 induction d with
 | zero =>
  intro k j n hj hd hk h0 h1
  obtain ⟨k, rfl⟩ : ∃ m, k = m + 1 := ⟨k - 1, by omega⟩
  rw [hostlerref11_Capacity.l0, if_neg (by omega), List.drop_eq_nil_of_le (by omega)]
  simp [actI]
 | succ d ih =>
  intro k j n hj hd hk h0 h1
  obtain ⟨k, rfl⟩ : ∃ m, k = m + 1 := ⟨k - 1, by omega⟩
  have hlt : j < xs.length := by omega
  have hw : wrap64 ((j : Int) + 1) = ((j + 1 : Nat) : Int) := by unfold wrap64; omega
  have er : rd xs (j : Int) = xs[j] := by simp [rd, List.getD, hlt]
  rw [hostlerref11_Capacity.l0, if_pos (by omega), if_pos (by omega), er, hw, List.drop_eq_getElem_cons hlt, zg2]
  by_cases c : xs[j] = 0
  ·rw [if_pos c, if_pos c]
   by_cases h2 : e > 0
   ·have hp : pos0 e = e := by unfold pos0; rw [if_pos (by omega)]
    rw [if_pos h2, zx5 (n := n + e) (by omega) (by omega), ih k (j + 1) (n + e) (by omega) (by omega) (by omega) (by omega) (by omega), hp, Int.natCast_add, Int.add_mul]
    congr 1
    simp
    omega
   ·have hp : pos0 e = 0 := by unfold pos0; split <;> omega
    rw [if_neg h2, ih k (j + 1) n (by omega) (by omega) (by omega) (by omega) (by omega), hp]
    simp
  ·rw [if_neg c, if_neg c, ih k (j + 1) n (by omega) (by omega) (by omega) (by omega) (by omega)]
   simp
theorem zw4 (xs : List Int) (e : Int) (hm : xs.length ≤ 1000000) (he : e ≤ 1000) (k : Nat) (hk : xs.length < k) : hostlerref11_Capacity.f k xs e = some ((actI xs : Int) * pos0 e) := by
 unfold hostlerref11_Capacity.f
 have := z48 xs e hm he xs.length k 0 0 (by omega) (by omega) hk (by omega) (by omega)
 simpa using this
def wo : List Int → Int → List Int
 | [], _ => []
 | x :: xs, i => if i = 0 then wo xs (i - 1) else x :: wo xs (i - 1)
theorem wo_len (l : List Int) : ∀ i, (wo l i).length ≤ l.length := by
 induction l with
 | nil => intro i; exact Nat.le_refl _
 | cons x xs ih =>
  intro i
  unfold wo
  have := ih (i - 1)
  split <;> simp <;> omega
theorem z39 (l : List Int) : ∀ i, i < 0 → actI (wo l i) = actI l := by
 induction l with
 | nil => intro i _; rfl
 | cons x xs ih =>
  intro i hi
  unfold wo
  rw [if_neg (by omega), zg2, zg2, ih (i - 1) (by omega)]
theorem act_wo (l : List Int) : ∀ i : Nat, i < l.length → l.getD i 0 = 0 → actI (wo l (i : Int)) + 1 = actI l := by
 induction l with
 | nil => intro i hi; simp at hi
 | cons x xs ih =>
  intro i hi h
  unfold wo
  cases i with
  | zero =>
   have hx : x = 0 := by simpa using h
   rw [if_pos (show ((0 : Nat) : Int) = 0 from rfl), z39 xs _ (by omega), zg2, if_pos hx]
  | succ i =>
   rw [if_neg (by omega), zg2, zg2, show (((i + 1 : Nat) : Int) - 1) = (i : Int) by omega]
   have := ih i (by simpa using hi) (by simpa using h)
   omega
theorem z09 (l : List Int) (j e : Int) (hl : l.length ≤ 1000000) (d : Nat) : ∀ (k i : Nat) (acc : List Int), i + d = l.length → l.length + 2 + d < k → acc.length ≤ i →
  ∃ k', l.length + 2 ≤ k' ∧ hostlerref11_Without.l0 k l j e acc (i : Int) = (hostlerref11_Capacity.f k' (acc ++ wo (l.drop i) (j - i)) e).bind fun t => some t := by
 induction d with
 | zero =>
  intro k i acc hi hk ha
  obtain ⟨k, rfl⟩ : ∃ m, k = m + 1 := ⟨k - 1, by omega⟩
  refine ⟨k, by omega, ?_⟩
  rw [hostlerref11_Without.l0, if_neg (by omega), List.drop_eq_nil_of_le (by omega)]
  simp [wo]
 | succ d ih =>
  intro k i acc hi hk ha
  obtain ⟨k, rfl⟩ : ∃ m, k = m + 1 := ⟨k - 1, by omega⟩
  have hlt : i < l.length := by omega
  have hw : wrap64 ((i : Int) + 1) = ((i + 1 : Nat) : Int) := by unfold wrap64; omega
  have er : rd l (i : Int) = l[i] := by simp [rd, List.getD, hlt]
  rw [hostlerref11_Without.l0, if_pos (by omega), List.drop_eq_getElem_cons hlt, hw, er]
  have hji : j - ((i + 1 : Nat) : Int) = j - i - 1 := by omega
  by_cases h : (i : Int) = j
  ·obtain ⟨k', hk', e1⟩ := ih k (i + 1) acc (by omega) (by omega) (by omega)
   refine ⟨k', hk', ?_⟩
   rw [if_pos h, e1, hji, wo, if_pos (by omega)]
  ·obtain ⟨k', hk', e1⟩ := ih k (i + 1) (acc ++ [l[i]]) (by omega) (by omega) (by simp; omega)
   refine ⟨k', hk', ?_⟩
   rw [if_neg h, if_pos (by omega), if_pos (by omega), e1, hji, wo, if_neg (by omega)]
   simp
theorem zo7 (l : List Int) (i e g : Int) (hl : l.length ≤ 1000000) (he : e ≤ 1000) : hostlerref11_May.f (l.length + l.length + 3) l i e g = some (mayI l i e g) := by
 unfold hostlerref11_May.f mayI
 by_cases h1 : i < 0
 ·rw [if_pos h1, if_pos (.inl h1)]
 ·by_cases h2 : (l.length : Int) ≤ i
  ·rw [if_neg h1, if_pos h2, if_pos (.inr h2)]
  ·obtain ⟨n, rfl⟩ := Int.eq_ofNat_of_zero_le (show 0 ≤ i by omega)
   have hn : n < l.length := by omega
   have er : rd l (n : Int) = l.getD n 0 := rfl
   rw [if_neg h1, if_neg h2, if_neg (show ¬ ((n : Int) < 0 ∨ (l.length : Int) ≤ (n : Int)) by omega), if_pos (show (0 : Int) ≤ (n : Int) by omega), if_pos (show (n : Int) < (l.length : Int) by omega), er, Int.toNat_natCast]
   by_cases c : l.getD n 0 = 0
   ·rw [if_pos c, if_pos c]
    unfold hostlerref11_Without.f
    obtain ⟨k', hk', e1⟩ := z09 l n e hl l.length (l.length + l.length + 3) 0 [] (by omega) (by omega) (by simp)
    have hw := wo_len l n
    have e2 : hostlerref11_Without.l0 (l.length + l.length + 3) l n e [] 0 = _ := e1
    have ha := act_wo l n hn c
    have hal := zic l
    have hp := zqa he
    rw [e2]
    simp only [List.nil_append, List.drop_zero, Int.natCast_zero, Int.sub_zero]
    rw [zw4 _ e (by omega) he k' (by omega), Option.bind_some, Option.bind_some]
    have hb := zqc (a := (actI l : Int)) (A := 1000000) (by omega) (by omega) hp.1 hp.2
    have hee : ((actI (wo l (n : Int)) : Int) * pos0 e) = (actI l : Int) * pos0 e - pos0 e := by
     rw [← ha, Int.natCast_add, Int.add_mul]
     simp
    have hb2 := zqc (a := (actI (wo l (n : Int)) : Int)) (A := 1000000) (by omega) (by omega) hp.1 hp.2
    rw [zx5 (n := (actI l : Int) * pos0 e) (by omega) (by omega), zx5 (n := (actI l : Int) * pos0 e - pos0 e) (by omega) (by omega), hee]
   ·rw [if_neg c, if_neg c]
theorem zi6 (st ev : Int) : hostlerref10_Next.f 3 st ev = some (nextS st ev, nextB st ev) := by
 unfold hostlerref10_Next.f nextS nextB toS
 simp only [hostlerref10_Next.j0, hostlerref10_Next.j1, hostlerref10_Next.j2, hostlerref10_Next.j3, hostlerref10_Next.j4, hostlerref10_Next.j5, hostlerref10_Next.j6, beq_iff_eq]
 by_cases s0 : st = 0
 ·subst s0
  by_cases h0 : ev = 0 <;> by_cases h5 : ev = 5 <;> by_cases h2 : ev = 2 <;> simp [h0, h5, h2]
 ·by_cases s1 : st = 1
  ·subst s1
   by_cases h1 : ev = 1 <;> by_cases h6 : ev = 6 <;> by_cases h4 : ev = 4 <;> simp [h1, h6, h4]
  ·by_cases s2 : st = 2
   ·subst s2
    by_cases h0 : ev = 0 <;> by_cases h5 : ev = 5 <;> by_cases h3 : ev = 3 <;> simp [h0, h5, h3]
   ·by_cases s3 : st = 3
    ·subst s3
     by_cases h1 : ev = 1 <;> by_cases h6 : ev = 6 <;> simp [h1, h6]
    ·simp [s0, s1, s2, s3]
theorem zu1 (st ev : Int) (w : World) : Calls Tryz.prog 62 #[.int .i64 st, .int .i64 ev] w fun e w' => e = .returned (.tuple #[.int .i64 (nextS st ev), .bool (nextB st ev)]) ∧ Below w.heap.size w w' :=
 (hostlerref10_Next.calls 3 st ev _ _ w (zi6 st ev)).mono fun e w' h => ⟨h.1, h.2.below⟩
section
variable {b : Nat → Prop} {w : World}
theorem zf2 (s : ByteArray) (hm : s.size ≤ 9223372036854775807) (k : Nat) (hk : s.size < k) : hostlerref09_Name.f k s = some (nameB s) := by
 obtain ⟨h1, h2⟩ := z87 s hm s.size k 0 (by omega) (by omega) hk
 unfold hostlerref09_Name.f nameB
 by_cases h : ∀ i, i < s.size → okB (byteAt s i) = true
 ·rw [decide_eq_true h, Bool.and_true]
  exact h1 (fun i _ hi => h i hi)
 ·rw [decide_eq_false h, Bool.and_false]
  exact h2 (fun h3 => h (fun i hi => h3 i (by omega) hi))
end
theorem zva (l : List ByteArray) (hm : l.length ≤ 16) (d : Nat) : ∀ (k j : Nat), j ≤ l.length → l.length - j = d → d + 20 < k → nodupB (l.take j) = true → hostlerref09_Check.l1 k l (j : Int) = some (if nodupB l = true then 0 else 6) := by
 induction d with
 | zero =>
  intro k j hj hd hk hn
  obtain ⟨k, rfl⟩ : ∃ m, k = m + 1 := ⟨k - 1, by omega⟩
  simp only [hostlerref09_Check.l1]
  rw [List.take_of_length_le (by omega)] at hn
  rw [if_neg (by omega), if_pos hn]
 | succ d ih =>
  intro k j hj hd hk hn
  obtain ⟨k, rfl⟩ : ∃ m, k = m + 1 := ⟨k - 1, by omega⟩
  have hlt : j < l.length := by omega
  have hw : wrap64 ((j : Int) + 1) = ((j + 1 : Nat) : Int) := by unfold wrap64; omega
  have e : rdOf ByteArray.empty l (j : Int) = l[j] := by simp [rdOf, List.getD, hlt]
  simp only [hostlerref09_Check.l1]
  have hh : hostlerref09_Has.f k (l.take j) l[j] = some (hasB l[j] (l.take j)) := by
   have := zq8 l[j] (l.take j) (by simp; omega) (l.take j).length k 0 (by omega) (by omega) (by simp; omega)
   simpa [hostlerref09_Has.f] using this
  rw [if_pos (by omega), if_pos (by omega), if_pos (by omega), e, Int.toNat_natCast, hh, Option.bind_some, hw]
  by_cases c : l[j] ∈ l.take j
  ·rw [(ze2 _ _).2 c, if_pos rfl, if_neg]
   intro hnd
   have h1 := zk2.1 hnd
   have h2 : (l.take (j + 1)).Nodup := h1.sublist (List.take_sublist _ _)
   rw [List.take_succ_eq_append_getElem hlt, List.nodup_append] at h2
   exact h2.2.2 _ c _ (by simp) rfl
  ·rw [z14 _ _ c, if_neg (by decide)]
   refine ih k (j + 1) (by omega) (by omega) (by omega) ?_
   rw [zk2] at hn ⊢
   rw [List.take_succ_eq_append_getElem hlt, List.nodup_append]
   exact ⟨hn, by simp, fun a ha b hb => by rw [List.mem_singleton.1 hb]; rintro rfl; exact c ha⟩
theorem zeb (l : List ByteArray) (hm : l.length ≤ 16) (hs : ∀ x ∈ l, x.size ≤ 9223372036854775807) (d : Nat) : ∀ (k j : Nat), j ≤ l.length → l.length - j = d → d + 9223372036854776000 < k → hostlerref09_Check.l0 k l (j : Int) = some (if (l.drop j).all nameB = false then 11 else if nodupB l = true then 0 else 6) := by
 induction d with
 | zero =>
  intro k j hj hd hk
  obtain ⟨k, rfl⟩ : ∃ m, k = m + 1 := ⟨k - 1, by omega⟩
  simp only [hostlerref09_Check.l0]
  rw [if_neg (by omega), List.drop_eq_nil_of_le (by omega), if_neg (by simp)]
  exact zva l hm l.length k 0 (by omega) (by omega) (by omega) rfl
 | succ d ih =>
  intro k j hj hd hk
  obtain ⟨k, rfl⟩ : ∃ m, k = m + 1 := ⟨k - 1, by omega⟩
  have hlt : j < l.length := by omega
  have hw : wrap64 ((j : Int) + 1) = ((j + 1 : Nat) : Int) := by unfold wrap64; omega
  have e : rdOf ByteArray.empty l (j : Int) = l[j] := by simp [rdOf, List.getD, hlt]
  have hz := hs l[j] (List.getElem_mem hlt)
  simp only [hostlerref09_Check.l0]
  rw [if_pos (by omega), if_pos (by omega), e, zf2 _ (by omega) k (by omega), Option.bind_some, hw, List.drop_eq_getElem_cons hlt, List.all_cons]
  cases c : nameB l[j] with
  | true =>
   rw [if_pos rfl, Bool.true_and]
   exact ih k (j + 1) (by omega) (by omega) (by omega)
  | false => simp
theorem zl5 (l : List ByteArray) (A : Option Addr) (c : Nat) (w : World) (hs : ∀ x ∈ l, x.size ≤ 9223372036854775807) (hC : Kd.C Kd.string w A l.length l) (hc : l.length ≤ c) :
  Calls Tryz.prog 58 #[.slice A l.length c] w fun e w' => e = .returned (.int .i64 (checkE l)) ∧ Below w.heap.size w w' := by
 refine (hostlerref09_Check.calls 9223372036854777000 A c l (checkE l) w hC hc ?_).mono fun e w' h => ⟨h.1, h.2.below⟩
 unfold hostlerref09_Check.f checkE
 by_cases c1 : 16 < l.length
 ·rw [if_pos (by omega), if_pos c1]
 ·rw [if_neg (by omega), if_neg c1]
  have := zeb l (by omega) hs l.length 9223372036854777000 0 (by omega) (by omega) (by omega)
  simpa using this
end
section
section
variable {b : Nat → Prop} {k n c : Nat} {W : World} {r : RF} {e g v0 v1 v2 v3 v4 v5 : Value} {A : Option Addr} {ad : Addr}
theorem FR.adN {x : ByteArray} (h : FR b W (.agg #[e, g, .slice A n c, v1, v2, v3, v4, v5]) r) (hk : r.N[k]? = some x) : ∃ ad, A = some ad ∧ W.cell? (ad.add k) = some (.string x) := h.get.1.at hk
theorem FR.atN {x : ByteArray} (h : FR b W (.agg #[e, g, .slice (some ad) n c, v1, v2, v3, v4, v5]) r) (hk : r.N[k]? = some x) : W.cell? (ad.add k) = some (.string x) := by
 obtain ⟨a, h1, h2⟩ := h.adN hk
 injection h1 with h1
 rw [h1]
 exact h2
theorem FR.adS {x : Int} (h : FR b W (.agg #[e, g, v0, .slice A n c, v2, v3, v4, v5]) r) (hk : r.S[k]? = some x) : ∃ ad, A = some ad ∧ W.cell? (ad.add k) = some (.int .i64 x) := h.get.2.1.at hk
theorem FR.atS {x : Int} (h : FR b W (.agg #[e, g, v0, .slice (some ad) n c, v2, v3, v4, v5]) r) (hk : r.S[k]? = some x) : W.cell? (ad.add k) = some (.int .i64 x) := by
 obtain ⟨a, h1, h2⟩ := h.adS hk
 injection h1 with h1
 rw [h1]
 exact h2
theorem FR.adL {x : Bool} (h : FR b W (.agg #[e, g, v0, v1, .slice A n c, v3, v4, v5]) r) (hk : r.L[k]? = some x) : ∃ ad, A = some ad ∧ W.cell? (ad.add k) = some (.bool x) := h.get.2.2.1.at hk
theorem FR.atL {x : Bool} (h : FR b W (.agg #[e, g, v0, v1, .slice (some ad) n c, v3, v4, v5]) r) (hk : r.L[k]? = some x) : W.cell? (ad.add k) = some (.bool x) := by
 obtain ⟨a, h1, h2⟩ := h.adL hk
 injection h1 with h1
 rw [h1]
 exact h2
theorem FR.adW {x : ByteArray} (h : FR b W (.agg #[e, g, v0, v1, v2, .slice A n c, v4, v5]) r) (hk : r.d.w[k]? = some x) : ∃ ad, A = some ad ∧ W.cell? (ad.add k) = some (.string x) := h.get.2.2.2.1.at hk
theorem FR.atW {x : ByteArray} (h : FR b W (.agg #[e, g, v0, v1, v2, .slice (some ad) n c, v4, v5]) r) (hk : r.d.w[k]? = some x) : W.cell? (ad.add k) = some (.string x) := by
 obtain ⟨a, h1, h2⟩ := h.adW hk
 injection h1 with h1
 rw [h1]
 exact h2
theorem FR.place (nm : ByteArray) (h : FR b W (.agg #[e, g, v0, v1, v2, v3, v4, v5]) r) : Calls Tryz.prog 38 #[v3, .string nm] W fun e w' => e = .returned (.int .i64 (idxOf r.d.w nm 0)) ∧ Below W.heap.size W w' := by
 obtain ⟨A, c, rfl, hc, hC⟩ := h.get.2.2.2.1.reads
 exact (z31 nm r.d.w A c W hC hc).mono fun e w' h => ⟨h.1, h.2.below⟩
end
theorem bx {P : Program} {ops : Array Oper} {rest : List Oper} {o : Oper} {a : Act} {Q : Exit → Act → World → Prop} {W : World} {N : Tmp} {cs : Array Value} {t : TypeId} (hd : o.dst = some N) (hgd : o.guard = none)
  (hrun : (execOp a.eval o).run P W = .ok (.value (.pointer (some ⟨W.heap.size, 0, none⟩))) (W.alloc (.cells cs t (0, 0))))
  (h : ∀ g, g = W.heap.size → ∀ w1, w1.heap[g]? = some (.cells cs t (0, 0)) → Below W.heap.size W w1 → wpList P ops Q rest (a.put o.dst (.pointer (some ⟨g, 0, none⟩))) w1) : wpList P ops Q (o :: rest) a W := z51 hgd hd hrun h
theorem sx {P : Program} {ops : Array Oper} {rest : List Oper} {o : Oper} {a : Act} {Q : Exit → Act → World → Prop} {W w1 : World} {t : TypeId} {p : Tmp} {v : Operand} (ho : o.op = .store t (.tmp p) v) (hgd : o.guard = none) (hN : o.dst = none)
  (hrun : (execOp a.eval o).run P W = .ok .skip w1) (h : ∀ w', w' = w1 → wpList P ops Q rest a w') : wpList P ops Q (o :: rest) a W := zg7 hgd ho hN hrun h
theorem b3cells {W : World} {g t : Nat} {c0 c1 c2 : Value} (h : W.heap[g]? = some (.cells #[c0, c1, c2] t (0, 0))) : W.cell? ⟨g, 0, none⟩ = some c0 ∧ W.cell? ⟨g, 1, none⟩ = some c1 ∧ W.cell? ⟨g, 2, none⟩ = some c2 := ⟨(z60 h 0).trans rfl, (z60 h 1).trans rfl, (z60 h 2).trans rfl⟩
theorem za0 {W : World} {g t : Nat} {c0 c1 c2 c3 c4 c5 c6 c7 : Value} (h : W.heap[g]? = some (.cells #[c0, c1, c2, c3, c4, c5, c6, c7] t (0, 0))) :
  W.cell? ⟨g, 0, none⟩ = some c0 ∧ W.cell? ⟨g, 1, none⟩ = some c1 ∧ W.cell? ⟨g, 2, none⟩ = some c2 ∧ W.cell? ⟨g, 3, none⟩ = some c3 ∧ W.cell? ⟨g, 4, none⟩ = some c4 ∧ W.cell? ⟨g, 5, none⟩ = some c5 ∧ W.cell? ⟨g, 6, none⟩ = some c6 ∧ W.cell? ⟨g, 7, none⟩ = some c7 ∧ W.frozen? ⟨g, 0, none⟩ = false ∧ W.frozen? ⟨g, 1, none⟩ = false ∧ W.frozen? ⟨g, 2, none⟩ = false ∧ W.frozen? ⟨g, 3, none⟩ = false ∧ W.frozen? ⟨g, 4, none⟩ = false ∧ W.frozen? ⟨g, 5, none⟩ = false ∧ W.frozen? ⟨g, 6, none⟩ = false ∧ W.frozen? ⟨g, 7, none⟩ = false ∧ g < W.heap.size := by
 obtain ⟨a0, a1, a2, a3, a4, a5, a6, a7⟩ := zy3 h
 exact ⟨a0, a1, a2, a3, a4, a5, a6, a7, z40 h 0, z40 h 1, z40 h 2, z40 h 3, z40 h 4, z40 h 5, z40 h 6, z40 h 7, z70 h⟩
theorem b3all {W : World} {g t : Nat} {c0 c1 c2 : Value} (h : W.heap[g]? = some (.cells #[c0, c1, c2] t (0, 0))) :
  W.cell? ⟨g, 0, none⟩ = some c0 ∧ W.cell? ⟨g, 1, none⟩ = some c1 ∧ W.cell? ⟨g, 2, none⟩ = some c2 ∧ W.frozen? ⟨g, 0, none⟩ = false ∧ W.frozen? ⟨g, 1, none⟩ = false ∧ W.frozen? ⟨g, 2, none⟩ = false ∧ g < W.heap.size := by
 obtain ⟨a0, a1, a2⟩ := b3cells h
 exact ⟨a0, a1, a2, z40 h 0, z40 h 1, z40 h 2, z70 h⟩
abbrev sd3 (W : World) (g : Nat) (a0 a1 a2 : Value) : World := ((W.setCell ⟨g, 0, none⟩ a0).setCell ⟨g, 1, none⟩ a1).setCell ⟨g, 2, none⟩ a2
theorem z04 {W : World} {g k : Nat} {a0 a1 a2 : Value} (h : k ≠ g) : (sd3 W g a0 a1 a2).heap[k]? = W.heap[k]? :=
 (Below.heap_setCell _ ⟨g, 2, none⟩ _ k h).trans ((Below.heap_setCell _ ⟨g, 1, none⟩ _ k h).trans (Below.heap_setCell _ ⟨g, 0, none⟩ _ k h))
theorem sd3_at {W : World} {g t : Nat} {c0 c1 c2 a0 a1 a2 : Value} (h : W.heap[g]? = some (.cells #[c0, c1, c2] t (0, 0))) : (sd3 W g a0 a1 a2).heap[g]? = some (.cells #[a0, a1, a2] t (0, 0)) := by
 simpa using zz0 (zz0 (zz0 h 0 a0) 1 a1) 2 a2
theorem zxc {w0 W : World} {g : Nat} {a0 a1 a2 : Value} (h : Below w0.heap.size w0 W) (hg : w0.heap.size ≤ g) : Below w0.heap.size w0 (sd3 W g a0 a1 a2) := zc0 (zc0 (zc0 h hg) hg) hg
theorem zg0 {W W' V : World} {g k : Nat} {x : Option Obj} (hf : ∀ {k : Nat}, k ≠ g → V.heap[k]? = W.heap[k]?) (hw : W' = V) (hk : k ≠ g) (h : W.heap[k]? = x) : W'.heap[k]? = x := by
 rw [hw]
 exact (hf hk).trans h
theorem zk0 {b : Nat → Prop} {W W' V : World} {g t : Nat} {cs : Array Value} {vs : Value} {r : RF} (hf : ∀ {k : Nat}, k ≠ g → V.heap[k]? = W.heap[k]?) (hw : W' = V) (h : FR b W vs r) (hg : W.heap[g]? = some (.cells cs t (0, 0))) (ht : t ≠ 9 ∧ t ≠ 3 ∧ t ≠ 4) : FR b W' vs r := by
 rw [hw]
 exact h.far hg ht.1 ht.2.1 ht.2.2 (fun k hk => hf hk)
theorem zu0 {W' V : World} {g : Nat} {x : Option Obj} (h : V.heap[g]? = x) (hw : W' = V) : W'.heap[g]? = x := by
 rw [hw]
 exact h
theorem zf0 {w0 W' V : World} {n : Nat} (h : Below n w0 V) (hw : W' = V) : Below n w0 W' := by
 rw [hw]
 exact h
def cutR (i : Int) (r : RF) : RF := { r with N := cutK i r.N r.N.length, S := cutK i r.S r.N.length, L := cutK i r.L r.N.length }
def putR (i : Nat) (st : Int) (lv : Bool) (r : RF) : RF := { r with S := r.S.set i st, L := r.L.set i lv }
def endR (nm : ByteArray) (r : RF) : RF := { r with d := (refEnd r.d nm).2 }
def beginR (nm : ByteArray) (dl : Int) (r : RF) : RF := { r with d := (refBegin r.d nm dl).2 }
structure RB (r : RF) (n : Nat) : Prop where
 s : r.S.length = r.N.length
 l : r.L.length = r.N.length
 m : r.N.length ≤ n
 w : r.d.w.length ≤ n
 u : r.d.u.length ≤ n
 a : r.d.u.length = r.d.a.length
theorem RB.put {r : RF} {n : Nat} (h : RB r n) (i : Nat) (st : Int) (lv : Bool) : RB (putR i st lv r) n := ⟨by simp [putR, h.s], by simp [putR, h.l], h.m, h.w, h.u, h.a⟩
theorem zh8 (nm : ByteArray) : ∀ (u : List ByteArray) (a : List Int), u.length = a.length → (u.filter (fun x => !decide (x = nm))).length = (((u.zip a).filter (fun p => !decide (p.1 = nm))).map (·.2)).length
 | [], [], _ => rfl
 | x :: u, y :: a, h => by
  have := zh8 nm u a (by simpa using h)
  by_cases c : x = nm <;> simp [c] at this ⊢ <;> exact this
theorem RB.end_ {r : RF} {n : Nat} (h : RB r n) (nm : ByteArray) : RB (endR nm r) n := ⟨h.s, h.l, h.m, Nat.le_trans (List.length_filter_le _ _) h.w, Nat.le_trans (List.length_filter_le _ _) h.u, zh8 nm r.d.u r.d.a h.a⟩
section
variable {b : Nat → Prop} {n : Nat} {w : World} {r : RF} {vs : Value}
theorem zj3 (nm : ByteArray) (h : FR b w vs r) (hB : RB r n) (hn : n ≤ 900000) (hb : FrB b w.heap.size) : Calls Tryz.prog 63 #[vs, .string nm] w fun e w' => ∃ vs', e = .returned vs' ∧ FR b w' vs' (endR nm r) ∧ Below w.heap.size w w' :=
 rend_raw nm r h hb (by have := hB.w; omega) (by have := hB.u; omega) hB.a
theorem zg4 (nm : ByteArray) (dl : Int) (hs : nm.size ≤ 100) (h : FR b w vs r) (hB : RB r n) (hn : n ≤ 900000) (hb : FrB b w.heap.size) : Calls Tryz.prog 67 #[vs, .string nm, .int .i64 dl] w fun e w' => ∃ vs', e = .returned vs' ∧ FR b w' vs' (beginR nm dl r) ∧ Below w.heap.size w w' :=
 zc9 nm dl hs r h hb (by have := hB.w; omega) (by have := hB.u; omega) (by have := hB.u; have := hB.a; omega)
theorem z03 (i : Nat) (st : Int) (lv : Bool) (h : FR b w vs r) (hB : RB r n) (hn : n ≤ 900000) (hi : i < r.N.length) (hb : FrB b w.heap.size) : Calls Tryz.prog 64 #[vs, .int .i64 (i : Int), .int .i64 st, .bool lv] w fun e w' => ∃ vs', e = .returned vs' ∧ FR b w' vs' (putR i st lv r) ∧ Below w.heap.size w w' :=
 rput_raw i st lv r h hb (by rw [hB.s]; exact hi) (by rw [hB.l]; exact hi) (by have := hB.s; have := hB.m; omega) (by have := hB.l; have := hB.m; omega)
theorem zmc (i : Int) (h : FR b w vs r) (hB : RB r n) (hn : n ≤ 900000) (hb : FrB b w.heap.size) : Calls Tryz.prog 61 #[vs, .int .i64 i] w fun e w' => ∃ vs', e = .returned vs' ∧ FR b w' vs' (cutR i r) ∧ Below w.heap.size w w' := by
 refine (zw8 i r h hB.s hB.l (by have := hB.m; omega)).mono fun e w' hh => ?_
 obtain ⟨vN, vS, vL, v3, v4, v5, rfl, h0, h1, h2, h3, h4, h5, hbl⟩ := hh
 exact ⟨_, rfl, ⟨_, _, _, _, _, _, rfl, (Rd.of_R h0).lower hb, (Rd.of_R h1).lower hb, (Rd.of_R h2).lower hb, h3, h4, h5⟩, hbl⟩
end
end
section
theorem Rd.le0 {α : Type} {enc : α → Value} {h1 : ∀ x, (enc x).oneCell' = true} {e n c : Nat} {b : Nat → Prop} {W : World} {A : Option Addr} {xs : List α} (h : Rd enc h1 e b W (.slice A n c) xs) : xs.length ≤ c := by
 obtain ⟨A', c', hv, hc, _⟩ := h
 injection hv with _ _ h3
 rw [h3]
 exact hc
def rw68.T1 : Bool × List (List Nat × List Nat) := (true, [([], []), ([0], [0]), ([], []), ([], []), ([2, 3], [2, 3]), ([], []), ([5], [5]), ([], []), ([7], [7]), ([1, 4, 6, 8, 4], [1, 4, 6, 8]), ([9, 9, 0, 1, 2, 3, 4, 5, 6, 7, 8, 9], [9])])
theorem rw68.tab1 : rtab .any (opsOf Tryz.f68 1) = rw68.T1 := by kernel_rfl
section
variable {b : Nat → Prop} {w : World}
theorem z61 (nm : ByteArray) (r : RF) {vs : Value} (h : FR b w vs r) :
  Calls Tryz.prog 41 #[vs, .string nm] w fun e w' => e = .returned (.int .i64 (idxOf r.N nm 0)) ∧ Below w.heap.size w w' := by
 generalize hix : idxOf r.N nm 0 = ix
 have HB_0 : Aside0 (Below w.heap.size w w) := ⟨Below.refl _ _⟩
 obtain ⟨Aa0, ca0, Aa1, ca1, Aa2, ca2, Aa3, ca3, Aa4, ca4, Aa5, ca5, rfl⟩ := h.form
 have Fa_0 := as0 h
 clear h
 go_enter Tryz.func41, Tryz.ntmps41
 go_wp2_with (first
  | ((with_reducible refine bx (N := 2) (cs := #[.int .i64 r.each, .int .i64 r.guard, .slice Aa0 r.N.length ca0, .slice Aa1 r.S.length ca1, .slice Aa2 r.L.length ca2, .slice Aa3 r.d.w.length ca3, .slice Aa4 r.d.u.length ca4, .slice Aa5 r.d.a.length ca5]) (t := 33) rfl rfl ?hr ?_); (case hr => first | (go_simp; done) | (go_simp; rfl)); intro ga hg w1 hbox hb; have Fa_1 := as0 (Fa_0.out.below hb); have HB_1 := as0 (z10 HB_0.out hb); have Ba_1 := as0 hbox; have GE_a := as0 (show w.heap.size ≤ ga by rw [hg]; exact HB_0.out.size); clear hbox hb hg; have ya := za0 Ba_1.out)
  | (go_at_call 38; have hp := z31 nm r.N Aa0 ca0 _ Fa_1.out.get.1.C Fa_1.out.get.1.le0; rw [hix] at hp; refine (hp).mono ?_; rintro e w2 ⟨rfl, hb0⟩; have hb := Drawn0.below hb0; clear hb0; have Ba_2 := as0 (z20 Ba_1.out hb); have Fa_2 := as0 (Fa_1.out.below hb); have HB_2 := as0 (z10 HB_1.out hb); clear hb; clear ya; have ya := za0 Ba_2.out))
 go_ret
 exact ⟨rfl, HB_2.out⟩
theorem rknown_0 (nm : ByteArray) (hs : nm.size ≤ 9223372036854775807) (r : RF) {vs : Value} (h : FR b w vs r) (hn : nameB nm = false) :
  Calls Tryz.prog 65 #[vs, .string nm] w fun e w' => e = .returned (.int .i64 11) ∧ Below w.heap.size w w' := by
 have HNM := as0 (fun (W : World) => hostlerref09_Name.calls (nm.size + 1) nm (nameB nm) W (zf2 nm hs _ (Nat.lt_succ_self _)))
 rw [hn] at HNM
 clear hn hs
 have HB_0 : Aside0 (Below w.heap.size w w) := ⟨Below.refl _ _⟩
 obtain ⟨Aa0, ca0, Aa1, ca1, Aa2, ca2, Aa3, ca3, Aa4, ca4, Aa5, ca5, rfl⟩ := h.form
 have Fa_0 := as0 h
 clear h
 go_enter Tryz.func65, Tryz.ntmps65
 go_wp2_with (first
  | ((with_reducible refine bx (N := 2) (cs := #[.int .i64 r.each, .int .i64 r.guard, .slice Aa0 r.N.length ca0, .slice Aa1 r.S.length ca1, .slice Aa2 r.L.length ca2, .slice Aa3 r.d.w.length ca3, .slice Aa4 r.d.u.length ca4, .slice Aa5 r.d.a.length ca5]) (t := 33) rfl rfl ?hr ?_); (case hr => first | (go_simp; done) | (go_simp; rfl)); intro ga hg w1 hbox hb; have Fa_1 := as0 (Fa_0.out.below hb); have HB_1 := as0 (z10 HB_0.out hb); have Ba_1 := as0 hbox; have GE_a := as0 (show w.heap.size ≤ ga by rw [hg]; exact HB_0.out.size); clear hbox hb hg; have ya := za0 Ba_1.out)
  | (go_at_call 87; refine (HNM.out _).mono ?_; rintro e w2 ⟨rfl, hb0⟩; have hb := Drawn0.below hb0; clear hb0; have Ba_2 := as0 (z20 Ba_1.out hb); have Fa_2 := as0 (Fa_1.out.below hb); have HB_2 := as0 (z10 HB_1.out hb); clear hb; clear ya; have ya := za0 Ba_2.out))
 go_ret
 exact ⟨rfl, HB_2.out⟩
theorem rknown_1 (nm : ByteArray) (hs : nm.size ≤ 9223372036854775807) (r : RF) {vs : Value} (h : FR b w vs r) (hn : nameB nm = true) (hi : idxOf r.N nm 0 < 0) :
  Calls Tryz.prog 65 #[vs, .string nm] w fun e w' => e = .returned (.int .i64 5) ∧ Below w.heap.size w w' := by
 have HNM := as0 (fun (W : World) => hostlerref09_Name.calls (nm.size + 1) nm (nameB nm) W (zf2 nm hs _ (Nat.lt_succ_self _)))
 rw [hn] at HNM
 have HAT := as0 (fun (W : World) (vs : Value) (h : FR b W vs r) => z61 nm r h)
 generalize idxOf r.N nm 0 = ix at HAT hi
 have hd : decide (ix < 0) = true := decide_eq_true hi
 clear hn hs
 have HB_0 : Aside0 (Below w.heap.size w w) := ⟨Below.refl _ _⟩
 obtain ⟨Aa0, ca0, Aa1, ca1, Aa2, ca2, Aa3, ca3, Aa4, ca4, Aa5, ca5, rfl⟩ := h.form
 have Fa_0 := as0 h
 clear h
 go_enter Tryz.func65, Tryz.ntmps65
 go_wp2_with (first
  | ((with_reducible refine bx (N := 2) (cs := #[.int .i64 r.each, .int .i64 r.guard, .slice Aa0 r.N.length ca0, .slice Aa1 r.S.length ca1, .slice Aa2 r.L.length ca2, .slice Aa3 r.d.w.length ca3, .slice Aa4 r.d.u.length ca4, .slice Aa5 r.d.a.length ca5]) (t := 33) rfl rfl ?hr ?_); (case hr => first | (go_simp; done) | (go_simp; rfl)); intro ga hg w1 hbox hb; have Fa_1 := as0 (Fa_0.out.below hb); have HB_1 := as0 (z10 HB_0.out hb); have Ba_1 := as0 hbox; have GE_a := as0 (show w.heap.size ≤ ga by rw [hg]; exact HB_0.out.size); clear hbox hb hg; have ya := za0 Ba_1.out)
  | (go_at_call 87; refine (HNM.out _).mono ?_; rintro e w2 ⟨rfl, hb0⟩; have hb := Drawn0.below hb0; clear hb0; have Ba_2 := as0 (z20 Ba_1.out hb); have Fa_2 := as0 (Fa_1.out.below hb); have HB_2 := as0 (z10 HB_1.out hb); clear hb; clear ya; have ya := za0 Ba_2.out)
  | (go_at_call 41; refine (HAT.out _ _ Fa_2.out).mono ?_; rintro e w3 ⟨rfl, hb⟩; have Ba_3 := as0 (z20 Ba_2.out hb); have Fa_3 := as0 (Fa_2.out.below hb); have HB_3 := as0 (z10 HB_2.out hb); clear hb; clear ya; have ya := za0 Ba_3.out))
 go_ret
 exact ⟨rfl, HB_3.out⟩
theorem rknown_2 (nm : ByteArray) (hs : nm.size ≤ 9223372036854775807) (r : RF) {vs : Value} (h : FR b w vs r) (hn : nameB nm = true) (hi : ¬ idxOf r.N nm 0 < 0) :
  Calls Tryz.prog 65 #[vs, .string nm] w fun e w' => e = .returned (.int .i64 0) ∧ Below w.heap.size w w' := by
 have HNM := as0 (fun (W : World) => hostlerref09_Name.calls (nm.size + 1) nm (nameB nm) W (zf2 nm hs _ (Nat.lt_succ_self _)))
 rw [hn] at HNM
 have HAT := as0 (fun (W : World) (vs : Value) (h : FR b W vs r) => z61 nm r h)
 generalize idxOf r.N nm 0 = ix at HAT hi
 have hd : decide (ix < 0) = false := decide_eq_false hi
 clear hn hs
 have HB_0 : Aside0 (Below w.heap.size w w) := ⟨Below.refl _ _⟩
 obtain ⟨Aa0, ca0, Aa1, ca1, Aa2, ca2, Aa3, ca3, Aa4, ca4, Aa5, ca5, rfl⟩ := h.form
 have Fa_0 := as0 h
 clear h
 go_enter Tryz.func65, Tryz.ntmps65
 go_wp2_with (first
  | ((with_reducible refine bx (N := 2) (cs := #[.int .i64 r.each, .int .i64 r.guard, .slice Aa0 r.N.length ca0, .slice Aa1 r.S.length ca1, .slice Aa2 r.L.length ca2, .slice Aa3 r.d.w.length ca3, .slice Aa4 r.d.u.length ca4, .slice Aa5 r.d.a.length ca5]) (t := 33) rfl rfl ?hr ?_); (case hr => first | (go_simp; done) | (go_simp; rfl)); intro ga hg w1 hbox hb; have Fa_1 := as0 (Fa_0.out.below hb); have HB_1 := as0 (z10 HB_0.out hb); have Ba_1 := as0 hbox; have GE_a := as0 (show w.heap.size ≤ ga by rw [hg]; exact HB_0.out.size); clear hbox hb hg; have ya := za0 Ba_1.out)
  | (go_at_call 87; refine (HNM.out _).mono ?_; rintro e w2 ⟨rfl, hb0⟩; have hb := Drawn0.below hb0; clear hb0; have Ba_2 := as0 (z20 Ba_1.out hb); have Fa_2 := as0 (Fa_1.out.below hb); have HB_2 := as0 (z10 HB_1.out hb); clear hb; clear ya; have ya := za0 Ba_2.out)
  | (go_at_call 41; refine (HAT.out _ _ Fa_2.out).mono ?_; rintro e w3 ⟨rfl, hb⟩; have Ba_3 := as0 (z20 Ba_2.out hb); have Fa_3 := as0 (Fa_2.out.below hb); have HB_3 := as0 (z10 HB_2.out hb); clear hb; clear ya; have ya := za0 Ba_3.out))
 go_ret
 exact ⟨rfl, HB_3.out⟩
theorem z81 (nm : ByteArray) (hs : nm.size ≤ 9223372036854775807) (r : RF) {vs : Value} (h : FR b w vs r) : Calls Tryz.prog 65 #[vs, .string nm] w fun e w' => e = .returned (.int .i64 (if nameB nm = true then (if idxOf r.N nm 0 < 0 then 5 else 0) else 11)) ∧ Below w.heap.size w w' := by
 cases hn : nameB nm with
 | false => exact rknown_0 nm hs r h hn
 | true =>
  rw [if_pos rfl]
  by_cases hi : idxOf r.N nm 0 < 0
  ·rw [if_pos hi]
   exact rknown_1 nm hs r h hn hi
  ·rw [if_neg hi]
   exact rknown_2 nm hs r h hn hi
theorem rcap_raw (r : RF) {vs : Value} (h : FR b w vs r) (hl : r.S.length ≤ 1000000) (he : r.each ≤ 1000) :
  Calls Tryz.prog 35 #[vs] w fun e w' => e = .returned (.int .i64 ((actI r.S : Int) * pos0 r.each)) ∧ Below w.heap.size w w' := by
 have hf := zw4 r.S r.each hl he _ (Nat.lt_succ_self _)
 generalize (actI r.S : Int) * pos0 r.each = cp at hf ⊢
 have HF := as0 hf
 clear hl he hf
 have HB_0 : Aside0 (Below w.heap.size w w) := ⟨Below.refl _ _⟩
 obtain ⟨Aa0, ca0, Aa1, ca1, Aa2, ca2, Aa3, ca3, Aa4, ca4, Aa5, ca5, rfl⟩ := h.form
 have Fa_0 := as0 h
 clear h
 go_enter Tryz.func35, Tryz.ntmps35
 go_wp2_with (first
  | ((with_reducible refine bx (N := 1) (cs := #[.int .i64 r.each, .int .i64 r.guard, .slice Aa0 r.N.length ca0, .slice Aa1 r.S.length ca1, .slice Aa2 r.L.length ca2, .slice Aa3 r.d.w.length ca3, .slice Aa4 r.d.u.length ca4, .slice Aa5 r.d.a.length ca5]) (t := 33) rfl rfl ?hr ?_); (case hr => first | (go_simp; done) | (go_simp; rfl)); intro ga hg w1 hbox hb; have Fa_1 := as0 (Fa_0.out.below hb); have HB_1 := as0 (z10 HB_0.out hb); have Ba_1 := as0 hbox; have GE_a := as0 (show w.heap.size ≤ ga by rw [hg]; exact HB_0.out.size); clear hbox hb hg; have ya := za0 Ba_1.out)
  | (go_at_call 69; refine (hostlerref11_Capacity.calls _ Aa1 ca1 r.S r.each cp _ Fa_1.out.get.2.1.C Fa_1.out.get.2.1.le0 HF.out).mono ?_; rintro e w2 ⟨rfl, hb0⟩; have hb := Drawn0.below hb0; clear hb0; have Ba_2 := as0 (z20 Ba_1.out hb); have Fa_2 := as0 (Fa_1.out.below hb); have HB_2 := as0 (z10 HB_1.out hb); clear hb; clear ya; have ya := za0 Ba_2.out))
 go_ret
 exact ⟨rfl, HB_2.out⟩
theorem z06 (nm : ByteArray) (r : RF) {vs : Value} (h : FR b w vs r) (hl : r.S.length ≤ 1000000) (hN : r.N.length = r.S.length) (he : r.each ≤ 1000) :
  Calls Tryz.prog 68 #[vs, .string nm] w fun e w' => e = .returned (.bool (mayI r.S (idxOf r.N nm 0) r.each r.guard)) ∧ Below w.heap.size w w' := by
 have HAT := as0 (fun (W : World) (vs : Value) (h : FR b W vs r) => z61 nm r h)
 generalize idxOf r.N nm 0 = ix at HAT ⊢
 have HF := as0 (zo7 r.S ix r.each r.guard hl he)
 generalize mayI r.S ix r.each r.guard = mb at HF ⊢
 clear hl hN he
 have HB_0 : Aside0 (Below w.heap.size w w) := ⟨Below.refl _ _⟩
 obtain ⟨Aa0, ca0, Aa1, ca1, Aa2, ca2, Aa3, ca3, Aa4, ca4, Aa5, ca5, rfl⟩ := h.form
 have Fa_0 := as0 h
 clear h
 go_enter Tryz.func68, Tryz.ntmps68
 go_upto_region 1 with (first
  | ((with_reducible refine bx (N := 2) (cs := #[.int .i64 r.each, .int .i64 r.guard, .slice Aa0 r.N.length ca0, .slice Aa1 r.S.length ca1, .slice Aa2 r.L.length ca2, .slice Aa3 r.d.w.length ca3, .slice Aa4 r.d.u.length ca4, .slice Aa5 r.d.a.length ca5]) (t := 33) rfl rfl ?hr ?_); (case hr => first | (go_simp; done) | (go_simp; rfl)); intro ga hg w1 hbox hb; have Fa_1 := as0 (Fa_0.out.below hb); have HB_1 := as0 (z10 HB_0.out hb); have Ba_1 := as0 hbox; have GE_a := as0 (show w.heap.size ≤ ga by rw [hg]; exact HB_0.out.size); clear hbox hb hg; have ya := za0 Ba_1.out))
 refine zy1 (n := 11) (S := fun w' => w'.cell? ⟨ga, 0, none⟩ = some (.int .i64 r.each) ∧ w'.cell? ⟨ga, 1, none⟩ = some (.int .i64 r.guard) ∧ w'.cell? ⟨ga, 2, none⟩ = some (.slice Aa0 r.N.length ca0) ∧ w'.cell? ⟨ga, 3, none⟩ = some (.slice Aa1 r.S.length ca1) ∧ w'.cell? ⟨ga, 4, none⟩ = some (.slice Aa2 r.L.length ca2) ∧ w'.cell? ⟨ga, 5, none⟩ = some (.slice Aa3 r.d.w.length ca3) ∧ w'.cell? ⟨ga, 6, none⟩ = some (.slice Aa4 r.d.u.length ca4) ∧ w'.cell? ⟨ga, 7, none⟩ = some (.slice Aa5 r.d.a.length ca5)) (ds := []) #[ff,ff,ff,ff,ff,ff,ff,ff,ff,ff,ff] (by kernel_rfl) rfl rfl ⟨ya.1, ya.2.1, ya.2.2.1, ya.2.2.2.1, ya.2.2.2.2.1, ya.2.2.2.2.2.1, ya.2.2.2.2.2.2.1, ya.2.2.2.2.2.2.2.1⟩ (fun hHeld => ?_); refine zc1 rw68.tab1 (fun HT_ => ?_)
 obtain ⟨w2, hw_⟩ : ∃ W, W = w1.drew := ⟨_, rfl⟩
 rw [← hw_] at hHeld ⊢
 have hb : Below w1.heap.size w1 w2 := by rw [hw_]; exact z50 (Below.refl _ _)
 have Ba_2 := as0 (z20 Ba_1.out hb)
 have Fa_2 := as0 (Fa_1.out.below hb)
 have HB_2 := as0 (z10 HB_1.out hb)
 clear hb hw_
 clear ya
 have ya := za0 Ba_2.out
 refine zl0 (i := 0) (N := some 5) (v := ?_) (a' := ?_) #[tt,ff,ff,ff,ff,ff,ff,ff,ff,ff,ff] rfl rfl (zh0 HT_.out (by kernel_rfl)) (fun _ _ _ h => h) (Or.inl ⟨by rfl, ?_⟩) ?_ ?_
 rotate_left
 ·intro w'
  go_simp
  with_reducible rfl
 rotate_left
 ·simp only [Act.put, lSI, lS0, lS1, ze0, zd0]
  rfl
 refine zl0 (i := 3) (N := some 8) (v := ?_) (a' := ?_) #[tt,ff,ff,tt,ff,ff,ff,ff,ff,ff,ff] rfl rfl (zh0 HT_.out (by kernel_rfl)) (fun _ _ _ h => h) (Or.inl ⟨by rfl, ?_⟩) ?_ ?_
 rotate_left
 ·intro w'
  go_simp
  with_reducible rfl
 rotate_left
 ·simp only [Act.put, lSI, lS0, lS1, ze0, zd0]
  rfl
 refine zl0 (i := 5) (N := some 10) (v := ?_) (a' := ?_) #[tt,ff,ff,tt,ff,tt,ff,ff,ff,ff,ff] rfl rfl (zh0 HT_.out (by kernel_rfl)) (fun _ _ _ h => h) (Or.inl ⟨by rfl, ?_⟩) ?_ ?_
 rotate_left
 ·intro w'
  go_simp
  with_reducible rfl
 rotate_left
 ·simp only [Act.put, lSI, lS0, lS1, ze0, zd0]
  rfl
 refine zl0 (i := 7) (N := some 12) (v := ?_) (a' := ?_) #[tt,ff,ff,tt,ff,tt,ff,tt,ff,ff,ff] rfl rfl (zh0 HT_.out (by kernel_rfl)) (fun _ _ _ h => h) (Or.inl ⟨by rfl, ?_⟩) ?_ ?_
 rotate_left
 ·intro w'
  go_simp
  with_reducible rfl
 rotate_left
 ·simp only [Act.put, lSI, lS0, lS1, ze0, zd0]
  rfl
 refine take_ (i := 1) (N := some 6) (v := ?_) (a' := ?_) #[tt,tt,ff,tt,ff,tt,ff,tt,ff,ff,ff] rfl rfl (zp0 HT_.out (by kernel_rfl)) (fun _ _ _ h => h) (Or.inl ⟨by rfl, ?_⟩) hHeld ?_ ?_
 rotate_left
 ·intro w' hS_
  obtain ⟨s0, s1, s2, s3, s4, s5, s6, s7⟩ := hS_
  go_simp
  with_reducible rfl
 rotate_left
 ·simp only [Act.put, lSI, lS0, lS1, ze0, zd0]
  rfl
 refine take_ (i := 2) (N := some 7) (v := ?_) (a' := ?_) #[tt,tt,tt,tt,ff,tt,ff,tt,ff,ff,ff] rfl rfl (zp0 HT_.out (by kernel_rfl)) (fun _ _ _ h => h) (Or.inl ⟨by rfl, ?_⟩) hHeld ?_ ?_
 rotate_left
 ·intro w' hS_
  obtain ⟨s0, s1, s2, s3, s4, s5, s6, s7⟩ := hS_
  go_simp
  with_reducible rfl
 rotate_left
 ·simp only [Act.put, lSI, lS0, lS1, ze0, zd0]
  rfl
 refine take_ (i := 6) (N := some 11) (v := ?_) (a' := ?_) #[tt,tt,tt,tt,ff,tt,tt,tt,ff,ff,ff] rfl rfl (zp0 HT_.out (by kernel_rfl)) (fun _ _ _ h => h) (Or.inl ⟨by rfl, ?_⟩) hHeld ?_ ?_
 rotate_left
 ·intro w' hS_
  obtain ⟨s0, s1, s2, s3, s4, s5, s6, s7⟩ := hS_
  go_simp
  with_reducible rfl
 rotate_left
 ·simp only [Act.put, lSI, lS0, lS1, ze0, zd0]
  rfl
 refine take_ (i := 8) (N := some 13) (v := ?_) (a' := ?_) #[tt,tt,tt,tt,ff,tt,tt,tt,tt,ff,ff] rfl rfl (zp0 HT_.out (by kernel_rfl)) (fun _ _ _ h => h) (Or.inl ⟨by rfl, ?_⟩) hHeld ?_ ?_
 rotate_left
 ·intro w' hS_
  obtain ⟨s0, s1, s2, s3, s4, s5, s6, s7⟩ := hS_
  go_simp
  with_reducible rfl
 rotate_left
 ·simp only [Act.put, lSI, lS0, lS1, ze0, zd0]
  rfl
 refine zx2 (i := 4) (N := some 9) #[tt,tt,tt,tt,tt,tt,tt,tt,tt,ff,ff] rfl rfl (z21 HT_.out (by kernel_rfl)) (by decide) (fun K hK => ?_)
 refine z02 Tryz.func41 (by kernel_rfl) rfl #[.agg #[.int .i64 r.each, .int .i64 r.guard, .slice Aa0 r.N.length ca0, .slice Aa1 r.S.length ca1, .slice Aa2 r.L.length ca2, .slice Aa3 r.d.w.length ca3, .slice Aa4 r.d.u.length ca4, .slice Aa5 r.d.a.length ca5], .string nm] (by rfl) rfl rfl (by (try simp only [List.map_toArray, List.map_cons, List.map_nil]); first | done | rfl) ?_
 refine (HAT.out _ _ Fa_2.out).mono ?_
 rintro e w3 ⟨rfl, hb⟩
 have Ba_3 := as0 (z20 Ba_2.out hb)
 have Fa_3 := as0 (Fa_2.out.below hb)
 have HB_3 := as0 (z10 HB_2.out hb)
 clear hb
 clear ya
 have ya := za0 Ba_3.out
 refine ⟨_, rfl, ?_⟩
 refine hK.out _ _ ⟨ya.1, ya.2.1, ya.2.2.1, ya.2.2.2.1, ya.2.2.2.2.1, ya.2.2.2.2.2.1, ya.2.2.2.2.2.2.1, ya.2.2.2.2.2.2.2.1⟩ (fun hHeld => ?_)
 clear hK K
 refine zh1 (a' := ?_) ?_ ?_
 rotate_left
 ·show Act.put _ (some 9) _ = _
  simp only [Act.put, lSI, lS0, lS1, ze0, zd0]
  rfl
 refine zx2 (i := 9) (N := some 14) #[tt,tt,tt,tt,tt,tt,tt,tt,tt,tt,ff] rfl rfl (z21 HT_.out (by kernel_rfl)) (by decide) (fun K hK => ?_)
 refine z02 Tryz.func91 (by kernel_rfl) rfl #[.slice Aa1 r.S.length ca1, .int .i64 ix, .int .i64 r.each, .int .i64 r.guard] (by rfl) rfl rfl (by (try simp only [List.map_toArray, List.map_cons, List.map_nil]); first | done | rfl) ?_
 refine (hostlerref11_May.calls _ Aa1 ca1 r.S ix r.each r.guard mb _ Fa_3.out.get.2.1.C Fa_3.out.get.2.1.le0 HF.out).mono ?_
 rintro e w4 ⟨rfl, hb⟩
 have Ba_4 := as0 (z20 Ba_3.out hb)
 have Fa_4 := as0 (Fa_3.out.below hb)
 have HB_4 := as0 (z10 HB_3.out hb)
 clear hb
 clear ya
 have ya := za0 Ba_4.out
 refine ⟨_, rfl, ?_⟩
 refine hK.out _ _ ⟨ya.1, ya.2.1, ya.2.2.1, ya.2.2.2.1, ya.2.2.2.2.1, ya.2.2.2.2.2.1, ya.2.2.2.2.2.2.1, ya.2.2.2.2.2.2.2.1⟩ (fun hHeld => ?_)
 clear hK K
 refine zh1 (a' := ?_) ?_ ?_
 rotate_left
 ·show Act.put _ (some 14) _ = _
  simp only [Act.put, lSI, lS0, lS1, ze0, zd0]
  rfl
 refine zl0 (i := 10) (N := some 4) (v := ?_) (a' := ?_) #[tt,tt,tt,tt,tt,tt,tt,tt,tt,tt,tt] rfl rfl (zh0 HT_.out (by kernel_rfl)) (fun _ _ _ h => h) (Or.inl ⟨by rfl, ?_⟩) ?_ ?_
 rotate_left
 ·intro w'
  go_simp
  with_reducible rfl
 rotate_left
 ·simp only [Act.put, lSI, lS0, lS1, ze0, zd0]
  rfl
 refine zr2 (zg1 HT_.out (by kernel_rfl)) ?_
 clear hHeld
 go_wp2
 go_ret
 exact ⟨rfl, HB_4.out⟩
end
end
section
section
variable {b : Nat → Prop} {w : World}
theorem zg9 (r : RF)
  (nm : ByteArray) (hs : nm.size ≤ 100) (dl : Int)
  {vs : Value} (h : FR b w vs r) (hb : FrB b w.heap.size)
  {n : Nat} (hB : RB r n) (hn : n ≤ 800000)
  (i : Nat) (hi : idxOf r.N nm 0 = (i : Int)) (hil : i < r.N.length)
  (st : Int) (hx : r.S[i]? = some st)
  (hp : idxOf r.d.w nm 0 < 0)
  (h3 : st = 3) (rz : RF) (hz : rz = cutR i r) :
  Calls Tryz.prog 60 #[vs, .string nm, .int .i64 dl] w fun e w' => ∃ vs', e = .returned vs' ∧ FR b w' vs' rz ∧ Below w.heap.size w w' := by
 have HAt := as0 (fun (W : World) (vs : Value) (h : FR b W vs r) => z61 nm r h)
 rw [hi] at HAt
 have HPl := as0 (fun (W : World) (e g v0 v1 v2 v3 v4 v5 : Value) (h : FR b W (.agg #[e, g, v0, v1, v2, v3, v4, v5]) r) => h.place nm)
 generalize idxOf r.d.w nm 0 = ip at HPl hp
 have hd0 : decide (0 ≤ ip) = false := decide_eq_false (by omega)
 have hB1 := hB
 have hx1 := hx
 have hil1 := hil
 have HX := as0 hx1
 have hiI : (i : Int) < (r.S.length : Int) := by have := hB1.s; omega
 have hi0 : (0 : Int) ≤ (i : Int) := by omega
 have hd3 : (st == 3) = true := by simp [h3]
 have HC := as0 (fun (W : World) (vs : Value) (h : FR b W vs r) (hbW : FrB b W.heap.size) => zmc (i : Int) h hB1 (by omega) hbW)
 rw [← hz] at HC
 clear hB hB1 hx hx1 h3 hi hn hs hil hil1 hz
 have HB_0 : Aside0 (Below w.heap.size w w) := ⟨Below.refl _ _⟩
 obtain ⟨Aa0, ca0, Aa1, ca1, Aa2, ca2, Aa3, ca3, Aa4, ca4, Aa5, ca5, rfl⟩ := h.form
 obtain ⟨adSa, hA_, -⟩ := h.adS HX.out
 subst hA_
 have Fa_0 := as0 h
 have HBB := as0 hb
 clear h hb
 go_enter Tryz.func60, Tryz.ntmps60
 go_wp2_with (first
  | ((with_reducible refine bx (N := 3) (cs := #[.int .i64 r.each, .int .i64 r.guard, .slice Aa0 r.N.length ca0, .slice (some adSa) r.S.length ca1, .slice Aa2 r.L.length ca2, .slice Aa3 r.d.w.length ca3, .slice Aa4 r.d.u.length ca4, .slice Aa5 r.d.a.length ca5]) (t := 33) rfl rfl ?hr ?_); (case hr => first | (go_simp; done) | (go_simp; rfl)); intro ga hg w1 hbox hb; have Fa_1 := as0 (Fa_0.out.below hb); have HB_1 := as0 (z10 HB_0.out hb); have Ba_1 := as0 hbox; have GE_a := as0 (show w.heap.size ≤ ga by rw [hg]; exact HB_0.out.size); clear hbox hb hg; have ya := za0 Ba_1.out; have xs := Fa_1.out.atS HX.out)
  | ((with_reducible refine bx (N := 6) (cs := #[.int .i64 0, .int .i64 0, .slice none 0 0, .slice none 0 0, .slice none 0 0, .slice none 0 0, .slice none 0 0, .slice none 0 0]) (t := 33) rfl rfl ?hr ?_); (case hr => first | (go_simp; done) | (go_simp; rfl)); intro gz hg w2 hbox hb; have Ba_2 := as0 (z20 Ba_1.out hb); have Fa_2 := as0 (Fa_1.out.below hb); have HB_2 := as0 (z10 HB_1.out hb); have Bz_2 := as0 hbox; have GE_z := as0 (show w.heap.size ≤ gz by rw [hg]; exact HB_1.out.size); have NE_az := as0 (show ga ≠ gz by rw [hg]; exact Nat.ne_of_lt (z70 Ba_1.out)); clear hbox hb hg; clear ya xs; have ya := za0 Ba_2.out; have xs := Fa_2.out.atS HX.out)
  | (go_at_call 41; (with_reducible refine (HAt.out _ _ Fa_2.out).mono ?_); rintro e w3 ⟨rfl, hb⟩; have Ba_3 := as0 (z20 Ba_2.out hb); have Bz_3 := as0 (z20 Bz_2.out hb); have Fa_3 := as0 (Fa_2.out.below hb); have HB_3 := as0 (z10 HB_2.out hb); clear hb; clear ya xs; have ya := za0 Ba_3.out; have xs := Fa_3.out.atS HX.out)
  | (go_at_call 38; (with_reducible refine (HPl.out _ _ _ _ _ _ _ _ _ Fa_3.out).mono ?_); rintro e w4 ⟨rfl, hb⟩; have Ba_4 := as0 (z20 Ba_3.out hb); have Bz_4 := as0 (z20 Bz_3.out hb); have Fa_4 := as0 (Fa_3.out.below hb); have HB_4 := as0 (z10 HB_3.out hb); clear hb; clear ya xs; have ya := za0 Ba_4.out; have xs := Fa_4.out.atS HX.out)
  | (go_at_call 61; (with_reducible refine (HC.out _ _ Fa_4.out (zf1 HBB.out HB_4.out.size)).mono ?_); rintro e w5 ⟨vs_, rfl, hF_, hb⟩; obtain ⟨Ac0, cc0, Ac1, cc1, Ac2, cc2, Ac3, cc3, Ac4, cc4, Ac5, cc5, rfl⟩ := hF_.form; have Ba_5 := as0 (z20 Ba_4.out hb); have Bz_5 := as0 (z20 Bz_4.out hb); have Fa_5 := as0 (Fa_4.out.below hb); have HB_5 := as0 (z10 HB_4.out hb); have Fc_5 := as0 hF_; clear hb hF_; clear ya xs; have ya := za0 Ba_5.out; have xs := Fa_5.out.atS HX.out)
  | (have yz := za0 Bz_5.out; (with_reducible refine sx (W := w5) (t := 33) (p := 6) (w1 := set8 w5 gz (.int .i64 rz.each) (.int .i64 rz.guard) (.slice Ac0 rz.N.length cc0) (.slice Ac1 rz.S.length cc1) (.slice Ac2 rz.L.length cc2) (.slice Ac3 rz.d.w.length cc3) (.slice Ac4 rz.d.u.length cc4) (.slice Ac5 rz.d.a.length cc5)) rfl rfl rfl ?hr ?_); (case hr => first | (go_simp; done) | (go_simp; rfl)); intro w6 hw_; have Ba_6 := as0 (zg0 z30 hw_ NE_az.out Ba_5.out); have Bz_6 := as0 (zu0 (zi0 Bz_5.out) hw_); have Fa_6 := as0 (zk0 z30 hw_ Fa_5.out Bz_5.out (by decide)); have Fc_6 := as0 (zk0 z30 hw_ Fc_5.out Bz_5.out (by decide)); have HB_6 := as0 (zf0 (zb0 HB_5.out GE_z.out) hw_); clear hw_ yz; clear ya xs; have ya := za0 Ba_6.out; have xs := Fa_6.out.atS HX.out; (repeat (first | go_values | go_skip | go_guarded | go_step | go_upon | go_in)); refine bodyPost_ret (z11 (p := 6) rfl _ _ gz 33 _ (0, 0) _ rfl Bz_6.out Tryz.underlying33 rfl (by kernel_rfl)) rfl ?_; exact ⟨_, rfl, Fc_6.out, HB_6.out⟩))
theorem zs9 (r : RF)
  (nm : ByteArray) (hs : nm.size ≤ 100) (dl : Int)
  {vs : Value} (h : FR b w vs r) (hb : FrB b w.heap.size)
  {n : Nat} (hB : RB r n) (hn : n ≤ 800000)
  (i : Nat) (hi : idxOf r.N nm 0 = (i : Int)) (hil : i < r.N.length)
  (st : Int) (hx : r.S[i]? = some st)
  (hp : idxOf r.d.w nm 0 < 0)
  (h3 : st ≠ 3) (ns : Int) (hns : nextS st 5 = ns) (hnb : nextB st 5 = false) (r2 : RF) (h2 : r2 = putR i ns true r) :
  Calls Tryz.prog 60 #[vs, .string nm, .int .i64 dl] w fun e w' => ∃ vs', e = .returned vs' ∧ FR b w' vs' r2 ∧ Below w.heap.size w w' := by
 have HAt := as0 (fun (W : World) (vs : Value) (h : FR b W vs r) => z61 nm r h)
 rw [hi] at HAt
 have HPl := as0 (fun (W : World) (e g v0 v1 v2 v3 v4 v5 : Value) (h : FR b W (.agg #[e, g, v0, v1, v2, v3, v4, v5]) r) => h.place nm)
 generalize idxOf r.d.w nm 0 = ip at HPl hp
 have hd0 : decide (0 ≤ ip) = false := decide_eq_false (by omega)
 have hB1 := hB
 have hx1 := hx
 have hil1 := hil
 have HX := as0 hx1
 have hiI : (i : Int) < (r.S.length : Int) := by have := hB1.s; omega
 have hi0 : (0 : Int) ≤ (i : Int) := by omega
 have hd3 : (st == 3) = false := by simp [h3]
 have HN := as0 (fun (W : World) => zu1 st 5 W)
 rw [hns] at HN
 rw [hnb] at HN
 have HP := as0 (fun (W : World) (vs : Value) (h : FR b W vs r) (hbW : FrB b W.heap.size) => z03 i ns true h hB1 (by omega) hil1 hbW)
 rw [← h2] at HP
 clear hB hB1 hx hx1 h3 hi hn hs hil hil1 hns hnb h2
 have HB_0 : Aside0 (Below w.heap.size w w) := ⟨Below.refl _ _⟩
 obtain ⟨Aa0, ca0, Aa1, ca1, Aa2, ca2, Aa3, ca3, Aa4, ca4, Aa5, ca5, rfl⟩ := h.form
 obtain ⟨adSa, hA_, -⟩ := h.adS HX.out
 subst hA_
 have Fa_0 := as0 h
 have HBB := as0 hb
 clear h hb
 go_enter Tryz.func60, Tryz.ntmps60
 go_wp2_with (first
  | ((with_reducible refine bx (N := 3) (cs := #[.int .i64 r.each, .int .i64 r.guard, .slice Aa0 r.N.length ca0, .slice (some adSa) r.S.length ca1, .slice Aa2 r.L.length ca2, .slice Aa3 r.d.w.length ca3, .slice Aa4 r.d.u.length ca4, .slice Aa5 r.d.a.length ca5]) (t := 33) rfl rfl ?hr ?_); (case hr => first | (go_simp; done) | (go_simp; rfl)); intro ga hg w1 hbox hb; have Fa_1 := as0 (Fa_0.out.below hb); have HB_1 := as0 (z10 HB_0.out hb); have Ba_1 := as0 hbox; have GE_a := as0 (show w.heap.size ≤ ga by rw [hg]; exact HB_0.out.size); clear hbox hb hg; have ya := za0 Ba_1.out; have xs := Fa_1.out.atS HX.out)
  | ((with_reducible refine bx (N := 6) (cs := #[.int .i64 0, .int .i64 0, .slice none 0 0, .slice none 0 0, .slice none 0 0, .slice none 0 0, .slice none 0 0, .slice none 0 0]) (t := 33) rfl rfl ?hr ?_); (case hr => first | (go_simp; done) | (go_simp; rfl)); intro gz hg w2 hbox hb; have Ba_2 := as0 (z20 Ba_1.out hb); have Fa_2 := as0 (Fa_1.out.below hb); have HB_2 := as0 (z10 HB_1.out hb); have Bz_2 := as0 hbox; have GE_z := as0 (show w.heap.size ≤ gz by rw [hg]; exact HB_1.out.size); have NE_az := as0 (show ga ≠ gz by rw [hg]; exact Nat.ne_of_lt (z70 Ba_1.out)); clear hbox hb hg; clear ya xs; have ya := za0 Ba_2.out; have xs := Fa_2.out.atS HX.out)
  | (go_at_call 41; (with_reducible refine (HAt.out _ _ Fa_2.out).mono ?_); rintro e w3 ⟨rfl, hb⟩; have Ba_3 := as0 (z20 Ba_2.out hb); have Bz_3 := as0 (z20 Bz_2.out hb); have Fa_3 := as0 (Fa_2.out.below hb); have HB_3 := as0 (z10 HB_2.out hb); clear hb; clear ya xs; have ya := za0 Ba_3.out; have xs := Fa_3.out.atS HX.out)
  | (go_at_call 38; (with_reducible refine (HPl.out _ _ _ _ _ _ _ _ _ Fa_3.out).mono ?_); rintro e w4 ⟨rfl, hb⟩; have Ba_4 := as0 (z20 Ba_3.out hb); have Bz_4 := as0 (z20 Bz_3.out hb); have Fa_4 := as0 (Fa_3.out.below hb); have HB_4 := as0 (z10 HB_3.out hb); clear hb; clear ya xs; have ya := za0 Ba_4.out; have xs := Fa_4.out.atS HX.out)
  | (go_at_call 62; (with_reducible refine (HN.out _).mono ?_); rintro e w5 ⟨rfl, hb⟩; have Ba_5 := as0 (z20 Ba_4.out hb); have Bz_5 := as0 (z20 Bz_4.out hb); have Fa_5 := as0 (Fa_4.out.below hb); have HB_5 := as0 (z10 HB_4.out hb); clear hb; clear ya xs; have ya := za0 Ba_5.out; have xs := Fa_5.out.atS HX.out)
  | (go_at_call 64; (with_reducible refine (HP.out _ _ Fa_5.out (zf1 HBB.out HB_5.out.size)).mono ?_); rintro e w6 ⟨vs_, rfl, hF_, hb⟩; obtain ⟨Ac0, cc0, Ac1, cc1, Ac2, cc2, Ac3, cc3, Ac4, cc4, Ac5, cc5, rfl⟩ := hF_.form; have Ba_6 := as0 (z20 Ba_5.out hb); have Bz_6 := as0 (z20 Bz_5.out hb); have Fa_6 := as0 (Fa_5.out.below hb); have HB_6 := as0 (z10 HB_5.out hb); have Fc_6 := as0 hF_; clear hb hF_; clear ya xs; have ya := za0 Ba_6.out; have xs := Fa_6.out.atS HX.out)
  | ((with_reducible refine sx (W := w6) (t := 33) (p := 3) (w1 := set8 w6 ga (.int .i64 r2.each) (.int .i64 r2.guard) (.slice Ac0 r2.N.length cc0) (.slice Ac1 r2.S.length cc1) (.slice Ac2 r2.L.length cc2) (.slice Ac3 r2.d.w.length cc3) (.slice Ac4 r2.d.u.length cc4) (.slice Ac5 r2.d.a.length cc5)) rfl rfl rfl ?hr ?_); (case hr => first | (go_simp; done) | (go_simp; rfl)); intro w7 hw_; have Ba_7 := as0 (zu0 (zi0 Ba_6.out) hw_); have Bz_7 := as0 (zg0 z30 hw_ NE_az.out.symm Bz_6.out); have Fa_7 := as0 (zk0 z30 hw_ Fa_6.out Ba_6.out (by decide)); have Fc_7 := as0 (zk0 z30 hw_ Fc_6.out Ba_6.out (by decide)); have HB_7 := as0 (zf0 (zb0 HB_6.out GE_a.out) hw_); clear hw_ ; clear ya xs; have ya := za0 Ba_7.out; have xs := Fa_7.out.atS HX.out)
  | (have yz := za0 Bz_7.out; (with_reducible refine sx (W := w7) (t := 33) (p := 6) (w1 := set8 w7 gz (.int .i64 r2.each) (.int .i64 r2.guard) (.slice Ac0 r2.N.length cc0) (.slice Ac1 r2.S.length cc1) (.slice Ac2 r2.L.length cc2) (.slice Ac3 r2.d.w.length cc3) (.slice Ac4 r2.d.u.length cc4) (.slice Ac5 r2.d.a.length cc5)) rfl rfl rfl ?hr ?_); (case hr => first | (go_simp; done) | (go_simp; rfl)); intro w8 hw_; have Ba_8 := as0 (zg0 z30 hw_ NE_az.out Ba_7.out); have Bz_8 := as0 (zu0 (zi0 Bz_7.out) hw_); have Fa_8 := as0 (zk0 z30 hw_ Fa_7.out Bz_7.out (by decide)); have Fc_8 := as0 (zk0 z30 hw_ Fc_7.out Bz_7.out (by decide)); have HB_8 := as0 (zf0 (zb0 HB_7.out GE_z.out) hw_); clear hw_ yz; clear ya xs; have ya := za0 Ba_8.out; have xs := Fa_8.out.atS HX.out; (repeat (first | go_values | go_skip | go_guarded | go_step | go_upon | go_in)); refine bodyPost_ret (z11 (p := 6) rfl _ _ gz 33 _ (0, 0) _ rfl Bz_8.out Tryz.underlying33 rfl (by kernel_rfl)) rfl ?_; exact ⟨_, rfl, Fc_8.out, HB_8.out⟩))
theorem z7a (r : RF)
  (nm : ByteArray) (hs : nm.size ≤ 100) (dl : Int)
  {vs : Value} (h : FR b w vs r) (hb : FrB b w.heap.size)
  {n : Nat} (hB : RB r n) (hn : n ≤ 800000)
  (i : Nat) (hi : idxOf r.N nm 0 = (i : Int)) (hil : i < r.N.length)
  (st : Int) (hx : r.S[i]? = some st)
  (hp : idxOf r.d.w nm 0 < 0)
  (h3 : st ≠ 3) (ns : Int) (hns : nextS st 5 = ns) (hnb : nextB st 5 = true) (r2 : RF) (h2 : r2 = putR i ns true r)
  (r3 : RF) (h4 : r3 = beginR nm dl r2) :
  Calls Tryz.prog 60 #[vs, .string nm, .int .i64 dl] w fun e w' => ∃ vs', e = .returned vs' ∧ FR b w' vs' r3 ∧ Below w.heap.size w w' := by
 have HAt := as0 (fun (W : World) (vs : Value) (h : FR b W vs r) => z61 nm r h)
 rw [hi] at HAt
 have HPl := as0 (fun (W : World) (e g v0 v1 v2 v3 v4 v5 : Value) (h : FR b W (.agg #[e, g, v0, v1, v2, v3, v4, v5]) r) => h.place nm)
 generalize idxOf r.d.w nm 0 = ip at HPl hp
 have hd0 : decide (0 ≤ ip) = false := decide_eq_false (by omega)
 have hB1 := hB
 have hx1 := hx
 have hil1 := hil
 have HX := as0 hx1
 have hiI : (i : Int) < (r.S.length : Int) := by have := hB1.s; omega
 have hi0 : (0 : Int) ≤ (i : Int) := by omega
 have hd3 : (st == 3) = false := by simp [h3]
 have HN := as0 (fun (W : World) => zu1 st 5 W)
 rw [hns] at HN
 rw [hnb] at HN
 have HP := as0 (fun (W : World) (vs : Value) (h : FR b W vs r) (hbW : FrB b W.heap.size) => z03 i ns true h hB1 (by omega) hil1 hbW)
 rw [← h2] at HP
 have hB2 : RB r2 n := by rw [h2]; exact hB1.put i ns true
 have HG := as0 (fun (W : World) (vs : Value) (h : FR b W vs r2) (hbW : FrB b W.heap.size) => zg4 nm dl hs h hB2 (by omega) hbW)
 rw [← h4] at HG
 clear hB hB1 hx hx1 h3 hi hn hs hil hil1 hns hnb h2 h4 hB2
 have HB_0 : Aside0 (Below w.heap.size w w) := ⟨Below.refl _ _⟩
 obtain ⟨Aa0, ca0, Aa1, ca1, Aa2, ca2, Aa3, ca3, Aa4, ca4, Aa5, ca5, rfl⟩ := h.form
 obtain ⟨adSa, hA_, -⟩ := h.adS HX.out
 subst hA_
 have Fa_0 := as0 h
 have HBB := as0 hb
 clear h hb
 go_enter Tryz.func60, Tryz.ntmps60
 go_wp2_with (first
  | ((with_reducible refine bx (N := 3) (cs := #[.int .i64 r.each, .int .i64 r.guard, .slice Aa0 r.N.length ca0, .slice (some adSa) r.S.length ca1, .slice Aa2 r.L.length ca2, .slice Aa3 r.d.w.length ca3, .slice Aa4 r.d.u.length ca4, .slice Aa5 r.d.a.length ca5]) (t := 33) rfl rfl ?hr ?_); (case hr => first | (go_simp; done) | (go_simp; rfl)); intro ga hg w1 hbox hb; have Fa_1 := as0 (Fa_0.out.below hb); have HB_1 := as0 (z10 HB_0.out hb); have Ba_1 := as0 hbox; have GE_a := as0 (show w.heap.size ≤ ga by rw [hg]; exact HB_0.out.size); clear hbox hb hg; have ya := za0 Ba_1.out; have xs := Fa_1.out.atS HX.out)
  | ((with_reducible refine bx (N := 6) (cs := #[.int .i64 0, .int .i64 0, .slice none 0 0, .slice none 0 0, .slice none 0 0, .slice none 0 0, .slice none 0 0, .slice none 0 0]) (t := 33) rfl rfl ?hr ?_); (case hr => first | (go_simp; done) | (go_simp; rfl)); intro gz hg w2 hbox hb; have Ba_2 := as0 (z20 Ba_1.out hb); have Fa_2 := as0 (Fa_1.out.below hb); have HB_2 := as0 (z10 HB_1.out hb); have Bz_2 := as0 hbox; have GE_z := as0 (show w.heap.size ≤ gz by rw [hg]; exact HB_1.out.size); have NE_az := as0 (show ga ≠ gz by rw [hg]; exact Nat.ne_of_lt (z70 Ba_1.out)); clear hbox hb hg; clear ya xs; have ya := za0 Ba_2.out; have xs := Fa_2.out.atS HX.out)
  | (go_at_call 41; (with_reducible refine (HAt.out _ _ Fa_2.out).mono ?_); rintro e w3 ⟨rfl, hb⟩; have Ba_3 := as0 (z20 Ba_2.out hb); have Bz_3 := as0 (z20 Bz_2.out hb); have Fa_3 := as0 (Fa_2.out.below hb); have HB_3 := as0 (z10 HB_2.out hb); clear hb; clear ya xs; have ya := za0 Ba_3.out; have xs := Fa_3.out.atS HX.out)
  | (go_at_call 38; (with_reducible refine (HPl.out _ _ _ _ _ _ _ _ _ Fa_3.out).mono ?_); rintro e w4 ⟨rfl, hb⟩; have Ba_4 := as0 (z20 Ba_3.out hb); have Bz_4 := as0 (z20 Bz_3.out hb); have Fa_4 := as0 (Fa_3.out.below hb); have HB_4 := as0 (z10 HB_3.out hb); clear hb; clear ya xs; have ya := za0 Ba_4.out; have xs := Fa_4.out.atS HX.out)
  | (go_at_call 62; (with_reducible refine (HN.out _).mono ?_); rintro e w5 ⟨rfl, hb⟩; have Ba_5 := as0 (z20 Ba_4.out hb); have Bz_5 := as0 (z20 Bz_4.out hb); have Fa_5 := as0 (Fa_4.out.below hb); have HB_5 := as0 (z10 HB_4.out hb); clear hb; clear ya xs; have ya := za0 Ba_5.out; have xs := Fa_5.out.atS HX.out)
  | (go_at_call 64; (with_reducible refine (HP.out _ _ Fa_5.out (zf1 HBB.out HB_5.out.size)).mono ?_); rintro e w6 ⟨vs_, rfl, hF_, hb⟩; obtain ⟨Ac0, cc0, Ac1, cc1, Ac2, cc2, Ac3, cc3, Ac4, cc4, Ac5, cc5, rfl⟩ := hF_.form; have Ba_6 := as0 (z20 Ba_5.out hb); have Bz_6 := as0 (z20 Bz_5.out hb); have Fa_6 := as0 (Fa_5.out.below hb); have HB_6 := as0 (z10 HB_5.out hb); have Fc_6 := as0 hF_; clear hb hF_; clear ya xs; have ya := za0 Ba_6.out; have xs := Fa_6.out.atS HX.out)
  | ((with_reducible refine sx (W := w6) (t := 33) (p := 3) (w1 := set8 w6 ga (.int .i64 r2.each) (.int .i64 r2.guard) (.slice Ac0 r2.N.length cc0) (.slice Ac1 r2.S.length cc1) (.slice Ac2 r2.L.length cc2) (.slice Ac3 r2.d.w.length cc3) (.slice Ac4 r2.d.u.length cc4) (.slice Ac5 r2.d.a.length cc5)) rfl rfl rfl ?hr ?_); (case hr => first | (go_simp; done) | (go_simp; rfl)); intro w7 hw_; have Ba_7 := as0 (zu0 (zi0 Ba_6.out) hw_); have Bz_7 := as0 (zg0 z30 hw_ NE_az.out.symm Bz_6.out); have Fa_7 := as0 (zk0 z30 hw_ Fa_6.out Ba_6.out (by decide)); have Fc_7 := as0 (zk0 z30 hw_ Fc_6.out Ba_6.out (by decide)); have HB_7 := as0 (zf0 (zb0 HB_6.out GE_a.out) hw_); clear hw_ ; clear ya xs; have ya := za0 Ba_7.out; have xs := Fa_7.out.atS HX.out)
  | (go_at_call 67; (with_reducible refine (HG.out _ _ Fc_7.out (zf1 HBB.out HB_7.out.size)).mono ?_); rintro e w8 ⟨vs_, rfl, hF_, hb⟩; obtain ⟨Ad0, cd0, Ad1, cd1, Ad2, cd2, Ad3, cd3, Ad4, cd4, Ad5, cd5, rfl⟩ := hF_.form; have Ba_8 := as0 (z20 Ba_7.out hb); have Bz_8 := as0 (z20 Bz_7.out hb); have Fa_8 := as0 (Fa_7.out.below hb); have Fc_8 := as0 (Fc_7.out.below hb); have HB_8 := as0 (z10 HB_7.out hb); have Fd_8 := as0 hF_; clear hb hF_; clear ya xs; have ya := za0 Ba_8.out; have xs := Fa_8.out.atS HX.out)
  | ((with_reducible refine sx (W := w8) (t := 33) (p := 3) (w1 := set8 w8 ga (.int .i64 r3.each) (.int .i64 r3.guard) (.slice Ad0 r3.N.length cd0) (.slice Ad1 r3.S.length cd1) (.slice Ad2 r3.L.length cd2) (.slice Ad3 r3.d.w.length cd3) (.slice Ad4 r3.d.u.length cd4) (.slice Ad5 r3.d.a.length cd5)) rfl rfl rfl ?hr ?_); (case hr => first | (go_simp; done) | (go_simp; rfl)); intro w9 hw_; have Ba_9 := as0 (zu0 (zi0 Ba_8.out) hw_); have Bz_9 := as0 (zg0 z30 hw_ NE_az.out.symm Bz_8.out); have Fa_9 := as0 (zk0 z30 hw_ Fa_8.out Ba_8.out (by decide)); have Fc_9 := as0 (zk0 z30 hw_ Fc_8.out Ba_8.out (by decide)); have Fd_9 := as0 (zk0 z30 hw_ Fd_8.out Ba_8.out (by decide)); have HB_9 := as0 (zf0 (zb0 HB_8.out GE_a.out) hw_); clear hw_ ; clear ya xs; have ya := za0 Ba_9.out; have xs := Fa_9.out.atS HX.out)
  | (have yz := za0 Bz_9.out; (with_reducible refine sx (W := w9) (t := 33) (p := 6) (w1 := set8 w9 gz (.int .i64 r3.each) (.int .i64 r3.guard) (.slice Ad0 r3.N.length cd0) (.slice Ad1 r3.S.length cd1) (.slice Ad2 r3.L.length cd2) (.slice Ad3 r3.d.w.length cd3) (.slice Ad4 r3.d.u.length cd4) (.slice Ad5 r3.d.a.length cd5)) rfl rfl rfl ?hr ?_); (case hr => first | (go_simp; done) | (go_simp; rfl)); intro w10 hw_; have Ba_10 := as0 (zg0 z30 hw_ NE_az.out Ba_9.out); have Bz_10 := as0 (zu0 (zi0 Bz_9.out) hw_); have Fa_10 := as0 (zk0 z30 hw_ Fa_9.out Bz_9.out (by decide)); have Fc_10 := as0 (zk0 z30 hw_ Fc_9.out Bz_9.out (by decide)); have Fd_10 := as0 (zk0 z30 hw_ Fd_9.out Bz_9.out (by decide)); have HB_10 := as0 (zf0 (zb0 HB_9.out GE_z.out) hw_); clear hw_ yz; clear ya xs; have ya := za0 Ba_10.out; have xs := Fa_10.out.atS HX.out; (repeat (first | go_values | go_skip | go_guarded | go_step | go_upon | go_in)); refine bodyPost_ret (z11 (p := 6) rfl _ _ gz 33 _ (0, 0) _ rfl Bz_10.out Tryz.underlying33 rfl (by kernel_rfl)) rfl ?_; exact ⟨_, rfl, Fd_10.out, HB_10.out⟩))
theorem zh9 (r : RF)
  (nm : ByteArray) (hs : nm.size ≤ 100) (dl : Int)
  {vs : Value} (h : FR b w vs r) (hb : FrB b w.heap.size)
  {n : Nat} (hB : RB r n) (hn : n ≤ 800000)
  (i : Nat) (hi : idxOf r.N nm 0 = (i : Int)) (hil : i < r.N.length)
  (st : Int) (hx : r.S[i]? = some st)
  (hp : 0 ≤ idxOf r.d.w nm 0)
  (r1 : RF) (h1 : r1 = endR nm r)
  (h3 : st = 3) (rz : RF) (hz : rz = cutR i r1) :
  Calls Tryz.prog 60 #[vs, .string nm, .int .i64 dl] w fun e w' => ∃ vs', e = .returned vs' ∧ FR b w' vs' rz ∧ Below w.heap.size w w' := by
 have HAt := as0 (fun (W : World) (vs : Value) (h : FR b W vs r) => z61 nm r h)
 rw [hi] at HAt
 have HPl := as0 (fun (W : World) (e g v0 v1 v2 v3 v4 v5 : Value) (h : FR b W (.agg #[e, g, v0, v1, v2, v3, v4, v5]) r) => h.place nm)
 generalize idxOf r.d.w nm 0 = ip at HPl hp
 have hd0 : decide (0 ≤ ip) = true := decide_eq_true (by omega)
 have HE := as0 (fun (W : World) (vs : Value) (h : FR b W vs r) (hbW : FrB b W.heap.size) => zj3 nm h hB (by omega) hbW)
 rw [← h1] at HE
 have hB1 : RB r1 n := by rw [h1]; exact hB.end_ nm
 have hx1 : r1.S[i]? = some st := by rw [h1]; exact hx
 have hil1 : i < r1.N.length := by rw [h1]; exact hil
 have HX := as0 hx1
 have hiI : (i : Int) < (r1.S.length : Int) := by have := hB1.s; omega
 have hi0 : (0 : Int) ≤ (i : Int) := by omega
 have hd3 : (st == 3) = true := by simp [h3]
 have HC := as0 (fun (W : World) (vs : Value) (h : FR b W vs r1) (hbW : FrB b W.heap.size) => zmc (i : Int) h hB1 (by omega) hbW)
 rw [← hz] at HC
 clear hB hB1 hx hx1 h3 hi hn hs hil hil1 h1 hz
 have HB_0 : Aside0 (Below w.heap.size w w) := ⟨Below.refl _ _⟩
 obtain ⟨Aa0, ca0, Aa1, ca1, Aa2, ca2, Aa3, ca3, Aa4, ca4, Aa5, ca5, rfl⟩ := h.form
 have Fa_0 := as0 h
 have HBB := as0 hb
 clear h hb
 go_enter Tryz.func60, Tryz.ntmps60
 go_wp2_with (first
  | ((with_reducible refine bx (N := 3) (cs := #[.int .i64 r.each, .int .i64 r.guard, .slice Aa0 r.N.length ca0, .slice Aa1 r.S.length ca1, .slice Aa2 r.L.length ca2, .slice Aa3 r.d.w.length ca3, .slice Aa4 r.d.u.length ca4, .slice Aa5 r.d.a.length ca5]) (t := 33) rfl rfl ?hr ?_); (case hr => first | (go_simp; done) | (go_simp; rfl)); intro ga hg w1 hbox hb; have Fa_1 := as0 (Fa_0.out.below hb); have HB_1 := as0 (z10 HB_0.out hb); have Ba_1 := as0 hbox; have GE_a := as0 (show w.heap.size ≤ ga by rw [hg]; exact HB_0.out.size); clear hbox hb hg; have ya := za0 Ba_1.out)
  | ((with_reducible refine bx (N := 6) (cs := #[.int .i64 0, .int .i64 0, .slice none 0 0, .slice none 0 0, .slice none 0 0, .slice none 0 0, .slice none 0 0, .slice none 0 0]) (t := 33) rfl rfl ?hr ?_); (case hr => first | (go_simp; done) | (go_simp; rfl)); intro gz hg w2 hbox hb; have Ba_2 := as0 (z20 Ba_1.out hb); have Fa_2 := as0 (Fa_1.out.below hb); have HB_2 := as0 (z10 HB_1.out hb); have Bz_2 := as0 hbox; have GE_z := as0 (show w.heap.size ≤ gz by rw [hg]; exact HB_1.out.size); have NE_az := as0 (show ga ≠ gz by rw [hg]; exact Nat.ne_of_lt (z70 Ba_1.out)); clear hbox hb hg; clear ya; have ya := za0 Ba_2.out)
  | (go_at_call 41; (with_reducible refine (HAt.out _ _ Fa_2.out).mono ?_); rintro e w3 ⟨rfl, hb⟩; have Ba_3 := as0 (z20 Ba_2.out hb); have Bz_3 := as0 (z20 Bz_2.out hb); have Fa_3 := as0 (Fa_2.out.below hb); have HB_3 := as0 (z10 HB_2.out hb); clear hb; clear ya; have ya := za0 Ba_3.out)
  | (go_at_call 38; (with_reducible refine (HPl.out _ _ _ _ _ _ _ _ _ Fa_3.out).mono ?_); rintro e w4 ⟨rfl, hb⟩; have Ba_4 := as0 (z20 Ba_3.out hb); have Bz_4 := as0 (z20 Bz_3.out hb); have Fa_4 := as0 (Fa_3.out.below hb); have HB_4 := as0 (z10 HB_3.out hb); clear hb; clear ya; have ya := za0 Ba_4.out)
  | (go_at_call 63; (with_reducible refine (HE.out _ _ Fa_4.out (zf1 HBB.out HB_4.out.size)).mono ?_); rintro e w5 ⟨vs_, rfl, hF_, hb⟩; obtain ⟨Ab0, cb0, Ab1, cb1, Ab2, cb2, Ab3, cb3, Ab4, cb4, Ab5, cb5, rfl⟩ := hF_.form; obtain ⟨adSb, hA_, -⟩ := hF_.adS HX.out; subst hA_; have Ba_5 := as0 (z20 Ba_4.out hb); have Bz_5 := as0 (z20 Bz_4.out hb); have Fa_5 := as0 (Fa_4.out.below hb); have HB_5 := as0 (z10 HB_4.out hb); have Fb_5 := as0 hF_; clear hb hF_; clear ya; have ya := za0 Ba_5.out; have xs := Fb_5.out.atS HX.out)
  | ((with_reducible refine sx (W := w5) (t := 33) (p := 3) (w1 := set8 w5 ga (.int .i64 r1.each) (.int .i64 r1.guard) (.slice Ab0 r1.N.length cb0) (.slice (some adSb) r1.S.length cb1) (.slice Ab2 r1.L.length cb2) (.slice Ab3 r1.d.w.length cb3) (.slice Ab4 r1.d.u.length cb4) (.slice Ab5 r1.d.a.length cb5)) rfl rfl rfl ?hr ?_); (case hr => first | (go_simp; done) | (go_simp; rfl)); intro w6 hw_; have Ba_6 := as0 (zu0 (zi0 Ba_5.out) hw_); have Bz_6 := as0 (zg0 z30 hw_ NE_az.out.symm Bz_5.out); have Fa_6 := as0 (zk0 z30 hw_ Fa_5.out Ba_5.out (by decide)); have Fb_6 := as0 (zk0 z30 hw_ Fb_5.out Ba_5.out (by decide)); have HB_6 := as0 (zf0 (zb0 HB_5.out GE_a.out) hw_); clear hw_ ; clear ya xs; have ya := za0 Ba_6.out; have xs := Fb_6.out.atS HX.out)
  | (go_at_call 61; (with_reducible refine (HC.out _ _ Fb_6.out (zf1 HBB.out HB_6.out.size)).mono ?_); rintro e w7 ⟨vs_, rfl, hF_, hb⟩; obtain ⟨Ac0, cc0, Ac1, cc1, Ac2, cc2, Ac3, cc3, Ac4, cc4, Ac5, cc5, rfl⟩ := hF_.form; have Ba_7 := as0 (z20 Ba_6.out hb); have Bz_7 := as0 (z20 Bz_6.out hb); have Fa_7 := as0 (Fa_6.out.below hb); have Fb_7 := as0 (Fb_6.out.below hb); have HB_7 := as0 (z10 HB_6.out hb); have Fc_7 := as0 hF_; clear hb hF_; clear ya xs; have ya := za0 Ba_7.out; have xs := Fb_7.out.atS HX.out)
  | (have yz := za0 Bz_7.out; (with_reducible refine sx (W := w7) (t := 33) (p := 6) (w1 := set8 w7 gz (.int .i64 rz.each) (.int .i64 rz.guard) (.slice Ac0 rz.N.length cc0) (.slice Ac1 rz.S.length cc1) (.slice Ac2 rz.L.length cc2) (.slice Ac3 rz.d.w.length cc3) (.slice Ac4 rz.d.u.length cc4) (.slice Ac5 rz.d.a.length cc5)) rfl rfl rfl ?hr ?_); (case hr => first | (go_simp; done) | (go_simp; rfl)); intro w8 hw_; have Ba_8 := as0 (zg0 z30 hw_ NE_az.out Ba_7.out); have Bz_8 := as0 (zu0 (zi0 Bz_7.out) hw_); have Fa_8 := as0 (zk0 z30 hw_ Fa_7.out Bz_7.out (by decide)); have Fb_8 := as0 (zk0 z30 hw_ Fb_7.out Bz_7.out (by decide)); have Fc_8 := as0 (zk0 z30 hw_ Fc_7.out Bz_7.out (by decide)); have HB_8 := as0 (zf0 (zb0 HB_7.out GE_z.out) hw_); clear hw_ yz; clear ya xs; have ya := za0 Ba_8.out; have xs := Fb_8.out.atS HX.out; (repeat (first | go_values | go_skip | go_guarded | go_step | go_upon | go_in)); refine bodyPost_ret (z11 (p := 6) rfl _ _ gz 33 _ (0, 0) _ rfl Bz_8.out Tryz.underlying33 rfl (by kernel_rfl)) rfl ?_; exact ⟨_, rfl, Fc_8.out, HB_8.out⟩))
theorem z49 (r : RF)
  (nm : ByteArray) (hs : nm.size ≤ 100) (dl : Int)
  {vs : Value} (h : FR b w vs r) (hb : FrB b w.heap.size)
  {n : Nat} (hB : RB r n) (hn : n ≤ 800000)
  (i : Nat) (hi : idxOf r.N nm 0 = (i : Int)) (hil : i < r.N.length)
  (st : Int) (hx : r.S[i]? = some st)
  (hp : 0 ≤ idxOf r.d.w nm 0)
  (r1 : RF) (h1 : r1 = endR nm r)
  (h3 : st ≠ 3) (ns : Int) (hns : nextS st 5 = ns) (hnb : nextB st 5 = false) (r2 : RF) (h2 : r2 = putR i ns true r1) :
  Calls Tryz.prog 60 #[vs, .string nm, .int .i64 dl] w fun e w' => ∃ vs', e = .returned vs' ∧ FR b w' vs' r2 ∧ Below w.heap.size w w' := by
 have HAt := as0 (fun (W : World) (vs : Value) (h : FR b W vs r) => z61 nm r h)
 rw [hi] at HAt
 have HPl := as0 (fun (W : World) (e g v0 v1 v2 v3 v4 v5 : Value) (h : FR b W (.agg #[e, g, v0, v1, v2, v3, v4, v5]) r) => h.place nm)
 generalize idxOf r.d.w nm 0 = ip at HPl hp
 have hd0 : decide (0 ≤ ip) = true := decide_eq_true (by omega)
 have HE := as0 (fun (W : World) (vs : Value) (h : FR b W vs r) (hbW : FrB b W.heap.size) => zj3 nm h hB (by omega) hbW)
 rw [← h1] at HE
 have hB1 : RB r1 n := by rw [h1]; exact hB.end_ nm
 have hx1 : r1.S[i]? = some st := by rw [h1]; exact hx
 have hil1 : i < r1.N.length := by rw [h1]; exact hil
 have HX := as0 hx1
 have hiI : (i : Int) < (r1.S.length : Int) := by have := hB1.s; omega
 have hi0 : (0 : Int) ≤ (i : Int) := by omega
 have hd3 : (st == 3) = false := by simp [h3]
 have HN := as0 (fun (W : World) => zu1 st 5 W)
 rw [hns] at HN
 rw [hnb] at HN
 have HP := as0 (fun (W : World) (vs : Value) (h : FR b W vs r1) (hbW : FrB b W.heap.size) => z03 i ns true h hB1 (by omega) hil1 hbW)
 rw [← h2] at HP
 clear hB hB1 hx hx1 h3 hi hn hs hil hil1 h1 hns hnb h2
 have HB_0 : Aside0 (Below w.heap.size w w) := ⟨Below.refl _ _⟩
 obtain ⟨Aa0, ca0, Aa1, ca1, Aa2, ca2, Aa3, ca3, Aa4, ca4, Aa5, ca5, rfl⟩ := h.form
 have Fa_0 := as0 h
 have HBB := as0 hb
 clear h hb
 go_enter Tryz.func60, Tryz.ntmps60
 go_wp2_with (first
  | ((with_reducible refine bx (N := 3) (cs := #[.int .i64 r.each, .int .i64 r.guard, .slice Aa0 r.N.length ca0, .slice Aa1 r.S.length ca1, .slice Aa2 r.L.length ca2, .slice Aa3 r.d.w.length ca3, .slice Aa4 r.d.u.length ca4, .slice Aa5 r.d.a.length ca5]) (t := 33) rfl rfl ?hr ?_); (case hr => first | (go_simp; done) | (go_simp; rfl)); intro ga hg w1 hbox hb; have Fa_1 := as0 (Fa_0.out.below hb); have HB_1 := as0 (z10 HB_0.out hb); have Ba_1 := as0 hbox; have GE_a := as0 (show w.heap.size ≤ ga by rw [hg]; exact HB_0.out.size); clear hbox hb hg; have ya := za0 Ba_1.out)
  | ((with_reducible refine bx (N := 6) (cs := #[.int .i64 0, .int .i64 0, .slice none 0 0, .slice none 0 0, .slice none 0 0, .slice none 0 0, .slice none 0 0, .slice none 0 0]) (t := 33) rfl rfl ?hr ?_); (case hr => first | (go_simp; done) | (go_simp; rfl)); intro gz hg w2 hbox hb; have Ba_2 := as0 (z20 Ba_1.out hb); have Fa_2 := as0 (Fa_1.out.below hb); have HB_2 := as0 (z10 HB_1.out hb); have Bz_2 := as0 hbox; have GE_z := as0 (show w.heap.size ≤ gz by rw [hg]; exact HB_1.out.size); have NE_az := as0 (show ga ≠ gz by rw [hg]; exact Nat.ne_of_lt (z70 Ba_1.out)); clear hbox hb hg; clear ya; have ya := za0 Ba_2.out)
  | (go_at_call 41; (with_reducible refine (HAt.out _ _ Fa_2.out).mono ?_); rintro e w3 ⟨rfl, hb⟩; have Ba_3 := as0 (z20 Ba_2.out hb); have Bz_3 := as0 (z20 Bz_2.out hb); have Fa_3 := as0 (Fa_2.out.below hb); have HB_3 := as0 (z10 HB_2.out hb); clear hb; clear ya; have ya := za0 Ba_3.out)
  | (go_at_call 38; (with_reducible refine (HPl.out _ _ _ _ _ _ _ _ _ Fa_3.out).mono ?_); rintro e w4 ⟨rfl, hb⟩; have Ba_4 := as0 (z20 Ba_3.out hb); have Bz_4 := as0 (z20 Bz_3.out hb); have Fa_4 := as0 (Fa_3.out.below hb); have HB_4 := as0 (z10 HB_3.out hb); clear hb; clear ya; have ya := za0 Ba_4.out)
  | (go_at_call 63; (with_reducible refine (HE.out _ _ Fa_4.out (zf1 HBB.out HB_4.out.size)).mono ?_); rintro e w5 ⟨vs_, rfl, hF_, hb⟩; obtain ⟨Ab0, cb0, Ab1, cb1, Ab2, cb2, Ab3, cb3, Ab4, cb4, Ab5, cb5, rfl⟩ := hF_.form; obtain ⟨adSb, hA_, -⟩ := hF_.adS HX.out; subst hA_; have Ba_5 := as0 (z20 Ba_4.out hb); have Bz_5 := as0 (z20 Bz_4.out hb); have Fa_5 := as0 (Fa_4.out.below hb); have HB_5 := as0 (z10 HB_4.out hb); have Fb_5 := as0 hF_; clear hb hF_; clear ya; have ya := za0 Ba_5.out; have xs := Fb_5.out.atS HX.out)
  | ((with_reducible refine sx (W := w5) (t := 33) (p := 3) (w1 := set8 w5 ga (.int .i64 r1.each) (.int .i64 r1.guard) (.slice Ab0 r1.N.length cb0) (.slice (some adSb) r1.S.length cb1) (.slice Ab2 r1.L.length cb2) (.slice Ab3 r1.d.w.length cb3) (.slice Ab4 r1.d.u.length cb4) (.slice Ab5 r1.d.a.length cb5)) rfl rfl rfl ?hr ?_); (case hr => first | (go_simp; done) | (go_simp; rfl)); intro w6 hw_; have Ba_6 := as0 (zu0 (zi0 Ba_5.out) hw_); have Bz_6 := as0 (zg0 z30 hw_ NE_az.out.symm Bz_5.out); have Fa_6 := as0 (zk0 z30 hw_ Fa_5.out Ba_5.out (by decide)); have Fb_6 := as0 (zk0 z30 hw_ Fb_5.out Ba_5.out (by decide)); have HB_6 := as0 (zf0 (zb0 HB_5.out GE_a.out) hw_); clear hw_ ; clear ya xs; have ya := za0 Ba_6.out; have xs := Fb_6.out.atS HX.out)
  | (go_at_call 62; (with_reducible refine (HN.out _).mono ?_); rintro e w7 ⟨rfl, hb⟩; have Ba_7 := as0 (z20 Ba_6.out hb); have Bz_7 := as0 (z20 Bz_6.out hb); have Fa_7 := as0 (Fa_6.out.below hb); have Fb_7 := as0 (Fb_6.out.below hb); have HB_7 := as0 (z10 HB_6.out hb); clear hb; clear ya xs; have ya := za0 Ba_7.out; have xs := Fb_7.out.atS HX.out)
  | (go_at_call 64; (with_reducible refine (HP.out _ _ Fb_7.out (zf1 HBB.out HB_7.out.size)).mono ?_); rintro e w8 ⟨vs_, rfl, hF_, hb⟩; obtain ⟨Ac0, cc0, Ac1, cc1, Ac2, cc2, Ac3, cc3, Ac4, cc4, Ac5, cc5, rfl⟩ := hF_.form; have Ba_8 := as0 (z20 Ba_7.out hb); have Bz_8 := as0 (z20 Bz_7.out hb); have Fa_8 := as0 (Fa_7.out.below hb); have Fb_8 := as0 (Fb_7.out.below hb); have HB_8 := as0 (z10 HB_7.out hb); have Fc_8 := as0 hF_; clear hb hF_; clear ya xs; have ya := za0 Ba_8.out; have xs := Fb_8.out.atS HX.out)
  | ((with_reducible refine sx (W := w8) (t := 33) (p := 3) (w1 := set8 w8 ga (.int .i64 r2.each) (.int .i64 r2.guard) (.slice Ac0 r2.N.length cc0) (.slice Ac1 r2.S.length cc1) (.slice Ac2 r2.L.length cc2) (.slice Ac3 r2.d.w.length cc3) (.slice Ac4 r2.d.u.length cc4) (.slice Ac5 r2.d.a.length cc5)) rfl rfl rfl ?hr ?_); (case hr => first | (go_simp; done) | (go_simp; rfl)); intro w9 hw_; have Ba_9 := as0 (zu0 (zi0 Ba_8.out) hw_); have Bz_9 := as0 (zg0 z30 hw_ NE_az.out.symm Bz_8.out); have Fa_9 := as0 (zk0 z30 hw_ Fa_8.out Ba_8.out (by decide)); have Fb_9 := as0 (zk0 z30 hw_ Fb_8.out Ba_8.out (by decide)); have Fc_9 := as0 (zk0 z30 hw_ Fc_8.out Ba_8.out (by decide)); have HB_9 := as0 (zf0 (zb0 HB_8.out GE_a.out) hw_); clear hw_ ; clear ya xs; have ya := za0 Ba_9.out; have xs := Fb_9.out.atS HX.out)
  | (have yz := za0 Bz_9.out; (with_reducible refine sx (W := w9) (t := 33) (p := 6) (w1 := set8 w9 gz (.int .i64 r2.each) (.int .i64 r2.guard) (.slice Ac0 r2.N.length cc0) (.slice Ac1 r2.S.length cc1) (.slice Ac2 r2.L.length cc2) (.slice Ac3 r2.d.w.length cc3) (.slice Ac4 r2.d.u.length cc4) (.slice Ac5 r2.d.a.length cc5)) rfl rfl rfl ?hr ?_); (case hr => first | (go_simp; done) | (go_simp; rfl)); intro w10 hw_; have Ba_10 := as0 (zg0 z30 hw_ NE_az.out Ba_9.out); have Bz_10 := as0 (zu0 (zi0 Bz_9.out) hw_); have Fa_10 := as0 (zk0 z30 hw_ Fa_9.out Bz_9.out (by decide)); have Fb_10 := as0 (zk0 z30 hw_ Fb_9.out Bz_9.out (by decide)); have Fc_10 := as0 (zk0 z30 hw_ Fc_9.out Bz_9.out (by decide)); have HB_10 := as0 (zf0 (zb0 HB_9.out GE_z.out) hw_); clear hw_ yz; clear ya xs; have ya := za0 Ba_10.out; have xs := Fb_10.out.atS HX.out; (repeat (first | go_values | go_skip | go_guarded | go_step | go_upon | go_in)); refine bodyPost_ret (z11 (p := 6) rfl _ _ gz 33 _ (0, 0) _ rfl Bz_10.out Tryz.underlying33 rfl (by kernel_rfl)) rfl ?_; exact ⟨_, rfl, Fc_10.out, HB_10.out⟩))
theorem zl9 (r : RF)
  (nm : ByteArray) (hs : nm.size ≤ 100) (dl : Int)
  {vs : Value} (h : FR b w vs r) (hb : FrB b w.heap.size)
  {n : Nat} (hB : RB r n) (hn : n ≤ 800000)
  (i : Nat) (hi : idxOf r.N nm 0 = (i : Int)) (hil : i < r.N.length)
  (st : Int) (hx : r.S[i]? = some st)
  (hp : 0 ≤ idxOf r.d.w nm 0)
  (r1 : RF) (h1 : r1 = endR nm r)
  (h3 : st ≠ 3) (ns : Int) (hns : nextS st 5 = ns) (hnb : nextB st 5 = true) (r2 : RF) (h2 : r2 = putR i ns true r1)
  (r3 : RF) (h4 : r3 = beginR nm dl r2) :
  Calls Tryz.prog 60 #[vs, .string nm, .int .i64 dl] w fun e w' => ∃ vs', e = .returned vs' ∧ FR b w' vs' r3 ∧ Below w.heap.size w w' := by
 have HAt := as0 (fun (W : World) (vs : Value) (h : FR b W vs r) => z61 nm r h)
 rw [hi] at HAt
 have HPl := as0 (fun (W : World) (e g v0 v1 v2 v3 v4 v5 : Value) (h : FR b W (.agg #[e, g, v0, v1, v2, v3, v4, v5]) r) => h.place nm)
 generalize idxOf r.d.w nm 0 = ip at HPl hp
 have hd0 : decide (0 ≤ ip) = true := decide_eq_true (by omega)
 have HE := as0 (fun (W : World) (vs : Value) (h : FR b W vs r) (hbW : FrB b W.heap.size) => zj3 nm h hB (by omega) hbW)
 rw [← h1] at HE
 have hB1 : RB r1 n := by rw [h1]; exact hB.end_ nm
 have hx1 : r1.S[i]? = some st := by rw [h1]; exact hx
 have hil1 : i < r1.N.length := by rw [h1]; exact hil
 have HX := as0 hx1
 have hiI : (i : Int) < (r1.S.length : Int) := by have := hB1.s; omega
 have hi0 : (0 : Int) ≤ (i : Int) := by omega
 have hd3 : (st == 3) = false := by simp [h3]
 have HN := as0 (fun (W : World) => zu1 st 5 W)
 rw [hns] at HN
 rw [hnb] at HN
 have HP := as0 (fun (W : World) (vs : Value) (h : FR b W vs r1) (hbW : FrB b W.heap.size) => z03 i ns true h hB1 (by omega) hil1 hbW)
 rw [← h2] at HP
 have hB2 : RB r2 n := by rw [h2]; exact hB1.put i ns true
 have HG := as0 (fun (W : World) (vs : Value) (h : FR b W vs r2) (hbW : FrB b W.heap.size) => zg4 nm dl hs h hB2 (by omega) hbW)
 rw [← h4] at HG
 clear hB hB1 hx hx1 h3 hi hn hs hil hil1 h1 hns hnb h2 h4 hB2
 have HB_0 : Aside0 (Below w.heap.size w w) := ⟨Below.refl _ _⟩
 obtain ⟨Aa0, ca0, Aa1, ca1, Aa2, ca2, Aa3, ca3, Aa4, ca4, Aa5, ca5, rfl⟩ := h.form
 have Fa_0 := as0 h
 have HBB := as0 hb
 clear h hb
 go_enter Tryz.func60, Tryz.ntmps60
 go_wp2_with (first
  | ((with_reducible refine bx (N := 3) (cs := #[.int .i64 r.each, .int .i64 r.guard, .slice Aa0 r.N.length ca0, .slice Aa1 r.S.length ca1, .slice Aa2 r.L.length ca2, .slice Aa3 r.d.w.length ca3, .slice Aa4 r.d.u.length ca4, .slice Aa5 r.d.a.length ca5]) (t := 33) rfl rfl ?hr ?_); (case hr => first | (go_simp; done) | (go_simp; rfl)); intro ga hg w1 hbox hb; have Fa_1 := as0 (Fa_0.out.below hb); have HB_1 := as0 (z10 HB_0.out hb); have Ba_1 := as0 hbox; have GE_a := as0 (show w.heap.size ≤ ga by rw [hg]; exact HB_0.out.size); clear hbox hb hg; have ya := za0 Ba_1.out)
  | ((with_reducible refine bx (N := 6) (cs := #[.int .i64 0, .int .i64 0, .slice none 0 0, .slice none 0 0, .slice none 0 0, .slice none 0 0, .slice none 0 0, .slice none 0 0]) (t := 33) rfl rfl ?hr ?_); (case hr => first | (go_simp; done) | (go_simp; rfl)); intro gz hg w2 hbox hb; have Ba_2 := as0 (z20 Ba_1.out hb); have Fa_2 := as0 (Fa_1.out.below hb); have HB_2 := as0 (z10 HB_1.out hb); have Bz_2 := as0 hbox; have GE_z := as0 (show w.heap.size ≤ gz by rw [hg]; exact HB_1.out.size); have NE_az := as0 (show ga ≠ gz by rw [hg]; exact Nat.ne_of_lt (z70 Ba_1.out)); clear hbox hb hg; clear ya; have ya := za0 Ba_2.out)
  | (go_at_call 41; (with_reducible refine (HAt.out _ _ Fa_2.out).mono ?_); rintro e w3 ⟨rfl, hb⟩; have Ba_3 := as0 (z20 Ba_2.out hb); have Bz_3 := as0 (z20 Bz_2.out hb); have Fa_3 := as0 (Fa_2.out.below hb); have HB_3 := as0 (z10 HB_2.out hb); clear hb; clear ya; have ya := za0 Ba_3.out)
  | (go_at_call 38; (with_reducible refine (HPl.out _ _ _ _ _ _ _ _ _ Fa_3.out).mono ?_); rintro e w4 ⟨rfl, hb⟩; have Ba_4 := as0 (z20 Ba_3.out hb); have Bz_4 := as0 (z20 Bz_3.out hb); have Fa_4 := as0 (Fa_3.out.below hb); have HB_4 := as0 (z10 HB_3.out hb); clear hb; clear ya; have ya := za0 Ba_4.out)
  | (go_at_call 63; (with_reducible refine (HE.out _ _ Fa_4.out (zf1 HBB.out HB_4.out.size)).mono ?_); rintro e w5 ⟨vs_, rfl, hF_, hb⟩; obtain ⟨Ab0, cb0, Ab1, cb1, Ab2, cb2, Ab3, cb3, Ab4, cb4, Ab5, cb5, rfl⟩ := hF_.form; obtain ⟨adSb, hA_, -⟩ := hF_.adS HX.out; subst hA_; have Ba_5 := as0 (z20 Ba_4.out hb); have Bz_5 := as0 (z20 Bz_4.out hb); have Fa_5 := as0 (Fa_4.out.below hb); have HB_5 := as0 (z10 HB_4.out hb); have Fb_5 := as0 hF_; clear hb hF_; clear ya; have ya := za0 Ba_5.out; have xs := Fb_5.out.atS HX.out)
  | ((with_reducible refine sx (W := w5) (t := 33) (p := 3) (w1 := set8 w5 ga (.int .i64 r1.each) (.int .i64 r1.guard) (.slice Ab0 r1.N.length cb0) (.slice (some adSb) r1.S.length cb1) (.slice Ab2 r1.L.length cb2) (.slice Ab3 r1.d.w.length cb3) (.slice Ab4 r1.d.u.length cb4) (.slice Ab5 r1.d.a.length cb5)) rfl rfl rfl ?hr ?_); (case hr => first | (go_simp; done) | (go_simp; rfl)); intro w6 hw_; have Ba_6 := as0 (zu0 (zi0 Ba_5.out) hw_); have Bz_6 := as0 (zg0 z30 hw_ NE_az.out.symm Bz_5.out); have Fa_6 := as0 (zk0 z30 hw_ Fa_5.out Ba_5.out (by decide)); have Fb_6 := as0 (zk0 z30 hw_ Fb_5.out Ba_5.out (by decide)); have HB_6 := as0 (zf0 (zb0 HB_5.out GE_a.out) hw_); clear hw_ ; clear ya xs; have ya := za0 Ba_6.out; have xs := Fb_6.out.atS HX.out)
  | (go_at_call 62; (with_reducible refine (HN.out _).mono ?_); rintro e w7 ⟨rfl, hb⟩; have Ba_7 := as0 (z20 Ba_6.out hb); have Bz_7 := as0 (z20 Bz_6.out hb); have Fa_7 := as0 (Fa_6.out.below hb); have Fb_7 := as0 (Fb_6.out.below hb); have HB_7 := as0 (z10 HB_6.out hb); clear hb; clear ya xs; have ya := za0 Ba_7.out; have xs := Fb_7.out.atS HX.out)
  | (go_at_call 64; (with_reducible refine (HP.out _ _ Fb_7.out (zf1 HBB.out HB_7.out.size)).mono ?_); rintro e w8 ⟨vs_, rfl, hF_, hb⟩; obtain ⟨Ac0, cc0, Ac1, cc1, Ac2, cc2, Ac3, cc3, Ac4, cc4, Ac5, cc5, rfl⟩ := hF_.form; have Ba_8 := as0 (z20 Ba_7.out hb); have Bz_8 := as0 (z20 Bz_7.out hb); have Fa_8 := as0 (Fa_7.out.below hb); have Fb_8 := as0 (Fb_7.out.below hb); have HB_8 := as0 (z10 HB_7.out hb); have Fc_8 := as0 hF_; clear hb hF_; clear ya xs; have ya := za0 Ba_8.out; have xs := Fb_8.out.atS HX.out)
  | ((with_reducible refine sx (W := w8) (t := 33) (p := 3) (w1 := set8 w8 ga (.int .i64 r2.each) (.int .i64 r2.guard) (.slice Ac0 r2.N.length cc0) (.slice Ac1 r2.S.length cc1) (.slice Ac2 r2.L.length cc2) (.slice Ac3 r2.d.w.length cc3) (.slice Ac4 r2.d.u.length cc4) (.slice Ac5 r2.d.a.length cc5)) rfl rfl rfl ?hr ?_); (case hr => first | (go_simp; done) | (go_simp; rfl)); intro w9 hw_; have Ba_9 := as0 (zu0 (zi0 Ba_8.out) hw_); have Bz_9 := as0 (zg0 z30 hw_ NE_az.out.symm Bz_8.out); have Fa_9 := as0 (zk0 z30 hw_ Fa_8.out Ba_8.out (by decide)); have Fb_9 := as0 (zk0 z30 hw_ Fb_8.out Ba_8.out (by decide)); have Fc_9 := as0 (zk0 z30 hw_ Fc_8.out Ba_8.out (by decide)); have HB_9 := as0 (zf0 (zb0 HB_8.out GE_a.out) hw_); clear hw_ ; clear ya xs; have ya := za0 Ba_9.out; have xs := Fb_9.out.atS HX.out)
  | (go_at_call 67; (with_reducible refine (HG.out _ _ Fc_9.out (zf1 HBB.out HB_9.out.size)).mono ?_); rintro e w10 ⟨vs_, rfl, hF_, hb⟩; obtain ⟨Ad0, cd0, Ad1, cd1, Ad2, cd2, Ad3, cd3, Ad4, cd4, Ad5, cd5, rfl⟩ := hF_.form; have Ba_10 := as0 (z20 Ba_9.out hb); have Bz_10 := as0 (z20 Bz_9.out hb); have Fa_10 := as0 (Fa_9.out.below hb); have Fb_10 := as0 (Fb_9.out.below hb); have Fc_10 := as0 (Fc_9.out.below hb); have HB_10 := as0 (z10 HB_9.out hb); have Fd_10 := as0 hF_; clear hb hF_; clear ya xs; have ya := za0 Ba_10.out; have xs := Fb_10.out.atS HX.out)
  | ((with_reducible refine sx (W := w10) (t := 33) (p := 3) (w1 := set8 w10 ga (.int .i64 r3.each) (.int .i64 r3.guard) (.slice Ad0 r3.N.length cd0) (.slice Ad1 r3.S.length cd1) (.slice Ad2 r3.L.length cd2) (.slice Ad3 r3.d.w.length cd3) (.slice Ad4 r3.d.u.length cd4) (.slice Ad5 r3.d.a.length cd5)) rfl rfl rfl ?hr ?_); (case hr => first | (go_simp; done) | (go_simp; rfl)); intro w11 hw_; have Ba_11 := as0 (zu0 (zi0 Ba_10.out) hw_); have Bz_11 := as0 (zg0 z30 hw_ NE_az.out.symm Bz_10.out); have Fa_11 := as0 (zk0 z30 hw_ Fa_10.out Ba_10.out (by decide)); have Fb_11 := as0 (zk0 z30 hw_ Fb_10.out Ba_10.out (by decide)); have Fc_11 := as0 (zk0 z30 hw_ Fc_10.out Ba_10.out (by decide)); have Fd_11 := as0 (zk0 z30 hw_ Fd_10.out Ba_10.out (by decide)); have HB_11 := as0 (zf0 (zb0 HB_10.out GE_a.out) hw_); clear hw_ ; clear ya xs; have ya := za0 Ba_11.out; have xs := Fb_11.out.atS HX.out)
  | (have yz := za0 Bz_11.out; (with_reducible refine sx (W := w11) (t := 33) (p := 6) (w1 := set8 w11 gz (.int .i64 r3.each) (.int .i64 r3.guard) (.slice Ad0 r3.N.length cd0) (.slice Ad1 r3.S.length cd1) (.slice Ad2 r3.L.length cd2) (.slice Ad3 r3.d.w.length cd3) (.slice Ad4 r3.d.u.length cd4) (.slice Ad5 r3.d.a.length cd5)) rfl rfl rfl ?hr ?_); (case hr => first | (go_simp; done) | (go_simp; rfl)); intro w12 hw_; have Ba_12 := as0 (zg0 z30 hw_ NE_az.out Ba_11.out); have Bz_12 := as0 (zu0 (zi0 Bz_11.out) hw_); have Fa_12 := as0 (zk0 z30 hw_ Fa_11.out Bz_11.out (by decide)); have Fb_12 := as0 (zk0 z30 hw_ Fb_11.out Bz_11.out (by decide)); have Fc_12 := as0 (zk0 z30 hw_ Fc_11.out Bz_11.out (by decide)); have Fd_12 := as0 (zk0 z30 hw_ Fd_11.out Bz_11.out (by decide)); have HB_12 := as0 (zf0 (zb0 HB_11.out GE_z.out) hw_); clear hw_ yz; clear ya xs; have ya := za0 Ba_12.out; have xs := Fb_12.out.atS HX.out; (repeat (first | go_values | go_skip | go_guarded | go_step | go_upon | go_in)); refine bodyPost_ret (z11 (p := 6) rfl _ _ gz 33 _ (0, 0) _ rfl Bz_12.out Tryz.underlying33 rfl (by kernel_rfl)) rfl ?_; exact ⟨_, rfl, Fd_12.out, HB_12.out⟩))
end
end
section
def rw24.T4 : Bool × List (List Nat × List Nat) := (true, [([], []), ([0], [0]), ([], []), ([], []), ([2, 3], [2, 3]), ([1, 4], [1, 4]), ([5], [5]), ([6, 4, 0, 1, 2, 3, 4, 5, 6], [6])])
theorem rw24.tab4 : rtab .any (opsOf Tryz.f24 4) = rw24.T4 := by kernel_rfl
section
variable {b : Nat → Prop} {w : World}
theorem zq9 (r : RF)
  (nm : ByteArray) (hs : nm.size ≤ 100)
  {vs : Value} (h : FR b w vs r) (hb : FrB b w.heap.size)
  {n : Nat} (hB : RB r n) (hn : n ≤ 800000)
  (e0 : Int) (hk : (if nameB nm = true then (if idxOf r.N nm 0 < 0 then (5 : Int) else 0) else 11) = e0) (he : e0 ≠ 0) :
  Calls Tryz.prog 24 #[vs, .string nm] w fun e w' => ∃ vs', e = .returned (.tuple #[vs', .int .i64 e0]) ∧ FR b w' vs' r ∧ Below w.heap.size w w' := by
 have HK := as0 (fun (W : World) (vs : Value) (h : FR b W vs r) => z81 nm (by omega) r h)
 rw [hk] at HK
 have hd : (e0 != 0) = true := by simp [he]
 clear hB hk hn hs he
 have HB_0 : Aside0 (Below w.heap.size w w) := ⟨Below.refl _ _⟩
 obtain ⟨Aa0, ca0, Aa1, ca1, Aa2, ca2, Aa3, ca3, Aa4, ca4, Aa5, ca5, rfl⟩ := h.form
 have Fa_0 := as0 h
 have HBB := as0 hb
 clear h hb
 go_enter Tryz.func24, Tryz.ntmps24
 go_wp2_with (first
  | ((with_reducible refine bx (N := 2) (cs := #[.int .i64 r.each, .int .i64 r.guard, .slice Aa0 r.N.length ca0, .slice Aa1 r.S.length ca1, .slice Aa2 r.L.length ca2, .slice Aa3 r.d.w.length ca3, .slice Aa4 r.d.u.length ca4, .slice Aa5 r.d.a.length ca5]) (t := 33) rfl rfl ?hr ?_); (case hr => first | (go_simp; done) | (go_simp; rfl)); intro ga hg w1 hbox hb; have Fa_1 := as0 (Fa_0.out.below hb); have HB_1 := as0 (z10 HB_0.out hb); have Ba_1 := as0 hbox; have GE_a := as0 (show w.heap.size ≤ ga by rw [hg]; exact HB_0.out.size); clear hbox hb hg; have ya := za0 Ba_1.out)
  | ((with_reducible refine bx (N := 4) (cs := #[.int .i64 0, .int .i64 0, .slice none 0 0, .slice none 0 0, .slice none 0 0, .slice none 0 0, .slice none 0 0, .slice none 0 0]) (t := 33) rfl rfl ?hr ?_); (case hr => first | (go_simp; done) | (go_simp; rfl)); intro gz hg w2 hbox hb; have Ba_2 := as0 (z20 Ba_1.out hb); have Fa_2 := as0 (Fa_1.out.below hb); have HB_2 := as0 (z10 HB_1.out hb); have Bz_2 := as0 hbox; have GE_z := as0 (show w.heap.size ≤ gz by rw [hg]; exact HB_1.out.size); have NE_az := as0 (show ga ≠ gz by rw [hg]; exact Nat.ne_of_lt (z70 Ba_1.out)); clear hbox hb hg; clear ya; have ya := za0 Ba_2.out)
  | (go_at_call 65; (with_reducible refine (HK.out _ _ Fa_2.out).mono ?_); rintro e w3 ⟨rfl, hb⟩; have Ba_3 := as0 (z20 Ba_2.out hb); have Bz_3 := as0 (z20 Bz_2.out hb); have Fa_3 := as0 (Fa_2.out.below hb); have HB_3 := as0 (z10 HB_2.out hb); clear hb; clear ya; have ya := za0 Ba_3.out)
  | (have yz := za0 Bz_3.out; (with_reducible refine sx (W := w3) (t := 33) (p := 4) (w1 := set8 w3 gz (.int .i64 r.each) (.int .i64 r.guard) (.slice Aa0 r.N.length ca0) (.slice Aa1 r.S.length ca1) (.slice Aa2 r.L.length ca2) (.slice Aa3 r.d.w.length ca3) (.slice Aa4 r.d.u.length ca4) (.slice Aa5 r.d.a.length ca5)) rfl rfl rfl ?hr ?_); (case hr => first | (go_simp; done) | (go_simp; rfl)); intro w4 hw_; have Ba_4 := as0 (zg0 z30 hw_ NE_az.out Ba_3.out); have Bz_4 := as0 (zu0 (zi0 Bz_3.out) hw_); have Fa_4 := as0 (zk0 z30 hw_ Fa_3.out Bz_3.out (by decide)); have HB_4 := as0 (zf0 (zb0 HB_3.out GE_z.out) hw_); clear hw_ yz; clear ya; have ya := za0 Ba_4.out; (repeat (first | go_values | go_skip | go_guarded | go_step | go_upon | go_in)); refine bodyPost_ret (zn0 (p := 4) rfl _ _ gz 33 _ (0, 0) _ rfl Bz_4.out Tryz.underlying33 rfl (by kernel_rfl)) rfl ?_; exact ⟨_, rfl, Fa_4.out, HB_4.out⟩))
theorem zp6 (r : RF)
  (nm : ByteArray) (hs : nm.size ≤ 100)
  {vs : Value} (h : FR b w vs r) (hb : FrB b w.heap.size)
  {n : Nat} (hB : RB r n) (hn : n ≤ 800000)
  (hk : (if nameB nm = true then (if idxOf r.N nm 0 < 0 then (5 : Int) else 0) else 11) = 0)
  (i : Nat) (hi : idxOf r.N nm 0 = (i : Int)) (hil : i < r.N.length)
  (st : Int) (hx : r.S[i]? = some st) (hst : st = 1 ∨ st = 3) :
  Calls Tryz.prog 24 #[vs, .string nm] w fun e w' => ∃ vs', e = .returned (.tuple #[vs', .int .i64 8]) ∧ FR b w' vs' r ∧ Below w.heap.size w w' := by
 have HK := as0 (fun (W : World) (vs : Value) (h : FR b W vs r) => z81 nm (by omega) r h)
 rw [hk] at HK
 have HAt := as0 (fun (W : World) (vs : Value) (h : FR b W vs r) => z61 nm r h)
 rw [hi] at HAt
 have HX := as0 hx
 have hiI : (i : Int) < (r.S.length : Int) := by have := hB.s; omega
 have hi0 : (0 : Int) ≤ (i : Int) := by omega
 clear hB hk hn hs hi hil hx
 have HB_0 : Aside0 (Below w.heap.size w w) := ⟨Below.refl _ _⟩
 obtain ⟨Aa0, ca0, Aa1, ca1, Aa2, ca2, Aa3, ca3, Aa4, ca4, Aa5, ca5, rfl⟩ := h.form
 obtain ⟨adSa, hA_, -⟩ := h.adS HX.out
 subst hA_
 have Fa_0 := as0 h
 have HBB := as0 hb
 clear h hb
 go_enter Tryz.func24, Tryz.ntmps24
 go_upto_region 4 with (first
  | ((with_reducible refine bx (N := 2) (cs := #[.int .i64 r.each, .int .i64 r.guard, .slice Aa0 r.N.length ca0, .slice (some adSa) r.S.length ca1, .slice Aa2 r.L.length ca2, .slice Aa3 r.d.w.length ca3, .slice Aa4 r.d.u.length ca4, .slice Aa5 r.d.a.length ca5]) (t := 33) rfl rfl ?hr ?_); (case hr => first | (go_simp; done) | (go_simp; rfl)); intro ga hg w1 hbox hb; have Fa_1 := as0 (Fa_0.out.below hb); have HB_1 := as0 (z10 HB_0.out hb); have Ba_1 := as0 hbox; have GE_a := as0 (show w.heap.size ≤ ga by rw [hg]; exact HB_0.out.size); clear hbox hb hg; have ya := za0 Ba_1.out; have xs := Fa_1.out.atS HX.out)
  | ((with_reducible refine bx (N := 4) (cs := #[.int .i64 0, .int .i64 0, .slice none 0 0, .slice none 0 0, .slice none 0 0, .slice none 0 0, .slice none 0 0, .slice none 0 0]) (t := 33) rfl rfl ?hr ?_); (case hr => first | (go_simp; done) | (go_simp; rfl)); intro gz hg w2 hbox hb; have Ba_2 := as0 (z20 Ba_1.out hb); have Fa_2 := as0 (Fa_1.out.below hb); have HB_2 := as0 (z10 HB_1.out hb); have Bz_2 := as0 hbox; have GE_z := as0 (show w.heap.size ≤ gz by rw [hg]; exact HB_1.out.size); have NE_az := as0 (show ga ≠ gz by rw [hg]; exact Nat.ne_of_lt (z70 Ba_1.out)); clear hbox hb hg; clear ya xs; have ya := za0 Ba_2.out; have xs := Fa_2.out.atS HX.out)
  | (go_at_call 65; (with_reducible refine (HK.out _ _ Fa_2.out).mono ?_); rintro e w3 ⟨rfl, hb⟩; have Ba_3 := as0 (z20 Ba_2.out hb); have Bz_3 := as0 (z20 Bz_2.out hb); have Fa_3 := as0 (Fa_2.out.below hb); have HB_3 := as0 (z10 HB_2.out hb); clear hb; clear ya xs; have ya := za0 Ba_3.out; have xs := Fa_3.out.atS HX.out))
 refine zy1 (n := 8) (S := fun w' => w'.cell? ⟨ga, 0, none⟩ = some (.int .i64 r.each) ∧ w'.cell? ⟨ga, 1, none⟩ = some (.int .i64 r.guard) ∧ w'.cell? ⟨ga, 2, none⟩ = some (.slice Aa0 r.N.length ca0) ∧ w'.cell? ⟨ga, 3, none⟩ = some (.slice (some adSa) r.S.length ca1) ∧ w'.cell? ⟨ga, 4, none⟩ = some (.slice Aa2 r.L.length ca2) ∧ w'.cell? ⟨ga, 5, none⟩ = some (.slice Aa3 r.d.w.length ca3) ∧ w'.cell? ⟨ga, 6, none⟩ = some (.slice Aa4 r.d.u.length ca4) ∧ w'.cell? ⟨ga, 7, none⟩ = some (.slice Aa5 r.d.a.length ca5) ∧ w'.cell? (adSa.add i) = some (.int .i64 st)) (ds := []) #[ff,ff,ff,ff,ff,ff,ff,ff] (by kernel_rfl) rfl rfl ⟨ya.1, ya.2.1, ya.2.2.1, ya.2.2.2.1, ya.2.2.2.2.1, ya.2.2.2.2.2.1, ya.2.2.2.2.2.2.1, ya.2.2.2.2.2.2.2.1, xs⟩ (fun hHeld => ?_); refine zc1 rw24.tab4 (fun HT_ => ?_)
 obtain ⟨w4, hw_⟩ : ∃ W, W = w3.drew := ⟨_, rfl⟩
 rw [← hw_] at hHeld ⊢
 have hb : Below w3.heap.size w3 w4 := by rw [hw_]; exact z50 (Below.refl _ _)
 have Ba_4 := as0 (z20 Ba_3.out hb)
 have Bz_4 := as0 (z20 Bz_3.out hb)
 have Fa_4 := as0 (Fa_3.out.below hb)
 have HB_4 := as0 (z10 HB_3.out hb)
 clear hb hw_
 clear ya xs
 have ya := za0 Ba_4.out
 have xs := Fa_4.out.atS HX.out
 refine zl0 (i := 0) (N := some 17) (v := ?_) (a' := ?_) #[tt,ff,ff,ff,ff,ff,ff,ff] rfl rfl (zh0 HT_.out (by kernel_rfl)) (fun _ _ _ h => h) (Or.inl ⟨by rfl, ?_⟩) ?_ ?_
 rotate_left
 ·intro w'
  go_simp
  with_reducible rfl
 rotate_left
 ·simp only [Act.put, lSI, lS0, lS1, ze0, zd0]
  rfl
 refine zl0 (i := 3) (N := some 20) (v := ?_) (a' := ?_) #[tt,ff,ff,tt,ff,ff,ff,ff] rfl rfl (zh0 HT_.out (by kernel_rfl)) (fun _ _ _ h => h) (Or.inl ⟨by rfl, ?_⟩) ?_ ?_
 rotate_left
 ·intro w'
  go_simp
  with_reducible rfl
 rotate_left
 ·simp only [Act.put, lSI, lS0, lS1, ze0, zd0]
  rfl
 refine take_ (i := 1) (N := some 18) (v := ?_) (a' := ?_) #[tt,tt,ff,tt,ff,ff,ff,ff] rfl rfl (zp0 HT_.out (by kernel_rfl)) (fun _ _ _ h => h) (Or.inl ⟨by rfl, ?_⟩) hHeld ?_ ?_
 rotate_left
 ·intro w' hS_
  obtain ⟨s0, s1, s2, s3, s4, s5, s6, s7, s8⟩ := hS_
  go_simp
  with_reducible rfl
 rotate_left
 ·simp only [Act.put, lSI, lS0, lS1, ze0, zd0]
  rfl
 refine take_ (i := 2) (N := some 19) (v := ?_) (a' := ?_) #[tt,tt,tt,tt,ff,ff,ff,ff] rfl rfl (zp0 HT_.out (by kernel_rfl)) (fun _ _ _ h => h) (Or.inl ⟨by rfl, ?_⟩) hHeld ?_ ?_
 rotate_left
 ·intro w' hS_
  obtain ⟨s0, s1, s2, s3, s4, s5, s6, s7, s8⟩ := hS_
  go_simp
  with_reducible rfl
 rotate_left
 ·simp only [Act.put, lSI, lS0, lS1, ze0, zd0]
  rfl
 refine zx2 (i := 4) (N := some 21) #[tt,tt,tt,tt,tt,ff,ff,ff] rfl rfl (z21 HT_.out (by kernel_rfl)) (by decide) (fun K hK => ?_)
 refine z02 Tryz.func41 (by kernel_rfl) rfl #[.agg #[.int .i64 r.each, .int .i64 r.guard, .slice Aa0 r.N.length ca0, .slice (some adSa) r.S.length ca1, .slice Aa2 r.L.length ca2, .slice Aa3 r.d.w.length ca3, .slice Aa4 r.d.u.length ca4, .slice Aa5 r.d.a.length ca5], .string nm] (by rfl) rfl rfl (by (try simp only [List.map_toArray, List.map_cons, List.map_nil]); first | done | rfl) ?_
 refine (HAt.out _ _ Fa_4.out).mono ?_
 rintro e w5 ⟨rfl, hb⟩
 have Ba_5 := as0 (z20 Ba_4.out hb)
 have Bz_5 := as0 (z20 Bz_4.out hb)
 have Fa_5 := as0 (Fa_4.out.below hb)
 have HB_5 := as0 (z10 HB_4.out hb)
 clear hb
 clear ya xs
 have ya := za0 Ba_5.out
 have xs := Fa_5.out.atS HX.out
 refine ⟨_, rfl, ?_⟩
 refine hK.out _ _ ⟨ya.1, ya.2.1, ya.2.2.1, ya.2.2.2.1, ya.2.2.2.2.1, ya.2.2.2.2.2.1, ya.2.2.2.2.2.2.1, ya.2.2.2.2.2.2.2.1, xs⟩ (fun hHeld => ?_)
 clear hK K
 refine zh1 (a' := ?_) ?_ ?_
 rotate_left
 ·show Act.put _ (some 21) _ = _
  simp only [Act.put, lSI, lS0, lS1, ze0, zd0]
  rfl
 refine zl0 (i := 5) (N := some 22) (v := ?_) (a' := ?_) #[tt,tt,tt,tt,tt,tt,ff,ff] rfl rfl (zh0 HT_.out (by kernel_rfl)) (fun _ _ _ h => h) (Or.inl ⟨by rfl, ?_⟩) ?_ ?_
 rotate_left
 ·intro w'
  go_simp
  with_reducible rfl
 rotate_left
 ·simp only [Act.put, lSI, lS0, lS1, ze0, zd0]
  rfl
 refine take_ (i := 6) (N := some 23) (v := ?_) (a' := ?_) #[tt,tt,tt,tt,tt,tt,tt,ff] rfl rfl (zp0 HT_.out (by kernel_rfl)) (fun _ _ _ h => h) (Or.inl ⟨by rfl, ?_⟩) hHeld ?_ ?_
 rotate_left
 ·intro w' hS_
  obtain ⟨s0, s1, s2, s3, s4, s5, s6, s7, s8⟩ := hS_
  go_simp
  with_reducible rfl
 rotate_left
 ·simp only [Act.put, lSI, lS0, lS1, ze0, zd0]
  rfl
 refine zl0 (i := 7) (N := some 7) (v := ?_) (a' := ?_) #[tt,tt,tt,tt,tt,tt,tt,tt] rfl rfl (zh0 HT_.out (by kernel_rfl)) (fun _ _ _ h => h) (Or.inl ⟨by rfl, ?_⟩) ?_ ?_
 rotate_left
 ·intro w'
  go_simp
  with_reducible rfl
 rotate_left
 ·simp only [Act.put, lSI, lS0, lS1, ze0, zd0]
  rfl
 refine zr2 (zg1 HT_.out (by kernel_rfl)) ?_
 clear hHeld
 rcases hst with rfl | rfl
 all_goals
  go_wp2_with (first
  | (have yz := za0 Bz_5.out; (with_reducible refine sx (W := w5) (t := 33) (p := 4) (w1 := set8 w5 gz (.int .i64 r.each) (.int .i64 r.guard) (.slice Aa0 r.N.length ca0) (.slice (some adSa) r.S.length ca1) (.slice Aa2 r.L.length ca2) (.slice Aa3 r.d.w.length ca3) (.slice Aa4 r.d.u.length ca4) (.slice Aa5 r.d.a.length ca5)) rfl rfl rfl ?hr ?_); (case hr => first | (go_simp; done) | (go_simp; rfl)); intro w6 hw_; have Ba_6 := as0 (zg0 z30 hw_ NE_az.out Ba_5.out); have Bz_6 := as0 (zu0 (zi0 Bz_5.out) hw_); have Fa_6 := as0 (zk0 z30 hw_ Fa_5.out Bz_5.out (by decide)); have HB_6 := as0 (zf0 (zb0 HB_5.out GE_z.out) hw_); clear hw_ yz; clear ya xs; have ya := za0 Ba_6.out; have xs := Fa_6.out.atS HX.out; (repeat (first | go_values | go_skip | go_guarded | go_step | go_upon | go_in)); refine bodyPost_ret (zn0 (p := 4) rfl _ _ gz 33 _ (0, 0) _ rfl Bz_6.out Tryz.underlying33 rfl (by kernel_rfl)) rfl ?_; exact ⟨_, rfl, Fa_6.out, HB_6.out⟩))
theorem z5a (r : RF)
  (nm : ByteArray) (hs : nm.size ≤ 100)
  {vs : Value} (h : FR b w vs r) (hb : FrB b w.heap.size)
  {n : Nat} (hB : RB r n) (hn : n ≤ 800000)
  (hk : (if nameB nm = true then (if idxOf r.N nm 0 < 0 then (5 : Int) else 0) else 11) = 0)
  (i : Nat) (hi : idxOf r.N nm 0 = (i : Int)) (hil : i < r.N.length)
  (st : Int) (hx : r.S[i]? = some st)
  (h1 : st ≠ 1) (h3 : st ≠ 3) (ea : Int) (da : Rf) (ha : refAsk r.d nm = (ea, da)) (r1 : RF) (hr : r1 = { r with d := da }) :
  Calls Tryz.prog 24 #[vs, .string nm] w fun e w' => ∃ vs', e = .returned (.tuple #[vs', .int .i64 ea]) ∧ FR b w' vs' r1 ∧ Below w.heap.size w w' := by
 have HK := as0 (fun (W : World) (vs : Value) (h : FR b W vs r) => z81 nm (by omega) r h)
 rw [hk] at HK
 have HAt := as0 (fun (W : World) (vs : Value) (h : FR b W vs r) => z61 nm r h)
 rw [hi] at HAt
 have HX := as0 hx
 have hiI : (i : Int) < (r.S.length : Int) := by have := hB.s; omega
 have hi0 : (0 : Int) ≤ (i : Int) := by omega
 have HQ := as0 (fun (W : World) (e g v0 v1 v2 v3 v4 v5 : Value) (h : FR b W (.agg #[e, g, v0, v1, v2, v3, v4, v5]) r) (hbW : FrB b W.heap.size) => ref_ask nm hs r.d h.get.2.2.2.1 h.get.2.2.2.2.1 h.get.2.2.2.2.2 hbW)
 rw [ha] at HQ
 have HR := as0 hr
 have hd1 : (st == 1) = false := by simp [h1]
 have hd3 : (st == 3) = false := by simp [h3]
 clear hB hk hn hs hi hil hx h1 h3 ha hr
 have HB_0 : Aside0 (Below w.heap.size w w) := ⟨Below.refl _ _⟩
 obtain ⟨Aa0, ca0, Aa1, ca1, Aa2, ca2, Aa3, ca3, Aa4, ca4, Aa5, ca5, rfl⟩ := h.form
 obtain ⟨adSa, hA_, -⟩ := h.adS HX.out
 subst hA_
 have Fa_0 := as0 h
 have HBB := as0 hb
 clear h hb
 go_enter Tryz.func24, Tryz.ntmps24
 go_upto_region 4 with (first
  | ((with_reducible refine bx (N := 2) (cs := #[.int .i64 r.each, .int .i64 r.guard, .slice Aa0 r.N.length ca0, .slice (some adSa) r.S.length ca1, .slice Aa2 r.L.length ca2, .slice Aa3 r.d.w.length ca3, .slice Aa4 r.d.u.length ca4, .slice Aa5 r.d.a.length ca5]) (t := 33) rfl rfl ?hr ?_); (case hr => first | (go_simp; done) | (go_simp; rfl)); intro ga hg w1 hbox hb; have Fa_1 := as0 (Fa_0.out.below hb); have HB_1 := as0 (z10 HB_0.out hb); have Ba_1 := as0 hbox; have GE_a := as0 (show w.heap.size ≤ ga by rw [hg]; exact HB_0.out.size); clear hbox hb hg; have ya := za0 Ba_1.out; have xs := Fa_1.out.atS HX.out)
  | ((with_reducible refine bx (N := 4) (cs := #[.int .i64 0, .int .i64 0, .slice none 0 0, .slice none 0 0, .slice none 0 0, .slice none 0 0, .slice none 0 0, .slice none 0 0]) (t := 33) rfl rfl ?hr ?_); (case hr => first | (go_simp; done) | (go_simp; rfl)); intro gz hg w2 hbox hb; have Ba_2 := as0 (z20 Ba_1.out hb); have Fa_2 := as0 (Fa_1.out.below hb); have HB_2 := as0 (z10 HB_1.out hb); have Bz_2 := as0 hbox; have GE_z := as0 (show w.heap.size ≤ gz by rw [hg]; exact HB_1.out.size); have NE_az := as0 (show ga ≠ gz by rw [hg]; exact Nat.ne_of_lt (z70 Ba_1.out)); clear hbox hb hg; clear ya xs; have ya := za0 Ba_2.out; have xs := Fa_2.out.atS HX.out)
  | (go_at_call 65; (with_reducible refine (HK.out _ _ Fa_2.out).mono ?_); rintro e w3 ⟨rfl, hb⟩; have Ba_3 := as0 (z20 Ba_2.out hb); have Bz_3 := as0 (z20 Bz_2.out hb); have Fa_3 := as0 (Fa_2.out.below hb); have HB_3 := as0 (z10 HB_2.out hb); clear hb; clear ya xs; have ya := za0 Ba_3.out; have xs := Fa_3.out.atS HX.out))
 refine zy1 (n := 8) (S := fun w' => w'.cell? ⟨ga, 0, none⟩ = some (.int .i64 r.each) ∧ w'.cell? ⟨ga, 1, none⟩ = some (.int .i64 r.guard) ∧ w'.cell? ⟨ga, 2, none⟩ = some (.slice Aa0 r.N.length ca0) ∧ w'.cell? ⟨ga, 3, none⟩ = some (.slice (some adSa) r.S.length ca1) ∧ w'.cell? ⟨ga, 4, none⟩ = some (.slice Aa2 r.L.length ca2) ∧ w'.cell? ⟨ga, 5, none⟩ = some (.slice Aa3 r.d.w.length ca3) ∧ w'.cell? ⟨ga, 6, none⟩ = some (.slice Aa4 r.d.u.length ca4) ∧ w'.cell? ⟨ga, 7, none⟩ = some (.slice Aa5 r.d.a.length ca5) ∧ w'.cell? (adSa.add i) = some (.int .i64 st)) (ds := []) #[ff,ff,ff,ff,ff,ff,ff,ff] (by kernel_rfl) rfl rfl ⟨ya.1, ya.2.1, ya.2.2.1, ya.2.2.2.1, ya.2.2.2.2.1, ya.2.2.2.2.2.1, ya.2.2.2.2.2.2.1, ya.2.2.2.2.2.2.2.1, xs⟩ (fun hHeld => ?_); refine zc1 rw24.tab4 (fun HT_ => ?_)
 obtain ⟨w4, hw_⟩ : ∃ W, W = w3.drew := ⟨_, rfl⟩
 rw [← hw_] at hHeld ⊢
 have hb : Below w3.heap.size w3 w4 := by rw [hw_]; exact z50 (Below.refl _ _)
 have Ba_4 := as0 (z20 Ba_3.out hb)
 have Bz_4 := as0 (z20 Bz_3.out hb)
 have Fa_4 := as0 (Fa_3.out.below hb)
 have HB_4 := as0 (z10 HB_3.out hb)
 clear hb hw_
 clear ya xs
 have ya := za0 Ba_4.out
 have xs := Fa_4.out.atS HX.out
 refine zl0 (i := 0) (N := some 17) (v := ?_) (a' := ?_) #[tt,ff,ff,ff,ff,ff,ff,ff] rfl rfl (zh0 HT_.out (by kernel_rfl)) (fun _ _ _ h => h) (Or.inl ⟨by rfl, ?_⟩) ?_ ?_
 rotate_left
 ·intro w'
  go_simp
  with_reducible rfl
 rotate_left
 ·simp only [Act.put, lSI, lS0, lS1, ze0, zd0]
  rfl
 refine zl0 (i := 3) (N := some 20) (v := ?_) (a' := ?_) #[tt,ff,ff,tt,ff,ff,ff,ff] rfl rfl (zh0 HT_.out (by kernel_rfl)) (fun _ _ _ h => h) (Or.inl ⟨by rfl, ?_⟩) ?_ ?_
 rotate_left
 ·intro w'
  go_simp
  with_reducible rfl
 rotate_left
 ·simp only [Act.put, lSI, lS0, lS1, ze0, zd0]
  rfl
 refine take_ (i := 1) (N := some 18) (v := ?_) (a' := ?_) #[tt,tt,ff,tt,ff,ff,ff,ff] rfl rfl (zp0 HT_.out (by kernel_rfl)) (fun _ _ _ h => h) (Or.inl ⟨by rfl, ?_⟩) hHeld ?_ ?_
 rotate_left
 ·intro w' hS_
  obtain ⟨s0, s1, s2, s3, s4, s5, s6, s7, s8⟩ := hS_
  go_simp
  with_reducible rfl
 rotate_left
 ·simp only [Act.put, lSI, lS0, lS1, ze0, zd0]
  rfl
 refine take_ (i := 2) (N := some 19) (v := ?_) (a' := ?_) #[tt,tt,tt,tt,ff,ff,ff,ff] rfl rfl (zp0 HT_.out (by kernel_rfl)) (fun _ _ _ h => h) (Or.inl ⟨by rfl, ?_⟩) hHeld ?_ ?_
 rotate_left
 ·intro w' hS_
  obtain ⟨s0, s1, s2, s3, s4, s5, s6, s7, s8⟩ := hS_
  go_simp
  with_reducible rfl
 rotate_left
 ·simp only [Act.put, lSI, lS0, lS1, ze0, zd0]
  rfl
 refine zx2 (i := 4) (N := some 21) #[tt,tt,tt,tt,tt,ff,ff,ff] rfl rfl (z21 HT_.out (by kernel_rfl)) (by decide) (fun K hK => ?_)
 refine z02 Tryz.func41 (by kernel_rfl) rfl #[.agg #[.int .i64 r.each, .int .i64 r.guard, .slice Aa0 r.N.length ca0, .slice (some adSa) r.S.length ca1, .slice Aa2 r.L.length ca2, .slice Aa3 r.d.w.length ca3, .slice Aa4 r.d.u.length ca4, .slice Aa5 r.d.a.length ca5], .string nm] (by rfl) rfl rfl (by (try simp only [List.map_toArray, List.map_cons, List.map_nil]); first | done | rfl) ?_
 refine (HAt.out _ _ Fa_4.out).mono ?_
 rintro e w5 ⟨rfl, hb⟩
 have Ba_5 := as0 (z20 Ba_4.out hb)
 have Bz_5 := as0 (z20 Bz_4.out hb)
 have Fa_5 := as0 (Fa_4.out.below hb)
 have HB_5 := as0 (z10 HB_4.out hb)
 clear hb
 clear ya xs
 have ya := za0 Ba_5.out
 have xs := Fa_5.out.atS HX.out
 refine ⟨_, rfl, ?_⟩
 refine hK.out _ _ ⟨ya.1, ya.2.1, ya.2.2.1, ya.2.2.2.1, ya.2.2.2.2.1, ya.2.2.2.2.2.1, ya.2.2.2.2.2.2.1, ya.2.2.2.2.2.2.2.1, xs⟩ (fun hHeld => ?_)
 clear hK K
 refine zh1 (a' := ?_) ?_ ?_
 rotate_left
 ·show Act.put _ (some 21) _ = _
  simp only [Act.put, lSI, lS0, lS1, ze0, zd0]
  rfl
 refine zl0 (i := 5) (N := some 22) (v := ?_) (a' := ?_) #[tt,tt,tt,tt,tt,tt,ff,ff] rfl rfl (zh0 HT_.out (by kernel_rfl)) (fun _ _ _ h => h) (Or.inl ⟨by rfl, ?_⟩) ?_ ?_
 rotate_left
 ·intro w'
  go_simp
  with_reducible rfl
 rotate_left
 ·simp only [Act.put, lSI, lS0, lS1, ze0, zd0]
  rfl
 refine take_ (i := 6) (N := some 23) (v := ?_) (a' := ?_) #[tt,tt,tt,tt,tt,tt,tt,ff] rfl rfl (zp0 HT_.out (by kernel_rfl)) (fun _ _ _ h => h) (Or.inl ⟨by rfl, ?_⟩) hHeld ?_ ?_
 rotate_left
 ·intro w' hS_
  obtain ⟨s0, s1, s2, s3, s4, s5, s6, s7, s8⟩ := hS_
  go_simp
  with_reducible rfl
 rotate_left
 ·simp only [Act.put, lSI, lS0, lS1, ze0, zd0]
  rfl
 refine zl0 (i := 7) (N := some 7) (v := ?_) (a' := ?_) #[tt,tt,tt,tt,tt,tt,tt,tt] rfl rfl (zh0 HT_.out (by kernel_rfl)) (fun _ _ _ h => h) (Or.inl ⟨by rfl, ?_⟩) ?_ ?_
 rotate_left
 ·intro w'
  go_simp
  with_reducible rfl
 rotate_left
 ·simp only [Act.put, lSI, lS0, lS1, ze0, zd0]
  rfl
 refine zr2 (zg1 HT_.out (by kernel_rfl)) ?_
 clear hHeld
 go_wp2_with (first
  | (go_at_call 66; (with_reducible refine (HQ.out _ _ _ _ _ _ _ _ _ Fa_5.out (zf1 HBB.out HB_5.out.size)).mono ?_); rintro e w6 ⟨vd_, rfl, u0, u1, u2, rfl, k0, k1, k2, hb⟩; obtain ⟨D0, d0, rfl⟩ := k0.slice; obtain ⟨D1, d1, rfl⟩ := k1.slice; obtain ⟨D2, d2, rfl⟩ := k2.slice; have Ba_6 := as0 (z20 Ba_5.out hb); have Bz_6 := as0 (z20 Bz_5.out hb); have Fa_6 := as0 (Fa_5.out.below hb); have HB_6 := as0 (z10 HB_5.out hb); have K0_6 := as0 k0; have K1_6 := as0 k1; have K2_6 := as0 k2; clear hb k0 k1 k2; clear ya xs; have ya := za0 Ba_6.out; have xs := Fa_6.out.atS HX.out)
  | ((with_reducible refine bx (N := 8) (cs := #[.slice none 0 0, .slice none 0 0, .slice none 0 0]) (t := 31) rfl rfl ?hr ?_); (case hr => first | (go_simp; done) | (go_simp; rfl)); intro gd hg w7 hbox hb; have Ba_7 := as0 (z20 Ba_6.out hb); have Bz_7 := as0 (z20 Bz_6.out hb); have Fa_7 := as0 (Fa_6.out.below hb); have HB_7 := as0 (z10 HB_6.out hb); have K0_7 := as0 (K0_6.out.below hb); have K1_7 := as0 (K1_6.out.below hb); have K2_7 := as0 (K2_6.out.below hb); have Bd_7 := as0 hbox; have GE_d := as0 (show w.heap.size ≤ gd by rw [hg]; exact HB_6.out.size); have NE_ad := as0 (show ga ≠ gd by rw [hg]; exact Nat.ne_of_lt (z70 Ba_6.out)); have NE_zd := as0 (show gz ≠ gd by rw [hg]; exact Nat.ne_of_lt (z70 Bz_6.out)); clear hbox hb hg; clear ya xs; have ya := za0 Ba_7.out; have yd := b3all Bd_7.out; have xs := Fa_7.out.atS HX.out)
  | ((with_reducible refine sx (W := w7) (t := 31) (p := 8) (w1 := sd3 w7 gd (.slice D0 da.w.length d0) (.slice D1 da.u.length d1) (.slice D2 da.a.length d2)) rfl rfl rfl ?hr ?_); (case hr => first | (go_simp; done) | (go_simp; rfl)); intro w8 hw_; have Ba_8 := as0 (zg0 z04 hw_ NE_ad.out Ba_7.out); have Bz_8 := as0 (zg0 z04 hw_ NE_zd.out Bz_7.out); have Bd_8 := as0 (zu0 (sd3_at Bd_7.out) hw_); have Fa_8 := as0 (zk0 z04 hw_ Fa_7.out Bd_7.out (by decide)); have HB_8 := as0 (zf0 (zxc HB_7.out GE_d.out) hw_); have K0_8 : Aside0 (RdS b w8 (.slice D0 da.w.length d0) da.w) := ⟨by rw [hw_]; exact K0_7.out.far Bd_7.out (by decide) (fun k hk => z04 hk)⟩; have K1_8 : Aside0 (RdS b w8 (.slice D1 da.u.length d1) da.u) := ⟨by rw [hw_]; exact K1_7.out.far Bd_7.out (by decide) (fun k hk => z04 hk)⟩; have K2_8 : Aside0 (RdI b w8 (.slice D2 da.a.length d2) da.a) := ⟨by rw [hw_]; exact K2_7.out.far Bd_7.out (by decide) (fun k hk => z04 hk)⟩; clear hw_ ; clear ya yd xs; have ya := za0 Ba_8.out; have yd := b3all Bd_8.out; have xs := Fa_8.out.atS HX.out)
  | ((with_reducible refine sx (W := w8) (t := 31) (p := 39) (w1 := set3 w8 ga (.slice D0 da.w.length d0) (.slice D1 da.u.length d1) (.slice D2 da.a.length d2)) rfl rfl rfl ?hr ?_); (case hr => first | (go_simp; done) | (go_simp; rfl)); intro w9 hw_; have Ba_9 := as0 (zu0 (zv7 Ba_8.out) hw_); have Bz_9 := as0 (zg0 z42 hw_ NE_az.out.symm Bz_8.out); have Bd_9 := as0 (zg0 z42 hw_ NE_ad.out.symm Bd_8.out); have Fa_9 := as0 (zk0 z42 hw_ Fa_8.out Ba_8.out (by decide)); have HB_9 := as0 (zf0 (z54 HB_8.out GE_a.out) hw_); have K0_9 : Aside0 (RdS b w9 (.slice D0 da.w.length d0) da.w) := ⟨by rw [hw_]; exact K0_8.out.far Ba_8.out (by decide) (fun k hk => z42 hk)⟩; have K1_9 : Aside0 (RdS b w9 (.slice D1 da.u.length d1) da.u) := ⟨by rw [hw_]; exact K1_8.out.far Ba_8.out (by decide) (fun k hk => z42 hk)⟩; have K2_9 : Aside0 (RdI b w9 (.slice D2 da.a.length d2) da.a) := ⟨by rw [hw_]; exact K2_8.out.far Ba_8.out (by decide) (fun k hk => z42 hk)⟩; clear hw_ ; clear ya yd xs; have ya := za0 Ba_9.out; have yd := b3all Bd_9.out; have xs := Fa_9.out.atS HX.out)
  | (have yz := za0 Bz_9.out; (with_reducible refine sx (W := w9) (t := 33) (p := 4) (w1 := set8 w9 gz (.int .i64 r.each) (.int .i64 r.guard) (.slice Aa0 r.N.length ca0) (.slice (some adSa) r.S.length ca1) (.slice Aa2 r.L.length ca2) (.slice D0 da.w.length d0) (.slice D1 da.u.length d1) (.slice D2 da.a.length d2)) rfl rfl rfl ?hr ?_); (case hr => first | (go_simp; done) | (go_simp; rfl)); intro w10 hw_; have Ba_10 := as0 (zg0 z30 hw_ NE_az.out Ba_9.out); have Bz_10 := as0 (zu0 (zi0 Bz_9.out) hw_); have Bd_10 := as0 (zg0 z30 hw_ NE_zd.out.symm Bd_9.out); have Fa_10 := as0 (zk0 z30 hw_ Fa_9.out Bz_9.out (by decide)); have HB_10 := as0 (zf0 (zb0 HB_9.out GE_z.out) hw_); have K0_10 : Aside0 (RdS b w10 (.slice D0 da.w.length d0) da.w) := ⟨by rw [hw_]; exact K0_9.out.far Bz_9.out (by decide) (fun k hk => z30 hk)⟩; have K1_10 : Aside0 (RdS b w10 (.slice D1 da.u.length d1) da.u) := ⟨by rw [hw_]; exact K1_9.out.far Bz_9.out (by decide) (fun k hk => z30 hk)⟩; have K2_10 : Aside0 (RdI b w10 (.slice D2 da.a.length d2) da.a) := ⟨by rw [hw_]; exact K2_9.out.far Bz_9.out (by decide) (fun k hk => z30 hk)⟩; clear hw_ yz; clear ya yd xs; have ya := za0 Ba_10.out; have yd := b3all Bd_10.out; have xs := Fa_10.out.atS HX.out; (repeat (first | go_values | go_skip | go_guarded | go_step | go_upon | go_in)); refine bodyPost_ret (zn0 (p := 4) rfl _ _ gz 33 _ (0, 0) _ rfl Bz_10.out Tryz.underlying33 rfl (by kernel_rfl)) rfl ?_; have G := Fa_10.out.get; rw [HR.out]; exact ⟨_, rfl, ⟨_, _, _, _, _, _, rfl, G.1, G.2.1, G.2.2.1, K0_10.out, K1_10.out, K2_10.out⟩, HB_10.out⟩))
end
end
section
def rw26.T8 : Bool × List (List Nat × List Nat) := (true, [([], []), ([], []), ([], []), ([], []), ([3], [3]), ([], []), ([4, 5], [4, 5]), ([6], [6]), ([0, 1, 2, 7], [0, 1, 2, 7]), ([8, 8, 0, 1, 2, 3, 4, 5, 6, 7, 8], [8])])
theorem rw26.tab8 : rtab .any (opsOf Tryz.f26 8) = rw26.T8 := by kernel_rfl
section
variable {b : Nat → Prop} {w : World}
theorem zq6 (r : RF)
  (nm : ByteArray) (hs : nm.size ≤ 100)
  {vs : Value} (h : FR b w vs r) (hb : FrB b w.heap.size)
  {n : Nat} (hB : RB r n) (hn : n ≤ 800000)
  (e0 : Int) (hk : (if nameB nm = true then (if idxOf r.N nm 0 < 0 then (5 : Int) else 0) else 11) = e0) (he : e0 ≠ 0) :
  Calls Tryz.prog 25 #[vs, .string nm] w fun e w' => ∃ vs', e = .returned (.tuple #[vs', .int .i64 e0]) ∧ FR b w' vs' r ∧ Below w.heap.size w w' := by
 have HK := as0 (fun (W : World) (vs : Value) (h : FR b W vs r) => z81 nm (by omega) r h)
 rw [hk] at HK
 have hd : (e0 != 0) = true := by simp [he]
 clear hB hk hn hs he
 have HB_0 : Aside0 (Below w.heap.size w w) := ⟨Below.refl _ _⟩
 obtain ⟨Aa0, ca0, Aa1, ca1, Aa2, ca2, Aa3, ca3, Aa4, ca4, Aa5, ca5, rfl⟩ := h.form
 have Fa_0 := as0 h
 have HBB := as0 hb
 clear h hb
 go_enter Tryz.func25, Tryz.ntmps25
 go_wp2_with (first
  | ((with_reducible refine bx (N := 2) (cs := #[.int .i64 r.each, .int .i64 r.guard, .slice Aa0 r.N.length ca0, .slice Aa1 r.S.length ca1, .slice Aa2 r.L.length ca2, .slice Aa3 r.d.w.length ca3, .slice Aa4 r.d.u.length ca4, .slice Aa5 r.d.a.length ca5]) (t := 33) rfl rfl ?hr ?_); (case hr => first | (go_simp; done) | (go_simp; rfl)); intro ga hg w1 hbox hb; have Fa_1 := as0 (Fa_0.out.below hb); have HB_1 := as0 (z10 HB_0.out hb); have Ba_1 := as0 hbox; have GE_a := as0 (show w.heap.size ≤ ga by rw [hg]; exact HB_0.out.size); clear hbox hb hg; have ya := za0 Ba_1.out)
  | ((with_reducible refine bx (N := 4) (cs := #[.int .i64 0, .int .i64 0, .slice none 0 0, .slice none 0 0, .slice none 0 0, .slice none 0 0, .slice none 0 0, .slice none 0 0]) (t := 33) rfl rfl ?hr ?_); (case hr => first | (go_simp; done) | (go_simp; rfl)); intro gz hg w2 hbox hb; have Ba_2 := as0 (z20 Ba_1.out hb); have Fa_2 := as0 (Fa_1.out.below hb); have HB_2 := as0 (z10 HB_1.out hb); have Bz_2 := as0 hbox; have GE_z := as0 (show w.heap.size ≤ gz by rw [hg]; exact HB_1.out.size); have NE_az := as0 (show ga ≠ gz by rw [hg]; exact Nat.ne_of_lt (z70 Ba_1.out)); clear hbox hb hg; clear ya; have ya := za0 Ba_2.out)
  | (go_at_call 65; (with_reducible refine (HK.out _ _ Fa_2.out).mono ?_); rintro e w3 ⟨rfl, hb⟩; have Ba_3 := as0 (z20 Ba_2.out hb); have Bz_3 := as0 (z20 Bz_2.out hb); have Fa_3 := as0 (Fa_2.out.below hb); have HB_3 := as0 (z10 HB_2.out hb); clear hb; clear ya; have ya := za0 Ba_3.out)
  | (have yz := za0 Bz_3.out; (with_reducible refine sx (W := w3) (t := 33) (p := 4) (w1 := set8 w3 gz (.int .i64 r.each) (.int .i64 r.guard) (.slice Aa0 r.N.length ca0) (.slice Aa1 r.S.length ca1) (.slice Aa2 r.L.length ca2) (.slice Aa3 r.d.w.length ca3) (.slice Aa4 r.d.u.length ca4) (.slice Aa5 r.d.a.length ca5)) rfl rfl rfl ?hr ?_); (case hr => first | (go_simp; done) | (go_simp; rfl)); intro w4 hw_; have Ba_4 := as0 (zg0 z30 hw_ NE_az.out Ba_3.out); have Bz_4 := as0 (zu0 (zi0 Bz_3.out) hw_); have Fa_4 := as0 (zk0 z30 hw_ Fa_3.out Bz_3.out (by decide)); have HB_4 := as0 (zf0 (zb0 HB_3.out GE_z.out) hw_); clear hw_ yz; clear ya; have ya := za0 Ba_4.out; (repeat (first | go_values | go_skip | go_guarded | go_step | go_upon | go_in)); refine bodyPost_ret (zn0 (p := 4) rfl _ _ gz 33 _ (0, 0) _ rfl Bz_4.out Tryz.underlying33 rfl (by kernel_rfl)) rfl ?_; exact ⟨_, rfl, Fa_4.out, HB_4.out⟩))
theorem z58 (r : RF)
  (nm : ByteArray) (hs : nm.size ≤ 100)
  {vs : Value} (h : FR b w vs r) (hb : FrB b w.heap.size)
  {n : Nat} (hB : RB r n) (hn : n ≤ 800000)
  (hk : (if nameB nm = true then (if idxOf r.N nm 0 < 0 then (5 : Int) else 0) else 11) = 0)
  (i : Nat) (hi : idxOf r.N nm 0 = (i : Int)) (hil : i < r.N.length)
  (hy : r.L[i]? = some true) :
  Calls Tryz.prog 25 #[vs, .string nm] w fun e w' => ∃ vs', e = .returned (.tuple #[vs', .int .i64 8]) ∧ FR b w' vs' r ∧ Below w.heap.size w w' := by
 have HK := as0 (fun (W : World) (vs : Value) (h : FR b W vs r) => z81 nm (by omega) r h)
 rw [hk] at HK
 have HAt := as0 (fun (W : World) (vs : Value) (h : FR b W vs r) => z61 nm r h)
 rw [hi] at HAt
 have HY := as0 hy
 have hiL : (i : Int) < (r.L.length : Int) := by have := hB.l; omega
 have hi0 : (0 : Int) ≤ (i : Int) := by omega
 clear hB hk hn hs hi hil hy
 have HB_0 : Aside0 (Below w.heap.size w w) := ⟨Below.refl _ _⟩
 obtain ⟨Aa0, ca0, Aa1, ca1, Aa2, ca2, Aa3, ca3, Aa4, ca4, Aa5, ca5, rfl⟩ := h.form
 obtain ⟨adLa, hA_, -⟩ := h.adL HY.out
 subst hA_
 have Fa_0 := as0 h
 have HBB := as0 hb
 clear h hb
 go_enter Tryz.func25, Tryz.ntmps25
 go_wp2_with (first
  | ((with_reducible refine bx (N := 2) (cs := #[.int .i64 r.each, .int .i64 r.guard, .slice Aa0 r.N.length ca0, .slice Aa1 r.S.length ca1, .slice (some adLa) r.L.length ca2, .slice Aa3 r.d.w.length ca3, .slice Aa4 r.d.u.length ca4, .slice Aa5 r.d.a.length ca5]) (t := 33) rfl rfl ?hr ?_); (case hr => first | (go_simp; done) | (go_simp; rfl)); intro ga hg w1 hbox hb; have Fa_1 := as0 (Fa_0.out.below hb); have HB_1 := as0 (z10 HB_0.out hb); have Ba_1 := as0 hbox; have GE_a := as0 (show w.heap.size ≤ ga by rw [hg]; exact HB_0.out.size); clear hbox hb hg; have ya := za0 Ba_1.out; have xl := Fa_1.out.atL HY.out)
  | ((with_reducible refine bx (N := 4) (cs := #[.int .i64 0, .int .i64 0, .slice none 0 0, .slice none 0 0, .slice none 0 0, .slice none 0 0, .slice none 0 0, .slice none 0 0]) (t := 33) rfl rfl ?hr ?_); (case hr => first | (go_simp; done) | (go_simp; rfl)); intro gz hg w2 hbox hb; have Ba_2 := as0 (z20 Ba_1.out hb); have Fa_2 := as0 (Fa_1.out.below hb); have HB_2 := as0 (z10 HB_1.out hb); have Bz_2 := as0 hbox; have GE_z := as0 (show w.heap.size ≤ gz by rw [hg]; exact HB_1.out.size); have NE_az := as0 (show ga ≠ gz by rw [hg]; exact Nat.ne_of_lt (z70 Ba_1.out)); clear hbox hb hg; clear ya xl; have ya := za0 Ba_2.out; have xl := Fa_2.out.atL HY.out)
  | (go_at_call 65; (with_reducible refine (HK.out _ _ Fa_2.out).mono ?_); rintro e w3 ⟨rfl, hb⟩; have Ba_3 := as0 (z20 Ba_2.out hb); have Bz_3 := as0 (z20 Bz_2.out hb); have Fa_3 := as0 (Fa_2.out.below hb); have HB_3 := as0 (z10 HB_2.out hb); clear hb; clear ya xl; have ya := za0 Ba_3.out; have xl := Fa_3.out.atL HY.out)
  | (go_at_call 41; (with_reducible refine (HAt.out _ _ Fa_3.out).mono ?_); rintro e w4 ⟨rfl, hb⟩; have Ba_4 := as0 (z20 Ba_3.out hb); have Bz_4 := as0 (z20 Bz_3.out hb); have Fa_4 := as0 (Fa_3.out.below hb); have HB_4 := as0 (z10 HB_3.out hb); clear hb; clear ya xl; have ya := za0 Ba_4.out; have xl := Fa_4.out.atL HY.out)
  | (have yz := za0 Bz_4.out; (with_reducible refine sx (W := w4) (t := 33) (p := 4) (w1 := set8 w4 gz (.int .i64 r.each) (.int .i64 r.guard) (.slice Aa0 r.N.length ca0) (.slice Aa1 r.S.length ca1) (.slice (some adLa) r.L.length ca2) (.slice Aa3 r.d.w.length ca3) (.slice Aa4 r.d.u.length ca4) (.slice Aa5 r.d.a.length ca5)) rfl rfl rfl ?hr ?_); (case hr => first | (go_simp; done) | (go_simp; rfl)); intro w5 hw_; have Ba_5 := as0 (zg0 z30 hw_ NE_az.out Ba_4.out); have Bz_5 := as0 (zu0 (zi0 Bz_4.out) hw_); have Fa_5 := as0 (zk0 z30 hw_ Fa_4.out Bz_4.out (by decide)); have HB_5 := as0 (zf0 (zb0 HB_4.out GE_z.out) hw_); clear hw_ yz; clear ya xl; have ya := za0 Ba_5.out; have xl := Fa_5.out.atL HY.out; (repeat (first | go_values | go_skip | go_guarded | go_step | go_upon | go_in)); refine bodyPost_ret (zn0 (p := 4) rfl _ _ gz 33 _ (0, 0) _ rfl Bz_5.out Tryz.underlying33 rfl (by kernel_rfl)) rfl ?_; exact ⟨_, rfl, Fa_5.out, HB_5.out⟩))
theorem z99 (r : RF)
  (nm : ByteArray) (hs : nm.size ≤ 100)
  {vs : Value} (h : FR b w vs r) (hb : FrB b w.heap.size)
  {n : Nat} (hB : RB r n) (hn : n ≤ 800000)
  (hk : (if nameB nm = true then (if idxOf r.N nm 0 < 0 then (5 : Int) else 0) else 11) = 0)
  (i : Nat) (hi : idxOf r.N nm 0 = (i : Int)) (hil : i < r.N.length)
  (hy : r.L[i]? = some false)
  (hp : 0 ≤ idxOf r.d.w nm 0) (r1 : RF) (h1 : r1 = endR nm r) :
  Calls Tryz.prog 25 #[vs, .string nm] w fun e w' => ∃ vs', e = .returned (.tuple #[vs', .int .i64 0]) ∧ FR b w' vs' r1 ∧ Below w.heap.size w w' := by
 have HK := as0 (fun (W : World) (vs : Value) (h : FR b W vs r) => z81 nm (by omega) r h)
 rw [hk] at HK
 have HAt := as0 (fun (W : World) (vs : Value) (h : FR b W vs r) => z61 nm r h)
 rw [hi] at HAt
 have HY := as0 hy
 have hiL : (i : Int) < (r.L.length : Int) := by have := hB.l; omega
 have hi0 : (0 : Int) ≤ (i : Int) := by omega
 have HPl := as0 (fun (W : World) (e g v0 v1 v2 v3 v4 v5 : Value) (h : FR b W (.agg #[e, g, v0, v1, v2, v3, v4, v5]) r) => h.place nm)
 generalize idxOf r.d.w nm 0 = ip at HPl hp
 have hd0 : decide (0 ≤ ip) = true := decide_eq_true (by omega)
 have HE := as0 (fun (W : World) (vs : Value) (h : FR b W vs r) (hbW : FrB b W.heap.size) => zj3 nm h hB (by omega) hbW)
 rw [← h1] at HE
 clear hB hk hn hs hi hil hy h1
 have HB_0 : Aside0 (Below w.heap.size w w) := ⟨Below.refl _ _⟩
 obtain ⟨Aa0, ca0, Aa1, ca1, Aa2, ca2, Aa3, ca3, Aa4, ca4, Aa5, ca5, rfl⟩ := h.form
 obtain ⟨adLa, hA_, -⟩ := h.adL HY.out
 subst hA_
 have Fa_0 := as0 h
 have HBB := as0 hb
 clear h hb
 go_enter Tryz.func25, Tryz.ntmps25
 go_wp2_with (first
  | ((with_reducible refine bx (N := 2) (cs := #[.int .i64 r.each, .int .i64 r.guard, .slice Aa0 r.N.length ca0, .slice Aa1 r.S.length ca1, .slice (some adLa) r.L.length ca2, .slice Aa3 r.d.w.length ca3, .slice Aa4 r.d.u.length ca4, .slice Aa5 r.d.a.length ca5]) (t := 33) rfl rfl ?hr ?_); (case hr => first | (go_simp; done) | (go_simp; rfl)); intro ga hg w1 hbox hb; have Fa_1 := as0 (Fa_0.out.below hb); have HB_1 := as0 (z10 HB_0.out hb); have Ba_1 := as0 hbox; have GE_a := as0 (show w.heap.size ≤ ga by rw [hg]; exact HB_0.out.size); clear hbox hb hg; have ya := za0 Ba_1.out; have xl := Fa_1.out.atL HY.out)
  | ((with_reducible refine bx (N := 4) (cs := #[.int .i64 0, .int .i64 0, .slice none 0 0, .slice none 0 0, .slice none 0 0, .slice none 0 0, .slice none 0 0, .slice none 0 0]) (t := 33) rfl rfl ?hr ?_); (case hr => first | (go_simp; done) | (go_simp; rfl)); intro gz hg w2 hbox hb; have Ba_2 := as0 (z20 Ba_1.out hb); have Fa_2 := as0 (Fa_1.out.below hb); have HB_2 := as0 (z10 HB_1.out hb); have Bz_2 := as0 hbox; have GE_z := as0 (show w.heap.size ≤ gz by rw [hg]; exact HB_1.out.size); have NE_az := as0 (show ga ≠ gz by rw [hg]; exact Nat.ne_of_lt (z70 Ba_1.out)); clear hbox hb hg; clear ya xl; have ya := za0 Ba_2.out; have xl := Fa_2.out.atL HY.out)
  | (go_at_call 65; (with_reducible refine (HK.out _ _ Fa_2.out).mono ?_); rintro e w3 ⟨rfl, hb⟩; have Ba_3 := as0 (z20 Ba_2.out hb); have Bz_3 := as0 (z20 Bz_2.out hb); have Fa_3 := as0 (Fa_2.out.below hb); have HB_3 := as0 (z10 HB_2.out hb); clear hb; clear ya xl; have ya := za0 Ba_3.out; have xl := Fa_3.out.atL HY.out)
  | (go_at_call 41; (with_reducible refine (HAt.out _ _ Fa_3.out).mono ?_); rintro e w4 ⟨rfl, hb⟩; have Ba_4 := as0 (z20 Ba_3.out hb); have Bz_4 := as0 (z20 Bz_3.out hb); have Fa_4 := as0 (Fa_3.out.below hb); have HB_4 := as0 (z10 HB_3.out hb); clear hb; clear ya xl; have ya := za0 Ba_4.out; have xl := Fa_4.out.atL HY.out)
  | (go_at_call 38; (with_reducible refine (HPl.out _ _ _ _ _ _ _ _ _ Fa_4.out).mono ?_); rintro e w5 ⟨rfl, hb⟩; have Ba_5 := as0 (z20 Ba_4.out hb); have Bz_5 := as0 (z20 Bz_4.out hb); have Fa_5 := as0 (Fa_4.out.below hb); have HB_5 := as0 (z10 HB_4.out hb); clear hb; clear ya xl; have ya := za0 Ba_5.out; have xl := Fa_5.out.atL HY.out)
  | (go_at_call 63; (with_reducible refine (HE.out _ _ Fa_5.out (zf1 HBB.out HB_5.out.size)).mono ?_); rintro e w6 ⟨vs_, rfl, hF_, hb⟩; obtain ⟨Ab0, cb0, Ab1, cb1, Ab2, cb2, Ab3, cb3, Ab4, cb4, Ab5, cb5, rfl⟩ := hF_.form; have Ba_6 := as0 (z20 Ba_5.out hb); have Bz_6 := as0 (z20 Bz_5.out hb); have Fa_6 := as0 (Fa_5.out.below hb); have HB_6 := as0 (z10 HB_5.out hb); have Fb_6 := as0 hF_; clear hb hF_; clear ya xl; have ya := za0 Ba_6.out; have xl := Fa_6.out.atL HY.out)
  | (have yz := za0 Bz_6.out; (with_reducible refine sx (W := w6) (t := 33) (p := 4) (w1 := set8 w6 gz (.int .i64 r1.each) (.int .i64 r1.guard) (.slice Ab0 r1.N.length cb0) (.slice Ab1 r1.S.length cb1) (.slice Ab2 r1.L.length cb2) (.slice Ab3 r1.d.w.length cb3) (.slice Ab4 r1.d.u.length cb4) (.slice Ab5 r1.d.a.length cb5)) rfl rfl rfl ?hr ?_); (case hr => first | (go_simp; done) | (go_simp; rfl)); intro w7 hw_; have Ba_7 := as0 (zg0 z30 hw_ NE_az.out Ba_6.out); have Bz_7 := as0 (zu0 (zi0 Bz_6.out) hw_); have Fa_7 := as0 (zk0 z30 hw_ Fa_6.out Bz_6.out (by decide)); have Fb_7 := as0 (zk0 z30 hw_ Fb_6.out Bz_6.out (by decide)); have HB_7 := as0 (zf0 (zb0 HB_6.out GE_z.out) hw_); clear hw_ yz; clear ya xl; have ya := za0 Ba_7.out; have xl := Fa_7.out.atL HY.out; (repeat (first | go_values | go_skip | go_guarded | go_step | go_upon | go_in)); refine bodyPost_ret (zn0 (p := 4) rfl _ _ gz 33 _ (0, 0) _ rfl Bz_7.out Tryz.underlying33 rfl (by kernel_rfl)) rfl ?_; exact ⟨_, rfl, Fb_7.out, HB_7.out⟩))
theorem zb9 (r : RF)
  (nm : ByteArray) (hs : nm.size ≤ 100)
  {vs : Value} (h : FR b w vs r) (hb : FrB b w.heap.size)
  {n : Nat} (hB : RB r n) (hn : n ≤ 800000)
  (hk : (if nameB nm = true then (if idxOf r.N nm 0 < 0 then (5 : Int) else 0) else 11) = 0)
  (i : Nat) (hi : idxOf r.N nm 0 = (i : Int)) (hil : i < r.N.length)
  (hy : r.L[i]? = some false)
  (hp : idxOf r.d.w nm 0 < 0)
  (st : Int) (hx : r.S[i]? = some st)
  (ns : Int) (hns : nextS st 1 = ns) (hnb : nextB st 1 = false) :
  Calls Tryz.prog 25 #[vs, .string nm] w fun e w' => ∃ vs', e = .returned (.tuple #[vs', .int .i64 8]) ∧ FR b w' vs' r ∧ Below w.heap.size w w' := by
 have HK := as0 (fun (W : World) (vs : Value) (h : FR b W vs r) => z81 nm (by omega) r h)
 rw [hk] at HK
 have HAt := as0 (fun (W : World) (vs : Value) (h : FR b W vs r) => z61 nm r h)
 rw [hi] at HAt
 have HY := as0 hy
 have hiL : (i : Int) < (r.L.length : Int) := by have := hB.l; omega
 have hi0 : (0 : Int) ≤ (i : Int) := by omega
 have HPl := as0 (fun (W : World) (e g v0 v1 v2 v3 v4 v5 : Value) (h : FR b W (.agg #[e, g, v0, v1, v2, v3, v4, v5]) r) => h.place nm)
 generalize idxOf r.d.w nm 0 = ip at HPl hp
 have hd0 : decide (0 ≤ ip) = false := decide_eq_false (by omega)
 have HX := as0 hx
 have hiI : (i : Int) < (r.S.length : Int) := by have := hB.s; omega
 have HN := as0 (fun (W : World) => zu1 st 1 W)
 rw [hns] at HN
 rw [hnb] at HN
 clear hB hk hn hs hi hil hy hx hns hnb
 have HB_0 : Aside0 (Below w.heap.size w w) := ⟨Below.refl _ _⟩
 obtain ⟨Aa0, ca0, Aa1, ca1, Aa2, ca2, Aa3, ca3, Aa4, ca4, Aa5, ca5, rfl⟩ := h.form
 obtain ⟨adLa, hA_, -⟩ := h.adL HY.out
 subst hA_
 obtain ⟨adSa, hA_, -⟩ := h.adS HX.out
 subst hA_
 have Fa_0 := as0 h
 have HBB := as0 hb
 clear h hb
 go_enter Tryz.func25, Tryz.ntmps25
 go_wp2_with (first
  | ((with_reducible refine bx (N := 2) (cs := #[.int .i64 r.each, .int .i64 r.guard, .slice Aa0 r.N.length ca0, .slice (some adSa) r.S.length ca1, .slice (some adLa) r.L.length ca2, .slice Aa3 r.d.w.length ca3, .slice Aa4 r.d.u.length ca4, .slice Aa5 r.d.a.length ca5]) (t := 33) rfl rfl ?hr ?_); (case hr => first | (go_simp; done) | (go_simp; rfl)); intro ga hg w1 hbox hb; have Fa_1 := as0 (Fa_0.out.below hb); have HB_1 := as0 (z10 HB_0.out hb); have Ba_1 := as0 hbox; have GE_a := as0 (show w.heap.size ≤ ga by rw [hg]; exact HB_0.out.size); clear hbox hb hg; have ya := za0 Ba_1.out; have xl := Fa_1.out.atL HY.out; have xs := Fa_1.out.atS HX.out)
  | ((with_reducible refine bx (N := 4) (cs := #[.int .i64 0, .int .i64 0, .slice none 0 0, .slice none 0 0, .slice none 0 0, .slice none 0 0, .slice none 0 0, .slice none 0 0]) (t := 33) rfl rfl ?hr ?_); (case hr => first | (go_simp; done) | (go_simp; rfl)); intro gz hg w2 hbox hb; have Ba_2 := as0 (z20 Ba_1.out hb); have Fa_2 := as0 (Fa_1.out.below hb); have HB_2 := as0 (z10 HB_1.out hb); have Bz_2 := as0 hbox; have GE_z := as0 (show w.heap.size ≤ gz by rw [hg]; exact HB_1.out.size); have NE_az := as0 (show ga ≠ gz by rw [hg]; exact Nat.ne_of_lt (z70 Ba_1.out)); clear hbox hb hg; clear ya xl xs; have ya := za0 Ba_2.out; have xl := Fa_2.out.atL HY.out; have xs := Fa_2.out.atS HX.out)
  | (go_at_call 65; (with_reducible refine (HK.out _ _ Fa_2.out).mono ?_); rintro e w3 ⟨rfl, hb⟩; have Ba_3 := as0 (z20 Ba_2.out hb); have Bz_3 := as0 (z20 Bz_2.out hb); have Fa_3 := as0 (Fa_2.out.below hb); have HB_3 := as0 (z10 HB_2.out hb); clear hb; clear ya xl xs; have ya := za0 Ba_3.out; have xl := Fa_3.out.atL HY.out; have xs := Fa_3.out.atS HX.out)
  | (go_at_call 41; (with_reducible refine (HAt.out _ _ Fa_3.out).mono ?_); rintro e w4 ⟨rfl, hb⟩; have Ba_4 := as0 (z20 Ba_3.out hb); have Bz_4 := as0 (z20 Bz_3.out hb); have Fa_4 := as0 (Fa_3.out.below hb); have HB_4 := as0 (z10 HB_3.out hb); clear hb; clear ya xl xs; have ya := za0 Ba_4.out; have xl := Fa_4.out.atL HY.out; have xs := Fa_4.out.atS HX.out)
  | (go_at_call 38; (with_reducible refine (HPl.out _ _ _ _ _ _ _ _ _ Fa_4.out).mono ?_); rintro e w5 ⟨rfl, hb⟩; have Ba_5 := as0 (z20 Ba_4.out hb); have Bz_5 := as0 (z20 Bz_4.out hb); have Fa_5 := as0 (Fa_4.out.below hb); have HB_5 := as0 (z10 HB_4.out hb); clear hb; clear ya xl xs; have ya := za0 Ba_5.out; have xl := Fa_5.out.atL HY.out; have xs := Fa_5.out.atS HX.out)
  | (go_at_call 62; (with_reducible refine (HN.out _).mono ?_); rintro e w6 ⟨rfl, hb⟩; have Ba_6 := as0 (z20 Ba_5.out hb); have Bz_6 := as0 (z20 Bz_5.out hb); have Fa_6 := as0 (Fa_5.out.below hb); have HB_6 := as0 (z10 HB_5.out hb); clear hb; clear ya xl xs; have ya := za0 Ba_6.out; have xl := Fa_6.out.atL HY.out; have xs := Fa_6.out.atS HX.out)
  | (have yz := za0 Bz_6.out; (with_reducible refine sx (W := w6) (t := 33) (p := 4) (w1 := set8 w6 gz (.int .i64 r.each) (.int .i64 r.guard) (.slice Aa0 r.N.length ca0) (.slice (some adSa) r.S.length ca1) (.slice (some adLa) r.L.length ca2) (.slice Aa3 r.d.w.length ca3) (.slice Aa4 r.d.u.length ca4) (.slice Aa5 r.d.a.length ca5)) rfl rfl rfl ?hr ?_); (case hr => first | (go_simp; done) | (go_simp; rfl)); intro w7 hw_; have Ba_7 := as0 (zg0 z30 hw_ NE_az.out Ba_6.out); have Bz_7 := as0 (zu0 (zi0 Bz_6.out) hw_); have Fa_7 := as0 (zk0 z30 hw_ Fa_6.out Bz_6.out (by decide)); have HB_7 := as0 (zf0 (zb0 HB_6.out GE_z.out) hw_); clear hw_ yz; clear ya xl xs; have ya := za0 Ba_7.out; have xl := Fa_7.out.atL HY.out; have xs := Fa_7.out.atS HX.out; (repeat (first | go_values | go_skip | go_guarded | go_step | go_upon | go_in)); refine bodyPost_ret (zn0 (p := 4) rfl _ _ gz 33 _ (0, 0) _ rfl Bz_7.out Tryz.underlying33 rfl (by kernel_rfl)) rfl ?_; exact ⟨_, rfl, Fa_7.out, HB_7.out⟩))
theorem zx9 (r : RF)
  (nm : ByteArray) (hs : nm.size ≤ 100)
  {vs : Value} (h : FR b w vs r) (hb : FrB b w.heap.size)
  {n : Nat} (hB : RB r n) (hn : n ≤ 800000)
  (hk : (if nameB nm = true then (if idxOf r.N nm 0 < 0 then (5 : Int) else 0) else 11) = 0)
  (i : Nat) (hi : idxOf r.N nm 0 = (i : Int)) (hil : i < r.N.length)
  (hy : r.L[i]? = some false)
  (hp : idxOf r.d.w nm 0 < 0)
  (st : Int) (hx : r.S[i]? = some st)
  (ns : Int) (hns : nextS st 1 = ns) (hnb : nextB st 1 = true)
  (r1 : RF) (h1 : r1 = putR i ns false r) (r2 : RF) (h2 : r2 = endR nm r1) :
  Calls Tryz.prog 25 #[vs, .string nm] w fun e w' => ∃ vs', e = .returned (.tuple #[vs', .int .i64 0]) ∧ FR b w' vs' r2 ∧ Below w.heap.size w w' := by
 have HK := as0 (fun (W : World) (vs : Value) (h : FR b W vs r) => z81 nm (by omega) r h)
 rw [hk] at HK
 have HAt := as0 (fun (W : World) (vs : Value) (h : FR b W vs r) => z61 nm r h)
 rw [hi] at HAt
 have HY := as0 hy
 have hiL : (i : Int) < (r.L.length : Int) := by have := hB.l; omega
 have hi0 : (0 : Int) ≤ (i : Int) := by omega
 have HPl := as0 (fun (W : World) (e g v0 v1 v2 v3 v4 v5 : Value) (h : FR b W (.agg #[e, g, v0, v1, v2, v3, v4, v5]) r) => h.place nm)
 generalize idxOf r.d.w nm 0 = ip at HPl hp
 have hd0 : decide (0 ≤ ip) = false := decide_eq_false (by omega)
 have HX := as0 hx
 have hiI : (i : Int) < (r.S.length : Int) := by have := hB.s; omega
 have HN := as0 (fun (W : World) => zu1 st 1 W)
 rw [hns] at HN
 rw [hnb] at HN
 have HP := as0 (fun (W : World) (vs : Value) (h : FR b W vs r) (hbW : FrB b W.heap.size) => z03 i ns false h hB (by omega) hil hbW)
 rw [← h1] at HP
 have hB1 : RB r1 n := by rw [h1]; exact hB.put i ns false
 have HE := as0 (fun (W : World) (vs : Value) (h : FR b W vs r1) (hbW : FrB b W.heap.size) => zj3 nm h hB1 (by omega) hbW)
 rw [← h2] at HE
 clear hB hk hn hs hi hil hy hx hns hnb h1 h2 hB1
 have HB_0 : Aside0 (Below w.heap.size w w) := ⟨Below.refl _ _⟩
 obtain ⟨Aa0, ca0, Aa1, ca1, Aa2, ca2, Aa3, ca3, Aa4, ca4, Aa5, ca5, rfl⟩ := h.form
 obtain ⟨adLa, hA_, -⟩ := h.adL HY.out
 subst hA_
 obtain ⟨adSa, hA_, -⟩ := h.adS HX.out
 subst hA_
 have Fa_0 := as0 h
 have HBB := as0 hb
 clear h hb
 go_enter Tryz.func25, Tryz.ntmps25
 go_wp2_with (first
  | ((with_reducible refine bx (N := 2) (cs := #[.int .i64 r.each, .int .i64 r.guard, .slice Aa0 r.N.length ca0, .slice (some adSa) r.S.length ca1, .slice (some adLa) r.L.length ca2, .slice Aa3 r.d.w.length ca3, .slice Aa4 r.d.u.length ca4, .slice Aa5 r.d.a.length ca5]) (t := 33) rfl rfl ?hr ?_); (case hr => first | (go_simp; done) | (go_simp; rfl)); intro ga hg w1 hbox hb; have Fa_1 := as0 (Fa_0.out.below hb); have HB_1 := as0 (z10 HB_0.out hb); have Ba_1 := as0 hbox; have GE_a := as0 (show w.heap.size ≤ ga by rw [hg]; exact HB_0.out.size); clear hbox hb hg; have ya := za0 Ba_1.out; have xl := Fa_1.out.atL HY.out; have xs := Fa_1.out.atS HX.out)
  | ((with_reducible refine bx (N := 4) (cs := #[.int .i64 0, .int .i64 0, .slice none 0 0, .slice none 0 0, .slice none 0 0, .slice none 0 0, .slice none 0 0, .slice none 0 0]) (t := 33) rfl rfl ?hr ?_); (case hr => first | (go_simp; done) | (go_simp; rfl)); intro gz hg w2 hbox hb; have Ba_2 := as0 (z20 Ba_1.out hb); have Fa_2 := as0 (Fa_1.out.below hb); have HB_2 := as0 (z10 HB_1.out hb); have Bz_2 := as0 hbox; have GE_z := as0 (show w.heap.size ≤ gz by rw [hg]; exact HB_1.out.size); have NE_az := as0 (show ga ≠ gz by rw [hg]; exact Nat.ne_of_lt (z70 Ba_1.out)); clear hbox hb hg; clear ya xl xs; have ya := za0 Ba_2.out; have xl := Fa_2.out.atL HY.out; have xs := Fa_2.out.atS HX.out)
  | (go_at_call 65; (with_reducible refine (HK.out _ _ Fa_2.out).mono ?_); rintro e w3 ⟨rfl, hb⟩; have Ba_3 := as0 (z20 Ba_2.out hb); have Bz_3 := as0 (z20 Bz_2.out hb); have Fa_3 := as0 (Fa_2.out.below hb); have HB_3 := as0 (z10 HB_2.out hb); clear hb; clear ya xl xs; have ya := za0 Ba_3.out; have xl := Fa_3.out.atL HY.out; have xs := Fa_3.out.atS HX.out)
  | (go_at_call 41; (with_reducible refine (HAt.out _ _ Fa_3.out).mono ?_); rintro e w4 ⟨rfl, hb⟩; have Ba_4 := as0 (z20 Ba_3.out hb); have Bz_4 := as0 (z20 Bz_3.out hb); have Fa_4 := as0 (Fa_3.out.below hb); have HB_4 := as0 (z10 HB_3.out hb); clear hb; clear ya xl xs; have ya := za0 Ba_4.out; have xl := Fa_4.out.atL HY.out; have xs := Fa_4.out.atS HX.out)
  | (go_at_call 38; (with_reducible refine (HPl.out _ _ _ _ _ _ _ _ _ Fa_4.out).mono ?_); rintro e w5 ⟨rfl, hb⟩; have Ba_5 := as0 (z20 Ba_4.out hb); have Bz_5 := as0 (z20 Bz_4.out hb); have Fa_5 := as0 (Fa_4.out.below hb); have HB_5 := as0 (z10 HB_4.out hb); clear hb; clear ya xl xs; have ya := za0 Ba_5.out; have xl := Fa_5.out.atL HY.out; have xs := Fa_5.out.atS HX.out)
  | (go_at_call 62; (with_reducible refine (HN.out _).mono ?_); rintro e w6 ⟨rfl, hb⟩; have Ba_6 := as0 (z20 Ba_5.out hb); have Bz_6 := as0 (z20 Bz_5.out hb); have Fa_6 := as0 (Fa_5.out.below hb); have HB_6 := as0 (z10 HB_5.out hb); clear hb; clear ya xl xs; have ya := za0 Ba_6.out; have xl := Fa_6.out.atL HY.out; have xs := Fa_6.out.atS HX.out)
  | (go_at_call 64; (with_reducible refine (HP.out _ _ Fa_6.out (zf1 HBB.out HB_6.out.size)).mono ?_); rintro e w7 ⟨vs_, rfl, hF_, hb⟩; obtain ⟨Ab0, cb0, Ab1, cb1, Ab2, cb2, Ab3, cb3, Ab4, cb4, Ab5, cb5, rfl⟩ := hF_.form; have Ba_7 := as0 (z20 Ba_6.out hb); have Bz_7 := as0 (z20 Bz_6.out hb); have Fa_7 := as0 (Fa_6.out.below hb); have HB_7 := as0 (z10 HB_6.out hb); have Fb_7 := as0 hF_; clear hb hF_; clear ya xl xs; have ya := za0 Ba_7.out; have xl := Fa_7.out.atL HY.out; have xs := Fa_7.out.atS HX.out)
  | (go_at_call 63; (with_reducible refine (HE.out _ _ Fb_7.out (zf1 HBB.out HB_7.out.size)).mono ?_); rintro e w8 ⟨vs_, rfl, hF_, hb⟩; obtain ⟨Ac0, cc0, Ac1, cc1, Ac2, cc2, Ac3, cc3, Ac4, cc4, Ac5, cc5, rfl⟩ := hF_.form; have Ba_8 := as0 (z20 Ba_7.out hb); have Bz_8 := as0 (z20 Bz_7.out hb); have Fa_8 := as0 (Fa_7.out.below hb); have Fb_8 := as0 (Fb_7.out.below hb); have HB_8 := as0 (z10 HB_7.out hb); have Fc_8 := as0 hF_; clear hb hF_; clear ya xl xs; have ya := za0 Ba_8.out; have xl := Fa_8.out.atL HY.out; have xs := Fa_8.out.atS HX.out)
  | (have yz := za0 Bz_8.out; (with_reducible refine sx (W := w8) (t := 33) (p := 4) (w1 := set8 w8 gz (.int .i64 r2.each) (.int .i64 r2.guard) (.slice Ac0 r2.N.length cc0) (.slice Ac1 r2.S.length cc1) (.slice Ac2 r2.L.length cc2) (.slice Ac3 r2.d.w.length cc3) (.slice Ac4 r2.d.u.length cc4) (.slice Ac5 r2.d.a.length cc5)) rfl rfl rfl ?hr ?_); (case hr => first | (go_simp; done) | (go_simp; rfl)); intro w9 hw_; have Ba_9 := as0 (zg0 z30 hw_ NE_az.out Ba_8.out); have Bz_9 := as0 (zu0 (zi0 Bz_8.out) hw_); have Fa_9 := as0 (zk0 z30 hw_ Fa_8.out Bz_8.out (by decide)); have Fb_9 := as0 (zk0 z30 hw_ Fb_8.out Bz_8.out (by decide)); have Fc_9 := as0 (zk0 z30 hw_ Fc_8.out Bz_8.out (by decide)); have HB_9 := as0 (zf0 (zb0 HB_8.out GE_z.out) hw_); clear hw_ yz; clear ya xl xs; have ya := za0 Ba_9.out; have xl := Fa_9.out.atL HY.out; have xs := Fa_9.out.atS HX.out; (repeat (first | go_values | go_skip | go_guarded | go_step | go_upon | go_in)); refine bodyPost_ret (zn0 (p := 4) rfl _ _ gz 33 _ (0, 0) _ rfl Bz_9.out Tryz.underlying33 rfl (by kernel_rfl)) rfl ?_; exact ⟨_, rfl, Fc_9.out, HB_9.out⟩))
theorem zda (r : RF)
  (nm : ByteArray) (hs : nm.size ≤ 100)
  {vs : Value} (h : FR b w vs r) (hb : FrB b w.heap.size)
  {n : Nat} (hB : RB r n) (hn : n ≤ 800000)
  (e0 : Int) (hk : (if nameB nm = true then (if idxOf r.N nm 0 < 0 then (5 : Int) else 0) else 11) = e0) (he : e0 ≠ 0)
  (dl : Int) :
  Calls Tryz.prog 26 #[vs, .string nm, .int .i64 dl] w fun e w' => ∃ vs', e = .returned (.tuple #[vs', .int .i64 e0]) ∧ FR b w' vs' r ∧ Below w.heap.size w w' := by
 have HK := as0 (fun (W : World) (vs : Value) (h : FR b W vs r) => z81 nm (by omega) r h)
 rw [hk] at HK
 have hd : (e0 != 0) = true := by simp [he]
 clear hB hk hn hs he
 have HB_0 : Aside0 (Below w.heap.size w w) := ⟨Below.refl _ _⟩
 obtain ⟨Aa0, ca0, Aa1, ca1, Aa2, ca2, Aa3, ca3, Aa4, ca4, Aa5, ca5, rfl⟩ := h.form
 have Fa_0 := as0 h
 have HBB := as0 hb
 clear h hb
 go_enter Tryz.func26, Tryz.ntmps26
 go_wp2_with (first
  | ((with_reducible refine bx (N := 3) (cs := #[.int .i64 r.each, .int .i64 r.guard, .slice Aa0 r.N.length ca0, .slice Aa1 r.S.length ca1, .slice Aa2 r.L.length ca2, .slice Aa3 r.d.w.length ca3, .slice Aa4 r.d.u.length ca4, .slice Aa5 r.d.a.length ca5]) (t := 33) rfl rfl ?hr ?_); (case hr => first | (go_simp; done) | (go_simp; rfl)); intro ga hg w1 hbox hb; have Fa_1 := as0 (Fa_0.out.below hb); have HB_1 := as0 (z10 HB_0.out hb); have Ba_1 := as0 hbox; have GE_a := as0 (show w.heap.size ≤ ga by rw [hg]; exact HB_0.out.size); clear hbox hb hg; have ya := za0 Ba_1.out)
  | ((with_reducible refine bx (N := 6) (cs := #[.int .i64 0, .int .i64 0, .slice none 0 0, .slice none 0 0, .slice none 0 0, .slice none 0 0, .slice none 0 0, .slice none 0 0]) (t := 33) rfl rfl ?hr ?_); (case hr => first | (go_simp; done) | (go_simp; rfl)); intro gz hg w2 hbox hb; have Ba_2 := as0 (z20 Ba_1.out hb); have Fa_2 := as0 (Fa_1.out.below hb); have HB_2 := as0 (z10 HB_1.out hb); have Bz_2 := as0 hbox; have GE_z := as0 (show w.heap.size ≤ gz by rw [hg]; exact HB_1.out.size); have NE_az := as0 (show ga ≠ gz by rw [hg]; exact Nat.ne_of_lt (z70 Ba_1.out)); clear hbox hb hg; clear ya; have ya := za0 Ba_2.out)
  | (go_at_call 65; (with_reducible refine (HK.out _ _ Fa_2.out).mono ?_); rintro e w3 ⟨rfl, hb⟩; have Ba_3 := as0 (z20 Ba_2.out hb); have Bz_3 := as0 (z20 Bz_2.out hb); have Fa_3 := as0 (Fa_2.out.below hb); have HB_3 := as0 (z10 HB_2.out hb); clear hb; clear ya; have ya := za0 Ba_3.out)
  | (have yz := za0 Bz_3.out; (with_reducible refine sx (W := w3) (t := 33) (p := 6) (w1 := set8 w3 gz (.int .i64 r.each) (.int .i64 r.guard) (.slice Aa0 r.N.length ca0) (.slice Aa1 r.S.length ca1) (.slice Aa2 r.L.length ca2) (.slice Aa3 r.d.w.length ca3) (.slice Aa4 r.d.u.length ca4) (.slice Aa5 r.d.a.length ca5)) rfl rfl rfl ?hr ?_); (case hr => first | (go_simp; done) | (go_simp; rfl)); intro w4 hw_; have Ba_4 := as0 (zg0 z30 hw_ NE_az.out Ba_3.out); have Bz_4 := as0 (zu0 (zi0 Bz_3.out) hw_); have Fa_4 := as0 (zk0 z30 hw_ Fa_3.out Bz_3.out (by decide)); have HB_4 := as0 (zf0 (zb0 HB_3.out GE_z.out) hw_); clear hw_ yz; clear ya; have ya := za0 Ba_4.out; (repeat (first | go_values | go_skip | go_guarded | go_step | go_upon | go_in)); refine bodyPost_ret (zn0 (p := 6) rfl _ _ gz 33 _ (0, 0) _ rfl Bz_4.out Tryz.underlying33 rfl (by kernel_rfl)) rfl ?_; exact ⟨_, rfl, Fa_4.out, HB_4.out⟩))
theorem rforce_3 (r : RF)
  (nm : ByteArray) (hs : nm.size ≤ 100)
  {vs : Value} (h : FR b w vs r) (hb : FrB b w.heap.size)
  {n : Nat} (hB : RB r n) (hn : n ≤ 800000)
  (hk : (if nameB nm = true then (if idxOf r.N nm 0 < 0 then (5 : Int) else 0) else 11) = 0)
  (i : Nat) (hi : idxOf r.N nm 0 = (i : Int)) (hil : i < r.N.length)
  (dl : Int) (hx : r.S[i]? = some 3) :
  Calls Tryz.prog 26 #[vs, .string nm, .int .i64 dl] w fun e w' => ∃ vs', e = .returned (.tuple #[vs', .int .i64 8]) ∧ FR b w' vs' r ∧ Below w.heap.size w w' := by
 have HK := as0 (fun (W : World) (vs : Value) (h : FR b W vs r) => z81 nm (by omega) r h)
 rw [hk] at HK
 have HAt := as0 (fun (W : World) (vs : Value) (h : FR b W vs r) => z61 nm r h)
 rw [hi] at HAt
 have HX := as0 hx
 have hiI : (i : Int) < (r.S.length : Int) := by have := hB.s; omega
 have hi0 : (0 : Int) ≤ (i : Int) := by omega
 clear hB hk hn hs hi hil hx
 have HB_0 : Aside0 (Below w.heap.size w w) := ⟨Below.refl _ _⟩
 obtain ⟨Aa0, ca0, Aa1, ca1, Aa2, ca2, Aa3, ca3, Aa4, ca4, Aa5, ca5, rfl⟩ := h.form
 obtain ⟨adSa, hA_, -⟩ := h.adS HX.out
 subst hA_
 have Fa_0 := as0 h
 have HBB := as0 hb
 clear h hb
 go_enter Tryz.func26, Tryz.ntmps26
 go_wp2_with (first
  | ((with_reducible refine bx (N := 3) (cs := #[.int .i64 r.each, .int .i64 r.guard, .slice Aa0 r.N.length ca0, .slice (some adSa) r.S.length ca1, .slice Aa2 r.L.length ca2, .slice Aa3 r.d.w.length ca3, .slice Aa4 r.d.u.length ca4, .slice Aa5 r.d.a.length ca5]) (t := 33) rfl rfl ?hr ?_); (case hr => first | (go_simp; done) | (go_simp; rfl)); intro ga hg w1 hbox hb; have Fa_1 := as0 (Fa_0.out.below hb); have HB_1 := as0 (z10 HB_0.out hb); have Ba_1 := as0 hbox; have GE_a := as0 (show w.heap.size ≤ ga by rw [hg]; exact HB_0.out.size); clear hbox hb hg; have ya := za0 Ba_1.out; have xs := Fa_1.out.atS HX.out)
  | ((with_reducible refine bx (N := 6) (cs := #[.int .i64 0, .int .i64 0, .slice none 0 0, .slice none 0 0, .slice none 0 0, .slice none 0 0, .slice none 0 0, .slice none 0 0]) (t := 33) rfl rfl ?hr ?_); (case hr => first | (go_simp; done) | (go_simp; rfl)); intro gz hg w2 hbox hb; have Ba_2 := as0 (z20 Ba_1.out hb); have Fa_2 := as0 (Fa_1.out.below hb); have HB_2 := as0 (z10 HB_1.out hb); have Bz_2 := as0 hbox; have GE_z := as0 (show w.heap.size ≤ gz by rw [hg]; exact HB_1.out.size); have NE_az := as0 (show ga ≠ gz by rw [hg]; exact Nat.ne_of_lt (z70 Ba_1.out)); clear hbox hb hg; clear ya xs; have ya := za0 Ba_2.out; have xs := Fa_2.out.atS HX.out)
  | (go_at_call 65; (with_reducible refine (HK.out _ _ Fa_2.out).mono ?_); rintro e w3 ⟨rfl, hb⟩; have Ba_3 := as0 (z20 Ba_2.out hb); have Bz_3 := as0 (z20 Bz_2.out hb); have Fa_3 := as0 (Fa_2.out.below hb); have HB_3 := as0 (z10 HB_2.out hb); clear hb; clear ya xs; have ya := za0 Ba_3.out; have xs := Fa_3.out.atS HX.out)
  | (go_at_call 41; (with_reducible refine (HAt.out _ _ Fa_3.out).mono ?_); rintro e w4 ⟨rfl, hb⟩; have Ba_4 := as0 (z20 Ba_3.out hb); have Bz_4 := as0 (z20 Bz_3.out hb); have Fa_4 := as0 (Fa_3.out.below hb); have HB_4 := as0 (z10 HB_3.out hb); clear hb; clear ya xs; have ya := za0 Ba_4.out; have xs := Fa_4.out.atS HX.out)
  | (have yz := za0 Bz_4.out; (with_reducible refine sx (W := w4) (t := 33) (p := 6) (w1 := set8 w4 gz (.int .i64 r.each) (.int .i64 r.guard) (.slice Aa0 r.N.length ca0) (.slice (some adSa) r.S.length ca1) (.slice Aa2 r.L.length ca2) (.slice Aa3 r.d.w.length ca3) (.slice Aa4 r.d.u.length ca4) (.slice Aa5 r.d.a.length ca5)) rfl rfl rfl ?hr ?_); (case hr => first | (go_simp; done) | (go_simp; rfl)); intro w5 hw_; have Ba_5 := as0 (zg0 z30 hw_ NE_az.out Ba_4.out); have Bz_5 := as0 (zu0 (zi0 Bz_4.out) hw_); have Fa_5 := as0 (zk0 z30 hw_ Fa_4.out Bz_4.out (by decide)); have HB_5 := as0 (zf0 (zb0 HB_4.out GE_z.out) hw_); clear hw_ yz; clear ya xs; have ya := za0 Ba_5.out; have xs := Fa_5.out.atS HX.out; (repeat (first | go_values | go_skip | go_guarded | go_step | go_upon | go_in)); refine bodyPost_ret (zn0 (p := 6) rfl _ _ gz 33 _ (0, 0) _ rfl Bz_5.out Tryz.underlying33 rfl (by kernel_rfl)) rfl ?_; exact ⟨_, rfl, Fa_5.out, HB_5.out⟩))
theorem zqb (r : RF)
  (nm : ByteArray) (hs : nm.size ≤ 100)
  {vs : Value} (h : FR b w vs r) (hb : FrB b w.heap.size)
  {n : Nat} (hB : RB r n) (hn : n ≤ 800000)
  (hk : (if nameB nm = true then (if idxOf r.N nm 0 < 0 then (5 : Int) else 0) else 11) = 0)
  (i : Nat) (hi : idxOf r.N nm 0 = (i : Int)) (hil : i < r.N.length)
  (dl : Int)
  (st : Int) (hx : r.S[i]? = some st)
  (lv : Bool) (hy : r.L[i]? = some lv)
  (h3 : st ≠ 3) (ns : Int) (hns : nextS st 0 = ns) (r1 : RF) (h1 : r1 = putR i ns lv r) (r2 : RF) (h2 : r2 = endR nm r1) (r3 : RF) (h4 : r3 = beginR nm dl r2) :
  Calls Tryz.prog 26 #[vs, .string nm, .int .i64 dl] w fun e w' => ∃ vs', e = .returned (.tuple #[vs', .int .i64 0]) ∧ FR b w' vs' r3 ∧ Below w.heap.size w w' := by
 have HK := as0 (fun (W : World) (vs : Value) (h : FR b W vs r) => z81 nm (by omega) r h)
 rw [hk] at HK
 have HAt := as0 (fun (W : World) (vs : Value) (h : FR b W vs r) => z61 nm r h)
 rw [hi] at HAt
 have HX := as0 hx
 have hiI : (i : Int) < (r.S.length : Int) := by have := hB.s; omega
 have HY := as0 hy
 have hiL : (i : Int) < (r.L.length : Int) := by have := hB.l; omega
 have hi0 : (0 : Int) ≤ (i : Int) := by omega
 have hd3 : (st == 3) = false := by simp [h3]
 have HN := as0 (fun (W : World) => zu1 st 0 W)
 rw [hns] at HN
 have HP := as0 (fun (W : World) (vs : Value) (h : FR b W vs r) (hbW : FrB b W.heap.size) => z03 i ns lv h hB (by omega) hil hbW)
 rw [← h1] at HP
 have hB1 : RB r1 n := by rw [h1]; exact hB.put i ns lv
 have HE := as0 (fun (W : World) (vs : Value) (h : FR b W vs r1) (hbW : FrB b W.heap.size) => zj3 nm h hB1 (by omega) hbW)
 rw [← h2] at HE
 have hB2 : RB r2 n := by rw [h2]; exact hB1.end_ nm
 have HG := as0 (fun (W : World) (vs : Value) (h : FR b W vs r2) (hbW : FrB b W.heap.size) => zg4 nm dl hs h hB2 (by omega) hbW)
 rw [← h4] at HG
 generalize nextB st 0 = nb at HN
 clear hB hk hn hs hi hil hy hx hns h1 h2 h3 h4 hB1 hB2
 have HB_0 : Aside0 (Below w.heap.size w w) := ⟨Below.refl _ _⟩
 obtain ⟨Aa0, ca0, Aa1, ca1, Aa2, ca2, Aa3, ca3, Aa4, ca4, Aa5, ca5, rfl⟩ := h.form
 obtain ⟨adSa, hA_, -⟩ := h.adS HX.out
 subst hA_
 obtain ⟨adLa, hA_, -⟩ := h.adL HY.out
 subst hA_
 have Fa_0 := as0 h
 have HBB := as0 hb
 clear h hb
 go_enter Tryz.func26, Tryz.ntmps26
 go_upto_region 8 with (first
  | ((with_reducible refine bx (N := 3) (cs := #[.int .i64 r.each, .int .i64 r.guard, .slice Aa0 r.N.length ca0, .slice (some adSa) r.S.length ca1, .slice (some adLa) r.L.length ca2, .slice Aa3 r.d.w.length ca3, .slice Aa4 r.d.u.length ca4, .slice Aa5 r.d.a.length ca5]) (t := 33) rfl rfl ?hr ?_); (case hr => first | (go_simp; done) | (go_simp; rfl)); intro ga hg w1 hbox hb; have Fa_1 := as0 (Fa_0.out.below hb); have HB_1 := as0 (z10 HB_0.out hb); have Ba_1 := as0 hbox; have GE_a := as0 (show w.heap.size ≤ ga by rw [hg]; exact HB_0.out.size); clear hbox hb hg; have ya := za0 Ba_1.out; have xs := Fa_1.out.atS HX.out; have xl := Fa_1.out.atL HY.out)
  | ((with_reducible refine bx (N := 6) (cs := #[.int .i64 0, .int .i64 0, .slice none 0 0, .slice none 0 0, .slice none 0 0, .slice none 0 0, .slice none 0 0, .slice none 0 0]) (t := 33) rfl rfl ?hr ?_); (case hr => first | (go_simp; done) | (go_simp; rfl)); intro gz hg w2 hbox hb; have Ba_2 := as0 (z20 Ba_1.out hb); have Fa_2 := as0 (Fa_1.out.below hb); have HB_2 := as0 (z10 HB_1.out hb); have Bz_2 := as0 hbox; have GE_z := as0 (show w.heap.size ≤ gz by rw [hg]; exact HB_1.out.size); have NE_az := as0 (show ga ≠ gz by rw [hg]; exact Nat.ne_of_lt (z70 Ba_1.out)); clear hbox hb hg; clear ya xs xl; have ya := za0 Ba_2.out; have xs := Fa_2.out.atS HX.out; have xl := Fa_2.out.atL HY.out)
  | (go_at_call 65; (with_reducible refine (HK.out _ _ Fa_2.out).mono ?_); rintro e w3 ⟨rfl, hb⟩; have Ba_3 := as0 (z20 Ba_2.out hb); have Bz_3 := as0 (z20 Bz_2.out hb); have Fa_3 := as0 (Fa_2.out.below hb); have HB_3 := as0 (z10 HB_2.out hb); clear hb; clear ya xs xl; have ya := za0 Ba_3.out; have xs := Fa_3.out.atS HX.out; have xl := Fa_3.out.atL HY.out)
  | (go_at_call 41; (with_reducible refine (HAt.out _ _ Fa_3.out).mono ?_); rintro e w4 ⟨rfl, hb⟩; have Ba_4 := as0 (z20 Ba_3.out hb); have Bz_4 := as0 (z20 Bz_3.out hb); have Fa_4 := as0 (Fa_3.out.below hb); have HB_4 := as0 (z10 HB_3.out hb); clear hb; clear ya xs xl; have ya := za0 Ba_4.out; have xs := Fa_4.out.atS HX.out; have xl := Fa_4.out.atL HY.out)
  | (go_at_call 62; (with_reducible refine (HN.out _).mono ?_); rintro e w5 ⟨rfl, hb⟩; have Ba_5 := as0 (z20 Ba_4.out hb); have Bz_5 := as0 (z20 Bz_4.out hb); have Fa_5 := as0 (Fa_4.out.below hb); have HB_5 := as0 (z10 HB_4.out hb); clear hb; clear ya xs xl; have ya := za0 Ba_5.out; have xs := Fa_5.out.atS HX.out; have xl := Fa_5.out.atL HY.out))
 refine zy1 (n := 10) (S := fun w' => w'.cell? ⟨ga, 0, none⟩ = some (.int .i64 r.each) ∧ w'.cell? ⟨ga, 1, none⟩ = some (.int .i64 r.guard) ∧ w'.cell? ⟨ga, 2, none⟩ = some (.slice Aa0 r.N.length ca0) ∧ w'.cell? ⟨ga, 3, none⟩ = some (.slice (some adSa) r.S.length ca1) ∧ w'.cell? ⟨ga, 4, none⟩ = some (.slice (some adLa) r.L.length ca2) ∧ w'.cell? ⟨ga, 5, none⟩ = some (.slice Aa3 r.d.w.length ca3) ∧ w'.cell? ⟨ga, 6, none⟩ = some (.slice Aa4 r.d.u.length ca4) ∧ w'.cell? ⟨ga, 7, none⟩ = some (.slice Aa5 r.d.a.length ca5) ∧ w'.cell? (adLa.add i) = some (.bool lv)) (ds := [9]) #[ff,ff,ff,ff,ff,ff,ff,ff,ff,ff] (by kernel_rfl) rfl rfl ⟨ya.1, ya.2.1, ya.2.2.1, ya.2.2.2.1, ya.2.2.2.2.1, ya.2.2.2.2.2.1, ya.2.2.2.2.2.2.1, ya.2.2.2.2.2.2.2.1, xl⟩ (fun hHeld => ?_); refine zc1 rw26.tab8 (fun HT_ => ?_)
 obtain ⟨w6, hw_⟩ : ∃ W, W = w5.drew := ⟨_, rfl⟩
 rw [← hw_] at hHeld ⊢
 have hb : Below w5.heap.size w5 w6 := by rw [hw_]; exact z50 (Below.refl _ _)
 have Ba_6 := as0 (z20 Ba_5.out hb)
 have Bz_6 := as0 (z20 Bz_5.out hb)
 have Fa_6 := as0 (Fa_5.out.below hb)
 have HB_6 := as0 (z10 HB_5.out hb)
 clear hb hw_
 clear ya xs xl
 have ya := za0 Ba_6.out
 have xs := Fa_6.out.atS HX.out
 have xl := Fa_6.out.atL HY.out
 refine zl0 (i := 1) (N := some 39) (v := ?_) (a' := ?_) #[ff,tt,ff,ff,ff,ff,ff,ff,ff,ff] rfl rfl (zh0 HT_.out (by kernel_rfl)) (fun _ _ _ h => h) (Or.inl ⟨by rfl, ?_⟩) ?_ ?_
 rotate_left
 ·intro w'
  go_simp
  with_reducible rfl
 rotate_left
 ·simp only [Act.put, lSI, lS0, lS1, ze0, zd0]
  rfl
 refine zl0 (i := 2) (N := some 40) (v := ?_) (a' := ?_) #[ff,tt,tt,ff,ff,ff,ff,ff,ff,ff] rfl rfl (zh0 HT_.out (by kernel_rfl)) (fun _ _ _ h => h) (Or.inl ⟨by rfl, ?_⟩) ?_ ?_
 rotate_left
 ·intro w'
  go_simp
  with_reducible rfl
 rotate_left
 ·simp only [Act.put, lSI, lS0, lS1, ze0, zd0]
  rfl
 refine zl0 (i := 3) (N := some 41) (v := ?_) (a' := ?_) #[ff,tt,tt,tt,ff,ff,ff,ff,ff,ff] rfl rfl (zh0 HT_.out (by kernel_rfl)) (fun _ _ _ h => h) (Or.inl ⟨by rfl, ?_⟩) ?_ ?_
 rotate_left
 ·intro w'
  go_simp
  with_reducible rfl
 rotate_left
 ·simp only [Act.put, lSI, lS0, lS1, ze0, zd0]
  rfl
 refine zl0 (i := 5) (N := some 43) (v := ?_) (a' := ?_) #[ff,tt,tt,tt,ff,tt,ff,ff,ff,ff] rfl rfl (zh0 HT_.out (by kernel_rfl)) (fun _ _ _ h => h) (Or.inl ⟨by rfl, ?_⟩) ?_ ?_
 rotate_left
 ·intro w'
  go_simp
  with_reducible rfl
 rotate_left
 ·simp only [Act.put, lSI, lS0, lS1, ze0, zd0]
  rfl
 refine take_ (i := 0) (N := some 38) (v := ?_) (a' := ?_) #[tt,tt,tt,tt,ff,tt,ff,ff,ff,ff] rfl rfl (zp0 HT_.out (by kernel_rfl)) (fun _ _ _ h => h) (Or.inl ⟨by rfl, ?_⟩) hHeld ?_ ?_
 rotate_left
 ·intro w' hS_
  obtain ⟨s0, s1, s2, s3, s4, s5, s6, s7, s8⟩ := hS_
  go_simp
  with_reducible rfl
 rotate_left
 ·simp only [Act.put, lSI, lS0, lS1, ze0, zd0]
  rfl
 refine take_ (i := 4) (N := some 42) (v := ?_) (a' := ?_) #[tt,tt,tt,tt,tt,tt,ff,ff,ff,ff] rfl rfl (zp0 HT_.out (by kernel_rfl)) (fun _ _ _ h => h) (Or.inl ⟨by rfl, ?_⟩) hHeld ?_ ?_
 rotate_left
 ·intro w' hS_
  obtain ⟨s0, s1, s2, s3, s4, s5, s6, s7, s8⟩ := hS_
  go_simp
  with_reducible rfl
 rotate_left
 ·simp only [Act.put, lSI, lS0, lS1, ze0, zd0]
  rfl
 refine zl0 (i := 6) (N := some 44) (v := ?_) (a' := ?_) #[tt,tt,tt,tt,tt,tt,tt,ff,ff,ff] rfl rfl (zh0 HT_.out (by kernel_rfl)) (fun _ _ _ h => h) (Or.inl ⟨by rfl, ?_⟩) ?_ ?_
 rotate_left
 ·intro w'
  go_simp
  with_reducible rfl
 rotate_left
 ·simp only [Act.put, lSI, lS0, lS1, ze0, zd0]
  rfl
 refine take_ (i := 7) (N := some 45) (v := ?_) (a' := ?_) #[tt,tt,tt,tt,tt,tt,tt,tt,ff,ff] rfl rfl (zp0 HT_.out (by kernel_rfl)) (fun _ _ _ h => h) (Or.inl ⟨by rfl, ?_⟩) hHeld ?_ ?_
 rotate_left
 ·intro w' hS_
  obtain ⟨s0, s1, s2, s3, s4, s5, s6, s7, s8⟩ := hS_
  go_simp
  with_reducible rfl
 rotate_left
 ·simp only [Act.put, lSI, lS0, lS1, ze0, zd0]
  rfl
 refine zx2 (i := 8) (N := some 46) #[tt,tt,tt,tt,tt,tt,tt,tt,tt,ff] rfl rfl (z21 HT_.out (by kernel_rfl)) (by decide) (fun K hK => ?_)
 refine z02 Tryz.func64 (by kernel_rfl) rfl #[.agg #[.int .i64 r.each, .int .i64 r.guard, .slice Aa0 r.N.length ca0, .slice (some adSa) r.S.length ca1, .slice (some adLa) r.L.length ca2, .slice Aa3 r.d.w.length ca3, .slice Aa4 r.d.u.length ca4, .slice Aa5 r.d.a.length ca5], .int .i64 (i : Int), .int .i64 ns, .bool lv] (by rfl) rfl rfl (by (try simp only [List.map_toArray, List.map_cons, List.map_nil]); first | done | rfl) ?_
 refine (HP.out _ _ Fa_6.out (zf1 HBB.out HB_6.out.size)).mono ?_
 rintro e w7 ⟨vs_, rfl, hF_, hb⟩
 obtain ⟨Ab0, cb0, Ab1, cb1, Ab2, cb2, Ab3, cb3, Ab4, cb4, Ab5, cb5, rfl⟩ := hF_.form
 have Ba_7 := as0 (z20 Ba_6.out hb)
 have Bz_7 := as0 (z20 Bz_6.out hb)
 have Fa_7 := as0 (Fa_6.out.below hb)
 have HB_7 := as0 (z10 HB_6.out hb)
 have Fb_7 := as0 hF_
 clear hb hF_
 clear ya xs xl
 have ya := za0 Ba_7.out
 have xs := Fa_7.out.atS HX.out
 have xl := Fa_7.out.atL HY.out
 refine ⟨_, rfl, ?_⟩
 refine hK.out _ _ ⟨ya.1, ya.2.1, ya.2.2.1, ya.2.2.2.1, ya.2.2.2.2.1, ya.2.2.2.2.2.1, ya.2.2.2.2.2.2.1, ya.2.2.2.2.2.2.2.1, xl⟩ (fun hHeld => ?_)
 clear hK K
 refine zh1 (a' := ?_) ?_ ?_
 rotate_left
 ·show Act.put _ (some 46) _ = _
  simp only [Act.put, lSI, lS0, lS1, ze0, zd0]
  rfl
 refine z85 (i := 9) (N := none) #[tt,tt,tt,tt,tt,tt,tt,tt,tt,tt] rfl rfl (z21 HT_.out (by kernel_rfl)) (by decide) (fun K hK => ?_)
 refine put_ (w1 := ?_) (by rfl) rfl ?_ ?_
 rotate_left
 ·go_simp
  rfl
 refine hK.out _ _ ?_
 clear hK K
 refine zr2 (zg1 HT_.out (by kernel_rfl)) ?_
 clear hHeld
 obtain ⟨w8, hw_⟩ : ∃ W, W = ((((((((w7.setCell ⟨ga, 0, none⟩ (.int .i64 r1.each)).setCell ⟨ga, 1, none⟩ (.int .i64 r1.guard)).setCell ⟨ga, 2, none⟩ (.slice Ab0 r1.N.length cb0)).setCell ⟨ga, 3, none⟩ (.slice Ab1 r1.S.length cb1)).setCell ⟨ga, 4, none⟩ (.slice Ab2 r1.L.length cb2)).setCell ⟨ga, 5, none⟩ (.slice Ab3 r1.d.w.length cb3)).setCell ⟨ga, 6, none⟩ (.slice Ab4 r1.d.u.length cb4)).setCell ⟨ga, 7, none⟩ (.slice Ab5 r1.d.a.length cb5)) := ⟨_, rfl⟩
 rw [← hw_]
 have Ba_8 := as0 (zu0 (zi0 Ba_7.out) hw_)
 have Bz_8 := as0 (zg0 z30 hw_ NE_az.out.symm Bz_7.out)
 have Fa_8 := as0 (zk0 z30 hw_ Fa_7.out Ba_7.out (by decide))
 have Fb_8 := as0 (zk0 z30 hw_ Fb_7.out Ba_7.out (by decide))
 have HB_8 := as0 (zf0 (zb0 HB_7.out GE_a.out) hw_)
 clear hw_ 
 clear ya xs xl
 have ya := za0 Ba_8.out
 have xs := Fa_8.out.atS HX.out
 have xl := Fa_8.out.atL HY.out
 go_wp2_with (first
  | (go_at_call 63; (with_reducible refine (HE.out _ _ Fb_8.out (zf1 HBB.out HB_8.out.size)).mono ?_); rintro e w9 ⟨vs_, rfl, hF_, hb⟩; obtain ⟨Ac0, cc0, Ac1, cc1, Ac2, cc2, Ac3, cc3, Ac4, cc4, Ac5, cc5, rfl⟩ := hF_.form; have Ba_9 := as0 (z20 Ba_8.out hb); have Bz_9 := as0 (z20 Bz_8.out hb); have Fa_9 := as0 (Fa_8.out.below hb); have Fb_9 := as0 (Fb_8.out.below hb); have HB_9 := as0 (z10 HB_8.out hb); have Fc_9 := as0 hF_; clear hb hF_; clear ya xs xl; have ya := za0 Ba_9.out; have xs := Fa_9.out.atS HX.out; have xl := Fa_9.out.atL HY.out)
  | (go_at_call 67; (with_reducible refine (HG.out _ _ Fc_9.out (zf1 HBB.out HB_9.out.size)).mono ?_); rintro e w10 ⟨vs_, rfl, hF_, hb⟩; obtain ⟨Ad0, cd0, Ad1, cd1, Ad2, cd2, Ad3, cd3, Ad4, cd4, Ad5, cd5, rfl⟩ := hF_.form; have Ba_10 := as0 (z20 Ba_9.out hb); have Bz_10 := as0 (z20 Bz_9.out hb); have Fa_10 := as0 (Fa_9.out.below hb); have Fb_10 := as0 (Fb_9.out.below hb); have Fc_10 := as0 (Fc_9.out.below hb); have HB_10 := as0 (z10 HB_9.out hb); have Fd_10 := as0 hF_; clear hb hF_; clear ya xs xl; have ya := za0 Ba_10.out; have xs := Fa_10.out.atS HX.out; have xl := Fa_10.out.atL HY.out)
  | (have yz := za0 Bz_10.out; (with_reducible refine sx (W := w10) (t := 33) (p := 6) (w1 := set8 w10 gz (.int .i64 r3.each) (.int .i64 r3.guard) (.slice Ad0 r3.N.length cd0) (.slice Ad1 r3.S.length cd1) (.slice Ad2 r3.L.length cd2) (.slice Ad3 r3.d.w.length cd3) (.slice Ad4 r3.d.u.length cd4) (.slice Ad5 r3.d.a.length cd5)) rfl rfl rfl ?hr ?_); (case hr => first | (go_simp; done) | (go_simp; rfl)); intro w11 hw_; have Ba_11 := as0 (zg0 z30 hw_ NE_az.out Ba_10.out); have Bz_11 := as0 (zu0 (zi0 Bz_10.out) hw_); have Fa_11 := as0 (zk0 z30 hw_ Fa_10.out Bz_10.out (by decide)); have Fb_11 := as0 (zk0 z30 hw_ Fb_10.out Bz_10.out (by decide)); have Fc_11 := as0 (zk0 z30 hw_ Fc_10.out Bz_10.out (by decide)); have Fd_11 := as0 (zk0 z30 hw_ Fd_10.out Bz_10.out (by decide)); have HB_11 := as0 (zf0 (zb0 HB_10.out GE_z.out) hw_); clear hw_ yz; clear ya xs xl; have ya := za0 Ba_11.out; have xs := Fa_11.out.atS HX.out; have xl := Fa_11.out.atL HY.out; (repeat (first | go_values | go_skip | go_guarded | go_step | go_upon | go_in)); refine bodyPost_ret (zn0 (p := 6) rfl _ _ gz 33 _ (0, 0) _ rfl Bz_11.out Tryz.underlying33 rfl (by kernel_rfl)) rfl ?_; exact ⟨_, rfl, Fd_11.out, HB_11.out⟩))
end
end
section
def rw27.T10 : Bool × List (List Nat × List Nat) := (true, [([], []), ([], []), ([], []), ([2], [2]), ([], []), ([3, 4], [3, 4]), ([5], [5]), ([0, 1, 6], [0, 1, 6]), ([7, 7, 0, 1, 2, 3, 4, 5, 6, 7], [7]), ([8, 0, 1, 2, 3, 4, 5, 6, 7, 8], [])])
theorem rw27.tab10 : rtab .any (opsOf Tryz.f27 10) = rw27.T10 := by kernel_rfl
def rw29.T4 : Bool × List (List Nat × List Nat) := (true, [([], []), ([], []), ([], []), ([2], [2]), ([], []), ([3, 4], [3, 4]), ([5], [5]), ([0, 1, 6], [0, 1, 6]), ([7, 7, 0, 1, 2, 3, 4, 5, 6, 7], [7]), ([8, 0, 1, 2, 3, 4, 5, 6, 7, 8], [])])
theorem rw29.tab4 : rtab .any (opsOf Tryz.f29 4) = rw29.T4 := by kernel_rfl
section
variable {b : Nat → Prop} {w : World}
theorem z8a (r : RF)
  (nm : ByteArray) (hs : nm.size ≤ 100)
  {vs : Value} (h : FR b w vs r) (hb : FrB b w.heap.size)
  {n : Nat} (hB : RB r n) (hn : n ≤ 800000)
  (e0 : Int) (hk : (if nameB nm = true then (if idxOf r.N nm 0 < 0 then (5 : Int) else 0) else 11) = e0) (he : e0 ≠ 0) :
  Calls Tryz.prog 27 #[vs, .string nm] w fun e w' => ∃ vs', e = .returned (.tuple #[vs', .int .i64 e0]) ∧ FR b w' vs' r ∧ Below w.heap.size w w' := by
 have HK := as0 (fun (W : World) (vs : Value) (h : FR b W vs r) => z81 nm (by omega) r h)
 rw [hk] at HK
 have hd : (e0 != 0) = true := by simp [he]
 clear hB hk hn hs he
 have HB_0 : Aside0 (Below w.heap.size w w) := ⟨Below.refl _ _⟩
 obtain ⟨Aa0, ca0, Aa1, ca1, Aa2, ca2, Aa3, ca3, Aa4, ca4, Aa5, ca5, rfl⟩ := h.form
 have Fa_0 := as0 h
 have HBB := as0 hb
 clear h hb
 go_enter Tryz.func27, Tryz.ntmps27
 go_wp2_with (first
  | ((with_reducible refine bx (N := 2) (cs := #[.int .i64 r.each, .int .i64 r.guard, .slice Aa0 r.N.length ca0, .slice Aa1 r.S.length ca1, .slice Aa2 r.L.length ca2, .slice Aa3 r.d.w.length ca3, .slice Aa4 r.d.u.length ca4, .slice Aa5 r.d.a.length ca5]) (t := 33) rfl rfl ?hr ?_); (case hr => first | (go_simp; done) | (go_simp; rfl)); intro ga hg w1 hbox hb; have Fa_1 := as0 (Fa_0.out.below hb); have HB_1 := as0 (z10 HB_0.out hb); have Ba_1 := as0 hbox; have GE_a := as0 (show w.heap.size ≤ ga by rw [hg]; exact HB_0.out.size); clear hbox hb hg; have ya := za0 Ba_1.out)
  | ((with_reducible refine bx (N := 4) (cs := #[.int .i64 0, .int .i64 0, .slice none 0 0, .slice none 0 0, .slice none 0 0, .slice none 0 0, .slice none 0 0, .slice none 0 0]) (t := 33) rfl rfl ?hr ?_); (case hr => first | (go_simp; done) | (go_simp; rfl)); intro gz hg w2 hbox hb; have Ba_2 := as0 (z20 Ba_1.out hb); have Fa_2 := as0 (Fa_1.out.below hb); have HB_2 := as0 (z10 HB_1.out hb); have Bz_2 := as0 hbox; have GE_z := as0 (show w.heap.size ≤ gz by rw [hg]; exact HB_1.out.size); have NE_az := as0 (show ga ≠ gz by rw [hg]; exact Nat.ne_of_lt (z70 Ba_1.out)); clear hbox hb hg; clear ya; have ya := za0 Ba_2.out)
  | (go_at_call 65; (with_reducible refine (HK.out _ _ Fa_2.out).mono ?_); rintro e w3 ⟨rfl, hb⟩; have Ba_3 := as0 (z20 Ba_2.out hb); have Bz_3 := as0 (z20 Bz_2.out hb); have Fa_3 := as0 (Fa_2.out.below hb); have HB_3 := as0 (z10 HB_2.out hb); clear hb; clear ya; have ya := za0 Ba_3.out)
  | (have yz := za0 Bz_3.out; (with_reducible refine sx (W := w3) (t := 33) (p := 4) (w1 := set8 w3 gz (.int .i64 r.each) (.int .i64 r.guard) (.slice Aa0 r.N.length ca0) (.slice Aa1 r.S.length ca1) (.slice Aa2 r.L.length ca2) (.slice Aa3 r.d.w.length ca3) (.slice Aa4 r.d.u.length ca4) (.slice Aa5 r.d.a.length ca5)) rfl rfl rfl ?hr ?_); (case hr => first | (go_simp; done) | (go_simp; rfl)); intro w4 hw_; have Ba_4 := as0 (zg0 z30 hw_ NE_az.out Ba_3.out); have Bz_4 := as0 (zu0 (zi0 Bz_3.out) hw_); have Fa_4 := as0 (zk0 z30 hw_ Fa_3.out Bz_3.out (by decide)); have HB_4 := as0 (zf0 (zb0 HB_3.out GE_z.out) hw_); clear hw_ yz; clear ya; have ya := za0 Ba_4.out; (repeat (first | go_values | go_skip | go_guarded | go_step | go_upon | go_in)); refine bodyPost_ret (zn0 (p := 4) rfl _ _ gz 33 _ (0, 0) _ rfl Bz_4.out Tryz.underlying33 rfl (by kernel_rfl)) rfl ?_; exact ⟨_, rfl, Fa_4.out, HB_4.out⟩))
theorem zbc (r : RF)
  (nm : ByteArray) (hs : nm.size ≤ 100)
  {vs : Value} (h : FR b w vs r) (hb : FrB b w.heap.size)
  {n : Nat} (hB : RB r n) (hn : n ≤ 800000)
  (hk : (if nameB nm = true then (if idxOf r.N nm 0 < 0 then (5 : Int) else 0) else 11) = 0)
  (i : Nat) (hi : idxOf r.N nm 0 = (i : Int)) (hil : i < r.N.length)
  (st : Int) (hx : r.S[i]? = some st)
  (h0 : st ≠ 0) :
  Calls Tryz.prog 27 #[vs, .string nm] w fun e w' => ∃ vs', e = .returned (.tuple #[vs', .int .i64 8]) ∧ FR b w' vs' r ∧ Below w.heap.size w w' := by
 have HK := as0 (fun (W : World) (vs : Value) (h : FR b W vs r) => z81 nm (by omega) r h)
 rw [hk] at HK
 have HAt := as0 (fun (W : World) (vs : Value) (h : FR b W vs r) => z61 nm r h)
 rw [hi] at HAt
 have HX := as0 hx
 have hiI : (i : Int) < (r.S.length : Int) := by have := hB.s; omega
 have hi0 : (0 : Int) ≤ (i : Int) := by omega
 have hd : (st != 0) = true := by simp [h0]
 clear hB hk hn hs hi hil hx h0
 have HB_0 : Aside0 (Below w.heap.size w w) := ⟨Below.refl _ _⟩
 obtain ⟨Aa0, ca0, Aa1, ca1, Aa2, ca2, Aa3, ca3, Aa4, ca4, Aa5, ca5, rfl⟩ := h.form
 obtain ⟨adSa, hA_, -⟩ := h.adS HX.out
 subst hA_
 have Fa_0 := as0 h
 have HBB := as0 hb
 clear h hb
 go_enter Tryz.func27, Tryz.ntmps27
 go_wp2_with (first
  | ((with_reducible refine bx (N := 2) (cs := #[.int .i64 r.each, .int .i64 r.guard, .slice Aa0 r.N.length ca0, .slice (some adSa) r.S.length ca1, .slice Aa2 r.L.length ca2, .slice Aa3 r.d.w.length ca3, .slice Aa4 r.d.u.length ca4, .slice Aa5 r.d.a.length ca5]) (t := 33) rfl rfl ?hr ?_); (case hr => first | (go_simp; done) | (go_simp; rfl)); intro ga hg w1 hbox hb; have Fa_1 := as0 (Fa_0.out.below hb); have HB_1 := as0 (z10 HB_0.out hb); have Ba_1 := as0 hbox; have GE_a := as0 (show w.heap.size ≤ ga by rw [hg]; exact HB_0.out.size); clear hbox hb hg; have ya := za0 Ba_1.out; have xs := Fa_1.out.atS HX.out)
  | ((with_reducible refine bx (N := 4) (cs := #[.int .i64 0, .int .i64 0, .slice none 0 0, .slice none 0 0, .slice none 0 0, .slice none 0 0, .slice none 0 0, .slice none 0 0]) (t := 33) rfl rfl ?hr ?_); (case hr => first | (go_simp; done) | (go_simp; rfl)); intro gz hg w2 hbox hb; have Ba_2 := as0 (z20 Ba_1.out hb); have Fa_2 := as0 (Fa_1.out.below hb); have HB_2 := as0 (z10 HB_1.out hb); have Bz_2 := as0 hbox; have GE_z := as0 (show w.heap.size ≤ gz by rw [hg]; exact HB_1.out.size); have NE_az := as0 (show ga ≠ gz by rw [hg]; exact Nat.ne_of_lt (z70 Ba_1.out)); clear hbox hb hg; clear ya xs; have ya := za0 Ba_2.out; have xs := Fa_2.out.atS HX.out)
  | (go_at_call 65; (with_reducible refine (HK.out _ _ Fa_2.out).mono ?_); rintro e w3 ⟨rfl, hb⟩; have Ba_3 := as0 (z20 Ba_2.out hb); have Bz_3 := as0 (z20 Bz_2.out hb); have Fa_3 := as0 (Fa_2.out.below hb); have HB_3 := as0 (z10 HB_2.out hb); clear hb; clear ya xs; have ya := za0 Ba_3.out; have xs := Fa_3.out.atS HX.out)
  | (go_at_call 41; (with_reducible refine (HAt.out _ _ Fa_3.out).mono ?_); rintro e w4 ⟨rfl, hb⟩; have Ba_4 := as0 (z20 Ba_3.out hb); have Bz_4 := as0 (z20 Bz_3.out hb); have Fa_4 := as0 (Fa_3.out.below hb); have HB_4 := as0 (z10 HB_3.out hb); clear hb; clear ya xs; have ya := za0 Ba_4.out; have xs := Fa_4.out.atS HX.out)
  | (have yz := za0 Bz_4.out; (with_reducible refine sx (W := w4) (t := 33) (p := 4) (w1 := set8 w4 gz (.int .i64 r.each) (.int .i64 r.guard) (.slice Aa0 r.N.length ca0) (.slice (some adSa) r.S.length ca1) (.slice Aa2 r.L.length ca2) (.slice Aa3 r.d.w.length ca3) (.slice Aa4 r.d.u.length ca4) (.slice Aa5 r.d.a.length ca5)) rfl rfl rfl ?hr ?_); (case hr => first | (go_simp; done) | (go_simp; rfl)); intro w5 hw_; have Ba_5 := as0 (zg0 z30 hw_ NE_az.out Ba_4.out); have Bz_5 := as0 (zu0 (zi0 Bz_4.out) hw_); have Fa_5 := as0 (zk0 z30 hw_ Fa_4.out Bz_4.out (by decide)); have HB_5 := as0 (zf0 (zb0 HB_4.out GE_z.out) hw_); clear hw_ yz; clear ya xs; have ya := za0 Ba_5.out; have xs := Fa_5.out.atS HX.out; (repeat (first | go_values | go_skip | go_guarded | go_step | go_upon | go_in)); refine bodyPost_ret (zn0 (p := 4) rfl _ _ gz 33 _ (0, 0) _ rfl Bz_5.out Tryz.underlying33 rfl (by kernel_rfl)) rfl ?_; exact ⟨_, rfl, Fa_5.out, HB_5.out⟩))
theorem reject_0 (r : RF)
  (nm : ByteArray) (hs : nm.size ≤ 100)
  {vs : Value} (h : FR b w vs r) (hb : FrB b w.heap.size)
  {n : Nat} (hB : RB r n) (hn : n ≤ 800000)
  (hk : (if nameB nm = true then (if idxOf r.N nm 0 < 0 then (5 : Int) else 0) else 11) = 0)
  (i : Nat) (hi : idxOf r.N nm 0 = (i : Int)) (hil : i < r.N.length)
  (hx : r.S[i]? = some 0)
  (lv : Bool) (hy : r.L[i]? = some lv)
  (he : r.each ≤ 1000) (hm : mayI r.S (i : Int) r.each r.guard = false) :
  Calls Tryz.prog 27 #[vs, .string nm] w fun e w' => ∃ vs', e = .returned (.tuple #[vs', .int .i64 9]) ∧ FR b w' vs' r ∧ Below w.heap.size w w' := by
 have HK := as0 (fun (W : World) (vs : Value) (h : FR b W vs r) => z81 nm (by omega) r h)
 rw [hk] at HK
 have HAt := as0 (fun (W : World) (vs : Value) (h : FR b W vs r) => z61 nm r h)
 rw [hi] at HAt
 have HX := as0 hx
 have hiI : (i : Int) < (r.S.length : Int) := by have := hB.s; omega
 have HY := as0 hy
 have hiL : (i : Int) < (r.L.length : Int) := by have := hB.l; omega
 have hi0 : (0 : Int) ≤ (i : Int) := by omega
 have HM := as0 (fun (W : World) (vs : Value) (h : FR b W vs r) => z06 nm r h (by have := hB.s; have := hB.m; omega) hB.s.symm he)
 rw [hi] at HM
 rw [hm] at HM
 clear hB hk hn hs hi hil hx hy hm he
 have HB_0 : Aside0 (Below w.heap.size w w) := ⟨Below.refl _ _⟩
 obtain ⟨Aa0, ca0, Aa1, ca1, Aa2, ca2, Aa3, ca3, Aa4, ca4, Aa5, ca5, rfl⟩ := h.form
 obtain ⟨adSa, hA_, -⟩ := h.adS HX.out
 subst hA_
 obtain ⟨adLa, hA_, -⟩ := h.adL HY.out
 subst hA_
 have Fa_0 := as0 h
 have HBB := as0 hb
 clear h hb
 go_enter Tryz.func27, Tryz.ntmps27
 go_wp2_with (first
  | ((with_reducible refine bx (N := 2) (cs := #[.int .i64 r.each, .int .i64 r.guard, .slice Aa0 r.N.length ca0, .slice (some adSa) r.S.length ca1, .slice (some adLa) r.L.length ca2, .slice Aa3 r.d.w.length ca3, .slice Aa4 r.d.u.length ca4, .slice Aa5 r.d.a.length ca5]) (t := 33) rfl rfl ?hr ?_); (case hr => first | (go_simp; done) | (go_simp; rfl)); intro ga hg w1 hbox hb; have Fa_1 := as0 (Fa_0.out.below hb); have HB_1 := as0 (z10 HB_0.out hb); have Ba_1 := as0 hbox; have GE_a := as0 (show w.heap.size ≤ ga by rw [hg]; exact HB_0.out.size); clear hbox hb hg; have ya := za0 Ba_1.out; have xs := Fa_1.out.atS HX.out; have xl := Fa_1.out.atL HY.out)
  | ((with_reducible refine bx (N := 4) (cs := #[.int .i64 0, .int .i64 0, .slice none 0 0, .slice none 0 0, .slice none 0 0, .slice none 0 0, .slice none 0 0, .slice none 0 0]) (t := 33) rfl rfl ?hr ?_); (case hr => first | (go_simp; done) | (go_simp; rfl)); intro gz hg w2 hbox hb; have Ba_2 := as0 (z20 Ba_1.out hb); have Fa_2 := as0 (Fa_1.out.below hb); have HB_2 := as0 (z10 HB_1.out hb); have Bz_2 := as0 hbox; have GE_z := as0 (show w.heap.size ≤ gz by rw [hg]; exact HB_1.out.size); have NE_az := as0 (show ga ≠ gz by rw [hg]; exact Nat.ne_of_lt (z70 Ba_1.out)); clear hbox hb hg; clear ya xs xl; have ya := za0 Ba_2.out; have xs := Fa_2.out.atS HX.out; have xl := Fa_2.out.atL HY.out)
  | (go_at_call 65; (with_reducible refine (HK.out _ _ Fa_2.out).mono ?_); rintro e w3 ⟨rfl, hb⟩; have Ba_3 := as0 (z20 Ba_2.out hb); have Bz_3 := as0 (z20 Bz_2.out hb); have Fa_3 := as0 (Fa_2.out.below hb); have HB_3 := as0 (z10 HB_2.out hb); clear hb; clear ya xs xl; have ya := za0 Ba_3.out; have xs := Fa_3.out.atS HX.out; have xl := Fa_3.out.atL HY.out)
  | (go_at_call 41; (with_reducible refine (HAt.out _ _ Fa_3.out).mono ?_); rintro e w4 ⟨rfl, hb⟩; have Ba_4 := as0 (z20 Ba_3.out hb); have Bz_4 := as0 (z20 Bz_3.out hb); have Fa_4 := as0 (Fa_3.out.below hb); have HB_4 := as0 (z10 HB_3.out hb); clear hb; clear ya xs xl; have ya := za0 Ba_4.out; have xs := Fa_4.out.atS HX.out; have xl := Fa_4.out.atL HY.out)
  | (go_at_call 68; (with_reducible refine (HM.out _ _ Fa_4.out).mono ?_); rintro e w5 ⟨rfl, hb⟩; have Ba_5 := as0 (z20 Ba_4.out hb); have Bz_5 := as0 (z20 Bz_4.out hb); have Fa_5 := as0 (Fa_4.out.below hb); have HB_5 := as0 (z10 HB_4.out hb); clear hb; clear ya xs xl; have ya := za0 Ba_5.out; have xs := Fa_5.out.atS HX.out; have xl := Fa_5.out.atL HY.out)
  | (have yz := za0 Bz_5.out; (with_reducible refine sx (W := w5) (t := 33) (p := 4) (w1 := set8 w5 gz (.int .i64 r.each) (.int .i64 r.guard) (.slice Aa0 r.N.length ca0) (.slice (some adSa) r.S.length ca1) (.slice (some adLa) r.L.length ca2) (.slice Aa3 r.d.w.length ca3) (.slice Aa4 r.d.u.length ca4) (.slice Aa5 r.d.a.length ca5)) rfl rfl rfl ?hr ?_); (case hr => first | (go_simp; done) | (go_simp; rfl)); intro w6 hw_; have Ba_6 := as0 (zg0 z30 hw_ NE_az.out Ba_5.out); have Bz_6 := as0 (zu0 (zi0 Bz_5.out) hw_); have Fa_6 := as0 (zk0 z30 hw_ Fa_5.out Bz_5.out (by decide)); have HB_6 := as0 (zf0 (zb0 HB_5.out GE_z.out) hw_); clear hw_ yz; clear ya xs xl; have ya := za0 Ba_6.out; have xs := Fa_6.out.atS HX.out; have xl := Fa_6.out.atL HY.out; (repeat (first | go_values | go_skip | go_guarded | go_step | go_upon | go_in)); refine bodyPost_ret (zn0 (p := 4) rfl _ _ gz 33 _ (0, 0) _ rfl Bz_6.out Tryz.underlying33 rfl (by kernel_rfl)) rfl ?_; exact ⟨_, rfl, Fa_6.out, HB_6.out⟩))
theorem reject_1 (r : RF)
  (nm : ByteArray) (hs : nm.size ≤ 100)
  {vs : Value} (h : FR b w vs r) (hb : FrB b w.heap.size)
  {n : Nat} (hB : RB r n) (hn : n ≤ 800000)
  (hk : (if nameB nm = true then (if idxOf r.N nm 0 < 0 then (5 : Int) else 0) else 11) = 0)
  (i : Nat) (hi : idxOf r.N nm 0 = (i : Int)) (hil : i < r.N.length)
  (hx : r.S[i]? = some 0)
  (lv : Bool) (hy : r.L[i]? = some lv)
  (he : r.each ≤ 1000) (hm : mayI r.S (i : Int) r.each r.guard = true)
  (r1 : RF) (h1 : r1 = putR i 2 lv r) :
  Calls Tryz.prog 27 #[vs, .string nm] w fun e w' => ∃ vs', e = .returned (.tuple #[vs', .int .i64 0]) ∧ FR b w' vs' r1 ∧ Below w.heap.size w w' := by
 have HK := as0 (fun (W : World) (vs : Value) (h : FR b W vs r) => z81 nm (by omega) r h)
 rw [hk] at HK
 have HAt := as0 (fun (W : World) (vs : Value) (h : FR b W vs r) => z61 nm r h)
 rw [hi] at HAt
 have HX := as0 hx
 have hiI : (i : Int) < (r.S.length : Int) := by have := hB.s; omega
 have HY := as0 hy
 have hiL : (i : Int) < (r.L.length : Int) := by have := hB.l; omega
 have hi0 : (0 : Int) ≤ (i : Int) := by omega
 have HM := as0 (fun (W : World) (vs : Value) (h : FR b W vs r) => z06 nm r h (by have := hB.s; have := hB.m; omega) hB.s.symm he)
 rw [hi] at HM
 rw [hm] at HM
 have HP := as0 (fun (W : World) (vs : Value) (h : FR b W vs r) (hbW : FrB b W.heap.size) => z03 i 2 lv h hB (by omega) hil hbW)
 rw [← h1] at HP
 clear hB hk hn hs hi hil hx hy hm he h1
 have HB_0 : Aside0 (Below w.heap.size w w) := ⟨Below.refl _ _⟩
 obtain ⟨Aa0, ca0, Aa1, ca1, Aa2, ca2, Aa3, ca3, Aa4, ca4, Aa5, ca5, rfl⟩ := h.form
 obtain ⟨adSa, hA_, -⟩ := h.adS HX.out
 subst hA_
 obtain ⟨adLa, hA_, -⟩ := h.adL HY.out
 subst hA_
 have Fa_0 := as0 h
 have HBB := as0 hb
 clear h hb
 go_enter Tryz.func27, Tryz.ntmps27
 go_upto_region 10 with (first
  | ((with_reducible refine bx (N := 2) (cs := #[.int .i64 r.each, .int .i64 r.guard, .slice Aa0 r.N.length ca0, .slice (some adSa) r.S.length ca1, .slice (some adLa) r.L.length ca2, .slice Aa3 r.d.w.length ca3, .slice Aa4 r.d.u.length ca4, .slice Aa5 r.d.a.length ca5]) (t := 33) rfl rfl ?hr ?_); (case hr => first | (go_simp; done) | (go_simp; rfl)); intro ga hg w1 hbox hb; have Fa_1 := as0 (Fa_0.out.below hb); have HB_1 := as0 (z10 HB_0.out hb); have Ba_1 := as0 hbox; have GE_a := as0 (show w.heap.size ≤ ga by rw [hg]; exact HB_0.out.size); clear hbox hb hg; have ya := za0 Ba_1.out; have xs := Fa_1.out.atS HX.out; have xl := Fa_1.out.atL HY.out)
  | ((with_reducible refine bx (N := 4) (cs := #[.int .i64 0, .int .i64 0, .slice none 0 0, .slice none 0 0, .slice none 0 0, .slice none 0 0, .slice none 0 0, .slice none 0 0]) (t := 33) rfl rfl ?hr ?_); (case hr => first | (go_simp; done) | (go_simp; rfl)); intro gz hg w2 hbox hb; have Ba_2 := as0 (z20 Ba_1.out hb); have Fa_2 := as0 (Fa_1.out.below hb); have HB_2 := as0 (z10 HB_1.out hb); have Bz_2 := as0 hbox; have GE_z := as0 (show w.heap.size ≤ gz by rw [hg]; exact HB_1.out.size); have NE_az := as0 (show ga ≠ gz by rw [hg]; exact Nat.ne_of_lt (z70 Ba_1.out)); clear hbox hb hg; clear ya xs xl; have ya := za0 Ba_2.out; have xs := Fa_2.out.atS HX.out; have xl := Fa_2.out.atL HY.out)
  | (go_at_call 65; (with_reducible refine (HK.out _ _ Fa_2.out).mono ?_); rintro e w3 ⟨rfl, hb⟩; have Ba_3 := as0 (z20 Ba_2.out hb); have Bz_3 := as0 (z20 Bz_2.out hb); have Fa_3 := as0 (Fa_2.out.below hb); have HB_3 := as0 (z10 HB_2.out hb); clear hb; clear ya xs xl; have ya := za0 Ba_3.out; have xs := Fa_3.out.atS HX.out; have xl := Fa_3.out.atL HY.out)
  | (go_at_call 41; (with_reducible refine (HAt.out _ _ Fa_3.out).mono ?_); rintro e w4 ⟨rfl, hb⟩; have Ba_4 := as0 (z20 Ba_3.out hb); have Bz_4 := as0 (z20 Bz_3.out hb); have Fa_4 := as0 (Fa_3.out.below hb); have HB_4 := as0 (z10 HB_3.out hb); clear hb; clear ya xs xl; have ya := za0 Ba_4.out; have xs := Fa_4.out.atS HX.out; have xl := Fa_4.out.atL HY.out)
  | (go_at_call 68; (with_reducible refine (HM.out _ _ Fa_4.out).mono ?_); rintro e w5 ⟨rfl, hb⟩; have Ba_5 := as0 (z20 Ba_4.out hb); have Bz_5 := as0 (z20 Bz_4.out hb); have Fa_5 := as0 (Fa_4.out.below hb); have HB_5 := as0 (z10 HB_4.out hb); clear hb; clear ya xs xl; have ya := za0 Ba_5.out; have xs := Fa_5.out.atS HX.out; have xl := Fa_5.out.atL HY.out))
 refine zy1 (n := 10) (S := fun w' => w'.cell? ⟨ga, 0, none⟩ = some (.int .i64 r.each) ∧ w'.cell? ⟨ga, 1, none⟩ = some (.int .i64 r.guard) ∧ w'.cell? ⟨ga, 2, none⟩ = some (.slice Aa0 r.N.length ca0) ∧ w'.cell? ⟨ga, 3, none⟩ = some (.slice (some adSa) r.S.length ca1) ∧ w'.cell? ⟨ga, 4, none⟩ = some (.slice (some adLa) r.L.length ca2) ∧ w'.cell? ⟨ga, 5, none⟩ = some (.slice Aa3 r.d.w.length ca3) ∧ w'.cell? ⟨ga, 6, none⟩ = some (.slice Aa4 r.d.u.length ca4) ∧ w'.cell? ⟨ga, 7, none⟩ = some (.slice Aa5 r.d.a.length ca5) ∧ w'.cell? (adLa.add i) = some (.bool lv)) (ds := [8]) #[ff,ff,ff,ff,ff,ff,ff,ff,ff,ff] (by kernel_rfl) rfl rfl ⟨ya.1, ya.2.1, ya.2.2.1, ya.2.2.2.1, ya.2.2.2.2.1, ya.2.2.2.2.2.1, ya.2.2.2.2.2.2.1, ya.2.2.2.2.2.2.2.1, xl⟩ (fun hHeld => ?_); refine zc1 rw27.tab10 (fun HT_ => ?_)
 obtain ⟨w6, hw_⟩ : ∃ W, W = w5.drew := ⟨_, rfl⟩
 rw [← hw_] at hHeld ⊢
 have hb : Below w5.heap.size w5 w6 := by rw [hw_]; exact z50 (Below.refl _ _)
 have Ba_6 := as0 (z20 Ba_5.out hb)
 have Bz_6 := as0 (z20 Bz_5.out hb)
 have Fa_6 := as0 (Fa_5.out.below hb)
 have HB_6 := as0 (z10 HB_5.out hb)
 clear hb hw_
 clear ya xs xl
 have ya := za0 Ba_6.out
 have xs := Fa_6.out.atS HX.out
 have xl := Fa_6.out.atL HY.out
 refine zl0 (i := 1) (N := some 33) (v := ?_) (a' := ?_) #[ff,tt,ff,ff,ff,ff,ff,ff,ff,ff] rfl rfl (zh0 HT_.out (by kernel_rfl)) (fun _ _ _ h => h) (Or.inl ⟨by rfl, ?_⟩) ?_ ?_
 rotate_left
 ·intro w'
  go_simp
  with_reducible rfl
 rotate_left
 ·simp only [Act.put, lSI, lS0, lS1, ze0, zd0]
  rfl
 refine zl0 (i := 2) (N := some 34) (v := ?_) (a' := ?_) #[ff,tt,tt,ff,ff,ff,ff,ff,ff,ff] rfl rfl (zh0 HT_.out (by kernel_rfl)) (fun _ _ _ h => h) (Or.inl ⟨by rfl, ?_⟩) ?_ ?_
 rotate_left
 ·intro w'
  go_simp
  with_reducible rfl
 rotate_left
 ·simp only [Act.put, lSI, lS0, lS1, ze0, zd0]
  rfl
 refine zl0 (i := 4) (N := some 36) (v := ?_) (a' := ?_) #[ff,tt,tt,ff,tt,ff,ff,ff,ff,ff] rfl rfl (zh0 HT_.out (by kernel_rfl)) (fun _ _ _ h => h) (Or.inl ⟨by rfl, ?_⟩) ?_ ?_
 rotate_left
 ·intro w'
  go_simp
  with_reducible rfl
 rotate_left
 ·simp only [Act.put, lSI, lS0, lS1, ze0, zd0]
  rfl
 refine take_ (i := 0) (N := some 32) (v := ?_) (a' := ?_) #[tt,tt,tt,ff,tt,ff,ff,ff,ff,ff] rfl rfl (zp0 HT_.out (by kernel_rfl)) (fun _ _ _ h => h) (Or.inl ⟨by rfl, ?_⟩) hHeld ?_ ?_
 rotate_left
 ·intro w' hS_
  obtain ⟨s0, s1, s2, s3, s4, s5, s6, s7, s8⟩ := hS_
  go_simp
  with_reducible rfl
 rotate_left
 ·simp only [Act.put, lSI, lS0, lS1, ze0, zd0]
  rfl
 refine take_ (i := 3) (N := some 35) (v := ?_) (a' := ?_) #[tt,tt,tt,tt,tt,ff,ff,ff,ff,ff] rfl rfl (zp0 HT_.out (by kernel_rfl)) (fun _ _ _ h => h) (Or.inl ⟨by rfl, ?_⟩) hHeld ?_ ?_
 rotate_left
 ·intro w' hS_
  obtain ⟨s0, s1, s2, s3, s4, s5, s6, s7, s8⟩ := hS_
  go_simp
  with_reducible rfl
 rotate_left
 ·simp only [Act.put, lSI, lS0, lS1, ze0, zd0]
  rfl
 refine zl0 (i := 5) (N := some 37) (v := ?_) (a' := ?_) #[tt,tt,tt,tt,tt,tt,ff,ff,ff,ff] rfl rfl (zh0 HT_.out (by kernel_rfl)) (fun _ _ _ h => h) (Or.inl ⟨by rfl, ?_⟩) ?_ ?_
 rotate_left
 ·intro w'
  go_simp
  with_reducible rfl
 rotate_left
 ·simp only [Act.put, lSI, lS0, lS1, ze0, zd0]
  rfl
 refine take_ (i := 6) (N := some 38) (v := ?_) (a' := ?_) #[tt,tt,tt,tt,tt,tt,tt,ff,ff,ff] rfl rfl (zp0 HT_.out (by kernel_rfl)) (fun _ _ _ h => h) (Or.inl ⟨by rfl, ?_⟩) hHeld ?_ ?_
 rotate_left
 ·intro w' hS_
  obtain ⟨s0, s1, s2, s3, s4, s5, s6, s7, s8⟩ := hS_
  go_simp
  with_reducible rfl
 rotate_left
 ·simp only [Act.put, lSI, lS0, lS1, ze0, zd0]
  rfl
 refine zx2 (i := 7) (N := some 39) #[tt,tt,tt,tt,tt,tt,tt,tt,ff,ff] rfl rfl (z21 HT_.out (by kernel_rfl)) (by decide) (fun K hK => ?_)
 refine z02 Tryz.func64 (by kernel_rfl) rfl #[.agg #[.int .i64 r.each, .int .i64 r.guard, .slice Aa0 r.N.length ca0, .slice (some adSa) r.S.length ca1, .slice (some adLa) r.L.length ca2, .slice Aa3 r.d.w.length ca3, .slice Aa4 r.d.u.length ca4, .slice Aa5 r.d.a.length ca5], .int .i64 (i : Int), .int .i64 2, .bool lv] (by rfl) rfl rfl (by (try simp only [List.map_toArray, List.map_cons, List.map_nil]); first | done | rfl) ?_
 refine (HP.out _ _ Fa_6.out (zf1 HBB.out HB_6.out.size)).mono ?_
 rintro e w7 ⟨vs_, rfl, hF_, hb⟩
 obtain ⟨Ab0, cb0, Ab1, cb1, Ab2, cb2, Ab3, cb3, Ab4, cb4, Ab5, cb5, rfl⟩ := hF_.form
 have Ba_7 := as0 (z20 Ba_6.out hb)
 have Bz_7 := as0 (z20 Bz_6.out hb)
 have Fa_7 := as0 (Fa_6.out.below hb)
 have HB_7 := as0 (z10 HB_6.out hb)
 have Fb_7 := as0 hF_
 clear hb hF_
 clear ya xs xl
 have ya := za0 Ba_7.out
 have xs := Fa_7.out.atS HX.out
 have xl := Fa_7.out.atL HY.out
 refine ⟨_, rfl, ?_⟩
 refine hK.out _ _ ⟨ya.1, ya.2.1, ya.2.2.1, ya.2.2.2.1, ya.2.2.2.2.1, ya.2.2.2.2.2.1, ya.2.2.2.2.2.2.1, ya.2.2.2.2.2.2.2.1, xl⟩ (fun hHeld => ?_)
 clear hK K
 refine zh1 (a' := ?_) ?_ ?_
 rotate_left
 ·show Act.put _ (some 39) _ = _
  simp only [Act.put, lSI, lS0, lS1, ze0, zd0]
  rfl
 refine z85 (i := 8) (N := none) #[tt,tt,tt,tt,tt,tt,tt,tt,tt,ff] rfl rfl (z21 HT_.out (by kernel_rfl)) (by decide) (fun K hK => ?_)
 have yz := za0 Bz_7.out
 refine put_ (w1 := ?_) (by rfl) rfl ?_ ?_
 rotate_left
 ·go_simp
  rfl
 refine hK.out _ _ ?_
 clear hK K
 refine zl0 (i := 9) (N := some 5) (v := ?_) (a' := ?_) #[tt,tt,tt,tt,tt,tt,tt,tt,tt,tt] rfl rfl (zh0 HT_.out (by kernel_rfl)) (fun _ _ _ h => h) (Or.inl ⟨by rfl, ?_⟩) ?_ ?_
 rotate_left
 ·intro w'
  go_simp
  with_reducible rfl
 rotate_left
 ·simp only [Act.put, lSI, lS0, lS1, ze0, zd0]
  rfl
 refine zr2 (zg1 HT_.out (by kernel_rfl)) ?_
 clear hHeld
 obtain ⟨w8, hw_⟩ : ∃ W, W = ((((((((w7.setCell ⟨gz, 0, none⟩ (.int .i64 r1.each)).setCell ⟨gz, 1, none⟩ (.int .i64 r1.guard)).setCell ⟨gz, 2, none⟩ (.slice Ab0 r1.N.length cb0)).setCell ⟨gz, 3, none⟩ (.slice Ab1 r1.S.length cb1)).setCell ⟨gz, 4, none⟩ (.slice Ab2 r1.L.length cb2)).setCell ⟨gz, 5, none⟩ (.slice Ab3 r1.d.w.length cb3)).setCell ⟨gz, 6, none⟩ (.slice Ab4 r1.d.u.length cb4)).setCell ⟨gz, 7, none⟩ (.slice Ab5 r1.d.a.length cb5)) := ⟨_, rfl⟩
 rw [← hw_]
 have Ba_8 := as0 (zg0 z30 hw_ NE_az.out Ba_7.out)
 have Bz_8 := as0 (zu0 (zi0 Bz_7.out) hw_)
 have Fa_8 := as0 (zk0 z30 hw_ Fa_7.out Bz_7.out (by decide))
 have Fb_8 := as0 (zk0 z30 hw_ Fb_7.out Bz_7.out (by decide))
 have HB_8 := as0 (zf0 (zb0 HB_7.out GE_z.out) hw_)
 clear hw_ yz
 clear ya xs xl
 have ya := za0 Ba_8.out
 have xs := Fa_8.out.atS HX.out
 have xl := Fa_8.out.atL HY.out
 repeat (first | go_values | go_skip | go_guarded | go_step | go_upon | go_in)
 refine bodyPost_ret (zn0 (p := 4) rfl _ _ gz 33 _ (0, 0) _ rfl Bz_8.out Tryz.underlying33 rfl (by kernel_rfl)) rfl ?_
 exact ⟨_, rfl, Fb_8.out, HB_8.out⟩
theorem zx7 (r : RF)
  (nm : ByteArray) (hs : nm.size ≤ 100)
  {vs : Value} (h : FR b w vs r) (hb : FrB b w.heap.size)
  {n : Nat} (hB : RB r n) (hn : n ≤ 800000)
  (ix : Int) (hi : idxOf r.N nm 0 = ix) (hneg : ix < 0) :
  Calls Tryz.prog 29 #[vs, .string nm] w fun e w' => ∃ vs', e = .returned (.tuple #[vs', .bool false]) ∧ FR b w' vs' r ∧ Below w.heap.size w w' := by
 have HAt := as0 (fun (W : World) (vs : Value) (h : FR b W vs r) => z61 nm r h)
 rw [hi] at HAt
 have hd : decide (ix < 0) = true := decide_eq_true hneg
 clear hB hn hs hi
 have HB_0 : Aside0 (Below w.heap.size w w) := ⟨Below.refl _ _⟩
 obtain ⟨Aa0, ca0, Aa1, ca1, Aa2, ca2, Aa3, ca3, Aa4, ca4, Aa5, ca5, rfl⟩ := h.form
 have Fa_0 := as0 h
 have HBB := as0 hb
 clear h hb
 go_enter Tryz.func29, Tryz.ntmps29
 go_wp2_with (first
  | ((with_reducible refine bx (N := 2) (cs := #[.int .i64 r.each, .int .i64 r.guard, .slice Aa0 r.N.length ca0, .slice Aa1 r.S.length ca1, .slice Aa2 r.L.length ca2, .slice Aa3 r.d.w.length ca3, .slice Aa4 r.d.u.length ca4, .slice Aa5 r.d.a.length ca5]) (t := 33) rfl rfl ?hr ?_); (case hr => first | (go_simp; done) | (go_simp; rfl)); intro ga hg w1 hbox hb; have Fa_1 := as0 (Fa_0.out.below hb); have HB_1 := as0 (z10 HB_0.out hb); have Ba_1 := as0 hbox; have GE_a := as0 (show w.heap.size ≤ ga by rw [hg]; exact HB_0.out.size); clear hbox hb hg; have ya := za0 Ba_1.out)
  | ((with_reducible refine bx (N := 4) (cs := #[.int .i64 0, .int .i64 0, .slice none 0 0, .slice none 0 0, .slice none 0 0, .slice none 0 0, .slice none 0 0, .slice none 0 0]) (t := 33) rfl rfl ?hr ?_); (case hr => first | (go_simp; done) | (go_simp; rfl)); intro gz hg w2 hbox hb; have Ba_2 := as0 (z20 Ba_1.out hb); have Fa_2 := as0 (Fa_1.out.below hb); have HB_2 := as0 (z10 HB_1.out hb); have Bz_2 := as0 hbox; have GE_z := as0 (show w.heap.size ≤ gz by rw [hg]; exact HB_1.out.size); have NE_az := as0 (show ga ≠ gz by rw [hg]; exact Nat.ne_of_lt (z70 Ba_1.out)); clear hbox hb hg; clear ya; have ya := za0 Ba_2.out)
  | (go_at_call 41; (with_reducible refine (HAt.out _ _ Fa_2.out).mono ?_); rintro e w3 ⟨rfl, hb⟩; have Ba_3 := as0 (z20 Ba_2.out hb); have Bz_3 := as0 (z20 Bz_2.out hb); have Fa_3 := as0 (Fa_2.out.below hb); have HB_3 := as0 (z10 HB_2.out hb); clear hb; clear ya; have ya := za0 Ba_3.out)
  | (have yz := za0 Bz_3.out; (with_reducible refine sx (W := w3) (t := 33) (p := 4) (w1 := set8 w3 gz (.int .i64 r.each) (.int .i64 r.guard) (.slice Aa0 r.N.length ca0) (.slice Aa1 r.S.length ca1) (.slice Aa2 r.L.length ca2) (.slice Aa3 r.d.w.length ca3) (.slice Aa4 r.d.u.length ca4) (.slice Aa5 r.d.a.length ca5)) rfl rfl rfl ?hr ?_); (case hr => first | (go_simp; done) | (go_simp; rfl)); intro w4 hw_; have Ba_4 := as0 (zg0 z30 hw_ NE_az.out Ba_3.out); have Bz_4 := as0 (zu0 (zi0 Bz_3.out) hw_); have Fa_4 := as0 (zk0 z30 hw_ Fa_3.out Bz_3.out (by decide)); have HB_4 := as0 (zf0 (zb0 HB_3.out GE_z.out) hw_); clear hw_ yz; clear ya; have ya := za0 Ba_4.out; (repeat (first | go_values | go_skip | go_guarded | go_step | go_upon | go_in)); refine bodyPost_ret (zn0 (p := 4) rfl _ _ gz 33 _ (0, 0) _ rfl Bz_4.out Tryz.underlying33 rfl (by kernel_rfl)) rfl ?_; exact ⟨_, rfl, Fa_4.out, HB_4.out⟩))
theorem rprobe_0 (r : RF)
  (nm : ByteArray) (hs : nm.size ≤ 100)
  {vs : Value} (h : FR b w vs r) (hb : FrB b w.heap.size)
  {n : Nat} (hB : RB r n) (hn : n ≤ 800000)
  (i : Nat) (hi : idxOf r.N nm 0 = (i : Int)) (hil : i < r.N.length)
  (st : Int) (hx : r.S[i]? = some st)
  (h2 : st ≠ 2) :
  Calls Tryz.prog 29 #[vs, .string nm] w fun e w' => ∃ vs', e = .returned (.tuple #[vs', .bool false]) ∧ FR b w' vs' r ∧ Below w.heap.size w w' := by
 have HAt := as0 (fun (W : World) (vs : Value) (h : FR b W vs r) => z61 nm r h)
 rw [hi] at HAt
 have HX := as0 hx
 have hiI : (i : Int) < (r.S.length : Int) := by have := hB.s; omega
 have hi0 : (0 : Int) ≤ (i : Int) := by omega
 have hng : decide ((i : Int) < 0) = false := decide_eq_false (by omega)
 have hd2 : (st != 2) = true := by simp [h2]
 clear hB hn hs hi hil hx h2
 have HB_0 : Aside0 (Below w.heap.size w w) := ⟨Below.refl _ _⟩
 obtain ⟨Aa0, ca0, Aa1, ca1, Aa2, ca2, Aa3, ca3, Aa4, ca4, Aa5, ca5, rfl⟩ := h.form
 obtain ⟨adSa, hA_, -⟩ := h.adS HX.out
 subst hA_
 have Fa_0 := as0 h
 have HBB := as0 hb
 clear h hb
 go_enter Tryz.func29, Tryz.ntmps29
 go_wp2_with (first
  | ((with_reducible refine bx (N := 2) (cs := #[.int .i64 r.each, .int .i64 r.guard, .slice Aa0 r.N.length ca0, .slice (some adSa) r.S.length ca1, .slice Aa2 r.L.length ca2, .slice Aa3 r.d.w.length ca3, .slice Aa4 r.d.u.length ca4, .slice Aa5 r.d.a.length ca5]) (t := 33) rfl rfl ?hr ?_); (case hr => first | (go_simp; done) | (go_simp; rfl)); intro ga hg w1 hbox hb; have Fa_1 := as0 (Fa_0.out.below hb); have HB_1 := as0 (z10 HB_0.out hb); have Ba_1 := as0 hbox; have GE_a := as0 (show w.heap.size ≤ ga by rw [hg]; exact HB_0.out.size); clear hbox hb hg; have ya := za0 Ba_1.out; have xs := Fa_1.out.atS HX.out)
  | ((with_reducible refine bx (N := 4) (cs := #[.int .i64 0, .int .i64 0, .slice none 0 0, .slice none 0 0, .slice none 0 0, .slice none 0 0, .slice none 0 0, .slice none 0 0]) (t := 33) rfl rfl ?hr ?_); (case hr => first | (go_simp; done) | (go_simp; rfl)); intro gz hg w2 hbox hb; have Ba_2 := as0 (z20 Ba_1.out hb); have Fa_2 := as0 (Fa_1.out.below hb); have HB_2 := as0 (z10 HB_1.out hb); have Bz_2 := as0 hbox; have GE_z := as0 (show w.heap.size ≤ gz by rw [hg]; exact HB_1.out.size); have NE_az := as0 (show ga ≠ gz by rw [hg]; exact Nat.ne_of_lt (z70 Ba_1.out)); clear hbox hb hg; clear ya xs; have ya := za0 Ba_2.out; have xs := Fa_2.out.atS HX.out)
  | (go_at_call 41; (with_reducible refine (HAt.out _ _ Fa_2.out).mono ?_); rintro e w3 ⟨rfl, hb⟩; have Ba_3 := as0 (z20 Ba_2.out hb); have Bz_3 := as0 (z20 Bz_2.out hb); have Fa_3 := as0 (Fa_2.out.below hb); have HB_3 := as0 (z10 HB_2.out hb); clear hb; clear ya xs; have ya := za0 Ba_3.out; have xs := Fa_3.out.atS HX.out)
  | (have yz := za0 Bz_3.out; (with_reducible refine sx (W := w3) (t := 33) (p := 4) (w1 := set8 w3 gz (.int .i64 r.each) (.int .i64 r.guard) (.slice Aa0 r.N.length ca0) (.slice (some adSa) r.S.length ca1) (.slice Aa2 r.L.length ca2) (.slice Aa3 r.d.w.length ca3) (.slice Aa4 r.d.u.length ca4) (.slice Aa5 r.d.a.length ca5)) rfl rfl rfl ?hr ?_); (case hr => first | (go_simp; done) | (go_simp; rfl)); intro w4 hw_; have Ba_4 := as0 (zg0 z30 hw_ NE_az.out Ba_3.out); have Bz_4 := as0 (zu0 (zi0 Bz_3.out) hw_); have Fa_4 := as0 (zk0 z30 hw_ Fa_3.out Bz_3.out (by decide)); have HB_4 := as0 (zf0 (zb0 HB_3.out GE_z.out) hw_); clear hw_ yz; clear ya xs; have ya := za0 Ba_4.out; have xs := Fa_4.out.atS HX.out; (repeat (first | go_values | go_skip | go_guarded | go_step | go_upon | go_in)); refine bodyPost_ret (zn0 (p := 4) rfl _ _ gz 33 _ (0, 0) _ rfl Bz_4.out Tryz.underlying33 rfl (by kernel_rfl)) rfl ?_; exact ⟨_, rfl, Fa_4.out, HB_4.out⟩))
theorem rprobe_1 (r : RF)
  (nm : ByteArray) (hs : nm.size ≤ 100)
  {vs : Value} (h : FR b w vs r) (hb : FrB b w.heap.size)
  {n : Nat} (hB : RB r n) (hn : n ≤ 800000)
  (i : Nat) (hi : idxOf r.N nm 0 = (i : Int)) (hil : i < r.N.length)
  (hx : r.S[i]? = some 2)
  (lv : Bool) (hy : r.L[i]? = some lv)
  (r1 : RF) (h1 : r1 = putR i 0 lv r) :
  Calls Tryz.prog 29 #[vs, .string nm] w fun e w' => ∃ vs', e = .returned (.tuple #[vs', .bool true]) ∧ FR b w' vs' r1 ∧ Below w.heap.size w w' := by
 have HAt := as0 (fun (W : World) (vs : Value) (h : FR b W vs r) => z61 nm r h)
 rw [hi] at HAt
 have HX := as0 hx
 have hiI : (i : Int) < (r.S.length : Int) := by have := hB.s; omega
 have HY := as0 hy
 have hiL : (i : Int) < (r.L.length : Int) := by have := hB.l; omega
 have hi0 : (0 : Int) ≤ (i : Int) := by omega
 have hng : decide ((i : Int) < 0) = false := decide_eq_false (by omega)
 have HP := as0 (fun (W : World) (vs : Value) (h : FR b W vs r) (hbW : FrB b W.heap.size) => z03 i 0 lv h hB (by omega) hil hbW)
 rw [← h1] at HP
 clear hB hn hs hi hil hx hy h1
 have HB_0 : Aside0 (Below w.heap.size w w) := ⟨Below.refl _ _⟩
 obtain ⟨Aa0, ca0, Aa1, ca1, Aa2, ca2, Aa3, ca3, Aa4, ca4, Aa5, ca5, rfl⟩ := h.form
 obtain ⟨adSa, hA_, -⟩ := h.adS HX.out
 subst hA_
 obtain ⟨adLa, hA_, -⟩ := h.adL HY.out
 subst hA_
 have Fa_0 := as0 h
 have HBB := as0 hb
 clear h hb
 go_enter Tryz.func29, Tryz.ntmps29
 go_upto_region 4 with (first
  | ((with_reducible refine bx (N := 2) (cs := #[.int .i64 r.each, .int .i64 r.guard, .slice Aa0 r.N.length ca0, .slice (some adSa) r.S.length ca1, .slice (some adLa) r.L.length ca2, .slice Aa3 r.d.w.length ca3, .slice Aa4 r.d.u.length ca4, .slice Aa5 r.d.a.length ca5]) (t := 33) rfl rfl ?hr ?_); (case hr => first | (go_simp; done) | (go_simp; rfl)); intro ga hg w1 hbox hb; have Fa_1 := as0 (Fa_0.out.below hb); have HB_1 := as0 (z10 HB_0.out hb); have Ba_1 := as0 hbox; have GE_a := as0 (show w.heap.size ≤ ga by rw [hg]; exact HB_0.out.size); clear hbox hb hg; have ya := za0 Ba_1.out; have xs := Fa_1.out.atS HX.out; have xl := Fa_1.out.atL HY.out)
  | ((with_reducible refine bx (N := 4) (cs := #[.int .i64 0, .int .i64 0, .slice none 0 0, .slice none 0 0, .slice none 0 0, .slice none 0 0, .slice none 0 0, .slice none 0 0]) (t := 33) rfl rfl ?hr ?_); (case hr => first | (go_simp; done) | (go_simp; rfl)); intro gz hg w2 hbox hb; have Ba_2 := as0 (z20 Ba_1.out hb); have Fa_2 := as0 (Fa_1.out.below hb); have HB_2 := as0 (z10 HB_1.out hb); have Bz_2 := as0 hbox; have GE_z := as0 (show w.heap.size ≤ gz by rw [hg]; exact HB_1.out.size); have NE_az := as0 (show ga ≠ gz by rw [hg]; exact Nat.ne_of_lt (z70 Ba_1.out)); clear hbox hb hg; clear ya xs xl; have ya := za0 Ba_2.out; have xs := Fa_2.out.atS HX.out; have xl := Fa_2.out.atL HY.out)
  | (go_at_call 41; (with_reducible refine (HAt.out _ _ Fa_2.out).mono ?_); rintro e w3 ⟨rfl, hb⟩; have Ba_3 := as0 (z20 Ba_2.out hb); have Bz_3 := as0 (z20 Bz_2.out hb); have Fa_3 := as0 (Fa_2.out.below hb); have HB_3 := as0 (z10 HB_2.out hb); clear hb; clear ya xs xl; have ya := za0 Ba_3.out; have xs := Fa_3.out.atS HX.out; have xl := Fa_3.out.atL HY.out))
 refine zy1 (n := 10) (S := fun w' => w'.cell? ⟨ga, 0, none⟩ = some (.int .i64 r.each) ∧ w'.cell? ⟨ga, 1, none⟩ = some (.int .i64 r.guard) ∧ w'.cell? ⟨ga, 2, none⟩ = some (.slice Aa0 r.N.length ca0) ∧ w'.cell? ⟨ga, 3, none⟩ = some (.slice (some adSa) r.S.length ca1) ∧ w'.cell? ⟨ga, 4, none⟩ = some (.slice (some adLa) r.L.length ca2) ∧ w'.cell? ⟨ga, 5, none⟩ = some (.slice Aa3 r.d.w.length ca3) ∧ w'.cell? ⟨ga, 6, none⟩ = some (.slice Aa4 r.d.u.length ca4) ∧ w'.cell? ⟨ga, 7, none⟩ = some (.slice Aa5 r.d.a.length ca5) ∧ w'.cell? (adLa.add i) = some (.bool lv)) (ds := [8]) #[ff,ff,ff,ff,ff,ff,ff,ff,ff,ff] (by kernel_rfl) rfl rfl ⟨ya.1, ya.2.1, ya.2.2.1, ya.2.2.2.1, ya.2.2.2.2.1, ya.2.2.2.2.2.1, ya.2.2.2.2.2.2.1, ya.2.2.2.2.2.2.2.1, xl⟩ (fun hHeld => ?_); refine zc1 rw29.tab4 (fun HT_ => ?_)
 obtain ⟨w4, hw_⟩ : ∃ W, W = w3.drew := ⟨_, rfl⟩
 rw [← hw_] at hHeld ⊢
 have hb : Below w3.heap.size w3 w4 := by rw [hw_]; exact z50 (Below.refl _ _)
 have Ba_4 := as0 (z20 Ba_3.out hb)
 have Bz_4 := as0 (z20 Bz_3.out hb)
 have Fa_4 := as0 (Fa_3.out.below hb)
 have HB_4 := as0 (z10 HB_3.out hb)
 clear hb hw_
 clear ya xs xl
 have ya := za0 Ba_4.out
 have xs := Fa_4.out.atS HX.out
 have xl := Fa_4.out.atL HY.out
 refine zl0 (i := 1) (N := some 22) (v := ?_) (a' := ?_) #[ff,tt,ff,ff,ff,ff,ff,ff,ff,ff] rfl rfl (zh0 HT_.out (by kernel_rfl)) (fun _ _ _ h => h) (Or.inl ⟨by rfl, ?_⟩) ?_ ?_
 rotate_left
 ·intro w'
  go_simp
  with_reducible rfl
 rotate_left
 ·simp only [Act.put, lSI, lS0, lS1, ze0, zd0]
  rfl
 refine zl0 (i := 2) (N := some 23) (v := ?_) (a' := ?_) #[ff,tt,tt,ff,ff,ff,ff,ff,ff,ff] rfl rfl (zh0 HT_.out (by kernel_rfl)) (fun _ _ _ h => h) (Or.inl ⟨by rfl, ?_⟩) ?_ ?_
 rotate_left
 ·intro w'
  go_simp
  with_reducible rfl
 rotate_left
 ·simp only [Act.put, lSI, lS0, lS1, ze0, zd0]
  rfl
 refine zl0 (i := 4) (N := some 25) (v := ?_) (a' := ?_) #[ff,tt,tt,ff,tt,ff,ff,ff,ff,ff] rfl rfl (zh0 HT_.out (by kernel_rfl)) (fun _ _ _ h => h) (Or.inl ⟨by rfl, ?_⟩) ?_ ?_
 rotate_left
 ·intro w'
  go_simp
  with_reducible rfl
 rotate_left
 ·simp only [Act.put, lSI, lS0, lS1, ze0, zd0]
  rfl
 refine take_ (i := 0) (N := some 21) (v := ?_) (a' := ?_) #[tt,tt,tt,ff,tt,ff,ff,ff,ff,ff] rfl rfl (zp0 HT_.out (by kernel_rfl)) (fun _ _ _ h => h) (Or.inl ⟨by rfl, ?_⟩) hHeld ?_ ?_
 rotate_left
 ·intro w' hS_
  obtain ⟨s0, s1, s2, s3, s4, s5, s6, s7, s8⟩ := hS_
  go_simp
  with_reducible rfl
 rotate_left
 ·simp only [Act.put, lSI, lS0, lS1, ze0, zd0]
  rfl
 refine take_ (i := 3) (N := some 24) (v := ?_) (a' := ?_) #[tt,tt,tt,tt,tt,ff,ff,ff,ff,ff] rfl rfl (zp0 HT_.out (by kernel_rfl)) (fun _ _ _ h => h) (Or.inl ⟨by rfl, ?_⟩) hHeld ?_ ?_
 rotate_left
 ·intro w' hS_
  obtain ⟨s0, s1, s2, s3, s4, s5, s6, s7, s8⟩ := hS_
  go_simp
  with_reducible rfl
 rotate_left
 ·simp only [Act.put, lSI, lS0, lS1, ze0, zd0]
  rfl
 refine zl0 (i := 5) (N := some 26) (v := ?_) (a' := ?_) #[tt,tt,tt,tt,tt,tt,ff,ff,ff,ff] rfl rfl (zh0 HT_.out (by kernel_rfl)) (fun _ _ _ h => h) (Or.inl ⟨by rfl, ?_⟩) ?_ ?_
 rotate_left
 ·intro w'
  go_simp
  with_reducible rfl
 rotate_left
 ·simp only [Act.put, lSI, lS0, lS1, ze0, zd0]
  rfl
 refine take_ (i := 6) (N := some 27) (v := ?_) (a' := ?_) #[tt,tt,tt,tt,tt,tt,tt,ff,ff,ff] rfl rfl (zp0 HT_.out (by kernel_rfl)) (fun _ _ _ h => h) (Or.inl ⟨by rfl, ?_⟩) hHeld ?_ ?_
 rotate_left
 ·intro w' hS_
  obtain ⟨s0, s1, s2, s3, s4, s5, s6, s7, s8⟩ := hS_
  go_simp
  with_reducible rfl
 rotate_left
 ·simp only [Act.put, lSI, lS0, lS1, ze0, zd0]
  rfl
 refine zx2 (i := 7) (N := some 28) #[tt,tt,tt,tt,tt,tt,tt,tt,ff,ff] rfl rfl (z21 HT_.out (by kernel_rfl)) (by decide) (fun K hK => ?_)
 refine z02 Tryz.func64 (by kernel_rfl) rfl #[.agg #[.int .i64 r.each, .int .i64 r.guard, .slice Aa0 r.N.length ca0, .slice (some adSa) r.S.length ca1, .slice (some adLa) r.L.length ca2, .slice Aa3 r.d.w.length ca3, .slice Aa4 r.d.u.length ca4, .slice Aa5 r.d.a.length ca5], .int .i64 (i : Int), .int .i64 0, .bool lv] (by rfl) rfl rfl (by (try simp only [List.map_toArray, List.map_cons, List.map_nil]); first | done | rfl) ?_
 refine (HP.out _ _ Fa_4.out (zf1 HBB.out HB_4.out.size)).mono ?_
 rintro e w5 ⟨vs_, rfl, hF_, hb⟩
 obtain ⟨Ab0, cb0, Ab1, cb1, Ab2, cb2, Ab3, cb3, Ab4, cb4, Ab5, cb5, rfl⟩ := hF_.form
 have Ba_5 := as0 (z20 Ba_4.out hb)
 have Bz_5 := as0 (z20 Bz_4.out hb)
 have Fa_5 := as0 (Fa_4.out.below hb)
 have HB_5 := as0 (z10 HB_4.out hb)
 have Fb_5 := as0 hF_
 clear hb hF_
 clear ya xs xl
 have ya := za0 Ba_5.out
 have xs := Fa_5.out.atS HX.out
 have xl := Fa_5.out.atL HY.out
 refine ⟨_, rfl, ?_⟩
 refine hK.out _ _ ⟨ya.1, ya.2.1, ya.2.2.1, ya.2.2.2.1, ya.2.2.2.2.1, ya.2.2.2.2.2.1, ya.2.2.2.2.2.2.1, ya.2.2.2.2.2.2.2.1, xl⟩ (fun hHeld => ?_)
 clear hK K
 refine zh1 (a' := ?_) ?_ ?_
 rotate_left
 ·show Act.put _ (some 28) _ = _
  simp only [Act.put, lSI, lS0, lS1, ze0, zd0]
  rfl
 refine z85 (i := 8) (N := none) #[tt,tt,tt,tt,tt,tt,tt,tt,tt,ff] rfl rfl (z21 HT_.out (by kernel_rfl)) (by decide) (fun K hK => ?_)
 have yz := za0 Bz_5.out
 refine put_ (w1 := ?_) (by rfl) rfl ?_ ?_
 rotate_left
 ·go_simp
  rfl
 refine hK.out _ _ ?_
 clear hK K
 refine zl0 (i := 9) (N := some 5) (v := ?_) (a' := ?_) #[tt,tt,tt,tt,tt,tt,tt,tt,tt,tt] rfl rfl (zh0 HT_.out (by kernel_rfl)) (fun _ _ _ h => h) (Or.inl ⟨by rfl, ?_⟩) ?_ ?_
 rotate_left
 ·intro w'
  go_simp
  with_reducible rfl
 rotate_left
 ·simp only [Act.put, lSI, lS0, lS1, ze0, zd0]
  rfl
 refine zr2 (zg1 HT_.out (by kernel_rfl)) ?_
 clear hHeld
 obtain ⟨w6, hw_⟩ : ∃ W, W = ((((((((w5.setCell ⟨gz, 0, none⟩ (.int .i64 r1.each)).setCell ⟨gz, 1, none⟩ (.int .i64 r1.guard)).setCell ⟨gz, 2, none⟩ (.slice Ab0 r1.N.length cb0)).setCell ⟨gz, 3, none⟩ (.slice Ab1 r1.S.length cb1)).setCell ⟨gz, 4, none⟩ (.slice Ab2 r1.L.length cb2)).setCell ⟨gz, 5, none⟩ (.slice Ab3 r1.d.w.length cb3)).setCell ⟨gz, 6, none⟩ (.slice Ab4 r1.d.u.length cb4)).setCell ⟨gz, 7, none⟩ (.slice Ab5 r1.d.a.length cb5)) := ⟨_, rfl⟩
 rw [← hw_]
 have Ba_6 := as0 (zg0 z30 hw_ NE_az.out Ba_5.out)
 have Bz_6 := as0 (zu0 (zi0 Bz_5.out) hw_)
 have Fa_6 := as0 (zk0 z30 hw_ Fa_5.out Bz_5.out (by decide))
 have Fb_6 := as0 (zk0 z30 hw_ Fb_5.out Bz_5.out (by decide))
 have HB_6 := as0 (zf0 (zb0 HB_5.out GE_z.out) hw_)
 clear hw_ yz
 clear ya xs xl
 have ya := za0 Ba_6.out
 have xs := Fa_6.out.atS HX.out
 have xl := Fa_6.out.atL HY.out
 repeat (first | go_values | go_skip | go_guarded | go_step | go_upon | go_in)
 refine bodyPost_ret (zn0 (p := 4) rfl _ _ gz 33 _ (0, 0) _ rfl Bz_6.out Tryz.underlying33 rfl (by kernel_rfl)) rfl ?_
 exact ⟨_, rfl, Fb_6.out, HB_6.out⟩
theorem z97 (r : RF)
  (nm : ByteArray) (hs : nm.size ≤ 100)
  {vs : Value} (h : FR b w vs r) (hb : FrB b w.heap.size)
  {n : Nat} (hB : RB r n) (hn : n ≤ 800000)
  (ix : Int) (hi : idxOf r.N nm 0 = ix) (hneg : ix < 0) :
  Calls Tryz.prog 30 #[vs, .string nm] w fun e w' => ∃ vs', e = .returned (.tuple #[vs', .bool false]) ∧ FR b w' vs' r ∧ Below w.heap.size w w' := by
 have HAt := as0 (fun (W : World) (vs : Value) (h : FR b W vs r) => z61 nm r h)
 rw [hi] at HAt
 have hd : decide (ix < 0) = true := decide_eq_true hneg
 clear hB hn hs hi
 have HB_0 : Aside0 (Below w.heap.size w w) := ⟨Below.refl _ _⟩
 obtain ⟨Aa0, ca0, Aa1, ca1, Aa2, ca2, Aa3, ca3, Aa4, ca4, Aa5, ca5, rfl⟩ := h.form
 have Fa_0 := as0 h
 have HBB := as0 hb
 clear h hb
 go_enter Tryz.func30, Tryz.ntmps30
 go_wp2_with (first
  | ((with_reducible refine bx (N := 2) (cs := #[.int .i64 r.each, .int .i64 r.guard, .slice Aa0 r.N.length ca0, .slice Aa1 r.S.length ca1, .slice Aa2 r.L.length ca2, .slice Aa3 r.d.w.length ca3, .slice Aa4 r.d.u.length ca4, .slice Aa5 r.d.a.length ca5]) (t := 33) rfl rfl ?hr ?_); (case hr => first | (go_simp; done) | (go_simp; rfl)); intro ga hg w1 hbox hb; have Fa_1 := as0 (Fa_0.out.below hb); have HB_1 := as0 (z10 HB_0.out hb); have Ba_1 := as0 hbox; have GE_a := as0 (show w.heap.size ≤ ga by rw [hg]; exact HB_0.out.size); clear hbox hb hg; have ya := za0 Ba_1.out)
  | ((with_reducible refine bx (N := 4) (cs := #[.int .i64 0, .int .i64 0, .slice none 0 0, .slice none 0 0, .slice none 0 0, .slice none 0 0, .slice none 0 0, .slice none 0 0]) (t := 33) rfl rfl ?hr ?_); (case hr => first | (go_simp; done) | (go_simp; rfl)); intro gz hg w2 hbox hb; have Ba_2 := as0 (z20 Ba_1.out hb); have Fa_2 := as0 (Fa_1.out.below hb); have HB_2 := as0 (z10 HB_1.out hb); have Bz_2 := as0 hbox; have GE_z := as0 (show w.heap.size ≤ gz by rw [hg]; exact HB_1.out.size); have NE_az := as0 (show ga ≠ gz by rw [hg]; exact Nat.ne_of_lt (z70 Ba_1.out)); clear hbox hb hg; clear ya; have ya := za0 Ba_2.out)
  | (go_at_call 41; (with_reducible refine (HAt.out _ _ Fa_2.out).mono ?_); rintro e w3 ⟨rfl, hb⟩; have Ba_3 := as0 (z20 Ba_2.out hb); have Bz_3 := as0 (z20 Bz_2.out hb); have Fa_3 := as0 (Fa_2.out.below hb); have HB_3 := as0 (z10 HB_2.out hb); clear hb; clear ya; have ya := za0 Ba_3.out)
  | (have yz := za0 Bz_3.out; (with_reducible refine sx (W := w3) (t := 33) (p := 4) (w1 := set8 w3 gz (.int .i64 r.each) (.int .i64 r.guard) (.slice Aa0 r.N.length ca0) (.slice Aa1 r.S.length ca1) (.slice Aa2 r.L.length ca2) (.slice Aa3 r.d.w.length ca3) (.slice Aa4 r.d.u.length ca4) (.slice Aa5 r.d.a.length ca5)) rfl rfl rfl ?hr ?_); (case hr => first | (go_simp; done) | (go_simp; rfl)); intro w4 hw_; have Ba_4 := as0 (zg0 z30 hw_ NE_az.out Ba_3.out); have Bz_4 := as0 (zu0 (zi0 Bz_3.out) hw_); have Fa_4 := as0 (zk0 z30 hw_ Fa_3.out Bz_3.out (by decide)); have HB_4 := as0 (zf0 (zb0 HB_3.out GE_z.out) hw_); clear hw_ yz; clear ya; have ya := za0 Ba_4.out; (repeat (first | go_values | go_skip | go_guarded | go_step | go_upon | go_in)); refine bodyPost_ret (zn0 (p := 4) rfl _ _ gz 33 _ (0, 0) _ rfl Bz_4.out Tryz.underlying33 rfl (by kernel_rfl)) rfl ?_; exact ⟨_, rfl, Fa_4.out, HB_4.out⟩))
theorem z0b (r : RF)
  (nm : ByteArray) (hs : nm.size ≤ 100)
  {vs : Value} (h : FR b w vs r) (hb : FrB b w.heap.size)
  {n : Nat} (hB : RB r n) (hn : n ≤ 800000)
  (i : Nat) (hi : idxOf r.N nm 0 = (i : Int)) (hil : i < r.N.length)
  (st : Int) (hx : r.S[i]? = some st)
  (h1 : st ≠ 1) :
  Calls Tryz.prog 30 #[vs, .string nm] w fun e w' => ∃ vs', e = .returned (.tuple #[vs', .bool false]) ∧ FR b w' vs' r ∧ Below w.heap.size w w' := by
 have HAt := as0 (fun (W : World) (vs : Value) (h : FR b W vs r) => z61 nm r h)
 rw [hi] at HAt
 have HX := as0 hx
 have hiI : (i : Int) < (r.S.length : Int) := by have := hB.s; omega
 have hi0 : (0 : Int) ≤ (i : Int) := by omega
 have hng : decide ((i : Int) < 0) = false := decide_eq_false (by omega)
 have hd2 : (st != 1) = true := by simp [h1]
 clear hB hn hs hi hil hx h1
 have HB_0 : Aside0 (Below w.heap.size w w) := ⟨Below.refl _ _⟩
 obtain ⟨Aa0, ca0, Aa1, ca1, Aa2, ca2, Aa3, ca3, Aa4, ca4, Aa5, ca5, rfl⟩ := h.form
 obtain ⟨adSa, hA_, -⟩ := h.adS HX.out
 subst hA_
 have Fa_0 := as0 h
 have HBB := as0 hb
 clear h hb
 go_enter Tryz.func30, Tryz.ntmps30
 go_wp2_with (first
  | ((with_reducible refine bx (N := 2) (cs := #[.int .i64 r.each, .int .i64 r.guard, .slice Aa0 r.N.length ca0, .slice (some adSa) r.S.length ca1, .slice Aa2 r.L.length ca2, .slice Aa3 r.d.w.length ca3, .slice Aa4 r.d.u.length ca4, .slice Aa5 r.d.a.length ca5]) (t := 33) rfl rfl ?hr ?_); (case hr => first | (go_simp; done) | (go_simp; rfl)); intro ga hg w1 hbox hb; have Fa_1 := as0 (Fa_0.out.below hb); have HB_1 := as0 (z10 HB_0.out hb); have Ba_1 := as0 hbox; have GE_a := as0 (show w.heap.size ≤ ga by rw [hg]; exact HB_0.out.size); clear hbox hb hg; have ya := za0 Ba_1.out; have xs := Fa_1.out.atS HX.out)
  | ((with_reducible refine bx (N := 4) (cs := #[.int .i64 0, .int .i64 0, .slice none 0 0, .slice none 0 0, .slice none 0 0, .slice none 0 0, .slice none 0 0, .slice none 0 0]) (t := 33) rfl rfl ?hr ?_); (case hr => first | (go_simp; done) | (go_simp; rfl)); intro gz hg w2 hbox hb; have Ba_2 := as0 (z20 Ba_1.out hb); have Fa_2 := as0 (Fa_1.out.below hb); have HB_2 := as0 (z10 HB_1.out hb); have Bz_2 := as0 hbox; have GE_z := as0 (show w.heap.size ≤ gz by rw [hg]; exact HB_1.out.size); have NE_az := as0 (show ga ≠ gz by rw [hg]; exact Nat.ne_of_lt (z70 Ba_1.out)); clear hbox hb hg; clear ya xs; have ya := za0 Ba_2.out; have xs := Fa_2.out.atS HX.out)
  | (go_at_call 41; (with_reducible refine (HAt.out _ _ Fa_2.out).mono ?_); rintro e w3 ⟨rfl, hb⟩; have Ba_3 := as0 (z20 Ba_2.out hb); have Bz_3 := as0 (z20 Bz_2.out hb); have Fa_3 := as0 (Fa_2.out.below hb); have HB_3 := as0 (z10 HB_2.out hb); clear hb; clear ya xs; have ya := za0 Ba_3.out; have xs := Fa_3.out.atS HX.out)
  | (have yz := za0 Bz_3.out; (with_reducible refine sx (W := w3) (t := 33) (p := 4) (w1 := set8 w3 gz (.int .i64 r.each) (.int .i64 r.guard) (.slice Aa0 r.N.length ca0) (.slice (some adSa) r.S.length ca1) (.slice Aa2 r.L.length ca2) (.slice Aa3 r.d.w.length ca3) (.slice Aa4 r.d.u.length ca4) (.slice Aa5 r.d.a.length ca5)) rfl rfl rfl ?hr ?_); (case hr => first | (go_simp; done) | (go_simp; rfl)); intro w4 hw_; have Ba_4 := as0 (zg0 z30 hw_ NE_az.out Ba_3.out); have Bz_4 := as0 (zu0 (zi0 Bz_3.out) hw_); have Fa_4 := as0 (zk0 z30 hw_ Fa_3.out Bz_3.out (by decide)); have HB_4 := as0 (zf0 (zb0 HB_3.out GE_z.out) hw_); clear hw_ yz; clear ya xs; have ya := za0 Ba_4.out; have xs := Fa_4.out.atS HX.out; (repeat (first | go_values | go_skip | go_guarded | go_step | go_upon | go_in)); refine bodyPost_ret (zn0 (p := 4) rfl _ _ gz 33 _ (0, 0) _ rfl Bz_4.out Tryz.underlying33 rfl (by kernel_rfl)) rfl ?_; exact ⟨_, rfl, Fa_4.out, HB_4.out⟩))
theorem rempty_0 (r : RF)
  (nm : ByteArray) (hs : nm.size ≤ 100)
  {vs : Value} (h : FR b w vs r) (hb : FrB b w.heap.size)
  {n : Nat} (hB : RB r n) (hn : n ≤ 800000)
  (i : Nat) (hi : idxOf r.N nm 0 = (i : Int)) (hil : i < r.N.length)
  (hx : r.S[i]? = some 1) (hy : r.L[i]? = some false)
  (r1 : RF) (h1 : r1 = endR nm r) (r2 : RF) (h2 : r2 = putR i 3 false r1) :
  Calls Tryz.prog 30 #[vs, .string nm] w fun e w' => ∃ vs', e = .returned (.tuple #[vs', .bool true]) ∧ FR b w' vs' r2 ∧ Below w.heap.size w w' := by
 have HAt := as0 (fun (W : World) (vs : Value) (h : FR b W vs r) => z61 nm r h)
 rw [hi] at HAt
 have HX := as0 hx
 have hiI : (i : Int) < (r.S.length : Int) := by have := hB.s; omega
 have hi0 : (0 : Int) ≤ (i : Int) := by omega
 have hng : decide ((i : Int) < 0) = false := decide_eq_false (by omega)
 have HE := as0 (fun (W : World) (vs : Value) (h : FR b W vs r) (hbW : FrB b W.heap.size) => zj3 nm h hB (by omega) hbW)
 rw [← h1] at HE
 have hB1 : RB r1 n := by rw [h1]; exact hB.end_ nm
 have HY := as0 (show r1.L[i]? = some false by rw [h1]; exact hy)
 have hil1 : i < r1.N.length := by rw [h1]; exact hil
 have hiL : (i : Int) < (r1.L.length : Int) := by have := hB1.l; omega
 have HC := as0 (fun (W : World) (vs : Value) (h : FR b W vs r1) (hbW : FrB b W.heap.size) => z03 i 3 false h hB1 (by omega) hil1 hbW)
 rw [← h2] at HC
 clear hB hn hs hi hil hx hy h1 h2 hB1 hil1
 have HB_0 : Aside0 (Below w.heap.size w w) := ⟨Below.refl _ _⟩
 obtain ⟨Aa0, ca0, Aa1, ca1, Aa2, ca2, Aa3, ca3, Aa4, ca4, Aa5, ca5, rfl⟩ := h.form
 obtain ⟨adSa, hA_, -⟩ := h.adS HX.out
 subst hA_
 have Fa_0 := as0 h
 have HBB := as0 hb
 clear h hb
 go_enter Tryz.func30, Tryz.ntmps30
 go_wp2_with (first
  | ((with_reducible refine bx (N := 2) (cs := #[.int .i64 r.each, .int .i64 r.guard, .slice Aa0 r.N.length ca0, .slice (some adSa) r.S.length ca1, .slice Aa2 r.L.length ca2, .slice Aa3 r.d.w.length ca3, .slice Aa4 r.d.u.length ca4, .slice Aa5 r.d.a.length ca5]) (t := 33) rfl rfl ?hr ?_); (case hr => first | (go_simp; done) | (go_simp; rfl)); intro ga hg w1 hbox hb; have Fa_1 := as0 (Fa_0.out.below hb); have HB_1 := as0 (z10 HB_0.out hb); have Ba_1 := as0 hbox; have GE_a := as0 (show w.heap.size ≤ ga by rw [hg]; exact HB_0.out.size); clear hbox hb hg; have ya := za0 Ba_1.out; have xs := Fa_1.out.atS HX.out)
  | ((with_reducible refine bx (N := 4) (cs := #[.int .i64 0, .int .i64 0, .slice none 0 0, .slice none 0 0, .slice none 0 0, .slice none 0 0, .slice none 0 0, .slice none 0 0]) (t := 33) rfl rfl ?hr ?_); (case hr => first | (go_simp; done) | (go_simp; rfl)); intro gz hg w2 hbox hb; have Ba_2 := as0 (z20 Ba_1.out hb); have Fa_2 := as0 (Fa_1.out.below hb); have HB_2 := as0 (z10 HB_1.out hb); have Bz_2 := as0 hbox; have GE_z := as0 (show w.heap.size ≤ gz by rw [hg]; exact HB_1.out.size); have NE_az := as0 (show ga ≠ gz by rw [hg]; exact Nat.ne_of_lt (z70 Ba_1.out)); clear hbox hb hg; clear ya xs; have ya := za0 Ba_2.out; have xs := Fa_2.out.atS HX.out)
  | (go_at_call 41; (with_reducible refine (HAt.out _ _ Fa_2.out).mono ?_); rintro e w3 ⟨rfl, hb⟩; have Ba_3 := as0 (z20 Ba_2.out hb); have Bz_3 := as0 (z20 Bz_2.out hb); have Fa_3 := as0 (Fa_2.out.below hb); have HB_3 := as0 (z10 HB_2.out hb); clear hb; clear ya xs; have ya := za0 Ba_3.out; have xs := Fa_3.out.atS HX.out)
  | (go_at_call 63; (with_reducible refine (HE.out _ _ Fa_3.out (zf1 HBB.out HB_3.out.size)).mono ?_); rintro e w4 ⟨vs_, rfl, hF_, hb⟩; obtain ⟨Ab0, cb0, Ab1, cb1, Ab2, cb2, Ab3, cb3, Ab4, cb4, Ab5, cb5, rfl⟩ := hF_.form; obtain ⟨adLb, hA_, -⟩ := hF_.adL HY.out; subst hA_; have Ba_4 := as0 (z20 Ba_3.out hb); have Bz_4 := as0 (z20 Bz_3.out hb); have Fa_4 := as0 (Fa_3.out.below hb); have HB_4 := as0 (z10 HB_3.out hb); have Fb_4 := as0 hF_; clear hb hF_; clear ya xs; have ya := za0 Ba_4.out; have xs := Fa_4.out.atS HX.out; have xl := Fb_4.out.atL HY.out)
  | ((with_reducible refine sx (W := w4) (t := 33) (p := 2) (w1 := set8 w4 ga (.int .i64 r1.each) (.int .i64 r1.guard) (.slice Ab0 r1.N.length cb0) (.slice Ab1 r1.S.length cb1) (.slice (some adLb) r1.L.length cb2) (.slice Ab3 r1.d.w.length cb3) (.slice Ab4 r1.d.u.length cb4) (.slice Ab5 r1.d.a.length cb5)) rfl rfl rfl ?hr ?_); (case hr => first | (go_simp; done) | (go_simp; rfl)); intro w5 hw_; have Ba_5 := as0 (zu0 (zi0 Ba_4.out) hw_); have Bz_5 := as0 (zg0 z30 hw_ NE_az.out.symm Bz_4.out); have Fa_5 := as0 (zk0 z30 hw_ Fa_4.out Ba_4.out (by decide)); have Fb_5 := as0 (zk0 z30 hw_ Fb_4.out Ba_4.out (by decide)); have HB_5 := as0 (zf0 (zb0 HB_4.out GE_a.out) hw_); clear hw_ ; clear ya xs xl; have ya := za0 Ba_5.out; have xs := Fa_5.out.atS HX.out; have xl := Fb_5.out.atL HY.out)
  | (go_at_call 64; (with_reducible refine (HC.out _ _ Fb_5.out (zf1 HBB.out HB_5.out.size)).mono ?_); rintro e w6 ⟨vs_, rfl, hF_, hb⟩; obtain ⟨Ac0, cc0, Ac1, cc1, Ac2, cc2, Ac3, cc3, Ac4, cc4, Ac5, cc5, rfl⟩ := hF_.form; have Ba_6 := as0 (z20 Ba_5.out hb); have Bz_6 := as0 (z20 Bz_5.out hb); have Fa_6 := as0 (Fa_5.out.below hb); have Fb_6 := as0 (Fb_5.out.below hb); have HB_6 := as0 (z10 HB_5.out hb); have Fc_6 := as0 hF_; clear hb hF_; clear ya xs xl; have ya := za0 Ba_6.out; have xs := Fa_6.out.atS HX.out; have xl := Fb_6.out.atL HY.out)
  | (have yz := za0 Bz_6.out; (with_reducible refine sx (W := w6) (t := 33) (p := 4) (w1 := set8 w6 gz (.int .i64 r2.each) (.int .i64 r2.guard) (.slice Ac0 r2.N.length cc0) (.slice Ac1 r2.S.length cc1) (.slice Ac2 r2.L.length cc2) (.slice Ac3 r2.d.w.length cc3) (.slice Ac4 r2.d.u.length cc4) (.slice Ac5 r2.d.a.length cc5)) rfl rfl rfl ?hr ?_); (case hr => first | (go_simp; done) | (go_simp; rfl)); intro w7 hw_; have Ba_7 := as0 (zg0 z30 hw_ NE_az.out Ba_6.out); have Bz_7 := as0 (zu0 (zi0 Bz_6.out) hw_); have Fa_7 := as0 (zk0 z30 hw_ Fa_6.out Bz_6.out (by decide)); have Fb_7 := as0 (zk0 z30 hw_ Fb_6.out Bz_6.out (by decide)); have Fc_7 := as0 (zk0 z30 hw_ Fc_6.out Bz_6.out (by decide)); have HB_7 := as0 (zf0 (zb0 HB_6.out GE_z.out) hw_); clear hw_ yz; clear ya xs xl; have ya := za0 Ba_7.out; have xs := Fa_7.out.atS HX.out; have xl := Fb_7.out.atL HY.out; (repeat (first | go_values | go_skip | go_guarded | go_step | go_upon | go_in)); refine bodyPost_ret (zn0 (p := 4) rfl _ _ gz 33 _ (0, 0) _ rfl Bz_7.out Tryz.underlying33 rfl (by kernel_rfl)) rfl ?_; exact ⟨_, rfl, Fc_7.out, HB_7.out⟩))
theorem rempty_1 (r : RF)
  (nm : ByteArray) (hs : nm.size ≤ 100)
  {vs : Value} (h : FR b w vs r) (hb : FrB b w.heap.size)
  {n : Nat} (hB : RB r n) (hn : n ≤ 800000)
  (i : Nat) (hi : idxOf r.N nm 0 = (i : Int)) (hil : i < r.N.length)
  (hx : r.S[i]? = some 1) (hy : r.L[i]? = some true)
  (r1 : RF) (h1 : r1 = endR nm r) (r2 : RF) (h2 : r2 = cutR i r1) :
  Calls Tryz.prog 30 #[vs, .string nm] w fun e w' => ∃ vs', e = .returned (.tuple #[vs', .bool true]) ∧ FR b w' vs' r2 ∧ Below w.heap.size w w' := by
 have HAt := as0 (fun (W : World) (vs : Value) (h : FR b W vs r) => z61 nm r h)
 rw [hi] at HAt
 have HX := as0 hx
 have hiI : (i : Int) < (r.S.length : Int) := by have := hB.s; omega
 have hi0 : (0 : Int) ≤ (i : Int) := by omega
 have hng : decide ((i : Int) < 0) = false := decide_eq_false (by omega)
 have HE := as0 (fun (W : World) (vs : Value) (h : FR b W vs r) (hbW : FrB b W.heap.size) => zj3 nm h hB (by omega) hbW)
 rw [← h1] at HE
 have hB1 : RB r1 n := by rw [h1]; exact hB.end_ nm
 have HY := as0 (show r1.L[i]? = some true by rw [h1]; exact hy)
 have hil1 : i < r1.N.length := by rw [h1]; exact hil
 have hiL : (i : Int) < (r1.L.length : Int) := by have := hB1.l; omega
 have HC := as0 (fun (W : World) (vs : Value) (h : FR b W vs r1) (hbW : FrB b W.heap.size) => zmc (i : Int) h hB1 (by omega) hbW)
 rw [← h2] at HC
 clear hB hn hs hi hil hx hy h1 h2 hB1 hil1
 have HB_0 : Aside0 (Below w.heap.size w w) := ⟨Below.refl _ _⟩
 obtain ⟨Aa0, ca0, Aa1, ca1, Aa2, ca2, Aa3, ca3, Aa4, ca4, Aa5, ca5, rfl⟩ := h.form
 obtain ⟨adSa, hA_, -⟩ := h.adS HX.out
 subst hA_
 have Fa_0 := as0 h
 have HBB := as0 hb
 clear h hb
 go_enter Tryz.func30, Tryz.ntmps30
 go_wp2_with (first
  | ((with_reducible refine bx (N := 2) (cs := #[.int .i64 r.each, .int .i64 r.guard, .slice Aa0 r.N.length ca0, .slice (some adSa) r.S.length ca1, .slice Aa2 r.L.length ca2, .slice Aa3 r.d.w.length ca3, .slice Aa4 r.d.u.length ca4, .slice Aa5 r.d.a.length ca5]) (t := 33) rfl rfl ?hr ?_); (case hr => first | (go_simp; done) | (go_simp; rfl)); intro ga hg w1 hbox hb; have Fa_1 := as0 (Fa_0.out.below hb); have HB_1 := as0 (z10 HB_0.out hb); have Ba_1 := as0 hbox; have GE_a := as0 (show w.heap.size ≤ ga by rw [hg]; exact HB_0.out.size); clear hbox hb hg; have ya := za0 Ba_1.out; have xs := Fa_1.out.atS HX.out)
  | ((with_reducible refine bx (N := 4) (cs := #[.int .i64 0, .int .i64 0, .slice none 0 0, .slice none 0 0, .slice none 0 0, .slice none 0 0, .slice none 0 0, .slice none 0 0]) (t := 33) rfl rfl ?hr ?_); (case hr => first | (go_simp; done) | (go_simp; rfl)); intro gz hg w2 hbox hb; have Ba_2 := as0 (z20 Ba_1.out hb); have Fa_2 := as0 (Fa_1.out.below hb); have HB_2 := as0 (z10 HB_1.out hb); have Bz_2 := as0 hbox; have GE_z := as0 (show w.heap.size ≤ gz by rw [hg]; exact HB_1.out.size); have NE_az := as0 (show ga ≠ gz by rw [hg]; exact Nat.ne_of_lt (z70 Ba_1.out)); clear hbox hb hg; clear ya xs; have ya := za0 Ba_2.out; have xs := Fa_2.out.atS HX.out)
  | (go_at_call 41; (with_reducible refine (HAt.out _ _ Fa_2.out).mono ?_); rintro e w3 ⟨rfl, hb⟩; have Ba_3 := as0 (z20 Ba_2.out hb); have Bz_3 := as0 (z20 Bz_2.out hb); have Fa_3 := as0 (Fa_2.out.below hb); have HB_3 := as0 (z10 HB_2.out hb); clear hb; clear ya xs; have ya := za0 Ba_3.out; have xs := Fa_3.out.atS HX.out)
  | (go_at_call 63; (with_reducible refine (HE.out _ _ Fa_3.out (zf1 HBB.out HB_3.out.size)).mono ?_); rintro e w4 ⟨vs_, rfl, hF_, hb⟩; obtain ⟨Ab0, cb0, Ab1, cb1, Ab2, cb2, Ab3, cb3, Ab4, cb4, Ab5, cb5, rfl⟩ := hF_.form; obtain ⟨adLb, hA_, -⟩ := hF_.adL HY.out; subst hA_; have Ba_4 := as0 (z20 Ba_3.out hb); have Bz_4 := as0 (z20 Bz_3.out hb); have Fa_4 := as0 (Fa_3.out.below hb); have HB_4 := as0 (z10 HB_3.out hb); have Fb_4 := as0 hF_; clear hb hF_; clear ya xs; have ya := za0 Ba_4.out; have xs := Fa_4.out.atS HX.out; have xl := Fb_4.out.atL HY.out)
  | ((with_reducible refine sx (W := w4) (t := 33) (p := 2) (w1 := set8 w4 ga (.int .i64 r1.each) (.int .i64 r1.guard) (.slice Ab0 r1.N.length cb0) (.slice Ab1 r1.S.length cb1) (.slice (some adLb) r1.L.length cb2) (.slice Ab3 r1.d.w.length cb3) (.slice Ab4 r1.d.u.length cb4) (.slice Ab5 r1.d.a.length cb5)) rfl rfl rfl ?hr ?_); (case hr => first | (go_simp; done) | (go_simp; rfl)); intro w5 hw_; have Ba_5 := as0 (zu0 (zi0 Ba_4.out) hw_); have Bz_5 := as0 (zg0 z30 hw_ NE_az.out.symm Bz_4.out); have Fa_5 := as0 (zk0 z30 hw_ Fa_4.out Ba_4.out (by decide)); have Fb_5 := as0 (zk0 z30 hw_ Fb_4.out Ba_4.out (by decide)); have HB_5 := as0 (zf0 (zb0 HB_4.out GE_a.out) hw_); clear hw_ ; clear ya xs xl; have ya := za0 Ba_5.out; have xs := Fa_5.out.atS HX.out; have xl := Fb_5.out.atL HY.out)
  | (go_at_call 61; (with_reducible refine (HC.out _ _ Fb_5.out (zf1 HBB.out HB_5.out.size)).mono ?_); rintro e w6 ⟨vs_, rfl, hF_, hb⟩; obtain ⟨Ac0, cc0, Ac1, cc1, Ac2, cc2, Ac3, cc3, Ac4, cc4, Ac5, cc5, rfl⟩ := hF_.form; have Ba_6 := as0 (z20 Ba_5.out hb); have Bz_6 := as0 (z20 Bz_5.out hb); have Fa_6 := as0 (Fa_5.out.below hb); have Fb_6 := as0 (Fb_5.out.below hb); have HB_6 := as0 (z10 HB_5.out hb); have Fc_6 := as0 hF_; clear hb hF_; clear ya xs xl; have ya := za0 Ba_6.out; have xs := Fa_6.out.atS HX.out; have xl := Fb_6.out.atL HY.out)
  | (have yz := za0 Bz_6.out; (with_reducible refine sx (W := w6) (t := 33) (p := 4) (w1 := set8 w6 gz (.int .i64 r2.each) (.int .i64 r2.guard) (.slice Ac0 r2.N.length cc0) (.slice Ac1 r2.S.length cc1) (.slice Ac2 r2.L.length cc2) (.slice Ac3 r2.d.w.length cc3) (.slice Ac4 r2.d.u.length cc4) (.slice Ac5 r2.d.a.length cc5)) rfl rfl rfl ?hr ?_); (case hr => first | (go_simp; done) | (go_simp; rfl)); intro w7 hw_; have Ba_7 := as0 (zg0 z30 hw_ NE_az.out Ba_6.out); have Bz_7 := as0 (zu0 (zi0 Bz_6.out) hw_); have Fa_7 := as0 (zk0 z30 hw_ Fa_6.out Bz_6.out (by decide)); have Fb_7 := as0 (zk0 z30 hw_ Fb_6.out Bz_6.out (by decide)); have Fc_7 := as0 (zk0 z30 hw_ Fc_6.out Bz_6.out (by decide)); have HB_7 := as0 (zf0 (zb0 HB_6.out GE_z.out) hw_); clear hw_ yz; clear ya xs xl; have ya := za0 Ba_7.out; have xs := Fa_7.out.atS HX.out; have xl := Fb_7.out.atL HY.out; (repeat (first | go_values | go_skip | go_guarded | go_step | go_upon | go_in)); refine bodyPost_ret (zn0 (p := 4) rfl _ _ gz 33 _ (0, 0) _ rfl Bz_7.out Tryz.underlying33 rfl (by kernel_rfl)) rfl ?_; exact ⟨_, rfl, Fc_7.out, HB_7.out⟩))
end
end
section
def toR (s : FS) : RF := ⟨s.each, s.guard, s.hs.map (·.nm), s.hs.map (·.st), s.hs.map (·.lv), rfOf s.ds⟩
theorem zp8 : ∀ (l : List ByteArray) (i : Nat) (nm : ByteArray) (j : Int), l.Nodup → l[i]? = some nm → idxOf l nm j = j + (i : Int)
 | [], i, nm, j, _, h => by simp at h
 | x :: l, 0, nm, j, _, h => by
  have : x = nm := by simpa using h
  subst this
  rw [idxOf, if_pos rfl]
  simp
 | x :: l, i + 1, nm, j, hn, h => by
  have h2 : l[i]? = some nm := by simpa using h
  obtain ⟨h3, h4⟩ := List.nodup_cons.1 hn
  have hne : ¬ nm.toList = x.toList := fun e => h3 (by rw [← z72.1 e]; exact List.mem_of_getElem? h2)
  rw [idxOf, if_neg hne, zp8 l i nm (j + 1) h4 h2]
  omega
structure GB (s : FS) (n : Nat) : Prop where
 ok : DOk s.ds n
 hl : s.hs.length ≤ n
 nd : (s.hs.map (·.nm)).Nodup
 gn : ∀ x ∈ s.hs, nameB x.nm = true
 e : s.each ≤ 1000
theorem idx_pos {hs : List HV} (hn : (hs.map (·.nm)).Nodup) (nm : ByteArray) : idxOf (hs.map (·.nm)) nm 0 = posH hs nm := by
 rcases za3 hs nm with ⟨h1, h2⟩ | ⟨i, x, h1, h2, rfl⟩
 ·rw [h1, zm4]
  intro hm
  obtain ⟨x, hx, e⟩ := List.mem_map.1 hm
  exact h2 x hx e
 ·rw [h1, zp8 _ i _ 0 hn (by simp [h2])]
  simp
theorem zx3 (hs : List HV) (nm : ByteArray) : (lookH hs nm = none ∧ posH hs nm = -1) ∨ ∃ (i : Nat) (x : HV), lookH hs nm = some x ∧ posH hs nm = (i : Int) ∧ hs[i]? = some x ∧ x.nm = nm := by
 rcases za3 hs nm with ⟨h1, h2⟩ | ⟨i, x, h1, h2, h3⟩
 ·exact .inl ⟨zj2 h1, h1⟩
 ·exact .inr ⟨i, x, zo1 h1 h2, h1, h2, h3⟩
theorem atsU_len (row : List S110) : (namesOf row true).length = (atsU row).length := by
 unfold namesOf atsU
 rw [List.length_map, List.length_map]
theorem zj6 (row : List S110) (u : Bool) : (namesOf row u).length ≤ row.length := by
 unfold namesOf
 rw [List.length_map]
 exact List.length_filter_le _ _
section
variable {s : FS} {n b : Nat} {nm : ByteArray} {i : Nat} {x : HV}
theorem toR_b (h1 : s.hs.length ≤ b) (h2 : s.ds.row.length ≤ b) : RB (toR s) b :=
 ⟨by simp [toR], by simp [toR], by simpa [toR] using h1, Nat.le_trans (zj6 _ _) h2, Nat.le_trans (zj6 _ _) h2, atsU_len _⟩
theorem GB.rb (h : GB s n) : RB (toR s) n := toR_b h.hl h.ok.inv.2.1
theorem GB.mono {m : Nat} (h : GB s n) (hm : n ≤ m) : GB s m := ⟨h.ok.mono hm, Nat.le_trans h.hl hm, h.nd, h.gn, h.e⟩
theorem GB.turn (h : GB s n) {d : DS} {m : Nat} (hm : n ≤ m) (hd : DOk d m) (hx : s.hs[i]? = some x) (st : Int) (lv : Bool) : GB { s with hs := s.hs.set i ⟨x.nm, st, lv⟩, ds := d } m := by
 refine ⟨hd, by simpa using Nat.le_trans h.hl hm, ?_, ?_, h.e⟩
 ·show ((s.hs.set i ⟨x.nm, st, lv⟩).map (·.nm)).Nodup
  have e : (s.hs.set i ⟨x.nm, st, lv⟩).map (·.nm) = s.hs.map (·.nm) := by
   rw [List.map_set]
   exact zf4 (by simp [hx])
  rw [e]
  exact h.nd
 ·intro y hy
  rcases List.mem_or_eq_of_mem_set hy with hy | rfl
  ·exact h.gn y hy
  ·exact h.gn x (List.mem_of_getElem? hx)
theorem GB.cut (h : GB s n) {d : DS} {m : Nat} (hm : n ≤ m) (hd : DOk d m) (i : Nat) : GB { s with hs := s.hs.eraseIdx i, ds := d } m := by
 refine ⟨hd, Nat.le_trans (by show (s.hs.eraseIdx i).length ≤ n; have := h.hl; rw [List.length_eraseIdx]; split <;> omega) hm, ?_, fun y hy => h.gn y (List.mem_of_mem_eraseIdx hy), h.e⟩
 exact h.nd.sublist ((List.eraseIdx_sublist _ _).map _)
theorem zz9 (hx : s.hs[i]? = some x) (st : Int) (lv : Bool) : (s.hs.set i ⟨x.nm, st, lv⟩).map (·.nm) = s.hs.map (·.nm) := by
 rw [List.map_set]
 exact zf4 (by simp [hx])
theorem zc2 (hx : s.hs[i]? = some x) (st : Int) (lv : Bool) : putR i st lv (toR s) = toR { s with hs := s.hs.set i ⟨x.nm, st, lv⟩ } := by
 unfold putR toR
 simp only [zz9 hx]
 simp only [List.map_set]
theorem zc3 (h : Inv s.ds b) (nm : ByteArray) : endR nm (toR s) = toR { s with ds := endF s.ds nm } := by
 unfold endR toR endF
 congr 1
 unfold rfOf refEnd
 simp only [zf3 nm s.ds.row h.1, zo4, zma]
theorem zr3 (h : Inv s.ds b) (hb : b ≤ 1000000000) (nm : ByteArray) (dl : Int) : beginR nm dl (toR s) = toR { s with ds := (beginF s.ds nm dl).2 } ∧ (refBegin (rfOf s.ds) nm dl).1 = (beginF s.ds nm dl).1 := by
 obtain ⟨s', h1, _, h3⟩ := zf7 h hb nm dl
 have he : drains_Drains_Begin.f s.ds nm dl = some ((beginF s.ds nm dl).1, (beginF s.ds nm dl).2) := by
  unfold drains_Drains_Begin.f beginF
  rw [if_pos (Nat.le_trans h.2.1 hb)]
  (repeat' split) <;> rfl
 rw [he] at h1
 injection h1 with h1
 injection h1 with h4 h5
 subst h5
 refine ⟨?_, h4.symm⟩
 unfold beginR toR
 simp only [h3]
theorem toR_ask (h : Inv s.ds b) (hb : b ≤ 1000000000) (nm : ByteArray) : refAsk (rfOf s.ds) nm = ((askF s.ds nm).1, rfOf (askF s.ds nm).2) := by
 obtain ⟨s', h1, _, h3⟩ := zia h hb nm
 have he : drains_Drains_Ask.f s.ds nm = some ((askF s.ds nm).1, (askF s.ds nm).2) := by
  unfold drains_Drains_Ask.f askF
  rw [if_pos (Nat.le_trans h.2.1 hb)]
  (repeat' split) <;> rfl
 rw [he] at h1
 injection h1 with h1
 injection h1 with h4 h5
 subst h5
 rw [h4, h3]
theorem ze5 {α : Type} (i : Nat) (l : List α) : ∀ k, k ≤ l.length → cutK (i : Int) l k = (l.take k).eraseIdx i
 | 0, _ => by simp [z33]
 | k + 1, hk => by
  have ih := ze5 i l k (by omega)
  have hlt : k < l.length := by omega
  have hl : (l.take k).length = k := by simp; omega
  rw [List.take_succ_eq_append_getElem hlt]
  by_cases c : k = i
  ·subst c
   rw [zt3 rfl, ih, List.eraseIdx_of_length_le (by omega), List.eraseIdx_append_of_length_le (by omega), hl]
   simp
  ·rw [z13 (by omega) (List.getElem?_eq_getElem hlt), ih]
   by_cases c2 : i < k
   ·rw [List.eraseIdx_append_of_lt_length (by omega)]
   ·rw [List.eraseIdx_of_length_le (by omega), List.eraseIdx_of_length_le (by simp; omega)]
theorem zi4 {α : Type} {i : Int} (hi : i < 0) (l : List α) : ∀ k, k ≤ l.length → cutK i l k = l.take k
 | 0, _ => by simp [z33]
 | k + 1, hk => by
  have hlt : k < l.length := by omega
  rw [z13 (by omega) (List.getElem?_eq_getElem hlt), zi4 hi l k (by omega), List.take_succ_eq_append_getElem hlt]
theorem z64 {α β : Type} (f : α → β) : ∀ (l : List α) (i : Nat), (l.map f).eraseIdx i = (l.eraseIdx i).map f
 | [], _ => rfl
 | x :: l, 0 => rfl
 | x :: l, i + 1 => by simp [z64 f l i]
theorem zs5 {α : Type} (i : Nat) (l : List α) {k : Nat} (hk : k = l.length) : cutK (i : Int) l k = l.eraseIdx i := by
 subst hk
 rw [ze5 i l _ (Nat.le_refl _), List.take_length]
theorem zb8 (i : Nat) : cutR (i : Int) (toR s) = toR { s with hs := s.hs.eraseIdx i } := by
 unfold cutR toR
 simp only [zs5 i (s.hs.map (·.nm)) (k := (s.hs.map (·.nm)).length) rfl, zs5 i (s.hs.map (·.st)) (k := (s.hs.map (·.nm)).length) (by simp), zs5 i (s.hs.map (·.lv)) (k := (s.hs.map (·.nm)).length) (by simp), z64]
theorem z63 {s : FS} (hx : s.hs[i]? = some x) : (toR s).N[i]? = some x.nm ∧ (toR s).S[i]? = some x.st ∧ (toR s).L[i]? = some x.lv ∧ i < (toR s).N.length := by
 have := (List.getElem?_eq_some_iff.1 hx).1
 exact ⟨by simp [toR, hx], by simp [toR, hx], by simp [toR, hx], by simpa [toR] using this⟩
theorem GB.at (h : GB s n) (nm : ByteArray) : idxOf (toR s).N nm 0 = posH s.hs nm := idx_pos h.nd nm
theorem GB.known (h : GB s n) (nm : ByteArray) : (if nameB nm = true then (if idxOf (toR s).N nm 0 < 0 then (5 : Int) else 0) else 11) = knownE s nm := by
 rw [h.at]
 rfl
theorem zj4 (s : FS) (nm : ByteArray) : knownE s nm ≠ 0 ∨ ∃ (i : Nat) (x : HV), knownE s nm = 0 ∧ posH s.hs nm = (i : Int) ∧ lookH s.hs nm = some x ∧ s.hs[i]? = some x ∧ x.nm = nm ∧ nameB nm = true := by
 unfold knownE
 by_cases c : nameB nm = true
 ·rw [if_pos c]
  rcases zx3 s.hs nm with ⟨_, h⟩ | ⟨i, x, h1, h2, h3, h4⟩
  ·rw [h]
   exact .inl (by decide)
  ·rw [h2, if_neg (by omega)]
   exact .inr ⟨i, x, rfl, rfl, h1, h3, h4, c⟩
 ·rw [if_neg c]
  exact .inl (by decide)
end
theorem zb7 (d : DS) {nm : ByteArray} (hn : nameB nm = true) {b : Nat} (h : DOk d b) (dl : Int) : (beginF (endF d nm) nm dl).1 = 0 := by
 obtain ⟨h1, h2, _⟩ := zs2 h nm
 unfold beginF
 rw [if_pos hn, if_pos ((zb1 nm _ 0 (by omega)).2 h2)]
end
section
section
variable {s : FS} {n : Nat} {b : Nat → Prop} {w : World} {vs : Value}
theorem rdrain_s (hG : GB s n) (hn : n ≤ 700000) (nm : ByteArray) (hs : nm.size ≤ 100) (h : FR b w vs (toR s)) (hb : FrB b w.heap.size) :
  Calls Tryz.prog 24 #[vs, .string nm] w fun e w' => ∃ vs', e = .returned (.tuple #[vs', .int .i64 (drainF s nm).1]) ∧ FR b w' vs' (toR (drainF s nm).2) ∧ Below w.heap.size w w' := by
 have hB := hG.rb
 unfold drainF
 rcases zj4 s nm with hk | ⟨i, x, hk, hp, hl, hx, rfl, hgood⟩
 ·rw [if_neg hk]
  exact zq9 (toR s) nm hs h hb hB (by omega) _ (hG.known nm) hk
 ·obtain ⟨x0, x1, x2, x3⟩ := z63 hx
  have hki := (hG.known x.nm).trans hk
  have hii := (hG.at x.nm).trans hp
  rw [if_pos hk, hl]
  dsimp only
  by_cases c1 : x.st = 1
  ·rw [if_pos (.inl c1)]
   exact zp6 (toR s) x.nm hs h hb hB (by omega) hki i hii x3 _ x1 (.inl c1)
  ·by_cases c3 : x.st = 3
   ·rw [if_pos (.inr c3)]
    exact zp6 (toR s) x.nm hs h hb hB (by omega) hki i hii x3 _ x1 (.inr c3)
   ·rw [if_neg (fun h => h.elim c1 c3)]
    exact z5a (toR s) x.nm hs h hb hB (by omega) hki i hii x3 x.st x1 c1 c3 _ _ (toR_ask hG.ok.inv (by omega) x.nm) _ rfl
theorem zw9 (hG : GB s n) (hn : n ≤ 700000) (nm : ByteArray) (hs : nm.size ≤ 100) (h : FR b w vs (toR s)) (hb : FrB b w.heap.size) :
  Calls Tryz.prog 25 #[vs, .string nm] w fun e w' => ∃ vs', e = .returned (.tuple #[vs', .int .i64 (undrainF s nm).1]) ∧ FR b w' vs' (toR (undrainF s nm).2) ∧ Below w.heap.size w w' := by
 have hB := hG.rb
 unfold undrainF
 rcases zj4 s nm with hk | ⟨i, x, hk, hp, hl, hx, rfl, hgood⟩
 ·rw [if_neg hk]
  exact zq6 (toR s) nm hs h hb hB (by omega) _ (hG.known nm) hk
 ·obtain ⟨x0, x1, x2, x3⟩ := z63 hx
  have hki := (hG.known x.nm).trans hk
  have hii := (hG.at x.nm).trans hp
  rw [if_pos hk, hl]
  dsimp only
  by_cases c1 : x.lv = true
  ·rw [if_pos c1]
   rw [c1] at x2
   exact z58 (toR s) x.nm hs h hb hB (by omega) hki i hii x3 x2
  ·rw [if_neg c1]
   have c2 : x.lv = false := by simpa using c1
   rw [c2] at x2
   by_cases cw : idxOf (namesOf s.ds.row false) x.nm 0 < 0
   ·rw [if_pos cw]
    by_cases ce : nextB x.st 1 = true
    ·rw [if_pos ce]
     refine zx9 (toR s) x.nm hs h hb hB (by omega) hki i hii x3 x2 cw x.st x1 _ rfl ce _ (zc2 hx _ _).symm _ ?_
     rw [z91 hp]
     unfold evH
     rw [c2]
     exact (zc3 (s := { s with hs := s.hs.set i ⟨x.nm, nextS x.st 1, false⟩ }) hG.ok.inv x.nm).symm
    ·rw [if_neg ce]
     exact zb9 (toR s) x.nm hs h hb hB (by omega) hki i hii x3 x2 cw x.st x1 _ rfl (by simpa using ce)
   ·rw [if_neg cw]
    exact z99 (toR s) x.nm hs h hb hB (by omega) hki i hii x3 x2 (by show 0 ≤ idxOf (namesOf s.ds.row false) x.nm 0; omega) _ (zc3 hG.ok.inv x.nm).symm
theorem rforce_s (hG : GB s n) (hn : n ≤ 700000) (nm : ByteArray) (hs : nm.size ≤ 100) (dl : Int) (h : FR b w vs (toR s)) (hb : FrB b w.heap.size) :
  Calls Tryz.prog 26 #[vs, .string nm, .int .i64 dl] w fun e w' => ∃ vs', e = .returned (.tuple #[vs', .int .i64 (forceF s nm dl).1]) ∧ FR b w' vs' (toR (forceF s nm dl).2) ∧ Below w.heap.size w w' := by
 have hB := hG.rb
 unfold forceF
 rcases zj4 s nm with hk | ⟨i, x, hk, hp, hl, hx, rfl, hgood⟩
 ·rw [if_neg hk]
  exact zda (toR s) nm hs h hb hB (by omega) _ (hG.known nm) hk dl
 ·obtain ⟨x0, x1, x2, x3⟩ := z63 hx
  have hki := (hG.known x.nm).trans hk
  have hii := (hG.at x.nm).trans hp
  rw [if_pos hk, hl]
  dsimp only
  by_cases c3 : x.st = 3
  ·rw [if_pos c3]
   rw [c3] at x1
   exact rforce_3 (toR s) x.nm hs h hb hB (by omega) hki i hii x3 dl x1
  ·rw [if_neg c3, zb7 s.ds hgood hG.ok dl]
   refine zqb (toR s) x.nm hs h hb hB (by omega) hki i hii x3 dl x.st x1 x.lv x2 c3 _ rfl _ (zc2 hx _ _).symm _ (zc3 (s := { s with hs := s.hs.set i ⟨x.nm, nextS x.st 0, x.lv⟩ }) hG.ok.inv x.nm).symm _ ?_
   rw [z91 hp]
   exact (zr3 (s := { s with hs := s.hs.set i ⟨x.nm, nextS x.st 0, x.lv⟩, ds := endF s.ds x.nm }) (zs2 hG.ok x.nm).1.inv (by omega) x.nm dl).1.symm
theorem may_eq (s : FS) {i : Nat} {nm : ByteArray} (hp : posH s.hs nm = (i : Int)) : mayI (toR s).S (i : Int) (toR s).each (toR s).guard = mayS s nm := by
 unfold mayS
 rw [hp]
 rfl
theorem reject_s (hG : GB s n) (hn : n ≤ 700000) (nm : ByteArray) (hs : nm.size ≤ 100) (h : FR b w vs (toR s)) (hb : FrB b w.heap.size) :
  Calls Tryz.prog 27 #[vs, .string nm] w fun e w' => ∃ vs', e = .returned (.tuple #[vs', .int .i64 (ejectF s nm).1]) ∧ FR b w' vs' (toR (ejectF s nm).2) ∧ Below w.heap.size w w' := by
 have hB := hG.rb
 unfold ejectF
 rcases zj4 s nm with hk | ⟨i, x, hk, hp, hl, hx, rfl, hgood⟩
 ·rw [if_neg hk]
  exact z8a (toR s) nm hs h hb hB (by omega) _ (hG.known nm) hk
 ·obtain ⟨x0, x1, x2, x3⟩ := z63 hx
  have hki := (hG.known x.nm).trans hk
  have hii := (hG.at x.nm).trans hp
  rw [if_pos hk, hl]
  dsimp only
  by_cases c0 : x.st = 0
  ·rw [if_pos c0]
   have x1' := x1
   rw [c0] at x1'
   by_cases cm : mayS s x.nm = true
   ·rw [if_pos cm]
    refine reject_1 (toR s) x.nm hs h hb hB (by omega) hki i hii x3 x1' x.lv x2 hG.e ((may_eq s hp).trans cm) _ ?_
    rw [z91 hp, zc2 hx]
    unfold evH
    rw [c0, show nextS 0 2 = 2 from by decide]
   ·rw [if_neg cm]
    exact reject_0 (toR s) x.nm hs h hb hB (by omega) hki i hii x3 x1' x.lv x2 hG.e ((may_eq s hp).trans (by simpa using cm))
  ·rw [if_neg c0]
   exact zbc (toR s) x.nm hs h hb hB (by omega) hki i hii x3 x.st x1 c0
theorem next3 (st : Int) : (nextB st 3 = decide (st = 2)) ∧ nextS 2 3 = 0 := by
 refine ⟨?_, by decide⟩
 unfold nextB toS
 by_cases c : st = 2
 ·subst c
  decide
 ·(repeat' split) <;> simp_all
theorem next4 (st : Int) : (nextB st 4 = decide (st = 1)) ∧ nextS 1 4 = 3 := by
 refine ⟨?_, by decide⟩
 unfold nextB toS
 by_cases c : st = 1
 ·subst c
  decide
 ·(repeat' split) <;> simp_all
theorem rprobe_s (hG : GB s n) (hn : n ≤ 700000) (nm : ByteArray) (hs : nm.size ≤ 100) (h : FR b w vs (toR s)) (hb : FrB b w.heap.size) :
  Calls Tryz.prog 29 #[vs, .string nm] w fun e w' => ∃ vs', e = .returned (.tuple #[vs', .bool (probeF s nm).1]) ∧ FR b w' vs' (toR (probeF s nm).2) ∧ Below w.heap.size w w' := by
 have hB := hG.rb
 unfold probeF
 rcases zx3 s.hs nm with ⟨hl, hp⟩ | ⟨i, x, hl, hp, hx, rfl⟩
 ·rw [hl]
  exact zx7 (toR s) nm hs h hb hB (by omega) _ ((hG.at nm).trans hp) (by decide)
 ·obtain ⟨x0, x1, x2, x3⟩ := z63 hx
  have hii := (hG.at x.nm).trans hp
  rw [hl]
  dsimp only
  by_cases c : x.st = 2
  ·have hb2 : nextB x.st 3 = true := by rw [(next3 _).1, decide_eq_true c]
   rw [hb2, z91 hp]
   rw [c] at x1
   refine rprobe_1 (toR s) x.nm hs h hb hB (by omega) i hii x3 x1 x.lv x2 _ ?_
   rw [zc2 hx]
   unfold evH
   rw [c, (next3 0).2]
  ·have hb2 : nextB x.st 3 = false := by rw [(next3 _).1, decide_eq_false c]
   rw [hb2, ev_no hb2, z91 hp, zra hx]
   exact rprobe_0 (toR s) x.nm hs h hb hB (by omega) i hii x3 x.st x1 c
theorem rempty_s (hG : GB s n) (hn : n ≤ 700000) (nm : ByteArray) (hs : nm.size ≤ 100) (h : FR b w vs (toR s)) (hb : FrB b w.heap.size) :
  Calls Tryz.prog 30 #[vs, .string nm] w fun e w' => ∃ vs', e = .returned (.tuple #[vs', .bool (emptyF s nm).1]) ∧ FR b w' vs' (toR (emptyF s nm).2) ∧ Below w.heap.size w w' := by
 have hB := hG.rb
 unfold emptyF
 rcases zx3 s.hs nm with ⟨hl, hp⟩ | ⟨i, x, hl, hp, hx, rfl⟩
 ·rw [hl]
  exact z97 (toR s) nm hs h hb hB (by omega) _ ((hG.at nm).trans hp) (by decide)
 ·obtain ⟨x0, x1, x2, x3⟩ := z63 hx
  have hii := (hG.at x.nm).trans hp
  rw [hl]
  dsimp only
  by_cases c : x.st = 1
  ·have hb2 : nextB x.st 4 = true := by rw [(next4 _).1, decide_eq_true c]
   rw [if_pos hb2]
   rw [c] at x1
   by_cases cl : x.lv = true
   ·rw [if_pos cl]
    rw [cl] at x2
    refine rempty_1 (toR s) x.nm hs h hb hB (by omega) i hii x3 x1 x2 _ (zc3 hG.ok.inv x.nm).symm _ ?_
    rw [zb3 hp]
    exact (zb8 (s := { s with ds := endF s.ds x.nm }) i).symm
   ·rw [if_neg cl]
    have cl2 : x.lv = false := by simpa using cl
    rw [cl2] at x2
    refine rempty_0 (toR s) x.nm hs h hb hB (by omega) i hii x3 x1 x2 _ (zc3 hG.ok.inv x.nm).symm _ ?_
    rw [z91 hp, zc2 (s := { s with ds := endF s.ds x.nm }) hx]
    unfold evH
    rw [c, (next4 0).2, cl2]
  ·have hb2 : nextB x.st 4 = false := by rw [(next4 _).1, decide_eq_false c]
   rw [if_neg (by rw [hb2]; decide), ev_no hb2, z91 hp, zra hx]
   exact z0b (toR s) x.nm hs h hb hB (by omega) i hii x3 x.st x1 c
theorem rleave_s (hG : GB s n) (hn : n ≤ 700000) {i : Nat} {x : HV} (hx : s.hs[i]? = some x) (hs : x.nm.size ≤ 100) (dl : Int) (h : FR b w vs (toR s)) (hb : FrB b w.heap.size) :
  Calls Tryz.prog 60 #[vs, .string x.nm, .int .i64 dl] w fun e w' => ∃ vs', e = .returned vs' ∧ FR b w' vs' (toR (leaveF s x dl)) ∧ Below w.heap.size w w' := by
 have hB := hG.rb
 have hp := zp4 hG.nd hx
 obtain ⟨x0, x1, x2, x3⟩ := z63 hx
 have hii := (hG.at x.nm).trans hp
 unfold leaveF leaveD
 by_cases cw : 0 ≤ idxOf (namesOf s.ds.row false) x.nm 0
 ·rw [if_pos cw]
  have r1 := (zc3 hG.ok.inv x.nm).symm
  by_cases c3 : x.st = 3
  ·rw [if_pos c3, zb3 hp]
   exact zh9 (toR s) x.nm hs dl h hb hB (by omega) i hii x3 x.st x1 cw _ r1 c3 _ (zb8 (s := { s with ds := endF s.ds x.nm }) i).symm
  ·rw [if_neg c3, z91 hp, z91 hp]
   by_cases ce : nextB x.st 5 = true
   ·rw [if_pos ce]
    exact zl9 (toR s) x.nm hs dl h hb hB (by omega) i hii x3 x.st x1 cw _ r1 c3 _ rfl ce _ (zc2 (s := { s with ds := endF s.ds x.nm }) hx _ _).symm _ (zr3 (s := { s with hs := s.hs.set i ⟨x.nm, nextS x.st 5, true⟩, ds := endF s.ds x.nm }) (zs2 hG.ok x.nm).1.inv (by omega) x.nm dl).1.symm
   ·have ce2 : nextB x.st 5 = false := by simpa using ce
    rw [if_neg ce]
    exact z49 (toR s) x.nm hs dl h hb hB (by omega) i hii x3 x.st x1 cw _ r1 c3 _ (z35 ce2) ce2 _ (zc2 (s := { s with ds := endF s.ds x.nm }) hx _ _).symm
 ·rw [if_neg cw]
  have cw2 : idxOf (toR s).d.w x.nm 0 < 0 := by show idxOf (namesOf s.ds.row false) x.nm 0 < 0; omega
  by_cases c3 : x.st = 3
  ·rw [if_pos c3, zb3 hp]
   exact zg9 (toR s) x.nm hs dl h hb hB (by omega) i hii x3 x.st x1 cw2 c3 _ (zb8 i).symm
  ·rw [if_neg c3, z91 hp, z91 hp]
   by_cases ce : nextB x.st 5 = true
   ·rw [if_pos ce]
    exact z7a (toR s) x.nm hs dl h hb hB (by omega) i hii x3 x.st x1 cw2 c3 _ rfl ce _ (zc2 hx _ _).symm _ (zr3 (s := { s with hs := s.hs.set i ⟨x.nm, nextS x.st 5, true⟩ }) hG.ok.inv (by omega) x.nm dl).1.symm
   ·have ce2 : nextB x.st 5 = false := by simpa using ce
    rw [if_neg ce]
    exact zs9 (toR s) x.nm hs dl h hb hB (by omega) i hii x3 x.st x1 cw2 c3 _ (z35 ce2) ce2 _ (zc2 hx _ _).symm
end
end
end Go.Proofs.YtmlmiocomlehgaaGreat.Man
end
