/-
  The fleet: contracts of its functions, proved by walking them, and plain facts, several texts in one (Fm, Fn, Fp, Ln, Lz). Conditions: none.
-/
import Derived.Test.YtmlmiocomlehgaaB6
set_option linter.unusedVariables false
set_option linter.unusedSimpArgs false
set_option linter.unusedSectionVars false
namespace Go.Proofs.Ytmlmiocomlehgaa.Man
open Go.RowKit Go.Proofs.YtmlmiocomlehgaaW.PrintWords Go.Proofs.YtmlmiocomlehgaaW.PrintLast Go.Proofs.YtmlmiocomlehgaaW.PrintMore Go.Proofs.Ytmlmiocomlehgaa.PA Go.Proofs.Ytmlmiocomlehgaa.PF Go.Proofs.Ytmlmiocomlehgaa.Hid Go.Proofs.Ytmlmiocomlehgaa.Na
variable {w0 w : World} {g gd : Nat} {v : Value} {ps : List Nat} {s : FS}
theorem clone_keep {T : List Nat} {w w1 : World} {base : Nat} {v : Value} {xs : List Nat} (h : Kd.R kP 67 w base (fun _ => True) v xs) (hk : KeptH T w w1) (ht : 67 ∉ T) : Kd.R kP 67 w1 base (fun _ => True) v xs :=
  row_keep h hk (fun q hq => by have : q = 67 := by simpa [kP, Kd.scalar] using hq
                                subst this
                                exact ht)
theorem row_keepG {T : List Nat} {w w1 : World} {α : Type} {d : Kd α} {e base : Nat} {ok : Nat → Prop} {v : Value} {xs : List α} (h : d.R e w base ok v xs) (hk : KeptH T w w1) (ht : ∀ q, q ∈ e :: d.E → q ∉ T) : d.R e w1 base ok v xs :=
  Kd.R_mono (Ko.R_keep (Ko.R_apart h ht) hk (fun _ h => h.2)) (fun _ h => h.1)
theorem host_ne9 : ∀ q, q ∈ 67 :: kP.E → q ≠ 9 := by
  intro q hq
  have : q = 67 := by simpa [kP, Kd.scalar] using hq
  subst this
  decide
theorem str_tf : ∀ q, q ∈ 9 :: Kd.string.E → q ∉ TF := by
  intro q hq
  have : q = 9 := by simpa [Kd.string, Kd.scalar] using hq
  subst this
  decide
/-- A row of texts of the call's own has grown: the fleet lives on. -/
theorem row_grownF {w4 w5 : World} {v5 : Value} {xs : List ByteArray} (hz : w0.heap.size ≤ w.heap.size) (hI : IsX w0 w4 g gd v ps s) (hB : Below w0.heap.size w0 w4) (hk : KeptH TF w w4) (hR : Kd.R Kd.string 9 w4 w.heap.size (fun _ => True) v5 xs) (hg : w4.grownBy w5 v5.ownBlock) :
    IsX w0 w5 g gd v ps s ∧ Below w0.heap.size w0 w5 ∧ KeptH TF w w5 :=
  ⟨hI.step (fun k h => hg.block k h.lt (Ko.R_ne (T := TF) hR (by decide) k h)), hB.grown hg hB.size (fun k h => Nat.le_trans hz (Kd.R_base hR k h)), hk.grown hg (fun k h => .inr (Kd.R_base hR k h))⟩
section
variable (l : List ByteArray) (A : Option Addr) (n : Nat) (dl : Int) (hn : l.length ≤ n) (hs : ∀ x ∈ l, x.size ≤ maxLen) (hC : ∀ W, KeptH TF w W → Below w0.heap.size w0 W → Kd.C Kd.string W A l.length l) (hI : IsX w0 w g gd v ps s) (hB : Below w0.heap.size w0 w)
include hn hs hC hI hB
set_option maxHeartbeats 1000000 in
theorem resolve_13 (hE : checkE l = 13) :
    Calls Try.prog 13 #[ptr g, .slice A l.length n, .int .i64 dl] w fun e w' => e = .returned (.tuple #[.slice none 0 0, .slice none 0 0, .int .i64 13]) ∧ St w0 w w' g s := by
  have HCK := Aside0.mk (check_raw (w := w) l A n hs (hC w (KeptH.refl _ _) hB) hn)
  rw [hE] at HCK
  have HI := Aside0.mk hI
  have HB := Aside0.mk hB
  have hgl : g < w.heap.size := blk_lt hI.blk
  clear hE hC hs hI hB
  go_enter Try.func13, Try.ntmps13
  go_wp2
  go_step3
  go_wp2_with (go_at_call 34; refine HCK.out.mono ?_; rintro e w1 ⟨rfl, hb1⟩)
  dsimp only [Exit.noGoto]
  refine bodyPost_ret (results_tmp3 rfl _ _ _) rfl ?_
  exact ⟨rfl, St.of_below ⟨_, _, _, HI.out⟩ HB.out hb1⟩
set_option maxHeartbeats 1000000 in
theorem resolve_11 (hE : checkE l = 11) :
    Calls Try.prog 13 #[ptr g, .slice A l.length n, .int .i64 dl] w fun e w' => e = .returned (.tuple #[.slice none 0 0, .slice none 0 0, .int .i64 11]) ∧ St w0 w w' g s := by
  have HCK := Aside0.mk (check_raw (w := w) l A n hs (hC w (KeptH.refl _ _) hB) hn)
  rw [hE] at HCK
  have HI := Aside0.mk hI
  have HB := Aside0.mk hB
  have hgl : g < w.heap.size := blk_lt hI.blk
  clear hE hC hs hI hB
  go_enter Try.func13, Try.ntmps13
  go_wp2
  go_step3
  go_wp2_with (go_at_call 34; refine HCK.out.mono ?_; rintro e w1 ⟨rfl, hb1⟩)
  dsimp only [Exit.noGoto]
  refine bodyPost_ret (results_tmp3 rfl _ _ _) rfl ?_
  exact ⟨rfl, St.of_below ⟨_, _, _, HI.out⟩ HB.out hb1⟩
set_option maxHeartbeats 1000000 in
theorem resolve_6 (hE : checkE l = 6) :
    Calls Try.prog 13 #[ptr g, .slice A l.length n, .int .i64 dl] w fun e w' => e = .returned (.tuple #[.slice none 0 0, .slice none 0 0, .int .i64 6]) ∧ St w0 w w' g s := by
  have HCK := Aside0.mk (check_raw (w := w) l A n hs (hC w (KeptH.refl _ _) hB) hn)
  rw [hE] at HCK
  have HI := Aside0.mk hI
  have HB := Aside0.mk hB
  have hgl : g < w.heap.size := blk_lt hI.blk
  clear hE hC hs hI hB
  go_enter Try.func13, Try.ntmps13
  go_wp2
  go_step3
  go_wp2_with (go_at_call 34; refine HCK.out.mono ?_; rintro e w1 ⟨rfl, hb1⟩)
  dsimp only [Exit.noGoto]
  refine bodyPost_ret (results_tmp3 rfl _ _ _) rfl ?_
  exact ⟨rfl, St.of_below ⟨_, _, _, HI.out⟩ HB.out hb1⟩
set_option maxRecDepth 100000 in
set_option maxHeartbeats 8000000 in
theorem resolve_ok (hE : checkE l = 0) (hl : s.ds.row.length ≤ 400000000) (hh : s.hs.length ≤ 400000000) (hln : l.length ≤ 16) :
    Calls Try.prog 13 #[ptr g, .slice A l.length n, .int .i64 dl] w fun e w' => ∃ v1 v2 : Value, e = .returned (.tuple #[v1, v2, .int .i64 0]) ∧ Kd.R Kd.string 9 w' w.heap.size (fun _ => True) v1 (cameL l (leftL l dl s.hs s).1).2 ∧ Kd.R Kd.string 9 w' w.heap.size (fun _ => True) v2 (leftL l dl s.hs s).2 ∧ St w0 w w' g (cameL l (leftL l dl s.hs s).1).1 := by
  have HCK := Aside0.mk (check_raw (w := w) l A n hs (hC w (KeptH.refl _ _) hB) hn)
  rw [hE] at HCK
  have HI0 := Aside0.mk hI
  have HB0 := Aside0.mk hB
  have HC := Aside0.mk hC
  have hgl : g < w.heap.size := blk_lt hI.blk
  have hW0 : w0.heap.size ≤ w.heap.size := hB.size
  have HPL : Aside0 (ps.length = s.hs.length) := ⟨hI.len⟩
  have hplb : ps.length ≤ 400000000 := by have := hI.len; omega
  have HND := Aside0.mk hI.nd
  have hlm : l.length ≤ 9223372036854775807 := (hC w (KeptH.refl _ _) hB).2.1
  obtain ⟨RES, hres⟩ : ∃ R, R = leftL l dl s.hs s := ⟨_, rfl⟩
  rw [← hres]
  obtain ⟨RES2, hres2⟩ : ∃ R, R = cameL l RES.1 := ⟨_, rfl⟩
  rw [← hres2]
  have HRES2 := Aside0.mk hres2
  have HR0 : Aside0 (∃ r, leftL l dl (s.hs.drop 0) s = (RES.1, r) ∧ RES.2 = [] ++ r) := ⟨⟨RES.2, by rw [List.drop_zero, ← hres], rfl⟩⟩
  clear hE hC hs hI hB hres hres2
  go_enter Try.func13, Try.ntmps13
  go_wp2
  go_step3
  go_wp2_with (first | (go_at_call 34; refine HCK.out.mono ?_; rintro e w1 ⟨rfl, hb1⟩; have HI1 := Aside0.mk (HI0.out.below hb1); have HB1 := Aside0.mk (below_step HB0.out hb1); have HK1 := Aside0.mk (KeptH.of_below (T := TG) hb1); have HZ1 := Aside0.mk hb1.size; clear hb1; have HCL := Aside0.mk (cloneP_any v ps w1 w0.heap.size HI1.out.row (by omega)); have c31 : w1.cell? ⟨g, 3, none⟩ = some v := (blk_cell HI1.out.blk 3).trans rfl; have hgl1 : g < w1.heap.size := blk_lt HI1.out.blk))
  go_step3
  go_wp2_with (go_at_call 35; refine HCL.out.mono ?_; rintro e w2 ⟨v2, rfl, hR2, hb2⟩; obtain ⟨A2, n2, rfl⟩ := Kd.R_slice hR2; have HR2 := Aside0.mk (Kd.R_lower hR2 HZ1.out); have HI2 := Aside0.mk (HI1.out.below hb2); have HB2 := Aside0.mk (below_step HB1.out hb2); have HK2 := Aside0.mk (HK1.out.below hb2); have HZ2 := Aside0.mk (Nat.le_trans HZ1.out hb2.size); clear hb2 hR2)
  clear c31 hgl1
  have HSTAY0 : Aside0 (∀ (j q : Nat) (y : HV), 0 ≤ j → ps[j]? = some q → s.hs[j]? = some y → ∃ i : Nat, ps[i]? = some q ∧ s.hs[i]? = some y) := ⟨fun j q y _ h1 h2 => ⟨j, h1, h2⟩⟩
  go_loopw [11, 30] (fun v11 v30 wr => ∃ (k : Nat) (s1 : FS) (v1 : Value) (ps1 : List Nat) (acc : List ByteArray), k ≤ ps.length ∧ v30 = .int .i64 k ∧ Aside0 (∃ r, leftL l dl (s.hs.drop k) s1 = (RES.1, r) ∧ RES.2 = acc ++ r) ∧ acc.length ≤ k ∧ s1.hs.length ≤ s.hs.length ∧ s1.ds.row.length ≤ s.ds.row.length + k ∧ Aside0 (∀ (j q : Nat) (y : HV), k ≤ j → ps[j]? = some q → s.hs[j]? = some y → ∃ i : Nat, ps1[i]? = some q ∧ s1.hs[i]? = some y) ∧ Aside0 (IsX w0 wr g gd v1 ps1 s1) ∧ Aside0 (Below w0.heap.size w0 wr) ∧ Aside0 (KeptH TG w wr) ∧ Aside0 (w.heap.size ≤ wr.heap.size) ∧ Aside0 (Kd.R kP 67 wr w.heap.size (fun _ => True) (.slice A2 ps.length n2) ps) ∧ Aside0 (Kd.R Kd.string 9 wr w.heap.size (fun _ => True) v11 acc)) (fun _ v30 _ => ps.length - (intOf v30).toNat)
  case atStart => exact ⟨0, s, v, ps, [], Nat.zero_le _, rfl, HR0, Nat.le_refl _, Nat.le_refl _, Nat.le_refl _, HSTAY0, HI2, HB2, HK2, HZ2, HR2, ⟨Kd.R_nil _ _ _ _ _⟩⟩
  case round =>
    obtain ⟨k, s1, v1, ps1, acc, hk, rfl, HR, hacc, hh1, hl1, HST, HI0, HB0, HK0, HZ0, HCL0, HO0⟩ := hrel
    clear HSTAY0 HI2 HB2 HK2 HZ2 HR2 HI1 HB1 HK1 HZ1 HCL HCK HR0
    by_cases hlt : k < ps.length
    · clear HRES2
      obtain ⟨p, hp⟩ : ∃ p, ps[k]? = some p := ⟨_, List.getElem?_eq_getElem hlt⟩
      obtain ⟨x, hx⟩ : ∃ x, s.hs[k]? = some x := ⟨_, List.getElem?_eq_getElem (by have := HPL.out; omega)⟩
      obtain ⟨i, hp1, hx1⟩ := HST.out k p x (Nat.le_refl _) hp hx
      obtain ⟨ad, had, hx0⟩ := rdP (Kd.R_reads' HCL0.out).2.2 k p hp
      subst had
      have h0k : (0 : Int) ≤ (k : Int) := by omega
      have hkl : (k : Int) < (ps.length : Int) := by omega
      obtain ⟨q0, q1, q2⟩ := HI0.out.hst hp1 hx1
      have hdrop : s.hs.drop k = x :: s.hs.drop (k + 1) := by
        have hlt2 : k < s.hs.length := by have := HPL.out; omega
        have e := (List.getElem?_eq_some_iff.1 hx).2
        rw [List.drop_eq_getElem_cons hlt2, e]
      have hR := HR.out
      rw [hdrop] at hR
      unfold leftL at hR
      have HP1 := Aside0.mk hp1
      have HX1 := Aside0.mk hx1
      have HP := Aside0.mk hp
      have HCT := Aside0.mk (fun W (h : KeptH TG w W) (hb : Below w0.heap.size w0 W) => contains_raw x.nm l A n W (HC.out W (KeptH.mono tg_tf h) hb) hn)
      clear hdrop hp hx HR
      have stayK : Aside0 (∀ (j q : Nat) (y : HV), k + 1 ≤ j → ps[j]? = some q → s.hs[j]? = some y → ∃ i : Nat, ps1[i]? = some q ∧ s1.hs[i]? = some y) := ⟨fun j q y hj => HST.out j q y (by omega)⟩
      cases hlv : x.lv with
      | true =>
        rw [hlv, Bool.true_or, if_pos rfl] at hR
        rw [hlv] at q2
        have HR := Aside0.mk hR
        clear hR hp1 hx1
        go_wp2
        go_roundw
        case measure => simp [intOf]; omega
        case rel => exact ⟨k + 1, s1, v1, ps1, acc, by omega, by rw [show ((k : Int) + 1) = ((k + 1 : Nat) : Int) by omega], HR, by omega, hh1, by omega, stayK, HI0, HB0, HK0, HZ0, HCL0, HO0⟩
      | false =>
        rw [hlv, Bool.false_or] at hR
        rw [hlv] at q2
        cases hmb : memB x.nm l with
        | true =>
          rw [hmb, if_pos rfl] at hR
          rw [hmb] at HCT
          have HR := Aside0.mk hR
          clear hR hp1 hx1
          go_wp2_with (go_at_call 36; refine (HCT.out _ HK0.out HB0.out).mono ?_; rintro e w3 ⟨rfl, hb3⟩; have HI3 := Aside0.mk (HI0.out.below hb3); have HB3 := Aside0.mk (below_step HB0.out hb3); have HK3 := Aside0.mk (HK0.out.below hb3); have HZ3 := Aside0.mk (Nat.le_trans HZ0.out hb3.size); have HC3 := Aside0.mk (Kd.R_below HCL0.out hb3); have HO3 := Aside0.mk (Kd.R_below HO0.out hb3); clear hb3)
          go_roundw
          case measure => simp [intOf]; omega
          case rel => exact ⟨k + 1, s1, v1, ps1, acc, by omega, by rw [show ((k : Int) + 1) = ((k + 1 : Nat) : Int) by omega], HR, by omega, hh1, by omega, stayK, HI3, HB3, HK3, HZ3, HC3, HO3⟩
        | false =>
          rw [hmb, if_neg (by decide)] at hR
          rw [hmb] at HCT
          have hpos := posH_of HI0.out.names hx1
          have hlen1 := leaveF_len s1 x dl
          have HR : Aside0 (∃ r, leftL l dl (s.hs.drop (k + 1)) (leaveF s1 x dl) = (RES.1, r) ∧ RES.2 = (acc ++ [x.nm]) ++ r) := ⟨by
            obtain ⟨r, h1, h2⟩ := hR
            obtain ⟨h4, h5⟩ := Prod.mk.inj h1
            refine ⟨(leftL l dl (s.hs.drop (k + 1)) (leaveF s1 x dl)).2, by rw [← h4], ?_⟩
            rw [h2, ← h5]
            simp⟩
          have stayL : Aside0 (∀ (j q : Nat) (y : HV), k + 1 ≤ j → ps[j]? = some q → s.hs[j]? = some y → ∃ i2 : Nat, (leaveP x i ps1)[i2]? = some q ∧ (leaveF s1 x dl).hs[i2]? = some y) := ⟨fun j q y hj h1 h2 => by
            obtain ⟨i2, h3, h4⟩ := stayK.out j q y hj h1 h2
            refine stay_leave HI0.out.nd hpos hp1 h3 h4 ?_
            rintro rfl
            have := (List.getElem?_inj (List.getElem?_eq_some_iff.1 h1).1 HND.out).1 (h1.trans HP.out.symm)
            omega⟩
          have hl2 : s1.ds.row.length ≤ 1000000000 := by omega
          have hh2 : s1.hs.length ≤ 1000000000 := by omega
          have hacc2 : acc.length ≤ 400000000 := by omega
          have hl3 : (leaveF s1 x dl).ds.row.length ≤ s.ds.row.length + (k + 1) := by omega
          have hh3 : (leaveF s1 x dl).hs.length ≤ s.hs.length := by omega
          clear hR hp1 hx1 hpos hlen1 HST
          go_wp2_with (first
            | (go_at_call 36; refine (HCT.out _ HK0.out HB0.out).mono ?_; rintro e w3 ⟨rfl, hb3⟩; have HI3 := Aside0.mk (HI0.out.below hb3); have HB3 := Aside0.mk (below_step HB0.out hb3); have HK3 := Aside0.mk (HK0.out.below hb3); have HZ3 := Aside0.mk (Nat.le_trans HZ0.out hb3.size); have HC3 := Aside0.mk (Kd.R_below HCL0.out hb3); have HO3 := Aside0.mk (Kd.R_below HO0.out hb3); clear hb3)
            | (go_at_call 37; refine (leave_raw dl hl2 hh2 HI3.out HB3.out HP1.out HX1.out).mono ?_; rintro e w4 ⟨rfl, v4, hs4, hs4n⟩; have HI4 := Aside0.mk hs4.1; have HB4 := Aside0.mk hs4.2.1; have HK4 := Aside0.mk (HK3.out.trans hs4.2.2); have HZ4 := Aside0.mk (Nat.le_trans HZ3.out hs4.2.2.1.1); have HC4 := Aside0.mk (clone_keep HC3.out hs4.2.2 (by decide)); have HO4 := Aside0.mk (row_keep HO3.out hs4.2.2 str_tg); have q04 := hs4n; clear hs4 hs4n)
            | ((with_reducible refine gate_builtin (b := .append) (xs := #[.tmp 50, .tmp 55]) rfl ?_); (try (refine gate_guard (by rfl) ?_; dsimp only)); at_builtin; refine Kd.R_append Kd.string (w0 := w4) w.heap.size rfl (.tmp 50) (.tmp 55) 25 9 (.string ⟨#[]⟩) 16 rfl Try.underlying25 info9 rfl (by decide) (by omega) _ acc x.nm [.string x.nm] (fun _ => True) (fun _ => False) rfl ?aX ?aP (fun _ h => h.elim) (fun _ _ => trivial) ?aO ?aB ?aS ?aL ?_; (case aX => (show Value.slice (some ⟨w4.heap.size, 0, none⟩) 1 1 = _; simp)); (case aP => exact rfl); (case aO => exact HO4.out); (case aB => exact Below.refl _ _ |>.mono HZ4.out); (case aS => exact HZ4.out); (case aL => have := hacc2; omega); intro v5 w5 ho hb hg hat; have HO5 := Aside0.mk ho; have HG5 := Aside0.mk hg; clear ho hb hg hat))
          have hfin := row_grown hW0 HI4.out HB4.out HK4.out HO4.out HG5.out
          have HF1 := Aside0.mk hfin.1
          have HF2 := Aside0.mk hfin.2.1
          have HF3 := Aside0.mk hfin.2.2
          have HF4 : Aside0 (w.heap.size ≤ w5.heap.size) := ⟨Nat.le_trans HZ4.out HG5.out.size⟩
          have HF5 := Aside0.mk (Kd.R_over HC4.out HO4.out host_ne9 HG5.out)
          clear hfin
          go_roundw
          case measure => simp [intOf]; omega
          case rel => exact ⟨k + 1, leaveF s1 x dl, v4, leaveP x i ps1, acc ++ [x.nm], by omega, by rw [show ((k : Int) + 1) = ((k + 1 : Nat) : Int) by omega], HR, by simp; omega, hh3, hl3, stayL, HF1, HF2, HF3, HF4, HF5, HO5⟩
    · have hke : k = ps.length := by omega
      subst hke
      have hr : s1 = RES.1 ∧ RES.2 = acc := by
        obtain ⟨r, h1, h2⟩ := HR.out
        rw [HPL.out, List.drop_length] at h1
        obtain ⟨h3, h4⟩ := Prod.mk.inj h1
        rw [← h4] at h2
        exact ⟨h3, by simpa using h2⟩
      obtain ⟨hr1, hr2⟩ := hr
      have hl4 : s1.ds.row.length ≤ 800000000 := by omega
      have hh4 : s1.hs.length ≤ 400000000 := by omega
      have HR2 : Aside0 (∃ r, cameL (l.drop 0) s1 = (RES2.1, r) ∧ RES2.2 = [] ++ r) := ⟨⟨RES2.2, by rw [List.drop_zero, hr1, ← HRES2.out], rfl⟩⟩
      have HL := Aside0.mk hr2
      have HKF := Aside0.mk (KeptH.mono tg_tf HK0.out)
      obtain ⟨A11, n11, rfl⟩ := Kd.R_slice HO0.out
      have HO11 : Aside0 (Kd.R Kd.string 9 wr w.heap.size (fun k => True ∧ some k ≠ (Value.slice none 0 0).ownBlock) (.slice A11 acc.length n11) acc) := ⟨Kd.R_apart_nil HO0.out⟩
      clear hk hlt HR hr1 hr2 HRES2 HST HCL0 HND hh1 hl1 hacc HK0
      go_wp2
      go_step3
      go_wp2
      go_loopw [10, 60] (fun v10 v60 wq => ∃ (m : Nat) (s2 : FS) (v2 : Value) (ps2 : List Nat) (acc2 : List ByteArray), m ≤ l.length ∧ v60 = .int .i64 m ∧ Aside0 (∃ r, cameL (l.drop m) s2 = (RES2.1, r) ∧ RES2.2 = acc2 ++ r) ∧ acc2.length ≤ m ∧ s2.hs.length ≤ s1.hs.length + m ∧ s2.ds.row.length ≤ s1.ds.row.length ∧ Aside0 (IsX w0 wq g gd v2 ps2 s2) ∧ Aside0 (Below w0.heap.size w0 wq) ∧ Aside0 (KeptH TF w wq) ∧ Aside0 (w.heap.size ≤ wq.heap.size) ∧ Aside0 (Kd.R Kd.string 9 wq w.heap.size (fun k => True ∧ some k ≠ v10.ownBlock) (.slice A11 acc.length n11) acc) ∧ Aside0 (Kd.R Kd.string 9 wq w.heap.size (fun _ => True) v10 acc2)) (fun _ v60 _ => l.length - (intOf v60).toNat)
      case atStart => exact ⟨0, s1, v1, ps1, [], Nat.zero_le _, rfl, HR2, Nat.le_refl _, Nat.le_refl _, Nat.le_refl _, HI0, HB0, HKF, HZ0, HO11, ⟨Kd.R_nil _ _ _ _ _⟩⟩
      case round =>
        obtain ⟨m, s2, v2, ps2, acc2, hm, rfl, HR, hacc2, hh5, hl5, HI0, HB0, HK0, HZ0, HO0, HC0⟩ := hrel
        by_cases hlt : m < l.length
        · obtain ⟨ad, had, hx0⟩ := Kd.at_string (HC.out _ HK0.out HB0.out) (m : Int) (by omega) (by omega)
          obtain ⟨nm, hnm⟩ : ∃ nm, nm = rdOf ByteArray.empty l (m : Int) := ⟨_, rfl⟩
          rw [← hnm, Int.toNat_natCast] at hx0
          have hxg : l[m] = nm := by rw [hnm]; simp [rdOf, List.getD, hlt]
          have hdrop : l.drop m = nm :: l.drop (m + 1) := by rw [List.drop_eq_getElem_cons hlt, hxg]
          have hR := HR.out
          rw [hdrop] at hR
          unfold cameL at hR
          subst had
          have h0k : (0 : Int) ≤ (m : Int) := by omega
          have hkl : (m : Int) < (l.length : Int) := by omega
          have hccl : acc2.length ≤ 16 := by omega
          have HF := Aside0.mk (find_raw nm HI0.out)
          clear hnm hxg hdrop HR
          rcases find_at HI0.out nm with ⟨h1, h2, h3⟩ | ⟨i, p, x, h1, h2, hp, hx, hxn⟩
          · rw [look_none h1] at hR
            rw [h2] at HF
            have HR : Aside0 (∃ r, cameL (l.drop (m + 1)) { s2 with hs := s2.hs ++ [⟨nm, 0, false⟩] } = (RES2.1, r) ∧ RES2.2 = (acc2 ++ [nm]) ++ r) := ⟨by
              obtain ⟨r, e1, e2⟩ := hR
              obtain ⟨e4, e5⟩ := Prod.mk.inj e1
              refine ⟨(cameL (l.drop (m + 1)) { s2 with hs := s2.hs ++ [⟨nm, 0, false⟩] }).2, by rw [← e4], ?_⟩
              rw [e2, ← e5]
              simp⟩
            have HN3 := Aside0.mk h3
            clear hR h1 h2 h3
            go_wp2_with (first
              | (go_at_call 38; refine HF.out.mono ?_; rintro e wf ⟨rfl, hbf⟩; have HIf := Aside0.mk (HI0.out.below hbf); have HBf := Aside0.mk (below_step HB0.out hbf); have HKf := Aside0.mk (HK0.out.below hbf); have HZf := Aside0.mk (Nat.le_trans HZ0.out hbf.size); have HOf := Aside0.mk (Kd.R_below HO0.out hbf); have HCf := Aside0.mk (Kd.R_below HC0.out hbf); clear hbf; have c3f : wf.cell? ⟨g, 3, none⟩ = some v2 := (blk_cell HIf.out.blk 3).trans rfl; have hglf : g < wf.heap.size := blk_lt HIf.out.blk; have hpl2 : ps2.length ≤ 900000000 := by (have := HIf.out.len; omega))
              | ((with_reducible refine gate_builtin (b := .append) (xs := #[.tmp 86, .tmp 90]) rfl ?_); (try (refine gate_guard (by rfl) ?_; dsimp only)); at_builtin; refine Kd.R_append kP (w0 := w0) w0.heap.size rfl (.tmp 86) (.tmp 90) 62 67 (.pointer none) 8 rfl Try.underlying62 infoHP rfl (by decide) (by omega) _ ps2 wf.heap.size [ptr wf.heap.size] (fun _ => True) (fun _ => False) rfl ?aX ?aP (fun _ h => h.elim) (fun _ _ => trivial) ?aO ?aB ?aS ?aL ?_; (case aX => (show Value.slice (some ⟨wf.heap.size + 1, 0, none⟩) 1 1 = _; simp)); (case aP => exact rfl); (case aO => exact Kd.R_alloc HIf.out.row _); (case aB => exact below_alloc HBf.out _); (case aS => have := HBf.out.size; simp; omega); (case aL => have := hpl2; omega); intro v5 w5 ho hb hg hat; obtain ⟨A5, n5, rfl⟩ := Kd.R_slice ho; rw [show (ps2 ++ [wf.heap.size]).length = ps2.length + 1 by simp] at ho; (
                  have hpush := IsX.push (w5 := w5) (nm := nm) (v' := .slice A5 (ps2.length + 1) n5) (p := wf.heap.size) HIf.out HBf.out HN3.out (Nat.le_refl _) (by have := hg.size; simp at this; omega) ((hg.block wf.heap.size (by simp) (fun e => by have := Kd.R_lt HIf.out.row _ e.symm; omega)).trans (heap_alloc_new wf _)) (fun k hk hne => (hg.block k (by simp; omega) hne).trans (Below.heap_alloc _ _ _ hk)) ⟨hg.os, hg.tape, hg.output⟩ ho;
                  have HGB5 : Aside0 (w5.heap[g]? = some (.cells #[ptr gd, .int .i64 s2.each, .int .i64 s2.guard, v2] 64 (0, 0))) := ⟨(hg.block g (by simp; omega) (Kd.R_ne HIf.out.row HIf.out.blk (by decide))).trans ((Below.heap_alloc _ _ _ hglf).trans HIf.out.blk)⟩; have c35 : w5.cell? ⟨g, 3, none⟩ = some v2 := (blk_cell HGB5.out 3).trans rfl; have hf5 : w5.frozen? ⟨g, 3, none⟩ = false := blk_frozen HGB5.out 3; have hgl5 : g < w5.heap.size := blk_lt HGB5.out; have HPU := Aside0.mk hpush; clear hpush ho hb hg hat))
              | ((with_reducible refine gate_builtin (b := .append) (xs := #[.tmp 100, .tmp 102]) rfl ?_); (try (refine gate_guard (by rfl) ?_; dsimp only)); at_builtin; refine Kd.R_append Kd.string (w0 := w5.setCell ⟨g, 3, none⟩ (.slice A5 (ps2.length + 1) n5)) w.heap.size rfl (.tmp 100) (.tmp 102) 25 9 (.string ⟨#[]⟩) 16 rfl Try.underlying25 info9 rfl (by decide) (by omega) _ acc2 nm [.string nm] (fun _ => True) (fun _ => False) rfl ?aX ?aP (fun _ h => h.elim) (fun _ _ => trivial) ?aO ?aB ?aS ?aL ?_; (case aX => (show Value.slice (some ⟨w5.heap.size, 0, none⟩) 1 1 = _; simp)); (case aP => exact rfl); (case aO => exact row_keep HCf.out HPU.out.2.2 str_tf); (case aB => exact Below.refl _ _ |>.mono (Nat.le_trans HZf.out HPU.out.2.2.1.1)); (case aS => exact Nat.le_trans HZf.out HPU.out.2.2.1.1); (case aL => have := hccl; omega); intro v7 w7 ho hb hg hat; have HO7 := Aside0.mk ho; have HG7 := Aside0.mk hg; have HAT := Aside0.mk hat; clear ho hb hg hat))
            obtain ⟨hI6, hB6, hk6⟩ := HPU.out
            have hfin := row_grownF hW0 hI6 hB6 (HKf.out.trans hk6) (row_keep HCf.out hk6 str_tf) HG7.out
            have HF1 := Aside0.mk hfin.1
            have HF2 := Aside0.mk hfin.2.1
            have HF3 := Aside0.mk hfin.2.2
            have HF4 : Aside0 (w.heap.size ≤ w7.heap.size) := ⟨Nat.le_trans (Nat.le_trans HZf.out hk6.1.1) HG7.out.size⟩
            have HF5 : Aside0 (Kd.R Kd.string 9 w7 w.heap.size (fun k => True ∧ some k ≠ v7.ownBlock) (.slice A11 acc.length n11) acc) := ⟨Kd.R_after (ok := fun _ => True) (row_keepG HOf.out hk6 str_tf) HG7.out HAT.out⟩
            clear hfin hI6 hB6 hk6
            go_roundw
            case measure => simp [intOf]; omega
            case rel => exact ⟨m + 1, _, _, _, acc2 ++ [nm], by omega, by rw [show ((m : Int) + 1) = ((m + 1 : Nat) : Int) by omega], HR, by simp; omega, by simp; omega, hl5, HF1, HF2, HF3, HF4, HF5, HO7⟩
          · subst hxn
            rw [look_some h1 hx] at hR
            rw [h2] at HF
            have HP := Aside0.mk hp
            have HX := Aside0.mk hx
            cases hlv : x.lv with
            | false =>
              have HLV := Aside0.mk hlv
              simp only [hlv, Bool.false_eq_true, if_false] at hR
              have HR := Aside0.mk hR
              clear hR h1 h2 hp hx
              go_wp2_with ((go_at_call 38; refine HF.out.mono ?_; rintro e wf ⟨rfl, hbf⟩; have HIf := Aside0.mk (HI0.out.below hbf); have HBf := Aside0.mk (below_step HB0.out hbf); have HKf := Aside0.mk (HK0.out.below hbf); have HZf := Aside0.mk (Nat.le_trans HZ0.out hbf.size); have HOf := Aside0.mk (Kd.R_below HO0.out hbf); have HCf := Aside0.mk (Kd.R_below HC0.out hbf); clear hbf; obtain ⟨qaf, qbf, qcf⟩ := HIf.out.hst HP.out HX.out; rw [HLV.out] at qcf; have qff : wf.frozen? ⟨p, 2, none⟩ = false := blk_frozen (HIf.out.hb i p _ HP.out HX.out).2 2; have hplf : p < wf.heap.size := blk_lt (HIf.out.hb i p _ HP.out HX.out).2; have c0f := HIf.out.cell0; have hglf : g < wf.heap.size := blk_lt HIf.out.blk))
              go_roundw
              case measure => simp [intOf]; omega
              case rel => exact ⟨m + 1, s2, v2, ps2, acc2, by omega, by rw [show ((m : Int) + 1) = ((m + 1 : Nat) : Int) by omega], HR, by omega, by omega, hl5, HIf, HBf, HKf, HZf, HOf, HCf⟩
            | true =>
              have HLV := Aside0.mk hlv
              simp only [hlv, if_true] at hR
              rw [setH_at h1] at hR
              have HR : Aside0 (∃ r, cameL (l.drop (m + 1)) { s2 with hs := s2.hs.set i ⟨x.nm, nextS x.st 6, false⟩, ds := endF s2.ds x.nm } = (RES2.1, r) ∧ RES2.2 = (acc2 ++ [x.nm]) ++ r) := ⟨by
                obtain ⟨r, e1, e2⟩ := hR
                obtain ⟨e4, e5⟩ := Prod.mk.inj e1
                refine ⟨(cameL (l.drop (m + 1)) { s2 with hs := s2.hs.set i ⟨x.nm, nextS x.st 6, false⟩, ds := endF s2.ds x.nm }).2, by rw [← e4], ?_⟩
                rw [e2, ← e5]
                simp⟩
              have hilt : i < s2.hs.length := (List.getElem?_eq_some_iff.1 hx).1
              have hl6 : s2.ds.row.length ≤ 1000000000 := by omega
              have hl7 : (endF s2.ds x.nm).row.length ≤ s1.ds.row.length := Nat.le_trans (endRow_len s2.ds.row x.nm) hl5
              have HX5 := Aside0.mk (List.getElem?_set_self (a := (⟨x.nm, x.st, false⟩ : HV)) hilt)
              clear hR h1 h2 hp hx
              go_wp2_with (first
                | (go_at_call 38; refine HF.out.mono ?_; rintro e wf ⟨rfl, hbf⟩; have HIf := Aside0.mk (HI0.out.below hbf); have HBf := Aside0.mk (below_step HB0.out hbf); have HKf := Aside0.mk (HK0.out.below hbf); have HZf := Aside0.mk (Nat.le_trans HZ0.out hbf.size); have HOf := Aside0.mk (Kd.R_below HO0.out hbf); have HCf := Aside0.mk (Kd.R_below HC0.out hbf); clear hbf; obtain ⟨qaf, qbf, qcf⟩ := HIf.out.hst HP.out HX.out; rw [HLV.out] at qcf; have qff : wf.frozen? ⟨p, 2, none⟩ = false := blk_frozen (HIf.out.hb i p _ HP.out HX.out).2 2; have hplf : p < wf.heap.size := blk_lt (HIf.out.hb i p _ HP.out HX.out).2; have c0f := HIf.out.cell0; have hglf : g < wf.heap.size := blk_lt HIf.out.blk)
                | (go_at_call 39; have HT := IsX.turn (y := ⟨x.nm, x.st, false⟩) (j := 2) (u := .bool false) HIf.out HBf.out HP.out HX.out rfl (by simpa using blk_set (HIf.out.hb i p _ HP.out HX.out).2 2 _); refine (happens_raw 6 HT.1 HT.2.1 HP.out HX5.out _).mono ?_; rintro e w6 ⟨rfl, hs6⟩; have HI6 := Aside0.mk hs6.1; have HB6 := Aside0.mk hs6.2.1; have HKS6 := Aside0.mk (HT.2.2.trans hs6.2.2); clear HT hs6; have c06 := HI6.out.cell0; have hgl6 : g < w6.heap.size := blk_lt HI6.out.blk)
                | (go_at_call 40; refine (endX (s := { s2 with hs := (s2.hs.set i ⟨x.nm, x.st, false⟩).set i ⟨x.nm, nextS x.st 6, false⟩ }) x.nm hl6 HI6.out HB6.out).mono ?_; rintro e w7 ⟨rfl, hs7⟩; have HI7 := Aside0.mk hs7.1; have HB7 := Aside0.mk hs7.2.1; have HKS7 := Aside0.mk (KeptH.mono tg_tf (HKS6.out.trans hs7.2.2)); have HZ7 := Aside0.mk (Nat.le_trans HZf.out HKS7.out.1.1); have HC7 := Aside0.mk (row_keep HCf.out HKS7.out str_tf); clear hs7)
                | ((with_reducible refine gate_builtin (b := .append) (xs := #[.tmp 100, .tmp 102]) rfl ?_); (try (refine gate_guard (by rfl) ?_; dsimp only)); at_builtin; refine Kd.R_append Kd.string (w0 := w7) w.heap.size rfl (.tmp 100) (.tmp 102) 25 9 (.string ⟨#[]⟩) 16 rfl Try.underlying25 info9 rfl (by decide) (by omega) _ acc2 x.nm [.string x.nm] (fun _ => True) (fun _ => False) rfl ?aX ?aP (fun _ h => h.elim) (fun _ _ => trivial) ?aO ?aB ?aS ?aL ?_; (case aX => (show Value.slice (some ⟨w7.heap.size, 0, none⟩) 1 1 = _; simp)); (case aP => exact rfl); (case aO => exact HC7.out); (case aB => exact Below.refl _ _ |>.mono HZ7.out); (case aS => exact HZ7.out); (case aL => have := hccl; omega); intro v9 w9 ho hb hg hat; have HO9 := Aside0.mk ho; have HG9 := Aside0.mk hg; have HAT := Aside0.mk hat; clear ho hb hg hat))
              have hI7 := HI7.out
              simp only [List.set_set] at hI7
              have hfin := row_grownF hW0 hI7 HB7.out (HKf.out.trans HKS7.out) HC7.out HG9.out
              have HF1 := Aside0.mk hfin.1
              have HF2 := Aside0.mk hfin.2.1
              have HF3 := Aside0.mk hfin.2.2
              have HF4 : Aside0 (w.heap.size ≤ w9.heap.size) := ⟨Nat.le_trans HZ7.out HG9.out.size⟩
              have HF5 : Aside0 (Kd.R Kd.string 9 w9 w.heap.size (fun k => True ∧ some k ≠ v9.ownBlock) (.slice A11 acc.length n11) acc) := ⟨Kd.R_after (ok := fun _ => True) (row_keepG HOf.out HKS7.out str_tf) HG9.out HAT.out⟩
              clear hfin hI7
              go_roundw
              case measure => simp [intOf]; omega
              case rel => exact ⟨m + 1, _, _, _, acc2 ++ [x.nm], by omega, by rw [show ((m : Int) + 1) = ((m + 1 : Nat) : Int) by omega], HR, by simp; omega, by simp; omega, hl7, HF1, HF2, HF3, HF4, HF5, HO9⟩
        · have hke : m = l.length := by omega
          subst hke
          have hr : s2 = RES2.1 ∧ RES2.2 = acc2 := by
            obtain ⟨r, h1, h2⟩ := HR.out
            rw [List.drop_length] at h1
            obtain ⟨h3, h4⟩ := Prod.mk.inj h1
            rw [← h4] at h2
            exact ⟨h3, by simpa using h2⟩
          obtain ⟨hr1, hr2⟩ := hr
          have HR1 := Aside0.mk hr1
          have HR2b := Aside0.mk hr2
          obtain ⟨A10, n10, rfl⟩ := Kd.R_slice HC0.out
          clear hr1 hr2 HR
          go_wp2
          dsimp only [Exit.noGoto]
          refine bodyPost_ret (results_tmp3 rfl _ _ _) rfl ?_
          refine ⟨_, _, rfl, ?_, ?_, ?_⟩
          · rw [HR2b.out]
            exact HC0.out
          · rw [HL.out]
            exact Kd.R_mono HO0.out (fun _ _ => trivial)
          · rw [← HR1.out]
            exact ⟨⟨_, _, _, HI0.out⟩, HB0.out, HK0.out⟩
end
end Go.Proofs.Ytmlmiocomlehgaa.Man
namespace Go.Proofs.Ytmlmiocomlehgaa.Man
open Go.RowKit Go.Proofs.YtmlmiocomlehgaaW.PrintWords Go.Proofs.YtmlmiocomlehgaaW.PrintLast Go.Proofs.YtmlmiocomlehgaaW.PrintMore Go.Proofs.Ytmlmiocomlehgaa.PA Go.Proofs.Ytmlmiocomlehgaa.PF Go.Proofs.Ytmlmiocomlehgaa.Hid Go.Proofs.Ytmlmiocomlehgaa.Na
variable {w0 w : World} {g : Nat} {s : FS}
set_option maxHeartbeats 1000000 in
theorem fnew_raw (each guard : Int) (w0 w : World) (hB : Below w0.heap.size w0 w) :
    Calls Try.prog 12 #[.int .i64 each, .int .i64 guard] w fun e w' => ∃ g : Nat, e = .returned (ptr g) ∧ IsF w0 w' g ⟨each, guard, [], ⟨[]⟩⟩ ∧ Below w0.heap.size w0 w' ∧ Below w.heap.size w w' := by
  have HN := Aside0.mk (drains_DNew.calls ⟨[]⟩ w0 w hB rfl)
  clear hB
  go_enter Try.func12, Try.ntmps12
  go_wp2_with (go_at_call 33; refine HN.out.mono ?_; rintro e w1 ⟨gd, rfl, hd, hb1, hb2⟩; have HD := Aside0.mk hd; have HB1 := Aside0.mk hb1; have HB2 := Aside0.mk hb2; clear hd hb1 hb2)
  go_ret
  refine ⟨_, rfl, ⟨gd, .slice none 0 0, [], ⟨heap_alloc_new w1 _, HB1.out.size, HD.out.below (below_alloc (Below.refl _ _) _), Kd.R_nil _ _ _ _ _, List.nodup_nil, rfl, fun i p h hp hx => by simp at hp, List.nodup_nil⟩⟩, below_alloc HB1.out _, below_alloc HB2.out _⟩
end Go.Proofs.Ytmlmiocomlehgaa.Man
namespace Go.Proofs.Ytmlmiocomlehgaa.Man
open Go.RowKit Go.Proofs.YtmlmiocomlehgaaW.PrintWords Go.Proofs.YtmlmiocomlehgaaW.PrintLast Go.Proofs.YtmlmiocomlehgaaW.PrintMore Go.Proofs.Ytmlmiocomlehgaa.PA Go.Proofs.Ytmlmiocomlehgaa.PF Go.Proofs.Ytmlmiocomlehgaa.Hid Go.Proofs.Ytmlmiocomlehgaa.Na
variable {w0 w : World} {g : Nat} {s : FS}
theorem askD_ok {d : DS} {b : Nat} (h : DOk d b) (hb : b ≤ 1000000000) (nm : ByteArray) : DOk (askF d nm).2 (b + 1) := by
  obtain ⟨r, s', hf, hi⟩ := inv_ask h.inv hb nm
  have hn := NoEmpty.ask h.ne hf
  have hl : d.row.length ≤ 1000000000 := Nat.le_trans h.inv.2.1 hb
  have he : drains_Drains_Ask.f d nm = some ((askF d nm).1, (askF d nm).2) := by
    unfold drains_Drains_Ask.f askF
    rw [if_pos hl]
    (repeat' split) <;> rfl
  rw [he] at hf
  injection hf with hf
  injection hf with _ hf
  subst hf
  exact ⟨hi, hn⟩
theorem begin_ok {d : DS} {b : Nat} (h : DOk d b) (hb : b ≤ 1000000000) (nm : ByteArray) (dl : Int) : DOk (beginF d nm dl).2 (b + 1) := by
  obtain ⟨r, s', hf, hi⟩ := inv_begin h.inv hb nm dl
  have hn := NoEmpty.begin_ h.ne hf
  have hl : d.row.length ≤ 1000000000 := Nat.le_trans h.inv.2.1 hb
  have he : drains_Drains_Begin.f d nm dl = some ((beginF d nm dl).1, (beginF d nm dl).2) := by
    unfold drains_Drains_Begin.f beginF
    rw [if_pos hl]
    (repeat' split) <;> rfl
  rw [he] at hf
  injection hf with hf
  injection hf with _ hf
  subst hf
  exact ⟨hi, hn⟩
theorem setH_len (hs : List HV) (nm : ByteArray) (y : HV) : (setH hs nm y).length = hs.length := by simp [setH]
theorem delH_len (hs : List HV) (nm : ByteArray) : (delH hs nm).length ≤ hs.length := by
  unfold delH
  rw [List.length_eraseIdx]
  split <;> omega
/-- What bounds a fleet behind n steps. -/
structure FInv (s : FS) (n : Nat) : Prop where
  hh : s.hs.length ≤ 16 * n
  ok : DOk s.ds (2000 * n)
theorem FInv.new (each guard : Int) : FInv ⟨each, guard, [], ⟨[]⟩⟩ 0 := ⟨Nat.le_refl _, ⟨⟨List.nodup_nil, Nat.le_refl _, Nat.zero_le _⟩, fun x hx => by cases hx⟩⟩
theorem FInv.of {s' : FS} {n : Nat} (h : FInv s n) (h1 : s'.hs.length ≤ s.hs.length) (h2 : DOk s'.ds (2000 * n + 2)) : FInv s' (n + 1) := ⟨by have := h.hh; omega, h2.mono (by omega)⟩
theorem FInv.next {n : Nat} (h : FInv s n) : FInv s (n + 1) := h.of (Nat.le_refl _) (h.ok.mono (by omega))
theorem FInv.hb {n : Nat} (h : FInv s n) (hn : n ≤ 100) : s.hs.length ≤ 1000000000 := by have := h.hh; omega
theorem FInv.db {n : Nat} (h : FInv s n) (hn : n ≤ 100) : s.ds.row.length ≤ 1000000000 := by have := h.ok.inv.2.1; omega
theorem FInv.drain {n : Nat} (h : FInv s n) (hn : n ≤ 100) (nm : ByteArray) : FInv (drainF s nm).2 (n + 1) := by
  have h1 := (askD_ok h.ok (by omega) nm).mono (c := 2000 * n + 2) (by omega)
  unfold drainF
  (repeat' split) <;> first | exact h.next | exact h.of (Nat.le_refl _) h1
theorem FInv.undrain {n : Nat} (h : FInv s n) (nm : ByteArray) : FInv (undrainF s nm).2 (n + 1) := by
  have h1 := (end_ok h.ok nm).1.mono (c := 2000 * n + 2) (by omega)
  unfold undrainF
  (repeat' split) <;> first | exact h.next | exact h.of (Nat.le_refl _) h1 | exact h.of (Nat.le_of_eq (setH_len _ _ _)) h1
theorem FInv.force {n : Nat} (h : FInv s n) (hn : n ≤ 100) (nm : ByteArray) (now : Int) : FInv (forceF s nm now).2 (n + 1) := by
  have h1 := (begin_ok (end_ok h.ok nm).1 (by omega) nm now).mono (c := 2000 * n + 2) (by omega)
  unfold forceF
  (repeat' split) <;> first | exact h.next | exact h.of (Nat.le_of_eq (setH_len _ _ _)) h1
theorem FInv.eject {n : Nat} (h : FInv s n) (nm : ByteArray) : FInv (ejectF s nm).2 (n + 1) := by
  have h1 := h.ok.mono (c := 2000 * n + 2) (by omega)
  unfold ejectF
  (repeat' split) <;> first | exact h.next | exact h.of (Nat.le_of_eq (setH_len _ _ _)) h1
theorem FInv.probe {n : Nat} (h : FInv s n) (nm : ByteArray) : FInv (probeF s nm).2 (n + 1) := by
  have h1 := h.ok.mono (c := 2000 * n + 2) (by omega)
  unfold probeF
  (repeat' split) <;> first | exact h.next | exact h.of (Nat.le_of_eq (setH_len _ _ _)) h1
theorem FInv.empty {n : Nat} (h : FInv s n) (nm : ByteArray) : FInv (emptyF s nm).2 (n + 1) := by
  have h0 := h.ok.mono (c := 2000 * n + 2) (by omega)
  have h1 := (end_ok h.ok nm).1.mono (c := 2000 * n + 2) (by omega)
  unfold emptyF
  split
  · split
    · refine h.of ?_ h1
      dsimp only
      split
      · exact delH_len _ _
      · exact Nat.le_of_eq (setH_len _ _ _)
    · exact h.of (Nat.le_of_eq (setH_len _ _ _)) h0
  · exact h.next
theorem leave_ok {b : Nat} (h : DOk s.ds b) (hb : b ≤ 1000000000) (x : HV) (dl : Int) : DOk (leaveF s x dl).ds (b + 1) ∧ (leaveF s x dl).hs.length ≤ s.hs.length := by
  refine ⟨?_, (leaveF_len s x dl).2⟩
  have h1 : DOk (leaveD s.ds x.nm) b := by
    unfold leaveD
    split
    · exact (end_ok h x.nm).1
    · exact h
  have h2 := begin_ok h1 hb x.nm dl
  unfold leaveF
  (repeat' split) <;> first | exact h1.mono (by omega) | exact h2
theorem left_ok (l : List ByteArray) (dl : Int) : ∀ (hs : List HV) (s : FS) (b : Nat), DOk s.ds b → b + hs.length ≤ 1000000000 → DOk (leftL l dl hs s).1.ds (b + hs.length) ∧ (leftL l dl hs s).1.hs.length ≤ s.hs.length
  | [], s, b, h, _ => ⟨h, Nat.le_refl _⟩
  | x :: hs, s, b, h, hb => by
    have hb' : b + (hs.length + 1) ≤ 1000000000 := hb
    unfold leftL
    split
    · obtain ⟨h1, h2⟩ := left_ok l dl hs s b h (by omega)
      exact ⟨h1.mono (by simp), h2⟩
    · obtain ⟨h3, h4⟩ := leave_ok h (by omega) x dl
      obtain ⟨h1, h2⟩ := left_ok l dl hs (leaveF s x dl) (b + 1) h3 (by omega)
      exact ⟨h1.mono (by simp; omega), Nat.le_trans h2 h4⟩
theorem came_ok : ∀ (l : List ByteArray) (s : FS) (b : Nat), DOk s.ds b → DOk (cameL l s).1.ds b ∧ (cameL l s).1.hs.length ≤ s.hs.length + l.length
  | [], s, b, h => ⟨h, Nat.le_refl _⟩
  | nm :: l, s, b, h => by
    unfold cameL
    split
    · obtain ⟨h1, h2⟩ := came_ok l { s with hs := s.hs ++ [⟨nm, 0, false⟩] } b h
      refine ⟨h1, ?_⟩
      simp at h2 ⊢
      omega
    · rename_i x hx
      split
      · obtain ⟨h1, h2⟩ := came_ok l { s with hs := setH s.hs nm ⟨x.nm, nextS x.st 6, false⟩, ds := endF s.ds nm } b (end_ok h nm).1
        refine ⟨h1, ?_⟩
        rw [setH_len] at h2
        simp at h2 ⊢
        omega
      · obtain ⟨h1, h2⟩ := came_ok l s b h
        exact ⟨h1, by simp; omega⟩
theorem check_len {l : List ByteArray} (h : checkE l = 0) : l.length ≤ 16 := by
  unfold checkE at h
  by_cases c : 16 < l.length
  · rw [if_pos c] at h
    cases h
  · omega
theorem FInv.resolve {n : Nat} (h : FInv s n) (hn : n ≤ 100) (l : List ByteArray) (dl : Int) : FInv (resolveF s l dl).2 (n + 1) := by
  unfold resolveF
  have h0 := h.hh
  split
  · rename_i hc
    obtain ⟨h1, h2⟩ := left_ok l dl s.hs s _ h.ok (by omega)
    obtain ⟨h3, h4⟩ := came_ok l (leftL l dl s.hs s).1 _ h1
    have := check_len hc
    exact ⟨by show (cameL _ _).1.hs.length ≤ _; omega, h3.mono (by omega)⟩
  · exact h.next
theorem admitL_ok (dl : Int) : ∀ (l : List ByteArray) (s : FS) (b : Nat), DOk s.ds b → namesOf s.ds.row false = l → DOk (admitL dl l s).1.ds b ∧ (admitL dl l s).1.hs.length = s.hs.length
  | [], s, b, h, _ => ⟨h, rfl⟩
  | nm :: l, s, b, h, hw => by
    unfold admitL
    split
    · obtain ⟨h1, h2, h3⟩ := admit_ok h hw dl
      obtain ⟨h4, h5⟩ := admitL_ok dl l (admit1 s nm dl) b (h1.mono (Nat.le_trans h2 h.inv.2.1)) h3
      exact ⟨h4, h5.trans (admit_hs s nm dl)⟩
    · exact ⟨h, rfl⟩
theorem FInv.admit {n : Nat} (h : FInv s n) (dl : Int) : FInv (admitF s dl).2 (n + 1) := by
  obtain ⟨h1, h2⟩ := admitL_ok dl _ s _ h.ok rfl
  exact h.of (Nat.le_of_eq h2) (h1.mono (by omega))
section
variable {n : Nat} (hn : n ≤ 100) (hv : FInv s n) (hF : IsF w0 w g s) (hB : Below w0.heap.size w0 w)
include hn hv hF hB
theorem drain_any (nm : ByteArray) : Calls Try.prog 16 #[ptr g, .string nm] w fun e w' => e = .returned (.int .i64 (drainF s nm).1) ∧ St w0 w w' g (drainF s nm).2 := by
  obtain ⟨gd, v, ps, hI⟩ := hF
  exact drain_raw nm (hv.db hn) hI hB
theorem undrain_any (nm : ByteArray) : Calls Try.prog 24 #[ptr g, .string nm] w fun e w' => e = .returned (.int .i64 (undrainF s nm).1) ∧ St w0 w w' g (undrainF s nm).2 := by
  obtain ⟨gd, v, ps, hI⟩ := hF
  exact undrain_raw nm (hv.db hn) hI hB
theorem force_any (nm : ByteArray) (now : Int) : Calls Try.prog 28 #[ptr g, .string nm, .int .i64 now] w fun e w' => e = .returned (.int .i64 (forceF s nm now).1) ∧ St w0 w w' g (forceF s nm now).2 := by
  obtain ⟨gd, v, ps, hI⟩ := hF
  exact force_raw nm now (hv.db hn) hI hB
theorem eject_any (nm : ByteArray) : Calls Try.prog 29 #[ptr g, .string nm] w fun e w' => e = .returned (.int .i64 (ejectF s nm).1) ∧ St w0 w w' g (ejectF s nm).2 := by
  obtain ⟨gd, v, ps, hI⟩ := hF
  exact eject_raw nm (hv.hb hn) hI hB
theorem probe_any (nm : ByteArray) : Calls Try.prog 51 #[ptr g, .string nm] w fun e w' => e = .returned (.bool (probeF s nm).1) ∧ St w0 w w' g (probeF s nm).2 := by
  obtain ⟨gd, v, ps, hI⟩ := hF
  exact probe_raw nm hI hB
theorem empty_any (nm : ByteArray) : Calls Try.prog 23 #[ptr g, .string nm] w fun e w' => e = .returned (.bool (emptyF s nm).1) ∧ St w0 w w' g (emptyF s nm).2 := by
  obtain ⟨gd, v, ps, hI⟩ := hF
  exact empty_raw nm (hv.db hn) (hv.hb hn) hI hB
theorem admit_any (dl : Int) : Calls Try.prog 14 #[ptr g, .int .i64 dl] w fun e w' => ∃ v1_ : Value, e = .returned v1_ ∧ Kd.R Kd.string 9 w' w.heap.size (fun _ => True) v1_ (admitF s dl).1 ∧ St w0 w w' g (admitF s dl).2 := by
  obtain ⟨gd, v, ps, hI⟩ := hF
  exact admit_raw dl (2000 * n) (by omega) (hv.hb hn) hv.ok hI hB
theorem resolve_anyB (l : List ByteArray) (A : Option Addr) (c : Nat) (dl : Int) (hc : l.length ≤ c) (hs : ∀ x ∈ l, x.size ≤ maxLen) (hC : ∀ W, KeptH TF w W → Below w0.heap.size w0 W → Kd.C Kd.string W A l.length l) :
    Calls Try.prog 13 #[ptr g, .slice A l.length c, .int .i64 dl] w fun e w' => ∃ v1 v2 : Value, e = .returned (.tuple #[v1, v2, .int .i64 (resolveF s l dl).1.2.2]) ∧ Kd.R Kd.string 9 w' w.heap.size (fun _ => True) v1 (resolveF s l dl).1.1 ∧ Kd.R Kd.string 9 w' w.heap.size (fun _ => True) v2 (resolveF s l dl).1.2.1 ∧ St w0 w w' g (resolveF s l dl).2 := by
  obtain ⟨gd, v, ps, hI⟩ := hF
  have h0 := hv.hh
  have h1 := hv.ok.inv.2.1
  unfold resolveF
  rcases checkE_cases l with h | h | h | h
  · rw [h, if_neg (by decide)]
    refine (resolve_13 l A c dl hc hs hC hI hB h).mono ?_
    rintro e w' ⟨rfl, h2⟩
    exact ⟨_, _, rfl, Kd.R_nil _ _ _ _ _, Kd.R_nil _ _ _ _ _, h2⟩
  · rw [h, if_neg (by decide)]
    refine (resolve_11 l A c dl hc hs hC hI hB h).mono ?_
    rintro e w' ⟨rfl, h2⟩
    exact ⟨_, _, rfl, Kd.R_nil _ _ _ _ _, Kd.R_nil _ _ _ _ _, h2⟩
  · rw [h, if_neg (by decide)]
    refine (resolve_6 l A c dl hc hs hC hI hB h).mono ?_
    rintro e w' ⟨rfl, h2⟩
    exact ⟨_, _, rfl, Kd.R_nil _ _ _ _ _, Kd.R_nil _ _ _ _ _, h2⟩
  · rw [h, if_pos rfl]
    refine (resolve_ok l A c dl hc hs hC hI hB h (by omega) (by omega) (check_len h)).mono ?_
    rintro e w' ⟨v1, v2, rfl, h2, h3, h4⟩
    exact ⟨v1, v2, rfl, h2, h3, h4⟩
theorem resolve_any (l : List ByteArray) (A : Option Addr) (c : Nat) (dl : Int) (hc : l.length ≤ c) (hs : ∀ x ∈ l, x.size ≤ maxLen) (hC : ∀ W, KeptH TF w W → Kd.C Kd.string W A l.length l) :
    Calls Try.prog 13 #[ptr g, .slice A l.length c, .int .i64 dl] w fun e w' => ∃ v1 v2 : Value, e = .returned (.tuple #[v1, v2, .int .i64 (resolveF s l dl).1.2.2]) ∧ Kd.R Kd.string 9 w' w.heap.size (fun _ => True) v1 (resolveF s l dl).1.1 ∧ Kd.R Kd.string 9 w' w.heap.size (fun _ => True) v2 (resolveF s l dl).1.2.1 ∧ St w0 w w' g (resolveF s l dl).2 :=
  resolve_anyB hn hv hF hB l A c dl hc hs (fun W h _ => hC W h)
omit hB
theorem due_any (now : Int) : Calls Try.prog 22 #[ptr g, .int .i64 now] w fun e w' => ∃ v1_ : Value, e = .returned v1_ ∧ Kd.R Kd.string 9 w' w.heap.size (fun _ => True) v1_ (dueOf s.ds now) ∧ Below w.heap.size w w' := by
  obtain ⟨gd, v, ps, hI⟩ := hF
  exact fdue_raw now (hv.db hn) hI
theorem ahead_any (nm : ByteArray) : Calls Try.prog 17 #[ptr g, .string nm] w fun e w' => e = .returned (.int .i64 (idxOf (namesOf s.ds.row false) nm 0)) ∧ Below w.heap.size w w' := by
  obtain ⟨gd, v, ps, hI⟩ := hF
  exact fahead_raw nm (hv.db hn) hI
theorem names_any : Calls Try.prog 32 #[ptr g] w fun e w' => ∃ v1_ : Value, e = .returned v1_ ∧ Kd.R Kd.string 9 w' w.heap.size (fun _ => True) v1_ (s.hs.map (·.nm)) ∧ Below w.heap.size w w' := by
  obtain ⟨gd, v, ps, hI⟩ := hF
  exact fnames_raw (hv.hb hn) hI
theorem states_any : Calls Try.prog 30 #[ptr g] w fun e w' => ∃ v1_ : Value, e = .returned v1_ ∧ Kd.R (Kd.int .i64) 3 w' w.heap.size (fun _ => True) v1_ (s.hs.map (·.st)) ∧ Below w.heap.size w w' := by
  obtain ⟨gd, v, ps, hI⟩ := hF
  exact states_raw (hv.hb hn) hI
theorem capacity_any : Calls Try.prog 15 #[ptr g] w fun e w' => e = .returned (.int .i64 (capV s)) ∧ Below w.heap.size w w' := by
  obtain ⟨gd, v, ps, hI⟩ := hF
  exact capacity_raw (hv.hb hn) hI
omit hn hv
theorem state_any (nm : ByteArray) : Calls Try.prog 20 #[ptr g, .string nm] w fun e w' => e = .returned (.tuple #[.int .i64 (stateV s nm).1, .bool (stateV s nm).2]) ∧ Below w.heap.size w w' := by
  obtain ⟨gd, v, ps, hI⟩ := hF
  exact state_raw nm hI
theorem leaves_any (nm : ByteArray) : Calls Try.prog 21 #[ptr g, .string nm] w fun e w' => e = .returned (.bool (leavesV s nm)) ∧ Below w.heap.size w w' := by
  obtain ⟨gd, v, ps, hI⟩ := hF
  exact leaves_raw nm hI
end
end Go.Proofs.Ytmlmiocomlehgaa.Man
namespace Go.Proofs.Ytmlmiocomlehgaa.Man
open Go.RowKit Go.Proofs.YtmlmiocomlehgaaW.PrintWords Go.Proofs.YtmlmiocomlehgaaW.PrintLast Go.Proofs.YtmlmiocomlehgaaW.PrintMore Go.Proofs.Ytmlmiocomlehgaa.PA Go.Proofs.Ytmlmiocomlehgaa.PF Go.Proofs.Ytmlmiocomlehgaa.Hid Go.Proofs.Ytmlmiocomlehgaa.Na
variable {w0 w : World} {g : Nat} {s : FS}
theorem rowC {base n : Nat} {A : Option Addr} {ok : Nat → Prop} {l : List ByteArray} (h : Kd.R Kd.string 9 w base ok (.slice A l.length n) l) : ∀ W, KeptH TF w W → Kd.C Kd.string W A l.length l :=
  fun W hk => (Kd.R_reads' (row_keepG h hk str_tf)).2.2
theorem addr0 (a : Addr) : a.add 0 = a := by simp [Addr.add]
theorem two_C {W : World} {b : Nat} {x y : ByteArray} (h : W.heap[b]? = some (.cells #[.string x, .string y] 9 (0, 0))) : Kd.C Kd.string W (some ⟨b, 0, none⟩) 2 [x, y] := by
  refine ⟨rfl, by decide, fun _ => ⟨_, rfl, fun j p hp => ⟨[.string p], rfl, rfl, fun i u hu => ?_⟩⟩⟩
  have hi : i = 0 := by
    have := (List.getElem?_eq_some_iff.1 hu).1
    simp at this
    omega
  subst hi
  simp at hu
  subst hu
  show W.cell? ((⟨b, 0, none⟩ : Addr).add (j * 1 + 0)) = _
  rw [add_plain]
  match j, hp with
  | 0, hp =>
    simp at hp
    subst hp
    exact (blk_cell h 0).trans rfl
  | 1, hp =>
    simp at hp
    subst hp
    exact (blk_cell h 1).trans rfl
  | j + 2, hp => simp at hp
def tA : ByteArray := ⟨#[97]⟩
def tB : ByteArray := ⟨#[98]⟩
def l0 : FS := ⟨2, 2, [], ⟨[]⟩⟩
def l1 : FS := ⟨2, 2, [⟨tA, 0, false⟩, ⟨tB, 0, false⟩], ⟨[]⟩⟩
def l2 : FS := ⟨2, 2, [⟨tA, 0, false⟩, ⟨tB, 0, false⟩], ⟨[⟨tA, 0, false⟩]⟩⟩
def l3 : FS := ⟨2, 2, [⟨tA, 0, false⟩, ⟨tB, 0, false⟩], ⟨[⟨tA, 0, false⟩, ⟨tB, 0, false⟩]⟩⟩
def l4 : FS := ⟨2, 2, [⟨tA, 1, false⟩, ⟨tB, 0, false⟩], ⟨[⟨tB, 0, false⟩, ⟨tA, 10, true⟩]⟩⟩
theorem e1 : resolveF l0 [tA, tB] 0 = (([tA, tB], [], 0), l1) := by kernel_rfl
theorem e2 : drainF l1 tA = (0, l2) := by kernel_rfl
theorem e3 : drainF l2 tB = (0, l3) := by kernel_rfl
theorem e4 : admitF l3 10 = ([tA], l4) := by kernel_rfl
theorem e5 : idxOf (namesOf l4.ds.row false) tB 0 = 0 := by kernel_rfl
theorem e6 : capV l4 = 2 := by kernel_rfl
theorem v0 : FInv l0 0 := FInv.new 2 2
theorem v1 : FInv l1 1 := by have := v0.resolve (by decide) [tA, tB] 0; rwa [e1] at this
theorem v2 : FInv l2 2 := by have := v1.drain (by decide) tA; rwa [e2] at this
theorem v3 : FInv l3 3 := by have := v2.drain (by decide) tB; rwa [e3] at this
theorem v4 : FInv l4 4 := by have := v3.admit 10; rwa [e4] at this
set_option maxHeartbeats 4000000 in
theorem lives_raw (w : World) : Calls Try.prog 10 #[] w fun e w' => e = .returned (.bool true) ∧ Below w.heap.size w w' := by
  have HN := Aside0.mk (fnew_raw 2 2 w w (Below.refl _ _))
  have H1 := Aside0.mk (fun (g : Nat) (W : World) (hI : IsF w W g l0) (hB : Below w.heap.size w W) (b : Nat) (hb : W.heap[b]? = some (.cells #[.string tA, .string tB] 9 (0, 0))) =>
    resolve_any (n := 0) (by decide) v0 hI hB [tA, tB] (some ⟨b, 0, none⟩) 2 0 (Nat.le_refl _) (by intro x hx; simp at hx; rcases hx with rfl | rfl <;> decide) (fun W' hk => two_C (Ko.blkc hk hb (by decide))))
  have H2 := Aside0.mk (fun (g : Nat) (W : World) (hI : IsF w W g l1) (hB : Below w.heap.size w W) => drain_any (n := 1) (by decide) v1 hI hB tA)
  have H3 := Aside0.mk (fun (g : Nat) (W : World) (hI : IsF w W g l2) (hB : Below w.heap.size w W) => drain_any (n := 2) (by decide) v2 hI hB tB)
  have H4 := Aside0.mk (fun (g : Nat) (W : World) (hI : IsF w W g l3) (hB : Below w.heap.size w W) => admit_any (n := 3) (by decide) v3 hI hB 10)
  have H5 := Aside0.mk (fun (g : Nat) (W : World) (hI : IsF w W g l4) => ahead_any (n := 4) (by decide) v4 hI tB)
  have H6 := Aside0.mk (fun (g : Nat) (W : World) (hI : IsF w W g l4) => capacity_any (n := 4) (by decide) v4 hI)
  rw [e1] at H1
  rw [e2] at H2
  rw [e3] at H3
  rw [e4] at H4
  rw [e5] at H5
  rw [e6] at H6
  go_enter Try.func10, Try.ntmps10
  go_wp2_with (first
    | (go_at_call 12; refine HN.out.mono ?_; rintro e wa ⟨g, rfl, hi, hb, _⟩; have KA := Aside0.mk (hi.below (below_alloc (Below.refl _ _) (.cells #[.string tA, .string tB] 9))); have BA := Aside0.mk (below_alloc hb (.cells #[.string tA, .string tB] 9)); clear hi hb HN)
    | (go_at_call 13; refine (H1.out g _ KA.out BA.out wa.heap.size (heap_alloc_new wa _)).mono ?_; rintro e wb ⟨v1, v2, rfl, hr1, hr2, hi, hb, _⟩; obtain ⟨A1, n1, rfl⟩ := Kd.R_slice hr1; obtain ⟨A2, n2, rfl⟩ := Kd.R_slice hr2; have KB := Aside0.mk hi; have BB := Aside0.mk hb; clear hi hb H1 KA BA hr1 hr2)
    | (go_at_call 16; refine (H2.out g wb KB.out BB.out).mono ?_; rintro e wc ⟨rfl, hi, hb, _⟩; have KC := Aside0.mk hi; have BC := Aside0.mk hb; clear hi hb H2 KB BB)
    | (go_at_call 16; refine (H3.out g wc KC.out BC.out).mono ?_; rintro e wd ⟨rfl, hi, hb, _⟩; have KD := Aside0.mk hi; have BD := Aside0.mk hb; clear hi hb H3 KC BC)
    | (go_at_call 14; refine (H4.out g wd KD.out BD.out).mono ?_; rintro e we ⟨v4, rfl, hr4, hi, hb, _⟩; obtain ⟨A4, n4, rfl⟩ := Kd.R_slice hr4; obtain ⟨ad4, had4, hx4⟩ := Kd.at_string (Kd.R_reads' hr4).2.2 0 (by decide) (by decide); subst had4; rw [show rdOf ByteArray.empty [tA] 0 = tA from rfl, show (0 : Int).toNat = 0 from rfl] at hx4; have hx4b : we.cell? ad4 = some (.string ⟨#[97]⟩) := (congrArg we.cell? (addr0 ad4)).symm.trans hx4; clear hx4; have KE := Aside0.mk hi; have BE := Aside0.mk hb; clear hi hb H4 KD BD hr4)
    | (go_at_call 17; refine (H5.out g we KE.out).mono ?_; rintro e wf ⟨rfl, hb⟩; have KF := Aside0.mk (KE.out.below hb); have BF := Aside0.mk (below_step BE.out hb); clear hb H5 KE BE)
    | (go_at_call 15; refine (H6.out g wf KF.out).mono ?_; rintro e wg ⟨rfl, hb⟩; have BG := Aside0.mk (below_step BF.out hb); clear hb H6 KF BF))
  go_ret
  exact ⟨rfl, BG.out⟩
end Go.Proofs.Ytmlmiocomlehgaa.Man
namespace Go.Proofs.Ytmlmiocomlehgaa.Nil
open Go.RowKit Go.Proofs.YtmlmiocomlehgaaW.PrintWords Go.Proofs.YtmlmiocomlehgaaW.PrintLast Go.Proofs.YtmlmiocomlehgaaW.PrintMore Go.Proofs.Ytmlmiocomlehgaa.PA Go.Proofs.Ytmlmiocomlehgaa.PF Go.Proofs.Ytmlmiocomlehgaa.Hid Go.Proofs.Ytmlmiocomlehgaa.Man
set_option maxHeartbeats 1000000 in
theorem at_nil (a1 : ByteArray) (w : World) : Calls Try.prog 56 #[.pointer none, .string a1] w fun e w' => e = .returned (.int .i64 (-1)) ∧ Below w.heap.size w w' := by
  go_enter Try.func56, Try.ntmps56
  go_wp2
  go_ret
  exact ⟨rfl, below_alloc (Below.refl _ _) _⟩
set_option maxHeartbeats 1000000 in
theorem find_nil (a1 : ByteArray) (w : World) : Calls Try.prog 38 #[.pointer none, .string a1] w fun e w' => e = .returned (.pointer none) ∧ Below w.heap.size w w' := by
  go_enter Try.func38, Try.ntmps38
  go_wp2_with (first
    | (go_at_call 56; refine (at_nil a1 _).mono ?_; rintro e wa ⟨rfl, hwa⟩)
)
  go_ret
  exact ⟨rfl, hwa⟩
set_option maxHeartbeats 1000000 in
theorem known_nil (a1 : ByteArray) (w : World) : Calls Try.prog 45 #[.pointer none, .string a1] w fun e w' => e = .returned (.tuple #[.pointer none, .int .i64 1]) ∧ Below w.heap.size w w' := by
  go_enter Try.func45, Try.ntmps45
  go_wp2_with (first
    | (go_at_call 38; refine (find_nil a1 _).mono ?_; rintro e wa ⟨rfl, hwa⟩)
)
  go_ret2
  exact ⟨rfl, hwa⟩
set_option maxHeartbeats 1000000 in
theorem drain_nil (a1 : ByteArray) (w : World) : Calls Try.prog 16 #[.pointer none, .string a1] w fun e w' => e = .returned (.int .i64 1) ∧ Below w.heap.size w w' := by
  go_enter Try.func16, Try.ntmps16
  go_wp2_with (first
    | (go_at_call 45; refine (known_nil a1 _).mono ?_; rintro e wa ⟨rfl, hwa⟩)
)
  go_ret
  exact ⟨rfl, hwa⟩
set_option maxHeartbeats 1000000 in
theorem undrain_nil (a1 : ByteArray) (w : World) : Calls Try.prog 24 #[.pointer none, .string a1] w fun e w' => e = .returned (.int .i64 1) ∧ Below w.heap.size w w' := by
  go_enter Try.func24, Try.ntmps24
  go_wp2_with (first
    | (go_at_call 45; refine (known_nil a1 _).mono ?_; rintro e wa ⟨rfl, hwa⟩)
)
  go_ret
  exact ⟨rfl, hwa⟩
set_option maxHeartbeats 1000000 in
theorem eject_nil (a1 : ByteArray) (w : World) : Calls Try.prog 29 #[.pointer none, .string a1] w fun e w' => e = .returned (.int .i64 1) ∧ Below w.heap.size w w' := by
  go_enter Try.func29, Try.ntmps29
  go_wp2_with (first
    | (go_at_call 45; refine (known_nil a1 _).mono ?_; rintro e wa ⟨rfl, hwa⟩)
)
  go_ret
  exact ⟨rfl, hwa⟩
set_option maxHeartbeats 1000000 in
theorem force_nil (a1 : ByteArray) (now : Int) (w : World) : Calls Try.prog 28 #[.pointer none, .string a1, .int .i64 now] w fun e w' => e = .returned (.int .i64 1) ∧ Below w.heap.size w w' := by
  go_enter Try.func28, Try.ntmps28
  go_wp2_with (first
    | (go_at_call 45; refine (known_nil a1 _).mono ?_; rintro e wa ⟨rfl, hwa⟩)
)
  go_ret
  exact ⟨rfl, hwa⟩
set_option maxHeartbeats 1000000 in
theorem resolve_nil (A : Option Addr) (n c : Nat) (dl : Int) (w : World) : Calls Try.prog 13 #[.pointer none, .slice A n c, .int .i64 dl] w fun e w' => e = .returned (.tuple #[.slice none 0 0, .slice none 0 0, .int .i64 1]) ∧ w = w' := by
  go_enter Try.func13, Try.ntmps13
  go_wp2
  go_step3
  go_wp2
  dsimp only [Exit.noGoto]
  refine bodyPost_ret (results_tmp3 rfl _ _ _) rfl ?_
  exact ⟨rfl, rfl⟩
set_option maxHeartbeats 1000000 in
theorem admit_nil (dl : Int) (w : World) : Calls Try.prog 14 #[.pointer none, .int .i64 dl] w fun e w' => e = .returned (.slice none 0 0) ∧ w = w' := by
  go_enter Try.func14, Try.ntmps14
  go_wp2
  go_loopw [5] (fun v5 wr => v5 = .slice none 0 0 ∧ w = wr) (fun _ _ => 0)
  case atStart => exact ⟨rfl, rfl⟩
  case round =>
    obtain ⟨rfl, rfl⟩ := hrel
    go_wp2
    go_ret
    exact ⟨rfl, rfl⟩
set_option maxHeartbeats 1000000 in
theorem probe_nil (a1 : ByteArray) (w : World) : Calls Try.prog 51 #[.pointer none, .string a1] w fun e w' => e = .returned (.bool false) ∧ Below w.heap.size w w' := by
  go_enter Try.func51, Try.ntmps51
  go_wp2_with (first
    | (go_at_call 38; refine (find_nil a1 _).mono ?_; rintro e wa ⟨rfl, hwa⟩)
)
  go_ret
  exact ⟨rfl, hwa⟩
set_option maxHeartbeats 1000000 in
theorem empty_nil (a1 : ByteArray) (w : World) : Calls Try.prog 23 #[.pointer none, .string a1] w fun e w' => e = .returned (.bool false) ∧ Below w.heap.size w w' := by
  go_enter Try.func23, Try.ntmps23
  go_wp2_with (first
    | (go_at_call 38; refine (find_nil a1 _).mono ?_; rintro e wa ⟨rfl, hwa⟩)
)
  go_ret
  exact ⟨rfl, hwa⟩
set_option maxHeartbeats 1000000 in
theorem row_nil (w : World) : Calls Try.prog 47 #[.pointer none] w fun e w' => e = .returned (.pointer none) ∧ w = w' := by
  go_enter Try.func47, Try.ntmps47
  go_wp2
  go_ret
  exact ⟨rfl, rfl⟩
set_option maxHeartbeats 1000000 in
theorem names_nil (w : World) : Calls Try.prog 32 #[.pointer none] w fun e w' => e = .returned (.slice none 0 0) ∧ w = w' := by
  go_enter Try.func32, Try.ntmps32
  go_wp2
  go_ret
  exact ⟨rfl, rfl⟩
set_option maxHeartbeats 1000000 in
theorem states_nil (w : World) : Calls Try.prog 30 #[.pointer none] w fun e w' => e = .returned (.slice none 0 0) ∧ w = w' := by
  go_enter Try.func30, Try.ntmps30
  go_wp2
  go_ret
  exact ⟨rfl, rfl⟩
set_option maxHeartbeats 1000000 in
theorem capacity_nil (w : World) : Calls Try.prog 15 #[.pointer none] w fun e w' => e = .returned (.int .i64 0) ∧ w = w' := by
  go_enter Try.func15, Try.ntmps15
  go_wp2
  go_ret
  exact ⟨rfl, rfl⟩
set_option maxHeartbeats 1000000 in
theorem state_nil (a1 : ByteArray) (w : World) : Calls Try.prog 20 #[.pointer none, .string a1] w fun e w' => e = .returned (.tuple #[.int .i64 0, .bool false]) ∧ Below w.heap.size w w' := by
  go_enter Try.func20, Try.ntmps20
  go_wp2_with (first
    | (go_at_call 38; refine (find_nil a1 _).mono ?_; rintro e wa ⟨rfl, hwa⟩)
)
  go_ret2
  exact ⟨rfl, hwa⟩
set_option maxHeartbeats 1000000 in
theorem leaves_nil (a1 : ByteArray) (w : World) : Calls Try.prog 21 #[.pointer none, .string a1] w fun e w' => e = .returned (.bool false) ∧ Below w.heap.size w w' := by
  go_enter Try.func21, Try.ntmps21
  go_wp2_with (first
    | (go_at_call 38; refine (find_nil a1 _).mono ?_; rintro e wa ⟨rfl, hwa⟩)
)
  go_ret
  exact ⟨rfl, hwa⟩
set_option maxHeartbeats 1000000 in
theorem dnames_nil (u : Bool) (w : World) : Calls Try.prog 82 #[.pointer none, .bool u] w fun e w' => e = .returned (.slice none 0 0) ∧ w = w' := by
  go_enter Try.func82, Try.ntmps82
  go_wp2
  go_ret
  exact ⟨rfl, rfl⟩
set_option maxHeartbeats 1000000 in
theorem waits_nil (w : World) : Calls Try.prog 64 #[.pointer none] w fun e w' => e = .returned (.slice none 0 0) ∧ w = w' := by
  go_enter Try.func64, Try.ntmps64
  go_wp2_with (first
    | (go_at_call 82; refine (dnames_nil false _).mono ?_; rintro e w' ⟨rfl, rfl⟩)
)
  go_ret
  exact ⟨rfl, rfl⟩
set_option maxHeartbeats 1000000 in
theorem under_nil (w : World) : Calls Try.prog 66 #[.pointer none] w fun e w' => e = .returned (.slice none 0 0) ∧ w = w' := by
  go_enter Try.func66, Try.ntmps66
  go_wp2_with (first
    | (go_at_call 82; refine (dnames_nil true _).mono ?_; rintro e w' ⟨rfl, rfl⟩)
)
  go_ret
  exact ⟨rfl, rfl⟩
set_option maxHeartbeats 1000000 in
theorem dahead_nil (a1 : ByteArray) (w : World) : Calls Try.prog 48 #[.pointer none, .string a1] w fun e w' => e = .returned (.int .i64 (-1)) ∧ Below w.heap.size w w' := by
  have hi := slices_Index_string_string.calls 1 none 0 [] a1 (-1) w (Kd.R_reads' (Kd.R_nil Kd.string 9 w 0 (fun _ => True))).2.2 (Nat.le_refl _) rfl
  go_enter Try.func48, Try.ntmps48
  go_wp2_with (first
    | (go_at_call 64; refine (waits_nil _).mono ?_; rintro e w' ⟨rfl, rfl⟩)
    | (go_at_call 55; refine hi.mono ?_; rintro e w' ⟨rfl, hb⟩))
  go_ret
  exact ⟨rfl, Drawn0.below hb⟩
set_option maxHeartbeats 1000000 in
theorem idxS_nil (v : Value) (w : World) : Calls Try.prog 72 #[.slice none 0 0, v] w fun e w' => e = .returned (.int .i64 (-1)) ∧ w = w' := by
  go_enter Try.func72, Try.ntmps72
  go_wp2
  go_loopw [8] (fun v8 wr => v8 = .int .i64 0 ∧ w = wr) (fun _ _ => 0)
  case atStart => exact ⟨rfl, rfl⟩
  case round =>
    obtain ⟨rfl, rfl⟩ := hrel
    go_wp2
    go_ret
    exact ⟨rfl, rfl⟩
set_option maxHeartbeats 1000000 in
theorem ddue_nil (a1 : Int) (w : World) : Calls Try.prog 49 #[.pointer none, .int .i64 a1] w fun e w' => e = .returned (.slice none 0 0) ∧ Below w.heap.size w w' := by
  have hdf : ∀ (v : Value) (w : World), Calls Try.prog 65 #[.slice none 0 0, v] w fun e w' => e = .returned (.slice none 0 0) ∧ w = w' := by
    intro v w
    go_enter Try.func65, Try.ntmps65
    go_wp2_with (go_at_call 72; refine (idxS_nil v _).mono ?_; rintro e w' ⟨rfl, rfl⟩)
    go_ret
    exact ⟨rfl, rfl⟩
  go_enter Try.func49, Try.ntmps49
  go_wp2_with (first
    | (go_at_call 66; refine (under_nil _).mono ?_; rintro e w' ⟨rfl, rfl⟩)
    | (go_at_call 65; refine (hdf _ _).mono ?_; rintro e w' ⟨rfl, rfl⟩))
  go_ret
  exact ⟨rfl, below_alloc (below_alloc (Below.refl _ w) _) _⟩
set_option maxHeartbeats 1000000 in
theorem ahead_nil (a1 : ByteArray) (w : World) : Calls Try.prog 17 #[.pointer none, .string a1] w fun e w' => e = .returned (.int .i64 (-1)) ∧ Below w.heap.size w w' := by
  go_enter Try.func17, Try.ntmps17
  go_wp2_with (first
    | (go_at_call 47; refine (row_nil _).mono ?_; rintro e w' ⟨rfl, rfl⟩)
    | (go_at_call 48; refine (dahead_nil a1 _).mono ?_; rintro e wa ⟨rfl, hwa⟩)
)
  go_ret
  exact ⟨rfl, hwa⟩
set_option maxHeartbeats 1000000 in
theorem due_nil (a1 : Int) (w : World) : Calls Try.prog 22 #[.pointer none, .int .i64 a1] w fun e w' => e = .returned (.slice none 0 0) ∧ Below w.heap.size w w' := by
  go_enter Try.func22, Try.ntmps22
  go_wp2_with (first
    | (go_at_call 47; refine (row_nil _).mono ?_; rintro e w' ⟨rfl, rfl⟩)
    | (go_at_call 49; refine (ddue_nil a1 _).mono ?_; rintro e wa ⟨rfl, hwa⟩)
)
  go_ret
  exact ⟨rfl, hwa⟩
/-- A step's kind. -/
def kindOf (k : Int) : Int := wrap64 (Int.tmod (IntKind.u64.wrap k) 8)
theorem mod_n (x : Int) (m : Nat) (h0 : 0 < m) (h9 : m ≤ 1000) : ∃ n : Nat, wrap64 (Int.tmod (IntKind.u64.wrap x) (m : Int)) = (n : Int) ∧ n < m := by
  have hw : 0 ≤ IntKind.u64.wrap x := by
    unfold IntKind.wrap
    simp [IntKind.bits, IntKind.signed]
    omega
  have h1 : 0 ≤ Int.tmod (IntKind.u64.wrap x) (m : Int) := Int.tmod_nonneg _ hw
  have h2 : Int.tmod (IntKind.u64.wrap x) (m : Int) < m := Int.tmod_lt_of_pos _ (by omega)
  exact ⟨(Int.tmod (IntKind.u64.wrap x) (m : Int)).toNat, by unfold wrap64; omega, by omega⟩
theorem kind_range (k : Int) : kindOf k = 0 ∨ kindOf k = 1 ∨ kindOf k = 2 ∨ kindOf k = 3 ∨ kindOf k = 4 ∨ kindOf k = 5 ∨ kindOf k = 6 ∨ kindOf k = 7 := by
  obtain ⟨n, h, hn⟩ := mod_n k 8 (by decide) (by decide)
  have h' : kindOf k = (n : Int) := h
  rw [h']
  omega
abbrev stV (k n : Int) (nm : ByteArray) (A : Option Addr) (m c : Nat) : Value := .agg #[.int .i64 k, .int .i64 n, .string nm, .slice A m c]
theorem kind_raw (k n : Int) (nm : ByteArray) (A : Option Addr) (m c : Nat) (w : World) : Calls Try.prog 27 #[stV k n nm A m c] w fun e w' => e = .returned (.int .i64 (kindOf k)) ∧ Below w.heap.size w w' := by
  unfold kindOf
  go_enter Try.func27, Try.ntmps27
  go_wp2
  go_ret
  exact ⟨rfl, below_alloc (Below.refl _ _) _⟩
end Go.Proofs.Ytmlmiocomlehgaa.Nil
