/-
  The fleet: contracts of its functions, proved by walking them, and plain facts, several texts in one (Lw, St, Ey, Gd, Pu, Pr, Pg, Sc, Si, Lt). Conditions: none.
-/
import Derived.Test.YtmlmiocomlehgaaB7
import Derived.Test.YtmlmiocomlehgaaPAx2
import Derived.Test.YtmlmiocomlehgaaB6
set_option linter.unusedVariables false
set_option linter.unusedSimpArgs false
set_option linter.unusedSectionVars false
namespace Go.Proofs.Ytmlmiocomlehgaa.Nil
open Go.RowKit Go.Proofs.YtmlmiocomlehgaaW.PrintWords Go.Proofs.YtmlmiocomlehgaaW.PrintLast Go.Proofs.YtmlmiocomlehgaaW.PrintMore Go.Proofs.Ytmlmiocomlehgaa.PA Go.Proofs.Ytmlmiocomlehgaa.PF Go.Proofs.Ytmlmiocomlehgaa.Hid Go.Proofs.Ytmlmiocomlehgaa.Man
theorem two_blocks {w w1 : World} {o1 o2 : Obj} (h : Below ((w.alloc o1).alloc o2).heap.size ((w.alloc o1).alloc o2) w1) : w1.heap[w.heap.size]? = some o1 ∧ w1.heap[w.heap.size + 1]? = some o2 := by
  refine ⟨(h.block w.heap.size (by simp; omega)).trans ((Below.heap_alloc (w.alloc o1) _ _ (by simp)).trans (heap_alloc_new w o1)), (h.block (w.heap.size + 1) (by simp)).trans ?_⟩
  have := heap_alloc_new (w.alloc o1) o2
  simpa using this
theorem results_c1 {P : Program} {fn : Func} {p : Tmp} {ty : TypeId} (h : fn.results = #[.cell p ty]) (tmps : Array Value) (w : World) (g : Nat) (t : TypeId) (cs : Array Value) (fr : Nat × Nat) (d : TypeDesc)
    (hp : tmps.getD p undef = .pointer (some ⟨g, 0, none⟩)) (hg : w.heap[g]? = some (.cells cs t fr))
    (hu : P.underlying ty = some d) (hd : (match d with | .struct _ | .array _ _ => true | _ => false) = true) (hi : (P.info? ty).map (·.size) = some cs.size) :
    (results fn tmps).run P w = .ok (.agg cs) w := by
  have hp' : tmps[p]?.getD undef = .pointer (some ⟨g, 0, none⟩) := by simpa using hp
  simp [results, h, hp', asAddr, run_loadVar_row w g t ty cs fr d hg hu hd hi]
theorem set4 {w : World} {g : Nat} {t : TypeId} {a b c d a' b' c' d' : Value} (h : w.heap[g]? = some (.cells #[a, b, c, d] t (0, 0))) :
    ((((w.setCell ⟨g, 0, none⟩ a').setCell ⟨g, 1, none⟩ b').setCell ⟨g, 2, none⟩ c').setCell ⟨g, 3, none⟩ d').heap[g]? = some (.cells #[a', b', c', d'] t (0, 0)) := by
  simpa using blk_set (blk_set (blk_set (blk_set h 0 a') 1 b') 2 c') 3 d'
theorem below4 {w0 w : World} {g : Nat} {a b c d : Value} (h : Below w0.heap.size w0 w) (hg : w0.heap.size ≤ g) :
    Below w0.heap.size w0 ((((w.setCell ⟨g, 0, none⟩ a).setCell ⟨g, 1, none⟩ b).setCell ⟨g, 2, none⟩ c).setCell ⟨g, 3, none⟩ d) :=
  below_set (below_set (below_set (below_set h hg) hg) hg) hg
theorem far4 {w : World} {g k : Nat} {o : Obj} {a b c d : Value} (h : w.heap[k]? = some o) (hne : k ≠ g) :
    ((((w.setCell ⟨g, 0, none⟩ a).setCell ⟨g, 1, none⟩ b).setCell ⟨g, 2, none⟩ c).setCell ⟨g, 3, none⟩ d).heap[k]? = some o :=
  (Below.heap_setCell _ ⟨g, 3, none⟩ _ k hne).trans ((Below.heap_setCell _ ⟨g, 2, none⟩ _ k hne).trans ((Below.heap_setCell _ ⟨g, 1, none⟩ _ k hne).trans ((Below.heap_setCell _ ⟨g, 0, none⟩ _ k hne).trans h)))
abbrev nilE (k : Int) : Int := if kindOf k ≤ 4 then 1 else 0
set_option maxHeartbeats 4000000 in
theorem step_nil (k n : Int) (nm : ByteArray) (A : Option Addr) (m c : Nat) (w : World) : Calls Try.prog 26 #[.pointer none, stV k n nm A m c] w fun e w' => e = .returned (.agg #[.bool false, .int .i64 (nilE k), .slice none 0 0, .slice none 0 0]) ∧ Below w.heap.size w w' := by
  have HK := Aside0.mk (fun W => kind_raw k n nm A m c W)
  unfold nilE
  rcases kind_range k with h | h | h | h | h | h | h | h
  · rw [h] at HK ⊢
    clear h
    go_enter Try.func26, Try.ntmps26
    go_wp2_with (first
      | (go_at_call 27; refine (HK.out _).mono ?_; rintro e w1 ⟨rfl, hb1⟩; have HB := Aside0.mk (below_step (below_alloc (below_alloc (Below.refl _ w) _) _) hb1); obtain ⟨bs, bn⟩ := two_blocks hb1; have sc1 := blk_cell bs 1; have sc2 := blk_cell bs 2; have sc3 := blk_cell bs 3; have sl := blk_lt bs; have nl := blk_lt bn; have BN := Aside0.mk bn; clear hb1 bs bn)
      | (go_at_call 13; refine (resolve_nil A m c n _).mono ?_; rintro e w2 ⟨rfl, rfl⟩; have HB2 := HB; have bn2 := BN.out; have nc0 := blk_cell bn2 0; have nc1 := blk_cell bn2 1; have nc2 := blk_cell bn2 2; have nc3 := blk_cell bn2 3; have nf0 := blk_frozen bn2 0; have nf1 := blk_frozen bn2 1; have nf2 := blk_frozen bn2 2; have nf3 := blk_frozen bn2 3; have BN2 := Aside0.mk bn2; clear bn2))
    refine bodyPost_ret (results_c1 (p := 4) rfl _ _ (w.heap.size + 1) 48 _ (0, 0) _ rfl (set4 BN2.out) Try.underlying48 rfl (by kernel_rfl)) rfl ?_
    exact ⟨rfl, below4 HB2.out (by omega)⟩
  · rw [h] at HK ⊢
    clear h
    go_enter Try.func26, Try.ntmps26
    go_wp2_with (first
      | (go_at_call 27; refine (HK.out _).mono ?_; rintro e w1 ⟨rfl, hb1⟩; have HB := Aside0.mk (below_step (below_alloc (below_alloc (Below.refl _ w) _) _) hb1); obtain ⟨bs, bn⟩ := two_blocks hb1; have sc1 := blk_cell bs 1; have sc2 := blk_cell bs 2; have sc3 := blk_cell bs 3; have sl := blk_lt bs; have nl := blk_lt bn; have BN := Aside0.mk bn; clear hb1 bs bn)
      | (go_at_call 16; refine (drain_nil nm _).mono ?_; rintro e w2 ⟨rfl, hb2⟩; have HB2 := Aside0.mk (below_step HB.out hb2); have bn2 := (hb2.block _ nl).trans BN.out; have nc0 := blk_cell bn2 0; have nc1 := blk_cell bn2 1; have nc2 := blk_cell bn2 2; have nc3 := blk_cell bn2 3; have nf0 := blk_frozen bn2 0; have nf1 := blk_frozen bn2 1; have nf2 := blk_frozen bn2 2; have nf3 := blk_frozen bn2 3; have BN2 := Aside0.mk bn2; clear hb2 bn2))
    refine bodyPost_ret (results_c1 (p := 4) rfl _ _ (w.heap.size + 1) 48 _ (0, 0) _ rfl (set4 BN2.out) Try.underlying48 rfl (by kernel_rfl)) rfl ?_
    exact ⟨rfl, below4 HB2.out (by omega)⟩
  · rw [h] at HK ⊢
    clear h
    go_enter Try.func26, Try.ntmps26
    go_wp2_with (first
      | (go_at_call 27; refine (HK.out _).mono ?_; rintro e w1 ⟨rfl, hb1⟩; have HB := Aside0.mk (below_step (below_alloc (below_alloc (Below.refl _ w) _) _) hb1); obtain ⟨bs, bn⟩ := two_blocks hb1; have sc1 := blk_cell bs 1; have sc2 := blk_cell bs 2; have sc3 := blk_cell bs 3; have sl := blk_lt bs; have nl := blk_lt bn; have BN := Aside0.mk bn; clear hb1 bs bn)
      | (go_at_call 24; refine (undrain_nil nm _).mono ?_; rintro e w2 ⟨rfl, hb2⟩; have HB2 := Aside0.mk (below_step HB.out hb2); have bn2 := (hb2.block _ nl).trans BN.out; have nc0 := blk_cell bn2 0; have nc1 := blk_cell bn2 1; have nc2 := blk_cell bn2 2; have nc3 := blk_cell bn2 3; have nf0 := blk_frozen bn2 0; have nf1 := blk_frozen bn2 1; have nf2 := blk_frozen bn2 2; have nf3 := blk_frozen bn2 3; have BN2 := Aside0.mk bn2; clear hb2 bn2))
    refine bodyPost_ret (results_c1 (p := 4) rfl _ _ (w.heap.size + 1) 48 _ (0, 0) _ rfl (set4 BN2.out) Try.underlying48 rfl (by kernel_rfl)) rfl ?_
    exact ⟨rfl, below4 HB2.out (by omega)⟩
  · rw [h] at HK ⊢
    clear h
    go_enter Try.func26, Try.ntmps26
    go_wp2_with (first
      | (go_at_call 27; refine (HK.out _).mono ?_; rintro e w1 ⟨rfl, hb1⟩; have HB := Aside0.mk (below_step (below_alloc (below_alloc (Below.refl _ w) _) _) hb1); obtain ⟨bs, bn⟩ := two_blocks hb1; have sc1 := blk_cell bs 1; have sc2 := blk_cell bs 2; have sc3 := blk_cell bs 3; have sl := blk_lt bs; have nl := blk_lt bn; have BN := Aside0.mk bn; clear hb1 bs bn)
      | (go_at_call 28; refine (force_nil nm n _).mono ?_; rintro e w2 ⟨rfl, hb2⟩; have HB2 := Aside0.mk (below_step HB.out hb2); have bn2 := (hb2.block _ nl).trans BN.out; have nc0 := blk_cell bn2 0; have nc1 := blk_cell bn2 1; have nc2 := blk_cell bn2 2; have nc3 := blk_cell bn2 3; have nf0 := blk_frozen bn2 0; have nf1 := blk_frozen bn2 1; have nf2 := blk_frozen bn2 2; have nf3 := blk_frozen bn2 3; have BN2 := Aside0.mk bn2; clear hb2 bn2))
    refine bodyPost_ret (results_c1 (p := 4) rfl _ _ (w.heap.size + 1) 48 _ (0, 0) _ rfl (set4 BN2.out) Try.underlying48 rfl (by kernel_rfl)) rfl ?_
    exact ⟨rfl, below4 HB2.out (by omega)⟩
  · rw [h] at HK ⊢
    clear h
    go_enter Try.func26, Try.ntmps26
    go_wp2_with (first
      | (go_at_call 27; refine (HK.out _).mono ?_; rintro e w1 ⟨rfl, hb1⟩; have HB := Aside0.mk (below_step (below_alloc (below_alloc (Below.refl _ w) _) _) hb1); obtain ⟨bs, bn⟩ := two_blocks hb1; have sc1 := blk_cell bs 1; have sc2 := blk_cell bs 2; have sc3 := blk_cell bs 3; have sl := blk_lt bs; have nl := blk_lt bn; have BN := Aside0.mk bn; clear hb1 bs bn)
      | (go_at_call 29; refine (eject_nil nm _).mono ?_; rintro e w2 ⟨rfl, hb2⟩; have HB2 := Aside0.mk (below_step HB.out hb2); have bn2 := (hb2.block _ nl).trans BN.out; have nc0 := blk_cell bn2 0; have nc1 := blk_cell bn2 1; have nc2 := blk_cell bn2 2; have nc3 := blk_cell bn2 3; have nf0 := blk_frozen bn2 0; have nf1 := blk_frozen bn2 1; have nf2 := blk_frozen bn2 2; have nf3 := blk_frozen bn2 3; have BN2 := Aside0.mk bn2; clear hb2 bn2))
    refine bodyPost_ret (results_c1 (p := 4) rfl _ _ (w.heap.size + 1) 48 _ (0, 0) _ rfl (set4 BN2.out) Try.underlying48 rfl (by kernel_rfl)) rfl ?_
    exact ⟨rfl, below4 HB2.out (by omega)⟩
  · rw [h] at HK ⊢
    clear h
    go_enter Try.func26, Try.ntmps26
    go_wp2_with (first
      | (go_at_call 27; refine (HK.out _).mono ?_; rintro e w1 ⟨rfl, hb1⟩; have HB := Aside0.mk (below_step (below_alloc (below_alloc (Below.refl _ w) _) _) hb1); obtain ⟨bs, bn⟩ := two_blocks hb1; have sc1 := blk_cell bs 1; have sc2 := blk_cell bs 2; have sc3 := blk_cell bs 3; have sl := blk_lt bs; have nl := blk_lt bn; have BN := Aside0.mk bn; clear hb1 bs bn)
      | (go_at_call 14; refine (admit_nil n _).mono ?_; rintro e w2 ⟨rfl, rfl⟩; have HB2 := HB; have bn2 := BN.out; have nc0 := blk_cell bn2 0; have nc1 := blk_cell bn2 1; have nc2 := blk_cell bn2 2; have nc3 := blk_cell bn2 3; have nf0 := blk_frozen bn2 0; have nf1 := blk_frozen bn2 1; have nf2 := blk_frozen bn2 2; have nf3 := blk_frozen bn2 3; have BN2 := Aside0.mk bn2; clear bn2))
    refine bodyPost_ret (results_c1 (p := 4) rfl _ _ (w.heap.size + 1) 48 _ (0, 0) _ rfl (set4 BN2.out) Try.underlying48 rfl (by kernel_rfl)) rfl ?_
    exact ⟨rfl, below4 HB2.out (by omega)⟩
  · rw [h] at HK ⊢
    clear h
    go_enter Try.func26, Try.ntmps26
    go_wp2_with (first
      | (go_at_call 27; refine (HK.out _).mono ?_; rintro e w1 ⟨rfl, hb1⟩; have HB := Aside0.mk (below_step (below_alloc (below_alloc (Below.refl _ w) _) _) hb1); obtain ⟨bs, bn⟩ := two_blocks hb1; have sc1 := blk_cell bs 1; have sc2 := blk_cell bs 2; have sc3 := blk_cell bs 3; have sl := blk_lt bs; have nl := blk_lt bn; have BN := Aside0.mk bn; clear hb1 bs bn)
      | (go_at_call 51; refine (probe_nil nm _).mono ?_; rintro e w2 ⟨rfl, hb2⟩; have HB2 := Aside0.mk (below_step HB.out hb2); have bn2 := (hb2.block _ nl).trans BN.out; have nc0 := blk_cell bn2 0; have nc1 := blk_cell bn2 1; have nc2 := blk_cell bn2 2; have nc3 := blk_cell bn2 3; have nf0 := blk_frozen bn2 0; have nf1 := blk_frozen bn2 1; have nf2 := blk_frozen bn2 2; have nf3 := blk_frozen bn2 3; have BN2 := Aside0.mk bn2; clear hb2 bn2))
    refine bodyPost_ret (results_c1 (p := 4) rfl _ _ (w.heap.size + 1) 48 _ (0, 0) _ rfl (set4 BN2.out) Try.underlying48 rfl (by kernel_rfl)) rfl ?_
    exact ⟨rfl, below4 HB2.out (by omega)⟩
  · rw [h] at HK ⊢
    clear h
    go_enter Try.func26, Try.ntmps26
    go_wp2_with (first
      | (go_at_call 27; refine (HK.out _).mono ?_; rintro e w1 ⟨rfl, hb1⟩; have HB := Aside0.mk (below_step (below_alloc (below_alloc (Below.refl _ w) _) _) hb1); obtain ⟨bs, bn⟩ := two_blocks hb1; have sc1 := blk_cell bs 1; have sc2 := blk_cell bs 2; have sc3 := blk_cell bs 3; have sl := blk_lt bs; have nl := blk_lt bn; have BN := Aside0.mk bn; clear hb1 bs bn)
      | (go_at_call 23; refine (empty_nil nm _).mono ?_; rintro e w2 ⟨rfl, hb2⟩; have HB2 := Aside0.mk (below_step HB.out hb2); have bn2 := (hb2.block _ nl).trans BN.out; have nc0 := blk_cell bn2 0; have nc1 := blk_cell bn2 1; have nc2 := blk_cell bn2 2; have nc3 := blk_cell bn2 3; have nf0 := blk_frozen bn2 0; have nf1 := blk_frozen bn2 1; have nf2 := blk_frozen bn2 2; have nf3 := blk_frozen bn2 3; have BN2 := Aside0.mk bn2; clear hb2 bn2))
    refine bodyPost_ret (results_c1 (p := 4) rfl _ _ (w.heap.size + 1) 48 _ (0, 0) _ rfl (set4 BN2.out) Try.underlying48 rfl (by kernel_rfl)) rfl ?_
    exact ⟨rfl, below4 HB2.out (by omega)⟩
set_option maxHeartbeats 8000000 in
theorem nil_calls (k n : Int) (nm : ByteArray) (A : Option Addr) (m c : Nat) (w : World) : Calls Try.prog 9 #[stV k n nm A m c] w fun e w' => e = .returned (.bool true) ∧ Below w.heap.size w w' := by
  have HL := Aside0.mk (fun W => lives_raw W)
  have HK := Aside0.mk (fun W => kind_raw k n nm A m c W)
  have HS := Aside0.mk (fun W => step_nil k n nm A m c W)
  unfold nilE at HS
  obtain ⟨kk, hkk⟩ : ∃ q, q = kindOf k := ⟨_, rfl⟩
  have hr := kind_range k
  rw [← hkk] at HK HS hr
  clear hkk
  by_cases h4 : kk ≤ 4
  · rw [if_pos h4] at HS
    go_enter Try.func9, Try.ntmps9
    go_wp2_with (first
      | (go_at_call 10; refine (HL.out _).mono ?_; rintro e w1 ⟨rfl, hb⟩; have HB := Aside0.mk (below_step (below_alloc (Below.refl _ w) _) hb); have BS := Aside0.mk ((hb.block w.heap.size (by simp)).trans (heap_alloc_new w _)); clear hb; have sa1 := blk_cell BS.out 0; have sb1 := blk_cell BS.out 1; have sc1 := blk_cell BS.out 2; have sd1 := blk_cell BS.out 3; have sl1 := blk_lt BS.out)
      | (go_at_call 26; refine (HS.out _).mono ?_; rintro e w2 ⟨rfl, hb⟩; have HB := Aside0.mk (below_step HB.out hb); have BS := Aside0.mk (blk_below BS.out hb); clear hb; have sa2 := blk_cell BS.out 0; have sb2 := blk_cell BS.out 1; have sc2 := blk_cell BS.out 2; have sd2 := blk_cell BS.out 3; have sl2 := blk_lt BS.out; have ne2 : w.heap.size ≠ w2.heap.size := by omega)
      | (go_at_call 20; refine (state_nil nm _).mono ?_; rintro e w3 ⟨rfl, hb⟩; have HB := Aside0.mk (below_step (below_alloc HB.out _) hb); have BN := Aside0.mk ((hb.block w2.heap.size (by simp)).trans (heap_alloc_new w2 _)); have BS := Aside0.mk (blk_below (blk_alloc BS.out _) hb); clear hb; have sa3 := blk_cell BS.out 0; have sb3 := blk_cell BS.out 1; have sc3 := blk_cell BS.out 2; have sd3 := blk_cell BS.out 3; have sl3 := blk_lt BS.out; have na3 := blk_cell BN.out 0; have nb3 := blk_cell BN.out 1; have nc3 := blk_cell BN.out 2; have nd3 := blk_cell BN.out 3; have nl3 := blk_lt BN.out)
      | (go_at_call 27; refine (HK.out _).mono ?_; rintro e w4 ⟨rfl, hb⟩; have HB := Aside0.mk (below_step HB.out hb); have BS := Aside0.mk (blk_below BS.out hb); have BN := Aside0.mk (blk_below BN.out hb); clear hb; have sa4 := blk_cell BS.out 0; have sb4 := blk_cell BS.out 1; have sc4 := blk_cell BS.out 2; have sd4 := blk_cell BS.out 3; have sl4 := blk_lt BS.out; have na4 := blk_cell BN.out 0; have nb4 := blk_cell BN.out 1; have nc4 := blk_cell BN.out 2; have nd4 := blk_cell BN.out 3; have nl4 := blk_lt BN.out)
      | (go_at_call 22; refine (due_nil n _).mono ?_; rintro e w5 ⟨rfl, hb⟩; have HB := Aside0.mk (below_step HB.out hb); have BS := Aside0.mk (blk_below BS.out hb); have BN := Aside0.mk (blk_below BN.out hb); clear hb; have sa5 := blk_cell BS.out 0; have sb5 := blk_cell BS.out 1; have sc5 := blk_cell BS.out 2; have sd5 := blk_cell BS.out 3; have sl5 := blk_lt BS.out; have na5 := blk_cell BN.out 0; have nb5 := blk_cell BN.out 1; have nc5 := blk_cell BN.out 2; have nd5 := blk_cell BN.out 3; have nl5 := blk_lt BN.out)
      | (go_at_call 32; refine (names_nil _).mono ?_; rintro e wq ⟨rfl, rfl⟩)
      | (go_at_call 30; refine (states_nil _).mono ?_; rintro e wq ⟨rfl, rfl⟩)
      | (go_at_call 15; refine (capacity_nil _).mono ?_; rintro e wq ⟨rfl, rfl⟩)
      | (go_at_call 21; refine (leaves_nil nm _).mono ?_; rintro e w7 ⟨rfl, hb⟩; have HB := Aside0.mk (below_step HB.out hb); have BS := Aside0.mk (blk_below BS.out hb); have BN := Aside0.mk (blk_below BN.out hb); clear hb; have sa7 := blk_cell BS.out 0; have sb7 := blk_cell BS.out 1; have sc7 := blk_cell BS.out 2; have sd7 := blk_cell BS.out 3; have sl7 := blk_lt BS.out; have na7 := blk_cell BN.out 0; have nb7 := blk_cell BN.out 1; have nc7 := blk_cell BN.out 2; have nd7 := blk_cell BN.out 3; have nl7 := blk_lt BN.out)
      | (go_at_call 17; refine (ahead_nil nm _).mono ?_; rintro e w8 ⟨rfl, hb⟩; have HB := Aside0.mk (below_step HB.out hb); clear hb))
    go_ret
    exact ⟨rfl, HB.out⟩
  · rw [if_neg h4] at HS
    have h5 : 4 < kk := by omega
    go_enter Try.func9, Try.ntmps9
    go_wp2_with (first
      | (go_at_call 10; refine (HL.out _).mono ?_; rintro e w1 ⟨rfl, hb⟩; have HB := Aside0.mk (below_step (below_alloc (Below.refl _ w) _) hb); have BS := Aside0.mk ((hb.block w.heap.size (by simp)).trans (heap_alloc_new w _)); clear hb; have sa1 := blk_cell BS.out 0; have sb1 := blk_cell BS.out 1; have sc1 := blk_cell BS.out 2; have sd1 := blk_cell BS.out 3; have sl1 := blk_lt BS.out)
      | (go_at_call 26; refine (HS.out _).mono ?_; rintro e w2 ⟨rfl, hb⟩; have HB := Aside0.mk (below_step HB.out hb); have BS := Aside0.mk (blk_below BS.out hb); clear hb; have sa2 := blk_cell BS.out 0; have sb2 := blk_cell BS.out 1; have sc2 := blk_cell BS.out 2; have sd2 := blk_cell BS.out 3; have sl2 := blk_lt BS.out; have ne2 : w.heap.size ≠ w2.heap.size := by omega)
      | (go_at_call 20; refine (state_nil nm _).mono ?_; rintro e w3 ⟨rfl, hb⟩; have HB := Aside0.mk (below_step (below_alloc HB.out _) hb); have BN := Aside0.mk ((hb.block w2.heap.size (by simp)).trans (heap_alloc_new w2 _)); have BS := Aside0.mk (blk_below (blk_alloc BS.out _) hb); clear hb; have sa3 := blk_cell BS.out 0; have sb3 := blk_cell BS.out 1; have sc3 := blk_cell BS.out 2; have sd3 := blk_cell BS.out 3; have sl3 := blk_lt BS.out; have na3 := blk_cell BN.out 0; have nb3 := blk_cell BN.out 1; have nc3 := blk_cell BN.out 2; have nd3 := blk_cell BN.out 3; have nl3 := blk_lt BN.out)
      | (go_at_call 27; refine (HK.out _).mono ?_; rintro e w4 ⟨rfl, hb⟩; have HB := Aside0.mk (below_step HB.out hb); have BS := Aside0.mk (blk_below BS.out hb); have BN := Aside0.mk (blk_below BN.out hb); clear hb; have sa4 := blk_cell BS.out 0; have sb4 := blk_cell BS.out 1; have sc4 := blk_cell BS.out 2; have sd4 := blk_cell BS.out 3; have sl4 := blk_lt BS.out; have na4 := blk_cell BN.out 0; have nb4 := blk_cell BN.out 1; have nc4 := blk_cell BN.out 2; have nd4 := blk_cell BN.out 3; have nl4 := blk_lt BN.out)
      | (go_at_call 22; refine (due_nil n _).mono ?_; rintro e w5 ⟨rfl, hb⟩; have HB := Aside0.mk (below_step HB.out hb); have BS := Aside0.mk (blk_below BS.out hb); have BN := Aside0.mk (blk_below BN.out hb); clear hb; have sa5 := blk_cell BS.out 0; have sb5 := blk_cell BS.out 1; have sc5 := blk_cell BS.out 2; have sd5 := blk_cell BS.out 3; have sl5 := blk_lt BS.out; have na5 := blk_cell BN.out 0; have nb5 := blk_cell BN.out 1; have nc5 := blk_cell BN.out 2; have nd5 := blk_cell BN.out 3; have nl5 := blk_lt BN.out)
      | (go_at_call 32; refine (names_nil _).mono ?_; rintro e wq ⟨rfl, rfl⟩)
      | (go_at_call 30; refine (states_nil _).mono ?_; rintro e wq ⟨rfl, rfl⟩)
      | (go_at_call 15; refine (capacity_nil _).mono ?_; rintro e wq ⟨rfl, rfl⟩)
      | (go_at_call 21; refine (leaves_nil nm _).mono ?_; rintro e w7 ⟨rfl, hb⟩; have HB := Aside0.mk (below_step HB.out hb); have BS := Aside0.mk (blk_below BS.out hb); have BN := Aside0.mk (blk_below BN.out hb); clear hb; have sa7 := blk_cell BS.out 0; have sb7 := blk_cell BS.out 1; have sc7 := blk_cell BS.out 2; have sd7 := blk_cell BS.out 3; have sl7 := blk_lt BS.out; have na7 := blk_cell BN.out 0; have nb7 := blk_cell BN.out 1; have nc7 := blk_cell BN.out 2; have nd7 := blk_cell BN.out 3; have nl7 := blk_lt BN.out)
      | (go_at_call 17; refine (ahead_nil nm _).mono ?_; rintro e w8 ⟨rfl, hb⟩; have HB := Aside0.mk (below_step HB.out hb); clear hb))
    go_ret
    exact ⟨rfl, HB.out⟩
end Go.Proofs.Ytmlmiocomlehgaa.Nil
namespace Go.Proofs.Ytmlmiocomlehgaa.Man
open Go.RowKit Go.Proofs.YtmlmiocomlehgaaW.PrintWords Go.Proofs.YtmlmiocomlehgaaW.PrintLast Go.Proofs.YtmlmiocomlehgaaW.PrintMore Go.Proofs.Ytmlmiocomlehgaa.PA Go.Proofs.Ytmlmiocomlehgaa.PF Go.Proofs.Ytmlmiocomlehgaa.Hid Go.Proofs.Ytmlmiocomlehgaa.Na Go.Proofs.Ytmlmiocomlehgaa.Nil
/-- What a step tells. -/
structure SV where
  is : Bool
  e : Int
  a : List ByteArray
  b : List ByteArray
/-- What a step does. -/
def stepF (s : FS) (k n : Int) (nm : ByteArray) (l : List ByteArray) : SV × FS :=
  if kindOf k = 0 then (⟨false, (resolveF s l n).1.2.2, (resolveF s l n).1.1, (resolveF s l n).1.2.1⟩, (resolveF s l n).2)
  else if kindOf k = 1 then (⟨false, (drainF s nm).1, [], []⟩, (drainF s nm).2)
  else if kindOf k = 2 then (⟨false, (undrainF s nm).1, [], []⟩, (undrainF s nm).2)
  else if kindOf k = 3 then (⟨false, (forceF s nm n).1, [], []⟩, (forceF s nm n).2)
  else if kindOf k = 4 then (⟨false, (ejectF s nm).1, [], []⟩, (ejectF s nm).2)
  else if kindOf k = 5 then (⟨false, 0, (admitF s n).1, []⟩, (admitF s n).2)
  else if kindOf k = 6 then (⟨(probeF s nm).1, 0, [], []⟩, (probeF s nm).2)
  else (⟨(emptyF s nm).1, 0, [], []⟩, (emptyF s nm).2)
theorem FInv.step {s : FS} {q : Nat} (h : FInv s q) (hq : q ≤ 100) (k n : Int) (nm : ByteArray) (l : List ByteArray) : FInv (stepF s k n nm l).2 (q + 1) := by
  unfold stepF
  (repeat' split)
  · exact h.resolve hq l n
  · exact h.drain hq nm
  · exact h.undrain nm
  · exact h.force hq nm n
  · exact h.eject nm
  · exact h.admit n
  · exact h.probe nm
  · exact h.empty nm
section
variable {w0 w w1 w2 : World} {g p : Nat} {s : FS} {a b c d : Value}
theorem farW (W : World) (k : Nat) (hne : k ≠ p) : ((((W.setCell ⟨p, 0, none⟩ a).setCell ⟨p, 1, none⟩ b).setCell ⟨p, 2, none⟩ c).setCell ⟨p, 3, none⟩ d).heap[k]? = W.heap[k]? :=
  (Below.heap_setCell _ ⟨p, 3, none⟩ _ k hne).trans ((Below.heap_setCell _ ⟨p, 2, none⟩ _ k hne).trans ((Below.heap_setCell _ ⟨p, 1, none⟩ _ k hne).trans (Below.heap_setCell _ ⟨p, 0, none⟩ _ k hne)))
theorem seen_row {α : Type} {kd : Kd α} {e base : Nat} {v : Value} {xs : List α} {t : Nat} {cs : Array Value} (h : kd.R e w2 base (fun _ => True) v xs) (hb : w2.heap[p]? = some (.cells cs t (0, 0))) (ht : ∀ q, q ∈ e :: kd.E → q ≠ t) : kd.R e ((((w2.setCell ⟨p, 0, none⟩ a).setCell ⟨p, 1, none⟩ b).setCell ⟨p, 2, none⟩ c).setCell ⟨p, 3, none⟩ d) base (fun _ => True) v xs := by
  refine Kd.R_mono (Kd.R_move (Kd.R_bound h) (fun k hk => farW w2 k ?_)) (fun _ _ => trivial)
  rintro rfl
  obtain ⟨_, _, _, q, hq, cells, hc⟩ := hk
  rw [hb] at hc
  injection hc with hc
  injection hc with _ hc _
  exact ht q hq hc.symm
theorem seen_St {cs : Array Value} {t : Nat} (hF : IsF w0 w2 g s) (hB : Below w0.heap.size w0 w2) (hK : KeptH TF w w2) (hb : w2.heap[p]? = some (.cells cs t (0, 0))) (ht : t ∉ TF) (hp : w.heap.size ≤ p) (hp0 : w0.heap.size ≤ p) :
    St w0 w ((((w2.setCell ⟨p, 0, none⟩ a).setCell ⟨p, 1, none⟩ b).setCell ⟨p, 2, none⟩ c).setCell ⟨p, 3, none⟩ d) g s := by
  refine ⟨hF.step (fun k hk => farW w2 k ?_), below4 hB hp0, ⟨⟨?_, fun i hi hn => (farW w2 i (by omega)).trans (hK.1.2 i hi hn)⟩, fun k hk h2 => hK.2 k hk (h2.of_eq (farW w2 k (by omega)))⟩⟩
  · rintro rfl
    exact not_hidn_cells hb ht hk
  · have := hK.1.1
    simp [World.setCell]
    omega
end
theorem str_ne {t : Nat} (h : 9 ≠ t) : ∀ q, q ∈ 9 :: Kd.string.E → q ≠ t := by
  intro q hq
  have : q = 9 := by simpa [Kd.string, Kd.scalar] using hq
  subst this
  exact h
section
variable {w0 w : World} {g : Nat} {s : FS} {q : Nat} (hq : q ≤ 100) (hv : FInv s q) (hF : IsF w0 w g s) (hB : Below w0.heap.size w0 w)
include hq hv hF hB
set_option maxHeartbeats 4000000 in
theorem step_0 (k n : Int) (nm : ByteArray) (l : List ByteArray) (A : Option Addr) (c : Nat) (hc : l.length ≤ c) (hs : ∀ x ∈ l, x.size ≤ maxLen) (hC : ∀ W, KeptH TF w W → Below w0.heap.size w0 W → Kd.C Kd.string W A l.length l) (h : kindOf k = 0) :
    Calls Try.prog 26 #[ptr g, stV k n nm A l.length c] w fun e w' => ∃ va vb : Value, e = .returned (.agg #[.bool (stepF s k n nm l).1.is, .int .i64 (stepF s k n nm l).1.e, va, vb]) ∧ Kd.R Kd.string 9 w' w.heap.size (fun _ => True) va (stepF s k n nm l).1.a ∧ Kd.R Kd.string 9 w' w.heap.size (fun _ => True) vb (stepF s k n nm l).1.b ∧ St w0 w w' g (stepF s k n nm l).2 := by
  have HK := Aside0.mk (fun W => kind_raw k n nm A l.length c W)
  rw [h] at HK
  have HSZ := Aside0.mk (below_size hB)
  unfold stepF
  rw [h]
  rw [if_pos rfl]
  clear h
  go_enter Try.func26, Try.ntmps26
  go_wp2_with (first
    | (go_at_call 27; refine (HK.out _).mono ?_; rintro e w1 ⟨rfl, hb1⟩; have HBW := Aside0.mk (below_step (below_alloc (below_alloc (Below.refl _ w) _) _) hb1); have HF1 := Aside0.mk (hF.below HBW.out); have HB1 := Aside0.mk (below_step hB HBW.out); have HK1 := Aside0.mk (KeptH.of_below (T := TF) HBW.out); have HZ1 := Aside0.mk HBW.out.size; obtain ⟨bs, bn⟩ := two_blocks hb1; have sc1 := blk_cell bs 1; have sc2 := blk_cell bs 2; have sc3 := blk_cell bs 3; have sl := blk_lt bs; have nl := blk_lt bn; have BN := Aside0.mk bn; clear hb1 bs bn)
    | (go_at_call 13; refine (resolve_anyB hq hv HF1.out HB1.out l A c n hc hs (fun W hW hb => hC W (HK1.out.trans hW) hb)).mono ?_; rintro e w2 ⟨v1, v2, rfl, hr1, hr2, hi, hb, hk⟩; obtain ⟨A1, n1, rfl⟩ := Kd.R_slice hr1; obtain ⟨A2, n2, rfl⟩ := Kd.R_slice hr2; have HR1 := Aside0.mk (Kd.R_lower hr1 HZ1.out); have HR2 := Aside0.mk (Kd.R_lower hr2 HZ1.out); clear hr1 hr2; have BN2 := Aside0.mk (Ko.blkc hk BN.out (by decide)); have bn2 := BN2.out; have nf0 := blk_frozen bn2 0; have nf1 := blk_frozen bn2 1; have nf2 := blk_frozen bn2 2; have nf3 := blk_frozen bn2 3; have nc0 := blk_cell bn2 0; have nc1 := blk_cell bn2 1; have nc2 := blk_cell bn2 2; have nc3 := blk_cell bn2 3; have nl2 := blk_lt bn2; have HF2 := Aside0.mk hi; have HB2 := Aside0.mk hb; have HK2 := Aside0.mk (HK1.out.trans hk); clear hi hb hk bn2))
  refine bodyPost_ret (results_c1 (p := 4) rfl _ _ (w.heap.size + 1) 48 _ (0, 0) _ rfl (set4 BN2.out) Try.underlying48 rfl (by kernel_rfl)) rfl ?_
  exact ⟨_, _, rfl, seen_row HR1.out BN2.out (str_ne (by decide)), seen_row HR2.out BN2.out (str_ne (by decide)), seen_St HF2.out HB2.out HK2.out BN2.out (by decide) (by omega) (by have := HSZ.out; omega)⟩
set_option maxHeartbeats 4000000 in
theorem step_1 (k n : Int) (nm : ByteArray) (l : List ByteArray) (A : Option Addr) (c : Nat) (hc : l.length ≤ c) (hs : ∀ x ∈ l, x.size ≤ maxLen) (hC : ∀ W, KeptH TF w W → Below w0.heap.size w0 W → Kd.C Kd.string W A l.length l) (h : kindOf k = 1) :
    Calls Try.prog 26 #[ptr g, stV k n nm A l.length c] w fun e w' => ∃ va vb : Value, e = .returned (.agg #[.bool (stepF s k n nm l).1.is, .int .i64 (stepF s k n nm l).1.e, va, vb]) ∧ Kd.R Kd.string 9 w' w.heap.size (fun _ => True) va (stepF s k n nm l).1.a ∧ Kd.R Kd.string 9 w' w.heap.size (fun _ => True) vb (stepF s k n nm l).1.b ∧ St w0 w w' g (stepF s k n nm l).2 := by
  have HK := Aside0.mk (fun W => kind_raw k n nm A l.length c W)
  rw [h] at HK
  have HSZ := Aside0.mk (below_size hB)
  unfold stepF
  rw [h]
  rw [if_neg (by decide)]
  rw [if_pos rfl]
  clear h
  go_enter Try.func26, Try.ntmps26
  go_wp2_with (first
    | (go_at_call 27; refine (HK.out _).mono ?_; rintro e w1 ⟨rfl, hb1⟩; have HBW := Aside0.mk (below_step (below_alloc (below_alloc (Below.refl _ w) _) _) hb1); have HF1 := Aside0.mk (hF.below HBW.out); have HB1 := Aside0.mk (below_step hB HBW.out); have HK1 := Aside0.mk (KeptH.of_below (T := TF) HBW.out); have HZ1 := Aside0.mk HBW.out.size; obtain ⟨bs, bn⟩ := two_blocks hb1; have sc1 := blk_cell bs 1; have sc2 := blk_cell bs 2; have sc3 := blk_cell bs 3; have sl := blk_lt bs; have nl := blk_lt bn; have BN := Aside0.mk bn; clear hb1 bs bn)
    | (go_at_call 16; refine (drain_any hq hv HF1.out HB1.out nm).mono ?_; rintro e w2 ⟨rfl, hi, hb, hk⟩; have BN2 := Aside0.mk (Ko.blkc hk BN.out (by decide)); have bn2 := BN2.out; have nf0 := blk_frozen bn2 0; have nf1 := blk_frozen bn2 1; have nf2 := blk_frozen bn2 2; have nf3 := blk_frozen bn2 3; have nc0 := blk_cell bn2 0; have nc1 := blk_cell bn2 1; have nc2 := blk_cell bn2 2; have nc3 := blk_cell bn2 3; have nl2 := blk_lt bn2; have HF2 := Aside0.mk hi; have HB2 := Aside0.mk hb; have HK2 := Aside0.mk (HK1.out.trans hk); clear hi hb hk bn2))
  refine bodyPost_ret (results_c1 (p := 4) rfl _ _ (w.heap.size + 1) 48 _ (0, 0) _ rfl (set4 BN2.out) Try.underlying48 rfl (by kernel_rfl)) rfl ?_
  exact ⟨_, _, rfl, Kd.R_nil _ _ _ _ _, Kd.R_nil _ _ _ _ _, seen_St HF2.out HB2.out HK2.out BN2.out (by decide) (by omega) (by have := HSZ.out; omega)⟩
set_option maxHeartbeats 4000000 in
theorem step_2 (k n : Int) (nm : ByteArray) (l : List ByteArray) (A : Option Addr) (c : Nat) (hc : l.length ≤ c) (hs : ∀ x ∈ l, x.size ≤ maxLen) (hC : ∀ W, KeptH TF w W → Below w0.heap.size w0 W → Kd.C Kd.string W A l.length l) (h : kindOf k = 2) :
    Calls Try.prog 26 #[ptr g, stV k n nm A l.length c] w fun e w' => ∃ va vb : Value, e = .returned (.agg #[.bool (stepF s k n nm l).1.is, .int .i64 (stepF s k n nm l).1.e, va, vb]) ∧ Kd.R Kd.string 9 w' w.heap.size (fun _ => True) va (stepF s k n nm l).1.a ∧ Kd.R Kd.string 9 w' w.heap.size (fun _ => True) vb (stepF s k n nm l).1.b ∧ St w0 w w' g (stepF s k n nm l).2 := by
  have HK := Aside0.mk (fun W => kind_raw k n nm A l.length c W)
  rw [h] at HK
  have HSZ := Aside0.mk (below_size hB)
  unfold stepF
  rw [h]
  rw [if_neg (by decide)]
  rw [if_neg (by decide)]
  rw [if_pos rfl]
  clear h
  go_enter Try.func26, Try.ntmps26
  go_wp2_with (first
    | (go_at_call 27; refine (HK.out _).mono ?_; rintro e w1 ⟨rfl, hb1⟩; have HBW := Aside0.mk (below_step (below_alloc (below_alloc (Below.refl _ w) _) _) hb1); have HF1 := Aside0.mk (hF.below HBW.out); have HB1 := Aside0.mk (below_step hB HBW.out); have HK1 := Aside0.mk (KeptH.of_below (T := TF) HBW.out); have HZ1 := Aside0.mk HBW.out.size; obtain ⟨bs, bn⟩ := two_blocks hb1; have sc1 := blk_cell bs 1; have sc2 := blk_cell bs 2; have sc3 := blk_cell bs 3; have sl := blk_lt bs; have nl := blk_lt bn; have BN := Aside0.mk bn; clear hb1 bs bn)
    | (go_at_call 24; refine (undrain_any hq hv HF1.out HB1.out nm).mono ?_; rintro e w2 ⟨rfl, hi, hb, hk⟩; have BN2 := Aside0.mk (Ko.blkc hk BN.out (by decide)); have bn2 := BN2.out; have nf0 := blk_frozen bn2 0; have nf1 := blk_frozen bn2 1; have nf2 := blk_frozen bn2 2; have nf3 := blk_frozen bn2 3; have nc0 := blk_cell bn2 0; have nc1 := blk_cell bn2 1; have nc2 := blk_cell bn2 2; have nc3 := blk_cell bn2 3; have nl2 := blk_lt bn2; have HF2 := Aside0.mk hi; have HB2 := Aside0.mk hb; have HK2 := Aside0.mk (HK1.out.trans hk); clear hi hb hk bn2))
  refine bodyPost_ret (results_c1 (p := 4) rfl _ _ (w.heap.size + 1) 48 _ (0, 0) _ rfl (set4 BN2.out) Try.underlying48 rfl (by kernel_rfl)) rfl ?_
  exact ⟨_, _, rfl, Kd.R_nil _ _ _ _ _, Kd.R_nil _ _ _ _ _, seen_St HF2.out HB2.out HK2.out BN2.out (by decide) (by omega) (by have := HSZ.out; omega)⟩
set_option maxHeartbeats 4000000 in
theorem step_3 (k n : Int) (nm : ByteArray) (l : List ByteArray) (A : Option Addr) (c : Nat) (hc : l.length ≤ c) (hs : ∀ x ∈ l, x.size ≤ maxLen) (hC : ∀ W, KeptH TF w W → Below w0.heap.size w0 W → Kd.C Kd.string W A l.length l) (h : kindOf k = 3) :
    Calls Try.prog 26 #[ptr g, stV k n nm A l.length c] w fun e w' => ∃ va vb : Value, e = .returned (.agg #[.bool (stepF s k n nm l).1.is, .int .i64 (stepF s k n nm l).1.e, va, vb]) ∧ Kd.R Kd.string 9 w' w.heap.size (fun _ => True) va (stepF s k n nm l).1.a ∧ Kd.R Kd.string 9 w' w.heap.size (fun _ => True) vb (stepF s k n nm l).1.b ∧ St w0 w w' g (stepF s k n nm l).2 := by
  have HK := Aside0.mk (fun W => kind_raw k n nm A l.length c W)
  rw [h] at HK
  have HSZ := Aside0.mk (below_size hB)
  unfold stepF
  rw [h]
  rw [if_neg (by decide)]
  rw [if_neg (by decide)]
  rw [if_neg (by decide)]
  rw [if_pos rfl]
  clear h
  go_enter Try.func26, Try.ntmps26
  go_wp2_with (first
    | (go_at_call 27; refine (HK.out _).mono ?_; rintro e w1 ⟨rfl, hb1⟩; have HBW := Aside0.mk (below_step (below_alloc (below_alloc (Below.refl _ w) _) _) hb1); have HF1 := Aside0.mk (hF.below HBW.out); have HB1 := Aside0.mk (below_step hB HBW.out); have HK1 := Aside0.mk (KeptH.of_below (T := TF) HBW.out); have HZ1 := Aside0.mk HBW.out.size; obtain ⟨bs, bn⟩ := two_blocks hb1; have sc1 := blk_cell bs 1; have sc2 := blk_cell bs 2; have sc3 := blk_cell bs 3; have sl := blk_lt bs; have nl := blk_lt bn; have BN := Aside0.mk bn; clear hb1 bs bn)
    | (go_at_call 28; refine (force_any hq hv HF1.out HB1.out nm n).mono ?_; rintro e w2 ⟨rfl, hi, hb, hk⟩; have BN2 := Aside0.mk (Ko.blkc hk BN.out (by decide)); have bn2 := BN2.out; have nf0 := blk_frozen bn2 0; have nf1 := blk_frozen bn2 1; have nf2 := blk_frozen bn2 2; have nf3 := blk_frozen bn2 3; have nc0 := blk_cell bn2 0; have nc1 := blk_cell bn2 1; have nc2 := blk_cell bn2 2; have nc3 := blk_cell bn2 3; have nl2 := blk_lt bn2; have HF2 := Aside0.mk hi; have HB2 := Aside0.mk hb; have HK2 := Aside0.mk (HK1.out.trans hk); clear hi hb hk bn2))
  refine bodyPost_ret (results_c1 (p := 4) rfl _ _ (w.heap.size + 1) 48 _ (0, 0) _ rfl (set4 BN2.out) Try.underlying48 rfl (by kernel_rfl)) rfl ?_
  exact ⟨_, _, rfl, Kd.R_nil _ _ _ _ _, Kd.R_nil _ _ _ _ _, seen_St HF2.out HB2.out HK2.out BN2.out (by decide) (by omega) (by have := HSZ.out; omega)⟩
set_option maxHeartbeats 4000000 in
theorem step_4 (k n : Int) (nm : ByteArray) (l : List ByteArray) (A : Option Addr) (c : Nat) (hc : l.length ≤ c) (hs : ∀ x ∈ l, x.size ≤ maxLen) (hC : ∀ W, KeptH TF w W → Below w0.heap.size w0 W → Kd.C Kd.string W A l.length l) (h : kindOf k = 4) :
    Calls Try.prog 26 #[ptr g, stV k n nm A l.length c] w fun e w' => ∃ va vb : Value, e = .returned (.agg #[.bool (stepF s k n nm l).1.is, .int .i64 (stepF s k n nm l).1.e, va, vb]) ∧ Kd.R Kd.string 9 w' w.heap.size (fun _ => True) va (stepF s k n nm l).1.a ∧ Kd.R Kd.string 9 w' w.heap.size (fun _ => True) vb (stepF s k n nm l).1.b ∧ St w0 w w' g (stepF s k n nm l).2 := by
  have HK := Aside0.mk (fun W => kind_raw k n nm A l.length c W)
  rw [h] at HK
  have HSZ := Aside0.mk (below_size hB)
  unfold stepF
  rw [h]
  rw [if_neg (by decide)]
  rw [if_neg (by decide)]
  rw [if_neg (by decide)]
  rw [if_neg (by decide)]
  rw [if_pos rfl]
  clear h
  go_enter Try.func26, Try.ntmps26
  go_wp2_with (first
    | (go_at_call 27; refine (HK.out _).mono ?_; rintro e w1 ⟨rfl, hb1⟩; have HBW := Aside0.mk (below_step (below_alloc (below_alloc (Below.refl _ w) _) _) hb1); have HF1 := Aside0.mk (hF.below HBW.out); have HB1 := Aside0.mk (below_step hB HBW.out); have HK1 := Aside0.mk (KeptH.of_below (T := TF) HBW.out); have HZ1 := Aside0.mk HBW.out.size; obtain ⟨bs, bn⟩ := two_blocks hb1; have sc1 := blk_cell bs 1; have sc2 := blk_cell bs 2; have sc3 := blk_cell bs 3; have sl := blk_lt bs; have nl := blk_lt bn; have BN := Aside0.mk bn; clear hb1 bs bn)
    | (go_at_call 29; refine (eject_any hq hv HF1.out HB1.out nm).mono ?_; rintro e w2 ⟨rfl, hi, hb, hk⟩; have BN2 := Aside0.mk (Ko.blkc hk BN.out (by decide)); have bn2 := BN2.out; have nf0 := blk_frozen bn2 0; have nf1 := blk_frozen bn2 1; have nf2 := blk_frozen bn2 2; have nf3 := blk_frozen bn2 3; have nc0 := blk_cell bn2 0; have nc1 := blk_cell bn2 1; have nc2 := blk_cell bn2 2; have nc3 := blk_cell bn2 3; have nl2 := blk_lt bn2; have HF2 := Aside0.mk hi; have HB2 := Aside0.mk hb; have HK2 := Aside0.mk (HK1.out.trans hk); clear hi hb hk bn2))
  refine bodyPost_ret (results_c1 (p := 4) rfl _ _ (w.heap.size + 1) 48 _ (0, 0) _ rfl (set4 BN2.out) Try.underlying48 rfl (by kernel_rfl)) rfl ?_
  exact ⟨_, _, rfl, Kd.R_nil _ _ _ _ _, Kd.R_nil _ _ _ _ _, seen_St HF2.out HB2.out HK2.out BN2.out (by decide) (by omega) (by have := HSZ.out; omega)⟩
set_option maxHeartbeats 4000000 in
theorem step_5 (k n : Int) (nm : ByteArray) (l : List ByteArray) (A : Option Addr) (c : Nat) (hc : l.length ≤ c) (hs : ∀ x ∈ l, x.size ≤ maxLen) (hC : ∀ W, KeptH TF w W → Below w0.heap.size w0 W → Kd.C Kd.string W A l.length l) (h : kindOf k = 5) :
    Calls Try.prog 26 #[ptr g, stV k n nm A l.length c] w fun e w' => ∃ va vb : Value, e = .returned (.agg #[.bool (stepF s k n nm l).1.is, .int .i64 (stepF s k n nm l).1.e, va, vb]) ∧ Kd.R Kd.string 9 w' w.heap.size (fun _ => True) va (stepF s k n nm l).1.a ∧ Kd.R Kd.string 9 w' w.heap.size (fun _ => True) vb (stepF s k n nm l).1.b ∧ St w0 w w' g (stepF s k n nm l).2 := by
  have HK := Aside0.mk (fun W => kind_raw k n nm A l.length c W)
  rw [h] at HK
  have HSZ := Aside0.mk (below_size hB)
  unfold stepF
  rw [h]
  rw [if_neg (by decide)]
  rw [if_neg (by decide)]
  rw [if_neg (by decide)]
  rw [if_neg (by decide)]
  rw [if_neg (by decide)]
  rw [if_pos rfl]
  clear h
  go_enter Try.func26, Try.ntmps26
  go_wp2_with (first
    | (go_at_call 27; refine (HK.out _).mono ?_; rintro e w1 ⟨rfl, hb1⟩; have HBW := Aside0.mk (below_step (below_alloc (below_alloc (Below.refl _ w) _) _) hb1); have HF1 := Aside0.mk (hF.below HBW.out); have HB1 := Aside0.mk (below_step hB HBW.out); have HK1 := Aside0.mk (KeptH.of_below (T := TF) HBW.out); have HZ1 := Aside0.mk HBW.out.size; obtain ⟨bs, bn⟩ := two_blocks hb1; have sc1 := blk_cell bs 1; have sc2 := blk_cell bs 2; have sc3 := blk_cell bs 3; have sl := blk_lt bs; have nl := blk_lt bn; have BN := Aside0.mk bn; clear hb1 bs bn)
    | (go_at_call 14; refine (admit_any hq hv HF1.out HB1.out n).mono ?_; rintro e w2 ⟨v1, rfl, hr1, hi, hb, hk⟩; obtain ⟨A1, n1, rfl⟩ := Kd.R_slice hr1; have HR1 := Aside0.mk (Kd.R_lower hr1 HZ1.out); clear hr1; have BN2 := Aside0.mk (Ko.blkc hk BN.out (by decide)); have bn2 := BN2.out; have nf0 := blk_frozen bn2 0; have nf1 := blk_frozen bn2 1; have nf2 := blk_frozen bn2 2; have nf3 := blk_frozen bn2 3; have nc0 := blk_cell bn2 0; have nc1 := blk_cell bn2 1; have nc2 := blk_cell bn2 2; have nc3 := blk_cell bn2 3; have nl2 := blk_lt bn2; have HF2 := Aside0.mk hi; have HB2 := Aside0.mk hb; have HK2 := Aside0.mk (HK1.out.trans hk); clear hi hb hk bn2))
  refine bodyPost_ret (results_c1 (p := 4) rfl _ _ (w.heap.size + 1) 48 _ (0, 0) _ rfl (set4 BN2.out) Try.underlying48 rfl (by kernel_rfl)) rfl ?_
  exact ⟨_, _, rfl, seen_row HR1.out BN2.out (str_ne (by decide)), Kd.R_nil _ _ _ _ _, seen_St HF2.out HB2.out HK2.out BN2.out (by decide) (by omega) (by have := HSZ.out; omega)⟩
set_option maxHeartbeats 4000000 in
theorem step_6 (k n : Int) (nm : ByteArray) (l : List ByteArray) (A : Option Addr) (c : Nat) (hc : l.length ≤ c) (hs : ∀ x ∈ l, x.size ≤ maxLen) (hC : ∀ W, KeptH TF w W → Below w0.heap.size w0 W → Kd.C Kd.string W A l.length l) (h : kindOf k = 6) :
    Calls Try.prog 26 #[ptr g, stV k n nm A l.length c] w fun e w' => ∃ va vb : Value, e = .returned (.agg #[.bool (stepF s k n nm l).1.is, .int .i64 (stepF s k n nm l).1.e, va, vb]) ∧ Kd.R Kd.string 9 w' w.heap.size (fun _ => True) va (stepF s k n nm l).1.a ∧ Kd.R Kd.string 9 w' w.heap.size (fun _ => True) vb (stepF s k n nm l).1.b ∧ St w0 w w' g (stepF s k n nm l).2 := by
  have HK := Aside0.mk (fun W => kind_raw k n nm A l.length c W)
  rw [h] at HK
  have HSZ := Aside0.mk (below_size hB)
  unfold stepF
  rw [h]
  rw [if_neg (by decide)]
  rw [if_neg (by decide)]
  rw [if_neg (by decide)]
  rw [if_neg (by decide)]
  rw [if_neg (by decide)]
  rw [if_neg (by decide)]
  rw [if_pos rfl]
  clear h
  go_enter Try.func26, Try.ntmps26
  go_wp2_with (first
    | (go_at_call 27; refine (HK.out _).mono ?_; rintro e w1 ⟨rfl, hb1⟩; have HBW := Aside0.mk (below_step (below_alloc (below_alloc (Below.refl _ w) _) _) hb1); have HF1 := Aside0.mk (hF.below HBW.out); have HB1 := Aside0.mk (below_step hB HBW.out); have HK1 := Aside0.mk (KeptH.of_below (T := TF) HBW.out); have HZ1 := Aside0.mk HBW.out.size; obtain ⟨bs, bn⟩ := two_blocks hb1; have sc1 := blk_cell bs 1; have sc2 := blk_cell bs 2; have sc3 := blk_cell bs 3; have sl := blk_lt bs; have nl := blk_lt bn; have BN := Aside0.mk bn; clear hb1 bs bn)
    | (go_at_call 51; refine (probe_any hq hv HF1.out HB1.out nm).mono ?_; rintro e w2 ⟨rfl, hi, hb, hk⟩; have BN2 := Aside0.mk (Ko.blkc hk BN.out (by decide)); have bn2 := BN2.out; have nf0 := blk_frozen bn2 0; have nf1 := blk_frozen bn2 1; have nf2 := blk_frozen bn2 2; have nf3 := blk_frozen bn2 3; have nc0 := blk_cell bn2 0; have nc1 := blk_cell bn2 1; have nc2 := blk_cell bn2 2; have nc3 := blk_cell bn2 3; have nl2 := blk_lt bn2; have HF2 := Aside0.mk hi; have HB2 := Aside0.mk hb; have HK2 := Aside0.mk (HK1.out.trans hk); clear hi hb hk bn2))
  refine bodyPost_ret (results_c1 (p := 4) rfl _ _ (w.heap.size + 1) 48 _ (0, 0) _ rfl (set4 BN2.out) Try.underlying48 rfl (by kernel_rfl)) rfl ?_
  exact ⟨_, _, rfl, Kd.R_nil _ _ _ _ _, Kd.R_nil _ _ _ _ _, seen_St HF2.out HB2.out HK2.out BN2.out (by decide) (by omega) (by have := HSZ.out; omega)⟩
set_option maxHeartbeats 4000000 in
theorem step_7 (k n : Int) (nm : ByteArray) (l : List ByteArray) (A : Option Addr) (c : Nat) (hc : l.length ≤ c) (hs : ∀ x ∈ l, x.size ≤ maxLen) (hC : ∀ W, KeptH TF w W → Below w0.heap.size w0 W → Kd.C Kd.string W A l.length l) (h : kindOf k = 7) :
    Calls Try.prog 26 #[ptr g, stV k n nm A l.length c] w fun e w' => ∃ va vb : Value, e = .returned (.agg #[.bool (stepF s k n nm l).1.is, .int .i64 (stepF s k n nm l).1.e, va, vb]) ∧ Kd.R Kd.string 9 w' w.heap.size (fun _ => True) va (stepF s k n nm l).1.a ∧ Kd.R Kd.string 9 w' w.heap.size (fun _ => True) vb (stepF s k n nm l).1.b ∧ St w0 w w' g (stepF s k n nm l).2 := by
  have HK := Aside0.mk (fun W => kind_raw k n nm A l.length c W)
  rw [h] at HK
  have HSZ := Aside0.mk (below_size hB)
  unfold stepF
  rw [h]
  rw [if_neg (by decide)]
  rw [if_neg (by decide)]
  rw [if_neg (by decide)]
  rw [if_neg (by decide)]
  rw [if_neg (by decide)]
  rw [if_neg (by decide)]
  rw [if_neg (by decide)]
  clear h
  go_enter Try.func26, Try.ntmps26
  go_wp2_with (first
    | (go_at_call 27; refine (HK.out _).mono ?_; rintro e w1 ⟨rfl, hb1⟩; have HBW := Aside0.mk (below_step (below_alloc (below_alloc (Below.refl _ w) _) _) hb1); have HF1 := Aside0.mk (hF.below HBW.out); have HB1 := Aside0.mk (below_step hB HBW.out); have HK1 := Aside0.mk (KeptH.of_below (T := TF) HBW.out); have HZ1 := Aside0.mk HBW.out.size; obtain ⟨bs, bn⟩ := two_blocks hb1; have sc1 := blk_cell bs 1; have sc2 := blk_cell bs 2; have sc3 := blk_cell bs 3; have sl := blk_lt bs; have nl := blk_lt bn; have BN := Aside0.mk bn; clear hb1 bs bn)
    | (go_at_call 23; refine (empty_any hq hv HF1.out HB1.out nm).mono ?_; rintro e w2 ⟨rfl, hi, hb, hk⟩; have BN2 := Aside0.mk (Ko.blkc hk BN.out (by decide)); have bn2 := BN2.out; have nf0 := blk_frozen bn2 0; have nf1 := blk_frozen bn2 1; have nf2 := blk_frozen bn2 2; have nf3 := blk_frozen bn2 3; have nc0 := blk_cell bn2 0; have nc1 := blk_cell bn2 1; have nc2 := blk_cell bn2 2; have nc3 := blk_cell bn2 3; have nl2 := blk_lt bn2; have HF2 := Aside0.mk hi; have HB2 := Aside0.mk hb; have HK2 := Aside0.mk (HK1.out.trans hk); clear hi hb hk bn2))
  refine bodyPost_ret (results_c1 (p := 4) rfl _ _ (w.heap.size + 1) 48 _ (0, 0) _ rfl (set4 BN2.out) Try.underlying48 rfl (by kernel_rfl)) rfl ?_
  exact ⟨_, _, rfl, Kd.R_nil _ _ _ _ _, Kd.R_nil _ _ _ _ _, seen_St HF2.out HB2.out HK2.out BN2.out (by decide) (by omega) (by have := HSZ.out; omega)⟩
theorem step_any (k n : Int) (nm : ByteArray) (l : List ByteArray) (A : Option Addr) (c : Nat) (hc : l.length ≤ c) (hs : ∀ x ∈ l, x.size ≤ maxLen) (hC : ∀ W, KeptH TF w W → Below w0.heap.size w0 W → Kd.C Kd.string W A l.length l) :
    Calls Try.prog 26 #[ptr g, stV k n nm A l.length c] w fun e w' => ∃ va vb : Value, e = .returned (.agg #[.bool (stepF s k n nm l).1.is, .int .i64 (stepF s k n nm l).1.e, va, vb]) ∧ Kd.R Kd.string 9 w' w.heap.size (fun _ => True) va (stepF s k n nm l).1.a ∧ Kd.R Kd.string 9 w' w.heap.size (fun _ => True) vb (stepF s k n nm l).1.b ∧ St w0 w w' g (stepF s k n nm l).2 := by
  rcases kind_range k with h | h | h | h | h | h | h | h
  · exact step_0 hq hv hF hB k n nm l A c hc hs hC h
  · exact step_1 hq hv hF hB k n nm l A c hc hs hC h
  · exact step_2 hq hv hF hB k n nm l A c hc hs hC h
  · exact step_3 hq hv hF hB k n nm l A c hc hs hC h
  · exact step_4 hq hv hF hB k n nm l A c hc hs hC h
  · exact step_5 hq hv hF hB k n nm l A c hc hs hC h
  · exact step_6 hq hv hF hB k n nm l A c hc hs hC h
  · exact step_7 hq hv hF hB k n nm l A c hc hs hC h
end
end Go.Proofs.Ytmlmiocomlehgaa.Man
namespace Go.Proofs.Ytmlmiocomlehgaa.Man
open Go.RowKit Go.Proofs.YtmlmiocomlehgaaW.PrintWords Go.Proofs.YtmlmiocomlehgaaW.PrintLast Go.Proofs.YtmlmiocomlehgaaW.PrintMore Go.Proofs.Ytmlmiocomlehgaa.PA Go.Proofs.Ytmlmiocomlehgaa.PF Go.Proofs.Ytmlmiocomlehgaa.Hid Go.Proofs.Ytmlmiocomlehgaa.Na Go.Proofs.Ytmlmiocomlehgaa.Nil
attribute [local go_sem] max2_int min2_int max_two min_two
/-- A step with its list's header. -/
structure HS where
  f0 : Int
  f1 : Int
  f2 : ByteArray
  A : Option Addr
  n : Nat
  c : Nat
def kHd : Kd (Option Addr × Nat × Nat) := Kd.scalar (fun h => .slice h.1 h.2.1 h.2.2) (fun _ => rfl)
def kH : Kd HS := Kd.iso (Kd.pair (Kd.int .i64) (Kd.pair (Kd.int .i64) (Kd.pair Kd.string kHd))) (fun x : HS => (x.f0, x.f1, x.f2, (x.A, x.n, x.c)))
def hcells (x : HS) : List Value := [.int .i64 x.f0, .int .i64 x.f1, .string x.f2, .slice x.A x.n x.c]
theorem kH_open {w : World} {x : HS} {cs : List Value} (h : kH.K w x cs) : cs = hcells x := by
  obtain ⟨c0, r0, rfl, h0, c1, r1, rfl, h1, c2, r2, rfl, h2, h3⟩ := h
  have e0 : c0 = [.int .i64 x.f0] := h0
  have e1 : c1 = [.int .i64 x.f1] := h1
  have e2 : c2 = [.string x.f2] := h2
  have e3 : r2 = [.slice x.A x.n x.c] := h3
  subst e0 e1 e2 e3
  rfl
theorem kH_mk (w : World) (x : HS) : kH.K w x (hcells x) := ⟨[.int .i64 x.f0], [.int .i64 x.f1, .string x.f2, .slice x.A x.n x.c], rfl, rfl, ⟨[.int .i64 x.f1], [.string x.f2, .slice x.A x.n x.c], rfl, rfl, ⟨[.string x.f2], [.slice x.A x.n x.c], rfl, rfl, rfl⟩⟩⟩
theorem kH_mkM (w : World) (base : Nat) (ok : Nat → Prop) (x : HS) : kH.M w base ok x (hcells x) := ⟨[.int .i64 x.f0], [.int .i64 x.f1, .string x.f2, .slice x.A x.n x.c], rfl, rfl, ⟨[.int .i64 x.f1], [.string x.f2, .slice x.A x.n x.c], rfl, rfl, ⟨[.string x.f2], [.slice x.A x.n x.c], rfl, rfl, rfl⟩⟩⟩
theorem at_TH {w : World} {A : Option Addr} {xs : List HS} (h : Kd.C kH w A xs.length xs) {i : Nat} {x : HS} (hx : xs[i]? = some x) : ∃ ad, A = some ad ∧ w.cell? (ad.add (i * 4)) = some (.int .i64 x.f0) ∧ w.cell? ⟨(ad.add (i * 4)).block, (ad.add (i * 4)).off + 1, none⟩ = some (.int .i64 x.f1) ∧ w.cell? ⟨(ad.add (i * 4)).block, (ad.add (i * 4)).off + 2, none⟩ = some (.string x.f2) ∧ w.cell? ⟨(ad.add (i * 4)).block, (ad.add (i * 4)).off + 3, none⟩ = some (.slice x.A x.n x.c) := by
  have hlt := (List.getElem?_eq_some_iff.1 hx).1
  obtain ⟨_, _, h2⟩ := h
  obtain ⟨ad, rfl, hc⟩ := h2 (by omega)
  obtain ⟨cs, _, hk, hcell⟩ := hc i x hx
  obtain rfl := kH_open hk
  exact ⟨ad, rfl, hcell 0 _ rfl, by rw [← add_field _ _ 1 (by omega)]; exact hcell 1 _ rfl, by rw [← add_field _ _ 2 (by omega)]; exact hcell 2 _ rfl, by rw [← add_field _ _ 3 (by omega)]; exact hcell 3 _ rfl⟩
/-- Cut. -/
def cutH (x : HS) : HS := ⟨x.f0, x.f1, x.f2.extract 0 (min x.f2.size 20), x.A, min x.n 20, x.c⟩
set_option maxHeartbeats 8000000 in
set_option maxRecDepth 100000 in
theorem early_raw (xs : List HS) (A : Option Addr) (c : Nat) (w : World) (hC : Kd.C kH w A xs.length xs) (hc : xs.length ≤ c) (hn : ∀ x ∈ xs, x.n ≤ x.c) :
    Calls Try.prog 25 #[.slice A xs.length c] w fun e w' => ∃ v, e = .returned v ∧ Kd.R kH 51 w' w.heap.size (fun _ => True) v ((xs.take 80).map cutH) ∧ Below w.heap.size w w' := by
  have HC := Aside0.mk hC
  have HNC := Aside0.mk hn
  have hlm : xs.length ≤ 9223372036854775807 := hC.2.1
  obtain ⟨es, hes⟩ : ∃ e, e = (xs.take 80).map cutH := ⟨_, rfl⟩
  rw [← hes]
  have HES := Aside0.mk hes
  clear hC hn hes
  go_enter Try.func25, Try.ntmps25
  go_wp2
  go_loopw [3, 4] (fun v3 v4 wr => ∃ k : Nat, v4 = .int .i64 (k : Int) ∧ k ≤ xs.length ∧ k ≤ 80 ∧ Aside0 (Kd.R kH 51 wr w.heap.size (fun _ => True) v3 ((xs.take k).map cutH)) ∧ Aside0 (Below w.heap.size w wr)) (fun _ v4 _ => xs.length - (intOf v4).toNat)
  case atStart => exact ⟨0, rfl, Nat.zero_le _, Nat.zero_le _, ⟨by simpa using Kd.R_nil _ _ _ _ _⟩, ⟨Below.refl _ _⟩⟩
  case round =>
    obtain ⟨k, rfl, hkl, hk80, HO, HB⟩ := hrel
    by_cases hlt : k < xs.length
    · have hkI : (k : Int) < (xs.length : Int) := by omega
      by_cases h80 : k < 80
      · obtain ⟨Ao, no, rfl⟩ := Kd.R_slice HO.out
        have h80I : (k : Int) < 80 := by omega
        obtain ⟨x, hx⟩ : ∃ x, xs[k]? = some x := ⟨_, List.getElem?_eq_getElem hlt⟩
        obtain ⟨ad, had, hx0, hx1, hx2, hx3⟩ := at_TH (Kd.C_below HC.out HB.out) hx
        subst had
        have hk0 : (0 : Int) ≤ (k : Int) := by omega
        obtain ⟨m5, hm5⟩ : ∃ m : Nat, m = min x.f2.size 20 := ⟨_, rfl⟩
        obtain ⟨m6, hm6⟩ : ∃ m : Nat, m = min x.n 20 := ⟨_, rfl⟩
        have hj5 : (if (20 : Int) < (x.f2.size : Int) then (20 : Int) else (x.f2.size : Int)) = (m5 : Int) := by split <;> omega
        have hj6 : (if (20 : Int) < (x.n : Int) then (20 : Int) else (x.n : Int)) = (m6 : Int) := by split <;> omega
        have h5a : m5 ≤ x.f2.size := by omega
        have h6a : m6 ≤ x.n := by omega
        have h6c : x.n ≤ x.c := HNC.out x (List.mem_of_getElem? hx)
        have h6d : m6 ≤ x.c := by omega
        have HX := Aside0.mk hx
        have HM5 := Aside0.mk hm5
        have HM6 := Aside0.mk hm6
        have HY : Aside0 ((xs.take (k + 1)).map cutH = (xs.take k).map cutH ++ [⟨x.f0, x.f1, x.f2.extract 0 m5, x.A, m6, x.c⟩]) := ⟨by
          rw [List.take_add_one, hx, hm5, hm6]
          simp [cutH]⟩
        have hyl : ((xs.take k).map cutH).length ≤ 80 := by simp; omega
        generalize (xs.take k).map cutH = ys at HO HY hyl
        have HYL := Aside0.mk hyl
        clear hx hm5 hm6 hyl
        go_wp2_with ((with_reducible refine gate_builtin (b := .append) (xs := #[.tmp 36, .tmp 38]) rfl ?_); (try (refine gate_guard (by rfl) ?_; dsimp only)); at_builtin; refine Kd.R_append kH (w0 := w) w.heap.size rfl (.tmp 36) (.tmp 38) 45 51 (.agg #[(.int .i64 0), (.int .i64 0), (.string ⟨#[]⟩), (.slice none 0 0)]) 56 rfl Try.underlying45 info51 rfl (by decide) (by omega) (.slice Ao ys.length no) ys ⟨x.f0, x.f1, x.f2.extract 0 m5, x.A, m6, x.c⟩ [.int .i64 x.f0, .int .i64 x.f1, .string (x.f2.extract 0 m5), .slice x.A m6 x.c] (fun _ => True) (fun _ => False) rfl ?aX ?aP (fun _ h => h.elim) (fun _ _ => trivial) ?aO ?aB ?aS ?aL ?_; (case aX => (show Value.slice (some ⟨wr.heap.size + 1, 0, none⟩) 1 1 = _; simp)); (case aP => exact kH_mkM _ _ _ ⟨x.f0, x.f1, x.f2.extract 0 m5, x.A, m6, x.c⟩); (case aO => exact Kd.R_alloc HO.out _); (case aB => exact below_alloc HB.out _); (case aS => have := HB.out.size; simp; omega); (case aL => have := HYL.out; omega); intro v5 w5 ho hb hg hat; have HO5 := Aside0.mk ho; have HB5 := Aside0.mk hb; clear ho hb hg hat)
        go_roundw
        case measure => simp [intOf]; omega
        case rel => exact ⟨k + 1, by rw [show ((k : Int) + 1) = ((k + 1 : Nat) : Int) by omega], by omega, by omega, ⟨by rw [HY.out]; exact HO5.out⟩, HB5⟩
      · have h80I : ¬ (k : Int) < 80 := by omega
        have hke : k = 80 := by omega
        subst hke
        rw [← HES.out] at HO
        obtain ⟨Ao, no, rfl⟩ := Kd.R_slice HO.out
        go_wp2
        go_ret
        exact ⟨_, rfl, HO.out, HB.out⟩
    · have hkI : ¬ (k : Int) < (xs.length : Int) := by omega
      have hke : k = xs.length := by omega
      have he : (xs.take k).map cutH = es := by rw [HES.out, hke, List.take_length, List.take_of_length_le (show xs.length ≤ 80 by omega)]
      rw [he] at HO
      obtain ⟨Ao, no, rfl⟩ := Kd.R_slice HO.out
      clear he
      go_wp2
      go_ret
      exact ⟨_, rfl, HO.out, HB.out⟩
end Go.Proofs.Ytmlmiocomlehgaa.Man
namespace Go.Proofs.Ytmlmiocomlehgaa.Man
open Go.RowKit Go.Proofs.YtmlmiocomlehgaaW.PrintWords Go.Proofs.YtmlmiocomlehgaaW.PrintLast Go.Proofs.YtmlmiocomlehgaaW.PrintMore Go.Proofs.Ytmlmiocomlehgaa.PA Go.Proofs.Ytmlmiocomlehgaa.PF Go.Proofs.Ytmlmiocomlehgaa.Hid Go.Proofs.Ytmlmiocomlehgaa.Na Go.Proofs.Ytmlmiocomlehgaa.Nil
/-- The six names. -/
def H6 : List ByteArray := [(⟨#[104, 48]⟩ : ByteArray), (⟨#[104, 49]⟩ : ByteArray), (⟨#[104, 50]⟩ : ByteArray), (⟨#[104, 51]⟩ : ByteArray), (⟨#[104, 52]⟩ : ByteArray), (⟨#[104, 53]⟩ : ByteArray)]
/-- Names that differ, of the six. -/
def Goods (r : List ByteArray) : Prop := r.Nodup ∧ r ⊆ H6
theorem Goods.len {r : List ByteArray} (h : Goods r) : r.length ≤ 6 := List.Nodup.length_le_of_subset h.1 h.2
theorem has_le (x : ByteArray) (l : List ByteArray) (hm : l.length ≤ 6) (k : Nat) (hk : 7 ≤ k) : hostlerref09_Has.f k l x = some (hasB x l) := by
  obtain ⟨j, rfl⟩ : ∃ j, k = l.length + 1 + j := ⟨k - (l.length + 1), by omega⟩
  induction j with
  | zero => exact has_some x l (by omega)
  | succ j ih =>
    by_cases c : 7 ≤ l.length + 1 + j
    · exact hostlerref09_Has.mono _ _ _ _ (ih c)
    · clear ih
      have h1 : ∀ j, hostlerref09_Has.f (l.length + 1 + j) l x = some (hasB x l) := by
        intro j
        induction j with
        | zero => exact has_some x l (by omega)
        | succ j ih => exact hostlerref09_Has.mono _ _ _ _ ih
      exact h1 (j + 1)
theorem good_loop (l : List Int) (hm : l.length ≤ 9223372036854775807) (d : Nat) : ∀ (k j : Nat) (acc : List ByteArray), j ≤ l.length → l.length - j = d → d + 8 ≤ k → Goods acc → ∃ r, hostlerref09_Good.l0 k l acc H6 (j : Int) = some r ∧ Goods r := by
  induction d with
  | zero =>
    intro k j acc hj hd hk hg
    obtain ⟨k, rfl⟩ : ∃ k', k = k' + 1 := ⟨k - 1, by omega⟩
    refine ⟨acc, ?_, hg⟩
    simp only [hostlerref09_Good.l0]
    rw [if_neg (by omega)]
  | succ d ih =>
    intro k j acc hj hd hk hg
    obtain ⟨k, rfl⟩ : ∃ k', k = k' + 1 := ⟨k - 1, by omega⟩
    simp only [hostlerref09_Good.l0]
    rw [if_pos (by omega), if_pos (by omega)]
    obtain ⟨q, hq, hq6⟩ := mod_n (rd l (j : Int)) 6 (by decide) (by decide)
    have hq' : wrap64 (Int.tmod (IntKind.u64.wrap (rd l (j : Int))) 6) = (q : Int) := hq
    rw [hq', if_pos (by omega), if_pos (show (q : Int) < (H6.length : Int) by show (q : Int) < 6; omega)]
    have hw : wrap64 ((j : Int) + 1) = ((j + 1 : Nat) : Int) := by unfold wrap64; omega
    rw [has_le _ _ hg.len k (by omega), hw]
    simp only [Option.bind_some]
    have hin : rdOf ByteArray.empty H6 (q : Int) ∈ H6 := by
      unfold rdOf
      rw [Int.toNat_natCast, List.getD_eq_getElem?_getD, List.getElem?_eq_getElem (show q < H6.length from hq6)]
      exact List.getElem_mem _
    generalize rdOf ByteArray.empty H6 (q : Int) = nm at hin
    by_cases c : nm ∈ acc
    · rw [(hasB_iff nm acc).2 c, if_pos rfl]
      exact ih k (j + 1) acc (by omega) (by omega) (by omega) hg
    · rw [hasB_no nm acc c, if_neg (by decide), if_pos (by have := hg.len; omega)]
      refine ih k (j + 1) (acc ++ [nm]) (by omega) (by omega) (by omega) ⟨?_, ?_⟩
      · rw [List.nodup_append]
        refine ⟨hg.1, by simp, fun a ha b hb => ?_⟩
        rw [List.mem_singleton.1 hb]
        rintro rfl
        exact c ha
      · intro a ha
        rcases List.mem_append.1 ha with ha | ha
        · exact hg.2 ha
        · rw [List.mem_singleton.1 ha]
          exact hin
theorem good_raw (l : List Int) (A : Option Addr) (c : Nat) (w : World) (hC : Kd.C (Kd.int .i64) w A l.length l) (hc : l.length ≤ c) :
    ∃ r, Goods r ∧ Calls Try.prog 11 #[.slice A l.length c] w fun e w' => ∃ v0_ : Value, e = .returned v0_ ∧ Kd.R Kd.string 9 w' w.heap.size (fun _ => True) v0_ r ∧ Below w.heap.size w w' := by
  obtain ⟨r, h1, h2⟩ := good_loop l hC.2.1 l.length (l.length + 8) 0 [] (Nat.zero_le _) rfl (Nat.le_refl _) ⟨List.nodup_nil, by simp⟩
  exact ⟨r, h2, hostlerref09_Good.calls (l.length + 8) A c l r w hC hc h1⟩
theorem h6_ok {x : ByteArray} (h : x ∈ H6) : nameB x = true ∧ x.size ≤ maxLen := by
  have : ∀ x ∈ H6, nameB x = true ∧ x.size ≤ maxLen := by decide
  exact this x h
theorem Goods.check {r : List ByteArray} (h : Goods r) : checkE r = 0 := by
  unfold checkE
  have := h.len
  rw [if_neg (by omega), if_neg, if_pos (nodupB_iff.2 h.1)]
  have : r.all nameB = true := List.all_eq_true.2 (fun x hx => (h6_ok (h.2 hx)).1)
  rw [this]
  decide
theorem look_mem {hs : List HV} {nm : ByteArray} (h : nm ∉ hs.map (·.nm)) : lookH hs nm = none := by
  rcases posH_bd hs nm with ⟨h1, _⟩ | ⟨i, x, h1, h2, h3⟩
  · exact look_none h1
  · exact absurd (List.mem_map.2 ⟨x, List.mem_of_getElem? h2, h3⟩) h
theorem look_at {hs : List HV} (hn : (hs.map (·.nm)).Nodup) {i : Nat} {x : HV} (hx : hs[i]? = some x) : lookH hs x.nm = some x := look_some (posH_of hn hx) hx
def freshH (l : List ByteArray) : List HV := l.map (fun nm => ⟨nm, 0, false⟩)
theorem fresh_nm (l : List ByteArray) : (freshH l).map (·.nm) = l := by simp [freshH, Function.comp_def]
/-- Names that aren't there come. -/
theorem came_fresh : ∀ (l : List ByteArray) (s : FS), l.Nodup → (∀ x ∈ l, x ∉ s.hs.map (·.nm)) → cameL l s = ({ s with hs := s.hs ++ freshH l }, l)
  | [], s, _, _ => by simp [cameL, freshH]
  | nm :: l, s, hn, hd => by
    unfold cameL
    obtain ⟨h1, h2⟩ := List.nodup_cons.1 hn
    rw [look_mem (hd nm (by simp))]
    dsimp only
    rw [came_fresh l { s with hs := s.hs ++ [⟨nm, 0, false⟩] } h2 (fun x hx hm => by
      simp only [List.map_append, List.map_cons, List.map_nil, List.mem_append, List.mem_singleton] at hm
      rcases hm with hm | hm
      · exact hd x (by simp [hx]) hm
      · exact h1 (hm ▸ hx))]
    simp [freshH]
/-- A fleet resolved for the first time. -/
theorem resolve_first (each guard : Int) {r : List ByteArray} (h : Goods r) (dl : Int) : resolveF ⟨each, guard, [], ⟨[]⟩⟩ r dl = ((r, [], 0), ⟨each, guard, freshH r, ⟨[]⟩⟩) := by
  unfold resolveF
  rw [if_pos h.check]
  have : leftL r dl ([] : List HV) ⟨each, guard, [], ⟨[]⟩⟩ = (⟨each, guard, [], ⟨[]⟩⟩, []) := rfl
  rw [this]
  dsimp only
  rw [came_fresh r ⟨each, guard, [], ⟨[]⟩⟩ h.1 (by simp)]
  rfl
end Go.Proofs.Ytmlmiocomlehgaa.Man
namespace Go.Proofs.Ytmlmiocomlehgaa.Man
open Go.RowKit Go.Proofs.YtmlmiocomlehgaaW.PrintWords Go.Proofs.YtmlmiocomlehgaaW.PrintLast Go.Proofs.YtmlmiocomlehgaaW.PrintMore Go.Proofs.Ytmlmiocomlehgaa.PA Go.Proofs.Ytmlmiocomlehgaa.PF Go.Proofs.Ytmlmiocomlehgaa.Hid Go.Proofs.Ytmlmiocomlehgaa.Na Go.Proofs.Ytmlmiocomlehgaa.Nil
theorem place_nil (nm : ByteArray) (j : Int) : placeOf [] nm j = -1 := rfl
theorem place_one (nm : ByteArray) (a : Int) (b : Bool) : placeOf [⟨nm, a, b⟩] nm 0 = 0 := by simp [placeOf]
theorem end_nil (nm : ByteArray) : endF ⟨[]⟩ nm = ⟨[]⟩ := by simp [endF, endRow, placeOf]
theorem end_one (nm : ByteArray) (a : Int) (b : Bool) : endF ⟨[⟨nm, a, b⟩]⟩ nm = ⟨[]⟩ := by simp [endF, endRow, place_one]
theorem ask_nil {nm : ByteArray} (h : nameB nm = true) : askF ⟨[]⟩ nm = (0, ⟨[⟨nm, 0, false⟩]⟩) := by
  unfold askF
  rw [if_pos h, if_pos (by rw [place_nil]; decide), if_pos (by decide)]
  rfl
theorem ask_one {nm : ByteArray} (h : nameB nm = true) (a : Int) (b : Bool) : askF ⟨[⟨nm, a, b⟩]⟩ nm = (6, ⟨[⟨nm, a, b⟩]⟩) := by
  unfold askF
  rw [if_pos h, if_neg (by rw [place_one]; decide)]
def clampN (n : Int) : Int := mn (mx n 0) 1099511627776
theorem begin_nil {nm : ByteArray} (h : nameB nm = true) (dl : Int) : beginF ⟨[]⟩ nm dl = (0, ⟨[⟨nm, clampN dl, true⟩]⟩) := by
  unfold beginF
  rw [if_pos h, if_pos (by rw [place_nil]; decide)]
  rfl
theorem idx_nil (nm : ByteArray) (j : Int) : idxOf [] nm j = -1 := rfl
theorem idx_one (nm : ByteArray) : idxOf [nm] nm 0 = 0 := by simp [idxOf]
theorem names_wait (nm : ByteArray) (a : Int) : namesOf [⟨nm, a, false⟩] false = [nm] := rfl
theorem names_under (nm : ByteArray) (a : Int) : namesOf [⟨nm, a, true⟩] false = [] := rfl
theorem due_none (now : Int) : dueOf ⟨[]⟩ now = [] := rfl
theorem past_self (now : Int) : pastB now (clampN now) = true := by
  unfold pastB clampN cutT mn mx
  refine decide_eq_true ?_
  (repeat' split) <;> omega
theorem due_one (nm : ByteArray) (now : Int) : dueOf ⟨[⟨nm, clampN now, true⟩]⟩ now = [nm] := by
  have hd : deadOf ⟨[⟨nm, clampN now, true⟩]⟩ nm = (clampN now, true) := dead_of (b := 1) ⟨by simp, by simp, by simp [namesOf]⟩ (x := ⟨nm, clampN now, true⟩) (by simp)
  unfold dueOf
  show List.filter _ [nm] = [nm]
  rw [List.filter_cons, hd, if_pos (past_self now)]
  rfl
section
variable {s : FS} {i : Nat} {x : HV} (hn : (s.hs.map (·.nm)).Nodup) (hx : s.hs[i]? = some x) (hb : nameB x.nm = true)
include hn hx
theorem state_at : stateV s x.nm = (x.st, true) := by unfold stateV; rw [look_at hn hx]
theorem leaves_at : leavesV s x.nm = x.lv := by unfold leavesV; rw [look_at hn hx]
theorem setH_i (y : HV) : setH s.hs x.nm y = s.hs.set i y := setH_at (posH_of hn hx) y
theorem delH_i : delH s.hs x.nm = s.hs.eraseIdx i := delH_at (posH_of hn hx)
theorem empty_yes (h : nextB x.st 4 = true) (hl : x.lv = false) : emptyF s x.nm = (true, { s with hs := s.hs.set i (evH x 4), ds := endF s.ds x.nm }) := by
  unfold emptyF
  rw [look_at hn hx]
  simp only [h, if_true, hl, Bool.false_eq_true, if_false]
  rw [setH_i hn hx]
theorem empty_gone (h : nextB x.st 4 = true) (hl : x.lv = true) : emptyF s x.nm = (true, { s with hs := s.hs.eraseIdx i, ds := endF s.ds x.nm }) := by
  unfold emptyF
  rw [look_at hn hx]
  simp only [h, if_true, hl]
  rw [delH_i hn hx]
include hb
theorem known_at : knownE s x.nm = 0 := by
  unfold knownE
  rw [if_pos hb, posH_of hn hx, if_neg (by omega)]
theorem drain_yes (h1 : x.st = 0) : drainF s x.nm = ((askF s.ds x.nm).1, { s with ds := (askF s.ds x.nm).2 }) := by
  unfold drainF
  rw [if_pos (known_at hn hx hb), look_at hn hx]
  dsimp only
  rw [if_neg (by omega)]
theorem drain_no (h1 : x.st = 1 ∨ x.st = 3) : drainF s x.nm = (8, s) := by
  unfold drainF
  rw [if_pos (known_at hn hx hb), look_at hn hx]
  dsimp only
  rw [if_pos h1]
theorem undrain_wait (hl : x.lv = false) (h : 0 ≤ idxOf (namesOf s.ds.row false) x.nm 0) : undrainF s x.nm = (0, { s with ds := endF s.ds x.nm }) := by
  unfold undrainF
  rw [if_pos (known_at hn hx hb), look_at hn hx]
  dsimp only
  rw [hl, if_neg (by decide), if_neg (by omega)]
theorem undrain_back (hl : x.lv = false) (h : idxOf (namesOf s.ds.row false) x.nm 0 < 0) (he : nextB x.st 1 = true) : undrainF s x.nm = (0, { s with hs := s.hs.set i (evH x 1), ds := endF s.ds x.nm }) := by
  unfold undrainF
  rw [if_pos (known_at hn hx hb), look_at hn hx]
  dsimp only
  rw [hl, if_neg (by decide), if_pos h, if_pos he, setH_i hn hx]
theorem undrain_no (hl : x.lv = false) (h : idxOf (namesOf s.ds.row false) x.nm 0 < 0) (he : nextB x.st 1 = false) : undrainF s x.nm = (8, s) := by
  unfold undrainF
  rw [if_pos (known_at hn hx hb), look_at hn hx]
  dsimp only
  rw [hl, if_neg (by decide), if_pos h, he, if_neg (by decide)]
theorem force_yes (h : x.st ≠ 3) (now : Int) : forceF s x.nm now = ((beginF (endF s.ds x.nm) x.nm now).1, { s with hs := s.hs.set i (evH x 0), ds := (beginF (endF s.ds x.nm) x.nm now).2 }) := by
  unfold forceF
  rw [if_pos (known_at hn hx hb), look_at hn hx]
  dsimp only
  rw [if_neg h, setH_i hn hx]
theorem force_no (h : x.st = 3) (now : Int) : forceF s x.nm now = (8, s) := by
  unfold forceF
  rw [if_pos (known_at hn hx hb), look_at hn hx]
  dsimp only
  rw [if_pos h]
theorem eject_no (h : x.st ≠ 0) : ejectF s x.nm = (8, s) := by
  unfold ejectF
  rw [if_pos (known_at hn hx hb), look_at hn hx]
  dsimp only
  rw [if_neg h]
end
end Go.Proofs.Ytmlmiocomlehgaa.Man
namespace Go.Proofs.Ytmlmiocomlehgaa.Man
open Go.RowKit Go.Proofs.YtmlmiocomlehgaaW.PrintWords Go.Proofs.YtmlmiocomlehgaaW.PrintLast Go.Proofs.YtmlmiocomlehgaaW.PrintMore Go.Proofs.Ytmlmiocomlehgaa.PA Go.Proofs.Ytmlmiocomlehgaa.PF Go.Proofs.Ytmlmiocomlehgaa.Hid Go.Proofs.Ytmlmiocomlehgaa.Na Go.Proofs.Ytmlmiocomlehgaa.Nil
theorem look_cases (hs : List HV) (nm : ByteArray) : (lookH hs nm = none ∧ posH hs nm = -1 ∧ nm ∉ hs.map (·.nm)) ∨ ∃ (i : Nat) (x : HV), lookH hs nm = some x ∧ posH hs nm = (i : Int) ∧ hs[i]? = some x ∧ x.nm = nm := by
  rcases posH_bd hs nm with ⟨h1, h2⟩ | ⟨i, x, h1, h2, h3⟩
  · refine .inl ⟨look_none h1, h1, fun h => ?_⟩
    obtain ⟨x, hx, e⟩ := List.mem_map.1 h
    exact h2 x hx e
  · exact .inr ⟨i, x, look_some h1 h2, h1, h2, h3⟩
theorem setH_nm {hs : List HV} {nm : ByteArray} {x y : HV} (h : lookH hs nm = some x) (hy : y.nm = x.nm) : (setH hs nm y).map (·.nm) = hs.map (·.nm) := by
  rcases look_cases hs nm with ⟨h1, _⟩ | ⟨i, z, h1, h2, h3, h4⟩
  · rw [h] at h1; cases h1
  · rw [h] at h1
    injection h1 with h1
    subst h1
    rw [setH_at h2, List.map_set, hy]
    refine set_same ?_
    rw [List.getElem?_map, h3]
    rfl
theorem admit1_nm (s : FS) (nm : ByteArray) (dl : Int) : (admit1 s nm dl).hs.map (·.nm) = s.hs.map (·.nm) := by
  unfold admit1
  dsimp only
  split
  · rename_i x hx
    exact setH_nm hx rfl
  · rfl
theorem admitL_spec (dl : Int) : ∀ (l : List ByteArray) (s : FS) (b : Nat), DOk s.ds b → namesOf s.ds.row false = l →
    ∃ adm rest, l = adm ++ rest ∧ (admitL dl l s).2 = adm ∧ namesOf (admitL dl l s).1.ds.row false = rest ∧ (admitL dl l s).1.hs.map (·.nm) = s.hs.map (·.nm) ∧ (admitL dl l s).1.each = s.each ∧ (admitL dl l s).1.guard = s.guard ∧ ∀ nm l', rest = nm :: l' → mayS (admitL dl l s).1 nm = false
  | [], s, b, h, hw => ⟨[], [], rfl, rfl, hw, rfl, rfl, rfl, fun _ _ h => by cases h⟩
  | nm :: l, s, b, h, hw => by
    unfold admitL
    by_cases c : mayS s nm = true
    · rw [if_pos c]
      obtain ⟨h1, h2, h3⟩ := admit_ok h hw dl
      obtain ⟨adm, rest, h4, h5, h6, h7, h8, h9, h10⟩ := admitL_spec dl l (admit1 s nm dl) _ h1 h3
      exact ⟨nm :: adm, rest, by rw [h4]; rfl, by rw [h5], h6, h7.trans (admit1_nm s nm dl), h8, h9, h10⟩
    · rw [if_neg c]
      refine ⟨[], nm :: l, rfl, rfl, hw, rfl, rfl, rfl, fun nm' l' h => ?_⟩
      injection h with h _
      rw [← h]
      simpa using c
/-- What FleetRow keeps. -/
structure RowI (s : FS) (names asked got : List ByteArray) (each gu : Int) (n : Nat) : Prop where
  inv : FInv s n
  nm : s.hs.map (·.nm) = names
  row : got ++ namesOf s.ds.row false = asked
  sub : ∀ x ∈ namesOf s.ds.row false, x ∈ names
  e : s.each = each
  g : s.guard = gu
theorem act_le (hs : List HV) : actN hs ≤ hs.length := List.length_filter_le _ _
theorem cap_eq {s : FS} {names : List ByteArray} {e : Nat} (hg : Goods names) (hn : s.hs.map (·.nm) = names) (he : s.each = (e : Int)) (h8 : e ≤ 8) : capV s = (actN s.hs : Int) * (e : Int) ∧ 0 ≤ capV s ∧ capV s ≤ 48 := by
  have h1 := act_le s.hs
  have h2 : s.hs.length ≤ 6 := by
    have := hg.len
    rw [← hn, List.length_map] at this
    exact this
  have h3 : pos0 s.each = (e : Int) := by rw [he]; unfold pos0; rw [if_pos (by omega)]
  unfold capV
  rw [h3]
  generalize actN s.hs = a at h1
  have ha : a ≤ 6 := Nat.le_trans h1 h2
  have h4 : a * e ≤ 6 * 8 := Nat.mul_le_mul ha h8
  have h5 : (a : Int) * (e : Int) = ((a * e : Nat) : Int) := by simp
  rw [h5]
  generalize a * e = m at h4
  have : wrap64 (m : Int) = (m : Int) := by unfold wrap64; omega
  rw [this]
  omega
theorem row_admit {s : FS} {names asked got : List ByteArray} {e n : Nat} {gu : Int} (hg : Goods names) (h8 : e ≤ 8) (h : RowI s names asked got (e : Int) gu n) (dl : Int) :
    RowI (admitF s dl).2 names asked (got ++ (admitF s dl).1) (e : Int) gu (n + 1) ∧ (got ++ (admitF s dl).1).length ≤ asked.length ∧ ((got ++ (admitF s dl).1).length < asked.length → decide (gu ≤ capV (admitF s dl).2 - (e : Int)) = false) := by
  obtain ⟨adm, rest, h1, h2, h3, h4, h5, h6, h7⟩ := admitL_spec dl (namesOf s.ds.row false) s _ h.inv.ok rfl
  have ha : (admitF s dl).1 = adm := h2
  have hr : namesOf (admitF s dl).2.ds.row false = rest := h3
  have hn : (admitF s dl).2.hs.map (·.nm) = names := h4.trans h.nm
  have he : (admitF s dl).2.each = (e : Int) := h5.trans h.e
  have hgu : (admitF s dl).2.guard = gu := h6.trans h.g
  have hm : ∀ nm l', rest = nm :: l' → mayS (admitF s dl).2 nm = false := h7
  have hrow := h.row
  rw [h1] at hrow
  rw [ha]
  have hI : RowI (admitF s dl).2 names asked (got ++ adm) (e : Int) gu (n + 1) := ⟨h.inv.admit dl, hn, by rw [hr, List.append_assoc]; exact hrow, fun x hx => h.sub x (by rw [h1]; rw [hr] at hx; simp [hx]), he, hgu⟩
  refine ⟨hI, ?_, fun hlt => ?_⟩
  · rw [← hrow]
    simp
  · cases rest with
    | nil =>
      rw [← hrow] at hlt
      simp at hlt
    | cons nm l' =>
      have hmay := hm nm l' rfl
      have hin : nm ∈ (admitF s dl).2.hs.map (·.nm) := by
        rw [hn]
        exact h.sub nm (by rw [h1]; simp)
      generalize (admitF s dl).2 = s' at hn he hgu hmay hin
      obtain ⟨hc1, hc2, hc3⟩ := cap_eq hg hn he h8
      rcases look_cases s'.hs nm with ⟨_, _, h⟩ | ⟨i, x, _, h2, h3, h4⟩
      · exact absurd hin h
      · have hilt := (List.getElem?_eq_some_iff.1 h3).1
        unfold mayS mayI at hmay
        rw [h2, if_neg (by rw [List.length_map]; omega)] at hmay
        have hc : wrap64 ((actI (s'.hs.map (·.st)) : Int) * pos0 s'.each) = capV s' := by rw [actI_map]; rfl
        have hp : pos0 s'.each = (e : Int) := by rw [he]; unfold pos0; rw [if_pos (by omega)]
        rw [hc, hp, hgu] at hmay
        have hw : wrap64 (capV s' - (e : Int)) = capV s' - (e : Int) := by unfold wrap64; omega
        rw [hw] at hmay
        split at hmay
        · exact hmay
        · cases hmay
theorem idx_last (nm : ByteArray) : ∀ (l : List ByteArray) (j : Int), nm ∉ l → idxOf (l ++ [nm]) nm j = j + (l.length : Int)
  | [], j, _ => by simp [idxOf]
  | y :: l, j, h => by
    have hy : nm ≠ y := fun e => h (by rw [e]; simp)
    rw [List.cons_append, idxOf, if_neg (fun e => hy (tl_inj.1 e)), idx_last nm l (j + 1) (fun e => h (by simp [e]))]
    simp
    omega
theorem ask_cases (d : DS) (nm : ByteArray) : ((askF d nm).1 ≠ 0 ∧ (askF d nm).2 = d) ∨ ((askF d nm).1 = 0 ∧ (askF d nm).2 = ⟨d.row ++ [⟨nm, 0, false⟩]⟩ ∧ nm ∉ d.row.map (·.f0)) := by
  unfold askF
  split
  · split
    · rename_i hp
      split
      · exact .inr ⟨rfl, rfl, (place_neg nm d.row 0 (by omega)).1 hp⟩
      · exact .inl ⟨show (7 : Int) ≠ 0 by decide, rfl⟩
    · exact .inl ⟨show (6 : Int) ≠ 0 by decide, rfl⟩
  · exact .inl ⟨show (11 : Int) ≠ 0 by decide, rfl⟩
theorem drain_cases {s : FS} {nm : ByteArray} (hn : nm ∈ s.hs.map (·.nm)) (hb : nameB nm = true) : ((drainF s nm).1 ≠ 0 ∧ (drainF s nm).2 = s) ∨ ((drainF s nm).1 = 0 ∧ (drainF s nm).2 = { s with ds := ⟨s.ds.row ++ [⟨nm, 0, false⟩]⟩ } ∧ nm ∉ s.ds.row.map (·.f0)) := by
  rcases look_cases s.hs nm with ⟨_, _, h⟩ | ⟨i, x, h1, h2, h3, h4⟩
  · exact absurd hn h
  · have hk : knownE s nm = 0 := by
      unfold knownE
      rw [if_pos hb, h2, if_neg (by omega)]
    unfold drainF
    rw [if_pos hk, h1]
    dsimp only
    split
    · exact .inl ⟨show (8 : Int) ≠ 0 by decide, rfl⟩
    · rcases ask_cases s.ds nm with ⟨h5, h6⟩ | ⟨h5, h6, h7⟩
      · exact .inl ⟨h5, by dsimp only; rw [h6]⟩
      · exact .inr ⟨h5, by dsimp only; rw [h6], h7⟩
theorem row_drain {s : FS} {names asked got : List ByteArray} {e gu : Int} {n : Nat} (hn : n ≤ 100) (hg : Goods names) (h : RowI s names asked got e gu n) {nm : ByteArray} (hm : nm ∈ names) :
    ((drainF s nm).1 ≠ 0 ∧ RowI (drainF s nm).2 names asked got e gu (n + 1)) ∨ ((drainF s nm).1 = 0 ∧ RowI (drainF s nm).2 names (asked ++ [nm]) got e gu (n + 1) ∧ idxOf (namesOf (drainF s nm).2.ds.row false) nm 0 = ((asked.length : Int) + 1) - (got.length : Int) - 1) := by
  have hi := h.inv.drain hn nm
  rcases drain_cases (s := s) (by rw [h.nm]; exact hm) (h6_ok (hg.2 hm)).1 with ⟨h1, h2⟩ | ⟨h1, h2, h3⟩
  · refine .inl ⟨h1, ?_⟩
    rw [h2] at hi ⊢
    exact ⟨hi, h.nm, h.row, h.sub, h.e, h.g⟩
  · refine .inr ⟨h1, ?_, ?_⟩
    · rw [h2] at hi ⊢
      have hw : namesOf (s.ds.row ++ [⟨nm, 0, false⟩]) false = namesOf s.ds.row false ++ [nm] := by rw [namesOf_append]; rfl
      refine ⟨hi, h.nm, ?_, ?_, h.e, h.g⟩
      · show got ++ namesOf (s.ds.row ++ [⟨nm, 0, false⟩]) false = _
        rw [hw, ← List.append_assoc, h.row]
      · intro x hx
        have hx' : x ∈ namesOf (s.ds.row ++ [⟨nm, 0, false⟩]) false := hx
        rw [hw] at hx'
        rcases List.mem_append.1 hx' with hx' | hx'
        · exact h.sub x hx'
        · rw [List.mem_singleton.1 hx']
          exact hm
    · rw [h2]
      show idxOf (namesOf (s.ds.row ++ [⟨nm, 0, false⟩]) false) nm 0 = _
      have hw : namesOf (s.ds.row ++ [⟨nm, 0, false⟩]) false = namesOf s.ds.row false ++ [nm] := by rw [namesOf_append]; rfl
      have hnw : nm ∉ namesOf s.ds.row false := fun hx => h3 ((mem_names s.ds.row nm).2 (.inl hx))
      rw [hw, idx_last nm _ 0 hnw, ← h.row]
      simp
      omega
end Go.Proofs.Ytmlmiocomlehgaa.Man
namespace Go.Proofs.Ytmlmiocomlehgaa.Man
open Go.RowKit Go.Proofs.YtmlmiocomlehgaaW.PrintWords Go.Proofs.YtmlmiocomlehgaaW.PrintLast Go.Proofs.YtmlmiocomlehgaaW.PrintMore Go.Proofs.Ytmlmiocomlehgaa.PA Go.Proofs.Ytmlmiocomlehgaa.PF Go.Proofs.Ytmlmiocomlehgaa.Hid Go.Proofs.Ytmlmiocomlehgaa.Na Go.Proofs.Ytmlmiocomlehgaa.Nil
def one0 (x : HV) : Nat := if x.st = 0 then 1 else 0
theorem act_cons (x : HV) (l : List HV) : actN (x :: l) = one0 x + actN l := by
  unfold actN one0
  by_cases c : x.st = 0
  · rw [List.filter_cons, if_pos (by simpa using c), if_pos c]
    simp
    omega
  · rw [List.filter_cons, if_neg (by simpa using c), if_neg c]
    omega
theorem act_set : ∀ (hs : List HV) (i : Nat) (x y : HV), hs[i]? = some x → actN (hs.set i y) + one0 x = actN hs + one0 y
  | [], i, x, y, h => by simp at h
  | z :: hs, 0, x, y, h => by
    simp at h
    subst h
    rw [List.set_cons_zero, act_cons, act_cons]
    omega
  | z :: hs, i + 1, x, y, h => by
    have := act_set hs i x y (by simpa using h)
    rw [List.set_cons_succ, act_cons, act_cons]
    omega
theorem act_erase : ∀ (hs : List HV) (i : Nat) (x : HV), hs[i]? = some x → actN (hs.eraseIdx i) + one0 x = actN hs
  | [], i, x, h => by simp at h
  | z :: hs, 0, x, h => by
    simp at h
    subst h
    rw [List.eraseIdx_cons_zero, act_cons]
    omega
  | z :: hs, i + 1, x, h => by
    have := act_erase hs i x (by simpa using h)
    rw [List.eraseIdx_cons_succ, act_cons, act_cons]
    omega
theorem next_out {st ev : Int} (h : st < 0 ∨ 4 ≤ st) : nextS st ev = st ∧ nextB st ev = false := by
  have := to_out st ev (by omega)
  unfold nextS nextB
  rw [this]
  exact ⟨if_pos rfl, by decide⟩
theorem st_cases (st : Int) : (st < 0 ∨ 4 ≤ st) ∨ st = 0 ∨ st = 1 ∨ st = 2 ∨ st = 3 := by omega
theorem next1 (st : Int) : nextS st 1 = 0 ∨ nextS st 1 = st := by
  rcases st_cases st with h | rfl | rfl | rfl | rfl
  · exact .inr (next_out h).1
  all_goals decide
theorem next3 (st : Int) : nextS st 3 = 0 ∨ nextS st 3 = st := by
  rcases st_cases st with h | rfl | rfl | rfl | rfl
  · exact .inr (next_out h).1
  all_goals decide
theorem next4 (st : Int) : (nextS st 4 = st ∧ nextB st 4 = false) ∨ (st = 1 ∧ nextS st 4 = 3) := by
  rcases st_cases st with h | rfl | rfl | rfl | rfl
  · exact .inl (next_out h)
  all_goals decide
theorem next0 (st : Int) : st = 0 ∨ (st ≠ 0 ∧ nextS st 0 ≠ 0) := by
  rcases st_cases st with h | rfl | rfl | rfl | rfl
  · refine .inr ⟨by omega, ?_⟩
    rw [(next_out h).1]
    omega
  all_goals decide
theorem next_00 : nextS 0 0 = 1 := by decide
theorem next_02 : nextS 0 2 = 2 := by decide
section
variable {s : FS} {nm : ByteArray} {x : HV}
theorem act_setH {y : HV} (h : lookH s.hs nm = some x) : actN (setH s.hs nm y) + one0 x = actN s.hs + one0 y := by
  rcases look_cases s.hs nm with ⟨h1, _⟩ | ⟨i, z, h1, h2, h3, h4⟩
  · rw [h] at h1; cases h1
  · rw [h] at h1
    injection h1 with h1
    subst h1
    rw [setH_at h2]
    exact act_set s.hs i x y h3
theorem act_delH (h : lookH s.hs nm = some x) : actN (delH s.hs nm) + one0 x = actN s.hs := by
  rcases look_cases s.hs nm with ⟨h1, _⟩ | ⟨i, z, h1, h2, h3, h4⟩
  · rw [h] at h1; cases h1
  · rw [h] at h1
    injection h1 with h1
    subst h1
    rw [delH_at h2]
    exact act_erase s.hs i x h3
end
/-- What bounds the capacity. -/
structure GK (s : FS) (E gu n : Nat) : Prop where
  inv : FInv s n
  e : s.each = (E : Int)
  g : s.guard = (gu : Int)
theorem GK.cap {s : FS} {E gu n : Nat} (h : GK s E gu n) (hn : n ≤ 100) (h8 : E ≤ 8) : capV s = ((actN s.hs * E : Nat) : Int) ∧ actN s.hs * E ≤ 12800 := by
  have h1 := act_le s.hs
  have h2 := h.inv.hh
  have h3 : pos0 s.each = (E : Int) := by rw [h.e]; unfold pos0; rw [if_pos (by omega)]
  have h4 : actN s.hs * E ≤ 1600 * 8 := Nat.mul_le_mul (by omega) h8
  refine ⟨?_, h4⟩
  unfold capV
  rw [h3, ← Int.natCast_mul]
  generalize actN s.hs * E = m at h4
  unfold wrap64
  omega
/-- It falls only where the guard lets it. -/
def Falls (s s' : FS) (E gu : Nat) : Prop := actN s'.hs < actN s.hs → gu ≤ actN s'.hs * E
theorem may_falls {s : FS} {E gu n : Nat} (h : GK s E gu n) (hn : n ≤ 100) (h8 : E ≤ 8) {nm : ByteArray} (hm : mayS s nm = true) {x : HV} (hx : lookH s.hs nm = some x) (h0 : x.st = 0) {hs' : List HV} (ha : actN hs' + 1 = actN s.hs) : gu ≤ actN hs' * E := by
  obtain ⟨hc1, hc2⟩ := h.cap hn h8
  rcases look_cases s.hs nm with ⟨h1, _⟩ | ⟨i, z, h1, h2, h3, h4⟩
  · rw [hx] at h1; cases h1
  · rw [hx] at h1
    injection h1 with h1
    subst h1
    have hilt := (List.getElem?_eq_some_iff.1 h3).1
    unfold mayS mayI at hm
    rw [h2, if_neg (by rw [List.length_map]; omega)] at hm
    have hgd : (s.hs.map (·.st)).getD i 0 = 0 := by
      rw [List.getD_eq_getElem?_getD, List.getElem?_map, h3]
      exact h0
    have hgd' : (s.hs.map (·.st)).getD (i : Int).toNat 0 = 0 := by rw [Int.toNat_natCast]; exact hgd
    rw [if_pos hgd'] at hm
    have hc : wrap64 ((actI (s.hs.map (·.st)) : Int) * pos0 s.each) = capV s := by rw [actI_map]; rfl
    have hp : pos0 s.each = (E : Int) := by rw [h.e]; unfold pos0; rw [if_pos (by omega)]
    rw [hc, hp, h.g, hc1] at hm
    have hle := of_decide_eq_true hm
    have hmul : actN s.hs * E = actN hs' * E + E := by rw [← ha, Nat.add_mul, Nat.one_mul]
    rw [hmul] at hle hc2
    generalize actN hs' * E = m at *
    have hw : wrap64 (((m + E : Nat) : Int) - (E : Int)) = (m : Int) := by unfold wrap64; omega
    rw [hw] at hle
    omega
theorem one0_le (x : HV) : one0 x ≤ 1 := by unfold one0; split <;> omega
theorem one0_ev {x : HV} {ev : Int} (h : nextS x.st ev = 0 ∨ nextS x.st ev = x.st) : one0 x ≤ one0 (evH x ev) := by
  unfold one0 evH
  rcases h with h | h
  · rw [if_pos h]
    split <;> omega
  · rw [show (({ nm := x.nm, st := nextS x.st ev, lv := x.lv } : HV).st) = x.st from h]
    exact Nat.le_refl _
theorem falls_same {s s' : FS} {E gu : Nat} (h : actN s.hs ≤ actN s'.hs) : Falls s s' E gu := fun h2 => by omega
theorem admit_falls (dl : Int) {E gu n : Nat} (hn : n ≤ 100) (h8 : E ≤ 8) : ∀ (l : List ByteArray) (s : FS), (∀ b, DOk s.ds b → b ≤ 2000 * n → True) → GK s E gu n → DOk s.ds (2000 * n) → namesOf s.ds.row false = l → Falls s (admitL dl l s).1 E gu ∧ actN (admitL dl l s).1.hs ≤ actN s.hs
  | [], s, _, h, _, _ => ⟨falls_same (Nat.le_refl _), Nat.le_refl _⟩
  | nm :: l, s, ht, h, hd, hw => by
    unfold admitL
    by_cases c : mayS s nm = true
    · rw [if_pos c]
      obtain ⟨h1, h2, h3⟩ := admit_ok hd hw dl
      have hg1 : GK (admit1 s nm dl) E gu n := ⟨⟨by rw [admit_hs]; exact h.inv.hh, h1.mono (Nat.le_trans h2 hd.inv.2.1)⟩, h.e, h.g⟩
      obtain ⟨h4, h5⟩ := admit_falls dl hn h8 l (admit1 s nm dl) (fun _ _ _ => trivial) hg1 hg1.inv.ok h3
      have h6 : Falls s (admit1 s nm dl) E gu ∧ actN (admit1 s nm dl).hs ≤ actN s.hs := by
        unfold admit1
        cases hx : lookH s.hs nm with
        | none => exact ⟨falls_same (Nat.le_refl _), Nat.le_refl _⟩
        | some x =>
          have ha := act_setH (s := s) (nm := nm) (y := evH x 0) hx
          rcases next0 x.st with h0 | ⟨h0, h7⟩
          · have e1 : one0 x = 1 := by unfold one0; rw [if_pos h0]
            have e2 : one0 (evH x 0) = 0 := by unfold one0 evH; rw [h0, next_00, if_neg (show ¬ ((1 : Int) = 0) by decide)]
            rw [e1, e2] at ha
            exact ⟨fun _ => may_falls h hn h8 c hx h0 (by simpa using ha), by show actN (setH s.hs nm (evH x 0)) ≤ _; omega⟩
          · have e1 : one0 x = 0 := by unfold one0; rw [if_neg h0]
            have e2 : one0 (evH x 0) = 0 := by unfold one0 evH; rw [if_neg h7]
            rw [e1, e2] at ha
            exact ⟨falls_same (by show _ ≤ actN (setH s.hs nm (evH x 0)); omega), by show actN (setH s.hs nm (evH x 0)) ≤ _; omega⟩
      refine ⟨fun hlt => ?_, Nat.le_trans h5 h6.2⟩
      by_cases c2 : actN (admitL dl l (admit1 s nm dl)).1.hs < actN (admit1 s nm dl).hs
      · exact h4 c2
      · have : actN (admitL dl l (admit1 s nm dl)).1.hs = actN (admit1 s nm dl).hs := by omega
        show gu ≤ actN (admitL dl l (admit1 s nm dl)).1.hs * E
        rw [this]
        refine h6.1 ?_
        rw [← this]
        exact hlt
    · rw [if_neg c]
      exact ⟨falls_same (Nat.le_refl _), Nat.le_refl _⟩
theorem left_eg (l : List ByteArray) (dl : Int) : ∀ (hs : List HV) (s : FS), (leftL l dl hs s).1.each = s.each ∧ (leftL l dl hs s).1.guard = s.guard
  | [], s => ⟨rfl, rfl⟩
  | x :: hs, s => by
    unfold leftL
    split
    · exact left_eg l dl hs s
    · obtain ⟨h1, h2⟩ := left_eg l dl hs (leaveF s x dl)
      have h3 : (leaveF s x dl).each = s.each ∧ (leaveF s x dl).guard = s.guard := by
        unfold leaveF
        (repeat' split) <;> exact ⟨rfl, rfl⟩
      exact ⟨h1.trans h3.1, h2.trans h3.2⟩
theorem came_eg : ∀ (l : List ByteArray) (s : FS), (cameL l s).1.each = s.each ∧ (cameL l s).1.guard = s.guard
  | [], s => ⟨rfl, rfl⟩
  | nm :: l, s => by
    unfold cameL
    split
    · exact came_eg l { s with hs := s.hs ++ [⟨nm, 0, false⟩] }
    · rename_i x _
      split
      · exact came_eg l { s with hs := setH s.hs nm ⟨x.nm, nextS x.st 6, false⟩, ds := endF s.ds nm }
      · exact came_eg l s
theorem admitL_eg (dl : Int) : ∀ (l : List ByteArray) (s : FS), (admitL dl l s).1.each = s.each ∧ (admitL dl l s).1.guard = s.guard
  | [], s => ⟨rfl, rfl⟩
  | nm :: l, s => by
    unfold admitL
    split
    · exact admitL_eg dl l (admit1 s nm dl)
    · exact ⟨rfl, rfl⟩
theorem step_eg (s : FS) (k n : Int) (nm : ByteArray) (l : List ByteArray) : (stepF s k n nm l).2.each = s.each ∧ (stepF s k n nm l).2.guard = s.guard := by
  unfold stepF
  split
  · show (resolveF s l n).2.each = _ ∧ (resolveF s l n).2.guard = _
    unfold resolveF
    split
    · exact ⟨(came_eg l _).1.trans (left_eg l n s.hs s).1, (came_eg l _).2.trans (left_eg l n s.hs s).2⟩
    · exact ⟨rfl, rfl⟩
  split
  · show (drainF s nm).2.each = _ ∧ (drainF s nm).2.guard = _
    unfold drainF
    (repeat' split) <;> exact ⟨rfl, rfl⟩
  split
  · show (undrainF s nm).2.each = _ ∧ (undrainF s nm).2.guard = _
    unfold undrainF
    (repeat' split) <;> exact ⟨rfl, rfl⟩
  split
  · show (forceF s nm n).2.each = _ ∧ (forceF s nm n).2.guard = _
    unfold forceF
    (repeat' split) <;> exact ⟨rfl, rfl⟩
  split
  · show (ejectF s nm).2.each = _ ∧ (ejectF s nm).2.guard = _
    unfold ejectF
    (repeat' split) <;> exact ⟨rfl, rfl⟩
  split
  · exact admitL_eg n _ s
  split
  · show (probeF s nm).2.each = _ ∧ (probeF s nm).2.guard = _
    unfold probeF
    (repeat' split) <;> exact ⟨rfl, rfl⟩
  · show (emptyF s nm).2.each = _ ∧ (emptyF s nm).2.guard = _
    unfold emptyF
    (repeat' split) <;> exact ⟨rfl, rfl⟩
theorem step_falls {s : FS} {E gu q : Nat} (h : GK s E gu q) (hq : q ≤ 100) (h8 : E ≤ 8) (k n : Int) (nm : ByteArray) (l : List ByteArray) (hk0 : kindOf k ≠ 0) (hk3 : kindOf k ≠ 3) : Falls s (stepF s k n nm l).2 E gu := by
  unfold stepF
  rw [if_neg hk0]
  split
  · refine falls_same (Nat.le_of_eq ?_)
    show _ = actN (drainF s nm).2.hs
    unfold drainF
    (repeat' split) <;> rfl
  split
  · show Falls s (undrainF s nm).2 E gu
    unfold undrainF
    split
    · split
      · rename_i x hx
        split
        · exact falls_same (Nat.le_refl _)
        split
        · split
          · refine falls_same ?_
            have ha := act_setH (s := s) (nm := nm) (y := evH x 1) hx
            have hb := one0_ev (next1 x.st)
            show _ ≤ actN (setH s.hs nm (evH x 1))
            omega
          · exact falls_same (Nat.le_refl _)
        · exact falls_same (Nat.le_refl _)
      · exact falls_same (Nat.le_refl _)
    · exact falls_same (Nat.le_refl _)
  split
  · show Falls s (ejectF s nm).2 E gu
    unfold ejectF
    split
    · split
      · rename_i x hx
        split
        · rename_i h0
          split
          · rename_i hm
            refine fun _ => may_falls h hq h8 hm hx h0 ?_
            have ha := act_setH (s := s) (nm := nm) (y := evH x 2) hx
            have e1 : one0 x = 1 := by unfold one0; rw [if_pos h0]
            have e2 : one0 (evH x 2) = 0 := by unfold one0 evH; rw [h0, next_02, if_neg (show ¬ ((2 : Int) = 0) by decide)]
            rw [e1, e2] at ha
            simpa using ha
          · exact falls_same (Nat.le_refl _)
        · exact falls_same (Nat.le_refl _)
      · exact falls_same (Nat.le_refl _)
    · exact falls_same (Nat.le_refl _)
  split
  · exact (admit_falls n hq h8 _ s (fun _ _ _ => trivial) h h.inv.ok rfl).1
  split
  · show Falls s (probeF s nm).2 E gu
    unfold probeF
    split
    · rename_i x hx
      refine falls_same ?_
      have ha := act_setH (s := s) (nm := nm) (y := evH x 3) hx
      have hb := one0_ev (next3 x.st)
      show _ ≤ actN (setH s.hs nm (evH x 3))
      omega
    · exact falls_same (Nat.le_refl _)
  · show Falls s (emptyF s nm).2 E gu
    unfold emptyF
    split
    · rename_i x hx
      have ha := act_setH (s := s) (nm := nm) (y := evH x 4) hx
      have hd := act_delH (s := s) (nm := nm) hx
      split
      · rename_i hb
        rcases next4 x.st with ⟨_, h2⟩ | ⟨h1, h2⟩
        · rw [h2] at hb; cases hb
        · have e1 : one0 x = 0 := by unfold one0; rw [h1, if_neg (by decide)]
          have e2 : one0 (evH x 4) = 0 := by unfold one0 evH; rw [h2, if_neg (show ¬ ((3 : Int) = 0) by decide)]
          rw [e1] at ha hd
          rw [e2] at ha
          refine falls_same ?_
          show _ ≤ actN (if x.lv = true then delH s.hs nm else setH s.hs nm (evH x 4))
          split <;> omega
      · rename_i hb
        rcases next4 x.st with ⟨h1, h2⟩ | ⟨h1, h2⟩
        · have hb2 := one0_ev (x := x) (ev := 4) (.inr h1)
          refine falls_same ?_
          show _ ≤ actN (setH s.hs nm (evH x 4))
          omega
        · exfalso
          rw [h1] at hb
          exact hb (by decide)
    · exact falls_same (Nat.le_refl _)
end Go.Proofs.Ytmlmiocomlehgaa.Man
namespace Go.Proofs.Ytmlmiocomlehgaa.Man
open Go.RowKit Go.Proofs.YtmlmiocomlehgaaW.PrintWords Go.Proofs.YtmlmiocomlehgaaW.PrintLast Go.Proofs.YtmlmiocomlehgaaW.PrintMore Go.Proofs.Ytmlmiocomlehgaa.PA Go.Proofs.Ytmlmiocomlehgaa.PF Go.Proofs.Ytmlmiocomlehgaa.Hid Go.Proofs.Ytmlmiocomlehgaa.Na Go.Proofs.Ytmlmiocomlehgaa.Nil
/-- What a script's steps are. -/
def Script (w : World) (es : List HS) : Prop := es.length ≤ 80 ∧ ∀ (k : Nat) (e : HS), es[k]? = some e → ∃ hk : List ByteArray, hk.length = e.n ∧ e.n ≤ e.c ∧ (∀ x ∈ hk, x.size ≤ maxLen) ∧ ∀ W, Below w.heap.size w W → Kd.C Kd.string W e.A hk.length hk
theorem list_ofS {α : Type} {Q : Nat → α → Prop} : ∀ n, (∀ i, i < n → ∃ a, Q i a) → ∃ xs : List α, xs.length = n ∧ ∀ j p, xs[j]? = some p → Q j p := by
  intro n
  induction n with
  | zero => exact fun _ => ⟨[], rfl, fun j p h => by simp at h⟩
  | succ n ih =>
    intro h
    obtain ⟨xs, hl, hx⟩ := ih (fun i hi => h i (by omega))
    obtain ⟨a, ha⟩ := h n (by omega)
    refine ⟨xs ++ [a], by simp [hl], fun j p hj => ?_⟩
    by_cases hjn : j < n
    · rw [List.getElem?_append_left (by omega)] at hj
      exact hx j p hj
    · rw [List.getElem?_append_right (by omega)] at hj
      have : j = n := by
        have := List.getElem?_eq_some_iff.1 hj
        obtain ⟨h1, _⟩ := this
        simp at h1
        omega
      subst this
      rw [hl] at hj
      have e : a = p := by simpa using hj
      exact e ▸ ha
def OfStep (w : World) (x : HS) (y : S51) : Prop := x.n = y.f3.length ∧ x.n ≤ x.c ∧ Kd.string.C w x.A y.f3.length y.f3
theorem headers {w : World} {A : Option Addr} {l : List S51} (hC : Kd.C k51 w A l.length l) : ∃ xs : List HS, xs.length = l.length ∧ Kd.C kH w A xs.length xs ∧ ∀ (i : Nat) (x : HS), xs[i]? = some x → ∃ y, l[i]? = some y ∧ OfStep w x y := by
  obtain ⟨_, hm, hr⟩ := hC
  by_cases h0 : l.length = 0
  · refine ⟨[], h0.symm, ⟨rfl, Nat.zero_le _, fun h => absurd h (by simp)⟩, fun i x hx => by simp at hx⟩
  · obtain ⟨ad, rfl, hc⟩ := hr (by omega)
    obtain ⟨xs, hl, hx⟩ := list_ofS (Q := fun i (x : HS) => (∃ y, l[i]? = some y ∧ OfStep w x y) ∧ ∀ j u, (hcells x)[j]? = some u → w.cell? (ad.add (i * 4 + j)) = some u) l.length (fun i hi => by
      obtain ⟨cs, _, hk, hcell⟩ := hc i l[i] (List.getElem?_eq_getElem hi)
      obtain ⟨A3, c3, rfl, hl3, hC3⟩ := k51_open hk
      exact ⟨⟨l[i].f0, l[i].f1, l[i].f2, A3, l[i].f3.length, c3⟩, ⟨l[i], List.getElem?_eq_getElem hi, rfl, hl3, hC3⟩, hcell⟩)
    refine ⟨xs, hl, ⟨rfl, by rw [hl]; exact hm, fun _ => ⟨ad, rfl, fun j p hp => ⟨hcells p, rfl, kH_mk w p, (hx j p hp).2⟩⟩⟩, fun i x h => (hx i x h).1⟩
theorem early_any (A : Option Addr) (c : Nat) (l : List S51) (w : World) (hC : Kd.C k51 w A l.length l) (hc : l.length ≤ c) (hs : ∀ y ∈ l, ∀ x ∈ y.f3, x.size ≤ maxLen) :
    ∃ es, Script w es ∧ ∀ W, Below w.heap.size w W → Calls Try.prog 25 #[.slice A l.length c] W fun e w' => ∃ v, e = .returned v ∧ Kd.R kH 51 w' W.heap.size (fun _ => True) v es ∧ Below W.heap.size W w' := by
  obtain ⟨xs, hl, hCx, hx⟩ := headers hC
  refine ⟨(xs.take 80).map cutH, ⟨?_, fun k e he => ?_⟩, fun W hb => ?_⟩
  · simp
    omega
  · rw [List.getElem?_map] at he
    obtain ⟨x, hx1, rfl⟩ := Option.map_eq_some_iff.1 he
    have hx2 : xs[k]? = some x := by
      rw [List.getElem?_take] at hx1
      split at hx1
      · exact hx1
      · cases hx1
    obtain ⟨y, hy, h1, h2, h3⟩ := hx k x hx2
    refine ⟨y.f3.take (min x.n 20), ?_, ?_, fun z hz => hs y (List.mem_of_getElem? hy) z (List.mem_of_mem_take hz), fun W hb => Kd.C_below (Kd.C_take h3 (by omega)) hb⟩
    · show (y.f3.take (min x.n 20)).length = min x.n 20
      rw [List.length_take]
      omega
    · show min x.n 20 ≤ x.c
      omega
  · have := early_raw xs A c W (Kd.C_below hCx hb) (by omega) (fun x hxm => by
      obtain ⟨i, hi⟩ := List.getElem?_of_mem hxm
      obtain ⟨y, _, _, h2, _⟩ := hx i x hi
      exact h2)
    rw [hl] at this
    exact this
theorem kH_tf : ∀ q, q ∈ 51 :: kH.E → q ∉ TF := by
  intro q hq
  have : q = 51 := by simpa [kH, kHd, Kd.iso, Kd.pair, Kd.int, Kd.string, Kd.scalar] using hq
  subst this
  decide
end Go.Proofs.Ytmlmiocomlehgaa.Man
namespace Go.Proofs.Ytmlmiocomlehgaa.Man
open Go.RowKit Go.Proofs.YtmlmiocomlehgaaW.PrintWords Go.Proofs.YtmlmiocomlehgaaW.PrintLast Go.Proofs.YtmlmiocomlehgaaW.PrintMore Go.Proofs.Ytmlmiocomlehgaa.PA Go.Proofs.Ytmlmiocomlehgaa.PF Go.Proofs.Ytmlmiocomlehgaa.Hid
theorem samei_loop (a b : List Int) (hl : a.length = b.length) (hm : a.length ≤ 9223372036854775807) (d : Nat) : ∀ (k j : Nat), j ≤ a.length → a.length - j = d → d < k → hostlerref01_Same.l0 k a b (j : Int) = some (decide (a.drop j = b.drop j)) := by
  induction d with
  | zero =>
    intro k j hj hd hk
    obtain ⟨k, rfl⟩ : ∃ m, k = m + 1 := ⟨k - 1, by omega⟩
    simp only [hostlerref01_Same.l0]
    rw [if_neg (by omega), List.drop_eq_nil_of_le (by omega), List.drop_eq_nil_of_le (by omega)]
    simp
  | succ d ih =>
    intro k j hj hd hk
    obtain ⟨k, rfl⟩ : ∃ m, k = m + 1 := ⟨k - 1, by omega⟩
    have hlt : j < a.length := by omega
    have hlt2 : j < b.length := by omega
    simp only [hostlerref01_Same.l0]
    rw [if_pos (by omega), if_pos (by omega), if_pos (by omega)]
    have d1 := List.drop_eq_getElem_cons hlt
    have d2 := List.drop_eq_getElem_cons hlt2
    have e : rd a (j : Int) = a[j] := by simp [rd, List.getD, hlt]
    have e2 : rd b (j : Int) = b[j] := by simp [rd, List.getD, hlt2]
    rw [e, e2]
    have ih' := ih k (j + 1) (by omega) (by omega) (by omega)
    rw [show ((j + 1 : Nat) : Int) = (j : Int) + 1 by omega] at ih'
    have hw : wrap64 ((j : Int) + 1) = (j : Int) + 1 := by unfold wrap64; omega
    rw [hw, ih']
    by_cases c : a[j] = b[j]
    · rw [if_pos c, d1, d2, c]
      generalize List.drop (j + 1) a = r
      generalize List.drop (j + 1) b = q
      simp
    · rw [if_neg c, d1, d2]
      generalize List.drop (j + 1) a = r
      generalize List.drop (j + 1) b = q
      simp [c]
theorem samei_some (a b : List Int) (hm : a.length ≤ 9223372036854775807) : hostlerref01_Same.f (a.length + 1) a b = some (decide (a = b)) := by
  unfold hostlerref01_Same.f
  by_cases h : a.length = b.length
  · rw [if_pos (by omega)]
    have := samei_loop a b h hm a.length (a.length + 1) 0 (by omega) (by omega) (by omega)
    simpa using this
  · rw [if_neg (by omega), decide_eq_false (fun e => h (by rw [e]))]
theorem samei_raw (a b : List Int) (A B : Option Addr) (c d : Nat) (w : World) (hA : Kd.C (Kd.int .i64) w A a.length a) (ha : a.length ≤ c) (hB : Kd.C (Kd.int .i64) w B b.length b) (hb : b.length ≤ d) : Calls Try.prog 31 #[.slice A a.length c, .slice B b.length d] w fun e w' => e = .returned (.bool (decide (a = b))) ∧ Drawn0 w w' :=
  hostlerref01_Same.calls (a.length + 1) A c a B d b _ w hA ha hB hb (samei_some a b hA.2.1)
end Go.Proofs.Ytmlmiocomlehgaa.Man
namespace Go.Proofs.Ytmlmiocomlehgaa.Man
open Go.RowKit Go.Proofs.YtmlmiocomlehgaaW.PrintWords Go.Proofs.YtmlmiocomlehgaaW.PrintLast Go.Proofs.YtmlmiocomlehgaaW.PrintMore Go.Proofs.Ytmlmiocomlehgaa.PA Go.Proofs.Ytmlmiocomlehgaa.PF Go.Proofs.Ytmlmiocomlehgaa.Hid Go.Proofs.Ytmlmiocomlehgaa.Na Go.Proofs.Ytmlmiocomlehgaa.Nil
/-- The hosts are those of the list, and none leaves. -/
structure SK (s : FS) (names : List ByteArray) (n : Nat) : Prop where
  inv : FInv s n
  nm : s.hs.map (·.nm) = names
  lv : ∀ x ∈ s.hs, x.lv = false
theorem leftL_none (l : List ByteArray) (dl : Int) : ∀ (hs : List HV) (s : FS), (∀ x ∈ hs, x.nm ∈ l) → leftL l dl hs s = (s, [])
  | [], s, _ => rfl
  | x :: hs, s, h => by
    unfold leftL
    rw [memB_iff.2 (h x (by simp)), Bool.or_true, if_pos rfl]
    exact leftL_none l dl hs s (fun y hy => h y (by simp [hy]))
theorem cameL_none : ∀ (l : List ByteArray) (s : FS), (∀ nm ∈ l, nm ∈ s.hs.map (·.nm)) → (∀ x ∈ s.hs, x.lv = false) → cameL l s = (s, [])
  | [], s, _, _ => rfl
  | nm :: l, s, h, hl => by
    unfold cameL
    rcases look_cases s.hs nm with ⟨_, _, h3⟩ | ⟨i, x, h1, h2, h3, h4⟩
    · exact absurd (h nm (by simp)) h3
    · rw [h1]
      dsimp only
      rw [hl x (List.mem_of_getElem? h3), if_neg (by decide)]
      exact cameL_none l s (fun y hy => h y (by simp [hy])) hl
theorem resolve_same {s : FS} {names : List ByteArray} {n : Nat} (hg : Goods names) (h : SK s names n) (dl : Int) : resolveF s names dl = (([], [], 0), s) := by
  unfold resolveF
  rw [if_pos hg.check, leftL_none names dl s.hs s (fun x hx => by rw [← h.nm]; exact List.mem_map.2 ⟨x, hx, rfl⟩)]
  dsimp only
  rw [cameL_none names s (fun nm hm => by rw [h.nm]; exact hm) h.lv]
theorem setH_lv {hs : List HV} {nm : ByteArray} {y : HV} (h : ∀ x ∈ hs, x.lv = false) (hy : y.lv = false) : ∀ x ∈ setH hs nm y, x.lv = false := fun x hx => by
  rcases List.mem_or_eq_of_mem_set hx with h1 | h1
  · exact h x h1
  · rw [h1]
    exact hy
theorem look_lv {hs : List HV} {nm : ByteArray} {x : HV} (h : ∀ x ∈ hs, x.lv = false) (hx : lookH hs nm = some x) : x.lv = false := by
  rcases look_cases hs nm with ⟨h1, _⟩ | ⟨i, z, h1, _, h3, _⟩
  · rw [hx] at h1; cases h1
  · rw [hx] at h1
    injection h1 with h1
    rw [h1]
    exact h z (List.mem_of_getElem? h3)
/-- What keeps names and leaves none. -/
def Keeps (s s' : FS) : Prop := s'.hs.map (·.nm) = s.hs.map (·.nm) ∧ ((∀ x ∈ s.hs, x.lv = false) → ∀ x ∈ s'.hs, x.lv = false)
theorem keeps_rfl (s : FS) : Keeps s s := ⟨rfl, fun h => h⟩
theorem keeps_ds {s s' : FS} (h : s'.hs = s.hs) : Keeps s s' := by unfold Keeps; rw [h]; exact ⟨rfl, fun h => h⟩
theorem keeps_ev {s : FS} {nm : ByteArray} {x : HV} {ev : Int} (hx : lookH s.hs nm = some x) {s' : FS} (h : s'.hs = setH s.hs nm (evH x ev)) : Keeps s s' := by
  unfold Keeps
  rw [h]
  exact ⟨setH_nm hx rfl, fun hl => setH_lv (y := evH x ev) hl (show x.lv = false from look_lv hl hx)⟩
theorem keeps_admitL (dl : Int) : ∀ (l : List ByteArray) (s : FS), Keeps s (admitL dl l s).1
  | [], s => keeps_rfl s
  | nm :: l, s => by
    unfold admitL
    split
    · have h1 : Keeps s (admit1 s nm dl) := by
        unfold admit1
        cases hx : lookH s.hs nm with
        | none => exact keeps_ds rfl
        | some x => exact keeps_ev hx rfl
      have h2 := keeps_admitL dl l (admit1 s nm dl)
      exact ⟨h2.1.trans h1.1, fun h => h2.2 (h1.2 h)⟩
    · exact keeps_rfl s
theorem keeps_step (s : FS) (k n : Int) (nm : ByteArray) (l : List ByteArray) (hk0 : kindOf k ≠ 0) (hlv : ∀ x ∈ s.hs, x.lv = false) : Keeps s (stepF s k n nm l).2 := by
  unfold stepF
  rw [if_neg hk0]
  split
  · show Keeps s (drainF s nm).2
    unfold drainF
    (repeat' split) <;> exact keeps_ds rfl
  split
  · show Keeps s (undrainF s nm).2
    unfold undrainF
    (repeat' split) <;> first | exact keeps_ds rfl | exact keeps_ev (by assumption) rfl
  split
  · show Keeps s (forceF s nm n).2
    unfold forceF
    (repeat' split) <;> first | exact keeps_ds rfl | exact keeps_ev (by assumption) rfl
  split
  · show Keeps s (ejectF s nm).2
    unfold ejectF
    (repeat' split) <;> first | exact keeps_ds rfl | exact keeps_ev (by assumption) rfl
  split
  · exact keeps_admitL n _ s
  split
  · show Keeps s (probeF s nm).2
    unfold probeF
    (repeat' split) <;> first | exact keeps_ds rfl | exact keeps_ev (by assumption) rfl
  · show Keeps s (emptyF s nm).2
    unfold emptyF
    split
    · rename_i x hx
      split
      · refine keeps_ev (ev := 4) hx ?_
        show (if x.lv = true then delH s.hs nm else setH s.hs nm (evH x 4)) = _
        rw [look_lv hlv hx, if_neg (by decide)]
      · exact keeps_ev hx rfl
    · exact keeps_rfl s
theorem sk_step {s : FS} {names : List ByteArray} {q : Nat} (hq : q ≤ 100) (h : SK s names q) (k n : Int) (nm : ByteArray) (l : List ByteArray) (hk0 : kindOf k ≠ 0) : SK (stepF s k n nm l).2 names (q + 1) := by
  have hk := keeps_step s k n nm l hk0 h.lv
  exact ⟨h.inv.step hq k n nm l, hk.1.trans h.nm, hk.2 h.lv⟩
theorem int_tf : ∀ q, q ∈ 3 :: (Kd.int .i64).E → q ∉ TF := by
  intro q hq
  have : q = 3 := by simpa [Kd.int, Kd.scalar] using hq
  subst this
  decide
set_option maxHeartbeats 16000000 in
set_option maxRecDepth 100000 in
theorem stays_calls (A0 : Option Addr) (c0 : Nat) (l0 : List Int) (A : Option Addr) (c : Nat) (l : List S51) (b1 : Int) (w : World) (hC0 : Kd.C (Kd.int .i64) w A0 l0.length l0) (hc0 : l0.length ≤ c0) (hC : Kd.C k51 w A l.length l) (hc : l.length ≤ c) (hs : ∀ y ∈ l, ∀ x ∈ y.f3, x.size ≤ maxLen) :
    Calls Try.prog 8 #[.slice A0 l0.length c0, .slice A l.length c, .int .i64 b1] w fun e w' => e = .returned (.bool true) ∧ Below w.heap.size w w' := by
  have HL := Aside0.mk (lives_raw w)
  obtain ⟨names, hg, hgood⟩ : ∃ names, Goods names ∧ ∀ W, Below w.heap.size w W → Calls Try.prog 11 #[.slice A0 l0.length c0] W fun e w' => ∃ v0_ : Value, e = .returned v0_ ∧ Kd.R Kd.string 9 w' W.heap.size (fun _ => True) v0_ names ∧ Below W.heap.size W w' := by
    obtain ⟨r, h1, h2⟩ := good_loop l0 hC0.2.1 l0.length (l0.length + 8) 0 [] (Nat.zero_le _) rfl (Nat.le_refl _) ⟨List.nodup_nil, by simp⟩
    exact ⟨r, h2, fun W hb => hostlerref09_Good.calls (l0.length + 8) A0 c0 l0 r W (Kd.C_below hC0 hb) hc0 h1⟩
  have HG := Aside0.mk hgood
  obtain ⟨es, ⟨hes80, hscr⟩, hearly⟩ := early_any A c l w hC hc hs
  have HE := Aside0.mk hearly
  have HSCR := Aside0.mk hscr
  have HGD := Aside0.mk hg
  obtain ⟨g41, hg0, hg41⟩ := mod_n b1 41 (by decide) (by decide)
  have hGU : wrap64 (Int.tmod (IntKind.u64.wrap b1) 41) = (g41 : Int) := hg0
  have HN := Aside0.mk (fun W hb => fnew_raw 2 (g41 : Int) w W hb)
  have HRES := Aside0.mk (fun (g : Nat) (W : World) (hI : IsF w W g ⟨2, (g41 : Int), [], ⟨[]⟩⟩) (hB : Below w.heap.size w W) (A : Option Addr) (n base : Nat) (hr : Kd.R Kd.string 9 W base (fun _ => True) (.slice A names.length n) names) =>
    resolve_any (n := 0) (by decide) (FInv.new 2 (g41 : Int)) hI hB names A n 3 (Kd.R_reads' hr).2.1 (fun x hx => (h6_ok (hg.2 hx)).2) (rowC hr))
  rw [resolve_first 2 (g41 : Int) hg 3] at HRES
  have HFIRST : Aside0 (SK ⟨2, (g41 : Int), freshH names, ⟨[]⟩⟩ names 1) := ⟨⟨by have := (FInv.new 2 (g41 : Int)).resolve (by decide) names 3; rwa [resolve_first 2 (g41 : Int) hg 3] at this, fresh_nm names, fun x hx => by
    obtain ⟨y, _, rfl⟩ := List.mem_map.1 hx
    rfl⟩⟩
  clear hg0 hg41 hC hC0 hearly hscr hgood hg
  go_enter Try.func8, Try.ntmps8
  go_wp2_with (first
    | (go_at_call 10; refine HL.out.mono ?_; rintro e wl ⟨rfl, hb⟩; have HB1 := Aside0.mk hb; clear hb)
    | (go_at_call 11; refine (HG.out wl HB1.out).mono ?_; rintro e w2 ⟨v2, rfl, hr, hb⟩; obtain ⟨A2, n2, rfl⟩ := Kd.R_slice hr; have HB2 := Aside0.mk (below_step HB1.out hb); have HR2 := Aside0.mk hr; clear hr hb HB1)
    | (go_at_call 12; refine (HN.out _ HB2.out).mono ?_; rintro e w3 ⟨g, rfl, hi, hb, hb2⟩; have K3 := Aside0.mk hi; have B3 := Aside0.mk hb; have M3 := Aside0.mk (Kd.R_below HR2.out hb2); clear hi hb hb2 HB2 HR2)
    | (go_at_call 13; refine (HRES.out g w3 K3.out B3.out _ _ _ M3.out).mono ?_; rintro e w4 ⟨v1, v2, rfl, hr1, hr2, hi, hb, hk⟩; have K4 := Aside0.mk hi; have B4 := Aside0.mk hb; have M4 := Aside0.mk (row_keepG M3.out hk str_tf); clear hi hb hk HRES K3 B3 M3 hr1 hr2)
    | (go_at_call 25; refine (HE.out _ B4.out).mono ?_; rintro e w5 ⟨v5, rfl, hr, hb⟩; obtain ⟨A4, n4, rfl⟩ := Kd.R_slice hr; have K5 := Aside0.mk (K4.out.below hb); have B5 := Aside0.mk (below_step B4.out hb); have M5 := Aside0.mk (Kd.R_below M4.out hb); have N5 := Aside0.mk hr; clear hr hb K4 B4 M4))
  clear hGU
  go_loopw [9] (fun v9 wr => ∃ (k : Nat) (s : FS), v9 = .int .i64 (k : Int) ∧ k ≤ es.length ∧ Aside0 (SK s names (k + 1)) ∧ Aside0 (IsF w wr g s) ∧ Aside0 (Below w.heap.size w wr) ∧ Aside0 (Kd.R Kd.string 9 wr wl.heap.size (fun _ => True) (.slice A2 names.length n2) names) ∧ Aside0 (Kd.R kH 51 wr w4.heap.size (fun _ => True) (.slice A4 es.length n4) es)) (fun v9 _ => es.length - (intOf v9).toNat)
  case atStart => exact ⟨0, _, rfl, Nat.zero_le _, HFIRST, K5, B5, M5, N5⟩
  case round =>
    obtain ⟨k, s, rfl, hkl, HI, K1, B1, M1, N1⟩ := hrel
    clear K5 B5 M5 N5 HN HFIRST HL HE HG
    by_cases hlt : k < es.length
    · obtain ⟨x, hx⟩ : ∃ x, es[k]? = some x := ⟨_, List.getElem?_eq_getElem hlt⟩
      obtain ⟨hk, hkn, hknc, hks, hkC⟩ := HSCR.out k x hx
      have hRD := Aside0.mk (fun (W : World) (h : Kd.R kH 51 W w4.heap.size (fun _ => True) (.slice A4 es.length n4) es) => at_TH (Kd.R_reads' h).2.2 hx)
      obtain ⟨ad, had, hx0, hx1, hx2, hx3⟩ := hRD.out wr N1.out
      subst had
      have hk0 : (0 : Int) ≤ (k : Int) := by omega
      have hkI : (k : Int) < (es.length : Int) := by omega
      have hk80 : k ≤ 80 := by omega
      have HST := Aside0.mk (fun (W : World) (hF : IsF w W g s) (hB : Below w.heap.size w W) => step_any (q := k + 1) (by omega) HI.out.inv hF hB x.f0 x.f1 x.f2 hk x.A x.c (by omega) hks (fun W' _ hb => hkC W' hb))
      rw [hkn] at HST
      have HKD := Aside0.mk (fun W => kind_raw x.f0 x.f1 x.f2 x.A x.n x.c W)
      obtain ⟨kk, hkk⟩ : ∃ q, q = kindOf x.f0 := ⟨_, rfl⟩
      have hnext : ∃ s', (kk = 0 → s' = s) ∧ (kk ≠ 0 → s' = (stepF s x.f0 x.f1 x.f2 hk).2) ∧ SK s' names (k + 1 + 1) := by
        by_cases h0 : kk = 0
        · exact ⟨s, fun _ => rfl, fun h => absurd h0 h, ⟨HI.out.inv.next, HI.out.nm, HI.out.lv⟩⟩
        · exact ⟨_, fun h => absurd h h0, fun _ => rfl, sk_step (by omega) HI.out x.f0 x.f1 x.f2 hk (by rw [← hkk]; exact h0)⟩
      obtain ⟨s', hs0, hs1, hSK⟩ := hnext
      have HI2 := Aside0.mk hSK
      rw [← hkk] at HKD
      have HSTA := Aside0.mk (fun (W : World) (hF : IsF w W g s') => states_any (n := k + 1 + 1) (by omega) hSK.inv hF)
      have HDUE := Aside0.mk (fun (W : World) (hF : IsF w W g s') => due_any (n := k + 1 + 1) (by omega) hSK.inv hF x.f1)
      have HNMS := Aside0.mk (fun (W : World) (hF : IsF w W g s') => names_any (n := k + 1 + 1) (by omega) hSK.inv hF)
      have HRS := Aside0.mk (fun (W : World) (hI : IsF w W g s') (hB : Below w.heap.size w W) (hr : Kd.R Kd.string 9 W wl.heap.size (fun _ => True) (.slice A2 names.length n2) names) =>
        resolve_any (n := k + 1 + 1) (by omega) hSK.inv hI hB names A2 n2 x.f1 (Kd.R_reads' hr).2.1 (fun x hx => (h6_ok (HGD.out.2 hx)).2) (rowC hr))
      rw [resolve_same HGD.out hSK x.f1] at HRS
      rw [hSK.nm] at HNMS
      obtain ⟨sts, hsts⟩ : ∃ q, q = s'.hs.map (·.st) := ⟨_, rfl⟩
      obtain ⟨du, hdu⟩ : ∃ q, q = dueOf s'.ds x.f1 := ⟨_, rfl⟩
      rw [← hsts] at HSTA
      rw [← hdu] at HDUE
      clear hSK hkk hkC hks hx hsts hdu
      by_cases h0 : kk = 0
      · obtain rfl := hs0 h0
        subst h0
        clear hs0 hs1
        go_wp2_with (first
          | (go_at_call 27; refine (HKD.out wr).mono ?_; rintro e w5 ⟨rfl, hb⟩; have K5 := Aside0.mk (K1.out.below hb); have B5 := Aside0.mk (below_step B1.out hb); have M5 := Aside0.mk (Kd.R_below M1.out hb); have N5 := Aside0.mk (Kd.R_below N1.out hb); obtain ⟨_, e_5, q50, q51, q52, q53⟩ := hRD.out w5 N5.out; cases e_5; clear hb K1 B1 M1 N1))
        have K6 := Aside0.mk (K5.out.below (below_drew1 (Below.refl _ w5)))
        have B6 := Aside0.mk (below_drew1 B5.out)
        have M6 := Aside0.mk (Kd.R_drew M5.out)
        have N6 := Aside0.mk (Kd.R_drew N5.out)
        obtain ⟨_, e_d, qd0, qd1, qd2, qd3⟩ := hRD.out _ N6.out; cases e_d
        clear K5 B5 M5 N5
        go_region_with (first
          | (go_at_call 30; refine (HSTA.out _ K6.out).mono ?_; rintro e w7 ⟨vs, rfl, hr, hb⟩; obtain ⟨As, ns, rfl⟩ := Kd.R_slice hr; have K7 := Aside0.mk (K6.out.below hb); have B7 := Aside0.mk (below_step B6.out hb); have M7 := Aside0.mk (Kd.R_below M6.out hb); have N7 := Aside0.mk (Kd.R_below N6.out hb); have S7 := Aside0.mk hr; obtain ⟨_, e_7, q70, q71, q72, q73⟩ := hRD.out w7 N7.out; cases e_7; clear hb hr K6 B6 M6 N6)
          | (go_at_call 22; refine (HDUE.out w7 K7.out).mono ?_; rintro e w8 ⟨vd, rfl, hr, hb⟩; obtain ⟨Ad, nd, rfl⟩ := Kd.R_slice hr; have K8 := Aside0.mk (K7.out.below hb); have B8 := Aside0.mk (below_step B7.out hb); have M8 := Aside0.mk (Kd.R_below M7.out hb); have N8 := Aside0.mk (Kd.R_below N7.out hb); have S8 := Aside0.mk (Kd.R_below S7.out hb); have D8 := Aside0.mk hr; obtain ⟨_, e_8, q80, q81, q82, q83⟩ := hRD.out w8 N8.out; cases e_8; clear hb hr K7 B7 M7 N7 S7))
        all_goals
          go_wp2_with (first
            | (go_at_call 13; refine (HRS.out w8 K8.out B8.out M8.out).mono ?_; rintro e w9 ⟨vr1, vr2, rfl, hr1, hr2, hi, hb, hk⟩; obtain ⟨Ar1, nr1, rfl⟩ := Kd.R_slice hr1; obtain ⟨Ar2, nr2, rfl⟩ := Kd.R_slice hr2; have K9 := Aside0.mk hi; have B9 := Aside0.mk hb; have M9 := Aside0.mk (row_keepG M8.out hk str_tf); have N9 := Aside0.mk (row_keepG N8.out hk kH_tf); have S9 := Aside0.mk (row_keepG S8.out hk int_tf); have D9 := Aside0.mk (row_keepG D8.out hk str_tf); obtain ⟨_, e_9, q90, q91, q92, q93⟩ := hRD.out w9 N9.out; cases e_9; clear hi hb hk hr1 hr2 K8 B8 M8 N8 S8 D8)
            | (go_at_call 30; refine (HSTA.out w9 K9.out).mono ?_; rintro e w10 ⟨vs2, rfl, hr, hb⟩; obtain ⟨As2, ns2, rfl⟩ := Kd.R_slice hr; have K10 := Aside0.mk (K9.out.below hb); have B10 := Aside0.mk (below_step B9.out hb); have M10 := Aside0.mk (Kd.R_below M9.out hb); have N10 := Aside0.mk (Kd.R_below N9.out hb); have S10 := Aside0.mk (Kd.R_below S9.out hb); have D10 := Aside0.mk (Kd.R_below D9.out hb); have T10 := Aside0.mk hr; obtain ⟨_, e_10, q100, q101, q102, q103⟩ := hRD.out w10 N10.out; cases e_10; clear hb hr K9 B9 M9 N9 S9 D9)
            | (go_at_call 31; refine (samei_raw sts sts As2 As ns2 ns _ (Kd.R_reads' T10.out).2.2 (Kd.R_reads' T10.out).2.1 (Kd.R_reads' S10.out).2.2 (Kd.R_reads' S10.out).2.1).mono ?_; rw [show decide (sts = sts) = true from decide_eq_true rfl]; rintro e w11 ⟨rfl, hd⟩; have hb := Drawn0.below hd; have K11 := Aside0.mk (K10.out.below hb); have B11 := Aside0.mk (below_step B10.out hb); have M11 := Aside0.mk (Kd.R_below M10.out hb); have N11 := Aside0.mk (Kd.R_below N10.out hb); have D11 := Aside0.mk (Kd.R_below D10.out hb); obtain ⟨_, e_11, q110, q111, q112, q113⟩ := hRD.out w11 N11.out; cases e_11; clear hb hd K10 B10 M10 N10 S10 D10)
            | (go_at_call 22; refine (HDUE.out w11 K11.out).mono ?_; rintro e w12 ⟨vd2, rfl, hr, hb⟩; obtain ⟨Ad2, nd2, rfl⟩ := Kd.R_slice hr; have K12 := Aside0.mk (K11.out.below hb); have B12 := Aside0.mk (below_step B11.out hb); have M12 := Aside0.mk (Kd.R_below M11.out hb); have N12 := Aside0.mk (Kd.R_below N11.out hb); have D12 := Aside0.mk (Kd.R_below D11.out hb); have E12 := Aside0.mk hr; obtain ⟨_, e_12, q120, q121, q122, q123⟩ := hRD.out w12 N12.out; cases e_12; clear hb hr K11 B11 M11 N11 D11)
            | (go_at_call 18; refine (same_raw du du Ad2 Ad nd2 nd _ (Kd.R_reads' E12.out).2.2 (Kd.R_reads' E12.out).2.1 (Kd.R_reads' D12.out).2.2 (Kd.R_reads' D12.out).2.1).mono ?_; rw [show decide (du = du) = true from decide_eq_true rfl]; rintro e w13 ⟨rfl, hd⟩; have hb := Drawn0.below hd; have K13 := Aside0.mk (K12.out.below hb); have B13 := Aside0.mk (below_step B12.out hb); have M13 := Aside0.mk (Kd.R_below M12.out hb); have N13 := Aside0.mk (Kd.R_below N12.out hb); clear hb hd K12 B12 M12 N12 D12)
            | (go_at_call 32; refine (HNMS.out w13 K13.out).mono ?_; rintro e w14 ⟨vn, rfl, hr, hb⟩; obtain ⟨An, nn, rfl⟩ := Kd.R_slice hr; have K14 := Aside0.mk (K13.out.below hb); have B14 := Aside0.mk (below_step B13.out hb); have M14 := Aside0.mk (Kd.R_below M13.out hb); have N14 := Aside0.mk (Kd.R_below N13.out hb); have F14 := Aside0.mk hr; clear hb hr K13 B13 M13 N13)
            | (go_at_call 18; refine (same_raw names names An A2 nn n2 _ (Kd.R_reads' F14.out).2.2 (Kd.R_reads' F14.out).2.1 (Kd.R_reads' M14.out).2.2 (Kd.R_reads' M14.out).2.1).mono ?_; rw [show decide (names = names) = true from decide_eq_true rfl]; rintro e w15 ⟨rfl, hd⟩; have hb := Drawn0.below hd; have K15 := Aside0.mk (K14.out.below hb); have B15 := Aside0.mk (below_step B14.out hb); have M15 := Aside0.mk (Kd.R_below M14.out hb); have N15 := Aside0.mk (Kd.R_below N14.out hb); clear hb hd K14 B14 M14 N14))
          all_goals exact ⟨⟨k + 1, _, by rw [show ((k : Int) + 1) = ((k + 1 : Nat) : Int) by omega], by omega, HI2, K15, B15, M15, N15⟩, by simp [intOf]; omega⟩
      · obtain rfl := hs1 h0
        have h0b : (kk == 0) = false := by rw [beq_eq_false_iff_ne]; exact h0
        generalize stepF s x.f0 x.f1 x.f2 hk = SF at *
        clear hs0 hs1
        go_wp2_with (first
          | (go_at_call 27; refine (HKD.out wr).mono ?_; rintro e w5 ⟨rfl, hb⟩; have K5 := Aside0.mk (K1.out.below hb); have B5 := Aside0.mk (below_step B1.out hb); have M5 := Aside0.mk (Kd.R_below M1.out hb); have N5 := Aside0.mk (Kd.R_below N1.out hb); obtain ⟨_, e_5, q50, q51, q52, q53⟩ := hRD.out w5 N5.out; cases e_5; clear hb K1 B1 M1 N1)
          | (go_at_call 26; refine (HST.out w5 K5.out B5.out).mono ?_; rintro e w6 ⟨va, vb, rfl, hra, hrb, hi, hb, hk⟩; obtain ⟨Aa, na, rfl⟩ := Kd.R_slice hra; obtain ⟨Ab, nb, rfl⟩ := Kd.R_slice hrb; have K6 := Aside0.mk hi; have B6 := Aside0.mk hb; have M6 := Aside0.mk (row_keepG M5.out hk str_tf); have N6 := Aside0.mk (row_keepG N5.out hk kH_tf); obtain ⟨_, e_6, q60, q61, q62, q63⟩ := hRD.out w6 N6.out; cases e_6; clear hi hb hk hra hrb K5 B5 M5 N5))
        have K7 := Aside0.mk (K6.out.below (below_drew1 (Below.refl _ w6)))
        have B7 := Aside0.mk (below_drew1 B6.out)
        have M7 := Aside0.mk (Kd.R_drew M6.out)
        have N7 := Aside0.mk (Kd.R_drew N6.out)
        obtain ⟨_, e_d, qd0, qd1, qd2, qd3⟩ := hRD.out _ N7.out; cases e_d
        clear K6 B6 M6 N6
        go_region_with (first
          | (go_at_call 30; refine (HSTA.out _ K7.out).mono ?_; rintro e w8 ⟨vs, rfl, hr, hb⟩; obtain ⟨As, ns, rfl⟩ := Kd.R_slice hr; have K8 := Aside0.mk (K7.out.below hb); have B8 := Aside0.mk (below_step B7.out hb); have M8 := Aside0.mk (Kd.R_below M7.out hb); have N8 := Aside0.mk (Kd.R_below N7.out hb); have S8 := Aside0.mk hr; obtain ⟨_, e_8, q80, q81, q82, q83⟩ := hRD.out w8 N8.out; cases e_8; clear hb hr K7 B7 M7 N7)
          | (go_at_call 22; refine (HDUE.out w8 K8.out).mono ?_; rintro e w9 ⟨vd, rfl, hr, hb⟩; obtain ⟨Ad, nd, rfl⟩ := Kd.R_slice hr; have K9 := Aside0.mk (K8.out.below hb); have B9 := Aside0.mk (below_step B8.out hb); have M9 := Aside0.mk (Kd.R_below M8.out hb); have N9 := Aside0.mk (Kd.R_below N8.out hb); have S9 := Aside0.mk (Kd.R_below S8.out hb); have D9 := Aside0.mk hr; obtain ⟨_, e_9, q90, q91, q92, q93⟩ := hRD.out w9 N9.out; cases e_9; clear hb hr K8 B8 M8 N8 S8))
        all_goals
          go_wp2_with (first
            | (go_at_call 13; refine (HRS.out w9 K9.out B9.out M9.out).mono ?_; rintro e w10 ⟨vr1, vr2, rfl, hr1, hr2, hi, hb, hk⟩; obtain ⟨Ar1, nr1, rfl⟩ := Kd.R_slice hr1; obtain ⟨Ar2, nr2, rfl⟩ := Kd.R_slice hr2; have K10 := Aside0.mk hi; have B10 := Aside0.mk hb; have M10 := Aside0.mk (row_keepG M9.out hk str_tf); have N10 := Aside0.mk (row_keepG N9.out hk kH_tf); have S10 := Aside0.mk (row_keepG S9.out hk int_tf); have D10 := Aside0.mk (row_keepG D9.out hk str_tf); obtain ⟨_, e_10, q100, q101, q102, q103⟩ := hRD.out w10 N10.out; cases e_10; clear hi hb hk hr1 hr2 K9 B9 M9 N9 S9 D9)
            | (go_at_call 30; refine (HSTA.out w10 K10.out).mono ?_; rintro e w11 ⟨vs2, rfl, hr, hb⟩; obtain ⟨As2, ns2, rfl⟩ := Kd.R_slice hr; have K11 := Aside0.mk (K10.out.below hb); have B11 := Aside0.mk (below_step B10.out hb); have M11 := Aside0.mk (Kd.R_below M10.out hb); have N11 := Aside0.mk (Kd.R_below N10.out hb); have S11 := Aside0.mk (Kd.R_below S10.out hb); have D11 := Aside0.mk (Kd.R_below D10.out hb); have T11 := Aside0.mk hr; obtain ⟨_, e_11, q110, q111, q112, q113⟩ := hRD.out w11 N11.out; cases e_11; clear hb hr K10 B10 M10 N10 S10 D10)
            | (go_at_call 31; refine (samei_raw sts sts As2 As ns2 ns _ (Kd.R_reads' T11.out).2.2 (Kd.R_reads' T11.out).2.1 (Kd.R_reads' S11.out).2.2 (Kd.R_reads' S11.out).2.1).mono ?_; rw [show decide (sts = sts) = true from decide_eq_true rfl]; rintro e w12 ⟨rfl, hd⟩; have hb := Drawn0.below hd; have K12 := Aside0.mk (K11.out.below hb); have B12 := Aside0.mk (below_step B11.out hb); have M12 := Aside0.mk (Kd.R_below M11.out hb); have N12 := Aside0.mk (Kd.R_below N11.out hb); have D12 := Aside0.mk (Kd.R_below D11.out hb); obtain ⟨_, e_12, q120, q121, q122, q123⟩ := hRD.out w12 N12.out; cases e_12; clear hb hd K11 B11 M11 N11 S11 D11)
            | (go_at_call 22; refine (HDUE.out w12 K12.out).mono ?_; rintro e w13 ⟨vd2, rfl, hr, hb⟩; obtain ⟨Ad2, nd2, rfl⟩ := Kd.R_slice hr; have K13 := Aside0.mk (K12.out.below hb); have B13 := Aside0.mk (below_step B12.out hb); have M13 := Aside0.mk (Kd.R_below M12.out hb); have N13 := Aside0.mk (Kd.R_below N12.out hb); have D13 := Aside0.mk (Kd.R_below D12.out hb); have E13 := Aside0.mk hr; obtain ⟨_, e_13, q130, q131, q132, q133⟩ := hRD.out w13 N13.out; cases e_13; clear hb hr K12 B12 M12 N12 D12)
            | (go_at_call 18; refine (same_raw du du Ad2 Ad nd2 nd _ (Kd.R_reads' E13.out).2.2 (Kd.R_reads' E13.out).2.1 (Kd.R_reads' D13.out).2.2 (Kd.R_reads' D13.out).2.1).mono ?_; rw [show decide (du = du) = true from decide_eq_true rfl]; rintro e w14 ⟨rfl, hd⟩; have hb := Drawn0.below hd; have K14 := Aside0.mk (K13.out.below hb); have B14 := Aside0.mk (below_step B13.out hb); have M14 := Aside0.mk (Kd.R_below M13.out hb); have N14 := Aside0.mk (Kd.R_below N13.out hb); clear hb hd K13 B13 M13 N13 D13)
            | (go_at_call 32; refine (HNMS.out w14 K14.out).mono ?_; rintro e w15 ⟨vn, rfl, hr, hb⟩; obtain ⟨An, nn, rfl⟩ := Kd.R_slice hr; have K15 := Aside0.mk (K14.out.below hb); have B15 := Aside0.mk (below_step B14.out hb); have M15 := Aside0.mk (Kd.R_below M14.out hb); have N15 := Aside0.mk (Kd.R_below N14.out hb); have F15 := Aside0.mk hr; clear hb hr K14 B14 M14 N14)
            | (go_at_call 18; refine (same_raw names names An A2 nn n2 _ (Kd.R_reads' F15.out).2.2 (Kd.R_reads' F15.out).2.1 (Kd.R_reads' M15.out).2.2 (Kd.R_reads' M15.out).2.1).mono ?_; rw [show decide (names = names) = true from decide_eq_true rfl]; rintro e w16 ⟨rfl, hd⟩; have hb := Drawn0.below hd; have K16 := Aside0.mk (K15.out.below hb); have B16 := Aside0.mk (below_step B15.out hb); have M16 := Aside0.mk (Kd.R_below M15.out hb); have N16 := Aside0.mk (Kd.R_below N15.out hb); clear hb hd K15 B15 M15 N15))
          all_goals exact ⟨⟨k + 1, _, by rw [show ((k : Int) + 1) = ((k + 1 : Nat) : Int) by omega], by omega, HI2, K16, B16, M16, N16⟩, by simp [intOf]; omega⟩
    · have hkI : ¬ (k : Int) < (es.length : Int) := by omega
      go_wp2
      go_ret
      exact ⟨rfl, B1.out⟩
theorem stays_law (A0 : Option Addr) (c0 : Nat) (l0 : List Int) (A : Option Addr) (c : Nat) (l : List S51) (b1 : Int) (w : World) (hC0 : Kd.C (Kd.int .i64) w A0 l0.length l0) (hc0 : l0.length ≤ c0) (_ : ∀ x ∈ l0, (Lit.int .i64 x).wf = true) (hC : Kd.C k51 w A l.length l) (hc : l.length ≤ c) (hw : ∀ x ∈ l, (Lit.int .i64 x.f0).wf = true ∧ (Lit.int .i64 x.f1).wf = true ∧ x.f2.size ≤ maxLen ∧ (x.f3.length ≤ maxLen ∧ ∀ y ∈ x.f3, y.size ≤ maxLen)) (_ : (Lit.int .i64 b1).wf = true) :
    Calls Try.prog 8 #[.slice A0 l0.length c0, .slice A l.length c, .int .i64 b1] w fun e w' => e = .returned (.bool true) ∧ Below w.heap.size w w' := stays_calls A0 c0 l0 A c l b1 w hC0 hc0 hC hc (fun y hy => (hw y hy).2.2.2.2)
end Go.Proofs.Ytmlmiocomlehgaa.Man
