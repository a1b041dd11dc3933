/-
  The fleet: contracts of its functions, proved by walking them, and plain facts, several texts in one (Lw). Conditions: none.
-/
import Derived.Test.YtmlmiocomlehgaaB7
set_option linter.unusedVariables false
set_option linter.unusedSimpArgs false
namespace Go.Proofs.Ytmlmiocomlehgaa.Nil
open Go.RowKit Go.Proofs.YtmlmiocomlehgaaW.PrintWords Go.Proofs.YtmlmiocomlehgaaW.PrintLast Go.Proofs.YtmlmiocomlehgaaW.PrintMore Go.Proofs.Ytmlmiocomlehgaa.PA Go.Proofs.Ytmlmiocomlehgaa.PF Go.Proofs.Ytmlmiocomlehgaa.Hid Go.Proofs.Ytmlmiocomlehgaa.Man
theorem two_blocks {w w1 : World} {o1 o2 : Obj} (h : Below ((w.alloc o1).alloc o2).heap.size ((w.alloc o1).alloc o2) w1) : w1.heap[w.heap.size]? = some o1 ∧ w1.heap[w.heap.size + 1]? = some o2 := by
  refine ⟨(h.block w.heap.size (by simp; omega)).trans ((Below.heap_alloc (w.alloc o1) _ _ (by simp)).trans (heap_alloc_new w o1)), (h.block (w.heap.size + 1) (by simp)).trans ?_⟩
  have := heap_alloc_new (w.alloc o1) o2
  simpa using this
theorem results_c1 {P : Program} {fn : Func} {p : Tmp} {ty : TypeId} (h : fn.results = #[.cell p ty]) (tmps : Array Value) (w : World) (g : Nat) (t : TypeId) (cs : Array Value) (fr : Nat × Nat) (d : TypeDesc)
    (hp : tmps.getD p undef = .pointer (some ⟨g, 0, none⟩)) (hg : w.heap[g]? = some (.cells cs t fr))
    (hu : P.underlying ty = some d) (hd : (match d with | .struct _ | .array _ _ => true | _ => false) = true) (hi : (P.info? ty).map (·.size) = some cs.size) :
    (results fn tmps).run P w = .ok (.agg cs) w := by
  have hp' : tmps[p]?.getD undef = .pointer (some ⟨g, 0, none⟩) := by simpa using hp
  simp [results, h, hp', asAddr, run_loadVar_row w g t ty cs fr d hg hu hd hi]
theorem set4 {w : World} {g : Nat} {t : TypeId} {a b c d a' b' c' d' : Value} (h : w.heap[g]? = some (.cells #[a, b, c, d] t (0, 0))) :
    ((((w.setCell ⟨g, 0, none⟩ a').setCell ⟨g, 1, none⟩ b').setCell ⟨g, 2, none⟩ c').setCell ⟨g, 3, none⟩ d').heap[g]? = some (.cells #[a', b', c', d'] t (0, 0)) := by
  simpa using blk_set (blk_set (blk_set (blk_set h 0 a') 1 b') 2 c') 3 d'
theorem below4 {w0 w : World} {g : Nat} {a b c d : Value} (h : Below w0.heap.size w0 w) (hg : w0.heap.size ≤ g) :
    Below w0.heap.size w0 ((((w.setCell ⟨g, 0, none⟩ a).setCell ⟨g, 1, none⟩ b).setCell ⟨g, 2, none⟩ c).setCell ⟨g, 3, none⟩ d) :=
  below_set (below_set (below_set (below_set h hg) hg) hg) hg
theorem far4 {w : World} {g k : Nat} {o : Obj} {a b c d : Value} (h : w.heap[k]? = some o) (hne : k ≠ g) :
    ((((w.setCell ⟨g, 0, none⟩ a).setCell ⟨g, 1, none⟩ b).setCell ⟨g, 2, none⟩ c).setCell ⟨g, 3, none⟩ d).heap[k]? = some o :=
  (Below.heap_setCell _ ⟨g, 3, none⟩ _ k hne).trans ((Below.heap_setCell _ ⟨g, 2, none⟩ _ k hne).trans ((Below.heap_setCell _ ⟨g, 1, none⟩ _ k hne).trans ((Below.heap_setCell _ ⟨g, 0, none⟩ _ k hne).trans h)))
abbrev nilE (k : Int) : Int := if kindOf k ≤ 4 then 1 else 0
set_option maxHeartbeats 4000000 in
theorem step_nil (k n : Int) (nm : ByteArray) (A : Option Addr) (m c : Nat) (w : World) : Calls Try.prog 26 #[.pointer none, stV k n nm A m c] w fun e w' => e = .returned (.agg #[.bool false, .int .i64 (nilE k), .slice none 0 0, .slice none 0 0]) ∧ Below w.heap.size w w' := by
  have HK := Aside0.mk (fun W => kind_raw k n nm A m c W)
  unfold nilE
  rcases kind_range k with h | h | h | h | h | h | h | h
  · rw [h] at HK ⊢
    clear h
    go_enter Try.func26, Try.ntmps26
    go_wp2_with (first
      | (go_at_call 27; refine (HK.out _).mono ?_; rintro e w1 ⟨rfl, hb1⟩; have HB := Aside0.mk (below_step (below_alloc (below_alloc (Below.refl _ w) _) _) hb1); obtain ⟨bs, bn⟩ := two_blocks hb1; have sc1 := blk_cell bs 1; have sc2 := blk_cell bs 2; have sc3 := blk_cell bs 3; have sl := blk_lt bs; have nl := blk_lt bn; have BN := Aside0.mk bn; clear hb1 bs bn)
      | (go_at_call 13; refine (resolve_nil A m c n _).mono ?_; rintro e w2 ⟨rfl, rfl⟩; have HB2 := HB; have bn2 := BN.out; have nc0 := blk_cell bn2 0; have nc1 := blk_cell bn2 1; have nc2 := blk_cell bn2 2; have nc3 := blk_cell bn2 3; have nf0 := blk_frozen bn2 0; have nf1 := blk_frozen bn2 1; have nf2 := blk_frozen bn2 2; have nf3 := blk_frozen bn2 3; have BN2 := Aside0.mk bn2; clear bn2))
    refine bodyPost_ret (results_c1 (p := 4) rfl _ _ (w.heap.size + 1) 48 _ (0, 0) _ rfl (set4 BN2.out) Try.underlying48 rfl (by kernel_rfl)) rfl ?_
    exact ⟨rfl, below4 HB2.out (by omega)⟩
  · rw [h] at HK ⊢
    clear h
    go_enter Try.func26, Try.ntmps26
    go_wp2_with (first
      | (go_at_call 27; refine (HK.out _).mono ?_; rintro e w1 ⟨rfl, hb1⟩; have HB := Aside0.mk (below_step (below_alloc (below_alloc (Below.refl _ w) _) _) hb1); obtain ⟨bs, bn⟩ := two_blocks hb1; have sc1 := blk_cell bs 1; have sc2 := blk_cell bs 2; have sc3 := blk_cell bs 3; have sl := blk_lt bs; have nl := blk_lt bn; have BN := Aside0.mk bn; clear hb1 bs bn)
      | (go_at_call 16; refine (drain_nil nm _).mono ?_; rintro e w2 ⟨rfl, hb2⟩; have HB2 := Aside0.mk (below_step HB.out hb2); have bn2 := (hb2.block _ nl).trans BN.out; have nc0 := blk_cell bn2 0; have nc1 := blk_cell bn2 1; have nc2 := blk_cell bn2 2; have nc3 := blk_cell bn2 3; have nf0 := blk_frozen bn2 0; have nf1 := blk_frozen bn2 1; have nf2 := blk_frozen bn2 2; have nf3 := blk_frozen bn2 3; have BN2 := Aside0.mk bn2; clear hb2 bn2))
    refine bodyPost_ret (results_c1 (p := 4) rfl _ _ (w.heap.size + 1) 48 _ (0, 0) _ rfl (set4 BN2.out) Try.underlying48 rfl (by kernel_rfl)) rfl ?_
    exact ⟨rfl, below4 HB2.out (by omega)⟩
  · rw [h] at HK ⊢
    clear h
    go_enter Try.func26, Try.ntmps26
    go_wp2_with (first
      | (go_at_call 27; refine (HK.out _).mono ?_; rintro e w1 ⟨rfl, hb1⟩; have HB := Aside0.mk (below_step (below_alloc (below_alloc (Below.refl _ w) _) _) hb1); obtain ⟨bs, bn⟩ := two_blocks hb1; have sc1 := blk_cell bs 1; have sc2 := blk_cell bs 2; have sc3 := blk_cell bs 3; have sl := blk_lt bs; have nl := blk_lt bn; have BN := Aside0.mk bn; clear hb1 bs bn)
      | (go_at_call 24; refine (undrain_nil nm _).mono ?_; rintro e w2 ⟨rfl, hb2⟩; have HB2 := Aside0.mk (below_step HB.out hb2); have bn2 := (hb2.block _ nl).trans BN.out; have nc0 := blk_cell bn2 0; have nc1 := blk_cell bn2 1; have nc2 := blk_cell bn2 2; have nc3 := blk_cell bn2 3; have nf0 := blk_frozen bn2 0; have nf1 := blk_frozen bn2 1; have nf2 := blk_frozen bn2 2; have nf3 := blk_frozen bn2 3; have BN2 := Aside0.mk bn2; clear hb2 bn2))
    refine bodyPost_ret (results_c1 (p := 4) rfl _ _ (w.heap.size + 1) 48 _ (0, 0) _ rfl (set4 BN2.out) Try.underlying48 rfl (by kernel_rfl)) rfl ?_
    exact ⟨rfl, below4 HB2.out (by omega)⟩
  · rw [h] at HK ⊢
    clear h
    go_enter Try.func26, Try.ntmps26
    go_wp2_with (first
      | (go_at_call 27; refine (HK.out _).mono ?_; rintro e w1 ⟨rfl, hb1⟩; have HB := Aside0.mk (below_step (below_alloc (below_alloc (Below.refl _ w) _) _) hb1); obtain ⟨bs, bn⟩ := two_blocks hb1; have sc1 := blk_cell bs 1; have sc2 := blk_cell bs 2; have sc3 := blk_cell bs 3; have sl := blk_lt bs; have nl := blk_lt bn; have BN := Aside0.mk bn; clear hb1 bs bn)
      | (go_at_call 28; refine (force_nil nm n _).mono ?_; rintro e w2 ⟨rfl, hb2⟩; have HB2 := Aside0.mk (below_step HB.out hb2); have bn2 := (hb2.block _ nl).trans BN.out; have nc0 := blk_cell bn2 0; have nc1 := blk_cell bn2 1; have nc2 := blk_cell bn2 2; have nc3 := blk_cell bn2 3; have nf0 := blk_frozen bn2 0; have nf1 := blk_frozen bn2 1; have nf2 := blk_frozen bn2 2; have nf3 := blk_frozen bn2 3; have BN2 := Aside0.mk bn2; clear hb2 bn2))
    refine bodyPost_ret (results_c1 (p := 4) rfl _ _ (w.heap.size + 1) 48 _ (0, 0) _ rfl (set4 BN2.out) Try.underlying48 rfl (by kernel_rfl)) rfl ?_
    exact ⟨rfl, below4 HB2.out (by omega)⟩
  · rw [h] at HK ⊢
    clear h
    go_enter Try.func26, Try.ntmps26
    go_wp2_with (first
      | (go_at_call 27; refine (HK.out _).mono ?_; rintro e w1 ⟨rfl, hb1⟩; have HB := Aside0.mk (below_step (below_alloc (below_alloc (Below.refl _ w) _) _) hb1); obtain ⟨bs, bn⟩ := two_blocks hb1; have sc1 := blk_cell bs 1; have sc2 := blk_cell bs 2; have sc3 := blk_cell bs 3; have sl := blk_lt bs; have nl := blk_lt bn; have BN := Aside0.mk bn; clear hb1 bs bn)
      | (go_at_call 29; refine (eject_nil nm _).mono ?_; rintro e w2 ⟨rfl, hb2⟩; have HB2 := Aside0.mk (below_step HB.out hb2); have bn2 := (hb2.block _ nl).trans BN.out; have nc0 := blk_cell bn2 0; have nc1 := blk_cell bn2 1; have nc2 := blk_cell bn2 2; have nc3 := blk_cell bn2 3; have nf0 := blk_frozen bn2 0; have nf1 := blk_frozen bn2 1; have nf2 := blk_frozen bn2 2; have nf3 := blk_frozen bn2 3; have BN2 := Aside0.mk bn2; clear hb2 bn2))
    refine bodyPost_ret (results_c1 (p := 4) rfl _ _ (w.heap.size + 1) 48 _ (0, 0) _ rfl (set4 BN2.out) Try.underlying48 rfl (by kernel_rfl)) rfl ?_
    exact ⟨rfl, below4 HB2.out (by omega)⟩
  · rw [h] at HK ⊢
    clear h
    go_enter Try.func26, Try.ntmps26
    go_wp2_with (first
      | (go_at_call 27; refine (HK.out _).mono ?_; rintro e w1 ⟨rfl, hb1⟩; have HB := Aside0.mk (below_step (below_alloc (below_alloc (Below.refl _ w) _) _) hb1); obtain ⟨bs, bn⟩ := two_blocks hb1; have sc1 := blk_cell bs 1; have sc2 := blk_cell bs 2; have sc3 := blk_cell bs 3; have sl := blk_lt bs; have nl := blk_lt bn; have BN := Aside0.mk bn; clear hb1 bs bn)
      | (go_at_call 14; refine (admit_nil n _).mono ?_; rintro e w2 ⟨rfl, rfl⟩; have HB2 := HB; have bn2 := BN.out; have nc0 := blk_cell bn2 0; have nc1 := blk_cell bn2 1; have nc2 := blk_cell bn2 2; have nc3 := blk_cell bn2 3; have nf0 := blk_frozen bn2 0; have nf1 := blk_frozen bn2 1; have nf2 := blk_frozen bn2 2; have nf3 := blk_frozen bn2 3; have BN2 := Aside0.mk bn2; clear bn2))
    refine bodyPost_ret (results_c1 (p := 4) rfl _ _ (w.heap.size + 1) 48 _ (0, 0) _ rfl (set4 BN2.out) Try.underlying48 rfl (by kernel_rfl)) rfl ?_
    exact ⟨rfl, below4 HB2.out (by omega)⟩
  · rw [h] at HK ⊢
    clear h
    go_enter Try.func26, Try.ntmps26
    go_wp2_with (first
      | (go_at_call 27; refine (HK.out _).mono ?_; rintro e w1 ⟨rfl, hb1⟩; have HB := Aside0.mk (below_step (below_alloc (below_alloc (Below.refl _ w) _) _) hb1); obtain ⟨bs, bn⟩ := two_blocks hb1; have sc1 := blk_cell bs 1; have sc2 := blk_cell bs 2; have sc3 := blk_cell bs 3; have sl := blk_lt bs; have nl := blk_lt bn; have BN := Aside0.mk bn; clear hb1 bs bn)
      | (go_at_call 51; refine (probe_nil nm _).mono ?_; rintro e w2 ⟨rfl, hb2⟩; have HB2 := Aside0.mk (below_step HB.out hb2); have bn2 := (hb2.block _ nl).trans BN.out; have nc0 := blk_cell bn2 0; have nc1 := blk_cell bn2 1; have nc2 := blk_cell bn2 2; have nc3 := blk_cell bn2 3; have nf0 := blk_frozen bn2 0; have nf1 := blk_frozen bn2 1; have nf2 := blk_frozen bn2 2; have nf3 := blk_frozen bn2 3; have BN2 := Aside0.mk bn2; clear hb2 bn2))
    refine bodyPost_ret (results_c1 (p := 4) rfl _ _ (w.heap.size + 1) 48 _ (0, 0) _ rfl (set4 BN2.out) Try.underlying48 rfl (by kernel_rfl)) rfl ?_
    exact ⟨rfl, below4 HB2.out (by omega)⟩
  · rw [h] at HK ⊢
    clear h
    go_enter Try.func26, Try.ntmps26
    go_wp2_with (first
      | (go_at_call 27; refine (HK.out _).mono ?_; rintro e w1 ⟨rfl, hb1⟩; have HB := Aside0.mk (below_step (below_alloc (below_alloc (Below.refl _ w) _) _) hb1); obtain ⟨bs, bn⟩ := two_blocks hb1; have sc1 := blk_cell bs 1; have sc2 := blk_cell bs 2; have sc3 := blk_cell bs 3; have sl := blk_lt bs; have nl := blk_lt bn; have BN := Aside0.mk bn; clear hb1 bs bn)
      | (go_at_call 23; refine (empty_nil nm _).mono ?_; rintro e w2 ⟨rfl, hb2⟩; have HB2 := Aside0.mk (below_step HB.out hb2); have bn2 := (hb2.block _ nl).trans BN.out; have nc0 := blk_cell bn2 0; have nc1 := blk_cell bn2 1; have nc2 := blk_cell bn2 2; have nc3 := blk_cell bn2 3; have nf0 := blk_frozen bn2 0; have nf1 := blk_frozen bn2 1; have nf2 := blk_frozen bn2 2; have nf3 := blk_frozen bn2 3; have BN2 := Aside0.mk bn2; clear hb2 bn2))
    refine bodyPost_ret (results_c1 (p := 4) rfl _ _ (w.heap.size + 1) 48 _ (0, 0) _ rfl (set4 BN2.out) Try.underlying48 rfl (by kernel_rfl)) rfl ?_
    exact ⟨rfl, below4 HB2.out (by omega)⟩
set_option maxHeartbeats 8000000 in
theorem nil_calls (k n : Int) (nm : ByteArray) (A : Option Addr) (m c : Nat) (w : World) : Calls Try.prog 9 #[stV k n nm A m c] w fun e w' => e = .returned (.bool true) ∧ Below w.heap.size w w' := by
  have HL := Aside0.mk (fun W => lives_raw W)
  have HK := Aside0.mk (fun W => kind_raw k n nm A m c W)
  have HS := Aside0.mk (fun W => step_nil k n nm A m c W)
  unfold nilE at HS
  obtain ⟨kk, hkk⟩ : ∃ q, q = kindOf k := ⟨_, rfl⟩
  have hr := kind_range k
  rw [← hkk] at HK HS hr
  clear hkk
  by_cases h4 : kk ≤ 4
  · rw [if_pos h4] at HS
    go_enter Try.func9, Try.ntmps9
    go_wp2_with (first
      | (go_at_call 10; refine (HL.out _).mono ?_; rintro e w1 ⟨rfl, hb⟩; have HB := Aside0.mk (below_step (below_alloc (Below.refl _ w) _) hb); have BS := Aside0.mk ((hb.block w.heap.size (by simp)).trans (heap_alloc_new w _)); clear hb; have sa1 := blk_cell BS.out 0; have sb1 := blk_cell BS.out 1; have sc1 := blk_cell BS.out 2; have sd1 := blk_cell BS.out 3; have sl1 := blk_lt BS.out)
      | (go_at_call 26; refine (HS.out _).mono ?_; rintro e w2 ⟨rfl, hb⟩; have HB := Aside0.mk (below_step HB.out hb); have BS := Aside0.mk (blk_below BS.out hb); clear hb; have sa2 := blk_cell BS.out 0; have sb2 := blk_cell BS.out 1; have sc2 := blk_cell BS.out 2; have sd2 := blk_cell BS.out 3; have sl2 := blk_lt BS.out; have ne2 : w.heap.size ≠ w2.heap.size := by omega)
      | (go_at_call 20; refine (state_nil nm _).mono ?_; rintro e w3 ⟨rfl, hb⟩; have HB := Aside0.mk (below_step (below_alloc HB.out _) hb); have BN := Aside0.mk ((hb.block w2.heap.size (by simp)).trans (heap_alloc_new w2 _)); have BS := Aside0.mk (blk_below (blk_alloc BS.out _) hb); clear hb; have sa3 := blk_cell BS.out 0; have sb3 := blk_cell BS.out 1; have sc3 := blk_cell BS.out 2; have sd3 := blk_cell BS.out 3; have sl3 := blk_lt BS.out; have na3 := blk_cell BN.out 0; have nb3 := blk_cell BN.out 1; have nc3 := blk_cell BN.out 2; have nd3 := blk_cell BN.out 3; have nl3 := blk_lt BN.out)
      | (go_at_call 27; refine (HK.out _).mono ?_; rintro e w4 ⟨rfl, hb⟩; have HB := Aside0.mk (below_step HB.out hb); have BS := Aside0.mk (blk_below BS.out hb); have BN := Aside0.mk (blk_below BN.out hb); clear hb; have sa4 := blk_cell BS.out 0; have sb4 := blk_cell BS.out 1; have sc4 := blk_cell BS.out 2; have sd4 := blk_cell BS.out 3; have sl4 := blk_lt BS.out; have na4 := blk_cell BN.out 0; have nb4 := blk_cell BN.out 1; have nc4 := blk_cell BN.out 2; have nd4 := blk_cell BN.out 3; have nl4 := blk_lt BN.out)
      | (go_at_call 22; refine (due_nil n _).mono ?_; rintro e w5 ⟨rfl, hb⟩; have HB := Aside0.mk (below_step HB.out hb); have BS := Aside0.mk (blk_below BS.out hb); have BN := Aside0.mk (blk_below BN.out hb); clear hb; have sa5 := blk_cell BS.out 0; have sb5 := blk_cell BS.out 1; have sc5 := blk_cell BS.out 2; have sd5 := blk_cell BS.out 3; have sl5 := blk_lt BS.out; have na5 := blk_cell BN.out 0; have nb5 := blk_cell BN.out 1; have nc5 := blk_cell BN.out 2; have nd5 := blk_cell BN.out 3; have nl5 := blk_lt BN.out)
      | (go_at_call 32; refine (names_nil _).mono ?_; rintro e wq ⟨rfl, rfl⟩)
      | (go_at_call 30; refine (states_nil _).mono ?_; rintro e wq ⟨rfl, rfl⟩)
      | (go_at_call 15; refine (capacity_nil _).mono ?_; rintro e wq ⟨rfl, rfl⟩)
      | (go_at_call 21; refine (leaves_nil nm _).mono ?_; rintro e w7 ⟨rfl, hb⟩; have HB := Aside0.mk (below_step HB.out hb); have BS := Aside0.mk (blk_below BS.out hb); have BN := Aside0.mk (blk_below BN.out hb); clear hb; have sa7 := blk_cell BS.out 0; have sb7 := blk_cell BS.out 1; have sc7 := blk_cell BS.out 2; have sd7 := blk_cell BS.out 3; have sl7 := blk_lt BS.out; have na7 := blk_cell BN.out 0; have nb7 := blk_cell BN.out 1; have nc7 := blk_cell BN.out 2; have nd7 := blk_cell BN.out 3; have nl7 := blk_lt BN.out)
      | (go_at_call 17; refine (ahead_nil nm _).mono ?_; rintro e w8 ⟨rfl, hb⟩; have HB := Aside0.mk (below_step HB.out hb); clear hb))
    go_ret
    exact ⟨rfl, HB.out⟩
  · rw [if_neg h4] at HS
    have h5 : 4 < kk := by omega
    go_enter Try.func9, Try.ntmps9
    go_wp2_with (first
      | (go_at_call 10; refine (HL.out _).mono ?_; rintro e w1 ⟨rfl, hb⟩; have HB := Aside0.mk (below_step (below_alloc (Below.refl _ w) _) hb); have BS := Aside0.mk ((hb.block w.heap.size (by simp)).trans (heap_alloc_new w _)); clear hb; have sa1 := blk_cell BS.out 0; have sb1 := blk_cell BS.out 1; have sc1 := blk_cell BS.out 2; have sd1 := blk_cell BS.out 3; have sl1 := blk_lt BS.out)
      | (go_at_call 26; refine (HS.out _).mono ?_; rintro e w2 ⟨rfl, hb⟩; have HB := Aside0.mk (below_step HB.out hb); have BS := Aside0.mk (blk_below BS.out hb); clear hb; have sa2 := blk_cell BS.out 0; have sb2 := blk_cell BS.out 1; have sc2 := blk_cell BS.out 2; have sd2 := blk_cell BS.out 3; have sl2 := blk_lt BS.out; have ne2 : w.heap.size ≠ w2.heap.size := by omega)
      | (go_at_call 20; refine (state_nil nm _).mono ?_; rintro e w3 ⟨rfl, hb⟩; have HB := Aside0.mk (below_step (below_alloc HB.out _) hb); have BN := Aside0.mk ((hb.block w2.heap.size (by simp)).trans (heap_alloc_new w2 _)); have BS := Aside0.mk (blk_below (blk_alloc BS.out _) hb); clear hb; have sa3 := blk_cell BS.out 0; have sb3 := blk_cell BS.out 1; have sc3 := blk_cell BS.out 2; have sd3 := blk_cell BS.out 3; have sl3 := blk_lt BS.out; have na3 := blk_cell BN.out 0; have nb3 := blk_cell BN.out 1; have nc3 := blk_cell BN.out 2; have nd3 := blk_cell BN.out 3; have nl3 := blk_lt BN.out)
      | (go_at_call 27; refine (HK.out _).mono ?_; rintro e w4 ⟨rfl, hb⟩; have HB := Aside0.mk (below_step HB.out hb); have BS := Aside0.mk (blk_below BS.out hb); have BN := Aside0.mk (blk_below BN.out hb); clear hb; have sa4 := blk_cell BS.out 0; have sb4 := blk_cell BS.out 1; have sc4 := blk_cell BS.out 2; have sd4 := blk_cell BS.out 3; have sl4 := blk_lt BS.out; have na4 := blk_cell BN.out 0; have nb4 := blk_cell BN.out 1; have nc4 := blk_cell BN.out 2; have nd4 := blk_cell BN.out 3; have nl4 := blk_lt BN.out)
      | (go_at_call 22; refine (due_nil n _).mono ?_; rintro e w5 ⟨rfl, hb⟩; have HB := Aside0.mk (below_step HB.out hb); have BS := Aside0.mk (blk_below BS.out hb); have BN := Aside0.mk (blk_below BN.out hb); clear hb; have sa5 := blk_cell BS.out 0; have sb5 := blk_cell BS.out 1; have sc5 := blk_cell BS.out 2; have sd5 := blk_cell BS.out 3; have sl5 := blk_lt BS.out; have na5 := blk_cell BN.out 0; have nb5 := blk_cell BN.out 1; have nc5 := blk_cell BN.out 2; have nd5 := blk_cell BN.out 3; have nl5 := blk_lt BN.out)
      | (go_at_call 32; refine (names_nil _).mono ?_; rintro e wq ⟨rfl, rfl⟩)
      | (go_at_call 30; refine (states_nil _).mono ?_; rintro e wq ⟨rfl, rfl⟩)
      | (go_at_call 15; refine (capacity_nil _).mono ?_; rintro e wq ⟨rfl, rfl⟩)
      | (go_at_call 21; refine (leaves_nil nm _).mono ?_; rintro e w7 ⟨rfl, hb⟩; have HB := Aside0.mk (below_step HB.out hb); have BS := Aside0.mk (blk_below BS.out hb); have BN := Aside0.mk (blk_below BN.out hb); clear hb; have sa7 := blk_cell BS.out 0; have sb7 := blk_cell BS.out 1; have sc7 := blk_cell BS.out 2; have sd7 := blk_cell BS.out 3; have sl7 := blk_lt BS.out; have na7 := blk_cell BN.out 0; have nb7 := blk_cell BN.out 1; have nc7 := blk_cell BN.out 2; have nd7 := blk_cell BN.out 3; have nl7 := blk_lt BN.out)
      | (go_at_call 17; refine (ahead_nil nm _).mono ?_; rintro e w8 ⟨rfl, hb⟩; have HB := Aside0.mk (below_step HB.out hb); clear hb))
    go_ret
    exact ⟨rfl, HB.out⟩
end Go.Proofs.Ytmlmiocomlehgaa.Nil
