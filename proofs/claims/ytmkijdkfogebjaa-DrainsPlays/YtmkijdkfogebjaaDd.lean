/-
  Contracts of slices.Clone and slices.Delete at the drains' rows. Conditions: none.
-/
import Derived.Test.YtmkijdkfogebjaaDc
import Derived.Deep.RegionLaw
import Derived.Lib.SliceRun
set_option linter.unusedVariables false
set_option linter.unusedSimpArgs false
namespace Go.Proofs.Ytmkijdkfogebjaa.Man
open Go.RowKit Go.Proofs.YtmkijdkfogebjaaW.PrintWords Go.Proofs.YtmkijdkfogebjaaW.PrintLast Go.Proofs.YtmkijdkfogebjaaW.PrintMore Go.Proofs.Ytmkijdkfogebjaa.PA Go.Proofs.Ytmkijdkfogebjaa.PB Go.Proofs.Ytmkijdkfogebjaa.PF Go.Proofs.Ytmkijdkfogebjaa.Hid

theorem info69 : (Try.prog.info? 69).map (fun i => (i.zero, i.size, i.bytes)) = some (some (.agg #[(.string ⟨#[]⟩), (.int .i64 0), (.bool false)]), 3, 32) := by kernel_rfl
theorem empty_row (w : World) : Kd.R k69 69 (w.alloc (.cells #[] 69)) w.heap.size (fun _ => True) (.slice (some ⟨w.heap.size, 0, none⟩) ([] : List S69).length 0) [] :=
  ⟨fun _ _ => trivial, [], World.ownsRow_lit (base := w.heap.size) (e := 69) (size := 3) w #[] 0 (Nat.le_refl _) (by decide) (by simp), Reps.none _ _⟩
set_option maxHeartbeats 1000000 in
theorem clone_nil (w : World) : Calls Try.prog 37 #[.slice none 0 0] w fun e w' => e = .returned (.slice none 0 0) ∧ w = w' := by
  have heq := fun (w : World) (a : Option Addr) (n c n' c' : Nat) => Lib.run_eql_slice_nil (P := Try.prog) w 64 69 a n c n' c' Try.underlying64
  go_enter Try.func37, Try.ntmps37
  go_wp2
  go_ret
  exact ⟨rfl, rfl⟩
set_option maxHeartbeats 1000000 in
theorem clone_some (b : Nat) (n : Nat) (xs : List S69) (w : World) (base : Nat) (hR : Kd.R k69 69 w base (fun _ => True) (.slice (some ⟨b, 0, none⟩) xs.length n) xs) (hl : xs.length ≤ 1000) : Calls Try.prog 37 #[.slice (some ⟨b, 0, none⟩) xs.length n] w fun e w' => ∃ v', e = .returned v' ∧ Kd.R k69 69 w' w.heap.size (fun _ => True) v' xs ∧ Below w.heap.size w w' := by
  have HC := Aside0.mk (Kd.C_below (Kd.R_reads' hR).2.2 (below_alloc (Below.refl _ w) (.cells #[] 69)))
  have HO := Aside0.mk (empty_row w)
  clear hR
  have heq := fun (w : World) (a : Option Addr) (n c n' c' : Nat) => Lib.run_eql_slice_nil (P := Try.prog) w 64 69 a n c n' c' Try.underlying64
  go_enter Try.func37, Try.ntmps37
  go_wp2_with (at_builtin; refine Kd.R_append_rows k69 (w0 := w) w.heap.size rfl (.tmp 5) (.tmp 6) 64 69 (.agg #[(.string ⟨#[]⟩), (.int .i64 0), (.bool false)]) 32 rfl Try.underlying64 info69 rfl (by decide) (by omega) _ [] xs _ _ _ (fun _ => True) (fun _ => False) rfl rfl ?aO ?aR (fun _ _ h => h) (fun _ h => h.elim) ?aF ?aB ?aS ?aL ?_; (case aO => exact HO.out); (case aR => exact HC.out); (case aF => exact fun _ _ => trivial); (case aB => exact below_alloc (Below.refl _ w) _); (case aS => simp); (case aL => simp; omega); intro v1 w1 ho hb hg hat; simp only [List.nil_append] at ho)
  go_ret
  exact ⟨_, rfl, ho, hb⟩
/-! #### Delete: one element of a row whose block is known -/
theorem zeroCells_one (z : Array Value) : Builtin.zeroCells z 1 = z := by
  apply Array.ext
  · simp [Builtin.zeroCells]
  · intro i h1 h2
    simp [Builtin.zeroCells, Nat.mod_eq_of_lt h2, h2]
theorem run_clear_one {P : Program} (w : World) (t e ty : TypeId) (z : Value) (ht : P.underlying t = some (.slice e)) (hv : ∀ w, (zeroValue e).run P w = .ok z w) (h1 : ∀ v ∈ z.cells.toList, v.oneCell' = true) (b o c : Nat)
    (hc : ∀ j, j < z.cells.size → (w.cell? ⟨b, o + j, none⟩).isSome = true) (hf : ∀ j, j < z.cells.size → w.frozen? ⟨b, o + j, none⟩ = false) :
    (Builtin.clear_ #[t] ty #[.slice (some ⟨b, o, none⟩) 1 c]).run P w = .ok (.tuple #[]) (w.setCells b o z.cells.toList) := by
  have hst := run_storeCells_cells (P := P) b o z.cells.toList 0 w (by simpa using hc) (by simpa using hf) h1
  simp only [Nat.add_zero] at hst
  simp [Builtin.clear_, run_underlying ht, hv, zeroCells_one, hst]

set_option maxHeartbeats 2000000 in
theorem delete_R (b cap i j : Nat) (xs : List S69) (w : World) (base : Nat) (hR : Kd.R k69 69 w base (fun _ => True) (.slice (some ⟨b, 0, none⟩) xs.length cap) xs) (hij : j = i + 1) (hi : i < xs.length) (hm : xs.length ≤ 1000) (hbase : base ≤ w.heap.size) :
    Calls Try.prog 36 #[.slice (some ⟨b, 0, none⟩) xs.length cap, .int .i64 i, .int .i64 j] w fun e w' => e = .returned (.slice (some ⟨b, 0, none⟩) (xs.length - 1) cap) ∧
      Kd.R k69 69 w' base (fun _ => True) (.slice (some ⟨b, 0, none⟩) (xs.length - 1) cap) (xs.eraseIdx i) ∧ w.grownBy w' (some b) := by
  obtain ⟨n, hnn⟩ : ∃ n, n = xs.length := ⟨_, rfl⟩
  rw [← hnn] at hR hi hm ⊢
  have hn : n ≤ cap := (Kd.R_reads' hR).2.1
  obtain ⟨cur, hb, hc, hm2⟩ : ∃ cur : Array Value, w.heap[b]? = some (.cells cur 69 (0, 0)) ∧ cur.size = cap * 3 ∧ cap ≤ maxLen := by
    obtain ⟨_, inner, hown, _⟩ := hR
    rcases hown.2 with ⟨hv, _⟩ | ⟨g', cap', cur, hv, hb, hh, _, hcm, hcs, htake⟩
    · cases hv
    injection hv with ha _ hc
    injection ha with ha
    injection ha with hg
    subst hg; subst hc
    exact ⟨cur, hh, hcs, hcm⟩
  unfold maxLen at hm2
  have hel : (xs.eraseIdx i).length = n - 1 := by rw [List.length_eraseIdx_of_lt (by omega), hnn]
  obtain ⟨A, hA⟩ : ∃ A : Addr, (if cap = j then some (⟨b, 0, none⟩ : Addr) else some ⟨b, j * 3, none⟩) = some A := by
    by_cases h : cap = j
    · exact ⟨⟨b, 0, none⟩, by simp [h]⟩
    · exact ⟨⟨b, j * 3, none⟩, by simp [h]⟩
  have HA : Aside0 (some A = if cap = i + 1 then some (⟨b, 0, none⟩ : Addr) else (some (⟨b, 0, none⟩ : Addr)).map (·.add ((i + 1) * k69.sz))) := ⟨by
    rw [← hA, hij]
    by_cases h : cap = i + 1
    · simp [h]
    · rw [if_neg h, if_neg h]
      simp [Addr.add]
      rfl⟩
  have e1 : n - (i + (n - j)) = 1 := by omega
  have e3 : n - (n - 1) = 1 := by omega
  have HO : Aside0 (Kd.R k69 69 w.drew base (fun _ => True) (.slice (some ⟨b, 0, none⟩) n cap) xs) := ⟨Kd.R_drew hR⟩
  have HCL := Aside0.mk (fun (W1 : World) (h : Kd.R k69 69 W1 base (fun _ => True) (.slice (some ⟨b, 0, none⟩) (n - 1) cap) (xs.eraseIdx i)) (cur1 : Array Value) (hb1 : W1.heap[b]? = some (.cells cur1 69 (0, 0))) (hs1 : cur1.size = cap * 3) =>
    And.intro (fun ty => (show (Builtin.clear_ #[64] ty #[.slice (some ⟨b, (n - 1) * 3, none⟩) (n - (n - 1)) (cap - (n - 1))]).run Try.prog W1 = .ok (.tuple #[]) (W1.setCells b ((n - 1) * 3) [.string ⟨#[]⟩, .int .i64 0, .bool false]) from by
      rw [e3]
      exact run_clear_one W1 64 69 ty (.agg #[.string ⟨#[]⟩, .int .i64 0, .bool false]) Try.underlying64 (fun w => by kernel_rfl) (by decide) b ((n - 1) * 3) _ (fun j hj => by
        have hj2 : j < 3 := hj
        rw [blk_cell hb1]; simp [hs1]; omega) (fun j hj => blk_frozen hb1 _)))
      (Ko.R_tail h [.string ⟨#[]⟩, .int .i64 0, .bool false] (o := (n - 1) * 3) (Nat.le_refl _) (by show (n - 1) * 3 + 3 ≤ cap * 3; omega)))
  have HSZ := Aside0.mk (fun (W1 : World) (h : Kd.R k69 69 W1 base (fun _ => True) (.slice (some ⟨b, 0, none⟩) (n - 1) cap) (xs.eraseIdx i)) => (show ∃ cur1 : Array Value, W1.heap[b]? = some (.cells cur1 69 (0, 0)) ∧ cur1.size = cap * 3 by
    obtain ⟨_, inner, hown, _⟩ := h
    rcases hown.2 with ⟨hv, _⟩ | ⟨g', cap', cur, hv, hb, hh, _, hcm, hcs, htake⟩
    · cases hv
    injection hv with ha _ hc
    injection ha with ha
    injection ha with hg
    subst hg; subst hc
    exact ⟨cur, hh, hcs⟩))
  have e2 : i + (n - j) = n - 1 := by omega
  have hic : i ≤ cap := by omega
  have hjc : j ≤ cap := by omega
  have hjn : j ≤ n := by omega
  have hij1 : i < j := by omega
  have HE2 := Aside0.mk e2
  have HIJ := Aside0.mk hij
  have HN := Aside0.mk hnn
  have h1n : 1 ≤ n := by omega
  clear hc hb hR hij e1 e2 hel hnn e3
  go_enter Try.func36, Try.ntmps36
  go_wp2_with fail
  go_region_law (refine Kd.R_delete_step k69 (w0 := w.drew) base rfl (.tmp 22) (.tmp 25) 64 69 rfl Try.underlying64 (by kernel_rfl) (g := b) (n := n) (c := cap) (k := i) (m := n - j) (c2 := cap - j) (A := some A) (xs := xs) (ok := fun _ => True) (by simp [Act.eval, Act.put]) (by simp [Act.eval, Act.put, hA]) HA.out (by rw [HIJ.out]) HO.out hi (Below.refl _ _) hbase ?_; intro w1 hR1 hb1 hg1)
  obtain ⟨cur1, hb2, hs2⟩ := HSZ.out w1 hR1
  obtain ⟨hcl, hR2, hg2⟩ := HCL.out w1 hR1 cur1 hb2 hs2
  have HR2 := Aside0.mk hR2
  have HG := Aside0.mk (Ko.grown_trans hg1 hg2)
  clear hR2 hR1 hb1 hg1 hg2 hb2 hs2
  go_wp2
  go_ret
  exact ⟨rfl, HR2.out, ⟨HG.out.os, HG.out.tape, HG.out.output, HG.out.size, HG.out.block⟩⟩
end Go.Proofs.Ytmkijdkfogebjaa.Man
