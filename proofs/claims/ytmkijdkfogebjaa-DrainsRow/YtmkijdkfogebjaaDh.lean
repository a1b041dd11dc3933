/-
  Contract of the drains' First, at the two closures that the laws hand to it. Conditions: none.
-/
import Derived.Test.YtmkijdkfogebjaaDg
set_option linter.unusedVariables false
set_option linter.unusedSimpArgs false
namespace Go.Proofs.Ytmkijdkfogebjaa.Man
open Go.RowKit Go.Proofs.YtmkijdkfogebjaaW.PrintWords Go.Proofs.YtmkijdkfogebjaaW.PrintLast Go.Proofs.YtmkijdkfogebjaaW.PrintMore Go.Proofs.Ytmkijdkfogebjaa.PA Go.Proofs.Ytmkijdkfogebjaa.PB Go.Proofs.Ytmkijdkfogebjaa.PC Go.Proofs.Ytmkijdkfogebjaa.PF Go.Proofs.Ytmkijdkfogebjaa.Hid Go.Proofs.Ytmkijdkfogebjaa.Na
variable {w0 w : World} {g : Nat} {s : DS}
/-- The first one that waits. -/
def headOf : List S69 → Option S69
  | [] => none
  | x :: l => if x.f2 = true then headOf l else some x
def headName (row : List S69) (m : Bool) : ByteArray := match headOf row with
  | some x => if m = true then x.f0 else ⟨#[]⟩
  | none => ⟨#[]⟩
/-- The worlds on the way through First: the closure is called once, if one waits. -/
def Way (Mid : World → World → Prop) (row : List S69) (w W2 : World) : Prop := ∃ W1, Below w.heap.size w W1 ∧ ((∃ x, headOf row = some x) → Mid W1 W2) ∧ (headOf row = none → W1 = W2)
set_option maxHeartbeats 4000000 in
theorem first45_raw (B0  : Nat) (m : Bool) (Mid : World → World → Prop) (hI : IsS66 w0 w g s) (hB : Below w0.heap.size w0 w) (hl : s.row.length ≤ 1000)
    (HM : ∀ x, headOf s.row = some x → ∀ W, Below w.heap.size w W → Calls Try.prog 45 #[.string x.f0, .pointer (some ⟨B0, 0, none⟩)] W fun e W' => e = .returned (.bool m) ∧ Mid W W')
    (HK : ∀ W W', Mid W W' → (∀ k, Hidn TD W k → W'.heap[k]? = W.heap[k]?) ∧ (Below w0.heap.size w0 W → Below w0.heap.size w0 W')) :
    Calls Try.prog 25 #[.pointer (some ⟨g, 0, none⟩), .func (.func 45) #[] #[.pointer (some ⟨B0, 0, none⟩)]] w fun e w' =>
      e = .returned (.tuple #[.string (headName s.row m), .bool (decide (0 ≤ placeOf s.row (headName s.row m) 0))]) ∧ ∃ W2, Way Mid s.row w W2 ∧ IsS66 w0 w' g ⟨endRow s.row (headName s.row m)⟩ ∧ Below w0.heap.size w0 w' ∧ KeptH TD W2 w' := by
  have HE := Aside0.mk (fun (nm : ByteArray) W (h : IsS66 w0 W g s) (hb : Below w0.heap.size w0 W) => drains_Drains_End.calls g s nm _ ⟨endRow s.row nm⟩ w0 W h hb (if_pos hl))
  have HI := Aside0.mk hI
  have HB0 := Aside0.mk hB
  have HMM := Aside0.mk HM
  have HKK := Aside0.mk HK
  obtain ⟨A, n, hbk, hn, hC, hR, hg⟩ := hI.open_
  have h1 : w.cell? ⟨g, 0, none⟩ = some (.slice A s.row.length n) := (blk_cell hbk 0).trans rfl
  have hgl : g < w.heap.size := blk_lt hbk
  have HC := Aside0.mk hC
  have hlen : s.row.length ≤ 9223372036854775807 := hC.2.1
  have HH : Aside0 (headOf (s.row.drop 0) = headOf s.row) := ⟨rfl⟩
  clear hI hB HM HK hbk hn hC hR
  go_enter Try.func25, Try.ntmps25
  go_wp2
  go_step3
  go_wp2
  go_step3
  go_wp2
  go_loopw [6, 17] (fun v6 v17 wr => ∃ k : Nat, k ≤ s.row.length ∧ v6 = .string ⟨#[]⟩ ∧ v17 = .int .i64 k ∧ Aside0 (headOf (s.row.drop k) = headOf s.row) ∧ Aside0 (Below w.heap.size w wr)) (fun _ v17 _ => s.row.length - (intOf v17).toNat)
  case atStart => exact ⟨0, Nat.zero_le _, rfl, rfl, HH, ⟨Below.refl _ _⟩⟩
  case round =>
    obtain ⟨k, hk, rfl, rfl, HF, HB⟩ := hrel
    by_cases hlt : k < s.row.length
    · obtain ⟨ad, rfl, hx0, hx1, hx2⟩ := at_T69 (Kd.C_below HC.out HB.out) (k : Int) (by omega) (by omega)
      obtain ⟨x, hxe⟩ : ∃ x : S69, x = rd_T69 s.row (k : Int) := ⟨_, rfl⟩
      rw [← hxe, Int.toNat_natCast] at hx0 hx1 hx2
      have hxg : s.row[k] = x := by rw [hxe]; simp [rd_T69, List.getD, hlt]
      have hF := HF.out
      rw [List.drop_eq_getElem_cons hlt, hxg, headOf] at hF
      have h0k : (0 : Int) ≤ (k : Int) := by omega
      have hkl : (k : Int) < (s.row.length : Int) := by omega
      have HBA := Aside0.mk (below_alloc HB.out (.cells #[.string x.f0, .int .i64 x.f1, .bool x.f2] 69))
      clear hxe hxg HF
      cases hu : x.f2 with
      | true =>
        rw [if_pos hu] at hF
        have HF := Aside0.mk hF
        rw [hu] at hx2 HBA
        clear hF
        go_wp2
        go_roundw
        case measure => simp [intOf]; omega
        case rel => exact ⟨k + 1, by omega, rfl, by rw [show ((k : Int) + 1) = ((k + 1 : Nat) : Int) by omega], HF, HBA⟩
      | false =>
        rw [if_neg (by rw [hu]; decide)] at hF
        rw [hu] at hx2 HBA
        have HF := Aside0.mk hF.symm
        clear hF
        cases m with
        | true =>
          have HN : Aside0 (headName s.row true = x.f0) := ⟨by unfold headName; rw [HF.out]; rfl⟩
          go_wp2_with (first
            | (go_at_call 45; refine (HMM.out x HF.out _ HBA.out).mono ?_; rintro e w2 ⟨rfl, hm2⟩; have HM2 := Aside0.mk hm2; have hk2 := HKK.out _ _ hm2; have HK2 := Aside0.mk (And.intro ((HI.out.below HBA.out).step hk2.1) (hk2.2 (HB0.out.trans (HBA.out.mono HB0.out.size)))); have hc2 : w2.cell? ⟨wr.heap.size, 0, none⟩ = some (.string x.f0) := (World.cell?_of_block (hk2.1 wr.heap.size (.cells (heap_alloc_new wr _) (by decide)))).trans (by simp [go_sem]); clear hm2 hk2)
            | (go_at_call 17; refine (HE.out x.f0 _ HK2.out.1 HK2.out.2).mono ?_; rintro e w3 ⟨rfl, hi3⟩))
          rw [Exit.noGoto_ret]
          go_ret2
          rw [HN.out]
          exact ⟨rfl, _, ⟨_, HBA.out, fun _ => HM2.out, fun h => by rw [HF.out] at h; cases h⟩, hi3⟩
        | false =>
          have HN : Aside0 (headName s.row false = ⟨#[]⟩) := ⟨by unfold headName; rw [HF.out]; rfl⟩
          go_wp2_with (first
            | (go_at_call 45; refine (HMM.out x HF.out _ HBA.out).mono ?_; rintro e w2 ⟨rfl, hm2⟩; have HM2 := Aside0.mk hm2; have hk2 := HKK.out _ _ hm2; have HK2 := Aside0.mk (And.intro ((HI.out.below HBA.out).step hk2.1) (hk2.2 (HB0.out.trans (HBA.out.mono HB0.out.size)))); have hc2 : w2.cell? ⟨wr.heap.size, 0, none⟩ = some (.string x.f0) := (World.cell?_of_block (hk2.1 wr.heap.size (.cells (heap_alloc_new wr _) (by decide)))).trans (by simp [go_sem]); clear hm2 hk2)
            | (go_at_call 17; refine (HE.out ⟨#[]⟩ _ HK2.out.1 HK2.out.2).mono ?_; rintro e w3 ⟨rfl, hi3⟩))
          rw [Exit.noGoto_ret]
          go_ret2
          rw [HN.out]
          exact ⟨rfl, _, ⟨_, HBA.out, fun _ => HM2.out, fun h => by rw [HF.out] at h; cases h⟩, hi3⟩
    · have hke : k = s.row.length := by omega
      subst hke
      have hF := HF.out
      rw [List.drop_length] at hF
      have HF2 : Aside0 (headOf s.row = none) := ⟨hF.symm⟩
      have HN : Aside0 (headName s.row m = ⟨#[]⟩) := ⟨by unfold headName; rw [HF2.out]⟩
      clear hF HF
      go_wp2_with (go_at_call 17; refine (HE.out ⟨#[]⟩ _ (HI.out.below HB.out) (HB0.out.trans (HB.out.mono HB0.out.size))).mono ?_; rintro e w3 ⟨rfl, hi3⟩)
      rw [Exit.noGoto_ret]
      go_ret2
      rw [HN.out]
      exact ⟨rfl, _, ⟨_, HB.out, (fun h => absurd h (by rw [HF2.out]; rintro ⟨_, h⟩; cases h)), (fun _ => rfl)⟩, hi3⟩
set_option maxHeartbeats 4000000 in
theorem first31_raw (B0 B1 B2 B3 : Nat) (m : Bool) (Mid : World → World → Prop) (hI : IsS66 w0 w g s) (hB : Below w0.heap.size w0 w) (hl : s.row.length ≤ 1000)
    (HM : ∀ x, headOf s.row = some x → ∀ W, Below w.heap.size w W → Calls Try.prog 31 #[.string x.f0, .pointer (some ⟨B0, 0, none⟩), .pointer (some ⟨B1, 0, none⟩), .pointer (some ⟨B2, 0, none⟩), .pointer (some ⟨B3, 0, none⟩)] W fun e W' => e = .returned (.bool m) ∧ Mid W W')
    (HK : ∀ W W', Mid W W' → (∀ k, Hidn TD W k → W'.heap[k]? = W.heap[k]?) ∧ (Below w0.heap.size w0 W → Below w0.heap.size w0 W')) :
    Calls Try.prog 25 #[.pointer (some ⟨g, 0, none⟩), .func (.func 31) #[] #[.pointer (some ⟨B0, 0, none⟩), .pointer (some ⟨B1, 0, none⟩), .pointer (some ⟨B2, 0, none⟩), .pointer (some ⟨B3, 0, none⟩)]] w fun e w' =>
      e = .returned (.tuple #[.string (headName s.row m), .bool (decide (0 ≤ placeOf s.row (headName s.row m) 0))]) ∧ ∃ W2, Way Mid s.row w W2 ∧ IsS66 w0 w' g ⟨endRow s.row (headName s.row m)⟩ ∧ Below w0.heap.size w0 w' ∧ KeptH TD W2 w' := by
  have HE := Aside0.mk (fun (nm : ByteArray) W (h : IsS66 w0 W g s) (hb : Below w0.heap.size w0 W) => drains_Drains_End.calls g s nm _ ⟨endRow s.row nm⟩ w0 W h hb (if_pos hl))
  have HI := Aside0.mk hI
  have HB0 := Aside0.mk hB
  have HMM := Aside0.mk HM
  have HKK := Aside0.mk HK
  obtain ⟨A, n, hbk, hn, hC, hR, hg⟩ := hI.open_
  have h1 : w.cell? ⟨g, 0, none⟩ = some (.slice A s.row.length n) := (blk_cell hbk 0).trans rfl
  have hgl : g < w.heap.size := blk_lt hbk
  have HC := Aside0.mk hC
  have hlen : s.row.length ≤ 9223372036854775807 := hC.2.1
  have HH : Aside0 (headOf (s.row.drop 0) = headOf s.row) := ⟨rfl⟩
  clear hI hB HM HK hbk hn hC hR
  go_enter Try.func25, Try.ntmps25
  go_wp2
  go_step3
  go_wp2
  go_step3
  go_wp2
  go_loopw [6, 17] (fun v6 v17 wr => ∃ k : Nat, k ≤ s.row.length ∧ v6 = .string ⟨#[]⟩ ∧ v17 = .int .i64 k ∧ Aside0 (headOf (s.row.drop k) = headOf s.row) ∧ Aside0 (Below w.heap.size w wr)) (fun _ v17 _ => s.row.length - (intOf v17).toNat)
  case atStart => exact ⟨0, Nat.zero_le _, rfl, rfl, HH, ⟨Below.refl _ _⟩⟩
  case round =>
    obtain ⟨k, hk, rfl, rfl, HF, HB⟩ := hrel
    by_cases hlt : k < s.row.length
    · obtain ⟨ad, rfl, hx0, hx1, hx2⟩ := at_T69 (Kd.C_below HC.out HB.out) (k : Int) (by omega) (by omega)
      obtain ⟨x, hxe⟩ : ∃ x : S69, x = rd_T69 s.row (k : Int) := ⟨_, rfl⟩
      rw [← hxe, Int.toNat_natCast] at hx0 hx1 hx2
      have hxg : s.row[k] = x := by rw [hxe]; simp [rd_T69, List.getD, hlt]
      have hF := HF.out
      rw [List.drop_eq_getElem_cons hlt, hxg, headOf] at hF
      have h0k : (0 : Int) ≤ (k : Int) := by omega
      have hkl : (k : Int) < (s.row.length : Int) := by omega
      have HBA := Aside0.mk (below_alloc HB.out (.cells #[.string x.f0, .int .i64 x.f1, .bool x.f2] 69))
      clear hxe hxg HF
      cases hu : x.f2 with
      | true =>
        rw [if_pos hu] at hF
        have HF := Aside0.mk hF
        rw [hu] at hx2 HBA
        clear hF
        go_wp2
        go_roundw
        case measure => simp [intOf]; omega
        case rel => exact ⟨k + 1, by omega, rfl, by rw [show ((k : Int) + 1) = ((k + 1 : Nat) : Int) by omega], HF, HBA⟩
      | false =>
        rw [if_neg (by rw [hu]; decide)] at hF
        rw [hu] at hx2 HBA
        have HF := Aside0.mk hF.symm
        clear hF
        cases m with
        | true =>
          have HN : Aside0 (headName s.row true = x.f0) := ⟨by unfold headName; rw [HF.out]; rfl⟩
          go_wp2_with (first
            | (go_at_call 31; refine (HMM.out x HF.out _ HBA.out).mono ?_; rintro e w2 ⟨rfl, hm2⟩; have HM2 := Aside0.mk hm2; have hk2 := HKK.out _ _ hm2; have HK2 := Aside0.mk (And.intro ((HI.out.below HBA.out).step hk2.1) (hk2.2 (HB0.out.trans (HBA.out.mono HB0.out.size)))); have hc2 : w2.cell? ⟨wr.heap.size, 0, none⟩ = some (.string x.f0) := (World.cell?_of_block (hk2.1 wr.heap.size (.cells (heap_alloc_new wr _) (by decide)))).trans (by simp [go_sem]); clear hm2 hk2)
            | (go_at_call 17; refine (HE.out x.f0 _ HK2.out.1 HK2.out.2).mono ?_; rintro e w3 ⟨rfl, hi3⟩))
          rw [Exit.noGoto_ret]
          go_ret2
          rw [HN.out]
          exact ⟨rfl, _, ⟨_, HBA.out, fun _ => HM2.out, fun h => by rw [HF.out] at h; cases h⟩, hi3⟩
        | false =>
          have HN : Aside0 (headName s.row false = ⟨#[]⟩) := ⟨by unfold headName; rw [HF.out]; rfl⟩
          go_wp2_with (first
            | (go_at_call 31; refine (HMM.out x HF.out _ HBA.out).mono ?_; rintro e w2 ⟨rfl, hm2⟩; have HM2 := Aside0.mk hm2; have hk2 := HKK.out _ _ hm2; have HK2 := Aside0.mk (And.intro ((HI.out.below HBA.out).step hk2.1) (hk2.2 (HB0.out.trans (HBA.out.mono HB0.out.size)))); have hc2 : w2.cell? ⟨wr.heap.size, 0, none⟩ = some (.string x.f0) := (World.cell?_of_block (hk2.1 wr.heap.size (.cells (heap_alloc_new wr _) (by decide)))).trans (by simp [go_sem]); clear hm2 hk2)
            | (go_at_call 17; refine (HE.out ⟨#[]⟩ _ HK2.out.1 HK2.out.2).mono ?_; rintro e w3 ⟨rfl, hi3⟩))
          rw [Exit.noGoto_ret]
          go_ret2
          rw [HN.out]
          exact ⟨rfl, _, ⟨_, HBA.out, fun _ => HM2.out, fun h => by rw [HF.out] at h; cases h⟩, hi3⟩
    · have hke : k = s.row.length := by omega
      subst hke
      have hF := HF.out
      rw [List.drop_length] at hF
      have HF2 : Aside0 (headOf s.row = none) := ⟨hF.symm⟩
      have HN : Aside0 (headName s.row m = ⟨#[]⟩) := ⟨by unfold headName; rw [HF2.out]⟩
      clear hF HF
      go_wp2_with (go_at_call 17; refine (HE.out ⟨#[]⟩ _ (HI.out.below HB.out) (HB0.out.trans (HB.out.mono HB0.out.size))).mono ?_; rintro e w3 ⟨rfl, hi3⟩)
      rw [Exit.noGoto_ret]
      go_ret2
      rw [HN.out]
      exact ⟨rfl, _, ⟨_, HB.out, (fun h => absurd h (by rw [HF2.out]; rintro ⟨_, h⟩; cases h)), (fun _ => rfl)⟩, hi3⟩
end Go.Proofs.Ytmkijdkfogebjaa.Man
