/-
  Several texts in one (Dh, Ea, PD, OnA, PlA, PlB, PlC, RfA, RfB, RfC, RgA, RgB, RgC, RgD, PwA): contracts and plain facts. Conditions: none.
-/
import Derived.Test.YtmkijdkfogebjaaDg
import Derived.Test.YtmkijdkfogebjaaPAx2
import Derived.Test.YtmkijdkfogebjaaPRx
import Derived.Test.YtmkijdkfogebjaaNil
set_option linter.unusedVariables false
set_option linter.unusedSimpArgs false
namespace Go.Proofs.Ytmkijdkfogebjaa.Man
open Go.RowKit Go.Proofs.YtmkijdkfogebjaaW.PrintWords Go.Proofs.YtmkijdkfogebjaaW.PrintLast Go.Proofs.YtmkijdkfogebjaaW.PrintMore Go.Proofs.Ytmkijdkfogebjaa.PA Go.Proofs.Ytmkijdkfogebjaa.PB Go.Proofs.Ytmkijdkfogebjaa.PC Go.Proofs.Ytmkijdkfogebjaa.PF Go.Proofs.Ytmkijdkfogebjaa.Hid Go.Proofs.Ytmkijdkfogebjaa.Na
variable {w0 w : World} {g : Nat} {s : DS}
/-- The first one that waits. -/
def headOf : List S69 → Option S69
  | [] => none
  | x :: l => if x.f2 = true then headOf l else some x
def headName (row : List S69) (m : Bool) : ByteArray := match headOf row with
  | some x => if m = true then x.f0 else ⟨#[]⟩
  | none => ⟨#[]⟩
/-- The worlds on the way through First: the closure is called once, if one waits. -/
def Way (Mid : World → World → Prop) (row : List S69) (w W2 : World) : Prop := ∃ W1, Below w.heap.size w W1 ∧ ((∃ x, headOf row = some x) → Mid W1 W2) ∧ (headOf row = none → W1 = W2)
set_option maxHeartbeats 4000000 in
theorem first45_raw (B0  : Nat) (m : Bool) (Mid : World → World → Prop) (hI : IsS66 w0 w g s) (hB : Below w0.heap.size w0 w) (hl : s.row.length ≤ 1000)
    (HM : ∀ x, headOf s.row = some x → ∀ W, Below w.heap.size w W → Calls Try.prog 45 #[.string x.f0, .pointer (some ⟨B0, 0, none⟩)] W fun e W' => e = .returned (.bool m) ∧ Mid W W')
    (HK : ∀ W W', Mid W W' → (∀ k, Hidn TD W k → W'.heap[k]? = W.heap[k]?) ∧ (Below w0.heap.size w0 W → Below w0.heap.size w0 W')) :
    Calls Try.prog 25 #[.pointer (some ⟨g, 0, none⟩), .func (.func 45) #[] #[.pointer (some ⟨B0, 0, none⟩)]] w fun e w' =>
      e = .returned (.tuple #[.string (headName s.row m), .bool (decide (0 ≤ placeOf s.row (headName s.row m) 0))]) ∧ ∃ W2, Way Mid s.row w W2 ∧ IsS66 w0 w' g ⟨endRow s.row (headName s.row m)⟩ ∧ Below w0.heap.size w0 w' ∧ KeptH TD W2 w' := by
  have HE := Aside0.mk (fun (nm : ByteArray) W (h : IsS66 w0 W g s) (hb : Below w0.heap.size w0 W) => drains_Drains_End.calls g s nm _ ⟨endRow s.row nm⟩ w0 W h hb (if_pos hl))
  have HI := Aside0.mk hI
  have HB0 := Aside0.mk hB
  have HMM := Aside0.mk HM
  have HKK := Aside0.mk HK
  obtain ⟨A, n, hbk, hn, hC, hR, hg⟩ := hI.open_
  have h1 : w.cell? ⟨g, 0, none⟩ = some (.slice A s.row.length n) := (blk_cell hbk 0).trans rfl
  have hgl : g < w.heap.size := blk_lt hbk
  have HC := Aside0.mk hC
  have hlen : s.row.length ≤ 9223372036854775807 := hC.2.1
  have HH : Aside0 (headOf (s.row.drop 0) = headOf s.row) := ⟨rfl⟩
  clear hI hB HM HK hbk hn hC hR
  go_enter Try.func25, Try.ntmps25
  go_wp2
  go_step3
  go_wp2
  go_step3
  go_wp2
  go_loopw [6, 17] (fun v6 v17 wr => ∃ k : Nat, k ≤ s.row.length ∧ v6 = .string ⟨#[]⟩ ∧ v17 = .int .i64 k ∧ Aside0 (headOf (s.row.drop k) = headOf s.row) ∧ Aside0 (Below w.heap.size w wr)) (fun _ v17 _ => s.row.length - (intOf v17).toNat)
  case atStart => exact ⟨0, Nat.zero_le _, rfl, rfl, HH, ⟨Below.refl _ _⟩⟩
  case round =>
    obtain ⟨k, hk, rfl, rfl, HF, HB⟩ := hrel
    by_cases hlt : k < s.row.length
    · obtain ⟨ad, rfl, hx0, hx1, hx2⟩ := at_T69 (Kd.C_below HC.out HB.out) (k : Int) (by omega) (by omega)
      obtain ⟨x, hxe⟩ : ∃ x : S69, x = rd_T69 s.row (k : Int) := ⟨_, rfl⟩
      rw [← hxe, Int.toNat_natCast] at hx0 hx1 hx2
      have hxg : s.row[k] = x := by rw [hxe]; simp [rd_T69, List.getD, hlt]
      have hF := HF.out
      rw [List.drop_eq_getElem_cons hlt, hxg, headOf] at hF
      have h0k : (0 : Int) ≤ (k : Int) := by omega
      have hkl : (k : Int) < (s.row.length : Int) := by omega
      have HBA := Aside0.mk (below_alloc HB.out (.cells #[.string x.f0, .int .i64 x.f1, .bool x.f2] 69))
      clear hxe hxg HF
      cases hu : x.f2 with
      | true =>
        rw [if_pos hu] at hF
        have HF := Aside0.mk hF
        rw [hu] at hx2 HBA
        clear hF
        go_wp2
        go_roundw
        case measure => simp [intOf]; omega
        case rel => exact ⟨k + 1, by omega, rfl, by rw [show ((k : Int) + 1) = ((k + 1 : Nat) : Int) by omega], HF, HBA⟩
      | false =>
        rw [if_neg (by rw [hu]; decide)] at hF
        rw [hu] at hx2 HBA
        have HF := Aside0.mk hF.symm
        clear hF
        cases m with
        | true =>
          have HN : Aside0 (headName s.row true = x.f0) := ⟨by unfold headName; rw [HF.out]; rfl⟩
          go_wp2_with (first
            | (go_at_call 45; refine (HMM.out x HF.out _ HBA.out).mono ?_; rintro e w2 ⟨rfl, hm2⟩; have HM2 := Aside0.mk hm2; have hk2 := HKK.out _ _ hm2; have HK2 := Aside0.mk (And.intro ((HI.out.below HBA.out).step hk2.1) (hk2.2 (HB0.out.trans (HBA.out.mono HB0.out.size)))); have hc2 : w2.cell? ⟨wr.heap.size, 0, none⟩ = some (.string x.f0) := (World.cell?_of_block (hk2.1 wr.heap.size (.cells (heap_alloc_new wr _) (by decide)))).trans (by simp [go_sem]); clear hm2 hk2)
            | (go_at_call 17; refine (HE.out x.f0 _ HK2.out.1 HK2.out.2).mono ?_; rintro e w3 ⟨rfl, hi3⟩))
          rw [Exit.noGoto_ret]
          go_ret2
          rw [HN.out]
          exact ⟨rfl, _, ⟨_, HBA.out, fun _ => HM2.out, fun h => by rw [HF.out] at h; cases h⟩, hi3⟩
        | false =>
          have HN : Aside0 (headName s.row false = ⟨#[]⟩) := ⟨by unfold headName; rw [HF.out]; rfl⟩
          go_wp2_with (first
            | (go_at_call 45; refine (HMM.out x HF.out _ HBA.out).mono ?_; rintro e w2 ⟨rfl, hm2⟩; have HM2 := Aside0.mk hm2; have hk2 := HKK.out _ _ hm2; have HK2 := Aside0.mk (And.intro ((HI.out.below HBA.out).step hk2.1) (hk2.2 (HB0.out.trans (HBA.out.mono HB0.out.size)))); have hc2 : w2.cell? ⟨wr.heap.size, 0, none⟩ = some (.string x.f0) := (World.cell?_of_block (hk2.1 wr.heap.size (.cells (heap_alloc_new wr _) (by decide)))).trans (by simp [go_sem]); clear hm2 hk2)
            | (go_at_call 17; refine (HE.out ⟨#[]⟩ _ HK2.out.1 HK2.out.2).mono ?_; rintro e w3 ⟨rfl, hi3⟩))
          rw [Exit.noGoto_ret]
          go_ret2
          rw [HN.out]
          exact ⟨rfl, _, ⟨_, HBA.out, fun _ => HM2.out, fun h => by rw [HF.out] at h; cases h⟩, hi3⟩
    · have hke : k = s.row.length := by omega
      subst hke
      have hF := HF.out
      rw [List.drop_length] at hF
      have HF2 : Aside0 (headOf s.row = none) := ⟨hF.symm⟩
      have HN : Aside0 (headName s.row m = ⟨#[]⟩) := ⟨by unfold headName; rw [HF2.out]⟩
      clear hF HF
      go_wp2_with (go_at_call 17; refine (HE.out ⟨#[]⟩ _ (HI.out.below HB.out) (HB0.out.trans (HB.out.mono HB0.out.size))).mono ?_; rintro e w3 ⟨rfl, hi3⟩)
      rw [Exit.noGoto_ret]
      go_ret2
      rw [HN.out]
      exact ⟨rfl, _, ⟨_, HB.out, (fun h => absurd h (by rw [HF2.out]; rintro ⟨_, h⟩; cases h)), (fun _ => rfl)⟩, hi3⟩
set_option maxHeartbeats 4000000 in
theorem first31_raw (B0 B1 B2 B3 : Nat) (m : Bool) (Mid : World → World → Prop) (hI : IsS66 w0 w g s) (hB : Below w0.heap.size w0 w) (hl : s.row.length ≤ 1000)
    (HM : ∀ x, headOf s.row = some x → ∀ W, Below w.heap.size w W → Calls Try.prog 31 #[.string x.f0, .pointer (some ⟨B0, 0, none⟩), .pointer (some ⟨B1, 0, none⟩), .pointer (some ⟨B2, 0, none⟩), .pointer (some ⟨B3, 0, none⟩)] W fun e W' => e = .returned (.bool m) ∧ Mid W W')
    (HK : ∀ W W', Mid W W' → (∀ k, Hidn TD W k → W'.heap[k]? = W.heap[k]?) ∧ (Below w0.heap.size w0 W → Below w0.heap.size w0 W')) :
    Calls Try.prog 25 #[.pointer (some ⟨g, 0, none⟩), .func (.func 31) #[] #[.pointer (some ⟨B0, 0, none⟩), .pointer (some ⟨B1, 0, none⟩), .pointer (some ⟨B2, 0, none⟩), .pointer (some ⟨B3, 0, none⟩)]] w fun e w' =>
      e = .returned (.tuple #[.string (headName s.row m), .bool (decide (0 ≤ placeOf s.row (headName s.row m) 0))]) ∧ ∃ W2, Way Mid s.row w W2 ∧ IsS66 w0 w' g ⟨endRow s.row (headName s.row m)⟩ ∧ Below w0.heap.size w0 w' ∧ KeptH TD W2 w' := by
  have HE := Aside0.mk (fun (nm : ByteArray) W (h : IsS66 w0 W g s) (hb : Below w0.heap.size w0 W) => drains_Drains_End.calls g s nm _ ⟨endRow s.row nm⟩ w0 W h hb (if_pos hl))
  have HI := Aside0.mk hI
  have HB0 := Aside0.mk hB
  have HMM := Aside0.mk HM
  have HKK := Aside0.mk HK
  obtain ⟨A, n, hbk, hn, hC, hR, hg⟩ := hI.open_
  have h1 : w.cell? ⟨g, 0, none⟩ = some (.slice A s.row.length n) := (blk_cell hbk 0).trans rfl
  have hgl : g < w.heap.size := blk_lt hbk
  have HC := Aside0.mk hC
  have hlen : s.row.length ≤ 9223372036854775807 := hC.2.1
  have HH : Aside0 (headOf (s.row.drop 0) = headOf s.row) := ⟨rfl⟩
  clear hI hB HM HK hbk hn hC hR
  go_enter Try.func25, Try.ntmps25
  go_wp2
  go_step3
  go_wp2
  go_step3
  go_wp2
  go_loopw [6, 17] (fun v6 v17 wr => ∃ k : Nat, k ≤ s.row.length ∧ v6 = .string ⟨#[]⟩ ∧ v17 = .int .i64 k ∧ Aside0 (headOf (s.row.drop k) = headOf s.row) ∧ Aside0 (Below w.heap.size w wr)) (fun _ v17 _ => s.row.length - (intOf v17).toNat)
  case atStart => exact ⟨0, Nat.zero_le _, rfl, rfl, HH, ⟨Below.refl _ _⟩⟩
  case round =>
    obtain ⟨k, hk, rfl, rfl, HF, HB⟩ := hrel
    by_cases hlt : k < s.row.length
    · obtain ⟨ad, rfl, hx0, hx1, hx2⟩ := at_T69 (Kd.C_below HC.out HB.out) (k : Int) (by omega) (by omega)
      obtain ⟨x, hxe⟩ : ∃ x : S69, x = rd_T69 s.row (k : Int) := ⟨_, rfl⟩
      rw [← hxe, Int.toNat_natCast] at hx0 hx1 hx2
      have hxg : s.row[k] = x := by rw [hxe]; simp [rd_T69, List.getD, hlt]
      have hF := HF.out
      rw [List.drop_eq_getElem_cons hlt, hxg, headOf] at hF
      have h0k : (0 : Int) ≤ (k : Int) := by omega
      have hkl : (k : Int) < (s.row.length : Int) := by omega
      have HBA := Aside0.mk (below_alloc HB.out (.cells #[.string x.f0, .int .i64 x.f1, .bool x.f2] 69))
      clear hxe hxg HF
      cases hu : x.f2 with
      | true =>
        rw [if_pos hu] at hF
        have HF := Aside0.mk hF
        rw [hu] at hx2 HBA
        clear hF
        go_wp2
        go_roundw
        case measure => simp [intOf]; omega
        case rel => exact ⟨k + 1, by omega, rfl, by rw [show ((k : Int) + 1) = ((k + 1 : Nat) : Int) by omega], HF, HBA⟩
      | false =>
        rw [if_neg (by rw [hu]; decide)] at hF
        rw [hu] at hx2 HBA
        have HF := Aside0.mk hF.symm
        clear hF
        cases m with
        | true =>
          have HN : Aside0 (headName s.row true = x.f0) := ⟨by unfold headName; rw [HF.out]; rfl⟩
          go_wp2_with (first
            | (go_at_call 31; refine (HMM.out x HF.out _ HBA.out).mono ?_; rintro e w2 ⟨rfl, hm2⟩; have HM2 := Aside0.mk hm2; have hk2 := HKK.out _ _ hm2; have HK2 := Aside0.mk (And.intro ((HI.out.below HBA.out).step hk2.1) (hk2.2 (HB0.out.trans (HBA.out.mono HB0.out.size)))); have hc2 : w2.cell? ⟨wr.heap.size, 0, none⟩ = some (.string x.f0) := (World.cell?_of_block (hk2.1 wr.heap.size (.cells (heap_alloc_new wr _) (by decide)))).trans (by simp [go_sem]); clear hm2 hk2)
            | (go_at_call 17; refine (HE.out x.f0 _ HK2.out.1 HK2.out.2).mono ?_; rintro e w3 ⟨rfl, hi3⟩))
          rw [Exit.noGoto_ret]
          go_ret2
          rw [HN.out]
          exact ⟨rfl, _, ⟨_, HBA.out, fun _ => HM2.out, fun h => by rw [HF.out] at h; cases h⟩, hi3⟩
        | false =>
          have HN : Aside0 (headName s.row false = ⟨#[]⟩) := ⟨by unfold headName; rw [HF.out]; rfl⟩
          go_wp2_with (first
            | (go_at_call 31; refine (HMM.out x HF.out _ HBA.out).mono ?_; rintro e w2 ⟨rfl, hm2⟩; have HM2 := Aside0.mk hm2; have hk2 := HKK.out _ _ hm2; have HK2 := Aside0.mk (And.intro ((HI.out.below HBA.out).step hk2.1) (hk2.2 (HB0.out.trans (HBA.out.mono HB0.out.size)))); have hc2 : w2.cell? ⟨wr.heap.size, 0, none⟩ = some (.string x.f0) := (World.cell?_of_block (hk2.1 wr.heap.size (.cells (heap_alloc_new wr _) (by decide)))).trans (by simp [go_sem]); clear hm2 hk2)
            | (go_at_call 17; refine (HE.out ⟨#[]⟩ _ HK2.out.1 HK2.out.2).mono ?_; rintro e w3 ⟨rfl, hi3⟩))
          rw [Exit.noGoto_ret]
          go_ret2
          rw [HN.out]
          exact ⟨rfl, _, ⟨_, HBA.out, fun _ => HM2.out, fun h => by rw [HF.out] at h; cases h⟩, hi3⟩
    · have hke : k = s.row.length := by omega
      subst hke
      have hF := HF.out
      rw [List.drop_length] at hF
      have HF2 : Aside0 (headOf s.row = none) := ⟨hF.symm⟩
      have HN : Aside0 (headName s.row m = ⟨#[]⟩) := ⟨by unfold headName; rw [HF2.out]⟩
      clear hF HF
      go_wp2_with (go_at_call 17; refine (HE.out ⟨#[]⟩ _ (HI.out.below HB.out) (HB0.out.trans (HB.out.mono HB0.out.size))).mono ?_; rintro e w3 ⟨rfl, hi3⟩)
      rw [Exit.noGoto_ret]
      go_ret2
      rw [HN.out]
      exact ⟨rfl, _, ⟨_, HB.out, (fun h => absurd h (by rw [HF2.out]; rintro ⟨_, h⟩; cases h)), (fun _ => rfl)⟩, hi3⟩
end Go.Proofs.Ytmkijdkfogebjaa.Man
namespace Go.Proofs.Ytmkijdkfogebjaa.Man
open Go.RowKit Go.Proofs.YtmkijdkfogebjaaW.PrintWords Go.Proofs.YtmkijdkfogebjaaW.PrintLast Go.Proofs.YtmkijdkfogebjaaW.PrintMore Go.Proofs.Ytmkijdkfogebjaa.PA Go.Proofs.Ytmkijdkfogebjaa.Hid
attribute [local go_sem] max2_int min2_int max_two min_two
variable {w0 w : World}
/-- A script's row: of the call's own; what its steps lead to lies below w0. -/
def Scr (w0 W : World) (v : Value) (xs : List S29) : Prop := Kd.N k29 29 W w0.heap.size (fun k => k < w0.heap.size ∨ some k = v.ownBlock) v xs
theorem Scr.step {W W1 : World} {v : Value} {xs : List S29} (h : Scr w0 W v xs) (hB : Below w0.heap.size w0 W) (hB1 : Below w0.heap.size w0 W1) (hk : ∀ k : Nat, (∃ cells : Array Value, W.heap[k]? = some (Obj.cells cells 29 (0, 0))) → W1.heap[k]? = W.heap[k]?) : Scr w0 W1 v xs := by
  refine Kd.N_step h (fun k hk1 hlt => ?_)
  rcases hk1 with h1 | h1
  · rw [hB1.block k h1, hB.block k h1]
  · exact hk k (Kd.N_typed h k h1.symm)
theorem Scr.below {W W1 : World} {v : Value} {xs : List S29} (h : Scr w0 W v xs) (hb : Below W.heap.size W W1) : Scr w0 W1 v xs := Kd.N_below h hb
theorem Scr.keep {W W1 : World} {v : Value} {xs : List S29} (h : Scr w0 W v xs) (hB : Below w0.heap.size w0 W) (hB1 : Below w0.heap.size w0 W1) (hk : KeptH TD W W1) : Scr w0 W1 v xs :=
  h.step hB hB1 (fun k hc => by obtain ⟨cells, hc⟩ := hc; exact hk.1.2 k (blk_lt hc) (not_hidn_cells hc (by decide)))
def cutName (nm : ByteArray) : ByteArray := nm.extract 0 (mn (nm.size : Int) 20).toNat
def cutStep (x : S29) : S29 := ⟨x.f0, x.f1, cutName x.f2, x.f3⟩
def earlyOf (xs : List S29) : List S29 := (xs.take 80).map cutStep
/-- The row as it grows: its cells, and what they say. -/
def Grw (w0 W : World) (base : Nat) (v : Value) (xs : List S29) : Prop := ∃ rows : List (List Value), rows.length = xs.length ∧ (Kd.raw 4).R 29 W base (fun _ => True) v rows ∧ ∀ (j : Nat) (x : S29) (c : List Value), xs[j]? = some x → rows[j]? = some c → Kd.FK k29 W (fun k => k < w0.heap.size) x c
theorem Grw.scr {W : World} {base : Nat} {v : Value} {xs : List S29} (h : Grw w0 W base v xs) (hb : w0.heap.size ≤ base) : Scr w0 W v xs := by
  obtain ⟨rows, hl, hR, hf⟩ := h
  refine ⟨fun k hk => .inr hk.symm, rows, hl, Kd.raw_tight (Kd.R_lower hR hb), fun j x c hx hc => Kd.FK_mono (hf j x c hx hc) (fun k hk => ⟨.inl hk, fun he => ?_⟩)⟩
  have := Kd.R_base hR k he.symm
  omega
theorem Grw.below {W W1 : World} {base : Nat} {v : Value} {xs : List S29} (h : Grw w0 W base v xs) (hb : Below W.heap.size W W1) : Grw w0 W1 base v xs := by
  obtain ⟨rows, hl, hR, hf⟩ := h
  exact ⟨rows, hl, Kd.R_below hR hb, fun j x c hx hc => Kd.FK_below (hf j x c hx hc) hb⟩
set_option maxHeartbeats 4000000 in
theorem early_raw (A : Option Addr) (n : Nat) (l0 : List S29) (hV : Kd.V k29 29 w 0 (fun k => k < w0.heap.size) (.slice A l0.length n) l0) (hB : Below w0.heap.size w0 w) :
    Calls Try.prog 10 #[.slice A l0.length n] w fun e w' => ∃ v, e = .returned v ∧ Scr w0 w' v (earlyOf l0) ∧ Below w.heap.size w w' := by
  have HV := Aside0.mk hV
  have HB0 := Aside0.mk hB
  have hlen : l0.length ≤ 9223372036854775807 := (Kd.V_reads' hV).2.2.2.1
  have hw0 : w0.heap.size ≤ w.heap.size := hB.size
  clear hV hB
  go_enter Try.func10, Try.ntmps10
  go_wp2
  go_loopw [3, 4] (fun v3 v4 wr => ∃ k : Nat, k ≤ l0.length ∧ k ≤ 80 ∧ v4 = .int .i64 k ∧ Aside0 (Grw w0 wr w.heap.size v3 ((l0.take k).map cutStep)) ∧ Aside0 (Below w.heap.size w wr)) (fun _ v4 _ => l0.length - (intOf v4).toNat)
  case atStart => exact ⟨0, Nat.zero_le _, Nat.zero_le _, rfl, ⟨[], rfl, Kd.R_nil _ _ _ _ _, fun j x c h => by simp at h⟩, ⟨Below.refl _ _⟩⟩
  case round =>
    obtain ⟨k, hk, hk80, rfl, HO, HB⟩ := hrel
    by_cases hlt : k < l0.length
    · by_cases h80 : k < 80
      · have HVr := Aside0.mk (Kd.V_below HV.out HB.out)
        obtain ⟨ad, A3, c3, hA, hx0, hx1, hx2, hx3, hl3, hi3⟩ := at_T29 (Kd.V_reads' HVr.out).2.2 (k : Int) (by omega) (by omega)
        subst hA
        obtain ⟨ce, hce, hMe, hcc⟩ := Kd.V_get HVr.out z29 (k : Int) (by omega) (by omega)
        obtain ⟨x, hxe⟩ : ∃ x : S29, x = rd_T29 l0 (k : Int) := ⟨_, rfl⟩
        have hxe2 : l0.getD ((k : Int)).toNat z29 = x := hxe.symm
        rw [hxe2] at hMe
        rw [← hxe, Int.toNat_natCast] at hx0 hx1 hx2 hx3
        rw [← hxe] at hl3 hi3
        obtain ⟨ua, uc, rfl, ul, ge⟩ := k29_openF hMe
        have hv3 := hcc 3 _ rfl
        rw [add_field _ _ 3 (by omega), Int.toNat_natCast] at hv3
        replace hv3 := Option.some.inj (hv3.symm.trans hx3)
        injection hv3 with hva hvn hvc
        subst hva; subst hvc
        have HGE := Aside0.mk ge
        have hxg : l0[k] = x := by rw [hxe]; simp [rd_T29, List.getD, hlt]
        have hts : (l0.take (k + 1)).map cutStep = (l0.take k).map cutStep ++ [cutStep x] := by rw [List.take_succ_eq_append_getElem hlt, hxg]; simp
        have HTS := Aside0.mk hts
        obtain ⟨ji, hji⟩ : ∃ ji, mn (x.f2.size : Int) 20 = ji := ⟨_, rfl⟩
        have hj0 : 0 ≤ ji ∧ ji ≤ (x.f2.size : Int) := by rw [← hji]; unfold mn; split <;> omega
        have hji_ : (if 20 < (x.f2.size : Int) then 20 else (x.f2.size : Int)) = ji := hji
        have hj1 := hj0.1
        have hj2 := hj0.2
        have HCN : Aside0 (cutStep x = ⟨x.f0, x.f1, x.f2.extract 0 ji.toNat, x.f3⟩) := ⟨by unfold cutStep cutName; rw [hji]⟩
        have h0k : (0 : Int) ≤ (k : Int) := by omega
        have hkl : (k : Int) < (l0.length : Int) := by omega
        have hk80b : decide ((k : Int) < 80) = true := decide_eq_true (by omega)
        have hlk : ((l0.take k).map cutStep).length ≤ 80 := by simp; omega
        have HLK := Aside0.mk hlk
        generalize (l0.take k).map cutStep = xs at HO HTS HLK
        clear hcc hce hMe hxe hxe2 hts hj0 hji hl3 hi3 hxg hlk ge HVr
        obtain ⟨rows, HRL, HRR, HRF⟩ := HO.out
        have HR := Aside0.mk HRR
        have HF := Aside0.mk HRF
        have HL := Aside0.mk HRL
        clear HO HRR HRF HRL
        go_wp2_with ((with_reducible refine gate_builtin (b := .append) (xs := #[.tmp 28, .tmp 30]) rfl ?_); (try (refine gate_guard (by rfl) ?_; dsimp only)); at_builtin; refine Kd.R_append (Kd.raw 4) (w0 := w) w.heap.size rfl (.tmp 28) (.tmp 30) 22 29 (.agg #[(.int .i64 0), (.int .i64 0), (.string ⟨#[]⟩), (.slice none 0 0)]) 56 rfl Try.underlying22 info29 rfl (by decide) (by omega) _ rows [.int .i64 x.f0, .int .i64 x.f1, .string (x.f2.extract 0 ji.toNat), .slice ua x.f3.length uc] [.int .i64 x.f0, .int .i64 x.f1, .string (x.f2.extract 0 ji.toNat), .slice ua x.f3.length uc] (fun _ => True) (fun _ => False) rfl ?aX ?aP (fun _ h => h.elim) (fun _ _ => trivial) ?aO ?aB ?aS ?aL ?_; (case aX => (show Value.slice (some ⟨wr.heap.size + 1, 0, none⟩) 1 1 = _; simp)); (case aP => exact ⟨rfl, rfl, by simp [Value.oneCell']⟩); (case aO => exact Kd.R_below HR.out (below_alloc (Below.refl _ _) _)); (case aB => exact below_alloc HB.out _); (case aS => exact Nat.le_trans HB.out.size (by simp)); (case aL => have := HL.out; have := HLK.out; omega); intro v1 w1 ho hb hg hat; have HO1 := Aside0.mk ho; have HB1 := Aside0.mk hb; have HG1 := Aside0.mk hg; clear ho hb hg hat)
        go_roundw
        case measure => simp [intOf]; omega
        case rel =>
          refine ⟨k + 1, by omega, by omega, by rw [show ((k : Int) + 1) = ((k + 1 : Nat) : Int) by omega], ⟨?_⟩, HB1⟩
          rw [HTS.out]
          have hW : ∀ q, q < w0.heap.size → w1.heap[q]? = wr.heap[q]? := fun q hq => by rw [HB1.out.block q (by omega), HB.out.block q (by omega)]
          have hW2 : ∀ (x' : S29) c, Kd.FK k29 wr (fun k => k < w0.heap.size) x' c → Kd.FK k29 w1 (fun k => k < w0.heap.size) x' c := fun x' c h => Kd.FK_step h (fun q hq _ => hW q hq)
          refine ⟨rows ++ [[.int .i64 x.f0, .int .i64 x.f1, .string (x.f2.extract 0 ji.toNat), .slice ua x.f3.length uc]], by simp [HL.out], HO1.out, fun j y c hy hc => ?_⟩
          by_cases hj : j < xs.length
          · rw [List.getElem?_append_left hj] at hy
            rw [List.getElem?_append_left (by rw [HL.out]; exact hj)] at hc
            exact hW2 _ _ (HF.out j y c hy hc)
          · rw [List.getElem?_append_right (by omega)] at hy
            rw [List.getElem?_append_right (by rw [HL.out]; omega), HL.out] at hc
            have hj0 : j - xs.length = 0 := by
              rcases Nat.eq_zero_or_pos (j - xs.length) with h | h
              · exact h
              · rw [List.getElem?_eq_none (by simp; omega)] at hy
                cases hy
            rw [hj0] at hy hc
            have hy2 : cutStep x = y := by simpa using hy
            have hc2 := Option.some.inj (show some [Value.int .i64 x.f0, .int .i64 x.f1, .string (x.f2.extract 0 ji.toNat), .slice ua x.f3.length uc] = some c from hc)
            rw [← hy2, ← hc2, HCN.out]
            exact hW2 _ _ (k29_mkF wr _ ⟨x.f0, x.f1, x.f2.extract 0 ji.toNat, x.f3⟩ ul HGE.out)
      · have hk8 : k = 80 := by omega
        subst hk8
        have HS := Aside0.mk (HO.out.scr hw0)
        clear HO
        have hkl : ((80 : Nat) : Int) < (l0.length : Int) := by omega
        have hkl2 : (80 : Int) < (l0.length : Int) := by omega
        have hkl3 : decide ((80 : Int) < (l0.length : Int)) = true := decide_eq_true (by omega)
        have hkl4 : decide (80 < l0.length) = true := decide_eq_true (by omega)
        rw [show ((80 : Nat) : Int) = 80 from rfl]
        go_wp2
        go_ret
        exact ⟨_, rfl, HS.out, HB.out⟩
    · have hke : k = l0.length := by omega
      have HS := Aside0.mk (HO.out.scr hw0)
      have HE : Aside0 (earlyOf l0 = (l0.take k).map cutStep) := ⟨by
        unfold earlyOf
        rw [List.take_of_length_le (by omega), List.take_of_length_le (by omega)]⟩
      rw [← HE.out] at HS
      subst hke
      clear HO hk HE
      go_wp2
      go_ret
      exact ⟨_, rfl, HS.out, HB.out⟩
end Go.Proofs.Ytmkijdkfogebjaa.Man
namespace Go.Proofs.Ytmkijdkfogebjaa.Man
open Go.RowKit Go.Proofs.YtmkijdkfogebjaaW.PrintWords Go.Proofs.YtmkijdkfogebjaaW.PrintLast Go.Proofs.Ytmkijdkfogebjaa.PA Go.Proofs.Ytmkijdkfogebjaa.Na
theorem tl_inj {a b : ByteArray} : a.toList = b.toList ↔ a = b := by
  constructor
  · intro h
    rw [ByteArray.toList_eq, ByteArray.toList_eq] at h
    exact Go.WideShapes.bytes_inj h
  · rintro rfl
    rfl
def hasB (x : ByteArray) (l : List ByteArray) : Bool := l.any (fun y => decide (y = x))
theorem hasB_iff (x : ByteArray) (l : List ByteArray) : hasB x l = true ↔ x ∈ l := by
  unfold hasB
  rw [List.any_eq_true]
  constructor
  · rintro ⟨y, hy, h⟩
    rw [← of_decide_eq_true h]
    exact hy
  · intro h
    exact ⟨x, h, by simp⟩
theorem hasB_no (x : ByteArray) (l : List ByteArray) (h : x ∉ l) : hasB x l = false := by
  rw [Bool.eq_false_iff]
  exact fun e => h ((hasB_iff x l).1 e)
theorem has_loop (x : ByteArray) (l : List ByteArray) (hm : l.length ≤ 9223372036854775807) (d : Nat) : ∀ (k j : Nat), j ≤ l.length → l.length - j = d → d < k → hostlerref09_Has.l0 k l x (j : Int) = some (hasB x (l.drop j)) := by
  induction d with
  | zero =>
    intro k j hj hd hk
    obtain ⟨k, rfl⟩ : ∃ m, k = m + 1 := ⟨k - 1, by omega⟩
    simp only [hostlerref09_Has.l0]
    rw [if_neg (by omega), List.drop_eq_nil_of_le (by omega)]
    rfl
  | succ d ih =>
    intro k j hj hd hk
    obtain ⟨k, rfl⟩ : ∃ m, k = m + 1 := ⟨k - 1, by omega⟩
    have hlt : j < l.length := by omega
    simp only [hostlerref09_Has.l0]
    rw [if_pos (by omega), if_pos (by omega), List.drop_eq_getElem_cons hlt]
    have e : rdOf ByteArray.empty l (j : Int) = l[j] := by simp [rdOf, List.getD, hlt]
    rw [e]
    have ih' := ih k (j + 1) (by omega) (by omega) (by omega)
    rw [show ((j + 1 : Nat) : Int) = (j : Int) + 1 by omega] at ih'
    have hw : wrap64 ((j : Int) + 1) = (j : Int) + 1 := by unfold wrap64; omega
    rw [hw, ih']
    by_cases c : l[j] = x
    · rw [if_pos (tl_inj.2 c)]
      simp [hasB, c]
    · rw [if_neg (fun h => c (tl_inj.1 h))]
      generalize List.drop (j + 1) l = r
      simp [hasB, c]
theorem has_some (x : ByteArray) (l : List ByteArray) (hm : l.length ≤ 9223372036854775807) : hostlerref09_Has.f (l.length + 1) l x = some (hasB x l) := by
  have := has_loop x l hm l.length (l.length + 1) 0 (by omega) (by omega) (by omega)
  simpa [hostlerref09_Has.f] using this
theorem has_raw (x : ByteArray) (l : List ByteArray) (A : Option Addr) (c : Nat) (w : World) (hC : Kd.C Kd.string w A l.length l) (hc : l.length ≤ c) : Calls Try.prog 14 #[.slice A l.length c, .string x] w fun e w' => e = .returned (.bool (hasB x l)) ∧ Drawn0 w w' :=
  hostlerref09_Has.calls (l.length + 1) A c l x _ w hC hc (has_some x l hC.2.1)
theorem same_loop (a b : List ByteArray) (hl : a.length = b.length) (hm : a.length ≤ 9223372036854775807) (d : Nat) : ∀ (k j : Nat), j ≤ a.length → a.length - j = d → d < k → hostlerref09_Same.l0 k a b (j : Int) = some (decide (a.drop j = b.drop j)) := by
  induction d with
  | zero =>
    intro k j hj hd hk
    obtain ⟨k, rfl⟩ : ∃ m, k = m + 1 := ⟨k - 1, by omega⟩
    simp only [hostlerref09_Same.l0]
    rw [if_neg (by omega), List.drop_eq_nil_of_le (by omega), List.drop_eq_nil_of_le (by omega)]
    simp
  | succ d ih =>
    intro k j hj hd hk
    obtain ⟨k, rfl⟩ : ∃ m, k = m + 1 := ⟨k - 1, by omega⟩
    have hlt : j < a.length := by omega
    have hlt2 : j < b.length := by omega
    simp only [hostlerref09_Same.l0]
    rw [if_pos (by omega), if_pos (by omega), if_pos (by omega)]
    have d1 := List.drop_eq_getElem_cons hlt
    have d2 := List.drop_eq_getElem_cons hlt2
    have e : rdOf ByteArray.empty a (j : Int) = a[j] := by simp [rdOf, List.getD, hlt]
    have e2 : rdOf ByteArray.empty b (j : Int) = b[j] := by simp [rdOf, List.getD, hlt2]
    rw [e, e2]
    have ih' := ih k (j + 1) (by omega) (by omega) (by omega)
    rw [show ((j + 1 : Nat) : Int) = (j : Int) + 1 by omega] at ih'
    have hw : wrap64 ((j : Int) + 1) = (j : Int) + 1 := by unfold wrap64; omega
    rw [hw, ih']
    by_cases c : a[j] = b[j]
    · rw [if_pos (tl_inj.2 c), d1, d2, c]
      generalize List.drop (j + 1) a = r
      generalize List.drop (j + 1) b = q
      simp
    · rw [if_neg (fun h => c (tl_inj.1 h)), d1, d2]
      generalize List.drop (j + 1) a = r
      generalize List.drop (j + 1) b = q
      simp [c]
theorem same_some (a b : List ByteArray) (hm : a.length ≤ 9223372036854775807) : hostlerref09_Same.f (a.length + 1) a b = some (decide (a = b)) := by
  unfold hostlerref09_Same.f
  by_cases h : a.length = b.length
  · rw [if_pos (by omega)]
    have := same_loop a b h hm a.length (a.length + 1) 0 (by omega) (by omega) (by omega)
    simpa using this
  · rw [if_neg (by omega), decide_eq_false (fun e => h (by rw [e]))]
theorem same_raw (a b : List ByteArray) (A B : Option Addr) (c d : Nat) (w : World) (hA : Kd.C Kd.string w A a.length a) (ha : a.length ≤ c) (hB : Kd.C Kd.string w B b.length b) (hb : b.length ≤ d) : Calls Try.prog 20 #[.slice A a.length c, .slice B b.length d] w fun e w' => e = .returned (.bool (decide (a = b))) ∧ Drawn0 w w' :=
  hostlerref09_Same.calls (a.length + 1) A c a B d b _ w hA ha hB hb (same_some a b hA.2.1)
/-! #### places -/
theorem place_neg (nm : ByteArray) : ∀ (row : List S69) (j : Int), 0 ≤ j → (placeOf row nm j < 0 ↔ nm ∉ row.map (·.f0))
  | [], j, hj => by simp [placeOf]
  | x :: l, j, hj => by
    unfold placeOf
    by_cases c : x.f0 = nm
    · rw [if_pos (by rw [beq_iff_eq]; exact tl_inj.2 c)]
      simp [c]
      omega
    · rw [if_neg (by rw [beq_iff_eq]; exact fun h => c (tl_inj.1 h)), place_neg nm l (j + 1) (by omega)]
      simp [Ne.symm c]
theorem place_at (nm : ByteArray) : ∀ (row : List S69) (j : Int), 0 ≤ j → 0 ≤ placeOf row nm j → ∃ i : Nat, placeOf row nm j = j + i ∧ ∃ h : i < row.length, row[i].f0 = nm
  | [], j, hj, h => by simp [placeOf] at h
  | x :: l, j, hj, h => by
    unfold placeOf at h ⊢
    by_cases c : x.f0 = nm
    · rw [if_pos (by rw [beq_iff_eq]; exact tl_inj.2 c)]
      exact ⟨0, by simp, by simp, by simpa using c⟩
    · rw [if_neg (by rw [beq_iff_eq]; exact fun h => c (tl_inj.1 h))] at h ⊢
      obtain ⟨i, h1, h2, h3⟩ := place_at nm l (j + 1) (by omega) h
      exact ⟨i + 1, by rw [h1]; omega, by simpa using h2, by simpa using h3⟩
/-- Ending a name strikes it. -/
theorem endRow_eq (nm : ByteArray) : ∀ (row : List S69), (row.map (·.f0)).Nodup → endRow row nm = row.filter (fun x => !decide (x.f0 = nm))
  | row, hn => by
    unfold endRow
    by_cases h : placeOf row nm 0 < 0
    · rw [if_pos h]
      have := (place_neg nm row 0 (by omega)).1 h
      rw [eq_comm, List.filter_eq_self]
      intro x hx
      have hx2 : x.f0 ≠ nm := fun e => this (by rw [← e]; exact List.mem_map_of_mem hx)
      simp [hx2]
    · rw [if_neg h]
      obtain ⟨i, h1, h2, h3⟩ := place_at nm row 0 (by omega) (by omega)
      have hi : (placeOf row nm 0).toNat = i := by omega
      rw [hi]
      have hsplit : row = row.take i ++ row[i] :: row.drop (i + 1) := by
        rw [← List.drop_eq_getElem_cons h2, List.take_append_drop]
      have hnd := hn
      rw [hsplit, List.map_append, List.map_cons, List.nodup_append] at hnd
      obtain ⟨n1, n2, n3⟩ := hnd
      rw [List.nodup_cons] at n2
      have e1 : (row.take i).filter (fun x => !decide (x.f0 = nm)) = row.take i := by
        rw [List.filter_eq_self]
        intro x hx
        have := n3 x.f0 (List.mem_map_of_mem hx) row[i].f0 (by simp)
        rw [h3] at this
        simp [this]
      have e2 : (row.drop (i + 1)).filter (fun x => !decide (x.f0 = nm)) = row.drop (i + 1) := by
        rw [List.filter_eq_self]
        intro x hx
        have hx2 : x.f0 ≠ nm := fun e => n2.1 (by rw [h3, ← e]; exact List.mem_map_of_mem hx)
        simp [hx2]
      have e3 : row.filter (fun x => !decide (x.f0 = nm)) = row.take i ++ row.drop (i + 1) := by
        conv => lhs; rw [hsplit, List.filter_append, List.filter_cons]
        rw [e1, e2]
        simp [h3]
      rw [e3, List.eraseIdx_eq_take_drop_succ]
end Go.Proofs.Ytmkijdkfogebjaa.Man
namespace Go.Proofs.Ytmkijdkfogebjaa.Man
open Go.RowKit Go.Proofs.YtmkijdkfogebjaaW.PrintWords Go.Proofs.YtmkijdkfogebjaaW.PrintLast Go.Proofs.Ytmkijdkfogebjaa.PA Go.Proofs.Ytmkijdkfogebjaa.Na
def Inv (s : DS) (b : Nat) : Prop := (s.row.map (·.f0)).Nodup ∧ s.row.length ≤ b ∧ (namesOf s.row false).length ≤ 16
theorem Inv.mono {s : DS} {b c : Nat} (h : Inv s b) (hc : b ≤ c) : Inv s c := ⟨h.1, Nat.le_trans h.2.1 hc, h.2.2⟩
theorem namesOf_append (a b : List S69) (u : Bool) : namesOf (a ++ b) u = namesOf a u ++ namesOf b u := by simp [namesOf]
theorem inv_end {s : DS} {b : Nat} (h : Inv s b) (nm : ByteArray) : Inv ⟨endRow s.row nm⟩ b ∧ nm ∉ (endRow s.row nm).map (·.f0) := by
  rw [endRow_eq nm s.row h.1]
  have hs : (s.row.filter (fun x => !decide (x.f0 = nm))).Sublist s.row := List.filter_sublist
  refine ⟨⟨h.1.sublist (hs.map _), Nat.le_trans hs.length_le h.2.1, Nat.le_trans (((hs.filter _).map _).length_le) h.2.2⟩, ?_⟩
  intro hm
  obtain ⟨x, hx, he⟩ := List.mem_map.1 hm
  have := (List.mem_filter.1 hx).2
  simp [he] at this
theorem inv_add {s : DS} {b : Nat} (h : Inv s b) (x : S69) (hn : x.f0 ∉ s.row.map (·.f0)) (hw : x.f2 = false → (namesOf s.row false).length < 16) : Inv ⟨s.row ++ [x]⟩ (b + 1) := by
  refine ⟨?_, by simpa using h.2.1, ?_⟩
  · simp only [List.map_append, List.map_cons, List.map_nil]
    rw [List.nodup_append]
    exact ⟨h.1, by simp, fun a ha c hc => by
      have : c = x.f0 := by simpa using hc
      rw [this]
      rintro rfl
      exact hn ha⟩
  · rw [namesOf_append]
    have := h.2.2
    cases hx : x.f2 with
    | true => simp [namesOf, hx]; simpa [namesOf] using this
    | false =>
      have := hw hx
      have e : (namesOf [x] false).length = 1 := by simp [namesOf, hx]
      rw [List.length_append, e]
      omega
theorem inv_ask {s : DS} {b : Nat} (h : Inv s b) (hb : b ≤ 1000) (nm : ByteArray) : ∃ r s', drains_Drains_Ask.f s nm = some (r, s') ∧ Inv s' (b + 1) := by
  unfold drains_Drains_Ask.f
  rw [if_pos (Nat.le_trans h.2.1 hb)]
  by_cases h1 : nameB nm = true
  · rw [if_pos h1]
    by_cases h2 : placeOf s.row nm 0 < 0
    · rw [if_pos h2]
      by_cases h3 : (namesOf s.row false).length < 16
      · rw [if_pos h3]
        exact ⟨_, _, rfl, inv_add h _ ((place_neg nm s.row 0 (by omega)).1 h2) (fun _ => h3)⟩
      · rw [if_neg h3]
        exact ⟨_, _, rfl, h.mono (by omega)⟩
    · rw [if_neg h2]
      exact ⟨_, _, rfl, h.mono (by omega)⟩
  · rw [if_neg h1]
    exact ⟨_, _, rfl, h.mono (by omega)⟩
theorem inv_begin {s : DS} {b : Nat} (h : Inv s b) (hb : b ≤ 1000) (nm : ByteArray) (dl : Int) : ∃ r s', drains_Drains_Begin.f s nm dl = some (r, s') ∧ Inv s' (b + 1) := by
  unfold drains_Drains_Begin.f
  rw [if_pos (Nat.le_trans h.2.1 hb)]
  by_cases h1 : nameB nm = true
  · rw [if_pos h1]
    by_cases h2 : placeOf s.row nm 0 < 0
    · rw [if_pos h2]
      exact ⟨_, _, rfl, inv_add h _ ((place_neg nm s.row 0 (by omega)).1 h2) (fun h => by cases h)⟩
    · rw [if_neg h2]
      by_cases h3 : (rd_T69 s.row (placeOf s.row nm 0)).f2 = true
      · rw [if_pos h3]
        exact ⟨_, _, rfl, h.mono (by omega)⟩
      · rw [if_neg h3]
        obtain ⟨he, hn⟩ := inv_end h nm
        exact ⟨_, _, rfl, inv_add he _ hn (fun h => by cases h)⟩
  · rw [if_neg h1]
    exact ⟨_, _, rfl, h.mono (by omega)⟩
theorem mem_names (row : List S69) (nm : ByteArray) : nm ∈ row.map (·.f0) ↔ nm ∈ namesOf row false ∨ nm ∈ namesOf row true := by
  unfold namesOf
  simp only [List.mem_map, List.mem_filter]
  constructor
  · rintro ⟨x, hx, rfl⟩
    cases hu : x.f2
    · exact .inl ⟨x, ⟨hx, by simp [hu]⟩, rfl⟩
    · exact .inr ⟨x, ⟨hx, by simp [hu]⟩, rfl⟩
  · rintro (⟨x, ⟨hx, _⟩, rfl⟩ | ⟨x, ⟨hx, _⟩, rfl⟩)
    · exact ⟨x, hx, rfl⟩
    · exact ⟨x, hx, rfl⟩
theorem was_eq (row : List S69) (nm : ByteArray) : (hasB nm (namesOf row false) || hasB nm (namesOf row true)) = decide (0 ≤ placeOf row nm 0) := by
  have h := place_neg nm row 0 (by omega)
  rw [mem_names] at h
  rw [Bool.eq_iff_iff, Bool.or_eq_true, hasB_iff, hasB_iff, decide_eq_true_iff]
  constructor
  · intro h2
    apply Classical.byContradiction
    intro h3
    exact h.1 (by omega) h2
  · intro h2
    apply Classical.byContradiction
    intro h3
    have := h.2 h3
    omega
theorem names_nodup {s : DS} {b : Nat} (h : Inv s b) (u : Bool) : (namesOf s.row u).Nodup := h.1.sublist ((List.filter_sublist).map _)
theorem names_apart {s : DS} {b : Nat} (h : Inv s b) (nm : ByteArray) (h1 : nm ∈ namesOf s.row false) : nm ∉ namesOf s.row true := by
  intro h2
  unfold namesOf at h1 h2
  obtain ⟨x, hx, ex⟩ := List.mem_map.1 h1
  obtain ⟨y, hy, ey⟩ := List.mem_map.1 h2
  have hx2 := List.mem_filter.1 hx
  have hy2 := List.mem_filter.1 hy
  have hxy : x = y := by
    have hn := h.1
    rw [List.Nodup, List.pairwise_map] at hn
    obtain ⟨i, hi, ei⟩ := List.getElem_of_mem hx2.1
    obtain ⟨j, hj, ej⟩ := List.getElem_of_mem hy2.1
    rcases Nat.lt_trichotomy i j with hl | rfl | hl
    · exact absurd (by rw [ei, ej, ex, ey]) (List.pairwise_iff_getElem.1 hn i j hi hj hl)
    · rw [← ei, ← ej]
    · exact absurd (by rw [ei, ej, ex, ey]) (List.pairwise_iff_getElem.1 hn j i hj hi hl)
  subst hxy
  have h3 := hx2.2
  have h4 := hy2.2
  simp only [beq_iff_eq] at h3 h4
  rw [h3] at h4
  cases h4
theorem nodup_take {l : List ByteArray} (h : l.Nodup) (k : Nat) (hk : k < l.length) : hasB l[k] (l.take k) = false := by
  apply hasB_no
  intro hm
  obtain ⟨i, hi, e⟩ := List.mem_take_iff_getElem.1 hm
  have := List.pairwise_iff_getElem.1 h i k (by omega) hk (by omega)
  exact this e
end Go.Proofs.Ytmkijdkfogebjaa.Man
namespace Go.Proofs.Ytmkijdkfogebjaa.Man
open Go.RowKit Go.Proofs.YtmkijdkfogebjaaW.PrintWords Go.Proofs.YtmkijdkfogebjaaW.PrintLast Go.Proofs.Ytmkijdkfogebjaa.PA Go.Proofs.Ytmkijdkfogebjaa.Na
/-- The deadlines of those under way. -/
def atsU (row : List S69) : List Int := (row.filter (fun x => x.f2 == true)).map (·.f1)
theorem atsU_append (a b : List S69) : atsU (a ++ b) = atsU a ++ atsU b := by simp [atsU]
/-- The reference's state: names that wait, those under way, their deadlines. -/
structure Rf where
  w : List ByteArray
  u : List ByteArray
  a : List Int
def rfOf (s : DS) : Rf := ⟨namesOf s.row false, namesOf s.row true, atsU s.row⟩
def refAsk (r : Rf) (nm : ByteArray) : Int × Rf :=
  if nameB nm = true then (if (hasB nm r.w || hasB nm r.u) = true then (6, r) else if r.w.length < 16 then (0, ⟨r.w ++ [nm], r.u, r.a⟩) else (7, r)) else (11, r)
theorem ask_plain {s : DS} {b : Nat} (h : Inv s b) (hb : b ≤ 1000) (nm : ByteArray) : ∃ s', drains_Drains_Ask.f s nm = some ((refAsk (rfOf s) nm).1, s') ∧ Inv s' (b + 1) ∧ rfOf s' = (refAsk (rfOf s) nm).2 := by
  unfold drains_Drains_Ask.f refAsk
  rw [if_pos (Nat.le_trans h.2.1 hb)]
  by_cases h1 : nameB nm = true
  · rw [if_pos h1, if_pos h1]
    have hw : (hasB nm (rfOf s).w || hasB nm (rfOf s).u) = decide (0 ≤ placeOf s.row nm 0) := was_eq s.row nm
    rw [hw]
    by_cases h2 : placeOf s.row nm 0 < 0
    · rw [if_pos h2, if_neg (show ¬ decide (0 ≤ placeOf s.row nm 0) = true by simp; omega)]
      by_cases h3 : (namesOf s.row false).length < 16
      · rw [if_pos h3, if_pos (show (rfOf s).w.length < 16 from h3)]
        refine ⟨_, rfl, inv_add h _ ((place_neg nm s.row 0 (by omega)).1 h2) (fun _ => h3), ?_⟩
        simp [rfOf, namesOf, atsU]
      · rw [if_neg h3, if_neg (show ¬ (rfOf s).w.length < 16 from h3)]
        exact ⟨_, rfl, h.mono (by omega), rfl⟩
    · rw [if_neg h2, if_pos (show decide (0 ≤ placeOf s.row nm 0) = true by simp; omega)]
      exact ⟨_, rfl, h.mono (by omega), rfl⟩
  · rw [if_neg h1, if_neg h1]
    exact ⟨_, rfl, h.mono (by omega), rfl⟩
def refEnd (r : Rf) (nm : ByteArray) : Bool × Rf := (hasB nm r.w || hasB nm r.u, ⟨r.w.filter (fun x => !decide (x = nm)), r.u.filter (fun x => !decide (x = nm)), ((r.u.zip r.a).filter (fun p => !decide (p.1 = nm))).map (·.2)⟩)
theorem names_end (row : List S69) (nm : ByteArray) (u : Bool) : namesOf (row.filter (fun x => !decide (x.f0 = nm))) u = (namesOf row u).filter (fun x => !decide (x = nm)) := by
  unfold namesOf
  rw [List.filter_map, List.filter_filter, List.filter_filter]
  congr 1
  apply List.filter_congr
  intro x _
  simp [Function.comp_def, Bool.and_comm]
theorem ats_end : ∀ (row : List S69) (nm : ByteArray), atsU (row.filter (fun x => !decide (x.f0 = nm))) = (((namesOf row true).zip (atsU row)).filter (fun p => !decide (p.1 = nm))).map (·.2)
  | [], _ => rfl
  | x :: l, nm => by
    have ih := ats_end l nm
    unfold atsU namesOf at ih ⊢
    by_cases h1 : x.f0 = nm <;> cases h2 : x.f2 <;> simp [List.filter_cons, h1, h2] <;> simpa using ih
theorem end_plain {s : DS} {b : Nat} (h : Inv s b) (hb : b ≤ 1000) (nm : ByteArray) : ∃ s', drains_Drains_End.f s nm = some ((refEnd (rfOf s) nm).1, s') ∧ Inv s' b ∧ rfOf s' = (refEnd (rfOf s) nm).2 ∧ nm ∉ s'.row.map (·.f0) := by
  obtain ⟨h1, h2⟩ := inv_end h nm
  refine ⟨⟨endRow s.row nm⟩, ?_, h1, ?_, h2⟩
  · unfold drains_Drains_End.f refEnd
    rw [if_pos (Nat.le_trans h.2.1 hb)]
    congr 2
    exact (was_eq s.row nm).symm
  · unfold rfOf refEnd
    simp only [endRow_eq nm s.row h.1, names_end, ats_end]
def refBegin (r : Rf) (nm : ByteArray) (dl : Int) : Int × Rf :=
  if nameB nm = true then (if hasB nm r.u = true then (6, r) else (0, ⟨r.w.filter (fun x => !decide (x = nm)), r.u ++ [nm], r.a ++ [mn (mx dl 0) 1099511627776]⟩)) else (11, r)
/-- Whether a name is under way is told by the drain at its place. -/
theorem under_at {s : DS} {b : Nat} (h : Inv s b) (nm : ByteArray) (hp : ¬ placeOf s.row nm 0 < 0) : (rd_T69 s.row (placeOf s.row nm 0)).f2 = hasB nm (namesOf s.row true) := by
  obtain ⟨i, h1, h2, h3⟩ := place_at nm s.row 0 (by omega) (by omega)
  have e : rd_T69 s.row (placeOf s.row nm 0) = s.row[i] := by rw [h1]; simp [rd_T69, List.getD, h2]
  rw [e]
  have hm : s.row[i] ∈ s.row := List.getElem_mem h2
  have hu : ∀ u, s.row[i].f2 = u → nm ∈ namesOf s.row u := fun u hu => by
    unfold namesOf
    rw [← h3]
    exact List.mem_map.2 ⟨s.row[i], List.mem_filter.2 ⟨hm, by simp [hu]⟩, rfl⟩
  cases hc : s.row[i].f2 with
  | true => exact ((hasB_iff _ _).2 (hu true hc)).symm
  | false => exact (hasB_no _ _ (names_apart h nm (hu false hc))).symm
theorem begin_plain {s : DS} {b : Nat} (h : Inv s b) (hb : b ≤ 1000) (nm : ByteArray) (dl : Int) : ∃ s', drains_Drains_Begin.f s nm dl = some ((refBegin (rfOf s) nm dl).1, s') ∧ Inv s' (b + 1) ∧ rfOf s' = (refBegin (rfOf s) nm dl).2 := by
  unfold drains_Drains_Begin.f refBegin
  rw [if_pos (Nat.le_trans h.2.1 hb)]
  have hnone : ∀ u, nm ∉ s.row.map (·.f0) → (namesOf s.row u).filter (fun x => !decide (x = nm)) = namesOf s.row u := fun u hn => by
    rw [List.filter_eq_self]
    intro x hx
    have : x ≠ nm := by
      rintro rfl
      refine hn ((mem_names s.row x).2 ?_)
      cases u
      · exact .inl hx
      · exact .inr hx
    simp [this]
  by_cases h1 : nameB nm = true
  · rw [if_pos h1, if_pos h1]
    by_cases h2 : placeOf s.row nm 0 < 0
    · have hn := (place_neg nm s.row 0 (by omega)).1 h2
      have hu : hasB nm (rfOf s).u = false := hasB_no _ _ (fun hm => hn ((mem_names s.row nm).2 (.inr hm)))
      rw [if_pos h2, hu, if_neg (by decide)]
      refine ⟨_, rfl, inv_add h _ hn (fun h => by cases h), ?_⟩
      have e := hnone false hn
      simp only [rfOf, namesOf_append, atsU_append, e]
      simp [namesOf, atsU]
    · rw [if_neg h2, under_at h nm h2]
      cases hu : hasB nm (namesOf s.row true) with
      | true =>
        rw [if_pos rfl, if_pos (show hasB nm (rfOf s).u = true from hu)]
        exact ⟨_, rfl, h.mono (by omega), rfl⟩
      | false =>
        rw [if_neg (by decide), if_neg (by rw [show hasB nm (rfOf s).u = false from hu]; decide)]
        obtain ⟨h3, h4⟩ := inv_end h nm
        refine ⟨_, rfl, inv_add h3 _ h4 (fun h => by cases h), ?_⟩
        have hnu : nm ∉ namesOf s.row true := fun hm => by rw [(hasB_iff _ _).2 hm] at hu; cases hu
        have eu : (namesOf s.row true).filter (fun x => !decide (x = nm)) = namesOf s.row true := by
          rw [List.filter_eq_self]
          intro x hx
          have : x ≠ nm := by rintro rfl; exact hnu hx
          simp [this]
        have ea : atsU (s.row.filter (fun x => !decide (x.f0 = nm))) = atsU s.row := by
          unfold atsU
          rw [List.filter_filter]
          congr 1
          apply List.filter_congr
          intro x hx
          cases hx2 : x.f2 with
          | false => simp
          | true =>
            have : x.f0 ≠ nm := by
              rintro rfl
              exact hnu (List.mem_map.2 ⟨x, List.mem_filter.2 ⟨hx, by simp [hx2]⟩, rfl⟩)
            simp [this]
        simp only [rfOf, namesOf_append, atsU_append, endRow_eq nm s.row h.1, names_end, eu, ea]
        simp [namesOf, atsU]
  · rw [if_neg h1, if_neg h1]
    exact ⟨_, rfl, h.mono (by omega), rfl⟩
end Go.Proofs.Ytmkijdkfogebjaa.Man
namespace Go.Proofs.Ytmkijdkfogebjaa.Man
open Go.RowKit Go.Proofs.YtmkijdkfogebjaaW.PrintWords Go.Proofs.YtmkijdkfogebjaaW.PrintLast Go.Proofs.Ytmkijdkfogebjaa.PA Go.Proofs.Ytmkijdkfogebjaa.Na
/-- No name is the empty one. -/
def NoEmpty (s : DS) : Prop := ∀ x ∈ s.row, x.f0 ≠ ⟨#[]⟩
theorem nameB_ne {nm : ByteArray} (h : nameB nm = true) : nm ≠ ⟨#[]⟩ := by
  rintro rfl
  revert h
  decide +kernel
theorem endRow_sub (row : List S69) (nm : ByteArray) : (endRow row nm).Sublist row := by
  unfold endRow
  split
  · exact List.Sublist.refl _
  · exact List.eraseIdx_sublist _ _
theorem NoEmpty.end_ {s : DS} (h : NoEmpty s) (nm : ByteArray) : NoEmpty ⟨endRow s.row nm⟩ := fun x hx => h x ((endRow_sub s.row nm).subset hx)
theorem NoEmpty.add {s : DS} (h : NoEmpty s) (x : S69) (hx : x.f0 ≠ ⟨#[]⟩) : NoEmpty ⟨s.row ++ [x]⟩ := fun y hy => by
  rcases List.mem_append.1 hy with hy | hy
  · exact h y hy
  · rw [List.mem_singleton.1 hy]
    exact hx
theorem NoEmpty.ask {s s' : DS} {nm : ByteArray} {r : Int} (h : NoEmpty s) (hf : drains_Drains_Ask.f s nm = some (r, s')) : NoEmpty s' := by
  unfold drains_Drains_Ask.f at hf
  split at hf
  · split at hf
    · rename_i hn
      split at hf
      · split at hf
        · obtain ⟨_, rfl⟩ := Prod.mk.inj (Option.some.inj hf)
          exact h.add _ (nameB_ne hn)
        · obtain ⟨_, rfl⟩ := Prod.mk.inj (Option.some.inj hf)
          exact h
      · obtain ⟨_, rfl⟩ := Prod.mk.inj (Option.some.inj hf)
        exact h
    · obtain ⟨_, rfl⟩ := Prod.mk.inj (Option.some.inj hf)
      exact h
  · cases hf
theorem NoEmpty.begin_ {s s' : DS} {nm : ByteArray} {dl r : Int} (h : NoEmpty s) (hf : drains_Drains_Begin.f s nm dl = some (r, s')) : NoEmpty s' := by
  unfold drains_Drains_Begin.f at hf
  split at hf
  · split at hf
    · rename_i hn
      split at hf
      · obtain ⟨_, rfl⟩ := Prod.mk.inj (Option.some.inj hf)
        exact h.add _ (nameB_ne hn)
      · split at hf
        · obtain ⟨_, rfl⟩ := Prod.mk.inj (Option.some.inj hf)
          exact h
        · obtain ⟨_, rfl⟩ := Prod.mk.inj (Option.some.inj hf)
          exact (h.end_ nm).add _ (nameB_ne hn)
    · obtain ⟨_, rfl⟩ := Prod.mk.inj (Option.some.inj hf)
      exact h
  · cases hf
/-! #### First -/
def refFirst (r : Rf) (may : List ByteArray) : Rf × ByteArray × Bool := match r.w with
  | [] => (r, ⟨#[]⟩, false)
  | x :: l => if hasB x may = true then (⟨l, r.u, r.a⟩, x, true) else (r, ⟨#[]⟩, false)
/-- What the closure answers of the first one. -/
def mayHead (row : List S69) (may : List ByteArray) : Bool := match headOf row with
  | some x => hasB x.f0 may
  | none => false
theorem head_waits : ∀ (row : List S69), (headOf row = none ∧ namesOf row false = []) ∨ ∃ x l, headOf row = some x ∧ x ∈ row ∧ x.f2 = false ∧ namesOf row false = x.f0 :: l
  | [] => .inl ⟨rfl, rfl⟩
  | x :: row => by
    unfold headOf
    cases hx : x.f2 with
    | true =>
      rw [if_pos rfl]
      have e : namesOf (x :: row) false = namesOf row false := by simp [namesOf, List.filter_cons, hx]
      rw [e]
      rcases head_waits row with h | ⟨y, l, h1, h2, h3, h4⟩
      · exact .inl h
      · exact .inr ⟨y, l, h1, by simp [h2], h3, h4⟩
    | false =>
      rw [if_neg (by decide)]
      exact .inr ⟨x, namesOf row false, rfl, by simp, hx, by simp [namesOf, List.filter_cons, hx]⟩
theorem first_plain {s : DS} {b : Nat} (h : Inv s b) (hne : NoEmpty s) (may : List ByteArray) :
    headName s.row (mayHead s.row may) = (refFirst (rfOf s) may).2.1 ∧ decide (0 ≤ placeOf s.row (headName s.row (mayHead s.row may)) 0) = (refFirst (rfOf s) may).2.2 ∧
      Inv ⟨endRow s.row (headName s.row (mayHead s.row may))⟩ b ∧ NoEmpty ⟨endRow s.row (headName s.row (mayHead s.row may))⟩ ∧ rfOf ⟨endRow s.row (headName s.row (mayHead s.row may))⟩ = (refFirst (rfOf s) may).1 := by
  have hno : (⟨#[]⟩ : ByteArray) ∉ s.row.map (·.f0) := fun hm => by
    obtain ⟨x, hx, e⟩ := List.mem_map.1 hm
    exact hne x hx e
  have hp0 : placeOf s.row ⟨#[]⟩ 0 < 0 := (place_neg _ _ 0 (by omega)).2 hno
  have he0 : endRow s.row ⟨#[]⟩ = s.row := by unfold endRow; rw [if_pos hp0]
  have stay : headName s.row (mayHead s.row may) = ⟨#[]⟩ → refFirst (rfOf s) may = (rfOf s, ⟨#[]⟩, false) → headName s.row (mayHead s.row may) = (refFirst (rfOf s) may).2.1 ∧ decide (0 ≤ placeOf s.row (headName s.row (mayHead s.row may)) 0) = (refFirst (rfOf s) may).2.2 ∧
      Inv ⟨endRow s.row (headName s.row (mayHead s.row may))⟩ b ∧ NoEmpty ⟨endRow s.row (headName s.row (mayHead s.row may))⟩ ∧ rfOf ⟨endRow s.row (headName s.row (mayHead s.row may))⟩ = (refFirst (rfOf s) may).1 := by
    intro e1 e2
    rw [e1, e2, he0]
    exact ⟨rfl, decide_eq_false (by omega), h, hne, rfl⟩
  rcases head_waits s.row with ⟨h1, h2⟩ | ⟨x, l, h1, h2, h3, h4⟩
  · refine stay ?_ ?_
    · unfold headName
      rw [h1]
    · unfold refFirst rfOf
      simp only [h2]
  · have hm : mayHead s.row may = hasB x.f0 may := by unfold mayHead; rw [h1]
    cases hy : hasB x.f0 may with
    | false =>
      refine stay ?_ ?_
      · unfold headName
        rw [h1, hm, hy]
        rfl
      · unfold refFirst rfOf
        simp only [h4, hy]
        rfl
    | true =>
      have e1 : headName s.row (mayHead s.row may) = x.f0 := by
        unfold headName
        rw [h1, hm, hy]
        rfl
      have e2 : refFirst (rfOf s) may = (⟨l, namesOf s.row true, atsU s.row⟩, x.f0, true) := by
        unfold refFirst rfOf
        simp only [h4, hy]
        rfl
      have hmem : x.f0 ∈ s.row.map (·.f0) := List.mem_map_of_mem h2
      have hp : ¬ placeOf s.row x.f0 0 < 0 := fun hq => (place_neg _ _ 0 (by omega)).1 hq hmem
      obtain ⟨i1, i2⟩ := inv_end h x.f0
      rw [e1, e2]
      refine ⟨rfl, decide_eq_true (by omega), i1, hne.end_ _, ?_⟩
      have hw : x.f0 ∈ namesOf s.row false := by rw [h4]; simp
      have hnu := names_apart h x.f0 hw
      have eu : (namesOf s.row true).filter (fun y => !decide (y = x.f0)) = namesOf s.row true := by
        rw [List.filter_eq_self]
        intro y hy
        have : y ≠ x.f0 := by rintro rfl; exact hnu hy
        simp [this]
      have ea : atsU (s.row.filter (fun y => !decide (y.f0 = x.f0))) = atsU s.row := by
        unfold atsU
        rw [List.filter_filter]
        congr 1
        apply List.filter_congr
        intro y hy
        cases hy2 : y.f2 with
        | false => simp
        | true =>
          have : y.f0 ≠ x.f0 := fun e => hnu (by rw [← e]; exact List.mem_map.2 ⟨y, List.mem_filter.2 ⟨hy, by simp [hy2]⟩, rfl⟩)
          simp [this]
      have ew : (namesOf s.row false).filter (fun y => !decide (y = x.f0)) = l := by
        have hnd := names_nodup h false
        rw [h4] at hnd ⊢
        rw [List.nodup_cons] at hnd
        rw [List.filter_cons, if_neg (by simp), List.filter_eq_self]
        intro y hy
        have : y ≠ x.f0 := by rintro rfl; exact hnd.1 hy
        simp [this]
      unfold rfOf
      simp only [endRow_eq x.f0 s.row h.1, names_end, eu, ea, ew]
end Go.Proofs.Ytmkijdkfogebjaa.Man
namespace Go.Proofs.Ytmkijdkfogebjaa.Man
open Go.RowKit Go.Proofs.YtmkijdkfogebjaaW.PrintWords Go.Proofs.YtmkijdkfogebjaaW.PrintLast Go.Proofs.Ytmkijdkfogebjaa.PA Go.Proofs.Ytmkijdkfogebjaa.Na
theorem same_drain {row : List S69} (h : (row.map (·.f0)).Nodup) {x y : S69} (hx : x ∈ row) (hy : y ∈ row) (e : x.f0 = y.f0) : x = y := by
  rw [List.Nodup, List.pairwise_map] at h
  obtain ⟨i, hi, ei⟩ := List.getElem_of_mem hx
  obtain ⟨j, hj, ej⟩ := List.getElem_of_mem hy
  rcases Nat.lt_trichotomy i j with hl | rfl | hl
  · exact absurd (by rw [ei, ej, e]) (List.pairwise_iff_getElem.1 h i j hi hj hl)
  · rw [← ei, ← ej]
  · exact absurd (by rw [ei, ej, e]) (List.pairwise_iff_getElem.1 h j i hj hi hl)
theorem dead_of {s : DS} {b : Nat} (h : Inv s b) {x : S69} (hx : x ∈ s.row) : deadOf s x.f0 = if x.f2 = true then (x.f1, true) else (0, false) := by
  have hmem : x.f0 ∈ s.row.map (·.f0) := List.mem_map_of_mem hx
  have hp : ¬ placeOf s.row x.f0 0 < 0 := fun hq => (place_neg _ _ 0 (by omega)).1 hq hmem
  obtain ⟨i, h1, h2, h3⟩ := place_at x.f0 s.row 0 (by omega) (by omega)
  have e : rd_T69 s.row (placeOf s.row x.f0 0) = x := by
    rw [h1]
    have : s.row[i] = x := same_drain h.1 (List.getElem_mem h2) hx h3
    rw [← this]
    simp [rd_T69, List.getD, h2]
  unfold deadOf
  rw [if_neg hp, e]
theorem dead_none {s : DS} (nm : ByteArray) (hn : nm ∉ s.row.map (·.f0)) : deadOf s nm = (0, false) := by
  unfold deadOf
  rw [if_pos ((place_neg nm s.row 0 (by omega)).2 hn)]
theorem idxOf_neg (nm : ByteArray) : ∀ (l : List ByteArray) (j : Int), nm ∉ l → idxOf l nm j = -1
  | [], _, _ => rfl
  | x :: l, j, h => by
    unfold idxOf
    rw [if_neg (fun e => h (by rw [tl_inj.1 e]; simp)), idxOf_neg nm l (j + 1) (fun hm => h (by simp [hm]))]
/-- The deadline of one under way stands where its name stands. -/
theorem ats_idx : ∀ (row : List S69) (x : S69) (q : Int), (row.map (·.f0)).Nodup → x ∈ row → x.f2 = true → ∃ j : Nat, idxOf (namesOf row true) x.f0 q = q + (j : Int) ∧ j < (atsU row).length ∧ (atsU row).getD j 0 = x.f1
  | [], x, q, _, hx, _ => by simp at hx
  | y :: l, x, q, hn, hx, hu => by
    rw [List.map_cons, List.nodup_cons] at hn
    rcases List.mem_cons.1 hx with rfl | hx
    · refine ⟨0, ?_, ?_, ?_⟩
      · simp [namesOf, List.filter_cons, hu, idxOf]
      · simp [atsU, List.filter_cons, hu]
      · simp [atsU, List.filter_cons, hu]
    · have hne : ¬ x.f0.toList = y.f0.toList := fun e => hn.1 (by rw [← tl_inj.1 e]; exact List.mem_map_of_mem hx)
      cases hy : y.f2 with
      | true =>
        obtain ⟨j, h1, h2, h3⟩ := ats_idx l x (q + 1) hn.2 hx hu
        refine ⟨j + 1, ?_, ?_, ?_⟩
        · have e : namesOf (y :: l) true = y.f0 :: namesOf l true := by simp [namesOf, List.filter_cons, hy]
          rw [e, idxOf, if_neg hne, h1]
          omega
        · have e : atsU (y :: l) = y.f1 :: atsU l := by simp [atsU, List.filter_cons, hy]
          rw [e]
          simpa using h2
        · have e : atsU (y :: l) = y.f1 :: atsU l := by simp [atsU, List.filter_cons, hy]
          rw [e]
          simpa using h3
      | false =>
        obtain ⟨j, h1, h2, h3⟩ := ats_idx l x q hn.2 hx hu
        have e : namesOf (y :: l) true = namesOf l true := by simp [namesOf, List.filter_cons, hy]
        have e2 : atsU (y :: l) = atsU l := by simp [atsU, List.filter_cons, hy]
        exact ⟨j, by rw [e]; exact h1, by rw [e2]; exact h2, by rw [e2]; exact h3⟩
/-- Deadline, as the reference tells it. -/
theorem dead_plain {s : DS} {b : Nat} (h : Inv s b) (nm : ByteArray) : (deadOf s nm).2 = decide (0 ≤ idxOf (rfOf s).u nm 0) ∧ (0 ≤ idxOf (rfOf s).u nm 0 → ∃ j : Nat, idxOf (rfOf s).u nm 0 = (j : Int) ∧ j < (rfOf s).a.length ∧ (rfOf s).a.getD j 0 = (deadOf s nm).1) := by
  by_cases hm : nm ∈ s.row.map (·.f0)
  · obtain ⟨x, hx, rfl⟩ := List.mem_map.1 hm
    rw [dead_of h hx]
    cases hu : x.f2 with
    | true =>
      obtain ⟨j, h1, h2, h3⟩ := ats_idx s.row x 0 h.1 hx hu
      rw [Int.zero_add] at h1
      rw [if_pos rfl, show idxOf (rfOf s).u x.f0 0 = (j : Int) from h1]
      exact ⟨(decide_eq_true (by omega)).symm, fun _ => ⟨j, rfl, h2, h3⟩⟩
    | false =>
      have hw : x.f0 ∈ namesOf s.row false := List.mem_map.2 ⟨x, List.mem_filter.2 ⟨hx, by simp [hu]⟩, rfl⟩
      have e := idxOf_neg x.f0 (namesOf s.row true) 0 (names_apart h x.f0 hw)
      rw [if_neg (by decide), show idxOf (rfOf s).u x.f0 0 = -1 from e]
      exact ⟨rfl, fun h => by omega⟩
  · rw [dead_none nm hm]
    have e := idxOf_neg nm (namesOf s.row true) 0 (fun h2 => hm ((mem_names s.row nm).2 (.inr h2)))
    rw [show idxOf (rfOf s).u nm 0 = -1 from e]
    exact ⟨rfl, fun h => by omega⟩
def refDue (r : Rf) (now : Int) : List ByteArray := ((r.u.zip r.a).filter (fun p => pastB now p.2)).map (·.1)
theorem due_plain {s : DS} {b : Nat} (h : Inv s b) (now : Int) : dueOf s now = refDue (rfOf s) now := by
  have key : ∀ (l : List S69), (∀ x ∈ l, x ∈ s.row ∧ x.f2 = true) → (l.map (·.f0)).filter (fun nm => pastB now (deadOf s nm).1) = (((l.map (·.f0)).zip (l.map (·.f1))).filter (fun p => pastB now p.2)).map (·.1) := by
    intro l
    induction l with
    | nil => intro _; rfl
    | cons x l ih =>
      intro hl
      obtain ⟨h1, h2⟩ := hl x (by simp)
      have e : (deadOf s x.f0).1 = x.f1 := by rw [dead_of h h1, if_pos h2]
      have ih' := ih (fun y hy => hl y (by simp [hy]))
      simp only [List.map_cons, List.zip_cons_cons, List.filter_cons, e]
      cases pastB now x.f1 with
      | true => simp only [if_true, List.map_cons, ih']
      | false => simpa using ih'
  unfold dueOf refDue rfOf atsU
  show (namesOf s.row true).filter _ = _
  unfold namesOf
  exact key _ (fun x hx => by
    have := List.mem_filter.1 hx
    exact ⟨this.1, by simpa using this.2⟩)
end Go.Proofs.Ytmkijdkfogebjaa.Man
namespace Go.Proofs.Ytmkijdkfogebjaa.Man
open Go.RowKit Go.Proofs.YtmkijdkfogebjaaW.PrintWords Go.Proofs.YtmkijdkfogebjaaW.PrintLast Go.Proofs.YtmkijdkfogebjaaW.PrintMore Go.Proofs.Ytmkijdkfogebjaa.PA Go.Proofs.Ytmkijdkfogebjaa.Na Go.Proofs.Ytmkijdkfogebjaa.Hid
/-- A row of scalars that is only read: what it says, and the block in which it lies, by its type. -/
def Rd {α : Type} (enc : α → Value) (h1 : ∀ x, (enc x).oneCell' = true) (e b : Nat) (W : World) (v : Value) (xs : List α) : Prop :=
  ∃ A c, v = .slice A xs.length c ∧ xs.length ≤ c ∧ (Kd.scalar enc h1).C W A xs.length xs ∧ ∀ ad, A = some ad → b ≤ ad.block ∧ ∃ cells : Array Value, W.heap[ad.block]? = some (Obj.cells cells e (0, 0))
section
variable {α : Type} {enc : α → Value} {h1 : ∀ x, (enc x).oneCell' = true} {e b : Nat} {W W1 : World} {v : Value} {xs : List α}
theorem Rd.step (h : Rd enc h1 e b W v xs) (hk : ∀ (k : Nat) (cells : Array Value), W.heap[k]? = some (Obj.cells cells e (0, 0)) → b ≤ k → W1.heap[k]? = W.heap[k]?) : Rd enc h1 e b W1 v xs := by
  obtain ⟨A, c, rfl, hc, hC, hA⟩ := h
  refine ⟨A, c, rfl, hc, ⟨hC.1, hC.2.1, fun hn => ?_⟩, fun ad he => ?_⟩
  · obtain ⟨ad, hae, hcell⟩ := hC.2.2 hn
    obtain ⟨hb, cells, hcs⟩ := hA ad hae
    have hs := hk ad.block cells hcs hb
    refine ⟨ad, hae, fun j p hj => ?_⟩
    obtain ⟨cs, hcs1, hK, hcc⟩ := hcell j p hj
    refine ⟨cs, hcs1, hK, fun i u hu => ?_⟩
    rw [← hcc i u hu]
    exact World.cell?_of_block (by
      have hbk : ∀ (x : Nat), (ad.add x).block = ad.block := fun x => by unfold Addr.add; split <;> rfl
      rw [hbk]
      exact hs)
  · obtain ⟨hb, cells, hcs⟩ := hA ad he
    exact ⟨hb, cells, (hk ad.block cells hcs hb).trans hcs⟩
theorem Rd.below (h : Rd enc h1 e b W v xs) (hb : Below W.heap.size W W1) : Rd enc h1 e b W1 v xs := h.step (fun k cells hk _ => hb.block k (blk_lt hk))
theorem Rd.keep (h : Rd enc h1 e b W v xs) (hk : KeptH TD W W1) (he : e ∉ TD) : Rd enc h1 e b W1 v xs := h.step (fun k cells hc _ => hk.1.2 k (blk_lt hc) (not_hidn_cells hc he))
theorem Rd.of_R {ok : Nat → Prop} (h : (Kd.scalar enc h1).R e W b ok v xs) : Rd enc h1 e b W v xs := by
  obtain ⟨A, c, rfl, hc, hC⟩ := Kd.R_reads h
  refine ⟨A, c, rfl, hc, hC, fun ad he => ?_⟩
  subst he
  obtain ⟨_, inner, hown, _⟩ := h
  rcases hown.2 with ⟨hv, _⟩ | ⟨g, cap, cur, hv, hb, hh, _⟩
  · cases hv
  · injection hv with hv
    injection hv with hv
    rw [hv]
    exact ⟨hb, cur, hh⟩
theorem Rd.lower {b' : Nat} (h : Rd enc h1 e b W v xs) (hb : b' ≤ b) : Rd enc h1 e b' W v xs := by
  obtain ⟨A, c, hv, hc, hC, hA⟩ := h
  exact ⟨A, c, hv, hc, hC, fun ad he => ⟨Nat.le_trans hb (hA ad he).1, (hA ad he).2⟩⟩
theorem Rd.reads (h : Rd enc h1 e b W v xs) : ∃ A c, v = .slice A xs.length c ∧ xs.length ≤ c ∧ (Kd.scalar enc h1).C W A xs.length xs := by
  obtain ⟨A, c, hv, hc, hC, _⟩ := h
  exact ⟨A, c, hv, hc, hC⟩
end
/-- A row of names, a row of ticks. -/
abbrev RdS (b : Nat) (W : World) (v : Value) (xs : List ByteArray) : Prop := Rd Value.string (fun _ => rfl) 9 b W v xs
abbrev RdI (b : Nat) (W : World) (v : Value) (xs : List Int) : Prop := Rd (Value.int .i64) (fun _ => rfl) 3 b W v xs
theorem place27_loop (nm : ByteArray) (xs : List ByteArray) (hm : xs.length ≤ 9223372036854775807) (d : Nat) : ∀ (k j : Nat), j ≤ xs.length → xs.length - j = d → d < k → hostlerref13_Place.l0 k xs nm (j : Int) = some (idxOf (xs.drop j) nm j) := by
  induction d with
  | zero =>
    intro k j hj hd hk
    obtain ⟨k, rfl⟩ : ∃ m, k = m + 1 := ⟨k - 1, by omega⟩
    simp only [hostlerref13_Place.l0]
    rw [if_neg (by omega), List.drop_eq_nil_of_le (by omega)]
    rfl
  | succ d ih =>
    intro k j hj hd hk
    obtain ⟨k, rfl⟩ : ∃ m, k = m + 1 := ⟨k - 1, by omega⟩
    have hlt : j < xs.length := by omega
    simp only [hostlerref13_Place.l0]
    rw [if_pos (by omega), if_pos (by omega), List.drop_eq_getElem_cons hlt]
    have e : rdOf ByteArray.empty xs (j : Int) = xs[j] := by simp [rdOf, List.getD, hlt]
    rw [e]
    have ih' := ih k (j + 1) (by omega) (by omega) (by omega)
    rw [show ((j + 1 : Nat) : Int) = (j : Int) + 1 by omega] at ih'
    have hw : wrap64 ((j : Int) + 1) = (j : Int) + 1 := by unfold wrap64; omega
    simp only [idxOf]
    rw [hw]
    by_cases c : nm.toList = xs[j].toList
    · rw [if_pos c, if_pos c.symm]
    · rw [if_neg c, if_neg (fun h => c h.symm)]
      exact ih'
theorem place27_raw (nm : ByteArray) (xs : List ByteArray) (A : Option Addr) (c : Nat) (w : World) (hC : Kd.C Kd.string w A xs.length xs) (hc : xs.length ≤ c) : Calls Try.prog 27 #[.slice A xs.length c, .string nm] w fun e w' => e = .returned (.int .i64 (idxOf xs nm 0)) ∧ Drawn0 w w' :=
  hostlerref13_Place.calls (xs.length + 1) A c xs nm _ w hC hc (by
    have := place27_loop nm xs hC.2.1 xs.length (xs.length + 1) 0 (by omega) (by omega) (by omega)
    simpa [hostlerref13_Place.f] using this)
end Go.Proofs.Ytmkijdkfogebjaa.Man
namespace Go.Proofs.Ytmkijdkfogebjaa.Man
open Go.RowKit Go.Proofs.YtmkijdkfogebjaaW.PrintWords Go.Proofs.YtmkijdkfogebjaaW.PrintLast Go.Proofs.YtmkijdkfogebjaaW.PrintMore Go.Proofs.Ytmkijdkfogebjaa.PA Go.Proofs.Ytmkijdkfogebjaa.Na Go.Proofs.Ytmkijdkfogebjaa.Hid
theorem with_raw (nm : ByteArray) (xs : List ByteArray) (A : Option Addr) (c : Nat) (w : World) (hC : Kd.C Kd.string w A xs.length xs) (hc : xs.length ≤ c) (hl : xs.length ≤ 1000) :
    Calls Try.prog 42 #[.slice A xs.length c, .string nm] w fun e w' => ∃ v0_ : Value, e = .returned v0_ ∧ Kd.R Kd.string 9 w' w.heap.size (fun _ => True) v0_ (xs ++ [nm]) ∧ Below w.heap.size w w' :=
  hostlerref13_with.calls A c xs nm _ w hC hc (by
    unfold hostlerref13_with.f
    rw [if_pos (by simp; omega), Option.bind_some, if_pos (by simp; omega)]
    rfl)
theorem without_loop (nm : ByteArray) (xs : List ByteArray) (hm : xs.length ≤ 1000) (d : Nat) : ∀ (k j : Nat) (acc : List ByteArray), j ≤ xs.length → xs.length - j = d → d < k → acc.length ≤ j → hostlerref13_without.l0 k xs nm acc (j : Int) = some (acc ++ (xs.drop j).filter (fun x => !decide (x = nm))) := by
  induction d with
  | zero =>
    intro k j acc hj hd hk ha
    obtain ⟨k, rfl⟩ : ∃ m, k = m + 1 := ⟨k - 1, by omega⟩
    simp only [hostlerref13_without.l0]
    rw [if_neg (by omega), List.drop_eq_nil_of_le (by omega)]
    simp
  | succ d ih =>
    intro k j acc hj hd hk ha
    obtain ⟨k, rfl⟩ : ∃ m, k = m + 1 := ⟨k - 1, by omega⟩
    have hlt : j < xs.length := by omega
    have hd1 := List.drop_eq_getElem_cons hlt
    simp only [hostlerref13_without.l0]
    have e : rdOf ByteArray.empty xs (j : Int) = xs[j] := by simp [rdOf, List.getD, hlt]
    have hw : wrap64 ((j : Int) + 1) = ((j + 1 : Nat) : Int) := by unfold wrap64; omega
    rw [if_pos (by omega), if_pos (by omega), e, hw, hd1, List.filter_cons]
    by_cases c : xs[j] = nm
    · rw [if_pos (tl_inj.2 c), if_neg (by simp [c])]
      exact ih k (j + 1) acc (by omega) (by omega) (by omega) (by omega)
    · rw [if_neg (fun h => c (tl_inj.1 h)), if_pos (by omega), if_pos (by simp [c]), ih k (j + 1) _ (by omega) (by omega) (by omega) (by simp; omega)]
      rw [List.append_assoc]
      rfl
theorem without_raw (nm : ByteArray) (xs : List ByteArray) (A : Option Addr) (c : Nat) (w : World) (hC : Kd.C Kd.string w A xs.length xs) (hc : xs.length ≤ c) (hl : xs.length ≤ 1000) :
    Calls Try.prog 43 #[.slice A xs.length c, .string nm] w fun e w' => ∃ v0_ : Value, e = .returned v0_ ∧ Kd.R Kd.string 9 w' w.heap.size (fun _ => True) v0_ (xs.filter (fun x => !decide (x = nm))) ∧ Below w.heap.size w w' :=
  hostlerref13_without.calls (xs.length + 1) A c xs nm _ w hC hc (by
    have := without_loop nm xs hl xs.length (xs.length + 1) 0 [] (by omega) (by omega) (by omega) (by simp)
    simpa [hostlerref13_without.f] using this)
end Go.Proofs.Ytmkijdkfogebjaa.Man
namespace Go.Proofs.Ytmkijdkfogebjaa.Man
open Go.RowKit Go.Proofs.YtmkijdkfogebjaaW.PrintWords Go.Proofs.YtmkijdkfogebjaaW.PrintLast Go.Proofs.YtmkijdkfogebjaaW.PrintMore Go.Proofs.Ytmkijdkfogebjaa.PA Go.Proofs.Ytmkijdkfogebjaa.Na Go.Proofs.Ytmkijdkfogebjaa.Hid
theorem bt_byte (s : ByteArray) (j : Nat) (h : j < s.size) : bt s (j : Int) = (byteAt s j : Int) := by
  unfold bt byteAt
  rw [dif_pos (by simpa using h)]
  congr 2
  show s[j] = s.get! j
  cases s with
  | mk a =>
    have h' : j < a.size := h
    show a[j] = a[j]!
    rw [getElem!_pos a j h']
theorem name_step (b : Int) (L : Option Bool) :
    (if b ≥ 97 then (if b ≤ 122 then L else (if b ≥ 48 then (if b ≤ 57 then L else (if b = 46 then L else (if b = 45 then L else some false))) else (if b = 46 then L else (if b = 45 then L else some false)))) else (if b ≥ 48 then (if b ≤ 57 then L else (if b = 46 then L else (if b = 45 then L else some false))) else (if b = 46 then L else (if b = 45 then L else some false)))) = if (97 ≤ b ∧ b ≤ 122 ∨ 48 ≤ b ∧ b ≤ 57 ∨ b = 46 ∨ b = 45) then L else some false := by
  by_cases h : (97 ≤ b ∧ b ≤ 122 ∨ 48 ≤ b ∧ b ≤ 57 ∨ b = 46 ∨ b = 45)
  · rw [if_pos h]
    (repeat' split) <;> first | rfl | (exfalso; omega)
  · rw [if_neg h]
    (repeat' split) <;> first | rfl | (exfalso; omega)
theorem okB_iff (n : Nat) : okB n = true ↔ (97 ≤ (n : Int) ∧ (n : Int) ≤ 122 ∨ 48 ≤ (n : Int) ∧ (n : Int) ≤ 57 ∨ (n : Int) = 46 ∨ (n : Int) = 45) := by
  unfold okB
  rw [decide_eq_true_iff]
  omega
theorem name_loop (s : ByteArray) (hm : s.size ≤ 9223372036854775807) (d : Nat) : ∀ (k j : Nat), j ≤ s.size → s.size - j = d → d < k → ((∀ i, j ≤ i → i < s.size → okB (byteAt s i) = true) → hostlerref09_Name.l0 k s (j : Int) = some (decide (1 ≤ s.size) && decide (s.size ≤ 16))) ∧ (¬ (∀ i, j ≤ i → i < s.size → okB (byteAt s i) = true) → hostlerref09_Name.l0 k s (j : Int) = some false) := by
  induction d with
  | zero =>
    intro k j hj hd hk
    obtain ⟨k, rfl⟩ : ∃ m, k = m + 1 := ⟨k - 1, by omega⟩
    refine ⟨fun _ => ?_, fun h => absurd (fun i h1 h2 => by omega) h⟩
    simp only [hostlerref09_Name.l0]
    rw [if_neg (by omega)]
    by_cases h1 : 1 ≤ s.size
    · rw [if_pos (by omega), decide_eq_true h1, Bool.true_and]
      congr 1
      by_cases h2 : s.size ≤ 16
      · rw [decide_eq_true h2, decide_eq_true (by omega)]
      · rw [decide_eq_false h2, decide_eq_false (by omega)]
    · rw [if_neg (by omega), decide_eq_false h1]
      rfl
  | succ d ih =>
    intro k j hj hd hk
    obtain ⟨k, rfl⟩ : ∃ m, k = m + 1 := ⟨k - 1, by omega⟩
    have hlt : j < s.size := by omega
    have hw : wrap64 ((j : Int) + 1) = ((j + 1 : Nat) : Int) := by unfold wrap64; omega
    obtain ⟨i1, i2⟩ := ih k (j + 1) (by omega) (by omega) (by omega)
    simp only [hostlerref09_Name.l0]
    rw [if_pos (by omega), if_pos (by omega), hw, bt_byte s j hlt, name_step]
    by_cases hb : okB (byteAt s j) = true
    · rw [if_pos ((okB_iff _).1 hb)]
      refine ⟨fun h => i1 (fun i h1 h2 => h i (by omega) h2), fun h => i2 (fun h3 => h (fun i h1 h2 => ?_))⟩
      rcases Nat.eq_or_lt_of_le h1 with rfl | h4
      · exact hb
      · exact h3 i h4 h2
    · rw [if_neg (fun h => hb ((okB_iff _).2 h))]
      exact ⟨fun h => absurd (h j (Nat.le_refl _) hlt) hb, fun _ => rfl⟩
theorem name41_raw (s : ByteArray) (hm : s.size ≤ 9223372036854775807) (w : World) : Calls Try.prog 41 #[.string s] w fun e w' => e = .returned (.bool (nameB s)) ∧ Drawn0 w w' := by
  refine hostlerref09_Name.calls (s.size + 1) s _ w ?_
  obtain ⟨h1, h2⟩ := name_loop s hm s.size (s.size + 1) 0 (by omega) (by omega) (by omega)
  unfold hostlerref09_Name.f nameB
  by_cases h : ∀ i, i < s.size → okB (byteAt s i) = true
  · rw [decide_eq_true h, Bool.and_true]
    exact h1 (fun i _ hi => h i hi)
  · rw [decide_eq_false h, Bool.and_false]
    exact h2 (fun h3 => h (fun i hi => h3 i (by omega) hi))
end Go.Proofs.Ytmkijdkfogebjaa.Man
namespace Go.Proofs.Ytmkijdkfogebjaa.Man
open Go.RowKit Go.Proofs.YtmkijdkfogebjaaW.PrintWords Go.Proofs.YtmkijdkfogebjaaW.PrintLast Go.Proofs.YtmkijdkfogebjaaW.PrintMore Go.Proofs.Ytmkijdkfogebjaa.PA Go.Proofs.Ytmkijdkfogebjaa.Na Go.Proofs.Ytmkijdkfogebjaa.Hid
/-- A block of three values. -/
def B3 (W : World) (g : Nat) (a b c : Value) : Prop := W.heap[g]? = some (.cells #[a, b, c] 45 (0, 0))
theorem B3.below {W W1 : World} {g : Nat} {a b c : Value} (h : B3 W g a b c) (hb : Below W.heap.size W W1) : B3 W1 g a b c := blk_below h hb
theorem B3.far {W : World} {g : Nat} {a b c : Value} (h : B3 W g a b c) {g2 j : Nat} (hn : g ≠ g2) (u : Value) : B3 (W.setCell ⟨g2, j, none⟩ u) g a b c := blk_far h hn u
theorem B3.put0 {W : World} {g : Nat} {a b c : Value} (h : B3 W g a b c) (u : Value) : B3 (W.setCell ⟨g, 0, none⟩ u) g u b c := blk_put (cs := #[a, b, c]) h 0 u rfl
theorem B3.put1 {W : World} {g : Nat} {a b c : Value} (h : B3 W g a b c) (u : Value) : B3 (W.setCell ⟨g, 1, none⟩ u) g a u c := blk_put (cs := #[a, b, c]) h 1 u rfl
theorem B3.put2 {W : World} {g : Nat} {a b c : Value} (h : B3 W g a b c) (u : Value) : B3 (W.setCell ⟨g, 2, none⟩ u) g a b u := blk_put (cs := #[a, b, c]) h 2 u rfl
theorem B3.all {W : World} {g : Nat} {a b c : Value} (h : B3 W g a b c) (x y z : Value) : B3 (((W.setCell ⟨g, 0, none⟩ x).setCell ⟨g, 1, none⟩ y).setCell ⟨g, 2, none⟩ z) g x y z := ((h.put0 x).put1 y).put2 z
theorem B3.cells {W : World} {g : Nat} {a b c : Value} (h : B3 W g a b c) : W.cell? ⟨g, 0, none⟩ = some a ∧ W.cell? ⟨g, 1, none⟩ = some b ∧ W.cell? ⟨g, 2, none⟩ = some c ∧ W.frozen? ⟨g, 0, none⟩ = false ∧ W.frozen? ⟨g, 1, none⟩ = false ∧ W.frozen? ⟨g, 2, none⟩ = false :=
  ⟨(blk_cell h 0).trans rfl, (blk_cell h 1).trans rfl, (blk_cell h 2).trans rfl, blk_frozen h 0, blk_frozen h 1, blk_frozen h 2⟩
theorem Rd.put {α : Type} {enc : α → Value} {h1 : ∀ x, (enc x).oneCell' = true} {e b : Nat} {W : World} {v : Value} {xs : List α} (h : Rd enc h1 e b W v xs) {g j : Nat} {x y z : Value} (hB : B3 W g x y z) (he : e ≠ 45) (u : Value) : Rd enc h1 e b (W.setCell ⟨g, j, none⟩ u) v xs :=
  h.step (fun k cells hk _ => Below.heap_setCell W ⟨g, j, none⟩ u k (by
    intro h0
    have h2 : k = g := h0
    rw [h2, show W.heap[g]? = _ from hB] at hk
    injection hk with hk
    injection hk with _ hk _
    exact he hk.symm))
theorem Rd.putAll {α : Type} {enc : α → Value} {h1 : ∀ x, (enc x).oneCell' = true} {e b : Nat} {W : World} {v : Value} {xs : List α} (h : Rd enc h1 e b W v xs) {g : Nat} {x y z : Value} (hB : B3 W g x y z) (he : e ≠ 45) (p q r : Value) : Rd enc h1 e b (((W.setCell ⟨g, 0, none⟩ p).setCell ⟨g, 1, none⟩ q).setCell ⟨g, 2, none⟩ r) v xs :=
  ((h.put hB he p).put (hB.put0 p) he q).put ((hB.put0 p).put1 q) he r
theorem Rd.C {α : Type} {enc : α → Value} {h1 : ∀ x, (enc x).oneCell' = true} {e b n c : Nat} {W : World} {A : Option Addr} {xs : List α} (h : Rd enc h1 e b W (.slice A n c) xs) : (Kd.scalar enc h1).C W A xs.length xs := by
  obtain ⟨A', c', hv, _, hC, _⟩ := h
  injection hv with hA _ _
  rw [hA]
  exact hC
theorem Rd.grown {α β : Type} {enc : α → Value} {h1 : ∀ x, (enc x).oneCell' = true} {d : Kd β} {e e2 b base : Nat} {ok : Nat → Prop} {W W1 : World} {v v2 : Value} {xs : List α} {ys : List β} (h : Rd enc h1 e b W v xs) (hR : d.R e2 W base ok v2 ys) (hg : W.grownBy W1 v2.ownBlock) (he : e2 ≠ e) : Rd enc h1 e b W1 v xs :=
  h.step (fun k cells hk _ => hg.block k (blk_lt hk) (Kd.R_ne hR hk he))
theorem B3.grown {β : Type} {d : Kd β} {e2 base g : Nat} {ok : Nat → Prop} {W W1 : World} {x y z v2 : Value} {ys : List β} (h : B3 W g x y z) (hR : d.R e2 W base ok v2 ys) (hg : W.grownBy W1 v2.ownBlock) (he : e2 ≠ 45) : B3 W1 g x y z :=
  (hg.block g (blk_lt h) (Kd.R_ne hR h he)).trans h
theorem Rd.tail {α : Type} {enc : α → Value} {h1 : ∀ x, (enc x).oneCell' = true} {e b c : Nat} {W : World} {A : Option Addr} {xs : List α} (h : Rd enc h1 e b W (.slice A xs.length c) xs) (hl : 1 ≤ xs.length) (hc : xs.length ≤ c) : Rd enc h1 e b W (.slice (if c = 1 then A else A.map (·.add (1 * 1))) (xs.drop 1).length (c - 1)) (xs.drop 1) := by
  refine ⟨_, _, rfl, by rw [List.length_drop]; omega, Kd.C_drop (m := 1) h.C hl hc, fun ad he => ?_⟩
  obtain ⟨A', c', hv, _, _, hA⟩ := h
  injection hv with hA2 _ _
  subst hA2
  split at he
  · exact hA ad he
  · cases A with
    | none => cases he
    | some a0 =>
      have h2 : a0.add (1 * 1) = ad := by simpa using he
      have hbk : (a0.add (1 * 1)).block = a0.block := by unfold Addr.add; split <;> rfl
      rw [← h2, hbk]
      exact hA a0 rfl
theorem below_all {w W : World} {g : Nat} (h : Below w.heap.size w W) (hg : w.heap.size ≤ g) (p q r : Value) : Below w.heap.size w (((W.setCell ⟨g, 0, none⟩ p).setCell ⟨g, 1, none⟩ q).setCell ⟨g, 2, none⟩ r) :=
  below_set (below_set (below_set h hg) hg) hg
/-- What is handed back: the state's three rows and an answer. -/
def Back (b : Nat) (w w' : World) (vs : Value) (r : Rf) : Prop := ∃ v0 v1 v2 : Value, vs = .agg #[v0, v1, v2] ∧ RdS b w' v0 r.w ∧ RdS b w' v1 r.u ∧ RdI b w' v2 r.a ∧ Below w.heap.size w w'
variable {w : World} {b : Nat}

theorem idx_has (nm : ByteArray) (l : List ByteArray) : hasB nm l = decide (0 ≤ idxOf l nm 0) := by
  have key : ∀ (l : List ByteArray) (j : Int), 0 ≤ j → nm ∈ l → 0 ≤ idxOf l nm j := by
    intro l
    induction l with
    | nil => intro j _ h; simp at h
    | cons x l ih =>
      intro j hj hm
      unfold idxOf
      split
      · exact hj
      · rename_i hne
        rcases List.mem_cons.1 hm with rfl | hm
        · exact absurd rfl hne
        · exact ih (j + 1) (by omega) hm
  by_cases hm : nm ∈ l
  · rw [(hasB_iff nm l).2 hm, decide_eq_true (key l 0 (by omega) hm)]
  · rw [hasB_no nm l hm, decide_eq_false (by rw [idxOf_neg nm l 0 hm]; omega)]

set_option maxHeartbeats 2000000 in
set_option maxRecDepth 100000 in
theorem ask21_bad (nm : ByteArray) (hs : nm.size ≤ 100) {lw lu : List ByteArray} {la : List Int} {v0 v1 v2 : Value} (h0 : RdS b w v0 lw) (h1 : RdS b w v1 lu) (h2 : RdI b w v2 la) (hb : b ≤ w.heap.size) (hn : nameB nm = false) :
    Calls Try.prog 21 #[.agg #[v0, v1, v2], .string nm] w fun e w' => ∃ vs, e = .returned (.tuple #[vs, .int .i64 11]) ∧ Back b w w' vs ⟨lw, lu, la⟩ := by
  have NS := Aside0.mk hs
  obtain ⟨A0, c0, rfl, hc0, hC0⟩ := h0.reads
  obtain ⟨A1, c1, rfl, hc1, hC1⟩ := h1.reads
  obtain ⟨A2, c2, rfl, hc2, hC2⟩ := h2.reads
  have H0 := Aside0.mk h0
  have H1 := Aside0.mk h1
  have H2 := Aside0.mk h2
  have HC0 := Aside0.mk hC0
  have HC1 := Aside0.mk hC1
  have HC2 := Aside0.mk hC2
  have L0 := Aside0.mk hc0
  have L1 := Aside0.mk hc1
  have L2 := Aside0.mk hc2
  clear h0 h1 h2 hC0 hC1 hC2 hc0 hc1 hc2
  have HN := Aside0.mk (fun W => name41_raw nm (by omega) W)
  rw [hn] at HN
  clear hn
  go_enter Try.func21, Try.ntmps21
  go_wp2_with (first
    | ((with_reducible refine gate_dst (N := 2) rfl ?_); refine box_event ?hg (N := 2) ?hd (cs := #[.slice A0 lw.length c0, .slice A1 lu.length c1, .slice A2 la.length c2]) (t := 45) ?hr ?_; (case hd => rfl); (case hg => rfl); (case hr => first | (go_simp; done) | (go_simp; rfl)); intro g1 hg w1 hbox hb; have BK1 := Aside0.mk (show B3 w1 g1 _ _ _ from hbox); have HB1 := Aside0.mk hb; have GE1 := Aside0.mk (show w.heap.size ≤ g1 by rw [hg]; exact Nat.le_refl _); clear hbox hb hg)
    | ((with_reducible refine gate_dst (N := 4) rfl ?_); refine box_event ?hg (N := 4) ?hd (cs := #[.slice none 0 0, .slice none 0 0, .slice none 0 0]) (t := 45) ?hr ?_; (case hd => rfl); (case hg => rfl); (case hr => first | (go_simp; done) | (go_simp; rfl)); intro g2 hg w2 hbox hb; have BK2 := Aside0.mk (show B3 w2 g2 _ _ _ from hbox); have BK1b := Aside0.mk (BK1.out.below hb); have HB2 := Aside0.mk (below_step HB1.out hb); have GE2 := Aside0.mk (show w.heap.size ≤ g2 by rw [hg]; exact HB1.out.size); have NB := Aside0.mk (show g1 ≠ g2 by rw [hg]; exact Nat.ne_of_lt (blk_lt BK1.out)); clear hbox hb hg)
    | (go_at_call 41; (with_reducible refine (HN.out _).mono ?_); rintro e wa ⟨rfl, hb0⟩; have hba := Drawn0.below hb0; clear hb0; have BK1a := Aside0.mk (BK1b.out.below hba); have BK2a := Aside0.mk (BK2.out.below hba); have HBa := Aside0.mk (below_step HB2.out hba); clear hba; obtain ⟨ca0, ca1, ca2, fa0, fa1, fa2⟩ := BK1a.out.cells; obtain ⟨cb0, cb1, cb2, fb0, fb1, fb2⟩ := BK2a.out.cells; have nb := NB.out; have nc := NB.out.symm))
  refine bodyPost_ret (results_ct rfl _ _ g2 45 #[.slice A0 lw.length c0, .slice A1 lu.length c1, .slice A2 la.length c2] (0, 0) _ rfl (B3.all BK2a.out _ _ _) Try.underlying45 rfl (by kernel_rfl)) rfl ?_
  exact ⟨_, rfl, _, _, _, rfl, (H0.out.below HBa.out).putAll BK2a.out (by decide) _ _ _, (H1.out.below HBa.out).putAll BK2a.out (by decide) _ _ _, (H2.out.below HBa.out).putAll BK2a.out (by decide) _ _ _, below_all HBa.out GE2.out _ _ _⟩

set_option maxHeartbeats 2000000 in
set_option maxRecDepth 100000 in
theorem ask21_waits (nm : ByteArray) (hs : nm.size ≤ 100) {lw lu : List ByteArray} {la : List Int} {v0 v1 v2 : Value} (h0 : RdS b w v0 lw) (h1 : RdS b w v1 lu) (h2 : RdI b w v2 la) (hb : b ≤ w.heap.size) (hn : nameB nm = true) (hi : 0 ≤ idxOf lw nm 0) :
    Calls Try.prog 21 #[.agg #[v0, v1, v2], .string nm] w fun e w' => ∃ vs, e = .returned (.tuple #[vs, .int .i64 6]) ∧ Back b w w' vs ⟨lw, lu, la⟩ := by
  have NS := Aside0.mk hs
  obtain ⟨A0, c0, rfl, hc0, hC0⟩ := h0.reads
  obtain ⟨A1, c1, rfl, hc1, hC1⟩ := h1.reads
  obtain ⟨A2, c2, rfl, hc2, hC2⟩ := h2.reads
  have H0 := Aside0.mk h0
  have H1 := Aside0.mk h1
  have H2 := Aside0.mk h2
  have HC0 := Aside0.mk hC0
  have HC1 := Aside0.mk hC1
  have HC2 := Aside0.mk hC2
  have L0 := Aside0.mk hc0
  have L1 := Aside0.mk hc1
  have L2 := Aside0.mk hc2
  clear h0 h1 h2 hC0 hC1 hC2 hc0 hc1 hc2
  have HN := Aside0.mk (fun W => name41_raw nm (by omega) W)
  rw [hn] at HN
  clear hn
  have HP0 := Aside0.mk (fun W (h : Below w.heap.size w W) => place27_raw nm lw A0 c0 W (Kd.C_below HC0.out h) L0.out)
  have HP1 := Aside0.mk (fun W (h : Below w.heap.size w W) => place27_raw nm lu A1 c1 W (Kd.C_below HC1.out h) L1.out)
  generalize idxOf lw nm 0 = i0 at HP0 hi
  have hd0 : decide (0 ≤ i0) = true := decide_eq_true hi
  go_enter Try.func21, Try.ntmps21
  go_wp2_with (first
    | ((with_reducible refine gate_dst (N := 2) rfl ?_); refine box_event ?hg (N := 2) ?hd (cs := #[.slice A0 lw.length c0, .slice A1 lu.length c1, .slice A2 la.length c2]) (t := 45) ?hr ?_; (case hd => rfl); (case hg => rfl); (case hr => first | (go_simp; done) | (go_simp; rfl)); intro g1 hg w1 hbox hb; have BK1 := Aside0.mk (show B3 w1 g1 _ _ _ from hbox); have HB1 := Aside0.mk hb; have GE1 := Aside0.mk (show w.heap.size ≤ g1 by rw [hg]; exact Nat.le_refl _); clear hbox hb hg)
    | ((with_reducible refine gate_dst (N := 4) rfl ?_); refine box_event ?hg (N := 4) ?hd (cs := #[.slice none 0 0, .slice none 0 0, .slice none 0 0]) (t := 45) ?hr ?_; (case hd => rfl); (case hg => rfl); (case hr => first | (go_simp; done) | (go_simp; rfl)); intro g2 hg w2 hbox hb; have BK2 := Aside0.mk (show B3 w2 g2 _ _ _ from hbox); have BK1b := Aside0.mk (BK1.out.below hb); have HB2 := Aside0.mk (below_step HB1.out hb); have GE2 := Aside0.mk (show w.heap.size ≤ g2 by rw [hg]; exact HB1.out.size); have NB := Aside0.mk (show g1 ≠ g2 by rw [hg]; exact Nat.ne_of_lt (blk_lt BK1.out)); clear hbox hb hg)
    | (go_at_call 41; (with_reducible refine (HN.out _).mono ?_); rintro e wa ⟨rfl, hb0⟩; have hba := Drawn0.below hb0; clear hb0; have BK1a := Aside0.mk (BK1b.out.below hba); have BK2a := Aside0.mk (BK2.out.below hba); have HBa := Aside0.mk (below_step HB2.out hba); clear hba; obtain ⟨ca0, ca1, ca2, fa0, fa1, fa2⟩ := BK1a.out.cells; obtain ⟨cb0, cb1, cb2, fb0, fb1, fb2⟩ := BK2a.out.cells; have nb := NB.out; have nc := NB.out.symm)
    | (go_at_call 27; (with_reducible refine (HP0.out _ HBa.out).mono ?_); rintro e wc ⟨rfl, hb0⟩; have hbc := Drawn0.below hb0; clear hb0; have BK1c := Aside0.mk (BK1a.out.below hbc); have BK2c := Aside0.mk (BK2a.out.below hbc); have HBc := Aside0.mk (below_step HBa.out hbc); clear hbc; obtain ⟨ca0, ca1, ca2, fa0, fa1, fa2⟩ := BK1c.out.cells; obtain ⟨cb0, cb1, cb2, fb0, fb1, fb2⟩ := BK2c.out.cells; have nb := NB.out; have nc := NB.out.symm))
  refine bodyPost_ret (results_ct rfl _ _ g2 45 #[.slice A0 lw.length c0, .slice A1 lu.length c1, .slice A2 la.length c2] (0, 0) _ rfl (B3.all BK2c.out _ _ _) Try.underlying45 rfl (by kernel_rfl)) rfl ?_
  exact ⟨_, rfl, _, _, _, rfl, (H0.out.below HBc.out).putAll BK2c.out (by decide) _ _ _, (H1.out.below HBc.out).putAll BK2c.out (by decide) _ _ _, (H2.out.below HBc.out).putAll BK2c.out (by decide) _ _ _, below_all HBc.out GE2.out _ _ _⟩

set_option maxHeartbeats 2000000 in
set_option maxRecDepth 100000 in
theorem ask21_under (nm : ByteArray) (hs : nm.size ≤ 100) {lw lu : List ByteArray} {la : List Int} {v0 v1 v2 : Value} (h0 : RdS b w v0 lw) (h1 : RdS b w v1 lu) (h2 : RdI b w v2 la) (hb : b ≤ w.heap.size) (hn : nameB nm = true) (hi : idxOf lw nm 0 < 0) (hj : 0 ≤ idxOf lu nm 0) :
    Calls Try.prog 21 #[.agg #[v0, v1, v2], .string nm] w fun e w' => ∃ vs, e = .returned (.tuple #[vs, .int .i64 6]) ∧ Back b w w' vs ⟨lw, lu, la⟩ := by
  have NS := Aside0.mk hs
  obtain ⟨A0, c0, rfl, hc0, hC0⟩ := h0.reads
  obtain ⟨A1, c1, rfl, hc1, hC1⟩ := h1.reads
  obtain ⟨A2, c2, rfl, hc2, hC2⟩ := h2.reads
  have H0 := Aside0.mk h0
  have H1 := Aside0.mk h1
  have H2 := Aside0.mk h2
  have HC0 := Aside0.mk hC0
  have HC1 := Aside0.mk hC1
  have HC2 := Aside0.mk hC2
  have L0 := Aside0.mk hc0
  have L1 := Aside0.mk hc1
  have L2 := Aside0.mk hc2
  clear h0 h1 h2 hC0 hC1 hC2 hc0 hc1 hc2
  have HN := Aside0.mk (fun W => name41_raw nm (by omega) W)
  rw [hn] at HN
  clear hn
  have HP0 := Aside0.mk (fun W (h : Below w.heap.size w W) => place27_raw nm lw A0 c0 W (Kd.C_below HC0.out h) L0.out)
  have HP1 := Aside0.mk (fun W (h : Below w.heap.size w W) => place27_raw nm lu A1 c1 W (Kd.C_below HC1.out h) L1.out)
  generalize idxOf lw nm 0 = i0 at HP0 hi
  generalize idxOf lu nm 0 = i1 at HP1 hj
  have hd0 : decide (0 ≤ i0) = false := decide_eq_false (by omega)
  have hd1 : decide (0 ≤ i1) = true := decide_eq_true hj
  go_enter Try.func21, Try.ntmps21
  go_wp2_with (first
    | ((with_reducible refine gate_dst (N := 2) rfl ?_); refine box_event ?hg (N := 2) ?hd (cs := #[.slice A0 lw.length c0, .slice A1 lu.length c1, .slice A2 la.length c2]) (t := 45) ?hr ?_; (case hd => rfl); (case hg => rfl); (case hr => first | (go_simp; done) | (go_simp; rfl)); intro g1 hg w1 hbox hb; have BK1 := Aside0.mk (show B3 w1 g1 _ _ _ from hbox); have HB1 := Aside0.mk hb; have GE1 := Aside0.mk (show w.heap.size ≤ g1 by rw [hg]; exact Nat.le_refl _); clear hbox hb hg)
    | ((with_reducible refine gate_dst (N := 4) rfl ?_); refine box_event ?hg (N := 4) ?hd (cs := #[.slice none 0 0, .slice none 0 0, .slice none 0 0]) (t := 45) ?hr ?_; (case hd => rfl); (case hg => rfl); (case hr => first | (go_simp; done) | (go_simp; rfl)); intro g2 hg w2 hbox hb; have BK2 := Aside0.mk (show B3 w2 g2 _ _ _ from hbox); have BK1b := Aside0.mk (BK1.out.below hb); have HB2 := Aside0.mk (below_step HB1.out hb); have GE2 := Aside0.mk (show w.heap.size ≤ g2 by rw [hg]; exact HB1.out.size); have NB := Aside0.mk (show g1 ≠ g2 by rw [hg]; exact Nat.ne_of_lt (blk_lt BK1.out)); clear hbox hb hg)
    | (go_at_call 41; (with_reducible refine (HN.out _).mono ?_); rintro e wa ⟨rfl, hb0⟩; have hba := Drawn0.below hb0; clear hb0; have BK1a := Aside0.mk (BK1b.out.below hba); have BK2a := Aside0.mk (BK2.out.below hba); have HBa := Aside0.mk (below_step HB2.out hba); clear hba; obtain ⟨ca0, ca1, ca2, fa0, fa1, fa2⟩ := BK1a.out.cells; obtain ⟨cb0, cb1, cb2, fb0, fb1, fb2⟩ := BK2a.out.cells; have nb := NB.out; have nc := NB.out.symm)
    | (go_at_call 27; (with_reducible refine (HP0.out _ HBa.out).mono ?_); rintro e wc ⟨rfl, hb0⟩; have hbc := Drawn0.below hb0; clear hb0; have BK1c := Aside0.mk (BK1a.out.below hbc); have BK2c := Aside0.mk (BK2a.out.below hbc); have HBc := Aside0.mk (below_step HBa.out hbc); clear hbc; obtain ⟨ca0, ca1, ca2, fa0, fa1, fa2⟩ := BK1c.out.cells; obtain ⟨cb0, cb1, cb2, fb0, fb1, fb2⟩ := BK2c.out.cells; have nb := NB.out; have nc := NB.out.symm)
    | (go_at_call 27; (with_reducible refine (HP1.out _ HBc.out).mono ?_); rintro e wd ⟨rfl, hb0⟩; have hbd := Drawn0.below hb0; clear hb0; have BK1d := Aside0.mk (BK1c.out.below hbd); have BK2d := Aside0.mk (BK2c.out.below hbd); have HBd := Aside0.mk (below_step HBc.out hbd); clear hbd; obtain ⟨ca0, ca1, ca2, fa0, fa1, fa2⟩ := BK1d.out.cells; obtain ⟨cb0, cb1, cb2, fb0, fb1, fb2⟩ := BK2d.out.cells; have nb := NB.out; have nc := NB.out.symm))
  refine bodyPost_ret (results_ct rfl _ _ g2 45 #[.slice A0 lw.length c0, .slice A1 lu.length c1, .slice A2 la.length c2] (0, 0) _ rfl (B3.all BK2d.out _ _ _) Try.underlying45 rfl (by kernel_rfl)) rfl ?_
  exact ⟨_, rfl, _, _, _, rfl, (H0.out.below HBd.out).putAll BK2d.out (by decide) _ _ _, (H1.out.below HBd.out).putAll BK2d.out (by decide) _ _ _, (H2.out.below HBd.out).putAll BK2d.out (by decide) _ _ _, below_all HBd.out GE2.out _ _ _⟩

set_option maxHeartbeats 2000000 in
set_option maxRecDepth 100000 in
theorem ask21_full (nm : ByteArray) (hs : nm.size ≤ 100) {lw lu : List ByteArray} {la : List Int} {v0 v1 v2 : Value} (h0 : RdS b w v0 lw) (h1 : RdS b w v1 lu) (h2 : RdI b w v2 la) (hb : b ≤ w.heap.size) (hn : nameB nm = true) (hi : idxOf lw nm 0 < 0) (hj : idxOf lu nm 0 < 0) (hl : ¬ lw.length < 16) :
    Calls Try.prog 21 #[.agg #[v0, v1, v2], .string nm] w fun e w' => ∃ vs, e = .returned (.tuple #[vs, .int .i64 7]) ∧ Back b w w' vs ⟨lw, lu, la⟩ := by
  have NS := Aside0.mk hs
  obtain ⟨A0, c0, rfl, hc0, hC0⟩ := h0.reads
  obtain ⟨A1, c1, rfl, hc1, hC1⟩ := h1.reads
  obtain ⟨A2, c2, rfl, hc2, hC2⟩ := h2.reads
  have H0 := Aside0.mk h0
  have H1 := Aside0.mk h1
  have H2 := Aside0.mk h2
  have HC0 := Aside0.mk hC0
  have HC1 := Aside0.mk hC1
  have HC2 := Aside0.mk hC2
  have L0 := Aside0.mk hc0
  have L1 := Aside0.mk hc1
  have L2 := Aside0.mk hc2
  clear h0 h1 h2 hC0 hC1 hC2 hc0 hc1 hc2
  have HN := Aside0.mk (fun W => name41_raw nm (by omega) W)
  rw [hn] at HN
  clear hn
  have HP0 := Aside0.mk (fun W (h : Below w.heap.size w W) => place27_raw nm lw A0 c0 W (Kd.C_below HC0.out h) L0.out)
  have HP1 := Aside0.mk (fun W (h : Below w.heap.size w W) => place27_raw nm lu A1 c1 W (Kd.C_below HC1.out h) L1.out)
  generalize idxOf lw nm 0 = i0 at HP0 hi
  generalize idxOf lu nm 0 = i1 at HP1 hj
  have hd0 : decide (0 ≤ i0) = false := decide_eq_false (by omega)
  have hd1 : decide (0 ≤ i1) = false := decide_eq_false (by omega)
  have hl2 : decide ((16 : Int) ≤ (lw.length : Int)) = true := decide_eq_true (by omega)
  have hl3 : decide (16 ≤ lw.length) = true := decide_eq_true (by omega)
  go_enter Try.func21, Try.ntmps21
  go_wp2_with (first
    | ((with_reducible refine gate_dst (N := 2) rfl ?_); refine box_event ?hg (N := 2) ?hd (cs := #[.slice A0 lw.length c0, .slice A1 lu.length c1, .slice A2 la.length c2]) (t := 45) ?hr ?_; (case hd => rfl); (case hg => rfl); (case hr => first | (go_simp; done) | (go_simp; rfl)); intro g1 hg w1 hbox hb; have BK1 := Aside0.mk (show B3 w1 g1 _ _ _ from hbox); have HB1 := Aside0.mk hb; have GE1 := Aside0.mk (show w.heap.size ≤ g1 by rw [hg]; exact Nat.le_refl _); clear hbox hb hg)
    | ((with_reducible refine gate_dst (N := 4) rfl ?_); refine box_event ?hg (N := 4) ?hd (cs := #[.slice none 0 0, .slice none 0 0, .slice none 0 0]) (t := 45) ?hr ?_; (case hd => rfl); (case hg => rfl); (case hr => first | (go_simp; done) | (go_simp; rfl)); intro g2 hg w2 hbox hb; have BK2 := Aside0.mk (show B3 w2 g2 _ _ _ from hbox); have BK1b := Aside0.mk (BK1.out.below hb); have HB2 := Aside0.mk (below_step HB1.out hb); have GE2 := Aside0.mk (show w.heap.size ≤ g2 by rw [hg]; exact HB1.out.size); have NB := Aside0.mk (show g1 ≠ g2 by rw [hg]; exact Nat.ne_of_lt (blk_lt BK1.out)); clear hbox hb hg)
    | (go_at_call 41; (with_reducible refine (HN.out _).mono ?_); rintro e wa ⟨rfl, hb0⟩; have hba := Drawn0.below hb0; clear hb0; have BK1a := Aside0.mk (BK1b.out.below hba); have BK2a := Aside0.mk (BK2.out.below hba); have HBa := Aside0.mk (below_step HB2.out hba); clear hba; obtain ⟨ca0, ca1, ca2, fa0, fa1, fa2⟩ := BK1a.out.cells; obtain ⟨cb0, cb1, cb2, fb0, fb1, fb2⟩ := BK2a.out.cells; have nb := NB.out; have nc := NB.out.symm)
    | (go_at_call 27; (with_reducible refine (HP0.out _ HBa.out).mono ?_); rintro e wc ⟨rfl, hb0⟩; have hbc := Drawn0.below hb0; clear hb0; have BK1c := Aside0.mk (BK1a.out.below hbc); have BK2c := Aside0.mk (BK2a.out.below hbc); have HBc := Aside0.mk (below_step HBa.out hbc); clear hbc; obtain ⟨ca0, ca1, ca2, fa0, fa1, fa2⟩ := BK1c.out.cells; obtain ⟨cb0, cb1, cb2, fb0, fb1, fb2⟩ := BK2c.out.cells; have nb := NB.out; have nc := NB.out.symm)
    | (go_at_call 27; (with_reducible refine (HP1.out _ HBc.out).mono ?_); rintro e wd ⟨rfl, hb0⟩; have hbd := Drawn0.below hb0; clear hb0; have BK1d := Aside0.mk (BK1c.out.below hbd); have BK2d := Aside0.mk (BK2c.out.below hbd); have HBd := Aside0.mk (below_step HBc.out hbd); clear hbd; obtain ⟨ca0, ca1, ca2, fa0, fa1, fa2⟩ := BK1d.out.cells; obtain ⟨cb0, cb1, cb2, fb0, fb1, fb2⟩ := BK2d.out.cells; have nb := NB.out; have nc := NB.out.symm))
  refine bodyPost_ret (results_ct rfl _ _ g2 45 #[.slice A0 lw.length c0, .slice A1 lu.length c1, .slice A2 la.length c2] (0, 0) _ rfl (B3.all BK2d.out _ _ _) Try.underlying45 rfl (by kernel_rfl)) rfl ?_
  exact ⟨_, rfl, _, _, _, rfl, (H0.out.below HBd.out).putAll BK2d.out (by decide) _ _ _, (H1.out.below HBd.out).putAll BK2d.out (by decide) _ _ _, (H2.out.below HBd.out).putAll BK2d.out (by decide) _ _ _, below_all HBd.out GE2.out _ _ _⟩

set_option maxHeartbeats 2000000 in
set_option maxRecDepth 100000 in
theorem ask21_ok (nm : ByteArray) (hs : nm.size ≤ 100) {lw lu : List ByteArray} {la : List Int} {v0 v1 v2 : Value} (h0 : RdS b w v0 lw) (h1 : RdS b w v1 lu) (h2 : RdI b w v2 la) (hb : b ≤ w.heap.size) (hn : nameB nm = true) (hi : idxOf lw nm 0 < 0) (hj : idxOf lu nm 0 < 0) (hl : lw.length < 16) :
    Calls Try.prog 21 #[.agg #[v0, v1, v2], .string nm] w fun e w' => ∃ vs, e = .returned (.tuple #[vs, .int .i64 0]) ∧ Back b w w' vs ⟨lw ++ [nm], lu, la⟩ := by
  have NS := Aside0.mk hs
  obtain ⟨A0, c0, rfl, hc0, hC0⟩ := h0.reads
  obtain ⟨A1, c1, rfl, hc1, hC1⟩ := h1.reads
  obtain ⟨A2, c2, rfl, hc2, hC2⟩ := h2.reads
  have H0 := Aside0.mk h0
  have H1 := Aside0.mk h1
  have H2 := Aside0.mk h2
  have HC0 := Aside0.mk hC0
  have HC1 := Aside0.mk hC1
  have HC2 := Aside0.mk hC2
  have L0 := Aside0.mk hc0
  have L1 := Aside0.mk hc1
  have L2 := Aside0.mk hc2
  clear h0 h1 h2 hC0 hC1 hC2 hc0 hc1 hc2
  have HN := Aside0.mk (fun W => name41_raw nm (by omega) W)
  rw [hn] at HN
  clear hn
  have HP0 := Aside0.mk (fun W (h : Below w.heap.size w W) => place27_raw nm lw A0 c0 W (Kd.C_below HC0.out h) L0.out)
  have HP1 := Aside0.mk (fun W (h : Below w.heap.size w W) => place27_raw nm lu A1 c1 W (Kd.C_below HC1.out h) L1.out)
  generalize idxOf lw nm 0 = i0 at HP0 hi
  generalize idxOf lu nm 0 = i1 at HP1 hj
  have HW := Aside0.mk (fun W (h : Below w.heap.size w W) => with_raw nm lw A0 c0 W (Kd.C_below HC0.out h) L0.out (by omega))
  generalize lw ++ [nm] = ln at HW ⊢
  have hd0 : decide (0 ≤ i0) = false := decide_eq_false (by omega)
  have hd1 : decide (0 ≤ i1) = false := decide_eq_false (by omega)
  have hl2 : decide ((16 : Int) ≤ (lw.length : Int)) = false := decide_eq_false (by omega)
  have hl3 : decide (16 ≤ lw.length) = false := decide_eq_false (by omega)
  go_enter Try.func21, Try.ntmps21
  go_wp2_with (first
    | ((with_reducible refine gate_dst (N := 2) rfl ?_); refine box_event ?hg (N := 2) ?hd (cs := #[.slice A0 lw.length c0, .slice A1 lu.length c1, .slice A2 la.length c2]) (t := 45) ?hr ?_; (case hd => rfl); (case hg => rfl); (case hr => first | (go_simp; done) | (go_simp; rfl)); intro g1 hg w1 hbox hb; have BK1 := Aside0.mk (show B3 w1 g1 _ _ _ from hbox); have HB1 := Aside0.mk hb; have GE1 := Aside0.mk (show w.heap.size ≤ g1 by rw [hg]; exact Nat.le_refl _); clear hbox hb hg)
    | ((with_reducible refine gate_dst (N := 4) rfl ?_); refine box_event ?hg (N := 4) ?hd (cs := #[.slice none 0 0, .slice none 0 0, .slice none 0 0]) (t := 45) ?hr ?_; (case hd => rfl); (case hg => rfl); (case hr => first | (go_simp; done) | (go_simp; rfl)); intro g2 hg w2 hbox hb; have BK2 := Aside0.mk (show B3 w2 g2 _ _ _ from hbox); have BK1b := Aside0.mk (BK1.out.below hb); have HB2 := Aside0.mk (below_step HB1.out hb); have GE2 := Aside0.mk (show w.heap.size ≤ g2 by rw [hg]; exact HB1.out.size); have NB := Aside0.mk (show g1 ≠ g2 by rw [hg]; exact Nat.ne_of_lt (blk_lt BK1.out)); clear hbox hb hg)
    | (go_at_call 41; (with_reducible refine (HN.out _).mono ?_); rintro e wa ⟨rfl, hb0⟩; have hba := Drawn0.below hb0; clear hb0; have BK1a := Aside0.mk (BK1b.out.below hba); have BK2a := Aside0.mk (BK2.out.below hba); have HBa := Aside0.mk (below_step HB2.out hba); clear hba; obtain ⟨ca0, ca1, ca2, fa0, fa1, fa2⟩ := BK1a.out.cells; obtain ⟨cb0, cb1, cb2, fb0, fb1, fb2⟩ := BK2a.out.cells; have nb := NB.out; have nc := NB.out.symm)
    | (go_at_call 27; (with_reducible refine (HP0.out _ HBa.out).mono ?_); rintro e wc ⟨rfl, hb0⟩; have hbc := Drawn0.below hb0; clear hb0; have BK1c := Aside0.mk (BK1a.out.below hbc); have BK2c := Aside0.mk (BK2a.out.below hbc); have HBc := Aside0.mk (below_step HBa.out hbc); clear hbc; obtain ⟨ca0, ca1, ca2, fa0, fa1, fa2⟩ := BK1c.out.cells; obtain ⟨cb0, cb1, cb2, fb0, fb1, fb2⟩ := BK2c.out.cells; have nb := NB.out; have nc := NB.out.symm)
    | (go_at_call 27; (with_reducible refine (HP1.out _ HBc.out).mono ?_); rintro e wd ⟨rfl, hb0⟩; have hbd := Drawn0.below hb0; clear hb0; have BK1d := Aside0.mk (BK1c.out.below hbd); have BK2d := Aside0.mk (BK2c.out.below hbd); have HBd := Aside0.mk (below_step HBc.out hbd); clear hbd; obtain ⟨ca0, ca1, ca2, fa0, fa1, fa2⟩ := BK1d.out.cells; obtain ⟨cb0, cb1, cb2, fb0, fb1, fb2⟩ := BK2d.out.cells; have nb := NB.out; have nc := NB.out.symm)
    | (go_at_call 42; (with_reducible refine (HW.out _ HBd.out).mono ?_); rintro e wf ⟨v3, rfl, hR, hbf⟩; have BK1f := Aside0.mk (BK1d.out.below hbf); have BK2f := Aside0.mk (BK2d.out.below hbf); have HBf := Aside0.mk (below_step HBd.out hbf); clear hbf; obtain ⟨ca0, ca1, ca2, fa0, fa1, fa2⟩ := BK1f.out.cells; obtain ⟨cb0, cb1, cb2, fb0, fb1, fb2⟩ := BK2f.out.cells; have nb := NB.out; have nc := NB.out.symm; have HR := Aside0.mk ((Rd.of_R hR).lower (Nat.le_trans hb HBd.out.size)); obtain ⟨A3, n3, rfl⟩ := Kd.R_slice hR; clear hR))
  refine bodyPost_ret (results_ct rfl _ _ g2 45 #[.slice A3 ln.length n3, .slice A1 lu.length c1, .slice A2 la.length c2] (0, 0) _ rfl (B3.all (BK2f.out.far NB.out.symm _) _ _ _) Try.underlying45 rfl (by kernel_rfl)) rfl ?_
  exact ⟨_, rfl, _, _, _, rfl, (HR.out.put BK1f.out (by decide) _).putAll (BK2f.out.far NB.out.symm _) (by decide) _ _ _, ((H1.out.below HBf.out).put BK1f.out (by decide) _).putAll (BK2f.out.far NB.out.symm _) (by decide) _ _ _, ((H2.out.below HBf.out).put BK1f.out (by decide) _).putAll (BK2f.out.far NB.out.symm _) (by decide) _ _ _, below_all (below_set HBf.out GE1.out) GE2.out _ _ _⟩

/-- Ask of the reference. -/
theorem ref_ask (nm : ByteArray) (hs : nm.size ≤ 100) (r : Rf) {v0 v1 v2 : Value} (h0 : RdS b w v0 r.w) (h1 : RdS b w v1 r.u) (h2 : RdI b w v2 r.a) (hb : b ≤ w.heap.size) :
    Calls Try.prog 21 #[.agg #[v0, v1, v2], .string nm] w fun e w' => ∃ vs, e = .returned (.tuple #[vs, .int .i64 (refAsk r nm).1]) ∧ Back b w w' vs (refAsk r nm).2 := by
  unfold refAsk
  by_cases hn : nameB nm = true
  · rw [if_pos hn]
    by_cases hi : 0 ≤ idxOf r.w nm 0
    · rw [idx_has nm r.w, decide_eq_true hi]
      exact ask21_waits nm hs h0 h1 h2 hb hn hi
    · by_cases hj : 0 ≤ idxOf r.u nm 0
      · rw [idx_has nm r.u, decide_eq_true hj, Bool.or_true]
        exact ask21_under nm hs h0 h1 h2 hb hn (by omega) hj
      · rw [idx_has nm r.w, idx_has nm r.u, decide_eq_false hi, decide_eq_false hj, if_neg (by decide)]
        by_cases hl : r.w.length < 16
        · rw [if_pos hl]
          exact ask21_ok nm hs h0 h1 h2 hb hn (by omega) (by omega) hl
        · rw [if_neg hl]
          exact ask21_full nm hs h0 h1 h2 hb hn (by omega) (by omega) hl
  · rw [if_neg hn]
    exact ask21_bad nm hs h0 h1 h2 hb (Bool.eq_false_iff.2 hn)

end Go.Proofs.Ytmkijdkfogebjaa.Man
namespace Go.Proofs.Ytmkijdkfogebjaa.Man
open Go.RowKit Go.Proofs.YtmkijdkfogebjaaW.PrintWords Go.Proofs.YtmkijdkfogebjaaW.PrintLast Go.Proofs.YtmkijdkfogebjaaW.PrintMore Go.Proofs.Ytmkijdkfogebjaa.PA Go.Proofs.Ytmkijdkfogebjaa.Na Go.Proofs.Ytmkijdkfogebjaa.Hid
variable {w : World} {b : Nat}
theorem cut_mn (dl : Int) : hostlerref01_Cut.f dl = some (mn (mx dl 0) 1099511627776) := by
  unfold hostlerref01_Cut.f mn mx
  by_cases h : dl < 0
  · simp [h]
  · by_cases h2 : dl > 1099511627776
    · simp [h, h2]
    · simp [h, h2]

set_option maxHeartbeats 2000000 in
set_option maxRecDepth 100000 in
theorem beg22_bad (nm : ByteArray) (dl : Int) (hs : nm.size ≤ 100) {lw lu : List ByteArray} {la : List Int} {v0 v1 v2 : Value} (h0 : RdS b w v0 lw) (h1 : RdS b w v1 lu) (h2 : RdI b w v2 la) (hb : b ≤ w.heap.size) (hn : nameB nm = false) :
    Calls Try.prog 22 #[.agg #[v0, v1, v2], .string nm, .int .i64 dl] w fun e w' => ∃ vs, e = .returned (.tuple #[vs, .int .i64 11]) ∧ Back b w w' vs ⟨lw, lu, la⟩ := by
  have NS := Aside0.mk hs
  obtain ⟨A0, c0, rfl, hc0, hC0⟩ := h0.reads
  obtain ⟨A1, c1, rfl, hc1, hC1⟩ := h1.reads
  obtain ⟨A2, c2, rfl, hc2, hC2⟩ := h2.reads
  have H0 := Aside0.mk h0
  have H1 := Aside0.mk h1
  have H2 := Aside0.mk h2
  have HC0 := Aside0.mk hC0
  have HC1 := Aside0.mk hC1
  have HC2 := Aside0.mk hC2
  have L0 := Aside0.mk hc0
  have L1 := Aside0.mk hc1
  have L2 := Aside0.mk hc2
  clear h0 h1 h2 hC0 hC1 hC2 hc0 hc1 hc2
  have HN := Aside0.mk (fun W => name41_raw nm (by omega) W)
  rw [hn] at HN
  clear hn
  have HP0 := Aside0.mk (fun W (h : Below w.heap.size w W) => place27_raw nm lw A0 c0 W (Kd.C_below HC0.out h) L0.out)
  have HP1 := Aside0.mk (fun W (h : Below w.heap.size w W) => place27_raw nm lu A1 c1 W (Kd.C_below HC1.out h) L1.out)
  go_enter Try.func22, Try.ntmps22
  go_wp2_with (first
    | ((with_reducible refine gate_dst (N := 3) rfl ?_); refine box_event ?hg (N := 3) ?hd (cs := #[.slice A0 lw.length c0, .slice A1 lu.length c1, .slice A2 la.length c2]) (t := 45) ?hr ?_; (case hd => rfl); (case hg => rfl); (case hr => first | (go_simp; done) | (go_simp; rfl)); intro g1 hg w1 hbox hb; have BK1 := Aside0.mk (show B3 w1 g1 _ _ _ from hbox); have HB1 := Aside0.mk hb; have GE1 := Aside0.mk (show w.heap.size ≤ g1 by rw [hg]; exact Nat.le_refl _); clear hbox hb hg)
    | ((with_reducible refine gate_dst (N := 6) rfl ?_); refine box_event ?hg (N := 6) ?hd (cs := #[.slice none 0 0, .slice none 0 0, .slice none 0 0]) (t := 45) ?hr ?_; (case hd => rfl); (case hg => rfl); (case hr => first | (go_simp; done) | (go_simp; rfl)); intro g2 hg w2 hbox hb; have BK2 := Aside0.mk (show B3 w2 g2 _ _ _ from hbox); have BK1b := Aside0.mk (BK1.out.below hb); have HB2 := Aside0.mk (below_step HB1.out hb); have GE2 := Aside0.mk (show w.heap.size ≤ g2 by rw [hg]; exact HB1.out.size); have NB := Aside0.mk (show g1 ≠ g2 by rw [hg]; exact Nat.ne_of_lt (blk_lt BK1.out)); clear hbox hb hg)
    | (go_at_call 41; (with_reducible refine (HN.out _).mono ?_); rintro e wa ⟨rfl, hb0⟩; have hba := Drawn0.below hb0; clear hb0; have BK1a := Aside0.mk (BK1b.out.below hba); have BK2a := Aside0.mk (BK2.out.below hba); have HBa := Aside0.mk (below_step HB2.out hba); clear hba; obtain ⟨ca0, ca1, ca2, fa0, fa1, fa2⟩ := BK1a.out.cells; obtain ⟨cb0, cb1, cb2, fb0, fb1, fb2⟩ := BK2a.out.cells; have nb := NB.out; have nc := NB.out.symm))
  refine bodyPost_ret (results_ct rfl _ _ g2 45 #[.slice A0 lw.length c0, .slice A1 lu.length c1, .slice A2 la.length c2] (0, 0) _ rfl (B3.all BK2a.out _ _ _) Try.underlying45 rfl (by kernel_rfl)) rfl ?_
  exact ⟨_, rfl, _, _, _, rfl, (H0.out.below HBa.out).putAll BK2a.out (by decide) _ _ _, (H1.out.below HBa.out).putAll BK2a.out (by decide) _ _ _, (H2.out.below HBa.out).putAll BK2a.out (by decide) _ _ _, below_all HBa.out GE2.out _ _ _⟩

set_option maxHeartbeats 2000000 in
set_option maxRecDepth 100000 in
theorem beg22_there (nm : ByteArray) (dl : Int) (hs : nm.size ≤ 100) {lw lu : List ByteArray} {la : List Int} {v0 v1 v2 : Value} (h0 : RdS b w v0 lw) (h1 : RdS b w v1 lu) (h2 : RdI b w v2 la) (hb : b ≤ w.heap.size) (hn : nameB nm = true) (hj : 0 ≤ idxOf lu nm 0) :
    Calls Try.prog 22 #[.agg #[v0, v1, v2], .string nm, .int .i64 dl] w fun e w' => ∃ vs, e = .returned (.tuple #[vs, .int .i64 6]) ∧ Back b w w' vs ⟨lw, lu, la⟩ := by
  have NS := Aside0.mk hs
  obtain ⟨A0, c0, rfl, hc0, hC0⟩ := h0.reads
  obtain ⟨A1, c1, rfl, hc1, hC1⟩ := h1.reads
  obtain ⟨A2, c2, rfl, hc2, hC2⟩ := h2.reads
  have H0 := Aside0.mk h0
  have H1 := Aside0.mk h1
  have H2 := Aside0.mk h2
  have HC0 := Aside0.mk hC0
  have HC1 := Aside0.mk hC1
  have HC2 := Aside0.mk hC2
  have L0 := Aside0.mk hc0
  have L1 := Aside0.mk hc1
  have L2 := Aside0.mk hc2
  clear h0 h1 h2 hC0 hC1 hC2 hc0 hc1 hc2
  have HN := Aside0.mk (fun W => name41_raw nm (by omega) W)
  rw [hn] at HN
  clear hn
  have HP0 := Aside0.mk (fun W (h : Below w.heap.size w W) => place27_raw nm lw A0 c0 W (Kd.C_below HC0.out h) L0.out)
  have HP1 := Aside0.mk (fun W (h : Below w.heap.size w W) => place27_raw nm lu A1 c1 W (Kd.C_below HC1.out h) L1.out)
  generalize idxOf lu nm 0 = i1 at HP1 hj
  have hd1 : decide (0 ≤ i1) = true := decide_eq_true hj
  go_enter Try.func22, Try.ntmps22
  go_wp2_with (first
    | ((with_reducible refine gate_dst (N := 3) rfl ?_); refine box_event ?hg (N := 3) ?hd (cs := #[.slice A0 lw.length c0, .slice A1 lu.length c1, .slice A2 la.length c2]) (t := 45) ?hr ?_; (case hd => rfl); (case hg => rfl); (case hr => first | (go_simp; done) | (go_simp; rfl)); intro g1 hg w1 hbox hb; have BK1 := Aside0.mk (show B3 w1 g1 _ _ _ from hbox); have HB1 := Aside0.mk hb; have GE1 := Aside0.mk (show w.heap.size ≤ g1 by rw [hg]; exact Nat.le_refl _); clear hbox hb hg)
    | ((with_reducible refine gate_dst (N := 6) rfl ?_); refine box_event ?hg (N := 6) ?hd (cs := #[.slice none 0 0, .slice none 0 0, .slice none 0 0]) (t := 45) ?hr ?_; (case hd => rfl); (case hg => rfl); (case hr => first | (go_simp; done) | (go_simp; rfl)); intro g2 hg w2 hbox hb; have BK2 := Aside0.mk (show B3 w2 g2 _ _ _ from hbox); have BK1b := Aside0.mk (BK1.out.below hb); have HB2 := Aside0.mk (below_step HB1.out hb); have GE2 := Aside0.mk (show w.heap.size ≤ g2 by rw [hg]; exact HB1.out.size); have NB := Aside0.mk (show g1 ≠ g2 by rw [hg]; exact Nat.ne_of_lt (blk_lt BK1.out)); clear hbox hb hg)
    | (go_at_call 41; (with_reducible refine (HN.out _).mono ?_); rintro e wa ⟨rfl, hb0⟩; have hba := Drawn0.below hb0; clear hb0; have BK1a := Aside0.mk (BK1b.out.below hba); have BK2a := Aside0.mk (BK2.out.below hba); have HBa := Aside0.mk (below_step HB2.out hba); clear hba; obtain ⟨ca0, ca1, ca2, fa0, fa1, fa2⟩ := BK1a.out.cells; obtain ⟨cb0, cb1, cb2, fb0, fb1, fb2⟩ := BK2a.out.cells; have nb := NB.out; have nc := NB.out.symm)
    | (go_at_call 27; (with_reducible refine (HP1.out _ HBa.out).mono ?_); rintro e wc ⟨rfl, hb0⟩; have hbc := Drawn0.below hb0; clear hb0; have BK1c := Aside0.mk (BK1a.out.below hbc); have BK2c := Aside0.mk (BK2a.out.below hbc); have HBc := Aside0.mk (below_step HBa.out hbc); clear hbc; obtain ⟨ca0, ca1, ca2, fa0, fa1, fa2⟩ := BK1c.out.cells; obtain ⟨cb0, cb1, cb2, fb0, fb1, fb2⟩ := BK2c.out.cells; have nb := NB.out; have nc := NB.out.symm))
  refine bodyPost_ret (results_ct rfl _ _ g2 45 #[.slice A0 lw.length c0, .slice A1 lu.length c1, .slice A2 la.length c2] (0, 0) _ rfl (B3.all BK2c.out _ _ _) Try.underlying45 rfl (by kernel_rfl)) rfl ?_
  exact ⟨_, rfl, _, _, _, rfl, (H0.out.below HBc.out).putAll BK2c.out (by decide) _ _ _, (H1.out.below HBc.out).putAll BK2c.out (by decide) _ _ _, (H2.out.below HBc.out).putAll BK2c.out (by decide) _ _ _, below_all HBc.out GE2.out _ _ _⟩

set_option maxHeartbeats 2000000 in
set_option maxRecDepth 100000 in
theorem beg22_ok (nm : ByteArray) (dl : Int) (hs : nm.size ≤ 100) {lw lu : List ByteArray} {la : List Int} {v0 v1 v2 : Value} (h0 : RdS b w v0 lw) (h1 : RdS b w v1 lu) (h2 : RdI b w v2 la) (hb : b ≤ w.heap.size) (hn : nameB nm = true) (hj : idxOf lu nm 0 < 0) (hl0 : lw.length ≤ 1000) (hl1 : lu.length ≤ 1000) (hl2 : la.length ≤ 1000) :
    Calls Try.prog 22 #[.agg #[v0, v1, v2], .string nm, .int .i64 dl] w fun e w' => ∃ vs, e = .returned (.tuple #[vs, .int .i64 0]) ∧ Back b w w' vs ⟨lw.filter (fun x => !decide (x = nm)), lu ++ [nm], la ++ [mn (mx dl 0) 1099511627776]⟩ := by
  have NS := Aside0.mk hs
  obtain ⟨A0, c0, rfl, hc0, hC0⟩ := h0.reads
  obtain ⟨A1, c1, rfl, hc1, hC1⟩ := h1.reads
  obtain ⟨A2, c2, rfl, hc2, hC2⟩ := h2.reads
  have H0 := Aside0.mk h0
  have H1 := Aside0.mk h1
  have H2 := Aside0.mk h2
  have HC0 := Aside0.mk hC0
  have HC1 := Aside0.mk hC1
  have HC2 := Aside0.mk hC2
  have L0 := Aside0.mk hc0
  have L1 := Aside0.mk hc1
  have L2 := Aside0.mk hc2
  clear h0 h1 h2 hC0 hC1 hC2 hc0 hc1 hc2
  have HN := Aside0.mk (fun W => name41_raw nm (by omega) W)
  rw [hn] at HN
  clear hn
  have HP0 := Aside0.mk (fun W (h : Below w.heap.size w W) => place27_raw nm lw A0 c0 W (Kd.C_below HC0.out h) L0.out)
  have HP1 := Aside0.mk (fun W (h : Below w.heap.size w W) => place27_raw nm lu A1 c1 W (Kd.C_below HC1.out h) L1.out)
  generalize idxOf lu nm 0 = i1 at HP1 hj
  have hd1 : decide (0 ≤ i1) = false := decide_eq_false (by omega)
  have HX := Aside0.mk (fun W (h : Below w.heap.size w W) => without_raw nm lw A0 c0 W (Kd.C_below HC0.out h) L0.out (by omega))
  have HW := Aside0.mk (fun W (h : RdS b W (.slice A1 lu.length c1) lu) => with_raw nm lu A1 c1 W h.C L1.out (by omega))
  have HCV : Aside0 (hostlerref01_Cut.f dl = some (mn (mx dl 0) 1099511627776)) := ⟨cut_mn dl⟩
  generalize mn (mx dl 0) 1099511627776 = cv at HCV ⊢
  generalize (lw.filter (fun x => !decide (x = nm))) = l1 at HX ⊢
  generalize lu ++ [nm] = l2 at HW ⊢
  obtain ⟨l3, hl3⟩ : ∃ l, l = la ++ [cv] := ⟨_, rfl⟩
  rw [← hl3]
  have HL3 := Aside0.mk hl3
  clear hl3
  go_enter Try.func22, Try.ntmps22
  go_wp2_with (first
    | ((with_reducible refine gate_dst (N := 3) rfl ?_); refine box_event ?hg (N := 3) ?hd (cs := #[.slice A0 lw.length c0, .slice A1 lu.length c1, .slice A2 la.length c2]) (t := 45) ?hr ?_; (case hd => rfl); (case hg => rfl); (case hr => first | (go_simp; done) | (go_simp; rfl)); intro g1 hg w1 hbox hb; have BK1 := Aside0.mk (show B3 w1 g1 _ _ _ from hbox); have HB1 := Aside0.mk hb; have GE1 := Aside0.mk (show w.heap.size ≤ g1 by rw [hg]; exact Nat.le_refl _); clear hbox hb hg)
    | ((with_reducible refine gate_dst (N := 6) rfl ?_); refine box_event ?hg (N := 6) ?hd (cs := #[.slice none 0 0, .slice none 0 0, .slice none 0 0]) (t := 45) ?hr ?_; (case hd => rfl); (case hg => rfl); (case hr => first | (go_simp; done) | (go_simp; rfl)); intro g2 hg w2 hbox hb; have BK2 := Aside0.mk (show B3 w2 g2 _ _ _ from hbox); have BK1b := Aside0.mk (BK1.out.below hb); have HB2 := Aside0.mk (below_step HB1.out hb); have GE2 := Aside0.mk (show w.heap.size ≤ g2 by rw [hg]; exact HB1.out.size); have NB := Aside0.mk (show g1 ≠ g2 by rw [hg]; exact Nat.ne_of_lt (blk_lt BK1.out)); clear hbox hb hg)
    | (go_at_call 41; (with_reducible refine (HN.out _).mono ?_); rintro e wa ⟨rfl, hb0⟩; have hba := Drawn0.below hb0; clear hb0; have BK1a := Aside0.mk (BK1b.out.below hba); have BK2a := Aside0.mk (BK2.out.below hba); have HBa := Aside0.mk (below_step HB2.out hba); clear hba; obtain ⟨ca0, ca1, ca2, fa0, fa1, fa2⟩ := BK1a.out.cells; obtain ⟨cb0, cb1, cb2, fb0, fb1, fb2⟩ := BK2a.out.cells; have nb := NB.out; have nc := NB.out.symm)
    | (go_at_call 27; (with_reducible refine (HP1.out _ HBa.out).mono ?_); rintro e wc ⟨rfl, hb0⟩; have hbc := Drawn0.below hb0; clear hb0; have BK1c := Aside0.mk (BK1a.out.below hbc); have BK2c := Aside0.mk (BK2a.out.below hbc); have HBc := Aside0.mk (below_step HBa.out hbc); clear hbc; obtain ⟨ca0, ca1, ca2, fa0, fa1, fa2⟩ := BK1c.out.cells; obtain ⟨cb0, cb1, cb2, fb0, fb1, fb2⟩ := BK2c.out.cells; have nb := NB.out; have nc := NB.out.symm)
    | (go_at_call 43; (with_reducible refine (HX.out _ HBc.out).mono ?_); rintro e wf ⟨v3, rfl, hR, hbf⟩; have BK1f := Aside0.mk (BK1c.out.below hbf); have BK2f := Aside0.mk (BK2c.out.below hbf); have HBf := Aside0.mk (below_step HBc.out hbf); clear hbf; obtain ⟨ca0, ca1, ca2, fa0, fa1, fa2⟩ := BK1f.out.cells; obtain ⟨cb0, cb1, cb2, fb0, fb1, fb2⟩ := BK2f.out.cells; have nb := NB.out; have nc := NB.out.symm; have HR3 := Aside0.mk ((Rd.of_R hR).lower (Nat.le_trans hb HBc.out.size)); obtain ⟨A3, n3, rfl⟩ := Kd.R_slice hR; clear hR)
    | (go_at_call 42; (refine (HW.out _ ((H1.out.below HBf.out).put BK1f.out (by decide) _)).mono ?_); rintro e wh ⟨v4, rfl, hR, hbh⟩; have BK1h := Aside0.mk (B3.below (BK1f.out.put0 _) hbh); have BK2h := Aside0.mk (B3.below (BK2f.out.far NB.out.symm _) hbh); have HBh := Aside0.mk (below_step (below_set HBf.out GE1.out) hbh); obtain ⟨ca0, ca1, ca2, fa0, fa1, fa2⟩ := BK1h.out.cells; obtain ⟨cb0, cb1, cb2, fb0, fb1, fb2⟩ := BK2h.out.cells; have nb := NB.out; have nc := NB.out.symm; have HR3h := Aside0.mk ((HR3.out.put BK1f.out (by decide) _).below hbh); have HR4 := Aside0.mk ((Rd.of_R hR).lower (Nat.le_trans hb (below_set (j := 0) HBf.out GE1.out (v := .slice A3 l1.length n3)).size)); obtain ⟨A4, n4, rfl⟩ := Kd.R_slice hR; clear hR; clear hbh)
    | ((with_reducible refine gate_builtin (b := .append) (xs := #[.tmp 31, .tmp 33]) rfl ?_); at_builtin; refine Kd.R_append_rows (Kd.int .i64) (w0 := w) w.heap.size rfl (.tmp 31) (.tmp 33) 38 3 (.int .i64 0) 8 rfl Try.underlying38 info3 rfl (by decide) (by omega) (.slice none 0 0) ([] : List Int) la _ _ _ (fun _ => True) (fun _ => False) rfl rfl ?aO ?aR (fun _ _ h => h) (fun _ h => h.elim) ?aF ?aB ?aS ?aL ?_; (case aR => exact ((H2.out.below HBh.out).put BK1h.out (by decide) _).C); (case aB => exact below_set HBh.out GE1.out); (case aF => exact (fun _ _ => trivial)); (case aO => exact ((Kd.R_nil _ _ _ _ (fun _ => True)))); (case aS => exact (below_set HBh.out GE1.out).size); (case aL => have := hl2; simp; omega); intro v5 wi ho hbi hgi hat; rw [List.nil_append] at ho; have HR5 := Aside0.mk ho; have HBi := Aside0.mk hbi; have BK1i := Aside0.mk ((BK1h.out.put1 _).grown (Kd.R_nil (Kd.int .i64) 3 _ w.heap.size (fun _ => True)) hgi (by decide)); have BK2i := Aside0.mk ((BK2h.out.far NB.out.symm _).grown (Kd.R_nil (Kd.int .i64) 3 _ w.heap.size (fun _ => True)) hgi (by decide)); have HR3i := Aside0.mk ((HR3h.out.put BK1h.out (by decide) _).grown (Kd.R_nil (Kd.int .i64) 3 _ w.heap.size (fun _ => True)) hgi (by decide)); have HR4i := Aside0.mk ((HR4.out.put BK1h.out (by decide) _).grown (Kd.R_nil (Kd.int .i64) 3 _ w.heap.size (fun _ => True)) hgi (by decide)); clear ho hbi hgi hat)
    | (go_at_call 44; (refine (hostlerref01_Cut.calls dl cv _ HCV.out).mono ?_); rintro e wj ⟨rfl, hb0⟩; have hbj := Drawn0.below hb0; clear hb0; have BK1j := Aside0.mk (BK1i.out.below hbj); have BK2j := Aside0.mk (BK2i.out.below hbj); have HBj := Aside0.mk (below_step HBi.out hbj); have HR3j := Aside0.mk (HR3i.out.below hbj); have HR4j := Aside0.mk (HR4i.out.below hbj); have HR5j := Aside0.mk (Kd.R_below HR5.out hbj); clear hbj; obtain ⟨ca0, ca1, ca2, fa0, fa1, fa2⟩ := BK1j.out.cells; obtain ⟨cb0, cb1, cb2, fb0, fb1, fb2⟩ := BK2j.out.cells; have nb := NB.out; have nc := NB.out.symm)
    | ((with_reducible refine gate_builtin (b := .append) (xs := #[.tmp 35, .tmp 38]) rfl ?_); at_builtin; refine Kd.R_append (Kd.int .i64) (w0 := w) w.heap.size rfl (.tmp 35) (.tmp 38) 38 3 (.int .i64 0) 8 rfl Try.underlying38 info3 rfl (by decide) (by omega) v5 la cv [.int .i64 cv] (fun _ => True) (fun _ => False) rfl rfl ?aP (fun _ hk => hk.elim) ?aF ?aO ?aB ?aS ?aL ?_; (case aP => exact rfl); (case aB => exact HBj.out); (case aF => exact (fun _ _ => trivial)); (case aO => exact HR5j.out); (case aS => exact HBj.out.size); (case aL => have := hl2; omega); intro v6 wk ho hbk hgk hat; rw [← HL3.out] at ho; have HR6 := Aside0.mk ((Rd.of_R ho).lower hb); have HBk := Aside0.mk hbk; have BK1k := Aside0.mk (BK1j.out.grown HR5j.out hgk (by decide)); have BK2k := Aside0.mk (BK2j.out.grown HR5j.out hgk (by decide)); have HR3k := Aside0.mk (HR3j.out.grown HR5j.out hgk (by decide)); have HR4k := Aside0.mk (HR4j.out.grown HR5j.out hgk (by decide)); obtain ⟨A6, n6, rfl⟩ := Kd.R_slice ho; clear ho hbk hgk hat; obtain ⟨ca0, ca1, ca2, fa0, fa1, fa2⟩ := BK1k.out.cells; obtain ⟨cb0, cb1, cb2, fb0, fb1, fb2⟩ := BK2k.out.cells; have nb := NB.out; have nc := NB.out.symm))
  refine bodyPost_ret (results_ct rfl _ _ g2 45 #[.slice A3 l1.length n3, .slice A4 l2.length n4, .slice A6 l3.length n6] (0, 0) _ rfl (B3.all (BK2k.out.far NB.out.symm _) _ _ _) Try.underlying45 rfl (by kernel_rfl)) rfl ?_
  exact ⟨_, rfl, _, _, _, rfl, (HR3k.out.put BK1k.out (by decide) _).putAll (BK2k.out.far NB.out.symm _) (by decide) _ _ _, (HR4k.out.put BK1k.out (by decide) _).putAll (BK2k.out.far NB.out.symm _) (by decide) _ _ _, (HR6.out.put BK1k.out (by decide) _).putAll (BK2k.out.far NB.out.symm _) (by decide) _ _ _, below_all (below_set HBk.out GE1.out) GE2.out _ _ _⟩

/-- Begin of the reference. -/
theorem ref_begin (nm : ByteArray) (dl : Int) (hs : nm.size ≤ 100) (r : Rf) {v0 v1 v2 : Value} (h0 : RdS b w v0 r.w) (h1 : RdS b w v1 r.u) (h2 : RdI b w v2 r.a) (hb : b ≤ w.heap.size) (hl0 : r.w.length ≤ 1000) (hl1 : r.u.length ≤ 1000) (hl2 : r.a.length ≤ 1000) :
    Calls Try.prog 22 #[.agg #[v0, v1, v2], .string nm, .int .i64 dl] w fun e w' => ∃ vs, e = .returned (.tuple #[vs, .int .i64 (refBegin r nm dl).1]) ∧ Back b w w' vs (refBegin r nm dl).2 := by
  unfold refBegin
  by_cases hn : nameB nm = true
  · rw [if_pos hn]
    by_cases hj : 0 ≤ idxOf r.u nm 0
    · rw [idx_has nm r.u, decide_eq_true hj]
      exact beg22_there nm dl hs h0 h1 h2 hb hn hj
    · rw [idx_has nm r.u, decide_eq_false hj, if_neg (by decide)]
      exact beg22_ok nm dl hs h0 h1 h2 hb hn (by omega) hl0 hl1 hl2
  · rw [if_neg hn]
    exact beg22_bad nm dl hs h0 h1 h2 hb (Bool.eq_false_iff.2 hn)

end Go.Proofs.Ytmkijdkfogebjaa.Man
namespace Go.Proofs.Ytmkijdkfogebjaa.Man
open Go.RowKit Go.Proofs.YtmkijdkfogebjaaW.PrintWords Go.Proofs.YtmkijdkfogebjaaW.PrintLast Go.Proofs.YtmkijdkfogebjaaW.PrintMore Go.Proofs.Ytmkijdkfogebjaa.PA Go.Proofs.Ytmkijdkfogebjaa.Na Go.Proofs.Ytmkijdkfogebjaa.Hid
variable {w : World} {b : Nat}

set_option maxHeartbeats 2000000 in
set_option maxRecDepth 100000 in
theorem first24_nil (Am : Option Addr) (cm : Nat) (may : List ByteArray) (HM : Aside0 (Kd.C Kd.string w Am may.length may)) (LM : Aside0 (may.length ≤ cm)) {lw lu : List ByteArray} {la : List Int} {v0 v1 v2 : Value} (h0 : RdS b w v0 lw) (h1 : RdS b w v1 lu) (h2 : RdI b w v2 la) (hb : b ≤ w.heap.size) (hl : lw = []) :
    Calls Try.prog 24 #[.agg #[v0, v1, v2], .slice Am may.length cm] w fun e w' => ∃ vs, e = .returned (.tuple #[vs, .string ⟨#[]⟩, .bool false]) ∧ Back b w w' vs ⟨lw, lu, la⟩ := by
  obtain ⟨A0, c0, rfl, hc0, hC0⟩ := h0.reads
  obtain ⟨A1, c1, rfl, hc1, hC1⟩ := h1.reads
  obtain ⟨A2, c2, rfl, hc2, hC2⟩ := h2.reads
  have H0 := Aside0.mk h0
  have H1 := Aside0.mk h1
  have H2 := Aside0.mk h2
  have HC0 := Aside0.mk hC0
  have HC1 := Aside0.mk hC1
  have HC2 := Aside0.mk hC2
  have L0 := Aside0.mk hc0
  have L1 := Aside0.mk hc1
  have L2 := Aside0.mk hc2
  clear h0 h1 h2 hC0 hC1 hC2 hc0 hc1 hc2
  subst hl
  simp only [List.length_nil] at *
  go_enter Try.func24, Try.ntmps24
  go_wp2_with (first
    | ((with_reducible refine gate_dst (N := 2) rfl ?_); refine box_event ?hg (N := 2) ?hd (cs := #[.slice A0 0 c0, .slice A1 lu.length c1, .slice A2 la.length c2]) (t := 45) ?hr ?_; (case hd => rfl); (case hg => rfl); (case hr => first | (go_simp; done) | (go_simp; rfl)); intro g1 hg w1 hbox hb; have BK1 := Aside0.mk (show B3 w1 g1 _ _ _ from hbox); have HB1 := Aside0.mk hb; have GE1 := Aside0.mk (show w.heap.size ≤ g1 by rw [hg]; exact Nat.le_refl _); clear hbox hb hg)
    | ((with_reducible refine gate_dst (N := 4) rfl ?_); refine box_event ?hg (N := 4) ?hd (cs := #[.slice none 0 0, .slice none 0 0, .slice none 0 0]) (t := 45) ?hr ?_; (case hd => rfl); (case hg => rfl); (case hr => first | (go_simp; done) | (go_simp; rfl)); intro g2 hg w2 hbox hb; have BK2 := Aside0.mk (show B3 w2 g2 _ _ _ from hbox); have BK1b := Aside0.mk (BK1.out.below hb); have HB2 := Aside0.mk (below_step HB1.out hb); have GE2 := Aside0.mk (show w.heap.size ≤ g2 by rw [hg]; exact HB1.out.size); have NB := Aside0.mk (show g1 ≠ g2 by rw [hg]; exact Nat.ne_of_lt (blk_lt BK1.out)); clear hbox hb hg; obtain ⟨ca0, ca1, ca2, fa0, fa1, fa2⟩ := BK1b.out.cells; obtain ⟨cb0, cb1, cb2, fb0, fb1, fb2⟩ := BK2.out.cells; have nb := NB.out; have nc := NB.out.symm))
  refine bodyPost_ret (results_ctt rfl _ _ g2 45 #[.slice A0 0 c0, .slice A1 lu.length c1, .slice A2 la.length c2] (0, 0) _ rfl (B3.all BK2.out _ _ _) Try.underlying45 rfl (by kernel_rfl)) rfl ?_
  exact ⟨_, rfl, _, _, _, rfl, (H0.out.below HB2.out).putAll BK2.out (by decide) _ _ _, (H1.out.below HB2.out).putAll BK2.out (by decide) _ _ _, (H2.out.below HB2.out).putAll BK2.out (by decide) _ _ _, below_all HB2.out GE2.out _ _ _⟩

set_option maxHeartbeats 2000000 in
set_option maxRecDepth 100000 in
theorem first24_not (Am : Option Addr) (cm : Nat) (may : List ByteArray) (HM : Aside0 (Kd.C Kd.string w Am may.length may)) (LM : Aside0 (may.length ≤ cm)) {lw lu : List ByteArray} {la : List Int} {v0 v1 v2 : Value} (h0 : RdS b w v0 lw) (h1 : RdS b w v1 lu) (h2 : RdI b w v2 la) (hb : b ≤ w.heap.size) (hl : 1 ≤ lw.length) (hi : idxOf may (rdOf ByteArray.empty lw 0) 0 < 0) :
    Calls Try.prog 24 #[.agg #[v0, v1, v2], .slice Am may.length cm] w fun e w' => ∃ vs, e = .returned (.tuple #[vs, .string ⟨#[]⟩, .bool false]) ∧ Back b w w' vs ⟨lw, lu, la⟩ := by
  obtain ⟨A0, c0, rfl, hc0, hC0⟩ := h0.reads
  obtain ⟨A1, c1, rfl, hc1, hC1⟩ := h1.reads
  obtain ⟨A2, c2, rfl, hc2, hC2⟩ := h2.reads
  have H0 := Aside0.mk h0
  have H1 := Aside0.mk h1
  have H2 := Aside0.mk h2
  have HC0 := Aside0.mk hC0
  have HC1 := Aside0.mk hC1
  have HC2 := Aside0.mk hC2
  have L0 := Aside0.mk hc0
  have L1 := Aside0.mk hc1
  have L2 := Aside0.mk hc2
  clear h0 h1 h2 hC0 hC1 hC2 hc0 hc1 hc2
  have PL := Aside0.mk (show (0 : Int) < (lw.length : Int) by omega)
  have hl1 : decide ((lw.length : Int) = 0) = false := decide_eq_false (by omega)
  have hl2 : decide (lw.length = 0) = false := decide_eq_false (by omega)
  have hl3 : decide (0 < lw.length) = true := decide_eq_true (by omega)
  have hl4 : decide ((0 : Int) < (lw.length : Int)) = true := decide_eq_true (by omega)
  have hl6 : ((lw.length : Int) == 0) = false := beq_false_of_ne (by omega)
  have hl5 : (0 < lw.length) = True := eq_true (by omega)
  obtain ⟨ad, rfl, _⟩ := HC0.out.2.2 (by omega)
  have HP := Aside0.mk (fun W (h : Below w.heap.size w W) => place27_raw (rdOf ByteArray.empty lw 0) may Am cm W (Kd.C_below HM.out h) LM.out)
  generalize idxOf may (rdOf ByteArray.empty lw 0) 0 = i0 at HP hi
  have hd0 : decide (i0 < 0) = true := decide_eq_true hi
  go_enter Try.func24, Try.ntmps24
  go_wp2_with (first
    | ((with_reducible refine gate_dst (N := 2) rfl ?_); refine box_event ?hg (N := 2) ?hd (cs := #[.slice (some ad) lw.length c0, .slice A1 lu.length c1, .slice A2 la.length c2]) (t := 45) ?hr ?_; (case hd => rfl); (case hg => rfl); (case hr => first | (go_simp; done) | (go_simp; rfl)); intro g1 hg w1 hbox hb; have BK1 := Aside0.mk (show B3 w1 g1 _ _ _ from hbox); have HB1 := Aside0.mk hb; have GE1 := Aside0.mk (show w.heap.size ≤ g1 by rw [hg]; exact Nat.le_refl _); clear hbox hb hg)
    | ((with_reducible refine gate_dst (N := 4) rfl ?_); refine box_event ?hg (N := 4) ?hd (cs := #[.slice none 0 0, .slice none 0 0, .slice none 0 0]) (t := 45) ?hr ?_; (case hd => rfl); (case hg => rfl); (case hr => first | (go_simp; done) | (go_simp; rfl)); intro g2 hg w2 hbox hb; have BK2 := Aside0.mk (show B3 w2 g2 _ _ _ from hbox); have BK1b := Aside0.mk (BK1.out.below hb); have HB2 := Aside0.mk (below_step HB1.out hb); have GE2 := Aside0.mk (show w.heap.size ≤ g2 by rw [hg]; exact HB1.out.size); have NB := Aside0.mk (show g1 ≠ g2 by rw [hg]; exact Nat.ne_of_lt (blk_lt BK1.out)); clear hbox hb hg; obtain ⟨ca0, ca1, ca2, fa0, fa1, fa2⟩ := BK1b.out.cells; obtain ⟨cb0, cb1, cb2, fb0, fb1, fb2⟩ := BK2.out.cells; have nb := NB.out; have nc := NB.out.symm; obtain ⟨ad2, e2, hx2⟩ := Kd.at_string (Kd.C_below HC0.out HB2.out) 0 (by decide) PL.out; obtain rfl : ad = ad2 := (by injection e2); (try rw [show ((0 : Int)).toNat = 0 from rfl] at hx2); (try rw [Addr.add_zero'] at hx2))
    | (go_at_call 27; (with_reducible refine (HP.out _ HB2.out).mono ?_); rintro e wc ⟨rfl, hb0⟩; have hbc := Drawn0.below hb0; clear hb0; have BK1c := Aside0.mk (BK1b.out.below hbc); have BK2c := Aside0.mk (BK2.out.below hbc); have HBc := Aside0.mk (below_step HB2.out hbc); clear hbc; obtain ⟨ca0, ca1, ca2, fa0, fa1, fa2⟩ := BK1c.out.cells; obtain ⟨cb0, cb1, cb2, fb0, fb1, fb2⟩ := BK2c.out.cells; have nb := NB.out; have nc := NB.out.symm))
  refine bodyPost_ret (results_ctt rfl _ _ g2 45 #[.slice (some ad) lw.length c0, .slice A1 lu.length c1, .slice A2 la.length c2] (0, 0) _ rfl (B3.all BK2c.out _ _ _) Try.underlying45 rfl (by kernel_rfl)) rfl ?_
  exact ⟨_, rfl, _, _, _, rfl, (H0.out.below HBc.out).putAll BK2c.out (by decide) _ _ _, (H1.out.below HBc.out).putAll BK2c.out (by decide) _ _ _, (H2.out.below HBc.out).putAll BK2c.out (by decide) _ _ _, below_all HBc.out GE2.out _ _ _⟩

set_option maxHeartbeats 2000000 in
set_option maxRecDepth 100000 in
theorem first24_ok (Am : Option Addr) (cm : Nat) (may : List ByteArray) (HM : Aside0 (Kd.C Kd.string w Am may.length may)) (LM : Aside0 (may.length ≤ cm)) {lw lu : List ByteArray} {la : List Int} {v0 v1 v2 : Value} (h0 : RdS b w v0 lw) (h1 : RdS b w v1 lu) (h2 : RdI b w v2 la) (hb : b ≤ w.heap.size) (hl : 1 ≤ lw.length) (hi : 0 ≤ idxOf may (rdOf ByteArray.empty lw 0) 0) :
    Calls Try.prog 24 #[.agg #[v0, v1, v2], .slice Am may.length cm] w fun e w' => ∃ vs, e = .returned (.tuple #[vs, .string (rdOf ByteArray.empty lw 0), .bool true]) ∧ Back b w w' vs ⟨lw.drop 1, lu, la⟩ := by
  obtain ⟨A0, c0, rfl, hc0, hC0⟩ := h0.reads
  obtain ⟨A1, c1, rfl, hc1, hC1⟩ := h1.reads
  obtain ⟨A2, c2, rfl, hc2, hC2⟩ := h2.reads
  have H0 := Aside0.mk h0
  have H1 := Aside0.mk h1
  have H2 := Aside0.mk h2
  have HC0 := Aside0.mk hC0
  have HC1 := Aside0.mk hC1
  have HC2 := Aside0.mk hC2
  have L0 := Aside0.mk hc0
  have L1 := Aside0.mk hc1
  have L2 := Aside0.mk hc2
  clear h0 h1 h2 hC0 hC1 hC2 hc0 hc1 hc2
  have PL := Aside0.mk (show (0 : Int) < (lw.length : Int) by omega)
  have hl1 : decide ((lw.length : Int) = 0) = false := decide_eq_false (by omega)
  have hl2 : decide (lw.length = 0) = false := decide_eq_false (by omega)
  have hl3 : decide (0 < lw.length) = true := decide_eq_true (by omega)
  have hl4 : decide ((0 : Int) < (lw.length : Int)) = true := decide_eq_true (by omega)
  have hl6 : ((lw.length : Int) == 0) = false := beq_false_of_ne (by omega)
  have hl5 : (0 < lw.length) = True := eq_true (by omega)
  obtain ⟨ad, rfl, _⟩ := HC0.out.2.2 (by omega)
  have HP := Aside0.mk (fun W (h : Below w.heap.size w W) => place27_raw (rdOf ByteArray.empty lw 0) may Am cm W (Kd.C_below HM.out h) LM.out)
  generalize idxOf may (rdOf ByteArray.empty lw 0) 0 = i0 at HP hi
  have hd0 : decide (i0 < 0) = false := decide_eq_false (by omega)
  have q1 : (1 : Int) ≤ ((lw.length : Int) : Int) := by omega
  obtain ⟨i9, hi9, _, hsz9, _⟩ := info_parts info9
  have hcut := cut_from (P := Try.prog) 27 9 .i64 Try.underlying27 hi9 1 hsz9 (some ad) lw.length c0 1 (by omega) q1
  have HT := Aside0.mk (H0.out.tail hl L0.out)
  rw [show ((1 : Int)).toNat = 1 from rfl] at hcut
  generalize (if c0 = 1 then (some ad) else (some ad : Option Addr).map (·.add (1 * 1))) = A3 at hcut HT
  rw [show lw.length - 1 = (lw.drop 1).length by simp] at hcut
  generalize c0 - 1 = c3 at hcut HT
  obtain ⟨l3, hl3⟩ : ∃ l, l = lw.drop 1 := ⟨_, rfl⟩
  rw [← hl3] at hcut HT ⊢
  clear hl3 hi9 hsz9
  go_enter Try.func24, Try.ntmps24
  go_wp2_with (first
    | ((with_reducible refine gate_dst (N := 2) rfl ?_); refine box_event ?hg (N := 2) ?hd (cs := #[.slice (some ad) lw.length c0, .slice A1 lu.length c1, .slice A2 la.length c2]) (t := 45) ?hr ?_; (case hd => rfl); (case hg => rfl); (case hr => first | (go_simp; done) | (go_simp; rfl)); intro g1 hg w1 hbox hb; have BK1 := Aside0.mk (show B3 w1 g1 _ _ _ from hbox); have HB1 := Aside0.mk hb; have GE1 := Aside0.mk (show w.heap.size ≤ g1 by rw [hg]; exact Nat.le_refl _); clear hbox hb hg)
    | ((with_reducible refine gate_dst (N := 4) rfl ?_); refine box_event ?hg (N := 4) ?hd (cs := #[.slice none 0 0, .slice none 0 0, .slice none 0 0]) (t := 45) ?hr ?_; (case hd => rfl); (case hg => rfl); (case hr => first | (go_simp; done) | (go_simp; rfl)); intro g2 hg w2 hbox hb; have BK2 := Aside0.mk (show B3 w2 g2 _ _ _ from hbox); have BK1b := Aside0.mk (BK1.out.below hb); have HB2 := Aside0.mk (below_step HB1.out hb); have GE2 := Aside0.mk (show w.heap.size ≤ g2 by rw [hg]; exact HB1.out.size); have NB := Aside0.mk (show g1 ≠ g2 by rw [hg]; exact Nat.ne_of_lt (blk_lt BK1.out)); clear hbox hb hg; obtain ⟨ca0, ca1, ca2, fa0, fa1, fa2⟩ := BK1b.out.cells; obtain ⟨cb0, cb1, cb2, fb0, fb1, fb2⟩ := BK2.out.cells; have nb := NB.out; have nc := NB.out.symm; obtain ⟨ad2, e2, hx2⟩ := Kd.at_string (Kd.C_below HC0.out HB2.out) 0 (by decide) PL.out; obtain rfl : ad = ad2 := (by injection e2); (try rw [show ((0 : Int)).toNat = 0 from rfl] at hx2); (try rw [Addr.add_zero'] at hx2))
    | (go_at_call 27; (with_reducible refine (HP.out _ HB2.out).mono ?_); rintro e wc ⟨rfl, hb0⟩; have hbc := Drawn0.below hb0; clear hb0; have BK1c := Aside0.mk (BK1b.out.below hbc); have BK2c := Aside0.mk (BK2.out.below hbc); have HBc := Aside0.mk (below_step HB2.out hbc); clear hbc; obtain ⟨ca0, ca1, ca2, fa0, fa1, fa2⟩ := BK1c.out.cells; obtain ⟨cb0, cb1, cb2, fb0, fb1, fb2⟩ := BK2c.out.cells; have nb := NB.out; have nc := NB.out.symm; obtain ⟨adc, ec, hxc⟩ := Kd.at_string (Kd.C_below HC0.out HBc.out) 0 (by decide) PL.out; obtain rfl : ad = adc := (by injection ec); (try rw [show ((0 : Int)).toNat = 0 from rfl] at hxc); (try rw [Addr.add_zero'] at hxc)))
  refine bodyPost_ret (results_ctt rfl _ _ g2 45 #[.slice A3 l3.length c3, .slice A1 lu.length c1, .slice A2 la.length c2] (0, 0) _ rfl (B3.all (BK2c.out.far NB.out.symm _) _ _ _) Try.underlying45 rfl (by kernel_rfl)) rfl ?_
  exact ⟨_, rfl, _, _, _, rfl, ((HT.out.below HBc.out).put BK1c.out (by decide) _).putAll (BK2c.out.far NB.out.symm _) (by decide) _ _ _, ((H1.out.below HBc.out).put BK1c.out (by decide) _).putAll (BK2c.out.far NB.out.symm _) (by decide) _ _ _, ((H2.out.below HBc.out).put BK1c.out (by decide) _).putAll (BK2c.out.far NB.out.symm _) (by decide) _ _ _, below_all (below_set HBc.out GE1.out) GE2.out _ _ _⟩

/-- First of the reference. -/
theorem ref_first (Am : Option Addr) (cm : Nat) (may : List ByteArray) (hM : Kd.C Kd.string w Am may.length may) (hm : may.length ≤ cm) (r : Rf) {v0 v1 v2 : Value} (h0 : RdS b w v0 r.w) (h1 : RdS b w v1 r.u) (h2 : RdI b w v2 r.a) (hb : b ≤ w.heap.size) :
    Calls Try.prog 24 #[.agg #[v0, v1, v2], .slice Am may.length cm] w fun e w' => ∃ vs, e = .returned (.tuple #[vs, .string (refFirst r may).2.1, .bool (refFirst r may).2.2]) ∧ Back b w w' vs (refFirst r may).1 := by
  obtain ⟨lw, lu, la⟩ := r
  cases lw with
  | nil => exact first24_nil Am cm may ⟨hM⟩ ⟨hm⟩ h0 h1 h2 hb rfl
  | cons x l =>
    have e : rdOf ByteArray.empty (x :: l) 0 = x := rfl
    by_cases hi : 0 ≤ idxOf may x 0
    · have h := first24_ok Am cm may ⟨hM⟩ ⟨hm⟩ h0 h1 h2 hb (by simp) (by rw [e]; exact hi)
      rw [e] at h
      unfold refFirst
      simp only [idx_has, decide_eq_true hi, if_true]
      exact h
    · have h := first24_not Am cm may ⟨hM⟩ ⟨hm⟩ h0 h1 h2 hb (by simp) (by rw [e]; omega)
      unfold refFirst
      simp only [idx_has, decide_eq_false hi]
      exact h

end Go.Proofs.Ytmkijdkfogebjaa.Man
namespace Go.Proofs.Ytmkijdkfogebjaa.Man
open Go.RowKit Go.Proofs.YtmkijdkfogebjaaW.PrintWords Go.Proofs.YtmkijdkfogebjaaW.PrintLast Go.Proofs.YtmkijdkfogebjaaW.PrintMore Go.Proofs.Ytmkijdkfogebjaa.PA Go.Proofs.Ytmkijdkfogebjaa.Na Go.Proofs.Ytmkijdkfogebjaa.Hid
variable {w : World} {b : Nat}
theorem without_f (nm : ByteArray) (xs : List ByteArray) (hm : xs.length ≤ 1000) (k : Nat) (hk : xs.length < k) : hostlerref13_without.f k xs nm = some (xs.filter (fun x => !decide (x = nm))) := by
  have := without_loop nm xs hm xs.length k 0 [] (by omega) (by omega) hk (by simp)
  simpa [hostlerref13_without.f] using this
theorem place_f (nm : ByteArray) (xs : List ByteArray) (hm : xs.length ≤ 1000) (k : Nat) (hk : xs.length < k) : hostlerref13_Place.f k xs nm = some (idxOf xs nm 0) := by
  have := place27_loop nm xs (by omega) xs.length k 0 (by omega) (by omega) hk
  simpa [hostlerref13_Place.f] using this
theorem end_loop (nm : ByteArray) (was : Bool) (lw lu : List ByteArray) (la : List Int) (hm : lu.length ≤ 1000) (he : lu.length = la.length) (d : Nat) : ∀ (k j : Nat) (acc : List Int), j ≤ lu.length → lu.length - j = d → d + lu.length + 1 < k → acc.length ≤ j → hostlerref13_End.l0 k nm was acc (j : Int) lw lu la = some (lw, lu.filter (fun x => !decide (x = nm)), acc ++ (((lu.drop j).zip (la.drop j)).filter (fun p => !decide (p.1 = nm))).map (·.2), was) := by
  induction d with
  | zero =>
    intro k j acc hj hd hk ha
    obtain ⟨k, rfl⟩ : ∃ m, k = m + 1 := ⟨k - 1, by omega⟩
    simp only [hostlerref13_End.l0]
    rw [if_neg (by omega), List.drop_eq_nil_of_le (by omega), without_f nm lu hm k (by omega)]
    simp
  | succ d ih =>
    intro k j acc hj hd hk ha
    obtain ⟨k, rfl⟩ : ∃ m, k = m + 1 := ⟨k - 1, by omega⟩
    have hlt : j < lu.length := by omega
    have hlt2 : j < la.length := by omega
    simp only [hostlerref13_End.l0]
    have e : rdOf ByteArray.empty lu (j : Int) = lu[j] := by simp [rdOf, List.getD, hlt]
    have e2 : rd la (j : Int) = la[j] := by simp [rd, List.getD, hlt2]
    have hw : wrap64 ((j : Int) + 1) = ((j + 1 : Nat) : Int) := by unfold wrap64; omega
    rw [if_pos (by omega), if_pos (by omega), e, e2, hw, List.drop_eq_getElem_cons hlt, List.drop_eq_getElem_cons hlt2, List.zip_cons_cons, List.filter_cons]
    by_cases c : lu[j] = nm
    · rw [if_pos (tl_inj.2 c), if_neg (by simp [c])]
      exact ih k (j + 1) acc (by omega) (by omega) (by omega) (by omega)
    · rw [if_neg (fun h => c (tl_inj.1 h)), if_pos (by omega), if_pos (by omega), if_pos (by simp [c]), ih k (j + 1) _ (by omega) (by omega) (by omega) (by simp; omega), List.append_assoc]
      rfl
/-- End of the reference. -/
theorem ref_end (nm : ByteArray) (r : Rf) {v0 v1 v2 : Value} (h0 : RdS b w v0 r.w) (h1 : RdS b w v1 r.u) (h2 : RdI b w v2 r.a) (hb : b ≤ w.heap.size) (hl0 : r.w.length ≤ 1000) (hl1 : r.u.length ≤ 1000) (he : r.u.length = r.a.length) :
    Calls Try.prog 23 #[.agg #[v0, v1, v2], .string nm] w fun e w' => ∃ vs, e = .returned (.tuple #[vs, .bool (refEnd r nm).1]) ∧ Back b w w' vs (refEnd r nm).2 := by
  obtain ⟨A0, c0, rfl, hc0, hC0⟩ := h0.reads
  obtain ⟨A1, c1, rfl, hc1, hC1⟩ := h1.reads
  obtain ⟨A2, c2, rfl, hc2, hC2⟩ := h2.reads
  have hj : ∀ was, hostlerref13_End.j0 3002 nm was r.w r.u r.a = some (r.w.filter (fun x => !decide (x = nm)), r.u.filter (fun x => !decide (x = nm)), ((r.u.zip r.a).filter (fun p => !decide (p.1 = nm))).map (·.2), was) := fun was => by
    simp only [hostlerref13_End.j0]
    rw [without_f nm r.w hl0 3001 (by omega), Option.bind_some]
    have := end_loop nm was (r.w.filter (fun x => !decide (x = nm))) r.u r.a hl1 he r.u.length 3001 0 [] (by omega) (by omega) (by omega) (by simp)
    simpa using this
  have hf : hostlerref13_End.f 3002 r.w r.u r.a nm = some ((refEnd r nm).2.w, (refEnd r nm).2.u, (refEnd r nm).2.a, (refEnd r nm).1) := by
    unfold hostlerref13_End.f refEnd
    rw [place_f nm r.w hl0 3002 (by omega), Option.bind_some, idx_has, idx_has]
    by_cases hi : 0 ≤ idxOf r.w nm 0
    · rw [if_pos hi, hj, decide_eq_true hi, Bool.true_or]
    · rw [if_neg hi, place_f nm r.u hl1 3002 (by omega), Option.bind_some, hj, decide_eq_false hi, Bool.false_or]
  refine (hostlerref13_End.calls 3002 A0 c0 r.w A1 c1 r.u A2 c2 r.a nm _ _ _ _ w hC0 hc0 hC1 hc1 hC2 hc2 hf).mono ?_
  rintro e w' ⟨u0, u1, u2, rfl, k0, k1, k2, hbl⟩
  exact ⟨_, rfl, u0, u1, u2, rfl, (Rd.of_R k0).lower hb, (Rd.of_R k1).lower hb, (Rd.of_R k2).lower hb, hbl⟩
theorem past_f (now x : Int) : hostlerref01_Past.f now x = some (pastB now x) := by
  unfold hostlerref01_Past.f
  rw [cut_mn, cut_mn, Option.bind_some, Option.bind_some]
  congr 1
theorem due_loop (now : Int) (lw lu : List ByteArray) (la : List Int) (hm : lu.length ≤ 1000) (he : lu.length = la.length) (d : Nat) : ∀ (k j : Nat) (acc : List ByteArray), j ≤ lu.length → lu.length - j = d → d < k → acc.length ≤ j → hostlerref13_Due.l0 k now acc (j : Int) lw lu la = some (acc ++ (((lu.drop j).zip (la.drop j)).filter (fun p => pastB now p.2)).map (·.1)) := by
  induction d with
  | zero =>
    intro k j acc hj hd hk ha
    obtain ⟨k, rfl⟩ : ∃ m, k = m + 1 := ⟨k - 1, by omega⟩
    simp only [hostlerref13_Due.l0]
    rw [if_neg (by omega), List.drop_eq_nil_of_le (by omega)]
    simp
  | succ d ih =>
    intro k j acc hj hd hk ha
    obtain ⟨k, rfl⟩ : ∃ m, k = m + 1 := ⟨k - 1, by omega⟩
    have hlt : j < lu.length := by omega
    have hlt2 : j < la.length := by omega
    simp only [hostlerref13_Due.l0]
    have e : rdOf ByteArray.empty lu (j : Int) = lu[j] := by simp [rdOf, List.getD, hlt]
    have e2 : rd la (j : Int) = la[j] := by simp [rd, List.getD, hlt2]
    have hw : wrap64 ((j : Int) + 1) = ((j + 1 : Nat) : Int) := by unfold wrap64; omega
    rw [if_pos (by omega), if_pos (by omega), if_pos (by omega), e, e2, hw, past_f, Option.bind_some, List.drop_eq_getElem_cons hlt, List.drop_eq_getElem_cons hlt2, List.zip_cons_cons, List.filter_cons]
    cases c : pastB now la[j] with
    | true =>
      rw [if_pos rfl, if_pos (by omega), if_pos rfl, ih k (j + 1) _ (by omega) (by omega) (by omega) (by simp; omega), List.append_assoc]
      rfl
    | false =>
      rw [if_neg (by decide), if_neg (by decide)]
      exact ih k (j + 1) acc (by omega) (by omega) (by omega) (by omega)
/-- Due of the reference. -/
theorem ref_due (now : Int) (r : Rf) {v0 v1 v2 : Value} (h0 : RdS b w v0 r.w) (h1 : RdS b w v1 r.u) (h2 : RdI b w v2 r.a) (hl1 : r.u.length ≤ 1000) (he : r.u.length = r.a.length) :
    Calls Try.prog 29 #[.agg #[v0, v1, v2], .int .i64 now] w fun e w' => ∃ v, e = .returned v ∧ Kd.R Kd.string 9 w' w.heap.size (fun _ => True) v (refDue r now) ∧ Below w.heap.size w w' := by
  obtain ⟨A0, c0, rfl, hc0, hC0⟩ := h0.reads
  obtain ⟨A1, c1, rfl, hc1, hC1⟩ := h1.reads
  obtain ⟨A2, c2, rfl, hc2, hC2⟩ := h2.reads
  have hf : hostlerref13_Due.f (r.u.length + 1) r.w r.u r.a now = some (refDue r now) := by
    unfold hostlerref13_Due.f refDue
    have := due_loop now r.w r.u r.a hl1 he r.u.length (r.u.length + 1) 0 [] (by omega) (by omega) (by omega) (by simp)
    simpa using this
  exact hostlerref13_Due.calls (r.u.length + 1) A0 c0 r.w A1 c1 r.u A2 c2 r.a now _ w hC0 hc0 hC1 hc1 hC2 hc2 hf
end Go.Proofs.Ytmkijdkfogebjaa.Man
namespace Go.Proofs.Ytmkijdkfogebjaa.Man
open Go.RowKit Go.Proofs.YtmkijdkfogebjaaW.PrintWords Go.Proofs.YtmkijdkfogebjaaW.PrintLast Go.Proofs.YtmkijdkfogebjaaW.PrintMore Go.Proofs.Ytmkijdkfogebjaa.PA Go.Proofs.Ytmkijdkfogebjaa.Na Go.Proofs.Ytmkijdkfogebjaa.Hid
variable {w W W1 : World} {b g : Nat} {s : DS} {r : Rf}
theorem mod_n5 (x : Int) : ∃ κ : Nat, κ < 5 ∧ wrap64 (Int.tmod (IntKind.u64.wrap x) 5) = (κ : Int) := by
  have hw : 0 ≤ IntKind.u64.wrap x := by
    unfold IntKind.wrap
    simp [IntKind.bits, IntKind.signed]
    omega
  have h1 : 0 ≤ Int.tmod (IntKind.u64.wrap x) (5 : Int) := Int.tmod_nonneg _ hw
  have h2 : Int.tmod (IntKind.u64.wrap x) (5 : Int) < 5 := Int.tmod_lt_of_pos _ (by omega)
  exact ⟨(Int.tmod (IntKind.u64.wrap x) (5 : Int)).toNat, by omega, by unfold wrap64; omega⟩
theorem cutName_size (nm : ByteArray) : (cutName nm).size ≤ 20 := by
  unfold cutName
  have h : (mn (nm.size : Int) 20).toNat ≤ 20 := by unfold mn; split <;> omega
  simp only [ByteArray.size_extract]
  omega
theorem early_name {l : List S29} {x : S29} (h : x ∈ earlyOf l) : x.f2.size ≤ 20 := by
  obtain ⟨y, _, rfl⟩ := List.mem_map.1 h
  exact cutName_size y.f2
theorem rd_mem {l : List S29} {k : Nat} (h : k < l.length) : rd_T29 l (k : Int) ∈ l := by
  have : rd_T29 l (k : Int) = l[k] := by simp [rd_T29, List.getD, h]
  rw [this]
  exact List.getElem_mem h
theorem rdsC {b n c : Nat} {A : Option Addr} {xs : List ByteArray} (h : RdS b W (.slice A n c) xs) : Kd.C Kd.string W A xs.length xs := h.C
theorem rdiC {b n c : Nat} {A : Option Addr} {xs : List Int} (h : RdI b W (.slice A n c) xs) : Kd.C (Kd.int .i64) W A xs.length xs := h.C
/-- The reference's state in its block. -/
def RefAt (w W : World) (b : Nat) (r : Rf) : Prop := w.heap.size ≤ b ∧ ∃ (A0 A1 A2 : Option Addr) (c0 c1 c2 : Nat), B3 W b (.slice A0 r.w.length c0) (.slice A1 r.u.length c1) (.slice A2 r.a.length c2) ∧ RdS 0 W (.slice A0 r.w.length c0) r.w ∧ RdS 0 W (.slice A1 r.u.length c1) r.u ∧ RdI 0 W (.slice A2 r.a.length c2) r.a
theorem B3.keep {x y z : Value} (h : B3 W b x y z) (hk : KeptH TD W W1) : B3 W1 b x y z := Ko.blkc hk h (by decide)
theorem RefAt.below (h : RefAt w W b r) (hb : Below W.heap.size W W1) : RefAt w W1 b r := by
  obtain ⟨h0, A0, A1, A2, c0, c1, c2, h1, h2, h3, h4⟩ := h
  exact ⟨h0, A0, A1, A2, c0, c1, c2, h1.below hb, h2.below hb, h3.below hb, h4.below hb⟩
theorem RefAt.keep (h : RefAt w W b r) (hk : KeptH TD W W1) : RefAt w W1 b r := by
  obtain ⟨h0, A0, A1, A2, c0, c1, c2, h1, h2, h3, h4⟩ := h
  exact ⟨h0, A0, A1, A2, c0, c1, c2, h1.keep hk, h2.keep hk (by decide), h3.keep hk (by decide), h4.keep hk (by decide)⟩
theorem slice_rd {α : Type} {enc : α → Value} {h1 : ∀ x, (enc x).oneCell' = true} {e b : Nat} {v : Value} {xs : List α} (h : Rd enc h1 e b W v xs) : ∃ A c, v = .slice A xs.length c := by
  obtain ⟨A, c, e, _⟩ := h
  exact ⟨A, c, e⟩
/-- Behind a store of a state into the reference's block, and the copy beside it. -/
abbrev putW (W : World) (b : Nat) (v0 v1 v2 : Value) : World := (((W.setCell ⟨b, 0, none⟩ v0).setCell ⟨b, 1, none⟩ v1).setCell ⟨b, 2, none⟩ v2).alloc (.cells #[v0, v1, v2] 45)
theorem ref_put {a0 a1 a2 : Value} {A0 A1 A2 : Option Addr} {c0 c1 c2 : Nat} (hI : IsS66 w W g s) (hB : Below w.heap.size w W) (h3 : B3 W b a0 a1 a2) (hbw : w.heap.size ≤ b)
    (R0 : RdS 0 W (.slice A0 r.w.length c0) r.w) (R1 : RdS 0 W (.slice A1 r.u.length c1) r.u) (R2 : RdI 0 W (.slice A2 r.a.length c2) r.a) :
    RefAt w (putW W b (.slice A0 r.w.length c0) (.slice A1 r.u.length c1) (.slice A2 r.a.length c2)) b r ∧ IsS66 w (putW W b (.slice A0 r.w.length c0) (.slice A1 r.u.length c1) (.slice A2 r.a.length c2)) g s ∧
      Below w.heap.size w (putW W b (.slice A0 r.w.length c0) (.slice A1 r.u.length c1) (.slice A2 r.a.length c2)) ∧
      ∀ (k : Nat) (cs : Array Value) (t : TypeId), W.heap[k]? = some (Obj.cells cs t (0, 0)) → t ≠ 45 → (putW W b (.slice A0 r.w.length c0) (.slice A1 r.u.length c1) (.slice A2 r.a.length c2)).heap[k]? = some (Obj.cells cs t (0, 0)) := by
  generalize hv0 : Value.slice A0 r.w.length c0 = v0 at R0 ⊢
  generalize hv1 : Value.slice A1 r.u.length c1 = v1 at R1 ⊢
  generalize hv2 : Value.slice A2 r.a.length c2 = v2 at R2 ⊢
  have vis : ∀ {X : World} {x y z : Value}, B3 X b x y z → Vis TD X b := fun h => vis_cells h (by decide)
  have hal := below_alloc (Below.refl _ (((W.setCell ⟨b, 0, none⟩ v0).setCell ⟨b, 1, none⟩ v1).setCell ⟨b, 2, none⟩ v2)) (.cells #[v0, v1, v2] 45)
  refine ⟨⟨hbw, A0, A1, A2, c0, c1, c2, ?_, ?_, ?_, ?_⟩, ?_, below_alloc (below_all hB hbw v0 v1 v2) _, ?_⟩
  · rw [hv0, hv1, hv2]
    exact (h3.all v0 v1 v2).below hal
  · rw [hv0]
    exact (R0.putAll h3 (by decide) v0 v1 v2).below hal
  · rw [hv1]
    exact (R1.putAll h3 (by decide) v0 v1 v2).below hal
  · rw [hv2]
    exact (R2.putAll h3 (by decide) v0 v1 v2).below hal
  · exact (((hI.far (p := ⟨b, 0, none⟩) (vis h3) v0).far (p := ⟨b, 1, none⟩) (vis (h3.put0 v0)) v1).far (p := ⟨b, 2, none⟩) (vis ((h3.put0 v0).put1 v1)) v2).alloc _
  · intro k cs t h ht
    have hk : k ≠ b := by
      rintro rfl
      rw [show W.heap[k]? = _ from h3] at h
      injection h with h
      injection h with _ h
      exact ht h.symm
    have h4 := (Below.heap_setCell (((W.setCell ⟨b, 0, none⟩ v0).setCell ⟨b, 1, none⟩ v1)) ⟨b, 2, none⟩ v2 k hk).trans ((Below.heap_setCell (W.setCell ⟨b, 0, none⟩ v0) ⟨b, 1, none⟩ v1 k hk).trans ((Below.heap_setCell W ⟨b, 0, none⟩ v0 k hk).trans h))
    exact (Below.heap_alloc _ _ _ (blk_lt h4)).trans h4
theorem of_raw (A : Option Addr) (n c : Nat) (W : World) : Calls Try.prog 26 #[.slice A n c] W fun e w' => ∃ B : Nat, e = .returned (.func (.func 45) #[] #[.pointer (some ⟨B, 0, none⟩)]) ∧ w'.heap[B]? = some (.cells #[.slice A n c] 27 (0, 0)) ∧ Below W.heap.size W w' := by
  go_enter Try.func26, Try.ntmps26
  go_wp2
  go_ret
  exact ⟨_, rfl, heap_alloc_new W _, below_alloc (Below.refl _ _) _⟩
theorem may_raw (nm : ByteArray) (B : Nat) (A : Option Addr) (c : Nat) (l : List ByteArray) (hb : W.heap[B]? = some (.cells #[.slice A l.length c] 27 (0, 0))) (hC : Kd.C Kd.string W A l.length l) (hc : l.length ≤ c) :
    Calls Try.prog 45 #[.string nm, .pointer (some ⟨B, 0, none⟩)] W fun e w' => e = .returned (.bool (hasB nm l)) ∧ Below W.heap.size W w' := by
  have H := Aside0.mk (has_raw nm l A c W hC hc)
  have h0 : W.cell? ⟨B, 0, none⟩ = some (.slice A l.length c) := (blk_cell hb 0).trans rfl
  clear hC hb
  go_enter Try.func45, Try.ntmps45
  go_wp2_with (go_at_call 14; refine H.out.mono ?_; rintro e w1 ⟨rfl, hb1⟩)
  go_ret
  exact ⟨rfl, Drawn0.below hb1⟩
/-- First at the closure that the law hands to it. -/
theorem first_law {B : Nat} {A : Option Addr} {c : Nat} {l : List ByteArray} (hI : IsS66 w W g s) (hB : Below w.heap.size w W) (hl : s.row.length ≤ 1000) (hb : W.heap[B]? = some (.cells #[.slice A l.length c] 27 (0, 0))) (hc : l.length ≤ c)
    (hC : ∀ W', Below w.heap.size w W' → Kd.C Kd.string W' A l.length l) :
    Calls Try.prog 25 #[.pointer (some ⟨g, 0, none⟩), .func (.func 45) #[] #[.pointer (some ⟨B, 0, none⟩)]] W fun e w' =>
      e = .returned (.tuple #[.string (headName s.row (mayHead s.row l)), .bool (decide (0 ≤ placeOf s.row (headName s.row (mayHead s.row l)) 0))]) ∧ IsS66 w w' g ⟨endRow s.row (headName s.row (mayHead s.row l))⟩ ∧ Below w.heap.size w w' ∧ KeptH TD W w' := by
  refine (first45_raw B (mayHead s.row l) (fun W W' => Below W.heap.size W W') hI hB hl (fun x hx W1 hW1 => ?_) (fun W1 W2 h12 => ⟨fun k hk => h12.block k hk.lt, fun h => h.trans (h12.mono h.size)⟩)).mono ?_
  · have e : mayHead s.row l = hasB x.f0 l := by unfold mayHead; rw [hx]
    rw [e]
    exact may_raw x.f0 B A c l ((hW1.block B (blk_lt hb)).trans hb) (hC W1 (hB.trans (hW1.mono hB.size))) hc
  · rintro e w' ⟨rfl, W2, ⟨W1, h1, h2, h3⟩, hi, hb', hk⟩
    refine ⟨rfl, hi, hb', ?_⟩
    have h12 : Below W.heap.size W W2 := by
      cases hh : headOf s.row with
      | none => rw [← h3 hh]; exact h1
      | some x => exact below_step h1 (h2 ⟨x, hh⟩)
    exact (KeptH.of_below h12).trans hk
end Go.Proofs.Ytmkijdkfogebjaa.Man
