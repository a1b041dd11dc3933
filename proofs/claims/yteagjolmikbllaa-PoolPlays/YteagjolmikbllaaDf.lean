/-
  slices.DeleteFunc and slices.IndexFunc over rows of whole numbers, at the two closures of the pool. Conditions: none.
-/
import Derived.Test.YteagjolmikbllaaOb
import Derived.Test.YteagjolmikbllaaHid
set_option linter.unusedVariables false
set_option linter.unusedSimpArgs false
namespace Go.Proofs.Yteagjolmikbllaa.Ob
open Go.RowKit Go.Proofs.YteagjolmikbllaaW.PrintWords Go.Proofs.YteagjolmikbllaaW.PrintLast Go.Proofs.YteagjolmikbllaaW.PrintMore Go.Proofs.Yteagjolmikbllaa.Hid
variable {w : World}
/-- The first one that is so. -/
def fstOf (dl : Int → Bool) : List Int → Int → Int
  | [], _ => -1
  | x :: l, j => if dl x = true then j else fstOf dl l (j + 1)
theorem fst_none (dl : Int → Bool) : ∀ (xs : List Int) (j : Int), 0 ≤ j → fstOf dl xs j = -1 → ∀ x ∈ xs, dl x = false
  | [], _, _, _ => fun x hx => by simp at hx
  | y :: l, j, hj, h => fun x hx => by
    unfold fstOf at h
    by_cases c : dl y = true
    · rw [if_pos c] at h; omega
    · rw [if_neg c] at h
      rcases List.mem_cons.1 hx with rfl | hx
      · simpa using c
      · exact fst_none dl l (j + 1) (by omega) h x hx
theorem fst_bd (dl : Int → Bool) : ∀ (xs : List Int) (j : Int), fstOf dl xs j = -1 ∨ ∃ i : Nat, fstOf dl xs j = j + i ∧ i < xs.length ∧ (∀ k (h : k < xs.length), k < i → dl xs[k] = false) ∧ ∀ h : i < xs.length, dl xs[i] = true
  | [], _ => .inl rfl
  | y :: l, j => by
    unfold fstOf
    by_cases c : dl y = true
    · rw [if_pos c]
      exact .inr ⟨0, by simp, by simp, fun k _ h => by omega, fun _ => c⟩
    · rw [if_neg c]
      rcases fst_bd dl l (j + 1) with h | ⟨i, h1, h2, h3, h4⟩
      · exact .inl h
      · refine .inr ⟨i + 1, by rw [h1]; omega, by simpa using h2, fun k hk hki => ?_, fun h => by simpa using h4 h2⟩
        cases k with
        | zero => simpa using c
        | succ k => simpa using h3 k (by simpa using hk) (by omega)
theorem zeroCells_str (v : Value) (m : Nat) : Builtin.zeroCells #[v] m = Array.replicate m v := by
  apply Array.ext
  · simp [Builtin.zeroCells]
  · intro i h1 h2
    simp [Builtin.zeroCells, Nat.mod_one]
theorem run_clear_str {P : Program} (w : World) (t e ty : TypeId) (z : Value) (hz : z.cells = #[z]) (ht : P.underlying t = some (.slice e)) (hv : ∀ w, (zeroValue e).run P w = .ok z w) (h1 : z.oneCell' = true) (b o m c : Nat)
    (hc : ∀ j, j < m → (w.cell? ⟨b, o + j, none⟩).isSome = true) (hf : ∀ j, j < m → w.frozen? ⟨b, o + j, none⟩ = false) :
    (Builtin.clear_ #[t] ty #[.slice (some ⟨b, o, none⟩) m c]).run P w = .ok (.tuple #[]) (w.setCells b o (List.replicate m z)) := by
  have hst := run_storeCells_cells (P := P) b o (List.replicate m z) 0 w (by simpa using hc) (by simpa using hf) (by intro u hu; rw [List.eq_of_mem_replicate hu]; exact h1)
  simp only [Nat.add_zero] at hst
  cases m with
  | zero => simp [Builtin.clear_, run_underlying ht]; rfl
  | succ m => simp [Builtin.clear_, run_underlying ht, hv, hz, zeroCells_str, hst]
/-- Those that stay, of the first so many. -/
def keptOf (dl : Int → Bool) (xs : List Int) : List Int := xs.filter (fun x => !dl x)
set_option maxHeartbeats 2000000 in
theorem idx_raw_of (dl : Int → Bool) (D M : Nat) (xs : List Int) (A : Option Addr) (n : Nat) (hC : kI.C w A xs.length xs) (hn : xs.length ≤ n)
    (HD : ∀ W, Below w.heap.size w W → ∀ x ∈ xs, Calls Try.prog 49 #[.int .i64 x, .pointer (some ⟨D, 0, none⟩), .pointer (some ⟨M, 0, none⟩)] W fun e w' => e = .returned (.bool (dl x)) ∧ Below W.heap.size W w') :
    Calls Try.prog 50 #[.slice A xs.length n, .func (.func 49) #[] #[.pointer (some ⟨D, 0, none⟩), .pointer (some ⟨M, 0, none⟩)]] w fun e w' => e = .returned (.int .i64 (fstOf dl xs 0)) ∧ Below w.heap.size w w' := by
  have HC := Aside0.mk hC
  have HDD := Aside0.mk HD
  have hlen : xs.length ≤ 9223372036854775807 := hC.2.1
  obtain ⟨RES, hres⟩ : ∃ R, R = fstOf dl xs 0 := ⟨_, rfl⟩
  rw [← hres]
  have HRES := Aside0.mk hres.symm
  clear hC HD hres
  go_enter Try.func50, Try.ntmps50
  go_wp2
  go_loopw [8] (fun v8 wr => ∃ k : Nat, k ≤ xs.length ∧ v8 = .int .i64 k ∧ Aside0 (fstOf dl (xs.drop k) k = RES) ∧ Aside0 (Below w.heap.size w wr)) (fun v8 _ => xs.length - (intOf v8).toNat)
  case atStart => exact ⟨0, Nat.zero_le _, rfl, HRES, ⟨Below.refl _ _⟩⟩
  case round =>
    obtain ⟨k, hk, rfl, HF, HB⟩ := hrel
    by_cases hlt : k < xs.length
    · obtain ⟨ad, rfl, hx0⟩ := Kd.at_int (Kd.C_below HC.out HB.out) (k : Int) (by omega) (by omega)
      obtain ⟨x, hxe⟩ : ∃ x, x = rd xs (k : Int) := ⟨_, rfl⟩
      rw [← hxe, Int.toNat_natCast] at hx0
      have hxg : xs[k] = x := by rw [hxe]; simp [rd, List.getD, hlt]
      have hxm : x ∈ xs := by rw [← hxg]; exact List.getElem_mem hlt
      have hF := HF.out
      rw [List.drop_eq_getElem_cons hlt, hxg, fstOf] at hF
      have h0k : (0 : Int) ≤ (k : Int) := by omega
      have hkl : (k : Int) < (xs.length : Int) := by omega
      clear hxe hxg HF
      cases hd : dl x with
      | true =>
        rw [hd, if_pos rfl] at hF
        subst hF
        go_wp2_with (go_at_call 49; refine (HDD.out _ HB.out x hxm).mono ?_; rintro e w2 ⟨rfl, hb2⟩; rw [hd])
        go_ret
        exact ⟨rfl, below_step HB.out hb2⟩
      | false =>
        rw [hd, if_neg (by decide)] at hF
        have HF := Aside0.mk hF
        clear hF
        go_wp2_with (go_at_call 49; refine (HDD.out _ HB.out x hxm).mono ?_; rintro e w2 ⟨rfl, hb2⟩; rw [hd])
        exact ⟨⟨k + 1, by omega, by rw [show ((k : Int) + 1) = ((k + 1 : Nat) : Int) by omega], ⟨by rw [← HF.out]; rfl⟩, ⟨below_step HB.out hb2⟩⟩, by simp [intOf, Go.RowKit.intOf]; omega⟩
    · have hke : k = xs.length := by omega
      subst hke
      have hF := HF.out
      rw [List.drop_length] at hF
      have hF2 : -1 = RES := hF
      subst hF2
      clear hk HF hF
      go_wp2
      go_ret
      exact ⟨rfl, HB.out⟩
set_option maxHeartbeats 1000000 in
theorem delFunc_none_of (dl : Int → Bool) (D M : Nat) (xs : List Int) (A : Option Addr) (n base : Nat) (hR : kI.R 3 w base (fun _ => True) (.slice A xs.length n) xs)
    (HD : ∀ W, Below w.heap.size w W → ∀ x ∈ xs, Calls Try.prog 49 #[.int .i64 x, .pointer (some ⟨D, 0, none⟩), .pointer (some ⟨M, 0, none⟩)] W fun e w' => e = .returned (.bool (dl x)) ∧ Below W.heap.size W w') (h : fstOf dl xs 0 = -1) :
    Calls Try.prog 43 #[.slice A xs.length n, .func (.func 49) #[] #[.pointer (some ⟨D, 0, none⟩), .pointer (some ⟨M, 0, none⟩)]] w fun e w' => e = .returned (.slice A xs.length n) ∧
      kI.R 3 w' base (fun _ => True) (.slice A xs.length n) (keptOf dl xs) ∧ Below w.heap.size w w' := by
  have hnC := Kd.R_reads' hR
  have HX := Aside0.mk (idx_raw_of (w := w) dl D M xs A n hnC.2.2 hnC.2.1 HD)
  have HR0 := Aside0.mk hR
  clear hnC hR HD
  have hall := fst_none dl xs 0 (by omega) h
  have hk : keptOf dl xs = xs := by
    unfold keptOf
    rw [List.filter_eq_self]
    intro x hx
    simp [hall x hx]
  rw [hk]
  rw [h] at HX
  clear h hall hk
  go_enter Try.func43, Try.ntmps43
  go_wp2_with (go_at_call 50; refine HX.out.mono ?_; rintro e w' ⟨rfl, hb⟩)
  go_ret
  exact ⟨rfl, Kd.R_below HR0.out hb, hb⟩
set_option maxHeartbeats 4000000 in
theorem delFunc_raw_of (dl : Int → Bool) (D M : Nat) (xs : List Int) (b n base : Nat) (hR : kI.R 3 w base (fun _ => True) (.slice (some ⟨b, 0, none⟩) xs.length n) xs)
    (HD : ∀ W, w.grownBy W (some b) → ∀ x ∈ xs, Calls Try.prog 49 #[.int .i64 x, .pointer (some ⟨D, 0, none⟩), .pointer (some ⟨M, 0, none⟩)] W fun e w' => e = .returned (.bool (dl x)) ∧ Below W.heap.size W w') :
    Calls Try.prog 43 #[.slice (some ⟨b, 0, none⟩) xs.length n, .func (.func 49) #[] #[.pointer (some ⟨D, 0, none⟩), .pointer (some ⟨M, 0, none⟩)]] w fun e w' => ∃ m : Nat, e = .returned (.slice (some ⟨b, 0, none⟩) m n) ∧
      kI.R 3 w' base (fun _ => True) (.slice (some ⟨b, 0, none⟩) m n) (keptOf dl xs) ∧ w.grownBy w' (some b) := by
  have hnC := Kd.R_reads' hR
  have hn : xs.length ≤ n := hnC.2.1
  have hlen : xs.length ≤ 9223372036854775807 := hnC.2.2.2.1
  have HX := Aside0.mk (idx_raw_of (w := w) dl D M xs (some ⟨b, 0, none⟩) n hnC.2.2 hn (fun W hb => HD W ⟨hb.os, hb.tape, hb.output, hb.size, fun k hk _ => hb.block k hk⟩))
  have HR0 := Aside0.mk hR
  have HDD := Aside0.mk HD
  clear hnC hR HD
  rcases fst_bd dl xs 0 with h | ⟨i0, h1, h2, h3, h4⟩
  · have hall := fst_none dl xs 0 (by omega) h
    have hk : keptOf dl xs = xs := by
      unfold keptOf
      rw [List.filter_eq_self]
      intro x hx
      simp [hall x hx]
    rw [hk]
    rw [h] at HX
    clear h hall hk
    go_enter Try.func43, Try.ntmps43
    go_wp2_with (go_at_call 50; refine HX.out.mono ?_; rintro e w' ⟨rfl, hb⟩)
    go_ret
    exact ⟨_, rfl, Kd.R_below HR0.out hb, ⟨hb.os, hb.tape, hb.output, hb.size, fun k hk _ => hb.block k hk⟩⟩
  · rw [h1] at HX
    have HPRE : Aside0 (keptOf dl (xs.take (i0 + 1)) = xs.take i0) := ⟨by
      rw [List.take_succ_eq_append_getElem h2]
      unfold keptOf
      rw [List.filter_append, List.filter_eq_self.2 (fun x hx => ?_)]
      · simp [h4 h2]
      · obtain ⟨k, hk, rfl⟩ := List.mem_take_iff_getElem.1 hx
        have := h3 k (by omega) (by omega)
        simp [this]⟩
    have hi0 : ((0 : Int) + (i0 : Int)) = ((i0 : Nat) : Int) := by omega
    rw [hi0] at HX
    clear h1 h3 h4 hi0
    have hne : ((i0 : Int) = -1) = False := eq_false (by omega)
    have hne2 : decide ((i0 : Int) = -1) = false := decide_eq_false (by omega)
    have hne3 : ((i0 : Int) == -1) = false := by rw [beq_eq_false_iff_ne]; omega
    go_enter Try.func43, Try.ntmps43
    go_wp2_with (go_at_call 50; refine HX.out.mono ?_; rintro e w1 ⟨rfl, hb1⟩; have HB1 := Aside0.mk hb1; clear hb1)
    have HG1 : Aside0 (w.grownBy w1 (some b)) := ⟨⟨HB1.out.os, HB1.out.tape, HB1.out.output, HB1.out.size, fun k hk _ => HB1.out.block k hk⟩⟩
    have HR1 := Aside0.mk (Kd.R_below HR0.out HB1.out)
    go_loopw [5, 6] (fun v5 v6 wr => ∃ (i k : Nat) (cur : List Int), i < k ∧ k ≤ xs.length ∧ v5 = .int .i64 i ∧ v6 = .int .i64 k ∧ cur.length = xs.length ∧ Aside0 (cur.take i = keptOf dl (xs.take k)) ∧ Aside0 (cur.drop k = xs.drop k) ∧ Aside0 (kI.R 3 wr base (fun _ => True) (.slice (some ⟨b, 0, none⟩) cur.length n) cur) ∧ Aside0 (w.grownBy wr (some b))) (fun _ v6 _ => xs.length - (intOf v6).toNat)
    case atStart => exact ⟨i0, i0 + 1, xs, by omega, by omega, rfl, by simp, rfl, ⟨HPRE.out.symm⟩, ⟨rfl⟩, HR1, HG1⟩
    case round =>
      obtain ⟨i, k, cur, hik, hk, rfl, rfl, hcl, HT, HDR, HR, HG⟩ := hrel
      obtain ⟨cs9, hb9⟩ := Kd.R_typed HR.out b rfl
      by_cases hlt : k < xs.length
      · obtain ⟨hx0, hxf⟩ := Kd.R_cell (0 : Int) HR.out (k : Int) (by omega) (by omega)
        obtain ⟨hy0, hyf⟩ := Kd.R_cell (0 : Int) HR.out (i : Int) (by omega) (by omega)
        have hxg : rdOf (0 : Int) cur (k : Int) = xs[k] := by
          have h5 := congrArg (fun l : List Int => l[0]?) HDR.out
          simp only [List.getElem?_drop, Nat.add_zero] at h5
          rw [List.getElem?_eq_getElem (by omega), List.getElem?_eq_getElem hlt] at h5
          simp only [rdOf, Int.toNat_natCast, List.getD, List.getElem?_eq_getElem (show k < cur.length by omega)]
          exact Option.some.inj h5
        obtain ⟨x, hxe⟩ : ∃ x, x = xs[k] := ⟨_, rfl⟩
        have hxm : x ∈ xs := by rw [hxe]; exact List.getElem_mem hlt
        rw [hxg, ← hxe, Int.toNat_natCast] at hx0
        rw [Int.toNat_natCast] at hxf hy0 hyf
        have HST := Aside0.mk (Kd.R_put HR.out (i : Int) x)
        rw [Int.toNat_natCast] at HST
        have HTK : Aside0 (keptOf dl (xs.take (k + 1)) = keptOf dl (xs.take k) ++ (if dl x = true then [] else [x])) := ⟨by
          rw [List.take_succ_eq_append_getElem hlt, ← hxe]
          unfold keptOf
          rw [List.filter_append]
          cases hd : dl x <;> simp [hd]⟩
        have HDR1 : Aside0 (cur.drop (k + 1) = xs.drop (k + 1)) := ⟨by
          have := congrArg (List.drop 1) HDR.out
          simpa [List.drop_drop, Nat.add_comm] using this⟩
        have h0k : (0 : Int) ≤ (k : Int) := by omega
        have hkl : (k : Int) < (xs.length : Int) := by omega
        have h0i : (0 : Int) ≤ (i : Int) := by omega
        have hil : (i : Int) < (xs.length : Int) := by omega
        have hbl : b < wr.heap.size := blk_lt hb9
        have HB9 := Aside0.mk hb9
        clear hxe hxg hb9 HDR
        cases hd : dl x with
        | true =>
          rw [hd, if_pos rfl, List.append_nil] at HTK
          go_wp2_with (go_at_call 49; refine (HDD.out _ HG.out x hxm).mono ?_; rintro e w2 ⟨rfl, hb2⟩; rw [hd])
          go_roundw
          case measure => simp [intOf, Go.RowKit.intOf]; omega
          case rel => exact ⟨i, k + 1, cur, by omega, by omega, rfl, by rw [show ((k : Int) + 1) = ((k + 1 : Nat) : Int) by omega], hcl, ⟨by rw [HTK.out]; exact HT.out⟩, HDR1, ⟨Kd.R_below HR.out hb2⟩, ⟨Ko.grown_trans HG.out ⟨hb2.os, hb2.tape, hb2.output, hb2.size, fun k hk _ => hb2.block k hk⟩⟩⟩
        | false =>
          rw [hd, if_neg (by decide)] at HTK
          go_wp2_with (go_at_call 49; refine (HDD.out _ HG.out x hxm).mono ?_; rintro e w2 ⟨rfl, hb2⟩; rw [hd]; have hy2 : w2.cell? ⟨b, i, none⟩ = _ := (hb2.cell (p := ⟨b, i, none⟩) hbl).trans hy0; have hyf2 : w2.frozen? ⟨b, i, none⟩ = false := (hb2.frozen (p := ⟨b, i, none⟩) hbl).trans hyf; have HB2 := Aside0.mk hb2; clear hb2)
          have hst2 := Kd.R_put (Kd.R_below HR.out HB2.out) (i : Int) x
          rw [Int.toNat_natCast] at hst2
          have hg2 : w.grownBy w2 (some b) := Ko.grown_trans HG.out ⟨HB2.out.os, HB2.out.tape, HB2.out.output, HB2.out.size, fun k hk _ => HB2.out.block k hk⟩
          go_roundw
          case measure => simp [intOf, Go.RowKit.intOf]; omega
          case rel => exact ⟨i + 1, k + 1, cur.set i x, by omega, by omega, by rw [show ((i : Int) + 1) = ((i + 1 : Nat) : Int) by omega], by rw [show ((k : Int) + 1) = ((k + 1 : Nat) : Int) by omega], by rw [List.length_set]; exact hcl, ⟨by
              rw [HTK.out, List.take_succ_eq_append_getElem (by rw [List.length_set]; omega), List.take_set_of_le (Nat.le_refl _), HT.out]
              simp⟩, ⟨by rw [List.drop_set_of_lt (by omega)]; exact HDR1.out⟩, ⟨by rw [List.length_set]; exact hst2.1⟩, ⟨Ko.grown_trans hg2 hst2.2⟩⟩
      · have hke : k = xs.length := by omega
        subst hke
        have hT := HT.out
        rw [List.take_length] at hT
        have hR2 := Kd.R_take HR.out (m := i) (by omega)
        rw [hT] at hR2
        have hblk : ∃ cs : Array Value, wr.heap[b]? = some (.cells cs 3 (0, 0)) ∧ cs.size = n := by
          obtain ⟨_, inner, hown, _⟩ := HR.out
          rcases hown.2 with ⟨hv, _⟩ | ⟨g', cap', cur', hv, hb, hh, _, hcm, hcs, htake⟩
          · cases hv
          injection hv with ha _ hc
          injection ha with ha
          injection ha with hg
          subst hg; subst hc
          exact ⟨cur', hh, by rw [hcs]; simp [kI, Kd.int, Kd.scalar]⟩
        obtain ⟨cs, hcs, hcsz⟩ := hblk
        have hcz : (n = i) = False := eq_false (by omega)
        have hcz2 : decide (n = i) = false := decide_eq_false (by omega)
        have h0i : (0 : Int) ≤ (i : Int) := by omega
        have hil : (i : Int) ≤ (xs.length : Int) := by omega
        have hin : i ≤ n := by omega
        have hii : i ≤ xs.length := by omega
        have hcl2 : ∀ ty, (Builtin.clear_ #[22] ty #[.slice (some ⟨b, i, none⟩) (xs.length - i) (n - i)]).run Try.prog wr = .ok (.tuple #[]) (wr.setCells b i (List.replicate (xs.length - i) (.int .i64 0))) := fun ty =>
          run_clear_str (P := Try.prog) wr 22 3 ty (.int .i64 0) rfl Try.underlying22 (fun w => by kernel_rfl) rfl b i (xs.length - i) (n - i) (fun j hj => by rw [blk_cell hcs]; simp [hcsz]; omega) (fun j hj => blk_frozen hcs _)
        have hK := Ko.R_tail hR2 (List.replicate (xs.length - i) (.int .i64 0)) (o := i) (by simp [kI, Kd.int, Kd.scalar]) (by simp [kI, Kd.int, Kd.scalar]; omega)
        have HK := Aside0.mk hK
        clear hK hR2 hT hcs hcsz HDR HT HR hcl hik hb9
        go_wp2
        go_ret
        exact ⟨_, rfl, HK.out.1, Ko.grown_trans HG.out HK.out.2⟩
theorem delFunc_any_of (dl : Int → Bool) (D M : Nat) (xs : List Int) (v : Value) (base : Nat) (hR : kI.R 3 w base (fun _ => True) v xs)
    (HD : ∀ W, w.grownBy W v.ownBlock → ∀ x ∈ xs, Calls Try.prog 49 #[.int .i64 x, .pointer (some ⟨D, 0, none⟩), .pointer (some ⟨M, 0, none⟩)] W fun e w' => e = .returned (.bool (dl x)) ∧ Below W.heap.size W w') :
    Calls Try.prog 43 #[v, .func (.func 49) #[] #[.pointer (some ⟨D, 0, none⟩), .pointer (some ⟨M, 0, none⟩)]] w fun e w' => ∃ v' : Value, e = .returned v' ∧
      kI.R 3 w' base (fun _ => True) v' (keptOf dl xs) ∧ w.grownBy w' v.ownBlock ∧ v'.ownBlock = v.ownBlock := by
  rcases fst_bd dl xs 0 with h | ⟨i, h1, h2, _⟩
  · obtain ⟨A, n, rfl⟩ := Kd.R_slice hR
    refine (delFunc_none_of dl D M xs A n base hR (fun W hb => HD W ⟨hb.os, hb.tape, hb.output, hb.size, fun k hk _ => hb.block k hk⟩) h).mono ?_
    rintro e w' ⟨rfl, h1, hb⟩
    exact ⟨_, rfl, h1, ⟨hb.os, hb.tape, hb.output, hb.size, fun k hk _ => hb.block k hk⟩, rfl⟩
  · obtain ⟨b, n, rfl, _⟩ := Kd.R_form hR (by omega)
    refine (delFunc_raw_of dl D M xs b n base hR (fun W hg => HD W hg)).mono ?_
    rintro e w' ⟨m, rfl, h1, hb⟩
    exact ⟨_, rfl, h1, hb, rfl⟩
set_option maxHeartbeats 2000000 in
theorem idx_raw_dr (dl : Int → Bool) (D : Nat) (xs : List Int) (A : Option Addr) (n : Nat) (hC : kI.C w A xs.length xs) (hn : xs.length ≤ n)
    (HD : ∀ W, Below w.heap.size w W → ∀ x ∈ xs, Calls Try.prog 44 #[.int .i64 x, .pointer (some ⟨D, 0, none⟩)] W fun e w' => e = .returned (.bool (dl x)) ∧ Below W.heap.size W w') :
    Calls Try.prog 50 #[.slice A xs.length n, .func (.func 44) #[] #[.pointer (some ⟨D, 0, none⟩)]] w fun e w' => e = .returned (.int .i64 (fstOf dl xs 0)) ∧ Below w.heap.size w w' := by
  have HC := Aside0.mk hC
  have HDD := Aside0.mk HD
  have hlen : xs.length ≤ 9223372036854775807 := hC.2.1
  obtain ⟨RES, hres⟩ : ∃ R, R = fstOf dl xs 0 := ⟨_, rfl⟩
  rw [← hres]
  have HRES := Aside0.mk hres.symm
  clear hC HD hres
  go_enter Try.func50, Try.ntmps50
  go_wp2
  go_loopw [8] (fun v8 wr => ∃ k : Nat, k ≤ xs.length ∧ v8 = .int .i64 k ∧ Aside0 (fstOf dl (xs.drop k) k = RES) ∧ Aside0 (Below w.heap.size w wr)) (fun v8 _ => xs.length - (intOf v8).toNat)
  case atStart => exact ⟨0, Nat.zero_le _, rfl, HRES, ⟨Below.refl _ _⟩⟩
  case round =>
    obtain ⟨k, hk, rfl, HF, HB⟩ := hrel
    by_cases hlt : k < xs.length
    · obtain ⟨ad, rfl, hx0⟩ := Kd.at_int (Kd.C_below HC.out HB.out) (k : Int) (by omega) (by omega)
      obtain ⟨x, hxe⟩ : ∃ x, x = rd xs (k : Int) := ⟨_, rfl⟩
      rw [← hxe, Int.toNat_natCast] at hx0
      have hxg : xs[k] = x := by rw [hxe]; simp [rd, List.getD, hlt]
      have hxm : x ∈ xs := by rw [← hxg]; exact List.getElem_mem hlt
      have hF := HF.out
      rw [List.drop_eq_getElem_cons hlt, hxg, fstOf] at hF
      have h0k : (0 : Int) ≤ (k : Int) := by omega
      have hkl : (k : Int) < (xs.length : Int) := by omega
      clear hxe hxg HF
      cases hd : dl x with
      | true =>
        rw [hd, if_pos rfl] at hF
        subst hF
        go_wp2_with (go_at_call 44; refine (HDD.out _ HB.out x hxm).mono ?_; rintro e w2 ⟨rfl, hb2⟩; rw [hd])
        go_ret
        exact ⟨rfl, below_step HB.out hb2⟩
      | false =>
        rw [hd, if_neg (by decide)] at hF
        have HF := Aside0.mk hF
        clear hF
        go_wp2_with (go_at_call 44; refine (HDD.out _ HB.out x hxm).mono ?_; rintro e w2 ⟨rfl, hb2⟩; rw [hd])
        exact ⟨⟨k + 1, by omega, by rw [show ((k : Int) + 1) = ((k + 1 : Nat) : Int) by omega], ⟨by rw [← HF.out]; rfl⟩, ⟨below_step HB.out hb2⟩⟩, by simp [intOf, Go.RowKit.intOf]; omega⟩
    · have hke : k = xs.length := by omega
      subst hke
      have hF := HF.out
      rw [List.drop_length] at hF
      have hF2 : -1 = RES := hF
      subst hF2
      clear hk HF hF
      go_wp2
      go_ret
      exact ⟨rfl, HB.out⟩
set_option maxHeartbeats 1000000 in
theorem delFunc_none_dr (dl : Int → Bool) (D : Nat) (xs : List Int) (A : Option Addr) (n base : Nat) (hR : kI.R 3 w base (fun _ => True) (.slice A xs.length n) xs)
    (HD : ∀ W, Below w.heap.size w W → ∀ x ∈ xs, Calls Try.prog 44 #[.int .i64 x, .pointer (some ⟨D, 0, none⟩)] W fun e w' => e = .returned (.bool (dl x)) ∧ Below W.heap.size W w') (h : fstOf dl xs 0 = -1) :
    Calls Try.prog 43 #[.slice A xs.length n, .func (.func 44) #[] #[.pointer (some ⟨D, 0, none⟩)]] w fun e w' => e = .returned (.slice A xs.length n) ∧
      kI.R 3 w' base (fun _ => True) (.slice A xs.length n) (keptOf dl xs) ∧ Below w.heap.size w w' := by
  have hnC := Kd.R_reads' hR
  have HX := Aside0.mk (idx_raw_dr (w := w) dl D xs A n hnC.2.2 hnC.2.1 HD)
  have HR0 := Aside0.mk hR
  clear hnC hR HD
  have hall := fst_none dl xs 0 (by omega) h
  have hk : keptOf dl xs = xs := by
    unfold keptOf
    rw [List.filter_eq_self]
    intro x hx
    simp [hall x hx]
  rw [hk]
  rw [h] at HX
  clear h hall hk
  go_enter Try.func43, Try.ntmps43
  go_wp2_with (go_at_call 50; refine HX.out.mono ?_; rintro e w' ⟨rfl, hb⟩)
  go_ret
  exact ⟨rfl, Kd.R_below HR0.out hb, hb⟩
set_option maxHeartbeats 4000000 in
theorem delFunc_raw_dr (dl : Int → Bool) (D : Nat) (xs : List Int) (b n base : Nat) (hR : kI.R 3 w base (fun _ => True) (.slice (some ⟨b, 0, none⟩) xs.length n) xs)
    (HD : ∀ W, w.grownBy W (some b) → ∀ x ∈ xs, Calls Try.prog 44 #[.int .i64 x, .pointer (some ⟨D, 0, none⟩)] W fun e w' => e = .returned (.bool (dl x)) ∧ Below W.heap.size W w') :
    Calls Try.prog 43 #[.slice (some ⟨b, 0, none⟩) xs.length n, .func (.func 44) #[] #[.pointer (some ⟨D, 0, none⟩)]] w fun e w' => ∃ m : Nat, e = .returned (.slice (some ⟨b, 0, none⟩) m n) ∧
      kI.R 3 w' base (fun _ => True) (.slice (some ⟨b, 0, none⟩) m n) (keptOf dl xs) ∧ w.grownBy w' (some b) := by
  have hnC := Kd.R_reads' hR
  have hn : xs.length ≤ n := hnC.2.1
  have hlen : xs.length ≤ 9223372036854775807 := hnC.2.2.2.1
  have HX := Aside0.mk (idx_raw_dr (w := w) dl D xs (some ⟨b, 0, none⟩) n hnC.2.2 hn (fun W hb => HD W ⟨hb.os, hb.tape, hb.output, hb.size, fun k hk _ => hb.block k hk⟩))
  have HR0 := Aside0.mk hR
  have HDD := Aside0.mk HD
  clear hnC hR HD
  rcases fst_bd dl xs 0 with h | ⟨i0, h1, h2, h3, h4⟩
  · have hall := fst_none dl xs 0 (by omega) h
    have hk : keptOf dl xs = xs := by
      unfold keptOf
      rw [List.filter_eq_self]
      intro x hx
      simp [hall x hx]
    rw [hk]
    rw [h] at HX
    clear h hall hk
    go_enter Try.func43, Try.ntmps43
    go_wp2_with (go_at_call 50; refine HX.out.mono ?_; rintro e w' ⟨rfl, hb⟩)
    go_ret
    exact ⟨_, rfl, Kd.R_below HR0.out hb, ⟨hb.os, hb.tape, hb.output, hb.size, fun k hk _ => hb.block k hk⟩⟩
  · rw [h1] at HX
    have HPRE : Aside0 (keptOf dl (xs.take (i0 + 1)) = xs.take i0) := ⟨by
      rw [List.take_succ_eq_append_getElem h2]
      unfold keptOf
      rw [List.filter_append, List.filter_eq_self.2 (fun x hx => ?_)]
      · simp [h4 h2]
      · obtain ⟨k, hk, rfl⟩ := List.mem_take_iff_getElem.1 hx
        have := h3 k (by omega) (by omega)
        simp [this]⟩
    have hi0 : ((0 : Int) + (i0 : Int)) = ((i0 : Nat) : Int) := by omega
    rw [hi0] at HX
    clear h1 h3 h4 hi0
    have hne : ((i0 : Int) = -1) = False := eq_false (by omega)
    have hne2 : decide ((i0 : Int) = -1) = false := decide_eq_false (by omega)
    have hne3 : ((i0 : Int) == -1) = false := by rw [beq_eq_false_iff_ne]; omega
    go_enter Try.func43, Try.ntmps43
    go_wp2_with (go_at_call 50; refine HX.out.mono ?_; rintro e w1 ⟨rfl, hb1⟩; have HB1 := Aside0.mk hb1; clear hb1)
    have HG1 : Aside0 (w.grownBy w1 (some b)) := ⟨⟨HB1.out.os, HB1.out.tape, HB1.out.output, HB1.out.size, fun k hk _ => HB1.out.block k hk⟩⟩
    have HR1 := Aside0.mk (Kd.R_below HR0.out HB1.out)
    go_loopw [5, 6] (fun v5 v6 wr => ∃ (i k : Nat) (cur : List Int), i < k ∧ k ≤ xs.length ∧ v5 = .int .i64 i ∧ v6 = .int .i64 k ∧ cur.length = xs.length ∧ Aside0 (cur.take i = keptOf dl (xs.take k)) ∧ Aside0 (cur.drop k = xs.drop k) ∧ Aside0 (kI.R 3 wr base (fun _ => True) (.slice (some ⟨b, 0, none⟩) cur.length n) cur) ∧ Aside0 (w.grownBy wr (some b))) (fun _ v6 _ => xs.length - (intOf v6).toNat)
    case atStart => exact ⟨i0, i0 + 1, xs, by omega, by omega, rfl, by simp, rfl, ⟨HPRE.out.symm⟩, ⟨rfl⟩, HR1, HG1⟩
    case round =>
      obtain ⟨i, k, cur, hik, hk, rfl, rfl, hcl, HT, HDR, HR, HG⟩ := hrel
      obtain ⟨cs9, hb9⟩ := Kd.R_typed HR.out b rfl
      by_cases hlt : k < xs.length
      · obtain ⟨hx0, hxf⟩ := Kd.R_cell (0 : Int) HR.out (k : Int) (by omega) (by omega)
        obtain ⟨hy0, hyf⟩ := Kd.R_cell (0 : Int) HR.out (i : Int) (by omega) (by omega)
        have hxg : rdOf (0 : Int) cur (k : Int) = xs[k] := by
          have h5 := congrArg (fun l : List Int => l[0]?) HDR.out
          simp only [List.getElem?_drop, Nat.add_zero] at h5
          rw [List.getElem?_eq_getElem (by omega), List.getElem?_eq_getElem hlt] at h5
          simp only [rdOf, Int.toNat_natCast, List.getD, List.getElem?_eq_getElem (show k < cur.length by omega)]
          exact Option.some.inj h5
        obtain ⟨x, hxe⟩ : ∃ x, x = xs[k] := ⟨_, rfl⟩
        have hxm : x ∈ xs := by rw [hxe]; exact List.getElem_mem hlt
        rw [hxg, ← hxe, Int.toNat_natCast] at hx0
        rw [Int.toNat_natCast] at hxf hy0 hyf
        have HST := Aside0.mk (Kd.R_put HR.out (i : Int) x)
        rw [Int.toNat_natCast] at HST
        have HTK : Aside0 (keptOf dl (xs.take (k + 1)) = keptOf dl (xs.take k) ++ (if dl x = true then [] else [x])) := ⟨by
          rw [List.take_succ_eq_append_getElem hlt, ← hxe]
          unfold keptOf
          rw [List.filter_append]
          cases hd : dl x <;> simp [hd]⟩
        have HDR1 : Aside0 (cur.drop (k + 1) = xs.drop (k + 1)) := ⟨by
          have := congrArg (List.drop 1) HDR.out
          simpa [List.drop_drop, Nat.add_comm] using this⟩
        have h0k : (0 : Int) ≤ (k : Int) := by omega
        have hkl : (k : Int) < (xs.length : Int) := by omega
        have h0i : (0 : Int) ≤ (i : Int) := by omega
        have hil : (i : Int) < (xs.length : Int) := by omega
        have hbl : b < wr.heap.size := blk_lt hb9
        have HB9 := Aside0.mk hb9
        clear hxe hxg hb9 HDR
        cases hd : dl x with
        | true =>
          rw [hd, if_pos rfl, List.append_nil] at HTK
          go_wp2_with (go_at_call 44; refine (HDD.out _ HG.out x hxm).mono ?_; rintro e w2 ⟨rfl, hb2⟩; rw [hd])
          go_roundw
          case measure => simp [intOf, Go.RowKit.intOf]; omega
          case rel => exact ⟨i, k + 1, cur, by omega, by omega, rfl, by rw [show ((k : Int) + 1) = ((k + 1 : Nat) : Int) by omega], hcl, ⟨by rw [HTK.out]; exact HT.out⟩, HDR1, ⟨Kd.R_below HR.out hb2⟩, ⟨Ko.grown_trans HG.out ⟨hb2.os, hb2.tape, hb2.output, hb2.size, fun k hk _ => hb2.block k hk⟩⟩⟩
        | false =>
          rw [hd, if_neg (by decide)] at HTK
          go_wp2_with (go_at_call 44; refine (HDD.out _ HG.out x hxm).mono ?_; rintro e w2 ⟨rfl, hb2⟩; rw [hd]; have hy2 : w2.cell? ⟨b, i, none⟩ = _ := (hb2.cell (p := ⟨b, i, none⟩) hbl).trans hy0; have hyf2 : w2.frozen? ⟨b, i, none⟩ = false := (hb2.frozen (p := ⟨b, i, none⟩) hbl).trans hyf; have HB2 := Aside0.mk hb2; clear hb2)
          have hst2 := Kd.R_put (Kd.R_below HR.out HB2.out) (i : Int) x
          rw [Int.toNat_natCast] at hst2
          have hg2 : w.grownBy w2 (some b) := Ko.grown_trans HG.out ⟨HB2.out.os, HB2.out.tape, HB2.out.output, HB2.out.size, fun k hk _ => HB2.out.block k hk⟩
          go_roundw
          case measure => simp [intOf, Go.RowKit.intOf]; omega
          case rel => exact ⟨i + 1, k + 1, cur.set i x, by omega, by omega, by rw [show ((i : Int) + 1) = ((i + 1 : Nat) : Int) by omega], by rw [show ((k : Int) + 1) = ((k + 1 : Nat) : Int) by omega], by rw [List.length_set]; exact hcl, ⟨by
              rw [HTK.out, List.take_succ_eq_append_getElem (by rw [List.length_set]; omega), List.take_set_of_le (Nat.le_refl _), HT.out]
              simp⟩, ⟨by rw [List.drop_set_of_lt (by omega)]; exact HDR1.out⟩, ⟨by rw [List.length_set]; exact hst2.1⟩, ⟨Ko.grown_trans hg2 hst2.2⟩⟩
      · have hke : k = xs.length := by omega
        subst hke
        have hT := HT.out
        rw [List.take_length] at hT
        have hR2 := Kd.R_take HR.out (m := i) (by omega)
        rw [hT] at hR2
        have hblk : ∃ cs : Array Value, wr.heap[b]? = some (.cells cs 3 (0, 0)) ∧ cs.size = n := by
          obtain ⟨_, inner, hown, _⟩ := HR.out
          rcases hown.2 with ⟨hv, _⟩ | ⟨g', cap', cur', hv, hb, hh, _, hcm, hcs, htake⟩
          · cases hv
          injection hv with ha _ hc
          injection ha with ha
          injection ha with hg
          subst hg; subst hc
          exact ⟨cur', hh, by rw [hcs]; simp [kI, Kd.int, Kd.scalar]⟩
        obtain ⟨cs, hcs, hcsz⟩ := hblk
        have hcz : (n = i) = False := eq_false (by omega)
        have hcz2 : decide (n = i) = false := decide_eq_false (by omega)
        have h0i : (0 : Int) ≤ (i : Int) := by omega
        have hil : (i : Int) ≤ (xs.length : Int) := by omega
        have hin : i ≤ n := by omega
        have hii : i ≤ xs.length := by omega
        have hcl2 : ∀ ty, (Builtin.clear_ #[22] ty #[.slice (some ⟨b, i, none⟩) (xs.length - i) (n - i)]).run Try.prog wr = .ok (.tuple #[]) (wr.setCells b i (List.replicate (xs.length - i) (.int .i64 0))) := fun ty =>
          run_clear_str (P := Try.prog) wr 22 3 ty (.int .i64 0) rfl Try.underlying22 (fun w => by kernel_rfl) rfl b i (xs.length - i) (n - i) (fun j hj => by rw [blk_cell hcs]; simp [hcsz]; omega) (fun j hj => blk_frozen hcs _)
        have hK := Ko.R_tail hR2 (List.replicate (xs.length - i) (.int .i64 0)) (o := i) (by simp [kI, Kd.int, Kd.scalar]) (by simp [kI, Kd.int, Kd.scalar]; omega)
        have HK := Aside0.mk hK
        clear hK hR2 hT hcs hcsz HDR HT HR hcl hik hb9
        go_wp2
        go_ret
        exact ⟨_, rfl, HK.out.1, Ko.grown_trans HG.out HK.out.2⟩
theorem delFunc_any_dr (dl : Int → Bool) (D : Nat) (xs : List Int) (v : Value) (base : Nat) (hR : kI.R 3 w base (fun _ => True) v xs)
    (HD : ∀ W, w.grownBy W v.ownBlock → ∀ x ∈ xs, Calls Try.prog 44 #[.int .i64 x, .pointer (some ⟨D, 0, none⟩)] W fun e w' => e = .returned (.bool (dl x)) ∧ Below W.heap.size W w') :
    Calls Try.prog 43 #[v, .func (.func 44) #[] #[.pointer (some ⟨D, 0, none⟩)]] w fun e w' => ∃ v' : Value, e = .returned v' ∧
      kI.R 3 w' base (fun _ => True) v' (keptOf dl xs) ∧ w.grownBy w' v.ownBlock ∧ v'.ownBlock = v.ownBlock := by
  rcases fst_bd dl xs 0 with h | ⟨i, h1, h2, _⟩
  · obtain ⟨A, n, rfl⟩ := Kd.R_slice hR
    refine (delFunc_none_dr dl D xs A n base hR (fun W hb => HD W ⟨hb.os, hb.tape, hb.output, hb.size, fun k hk _ => hb.block k hk⟩) h).mono ?_
    rintro e w' ⟨rfl, h1, hb⟩
    exact ⟨_, rfl, h1, ⟨hb.os, hb.tape, hb.output, hb.size, fun k hk _ => hb.block k hk⟩, rfl⟩
  · obtain ⟨b, n, rfl, _⟩ := Kd.R_form hR (by omega)
    refine (delFunc_raw_dr dl D xs b n base hR (fun W hg => HD W hg)).mono ?_
    rintro e w' ⟨m, rfl, h1, hb⟩
    exact ⟨_, rfl, h1, hb, rfl⟩
end Go.Proofs.Yteagjolmikbllaa.Ob
