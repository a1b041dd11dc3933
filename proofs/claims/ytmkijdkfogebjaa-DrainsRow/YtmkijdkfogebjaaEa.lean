/-
  early: the first 80 steps, their names cut; and a script's row as the laws keep it. Conditions: none.
-/
import Derived.Test.YtmkijdkfogebjaaDh
set_option linter.unusedVariables false
set_option linter.unusedSimpArgs false
namespace Go.Proofs.Ytmkijdkfogebjaa.Man
open Go.RowKit Go.Proofs.YtmkijdkfogebjaaW.PrintWords Go.Proofs.YtmkijdkfogebjaaW.PrintLast Go.Proofs.YtmkijdkfogebjaaW.PrintMore Go.Proofs.Ytmkijdkfogebjaa.PA Go.Proofs.Ytmkijdkfogebjaa.Hid
attribute [local go_sem] max2_int min2_int max_two min_two
variable {w0 w : World}
/-- A script's row: of the call's own; what its steps lead to lies below w0. -/
def Scr (w0 W : World) (v : Value) (xs : List S29) : Prop := Kd.N k29 29 W w0.heap.size (fun k => k < w0.heap.size ∨ some k = v.ownBlock) v xs
theorem Scr.step {W W1 : World} {v : Value} {xs : List S29} (h : Scr w0 W v xs) (hB : Below w0.heap.size w0 W) (hB1 : Below w0.heap.size w0 W1) (hk : ∀ k : Nat, (∃ cells : Array Value, W.heap[k]? = some (Obj.cells cells 29 (0, 0))) → W1.heap[k]? = W.heap[k]?) : Scr w0 W1 v xs := by
  refine Kd.N_step h (fun k hk1 hlt => ?_)
  rcases hk1 with h1 | h1
  · rw [hB1.block k h1, hB.block k h1]
  · exact hk k (Kd.N_typed h k h1.symm)
theorem Scr.below {W W1 : World} {v : Value} {xs : List S29} (h : Scr w0 W v xs) (hb : Below W.heap.size W W1) : Scr w0 W1 v xs := Kd.N_below h hb
theorem Scr.keep {W W1 : World} {v : Value} {xs : List S29} (h : Scr w0 W v xs) (hB : Below w0.heap.size w0 W) (hB1 : Below w0.heap.size w0 W1) (hk : KeptH TD W W1) : Scr w0 W1 v xs :=
  h.step hB hB1 (fun k hc => by obtain ⟨cells, hc⟩ := hc; exact hk.1.2 k (blk_lt hc) (not_hidn_cells hc (by decide)))
def cutName (nm : ByteArray) : ByteArray := nm.extract 0 (mn (nm.size : Int) 20).toNat
def cutStep (x : S29) : S29 := ⟨x.f0, x.f1, cutName x.f2, x.f3⟩
def earlyOf (xs : List S29) : List S29 := (xs.take 80).map cutStep
/-- The row as it grows: its cells, and what they say. -/
def Grw (w0 W : World) (base : Nat) (v : Value) (xs : List S29) : Prop := ∃ rows : List (List Value), rows.length = xs.length ∧ (Kd.raw 4).R 29 W base (fun _ => True) v rows ∧ ∀ (j : Nat) (x : S29) (c : List Value), xs[j]? = some x → rows[j]? = some c → Kd.FK k29 W (fun k => k < w0.heap.size) x c
theorem Grw.scr {W : World} {base : Nat} {v : Value} {xs : List S29} (h : Grw w0 W base v xs) (hb : w0.heap.size ≤ base) : Scr w0 W v xs := by
  obtain ⟨rows, hl, hR, hf⟩ := h
  refine ⟨fun k hk => .inr hk.symm, rows, hl, Kd.raw_tight (Kd.R_lower hR hb), fun j x c hx hc => Kd.FK_mono (hf j x c hx hc) (fun k hk => ⟨.inl hk, fun he => ?_⟩)⟩
  have := Kd.R_base hR k he.symm
  omega
theorem Grw.below {W W1 : World} {base : Nat} {v : Value} {xs : List S29} (h : Grw w0 W base v xs) (hb : Below W.heap.size W W1) : Grw w0 W1 base v xs := by
  obtain ⟨rows, hl, hR, hf⟩ := h
  exact ⟨rows, hl, Kd.R_below hR hb, fun j x c hx hc => Kd.FK_below (hf j x c hx hc) hb⟩
set_option maxHeartbeats 4000000 in
theorem early_raw (A : Option Addr) (n : Nat) (l0 : List S29) (hV : Kd.V k29 29 w 0 (fun k => k < w0.heap.size) (.slice A l0.length n) l0) (hB : Below w0.heap.size w0 w) :
    Calls Try.prog 10 #[.slice A l0.length n] w fun e w' => ∃ v, e = .returned v ∧ Scr w0 w' v (earlyOf l0) ∧ Below w.heap.size w w' := by
  have HV := Aside0.mk hV
  have HB0 := Aside0.mk hB
  have hlen : l0.length ≤ 9223372036854775807 := (Kd.V_reads' hV).2.2.2.1
  have hw0 : w0.heap.size ≤ w.heap.size := hB.size
  clear hV hB
  go_enter Try.func10, Try.ntmps10
  go_wp2
  go_loopw [3, 4] (fun v3 v4 wr => ∃ k : Nat, k ≤ l0.length ∧ k ≤ 80 ∧ v4 = .int .i64 k ∧ Aside0 (Grw w0 wr w.heap.size v3 ((l0.take k).map cutStep)) ∧ Aside0 (Below w.heap.size w wr)) (fun _ v4 _ => l0.length - (intOf v4).toNat)
  case atStart => exact ⟨0, Nat.zero_le _, Nat.zero_le _, rfl, ⟨[], rfl, Kd.R_nil _ _ _ _ _, fun j x c h => by simp at h⟩, ⟨Below.refl _ _⟩⟩
  case round =>
    obtain ⟨k, hk, hk80, rfl, HO, HB⟩ := hrel
    by_cases hlt : k < l0.length
    · by_cases h80 : k < 80
      · have HVr := Aside0.mk (Kd.V_below HV.out HB.out)
        obtain ⟨ad, A3, c3, hA, hx0, hx1, hx2, hx3, hl3, hi3⟩ := at_T29 (Kd.V_reads' HVr.out).2.2 (k : Int) (by omega) (by omega)
        subst hA
        obtain ⟨ce, hce, hMe, hcc⟩ := Kd.V_get HVr.out z29 (k : Int) (by omega) (by omega)
        obtain ⟨x, hxe⟩ : ∃ x : S29, x = rd_T29 l0 (k : Int) := ⟨_, rfl⟩
        have hxe2 : l0.getD ((k : Int)).toNat z29 = x := hxe.symm
        rw [hxe2] at hMe
        rw [← hxe, Int.toNat_natCast] at hx0 hx1 hx2 hx3
        rw [← hxe] at hl3 hi3
        obtain ⟨ua, uc, rfl, ul, ge⟩ := k29_openF hMe
        have hv3 := hcc 3 _ rfl
        rw [add_field _ _ 3 (by omega), Int.toNat_natCast] at hv3
        replace hv3 := Option.some.inj (hv3.symm.trans hx3)
        injection hv3 with hva hvn hvc
        subst hva; subst hvc
        have HGE := Aside0.mk ge
        have hxg : l0[k] = x := by rw [hxe]; simp [rd_T29, List.getD, hlt]
        have hts : (l0.take (k + 1)).map cutStep = (l0.take k).map cutStep ++ [cutStep x] := by rw [List.take_succ_eq_append_getElem hlt, hxg]; simp
        have HTS := Aside0.mk hts
        obtain ⟨ji, hji⟩ : ∃ ji, mn (x.f2.size : Int) 20 = ji := ⟨_, rfl⟩
        have hj0 : 0 ≤ ji ∧ ji ≤ (x.f2.size : Int) := by rw [← hji]; unfold mn; split <;> omega
        have hji_ : (if 20 < (x.f2.size : Int) then 20 else (x.f2.size : Int)) = ji := hji
        have hj1 := hj0.1
        have hj2 := hj0.2
        have HCN : Aside0 (cutStep x = ⟨x.f0, x.f1, x.f2.extract 0 ji.toNat, x.f3⟩) := ⟨by unfold cutStep cutName; rw [hji]⟩
        have h0k : (0 : Int) ≤ (k : Int) := by omega
        have hkl : (k : Int) < (l0.length : Int) := by omega
        have hk80b : decide ((k : Int) < 80) = true := decide_eq_true (by omega)
        have hlk : ((l0.take k).map cutStep).length ≤ 80 := by simp; omega
        have HLK := Aside0.mk hlk
        generalize (l0.take k).map cutStep = xs at HO HTS HLK
        clear hcc hce hMe hxe hxe2 hts hj0 hji hl3 hi3 hxg hlk ge HVr
        obtain ⟨rows, HRL, HRR, HRF⟩ := HO.out
        have HR := Aside0.mk HRR
        have HF := Aside0.mk HRF
        have HL := Aside0.mk HRL
        clear HO HRR HRF HRL
        go_wp2_with ((with_reducible refine gate_builtin (b := .append) (xs := #[.tmp 28, .tmp 30]) rfl ?_); (try (refine gate_guard (by rfl) ?_; dsimp only)); at_builtin; refine Kd.R_append (Kd.raw 4) (w0 := w) w.heap.size rfl (.tmp 28) (.tmp 30) 22 29 (.agg #[(.int .i64 0), (.int .i64 0), (.string ⟨#[]⟩), (.slice none 0 0)]) 56 rfl Try.underlying22 info29 rfl (by decide) (by omega) _ rows [.int .i64 x.f0, .int .i64 x.f1, .string (x.f2.extract 0 ji.toNat), .slice ua x.f3.length uc] [.int .i64 x.f0, .int .i64 x.f1, .string (x.f2.extract 0 ji.toNat), .slice ua x.f3.length uc] (fun _ => True) (fun _ => False) rfl ?aX ?aP (fun _ h => h.elim) (fun _ _ => trivial) ?aO ?aB ?aS ?aL ?_; (case aX => (show Value.slice (some ⟨wr.heap.size + 1, 0, none⟩) 1 1 = _; simp)); (case aP => exact ⟨rfl, rfl, by simp [Value.oneCell']⟩); (case aO => exact Kd.R_below HR.out (below_alloc (Below.refl _ _) _)); (case aB => exact below_alloc HB.out _); (case aS => exact Nat.le_trans HB.out.size (by simp)); (case aL => have := HL.out; have := HLK.out; omega); intro v1 w1 ho hb hg hat; have HO1 := Aside0.mk ho; have HB1 := Aside0.mk hb; have HG1 := Aside0.mk hg; clear ho hb hg hat)
        go_roundw
        case measure => simp [intOf]; omega
        case rel =>
          refine ⟨k + 1, by omega, by omega, by rw [show ((k : Int) + 1) = ((k + 1 : Nat) : Int) by omega], ⟨?_⟩, HB1⟩
          rw [HTS.out]
          have hW : ∀ q, q < w0.heap.size → w1.heap[q]? = wr.heap[q]? := fun q hq => by rw [HB1.out.block q (by omega), HB.out.block q (by omega)]
          have hW2 : ∀ (x' : S29) c, Kd.FK k29 wr (fun k => k < w0.heap.size) x' c → Kd.FK k29 w1 (fun k => k < w0.heap.size) x' c := fun x' c h => Kd.FK_step h (fun q hq _ => hW q hq)
          refine ⟨rows ++ [[.int .i64 x.f0, .int .i64 x.f1, .string (x.f2.extract 0 ji.toNat), .slice ua x.f3.length uc]], by simp [HL.out], HO1.out, fun j y c hy hc => ?_⟩
          by_cases hj : j < xs.length
          · rw [List.getElem?_append_left hj] at hy
            rw [List.getElem?_append_left (by rw [HL.out]; exact hj)] at hc
            exact hW2 _ _ (HF.out j y c hy hc)
          · rw [List.getElem?_append_right (by omega)] at hy
            rw [List.getElem?_append_right (by rw [HL.out]; omega), HL.out] at hc
            have hj0 : j - xs.length = 0 := by
              rcases Nat.eq_zero_or_pos (j - xs.length) with h | h
              · exact h
              · rw [List.getElem?_eq_none (by simp; omega)] at hy
                cases hy
            rw [hj0] at hy hc
            have hy2 : cutStep x = y := by simpa using hy
            have hc2 := Option.some.inj (show some [Value.int .i64 x.f0, .int .i64 x.f1, .string (x.f2.extract 0 ji.toNat), .slice ua x.f3.length uc] = some c from hc)
            rw [← hy2, ← hc2, HCN.out]
            exact hW2 _ _ (k29_mkF wr _ ⟨x.f0, x.f1, x.f2.extract 0 ji.toNat, x.f3⟩ ul HGE.out)
      · have hk8 : k = 80 := by omega
        subst hk8
        have HS := Aside0.mk (HO.out.scr hw0)
        clear HO
        have hkl : ((80 : Nat) : Int) < (l0.length : Int) := by omega
        have hkl2 : (80 : Int) < (l0.length : Int) := by omega
        have hkl3 : decide ((80 : Int) < (l0.length : Int)) = true := decide_eq_true (by omega)
        have hkl4 : decide (80 < l0.length) = true := decide_eq_true (by omega)
        rw [show ((80 : Nat) : Int) = 80 from rfl]
        go_wp2
        go_ret
        exact ⟨_, rfl, HS.out, HB.out⟩
    · have hke : k = l0.length := by omega
      have HS := Aside0.mk (HO.out.scr hw0)
      have HE : Aside0 (earlyOf l0 = (l0.take k).map cutStep) := ⟨by
        unfold earlyOf
        rw [List.take_of_length_le (by omega), List.take_of_length_le (by omega)]⟩
      rw [← HE.out] at HS
      subst hke
      clear HO hk HE
      go_wp2
      go_ret
      exact ⟨_, rfl, HS.out, HB.out⟩
end Go.Proofs.Ytmkijdkfogebjaa.Man
