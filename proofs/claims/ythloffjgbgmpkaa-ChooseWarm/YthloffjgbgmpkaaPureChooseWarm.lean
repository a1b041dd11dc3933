/-
  The pure statement of ChooseWarm. Conditions: none.
-/
import Derived.Test.YthloffjgbgmpkaaPBx4
import Derived.Test.YthloffjgbgmpkaaPlainChoose
set_option linter.unusedVariables false
set_option linter.unusedSimpArgs false
namespace Go.Proofs.Ythloffjgbgmpkaa.Pure
open Go.RowKit Go.Proofs.Ythloffjgbgmpkaa.PA Go.Proofs.Ythloffjgbgmpkaa.Man Go.Proofs.Ythloffjgbgmpkaa.PB Go.Proofs.Ythloffjgbgmpkaa.Plain Go.Proofs.YthloffjgbgmpkaaW.PrintWords Go.Proofs.YthloffjgbgmpkaaW.PrintLast
theorem lives_at : hostlerlaw17_lives.f 30 = some true := by decide +kernel
theorem lives_mono (k : Nat) : hostlerlaw17_lives.f (30 + k) = some true := by
  induction k with
  | zero => exact lives_at
  | succ k ih => exact hostlerlaw17_lives.mono _ _ ih
theorem mod_bd (x m : Int) (h0 : 0 < m) (h9 : m ≤ 9) : 0 ≤ wrap64 (Int.tmod (IntKind.u64.wrap x) m) ∧ wrap64 (Int.tmod (IntKind.u64.wrap x) m) < m := by
  have hw : 0 ≤ IntKind.u64.wrap x := by
    unfold IntKind.wrap
    simp [IntKind.bits, IntKind.signed]
    omega
  have h1 : 0 ≤ Int.tmod (IntKind.u64.wrap x) m := Int.tmod_nonneg m hw
  have h2 : Int.tmod (IntKind.u64.wrap x) m < m := Int.tmod_lt_of_pos _ h0
  rw [wrap_in (by omega) (by omega)]
  exact ⟨h1, h2⟩
/-- How many more could be made. -/
def phi : List S32 → Nat
  | [] => 0
  | h :: l => (8 - h.f1).toNat + phi l
theorem phi_set : ∀ (l : List S32) (j : Nat) (x : S32), j < l.length → phi (l.set j x) + (8 - (rd_T32 l j).f1).toNat = phi l + (8 - x.f1).toNat := by
  intro l
  induction l with
  | nil => intro j x h; simp at h
  | cons h l ih =>
    intro j x hj
    cases j with
    | zero =>
      show (8 - x.f1).toNat + phi l + (8 - h.f1).toNat = (8 - h.f1).toNat + phi l + (8 - x.f1).toNat
      omega
    | succ j =>
      have h1 : rd_T32 (h :: l) ((j + 1 : Nat) : Int) = rd_T32 l (j : Int) := by simp [rd_T32]
      rw [h1]
      have := ih j x (by simpa using hj)
      show (8 - h.f1).toNat + phi (l.set j x) + _ = (8 - h.f1).toNat + phi l + _
      omega
theorem phi_pos (l : List S32) (j : Nat) (hj : j < l.length) : (8 - (rd_T32 l j).f1).toNat ≤ phi l := by
  induction l generalizing j with
  | nil => simp at hj
  | cons h l ih =>
    cases j with
    | zero =>
      show (8 - h.f1).toNat ≤ (8 - h.f1).toNat + phi l
      omega
    | succ j =>
      have h1 : rd_T32 (h :: l) ((j + 1 : Nat) : Int) = rd_T32 l (j : Int) := by simp [rd_T32]
      rw [h1]
      have := ih j (by simpa using hj)
      show _ ≤ (8 - h.f1).toNat + phi l
      omega
def Mk (l : List S32) : Prop := ∀ x ∈ l, 0 ≤ x.f1 ∧ x.f1 ≤ 8
theorem phi_le (l : List S32) (h : Mk l) : phi l ≤ 8 * l.length := by
  induction l with
  | nil => simp [phi]
  | cons x l ih =>
    have h1 := h x (by simp)
    have h2 := ih (fun y hy => h y (by simp [hy]))
    show (8 - x.f1).toNat + phi l ≤ 8 * (l.length + 1)
    omega
theorem mem_rd (l : List S32) (j : Nat) (hj : j < l.length) : rd_T32 l j ∈ l := by simp [rd_T32, List.getD_eq_getElem?_getD, hj]
theorem rd_set (l : List S32) (j : Nat) (x : S32) (hj : j < l.length) : rd_T32 (l.set j x) j = x := by simp [rd_T32, List.getD_eq_getElem?_getD, hj]
theorem mem_set {l : List S32} {j : Nat} {x y : S32} (h : y ∈ l.set j x) : y ∈ l ∨ y = x := List.mem_or_eq_of_mem_set h
theorem rest_loop (l : List S32) (hl : Ok l) (each warm : Int) (hp : ∀ i, i < l.length → pW each warm (rd_T32 l i) = false) : ∀ (d n k : Nat), n + d = l.length → d < k → hostlerlaw17_ChooseWarm.l2 k each warm l n = some true := by
  intro d
  induction d with
  | zero =>
    intro n k hn hk
    obtain ⟨k, rfl⟩ : ∃ m, k = m + 1 := ⟨k - 1, by omega⟩
    unfold hostlerlaw17_ChooseWarm.l2
    rw [if_neg (by omega)]
  | succ d ih =>
    intro n k hn hk
    obtain ⟨k, rfl⟩ : ∃ m, k = m + 1 := ⟨k - 1, by omega⟩
    have h20 := hl.1
    have hs := ok_at hl n (by omega)
    have hmx := small_mx hs
    have hpn := hp n (by omega)
    unfold hostlerlaw17_ChooseWarm.l2
    rw [if_pos (by omega), if_pos (by omega), cast1 n (by omega), ih (n + 1) k (by omega) (by omega)]
    rw [wrap_in (x := mx (rd_T32 l n).f1 0 + mx (rd_T32 l n).f2 0) (by omega) (by omega), wrap_in (x := mx (rd_T32 l n).f1 0 + mx (rd_T32 l n).f2 0 + mx (rd_T32 l n).f3 0) (by omega) (by omega)]
    by_cases h0 : (rd_T32 l n).f0 = 0
    · rw [if_pos h0]
      by_cases h4 : (rd_T32 l n).f4 = true
      · rw [if_pos h4]
        by_cases hw : mx (rd_T32 l n).f1 0 + mx (rd_T32 l n).f2 0 < warm
        · rw [if_pos hw]
          by_cases he : mx (rd_T32 l n).f1 0 + mx (rd_T32 l n).f2 0 + mx (rd_T32 l n).f3 0 < each
          · have : pW each warm (rd_T32 l n) = true := by simp [pW, pO, h0, h4, own, sumv, hw, he]
            rw [this] at hpn
            cases hpn
          · rw [if_neg he]
        · rw [if_neg hw]
      · rw [if_neg h4]
    · rw [if_neg h0]
theorem warm_rounds (each warm : Int) (he : each ≤ 8) (hw : warm ≤ 8) : ∀ (f : Nat) (l : List S32) (n k : Nat), Ok l → Mk l → phi l ≤ f → n + f < 200 → f + 50 < k → hostlerlaw17_ChooseWarm.l1 k each warm l n = some true := by
  intro f
  induction f with
  | zero =>
    intro l n k hl hm hf hn hk
    obtain ⟨k, rfl⟩ : ∃ m, k = m + 1 := ⟨k - 1, by omega⟩
    have h20 := hl.1
    unfold hostlerlaw17_ChooseWarm.l1
    obtain ⟨b, e, B⟩ := warm_is l hl each warm k (by omega)
    rw [if_pos (by omega), e, Option.bind_some]
    rcases B with ⟨rfl, hb⟩ | ⟨j, rfl, hj, hPj, _⟩
    · rw [if_neg (by simp)]
      exact rest_loop l hl each warm hb l.length 0 k (by omega) (by omega)
    · have hq := phi_pos l j hj
      have hmj := hm _ (mem_rd l j hj)
      have hmx := small_mx (ok_at hl j hj)
      have : own (rd_T32 l j) < warm := by
        have h := show pW each warm (rd_T32 l j) = true from hPj
        simp [pW] at h
        exact h.2
      unfold own at this
      have e1 : mx (rd_T32 l j).f1 0 = (rd_T32 l j).f1 := by unfold mx; split <;> omega
      omega
  | succ f ih =>
    intro l n k hl hm hf hn hk
    obtain ⟨k, rfl⟩ : ∃ m, k = m + 1 := ⟨k - 1, by omega⟩
    have h20 := hl.1
    unfold hostlerlaw17_ChooseWarm.l1
    obtain ⟨b, e, B⟩ := warm_is l hl each warm k (by omega)
    rw [if_pos (by omega), e, Option.bind_some]
    rcases B with ⟨rfl, hb⟩ | ⟨j, rfl, hj, hPj, _⟩
    · rw [if_neg (by simp)]
      exact rest_loop l hl each warm hb l.length 0 k (by omega) (by omega)
    · have hq := phi_pos l j hj
      have hmj := hm _ (mem_rd l j hj)
      have hmx := small_mx (ok_at hl j hj)
      have hp := show pW each warm (rd_T32 l j) = true from hPj
      simp [pW, pO] at hp
      obtain ⟨⟨h0, h4, hsum⟩, hown⟩ := hp
      have e1 : mx (rd_T32 l j).f1 0 = (rd_T32 l j).f1 := by unfold mx; split <;> omega
      have e2 : mx (j : Int) 0 = j := by unfold mx; split <;> omega
      have e3 : wrap64 ((rd_T32 l j).f1 + 1) = (rd_T32 l j).f1 + 1 := by rw [wrap_in (by omega) (by omega)]
      unfold own at hown
      unfold sumv at hsum
      rw [e1] at hown hsum
      obtain ⟨x, hx⟩ : ∃ x : S32, (⟨(rd_T32 l j).f0, (rd_T32 l j).f1 + 1, (rd_T32 l j).f2, (rd_T32 l j).f3, (rd_T32 l j).f4⟩ : S32) = x := ⟨_, rfl⟩
      have hxs : SmallH x := by
        have h := ok_at hl j hj
        subst hx
        exact ⟨by show -1000 ≤ (rd_T32 l j).f1 + 1 ∧ (rd_T32 l j).f1 + 1 ≤ 1000; omega, h.2.1, h.2.2⟩
      have hok : Ok (l.set j x) := ⟨by simpa using h20, fun y hy => by
        rcases mem_set hy with h1 | h1
        · exact hl.2 y h1
        · rw [h1]; exact hxs⟩
      have hx1 : x.f1 = (rd_T32 l j).f1 + 1 := by rw [← hx]
      have hx2 : x.f2 = (rd_T32 l j).f2 := by rw [← hx]
      have hx3 : x.f3 = (rd_T32 l j).f3 := by rw [← hx]
      have hMk : Mk (l.set j x) := fun y hy => by
        rcases mem_set hy with h1 | h1
        · exact hm y h1
        · rw [h1, hx1]; omega
      have hphi := phi_set l j x hj
      have ex : mx ((rd_T32 l j).f1 + 1) 0 = (rd_T32 l j).f1 + 1 := by unfold mx; split <;> omega
      have hone := one_is (l.set j x) hok j (by simpa using hj) k (by omega)
      rw [rd_set l j x hj] at hone
      simp only [e2, e3, Int.toNat_natCast]
      rw [if_pos (by simp), if_pos (by omega), if_pos (by omega), hx, Option.bind_some, rd_set l j x hj, cast1 j (by omega), Int.toNat_natCast, hone, hx1, hx2, wrap_in (by omega) (by omega), if_neg (by omega), if_pos (by omega), if_pos (by omega), Option.bind_some]
      have hs : sumv x = (rd_T32 l j).f1 + 1 + mx (rd_T32 l j).f2 0 + mx (rd_T32 l j).f3 0 := by
        unfold sumv
        rw [hx1, hx2, hx3, ex]
      rw [hs, if_neg (by omega), cast1 n (by omega)]
      exact ih (l.set j x) (n + 1) k hok hMk (by omega) (by omega) (by omega)
theorem make_loop (a1 a2 : Int) : ∀ (d n k : Nat) (l : List S32), n + d = l.length → d + 220 < k → Ok l → (∀ i, i < n → 0 ≤ (rd_T32 l i).f1 ∧ (rd_T32 l i).f1 ≤ 8) → hostlerlaw17_ChooseWarm.l0 k a1 a2 l n = some true := by
  intro d
  induction d with
  | zero =>
    intro n k l hn hk hl hm
    obtain ⟨k, rfl⟩ : ∃ m, k = m + 1 := ⟨k - 1, by omega⟩
    have h20 := hl.1
    have h1 := mod_bd a1 9 (by omega) (by omega)
    have h2 := mod_bd a2 9 (by omega) (by omega)
    have hM : Mk l := fun x hx => by
      obtain ⟨i, hi, rfl⟩ := List.getElem_of_mem hx
      have := hm i (by omega)
      simpa [rd_T32, List.getD_eq_getElem?_getD, hi] using this
    have hphi := phi_le l hM
    unfold hostlerlaw17_ChooseWarm.l0
    rw [if_neg (by omega)]
    exact warm_rounds _ _ (by omega) (by omega) 160 l 0 k hl hM (by omega) (by omega) (by omega)
  | succ d ih =>
    intro n k l hn hk hl hm
    obtain ⟨k, rfl⟩ : ∃ m, k = m + 1 := ⟨k - 1, by omega⟩
    have h20 := hl.1
    have h1 := mod_bd (rd_T32 l n).f1 4 (by omega) (by omega)
    unfold hostlerlaw17_ChooseWarm.l0
    rw [if_pos (by omega), if_pos (by omega), cast1 n (by omega), Int.toNat_natCast]
    obtain ⟨v, hv⟩ : ∃ v, wrap64 (Int.tmod (IntKind.u64.wrap (rd_T32 l n).f1) 4) = v := ⟨_, rfl⟩
    rw [hv] at h1 ⊢
    have hs := ok_at hl n (by omega)
    refine ih (n + 1) k _ (by simp; omega) (by omega) ⟨by simpa using h20, fun y hy => ?_⟩ (fun i hi => ?_)
    · rcases mem_set hy with h2 | h2
      · exact hl.2 y h2
      · rw [h2]
        exact ⟨by show -1000 ≤ v ∧ v ≤ 1000; omega, hs.2.1, hs.2.2⟩
    · by_cases e : i = n
      · subst e
        rw [rd_set l i _ (by omega)]
        show 0 ≤ v ∧ v ≤ 8
        omega
      · have e2 : rd_T32 (l.set n ⟨(rd_T32 l n).f0, v, (rd_T32 l n).f2, (rd_T32 l n).f3, (rd_T32 l n).f4⟩) i = rd_T32 l i := by
          simp only [rd_T32, List.getD_eq_getElem?_getD, Int.toNat_natCast]
          rw [List.getElem?_set_ne (by omega)]
        rw [e2]
        exact hm i (by omega)
theorem ChooseWarm : hostlerlaw17_ChooseWarm.Pure := by
  intro l0 a1 a2 _ _ _ _ _
  refine ⟨300, ?_⟩
  obtain ⟨m, hm, h20, hsm⟩ := few_is l0 300 (by omega)
  have hok := ok_conv h20 hsm
  have h1 := hok.1
  have h := make_loop a1 a2 (m.map conv).length 0 300 (m.map conv) (by omega) (by omega) hok (fun i hi => by omega)
  unfold hostlerlaw17_ChooseWarm.f
  rw [lives_mono 270, Option.bind_some, if_pos rfl, hm, Option.bind_some, as_is m h20 300 (by omega), Option.bind_some]
  exact h
end Go.Proofs.Ythloffjgbgmpkaa.Pure
