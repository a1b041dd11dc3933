/-
  The pure statement of ChooseOthers. Conditions: none.
-/
import Derived.Test.YthloffjgbgmpkaaPBx3
import Derived.Test.YthloffjgbgmpkaaPlainChoose
set_option linter.unusedVariables false
set_option linter.unusedSimpArgs false
namespace Go.Proofs.Ythloffjgbgmpkaa.Pure
open Go.RowKit Go.Proofs.Ythloffjgbgmpkaa.PA Go.Proofs.Ythloffjgbgmpkaa.Man Go.Proofs.Ythloffjgbgmpkaa.PB Go.Proofs.Ythloffjgbgmpkaa.Plain Go.Proofs.YthloffjgbgmpkaaW.PrintWords Go.Proofs.YthloffjgbgmpkaaW.PrintLast
theorem lives_at : hostlerlaw17_lives.f 30 = some true := by decide +kernel
theorem lives_mono (k : Nat) : hostlerlaw17_lives.f (30 + k) = some true := by
  induction k with
  | zero => exact lives_at
  | succ k ih => exact hostlerlaw17_lives.mono _ _ ih
/-- The best of a part is the best of all, where all that could be lie in the part. -/
theorem best_sub {P P' : Nat → Bool} {V V' : Nat → Int} {n n' : Nat} {b b' : Int} (g : Nat → Nat) (hg : ∀ j, j < n' → g j < n) (hm : ∀ j j', j ≤ j' → j' < n' → g j ≤ g j') (hs : ∀ i, i < n → P i = true → ∃ j, j < n' ∧ g j = i)
    (hP : ∀ j, j < n' → P' j = P (g j)) (hV : ∀ j, j < n' → V' j = V (g j)) (h : Best P V n b) (h' : Best P' V' n' b') : (b = -1 ∧ b' = -1) ∨ ∃ j : Nat, b' = (j : Int) ∧ j < n' ∧ b = (g j : Int) := by
  rcases h' with ⟨rfl, hn⟩ | ⟨j, rfl, hj, hPj, hn⟩
  · refine .inl ⟨?_, rfl⟩
    refine best_one (P' := P) (V' := V) h (.inl ⟨rfl, fun i hi => ?_⟩) (fun _ _ => rfl) (fun _ _ => rfl)
    cases hp : P i with
    | false => rfl
    | true =>
      obtain ⟨j, hj, rfl⟩ := hs i hi hp
      rw [← hP j hj, hn j hj] at hp
      cases hp
  · refine .inr ⟨j, rfl, hj, ?_⟩
    refine best_one (P' := P) (V' := V) h (.inr ⟨g j, rfl, hg j hj, by rw [← hP j hj]; exact hPj, fun i hi hp => ?_⟩) (fun _ _ => rfl) (fun _ _ => rfl)
    obtain ⟨j', hj', rfl⟩ := hs i hi hp
    have := hn j' hj' (by rw [hP j' hj']; exact hp)
    rw [hV j hj, hV j' hj'] at this
    rcases this with h1 | ⟨h1, h2⟩
    · exact .inl h1
    · exact .inr ⟨h1, hm j j' h2 hj'⟩
/-- The places of the active ones. -/
def idx (l : List S32) (n : Nat) : List Nat := (List.range n).filter fun i => decide ((rd_T32 l i).f0 = 0)
theorem idx_yes (l : List S32) (n : Nat) (h : (rd_T32 l n).f0 = 0) : idx l (n + 1) = idx l n ++ [n] := by
  unfold idx
  rw [List.range_succ, List.filter_append]
  simp [h]
theorem idx_no (l : List S32) (n : Nat) (h : ¬ (rd_T32 l n).f0 = 0) : idx l (n + 1) = idx l n := by
  unfold idx
  rw [List.range_succ, List.filter_append]
  simp [h]
theorem idx_len (l : List S32) (n : Nat) : (idx l n).length ≤ n := by
  have := List.length_filter_le (fun i : Nat => decide ((rd_T32 l i).f0 = 0)) (List.range n)
  simpa [idx] using this
theorem idx_mem (l : List S32) (n i : Nat) : i ∈ idx l n ↔ i < n ∧ (rd_T32 l i).f0 = 0 := by simp [idx]
theorem idx_sorted (l : List S32) (n : Nat) : (idx l n).Pairwise (· < ·) := List.Pairwise.filter _ List.pairwise_lt_range
def gi (l : List S32) (j : Nat) : Nat := (idx l l.length).getD j 0
theorem gi_get (l : List S32) (j : Nat) (h : j < (idx l l.length).length) : gi l j = (idx l l.length)[j] := by simp [gi, List.getD_eq_getElem?_getD, h]
theorem gi_lt (l : List S32) (j : Nat) (h : j < (idx l l.length).length) : gi l j < l.length := by
  rw [gi_get l j h]
  exact ((idx_mem l _ _).1 (List.getElem_mem h)).1
theorem gi_mono (l : List S32) (j j' : Nat) (h : j ≤ j') (h' : j' < (idx l l.length).length) : gi l j ≤ gi l j' := by
  rw [gi_get l j (by omega), gi_get l j' h']
  by_cases e : j = j'
  · subst e; exact Nat.le_refl _
  · exact Nat.le_of_lt (List.pairwise_iff_getElem.1 (idx_sorted l l.length) j j' (by omega) h' (by omega))
theorem gi_surj (l : List S32) (i : Nat) (h : i < l.length) (h0 : (rd_T32 l i).f0 = 0) : ∃ j, j < (idx l l.length).length ∧ gi l j = i := by
  obtain ⟨j, hj, e⟩ := List.getElem_of_mem ((idx_mem l l.length i).2 ⟨h, h0⟩)
  exact ⟨j, hj, by rw [gi_get l j hj, e]⟩
def act (l : List S32) (n : Nat) : List S32 := (idx l n).map fun i => rd_T32 l (i : Nat)
def pls (l : List S32) (n : Nat) : List Int := (idx l n).map fun i : Nat => (i : Int)
theorem rd_act (l : List S32) (j : Nat) (h : j < (idx l l.length).length) : rd_T32 (act l l.length) j = rd_T32 l (gi l j) := by
  rw [gi_get l j h]
  unfold act
  rw [show rd_T32 ((idx l l.length).map fun i => rd_T32 l (i : Nat)) (j : Int) = ((idx l l.length).map fun i => rd_T32 l (i : Nat)).getD j z32 from rfl, List.getD_eq_getElem?_getD, List.getElem?_map, List.getElem?_eq_getElem h]
  rfl
theorem rd_pls (l : List S32) (j : Nat) (h : j < (idx l l.length).length) : rd (pls l l.length) j = (gi l j : Int) := by
  rw [gi_get l j h]
  unfold pls
  rw [show rd ((idx l l.length).map fun i : Nat => (i : Int)) (j : Int) = ((idx l l.length).map fun i : Nat => (i : Int)).getD j 0 from rfl, List.getD_eq_getElem?_getD, List.getElem?_map, List.getElem?_eq_getElem h]
  rfl
theorem ok_act (l : List S32) (hl : Ok l) : Ok (act l l.length) := by
  have h20 := hl.1
  refine ⟨by have := idx_len l l.length; simp [act]; omega, fun x hx => ?_⟩
  obtain ⟨i, hi, rfl⟩ := List.mem_map.1 hx
  exact ok_at hl i ((idx_mem l _ _).1 hi).1
theorem sub_is (l : List S32) (p : S32 → Bool) (v : S32 → Int) (hp : ∀ h, p h = true → h.f0 = 0) {b b' : Int} (h : Best (fun i => p (rd_T32 l i)) (fun i => v (rd_T32 l i)) l.length b) (h' : Best (fun i => p (rd_T32 (act l l.length) i)) (fun i => v (rd_T32 (act l l.length) i)) (act l l.length).length b') :
    (b = -1 ∧ b' = -1) ∨ ∃ j : Nat, b' = (j : Int) ∧ j < (idx l l.length).length ∧ b = (gi l j : Int) := by
  have e : (act l l.length).length = (idx l l.length).length := by simp [act]
  rw [e] at h'
  exact best_sub (gi l) (fun j hj => gi_lt l j hj) (fun j j' h1 h2 => gi_mono l j j' h1 h2) (fun i hi hpi => gi_surj l i hi (hp _ hpi)) (fun j hj => by show p _ = p _; rw [rd_act l j hj]) (fun j hj => by show v _ = v _; rw [rd_act l j hj]) h h'
theorem pS_act (h : S32) (hp : pS h = true) : h.f0 = 0 := by simp [pS] at hp; exact hp.1
theorem pO_act (each : Int) (h : S32) (hp : pO each h = true) : h.f0 = 0 := by simp [pO] at hp; exact hp.1
theorem pW_act (each warm : Int) (h : S32) (hp : pW each warm h = true) : h.f0 = 0 := by simp [pW] at hp; exact pO_act each h hp.1
theorem mx_nat (j : Nat) : mx (j : Int) 0 = j := by unfold mx; split <;> omega
theorem others_loop (l : List S32) (hl : Ok l) (a1 a2 : Int) : ∀ (d n : Nat) (k : Nat), n + d = l.length → 25 + d < k → hostlerlaw17_ChooseOthers.l0 k a1 a2 l (act l n) (pls l n) n = some true := by
  intro d
  induction d with
  | zero =>
    intro n k hn hk
    obtain ⟨k, rfl⟩ : ∃ m, k = m + 1 := ⟨k - 1, by omega⟩
    obtain rfl : n = l.length := by omega
    unfold hostlerlaw17_ChooseOthers.l0
    obtain ⟨b1, e1, B1⟩ := serve_is l hl k (by omega)
    obtain ⟨b2, e2, B2⟩ := serve_is (act l l.length) (ok_act l hl) k (by omega)
    obtain ⟨b3, e3, B3⟩ := open_is l hl a1 k (by omega)
    obtain ⟨b4, e4, B4⟩ := open_is (act l l.length) (ok_act l hl) a1 k (by omega)
    obtain ⟨b5, e5, B5⟩ := warm_is l hl a1 a2 k (by omega)
    obtain ⟨b6, e6, B6⟩ := warm_is (act l l.length) (ok_act l hl) a1 a2 k (by omega)
    have C1 := sub_is l pS (fun h => mx h.f3 0) pS_act B1 B2
    have C2 := sub_is l (pO a1) sumv (pO_act a1) B3 B4
    have C3 := sub_is l (pW a1 a2) (fun _ => 0) (pW_act a1 a2) B5 B6
    have hpl : (pls l l.length).length = (idx l l.length).length := by simp [pls]
    rw [if_neg (by omega), e1, Option.bind_some, e2, Option.bind_some, e3, Option.bind_some, e4, Option.bind_some, e5, Option.bind_some, e6, Option.bind_some, hpl]
    have n1 : decide ((-1 : Int) ≥ 0) = false := by decide
    have n2 : ∀ j : Nat, decide ((j : Int) ≥ 0) = true := fun j => by simp
    have n3 : ∀ j : Nat, (0 : Int) ≤ (j : Int) := fun j => by omega
    have n4 : ∀ j m : Nat, j < m → ((j : Int) < (m : Int)) := fun j m h => by omega
    rcases C1 with ⟨rfl, rfl⟩ | ⟨j1, rfl, hj1, rfl⟩ <;> rcases C2 with ⟨rfl, rfl⟩ | ⟨j2, rfl, hj2, rfl⟩ <;> rcases C3 with ⟨rfl, rfl⟩ | ⟨j3, rfl, hj3, rfl⟩ <;> simp [n1, n2, n3, mx_nat, *, rd_pls]
  | succ d ih =>
    intro n k hn hk
    obtain ⟨k, rfl⟩ : ∃ m, k = m + 1 := ⟨k - 1, by omega⟩
    have h20 := hl.1
    have hle := idx_len l n
    unfold hostlerlaw17_ChooseOthers.l0
    rw [if_pos (by omega), if_pos (by omega), cast1 n (by omega)]
    have hih := ih (n + 1) k (by omega) (by omega)
    by_cases h0 : (rd_T32 l n).f0 = 0
    · rw [if_pos h0, if_pos (by simp [act]; omega), if_pos (by simp [pls]; omega)]
      rw [show act l (n + 1) = act l n ++ [rd_T32 l n] by unfold act; rw [idx_yes l n h0, List.map_append]; rfl, show pls l (n + 1) = pls l n ++ [(n : Int)] by unfold pls; rw [idx_yes l n h0, List.map_append]; rfl] at hih
      exact hih
    · rw [if_neg h0]
      rw [show act l (n + 1) = act l n by unfold act; rw [idx_no l n h0], show pls l (n + 1) = pls l n by unfold pls; rw [idx_no l n h0]] at hih
      exact hih
theorem ChooseOthers : hostlerlaw17_ChooseOthers.Pure := by
  intro l0 a1 a2 _ _ _ _ _
  refine ⟨100, ?_⟩
  obtain ⟨m, hm, h20, hsm⟩ := few_is l0 100 (by omega)
  have hok := ok_conv h20 hsm
  have h1 := hok.1
  have h := others_loop (m.map conv) hok a1 a2 (m.map conv).length 0 100 (by omega) (by omega)
  unfold hostlerlaw17_ChooseOthers.f
  rw [lives_mono 70, Option.bind_some, if_pos rfl, hm, Option.bind_some, as_is m h20 100 (by omega), Option.bind_some]
  exact h
end Go.Proofs.Ythloffjgbgmpkaa.Pure
