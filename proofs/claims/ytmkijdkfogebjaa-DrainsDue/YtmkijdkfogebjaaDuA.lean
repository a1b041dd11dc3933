/-
  Drains begun one behind the other: what is due, in plain words. Conditions: none.
-/
import Derived.Test.YtmkijdkfogebjaaGd
set_option linter.unusedVariables false
set_option linter.unusedSimpArgs false
namespace Go.Proofs.Ytmkijdkfogebjaa.Man
open Go.RowKit Go.Proofs.YtmkijdkfogebjaaW.PrintWords Go.Proofs.YtmkijdkfogebjaaW.PrintLast Go.Proofs.Ytmkijdkfogebjaa.PA Go.Proofs.Ytmkijdkfogebjaa.Na
theorem idxOf_get : ∀ (N : List ByteArray) (i : Nat) (h : i < N.length) (j : Int), N.Nodup → idxOf N N[i] j = j + i
  | [], i, h, _, _ => by simp at h
  | x :: l, 0, h, j, _ => by simp [idxOf]
  | x :: l, i + 1, h, j, hn => by
    rw [List.nodup_cons] at hn
    have hl : i < l.length := by simpa using h
    unfold idxOf
    rw [if_neg]
    · rw [List.getElem_cons_succ, idxOf_get l i hl (j + 1) hn.2]
      omega
    · intro e
      rw [List.getElem_cons_succ] at e
      exact hn.1 (by rw [← tl_inj.1 e]; exact List.getElem_mem hl)
def atOf (l1 : List Int) (i : Int) : Int := if i < (l1.length : Int) then rd l1 i else 0
def deadN (N : List ByteArray) (l1 : List Int) (nm : ByteArray) : Int := cutT (atOf l1 (idxOf N nm 0))
def mkD (N : List ByteArray) (l1 : List Int) (nm : ByteArray) : S69 := ⟨nm, deadN N l1 nm, true⟩
def rowD (N : List ByteArray) (l1 : List Int) (k : Nat) : List S69 := (N.take k).map (mkD N l1)
variable {N : List ByteArray} {l1 : List Int}
theorem rowD_names (k : Nat) : (rowD N l1 k).map (·.f0) = N.take k := by simp [rowD, mkD, Function.comp_def]
theorem rowD_under (k : Nat) : namesOf (rowD N l1 k) true = N.take k := by
  unfold namesOf rowD
  rw [List.filter_eq_self.2 (by intro x hx; obtain ⟨y, _, rfl⟩ := List.mem_map.1 hx; rfl)]
  simp [mkD, Function.comp_def]
theorem begin_rowD (h : GoodNames N) (k : Nat) (hk : k < N.length) : drains_Drains_Begin.f ⟨rowD N l1 k⟩ N[k] (atOf l1 (k : Int)) = some (0, ⟨rowD N l1 (k + 1)⟩) := by
  have h6 := h.len
  have hl : (rowD N l1 k).length ≤ 1000 := by simp [rowD]; omega
  have hn : nameB N[k] = true := six_ok _ (h.2 _ (List.getElem_mem hk))
  have hp : placeOf (rowD N l1 k) N[k] 0 < 0 := (place_neg _ _ 0 (by omega)).2 (by
    rw [rowD_names]
    intro hm
    obtain ⟨i, hi, e⟩ := List.mem_take_iff_getElem.1 hm
    exact List.pairwise_iff_getElem.1 h.1 i k (by omega) hk (by omega) e)
  unfold drains_Drains_Begin.f
  rw [if_pos (by exact hl), if_pos hn, if_pos (by exact hp)]
  congr 2
  show DS.mk _ = DS.mk _
  congr 1
  unfold rowD
  rw [List.take_succ_eq_append_getElem hk, List.map_append, List.map_cons, List.map_nil]
  congr 2
  unfold mkD deadN
  rw [idxOf_get N k hk 0 h.1, Int.zero_add]
  rfl
theorem place_rowD (h : N.Nodup) (i : Nat) (hi : i < N.length) : ∀ (M : List ByteArray) (j : Nat) (q : Int), M = N.drop j → j ≤ i → 0 ≤ q → placeOf (M.map (mkD N l1)) N[i] q = q + ((i : Int) - j)
  | [], j, q, e, hj, hq => by
    have := congrArg List.length e
    simp at this
    omega
  | x :: M, j, q, e, hj, hq => by
    have hjl : j < N.length := by omega
    rw [List.drop_eq_getElem_cons hjl] at e
    injection e with e1 e2
    rw [List.map_cons, placeOf]
    by_cases c : j = i
    · subst c
      rw [if_pos (by rw [beq_iff_eq]; exact tl_inj.2 (by rw [e1]; rfl))]
      omega
    · rw [if_neg (by
        rw [beq_iff_eq]
        intro e3
        have : N[j] = N[i] := by rw [← e1]; exact tl_inj.1 e3
        exact List.pairwise_iff_getElem.1 h j i hjl hi (by omega) this), place_rowD h i hi M (j + 1) (q + 1) e2 (by omega) (by omega)]
      omega
theorem dead_rowD (h : N.Nodup) (nm : ByteArray) (hm : nm ∈ N) : (deadOf ⟨N.map (mkD N l1)⟩ nm).1 = deadN N l1 nm := by
  obtain ⟨i, hi, rfl⟩ := List.getElem_of_mem hm
  have hp := place_rowD (l1 := l1) h i hi N 0 0 rfl (by omega) (by omega)
  have hp2 : placeOf (N.map (mkD N l1)) N[i] 0 = (i : Int) := by rw [hp]; omega
  unfold deadOf
  simp only [hp2]
  rw [if_neg (by omega)]
  have e : rd_T69 (N.map (mkD N l1)) (i : Int) = mkD N l1 N[i] := by simp [rd_T69, List.getD, hi]
  rw [e, if_pos (show (mkD N l1 N[i]).f2 = true from rfl)]
  rfl
theorem due_rowD (h : N.Nodup) (now : Int) : dueOf ⟨N.map (mkD N l1)⟩ now = N.filter (fun nm => pastB now (deadN N l1 nm)) := by
  unfold dueOf
  have e := rowD_under (N := N) (l1 := l1) N.length
  unfold rowD at e
  rw [List.take_length] at e
  rw [show (DS.mk (N.map (mkD N l1))).row = N.map (mkD N l1) from rfl, e]
  apply List.filter_congr
  intro x hx
  rw [dead_rowD h x hx]
theorem cutT_bd (x : Int) : 0 ≤ cutT x ∧ cutT x ≤ 1099511627776 := by
  unfold cutT mn mx
  constructor <;> (repeat' split) <;> omega
theorem past_mono {a b : Int} (h : a ≤ b) (x : Int) (hp : pastB a x = true) : pastB b x = true := by
  unfold pastB at hp ⊢
  rw [decide_eq_true_iff] at hp ⊢
  refine Int.le_trans hp ?_
  unfold cutT mn mx
  (repeat' split) <;> omega
theorem past_last (x : Int) : pastB 1099511627776 x = true := by
  unfold pastB
  rw [decide_eq_true_iff]
  have h1 : cutT 1099511627776 = 1099511627776 := by decide
  rw [h1]
  exact (cutT_bd x).2
theorem filter_get (p : ByteArray → Bool) (N : List ByteArray) (j : Nat) (hj : j < N.length) (hp : p N[j] = true) : ∃ h : ((N.take j).filter p).length < (N.filter p).length, (N.filter p)[((N.take j).filter p).length] = N[j] := by
  have e : N.filter p = (N.take j).filter p ++ N[j] :: (N.drop (j + 1)).filter p := by
    conv => lhs; rw [← List.take_append_drop j N, List.filter_append, List.drop_eq_getElem_cons hj, List.filter_cons, if_pos hp]
  refine ⟨by rw [e]; simp, ?_⟩
  simp [e]
theorem count_step (p : ByteArray → Bool) (N : List ByteArray) (j : Nat) (hj : j < N.length) : ((N.take (j + 1)).filter p).length = ((N.take j).filter p).length + (if p N[j] = true then 1 else 0) := by
  rw [List.take_succ_eq_append_getElem hj, List.filter_append, List.length_append]
  by_cases c : p N[j] = true <;> simp [c]
theorem has_filter (p : ByteArray → Bool) (N : List ByteArray) (x : ByteArray) (hx : x ∈ N) : hasB x (N.filter p) = p x := by
  rw [Bool.eq_iff_iff, hasB_iff, List.mem_filter]
  exact ⟨fun h => h.2, fun h => ⟨hx, h⟩⟩
end Go.Proofs.Ytmkijdkfogebjaa.Man
