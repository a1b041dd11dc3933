/-
  The drains' states: plain facts on names, places and what the methods make of them. Conditions: none.
-/
import Derived.Test.YtmkijdkfogebjaaEa
set_option linter.unusedVariables false
set_option linter.unusedSimpArgs false
namespace Go.Proofs.Ytmkijdkfogebjaa.Man
open Go.RowKit Go.Proofs.YtmkijdkfogebjaaW.PrintWords Go.Proofs.YtmkijdkfogebjaaW.PrintLast Go.Proofs.Ytmkijdkfogebjaa.PA Go.Proofs.Ytmkijdkfogebjaa.Na
theorem tl_inj {a b : ByteArray} : a.toList = b.toList ↔ a = b := by
  constructor
  · intro h
    rw [ByteArray.toList_eq, ByteArray.toList_eq] at h
    exact Go.WideShapes.bytes_inj h
  · rintro rfl
    rfl
def hasB (x : ByteArray) (l : List ByteArray) : Bool := l.any (fun y => decide (y = x))
theorem hasB_iff (x : ByteArray) (l : List ByteArray) : hasB x l = true ↔ x ∈ l := by
  unfold hasB
  rw [List.any_eq_true]
  constructor
  · rintro ⟨y, hy, h⟩
    rw [← of_decide_eq_true h]
    exact hy
  · intro h
    exact ⟨x, h, by simp⟩
theorem hasB_no (x : ByteArray) (l : List ByteArray) (h : x ∉ l) : hasB x l = false := by
  rw [Bool.eq_false_iff]
  exact fun e => h ((hasB_iff x l).1 e)
theorem has_loop (x : ByteArray) (l : List ByteArray) (hm : l.length ≤ 9223372036854775807) (d : Nat) : ∀ (k j : Nat), j ≤ l.length → l.length - j = d → d < k → hostlerref09_Has.l0 k l x (j : Int) = some (hasB x (l.drop j)) := by
  induction d with
  | zero =>
    intro k j hj hd hk
    obtain ⟨k, rfl⟩ : ∃ m, k = m + 1 := ⟨k - 1, by omega⟩
    simp only [hostlerref09_Has.l0]
    rw [if_neg (by omega), List.drop_eq_nil_of_le (by omega)]
    rfl
  | succ d ih =>
    intro k j hj hd hk
    obtain ⟨k, rfl⟩ : ∃ m, k = m + 1 := ⟨k - 1, by omega⟩
    have hlt : j < l.length := by omega
    simp only [hostlerref09_Has.l0]
    rw [if_pos (by omega), if_pos (by omega), List.drop_eq_getElem_cons hlt]
    have e : rdOf ByteArray.empty l (j : Int) = l[j] := by simp [rdOf, List.getD, hlt]
    rw [e]
    have ih' := ih k (j + 1) (by omega) (by omega) (by omega)
    rw [show ((j + 1 : Nat) : Int) = (j : Int) + 1 by omega] at ih'
    have hw : wrap64 ((j : Int) + 1) = (j : Int) + 1 := by unfold wrap64; omega
    rw [hw, ih']
    by_cases c : l[j] = x
    · rw [if_pos (tl_inj.2 c)]
      simp [hasB, c]
    · rw [if_neg (fun h => c (tl_inj.1 h))]
      generalize List.drop (j + 1) l = r
      simp [hasB, c]
theorem has_some (x : ByteArray) (l : List ByteArray) (hm : l.length ≤ 9223372036854775807) : hostlerref09_Has.f (l.length + 1) l x = some (hasB x l) := by
  have := has_loop x l hm l.length (l.length + 1) 0 (by omega) (by omega) (by omega)
  simpa [hostlerref09_Has.f] using this
theorem has_raw (x : ByteArray) (l : List ByteArray) (A : Option Addr) (c : Nat) (w : World) (hC : Kd.C Kd.string w A l.length l) (hc : l.length ≤ c) : Calls Try.prog 14 #[.slice A l.length c, .string x] w fun e w' => e = .returned (.bool (hasB x l)) ∧ Drawn0 w w' :=
  hostlerref09_Has.calls (l.length + 1) A c l x _ w hC hc (has_some x l hC.2.1)
theorem same_loop (a b : List ByteArray) (hl : a.length = b.length) (hm : a.length ≤ 9223372036854775807) (d : Nat) : ∀ (k j : Nat), j ≤ a.length → a.length - j = d → d < k → hostlerref09_Same.l0 k a b (j : Int) = some (decide (a.drop j = b.drop j)) := by
  induction d with
  | zero =>
    intro k j hj hd hk
    obtain ⟨k, rfl⟩ : ∃ m, k = m + 1 := ⟨k - 1, by omega⟩
    simp only [hostlerref09_Same.l0]
    rw [if_neg (by omega), List.drop_eq_nil_of_le (by omega), List.drop_eq_nil_of_le (by omega)]
    simp
  | succ d ih =>
    intro k j hj hd hk
    obtain ⟨k, rfl⟩ : ∃ m, k = m + 1 := ⟨k - 1, by omega⟩
    have hlt : j < a.length := by omega
    have hlt2 : j < b.length := by omega
    simp only [hostlerref09_Same.l0]
    rw [if_pos (by omega), if_pos (by omega), if_pos (by omega)]
    have d1 := List.drop_eq_getElem_cons hlt
    have d2 := List.drop_eq_getElem_cons hlt2
    have e : rdOf ByteArray.empty a (j : Int) = a[j] := by simp [rdOf, List.getD, hlt]
    have e2 : rdOf ByteArray.empty b (j : Int) = b[j] := by simp [rdOf, List.getD, hlt2]
    rw [e, e2]
    have ih' := ih k (j + 1) (by omega) (by omega) (by omega)
    rw [show ((j + 1 : Nat) : Int) = (j : Int) + 1 by omega] at ih'
    have hw : wrap64 ((j : Int) + 1) = (j : Int) + 1 := by unfold wrap64; omega
    rw [hw, ih']
    by_cases c : a[j] = b[j]
    · rw [if_pos (tl_inj.2 c), d1, d2, c]
      generalize List.drop (j + 1) a = r
      generalize List.drop (j + 1) b = q
      simp
    · rw [if_neg (fun h => c (tl_inj.1 h)), d1, d2]
      generalize List.drop (j + 1) a = r
      generalize List.drop (j + 1) b = q
      simp [c]
theorem same_some (a b : List ByteArray) (hm : a.length ≤ 9223372036854775807) : hostlerref09_Same.f (a.length + 1) a b = some (decide (a = b)) := by
  unfold hostlerref09_Same.f
  by_cases h : a.length = b.length
  · rw [if_pos (by omega)]
    have := same_loop a b h hm a.length (a.length + 1) 0 (by omega) (by omega) (by omega)
    simpa using this
  · rw [if_neg (by omega), decide_eq_false (fun e => h (by rw [e]))]
theorem same_raw (a b : List ByteArray) (A B : Option Addr) (c d : Nat) (w : World) (hA : Kd.C Kd.string w A a.length a) (ha : a.length ≤ c) (hB : Kd.C Kd.string w B b.length b) (hb : b.length ≤ d) : Calls Try.prog 20 #[.slice A a.length c, .slice B b.length d] w fun e w' => e = .returned (.bool (decide (a = b))) ∧ Drawn0 w w' :=
  hostlerref09_Same.calls (a.length + 1) A c a B d b _ w hA ha hB hb (same_some a b hA.2.1)
/-! #### places -/
theorem place_neg (nm : ByteArray) : ∀ (row : List S69) (j : Int), 0 ≤ j → (placeOf row nm j < 0 ↔ nm ∉ row.map (·.f0))
  | [], j, hj => by simp [placeOf]
  | x :: l, j, hj => by
    unfold placeOf
    by_cases c : x.f0 = nm
    · rw [if_pos (by rw [beq_iff_eq]; exact tl_inj.2 c)]
      simp [c]
      omega
    · rw [if_neg (by rw [beq_iff_eq]; exact fun h => c (tl_inj.1 h)), place_neg nm l (j + 1) (by omega)]
      simp [Ne.symm c]
theorem place_at (nm : ByteArray) : ∀ (row : List S69) (j : Int), 0 ≤ j → 0 ≤ placeOf row nm j → ∃ i : Nat, placeOf row nm j = j + i ∧ ∃ h : i < row.length, row[i].f0 = nm
  | [], j, hj, h => by simp [placeOf] at h
  | x :: l, j, hj, h => by
    unfold placeOf at h ⊢
    by_cases c : x.f0 = nm
    · rw [if_pos (by rw [beq_iff_eq]; exact tl_inj.2 c)]
      exact ⟨0, by simp, by simp, by simpa using c⟩
    · rw [if_neg (by rw [beq_iff_eq]; exact fun h => c (tl_inj.1 h))] at h ⊢
      obtain ⟨i, h1, h2, h3⟩ := place_at nm l (j + 1) (by omega) h
      exact ⟨i + 1, by rw [h1]; omega, by simpa using h2, by simpa using h3⟩
/-- Ending a name strikes it. -/
theorem endRow_eq (nm : ByteArray) : ∀ (row : List S69), (row.map (·.f0)).Nodup → endRow row nm = row.filter (fun x => !decide (x.f0 = nm))
  | row, hn => by
    unfold endRow
    by_cases h : placeOf row nm 0 < 0
    · rw [if_pos h]
      have := (place_neg nm row 0 (by omega)).1 h
      rw [eq_comm, List.filter_eq_self]
      intro x hx
      have hx2 : x.f0 ≠ nm := fun e => this (by rw [← e]; exact List.mem_map_of_mem hx)
      simp [hx2]
    · rw [if_neg h]
      obtain ⟨i, h1, h2, h3⟩ := place_at nm row 0 (by omega) (by omega)
      have hi : (placeOf row nm 0).toNat = i := by omega
      rw [hi]
      have hsplit : row = row.take i ++ row[i] :: row.drop (i + 1) := by
        rw [← List.drop_eq_getElem_cons h2, List.take_append_drop]
      have hnd := hn
      rw [hsplit, List.map_append, List.map_cons, List.nodup_append] at hnd
      obtain ⟨n1, n2, n3⟩ := hnd
      rw [List.nodup_cons] at n2
      have e1 : (row.take i).filter (fun x => !decide (x.f0 = nm)) = row.take i := by
        rw [List.filter_eq_self]
        intro x hx
        have := n3 x.f0 (List.mem_map_of_mem hx) row[i].f0 (by simp)
        rw [h3] at this
        simp [this]
      have e2 : (row.drop (i + 1)).filter (fun x => !decide (x.f0 = nm)) = row.drop (i + 1) := by
        rw [List.filter_eq_self]
        intro x hx
        have hx2 : x.f0 ≠ nm := fun e => n2.1 (by rw [h3, ← e]; exact List.mem_map_of_mem hx)
        simp [hx2]
      have e3 : row.filter (fun x => !decide (x.f0 = nm)) = row.take i ++ row.drop (i + 1) := by
        conv => lhs; rw [hsplit, List.filter_append, List.filter_cons]
        rw [e1, e2]
        simp [h3]
      rw [e3, List.eraseIdx_eq_take_drop_succ]
end Go.Proofs.Ytmkijdkfogebjaa.Man
