/-
  The pure statement of StateNames: the state of any name, and the name of any state. Conditions: none.
-/
import Derived.Test.YthlhjgbmcehpdaaPAx9
import Derived.Test.YthlhjgbmcehpdaaPlainState
namespace Go.Proofs.Ythlhjgbmcehpdaa.Pure
open Go.RowKit Go.Proofs.Ythlhjgbmcehpdaa.PA Go.Proofs.YthlhjgbmcehpdaaW.PrintWords Go.Proofs.YthlhjgbmcehpdaaW.PrintLast
open Go.Proofs.Ythlhjgbmcehpdaa.PlainState Go.Proofs.Ythlhjgbmcehpdaa.Man

def n0 : ByteArray := ⟨#[97, 99, 116, 105, 118, 101]⟩
def n1 : ByteArray := ⟨#[100, 114, 97, 105, 110, 105, 110, 103]⟩
def n2 : ByteArray := ⟨#[113, 117, 97, 114, 97, 110, 116, 105, 110, 101, 100]⟩
def n3 : ByteArray := ⟨#[114, 101, 116, 105, 114, 101, 100]⟩
/-- The place of a name. -/
def ofP (s : ByteArray) : Int := if s.toList = n0.toList then 0 else if s.toList = n1.toList then 1 else if s.toList = n2.toList then 2 else if s.toList = n3.toList then 3 else -1
theorem index_is (k : Nat) (s : ByteArray) : slices_Index_string_string.f (k + 5) [n0, n1, n2, n3] s = some (ofP s) := by
  unfold slices_Index_string_string.f ofP
  have e0 : rdOf ByteArray.empty [n0, n1, n2, n3] 0 = n0 := rfl
  have e1 : rdOf ByteArray.empty [n0, n1, n2, n3] 1 = n1 := rfl
  have e2 : rdOf ByteArray.empty [n0, n1, n2, n3] 2 = n2 := rfl
  have e3 : rdOf ByteArray.empty [n0, n1, n2, n3] 3 = n3 := rfl
  have hl : (([n0, n1, n2, n3] : List ByteArray).length : Int) = 4 := rfl
  rw [hl]
  have w0 : wrap64 (0 + 1) = 1 := by decide +kernel
  have w1 : wrap64 (1 + 1) = 2 := by decide +kernel
  have w2 : wrap64 (2 + 1) = 3 := by decide +kernel
  have w3 : wrap64 (3 + 1) = 4 := by decide +kernel
  rw [slices_Index_string_string.l0, if_pos (by omega), if_pos (by omega), hl, if_pos (by omega), e0, w0]
  by_cases h0 : s.toList = n0.toList
  · rw [if_pos h0, if_pos h0]
  rw [if_neg h0, if_neg h0, slices_Index_string_string.l0, if_pos (by omega), if_pos (by omega), hl, if_pos (by omega), e1, w1]
  by_cases h1 : s.toList = n1.toList
  · rw [if_pos h1, if_pos h1]
  rw [if_neg h1, if_neg h1, slices_Index_string_string.l0, if_pos (by omega), if_pos (by omega), hl, if_pos (by omega), e2, w2]
  by_cases h2 : s.toList = n2.toList
  · rw [if_pos h2, if_pos h2]
  rw [if_neg h2, if_neg h2, slices_Index_string_string.l0, if_pos (by omega), if_pos (by omega), hl, if_pos (by omega), e3, w3]
  by_cases h3 : s.toList = n3.toList
  · rw [if_pos h3, if_pos h3]
  rw [if_neg h3, if_neg h3, slices_Index_string_string.l0, if_neg (by omega)]
theorem of_is (k : Nat) (s : ByteArray) : state_Of.f (k + 5) s = some (mx (ofP s) 0, decide (ofP s ≥ 0)) := by
  unfold state_Of.f
  rw [show state_names.f = some [n0, n1, n2, n3] from rfl, Option.bind_some, index_is, Option.bind_some]
theorem name0 : state_Name.f 0 = some n0 := rfl
theorem name1 : state_Name.f 1 = some n1 := rfl
theorem name2 : state_Name.f 2 = some n2 := rfl
theorem name3 : state_Name.f 3 = some n3 := rfl
theorem name_out (s : Int) (h : s < 0 ∨ 4 ≤ s) : state_Name.f s = some (⟨#[]⟩ : ByteArray) := by
  unfold state_Name.f
  by_cases h0 : s < 0
  · rw [if_pos h0]
  · rw [if_neg h0, if_pos (by omega)]
/-- What follows behind the loop. -/
def tailN (k : Nat) (x1 x5 : Int) (x6 : Bool) (x7 : Int) (x8 : Bool) : Option Bool := ((state_Name.f x1).bind fun t261 => ((state_Of.f k t261).bind fun bt262 => (if x5 = x7 then (if (x6 == x8) = true then (if x1 ≥ 0 then (if (bt262.2 == (decide (x1 < 4))) = true then (if bt262.2 = true then (some (bt262.1 == x1)) else (some true)) else (some false)) else (if (bt262.2 == false) = true then (if bt262.2 = true then (some (bt262.1 == x1)) else (some true)) else (some false))) else (some false)) else (some false))))
theorem tail_true (k : Nat) (x1 x5 : Int) (x6 : Bool) : tailN (k + 5) x1 x5 x6 x5 x6 = some true := by
  unfold tailN
  by_cases h : x1 < 0 ∨ 4 ≤ x1
  · rw [name_out x1 h, Option.bind_some, of_is, Option.bind_some, if_pos rfl, if_pos (by simp)]
    have e : ofP (⟨#[]⟩ : ByteArray) = -1 := by decide +kernel
    simp only [e]
    by_cases h0 : x1 ≥ 0
    · rw [if_pos h0, show decide (x1 < 4) = false from decide_eq_false (by omega)]; rfl
    · rw [if_neg h0]; rfl
  · rcases range4 (s := x1) (by omega) (by omega) with rfl | rfl | rfl | rfl
    · rw [name0, Option.bind_some, of_is, Option.bind_some, if_pos rfl, if_pos (by simp)]; decide +kernel
    · rw [name1, Option.bind_some, of_is, Option.bind_some, if_pos rfl, if_pos (by simp)]; decide +kernel
    · rw [name2, Option.bind_some, of_is, Option.bind_some, if_pos rfl, if_pos (by simp)]; decide +kernel
    · rw [name3, Option.bind_some, of_is, Option.bind_some, if_pos rfl, if_pos (by simp)]; decide +kernel
theorem ne_sym {a b : ByteArray} (h : ¬ a.toList = b.toList) : ¬ b.toList = a.toList := fun e => h e.symm
theorem loop_names (k : Nat) (s : ByteArray) (x1 x5 : Int) (x6 : Bool) : hostlerlaw10_StateNames.l0 (k + 5) s x1 x5 x6 0 false 0 = tailN k x1 x5 x6 (mx (ofP s) 0) (decide (ofP s ≥ 0)) := by
  have w0 : wrap64 (0 + 1) = 1 := by decide +kernel
  have w1 : wrap64 (1 + 1) = 2 := by decide +kernel
  have w2 : wrap64 (2 + 1) = 3 := by decide +kernel
  have w3 : wrap64 (3 + 1) = 4 := by decide +kernel
  have d01 : ¬ n1.toList = n0.toList := by decide +kernel
  have d02 : ¬ n2.toList = n0.toList := by decide +kernel
  have d03 : ¬ n3.toList = n0.toList := by decide +kernel
  have d12 : ¬ n2.toList = n1.toList := by decide +kernel
  have d13 : ¬ n3.toList = n1.toList := by decide +kernel
  have d23 : ¬ n3.toList = n2.toList := by decide +kernel
  unfold ofP
  rw [hostlerlaw10_StateNames.l0, if_pos (by omega), name_eq, name0, Option.bind_some, w0]
  by_cases h0 : s.toList = n0.toList
  · rw [if_pos h0.symm, if_pos h0]
    rw [hostlerlaw10_StateNames.l0, if_pos (by omega), name_eq, name1, Option.bind_some, w1, if_neg (by rw [h0]; exact d01)]
    rw [hostlerlaw10_StateNames.l0, if_pos (by omega), name_eq, name2, Option.bind_some, w2, if_neg (by rw [h0]; exact d02)]
    rw [hostlerlaw10_StateNames.l0, if_pos (by omega), name_eq, name3, Option.bind_some, w3, if_neg (by rw [h0]; exact d03)]
    rw [hostlerlaw10_StateNames.l0, if_neg (by omega)]
    rfl
  rw [if_neg (ne_sym h0), if_neg h0]
  rw [hostlerlaw10_StateNames.l0, if_pos (by omega), name_eq, name1, Option.bind_some, w1]
  by_cases h1 : s.toList = n1.toList
  · rw [if_pos h1.symm, if_pos h1]
    rw [hostlerlaw10_StateNames.l0, if_pos (by omega), name_eq, name2, Option.bind_some, w2, if_neg (by rw [h1]; exact d12)]
    rw [hostlerlaw10_StateNames.l0, if_pos (by omega), name_eq, name3, Option.bind_some, w3, if_neg (by rw [h1]; exact d13)]
    rw [hostlerlaw10_StateNames.l0, if_neg (by omega)]
    rfl
  rw [if_neg (ne_sym h1), if_neg h1]
  rw [hostlerlaw10_StateNames.l0, if_pos (by omega), name_eq, name2, Option.bind_some, w2]
  by_cases h2 : s.toList = n2.toList
  · rw [if_pos h2.symm, if_pos h2]
    rw [hostlerlaw10_StateNames.l0, if_pos (by omega), name_eq, name3, Option.bind_some, w3, if_neg (by rw [h2]; exact d23)]
    rw [hostlerlaw10_StateNames.l0, if_neg (by omega)]
    rfl
  rw [if_neg (ne_sym h2), if_neg h2]
  rw [hostlerlaw10_StateNames.l0, if_pos (by omega), name_eq, name3, Option.bind_some, w3]
  by_cases h3 : s.toList = n3.toList
  · rw [if_pos h3.symm, if_pos h3]
    rw [hostlerlaw10_StateNames.l0, if_neg (by omega)]
    rfl
  rw [if_neg (ne_sym h3), if_neg h3]
  rw [hostlerlaw10_StateNames.l0, if_neg (by omega)]
  rfl
theorem StateNames : hostlerlaw10_StateNames.Pure := by
  intro a0 a1 _ _
  refine ⟨100, ?_⟩
  unfold hostlerlaw10_StateNames.f
  rw [lives_is, Option.bind_some, if_pos rfl, of_is 95, Option.bind_some, loop_names 95]
  exact tail_true 90 _ _ _
end Go.Proofs.Ythlhjgbmcehpdaa.Pure
