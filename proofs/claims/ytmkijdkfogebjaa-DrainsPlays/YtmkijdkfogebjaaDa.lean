/-
  The drains' methods that only look: place, names, Waits, Under, Deadline. Conditions: none.
-/
import Derived.Test.YtmkijdkfogebjaaPFx1
import Derived.Test.YtmkijdkfogebjaaObj
import Derived.Test.YtmkijdkfogebjaaNc
set_option linter.unusedVariables false
set_option linter.unusedSimpArgs false
namespace Go.Proofs.Ytmkijdkfogebjaa.Man
open Go.RowKit Go.Proofs.YtmkijdkfogebjaaW.PrintWords Go.Proofs.YtmkijdkfogebjaaW.PrintLast Go.Proofs.YtmkijdkfogebjaaW.PrintMore Go.Proofs.Ytmkijdkfogebjaa.PA Go.Proofs.Ytmkijdkfogebjaa.PB Go.Proofs.Ytmkijdkfogebjaa.PF Go.Proofs.Ytmkijdkfogebjaa.Hid
/-- Where a name stands; -1: nowhere. -/
def placeOf : List S69 → ByteArray → Int → Int
  | [], _, _ => -1
  | x :: l, nm, j => if (x.f0.toList == nm.toList) = true then j else placeOf l nm (j + 1)
def drains_Drains_place.f (s : DS) (nm : ByteArray) : Option (Int × DS) := some (placeOf s.row nm 0, s)
theorem place_loop (nm : ByteArray) (xs : List S69) (hm : xs.length ≤ 9223372036854775807) (d : Nat) : ∀ (k j : Nat), j ≤ xs.length → xs.length - j = d → d < k → drains_drain.l0 k xs [nm] (xs.length : Int) (j : Int) = some (placeOf (xs.drop j) nm j) := by
  induction d with
  | zero =>
    intro k j hj hd hk
    obtain ⟨k, rfl⟩ : ∃ m, k = m + 1 := ⟨k - 1, by omega⟩
    simp only [drains_drain.l0]
    rw [if_neg (by omega), List.drop_eq_nil_of_le (by omega)]
    rfl
  | succ d ih =>
    intro k j hj hd hk
    obtain ⟨k, rfl⟩ : ∃ m, k = m + 1 := ⟨k - 1, by omega⟩
    have hlt : j < xs.length := by omega
    simp only [drains_drain.l0]
    rw [if_pos (by omega), if_pos (by omega), if_pos (by omega), List.drop_eq_getElem_cons hlt]
    have e : rd_T69 xs (j : Int) = xs[j] := by simp [rd_T69, List.getD, hlt]
    rw [e]
    have ih' := ih k (j + 1) (by omega) (by omega) (by omega)
    rw [show ((j + 1 : Nat) : Int) = (j : Int) + 1 by omega] at ih'
    have hw : wrap64 ((j : Int) + 1) = (j : Int) + 1 := by unfold wrap64; omega
    simp only [drains_Drains_place_1.f, placeOf]
    rw [if_pos (by simp), Option.bind_some, show rdOf ByteArray.empty [nm] 0 = nm from rfl, hw]
    by_cases c : (xs[j].f0.toList == nm.toList) = true
    · rw [if_pos c, if_pos c]
    · rw [if_neg c, if_neg c]
      exact ih'
theorem place_some (nm : ByteArray) (xs : List S69) (hm : xs.length ≤ 9223372036854775807) : drains_drain.f (xs.length + 1) xs 0 [nm] = some (placeOf xs nm 0) := by
  have := place_loop nm xs hm xs.length (xs.length + 1) 0 (by omega) (by omega) (by omega)
  simpa [drains_drain.f] using this
/-- A captured string, told as a row of one element. -/
theorem cap_str {W : World} {B : Nat} {x : ByteArray} (h : W.cell? ⟨B, 0, none⟩ = some (.string x)) : Kd.C Kd.string W (some ⟨B, 0, none⟩) ([x] : List ByteArray).length [x] :=
  Kd.C_of_reads (d := ByteArray.empty) ⟨rfl, by simp, fun _ => ⟨⟨B, 0, none⟩, rfl, fun j hj => by
    have : j = 0 := by simp at hj; omega
    subst this
    simpa [Addr.add] using h⟩⟩
variable {w0 w : World} {g : Nat} {s : DS}
theorem row_len (h : IsS66 w0 w g s) : s.row.length ≤ 9223372036854775807 := by
  obtain ⟨A, n, hb, hn, hC, hR, hg⟩ := h.open_
  exact hC.2.1
set_option maxHeartbeats 1000000 in
theorem place_raw (nm : ByteArray) (hI : IsS66 w0 w g s) : Calls Try.prog 33 #[.pointer (some ⟨g, 0, none⟩), .string nm] w fun e w' => e = .returned (.int .i64 (placeOf s.row nm 0)) ∧ Below w.heap.size w w' := by
  have hl := row_len hI
  obtain ⟨A, n, hb, hn, hC, hR, hg⟩ := hI.open_
  have h1 : w.cell? ⟨g, 0, none⟩ = some (.slice A s.row.length n) := (blk_cell hb 0).trans rfl
  have hgl : g < w.heap.size := blk_lt hb
  have HCALL := Aside0.mk (fun (o : Obj) (ho : o = .cells #[.string nm] 9) => drains_drain.calls (s.row.length + 1) A n s.row 0 (some ⟨w.heap.size, 0, none⟩) 1 [nm] _ (w.alloc o) (Kd.C_below hC ((Below.refl _ w).alloc (Nat.le_refl _) _)) hn (cap_str (by subst ho; simp [go_sem])) (Nat.le_refl _) (place_some nm s.row hl))
  clear hb hn hC hR hI hl
  go_enter Try.func33, Try.ntmps33
  go_wp2_with (go_at_call 51; refine (HCALL.out _ rfl).mono ?_; rintro e w' ⟨rfl, hb⟩)
  go_ret
  exact ⟨rfl, below_step ((Below.refl _ w).alloc (Nat.le_refl _) _) hb⟩
end Go.Proofs.Ytmkijdkfogebjaa.Man
