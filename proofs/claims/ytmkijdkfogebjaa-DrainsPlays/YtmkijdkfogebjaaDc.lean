/-
  The drains' Deadline. Conditions: none.
-/
import Derived.Test.YtmkijdkfogebjaaDb
set_option linter.unusedVariables false
set_option linter.unusedSimpArgs false
namespace Go.Proofs.Ytmkijdkfogebjaa.Man
open Go.RowKit Go.Proofs.YtmkijdkfogebjaaW.PrintWords Go.Proofs.YtmkijdkfogebjaaW.PrintLast Go.Proofs.YtmkijdkfogebjaaW.PrintMore Go.Proofs.Ytmkijdkfogebjaa.PA Go.Proofs.Ytmkijdkfogebjaa.PB Go.Proofs.Ytmkijdkfogebjaa.PF Go.Proofs.Ytmkijdkfogebjaa.Hid
variable {w0 w : World} {g : Nat} {s : DS}
def deadOf (s : DS) (nm : ByteArray) : Int × Bool := if placeOf s.row nm 0 < 0 then (0, false) else if (rd_T69 s.row (placeOf s.row nm 0)).f2 = true then ((rd_T69 s.row (placeOf s.row nm 0)).f1, true) else (0, false)
set_option maxHeartbeats 2000000 in
theorem deadline_raw (nm : ByteArray) (hI : IsS66 w0 w g s) :
    Calls Try.prog 28 #[.pointer (some ⟨g, 0, none⟩), .string nm] w fun e w' => e = .returned (.tuple #[.int .i64 (deadOf s nm).1, .bool (deadOf s nm).2]) ∧ Below w.heap.size w w' := by
  have HP := Aside0.mk (place_raw nm hI)
  have hb := place_bd s.row nm 0
  unfold deadOf
  obtain ⟨A, n, hbk, hn, hC, hR, hg⟩ := hI.open_
  have HC := Aside0.mk hC
  have HBK := Aside0.mk hbk
  have hgl : g < w.heap.size := blk_lt hbk
  clear hbk hn hC hR
  by_cases hp : placeOf s.row nm 0 < 0
  · rw [if_pos hp]
    generalize placeOf s.row nm 0 = i at hp HP
    clear hI
    go_enter Try.func28, Try.ntmps28
    go_wp2_with (go_at_call 33; refine HP.out.mono ?_; rintro e w' ⟨rfl, hb⟩)
    go_ret2
    exact ⟨rfl, hb⟩
  · rw [if_neg hp]
    obtain ⟨P, hP⟩ : ∃ P : Nat, placeOf s.row nm 0 = (P : Int) := ⟨(placeOf s.row nm 0).toNat, by omega⟩
    have hPl : (P : Int) < (s.row.length : Int) := by omega
    have h0P : (0 : Int) ≤ (P : Int) := by omega
    rw [hP] at HP ⊢
    clear hP hp hb
    obtain ⟨x, hxe⟩ : ∃ x : S69, x = rd_T69 s.row (P : Int) := ⟨_, rfl⟩
    have hrd : ∀ w1, Below w.heap.size w w1 → ∃ ad, A = some ad ∧ w1.cell? ⟨g, 0, none⟩ = some (.slice A s.row.length n) ∧ w1.cell? ⟨(ad.add (P * 3)).block, (ad.add (P * 3)).off + 1, none⟩ = some (.int .i64 x.f1) ∧ w1.cell? ⟨(ad.add (P * 3)).block, (ad.add (P * 3)).off + 2, none⟩ = some (.bool x.f2) := by
      intro w1 hb1
      obtain ⟨ad, hA, hx0, hx1, hx2⟩ := at_T69 (Kd.C_below HC.out hb1) (P : Int) h0P hPl
      rw [← hxe, Int.toNat_natCast] at hx1 hx2
      exact ⟨ad, hA, (blk_cell (blk_below HBK.out hb1) 0).trans rfl, hx1, hx2⟩
    have HRD := Aside0.mk hrd
    rw [← hxe]
    clear hI hxe hrd HC HBK
    cases hx2 : x.f2 with
    | false =>
      rw [if_neg (by decide)]
      go_enter Try.func28, Try.ntmps28
      go_wp2_with (go_at_call 33; refine HP.out.mono ?_; rintro e w' ⟨rfl, hb⟩; obtain ⟨ad, rfl, hc0, hc1, hc2⟩ := HRD.out _ hb; rw [hx2] at hc2)
      go_ret2
      exact ⟨rfl, hb⟩
    | true =>
      rw [if_pos rfl]
      go_enter Try.func28, Try.ntmps28
      go_wp2_with (go_at_call 33; refine HP.out.mono ?_; rintro e w' ⟨rfl, hb⟩; obtain ⟨ad, rfl, hc0, hc1, hc2⟩ := HRD.out _ hb; rw [hx2] at hc2)
      go_ret2
      exact ⟨rfl, hb⟩
def drains_Drains_Deadline.f (s : DS) (nm : ByteArray) : Option (Int × Bool × DS) := some ((deadOf s nm).1, (deadOf s nm).2, s)
theorem drains_Drains_Deadline.calls (g : Nat) (s : DS) (a1 : ByteArray) (r1 : Int) (r2 : Bool) (s' : DS) (w0 w : World) (hI : IsS66 w0 w g s) (hB : Below w0.heap.size w0 w) (h : drains_Drains_Deadline.f s a1 = some (r1, r2, s')) :
    Calls Try.prog 28 #[.pointer (some ⟨g, 0, none⟩), .string a1] w fun e w' => e = .returned (.tuple #[.int .i64 r1, .bool r2]) ∧ IsS66 w0 w' g s' ∧ Below w0.heap.size w0 w' ∧ KeptH TD w w' := by
  obtain ⟨rfl, h2⟩ := Prod.mk.inj (Option.some.inj h)
  obtain ⟨rfl, rfl⟩ := Prod.mk.inj h2
  refine (deadline_raw a1 hI).mono ?_
  rintro e w' ⟨rfl, hb⟩
  exact ⟨rfl, done_below hI hB hb⟩
end Go.Proofs.Ytmkijdkfogebjaa.Man
