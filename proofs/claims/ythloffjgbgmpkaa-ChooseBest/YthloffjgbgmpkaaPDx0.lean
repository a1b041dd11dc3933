/-
  Contracts of the program's functions and the Lean functions that they compute, laid by a program of this session out of the translation. Conditions: none.
-/
import Derived.Test.YthloffjgbgmpkaaProg
import Derived.Below
import Derived.Deep.Draws
import Derived.Deep.AppendLies
import Derived.Maps.AppendAt
import Derived.OwnWalk
import Derived.Laws.BytesArg
import Derived.Laws.MakeOwn
import Derived.Laws.OwnMore
import Derived.Deep.OwnRows
import Derived.Tactics
import Derived.Lib.ConvBytes
import Derived.Laws.Slices
import Derived.WalkKit
import Derived.KernelRfl
import Derived.RowKit3
import Derived.Deep.LoopGhost
import Derived.Deep.QuietTactic
import Derived.BigQuiet
import Derived.WideLaws
import Derived.Deep.DeepCutAuto
import Derived.Deep.CutBlock
import Derived.Deep.RegionHeld3
import Derived.Laws.Rows
import Derived.Lib.AppendStr
import Derived.ArgAppend
import Derived.Laws.IdiomCopy
import Derived.OrdersHeld
import Derived.Laws.BitsLemmas
import Derived.RowKit
import Derived.Test.YthloffjgbgmpkaaWWords
import Derived.Test.YthloffjgbgmpkaaWLast
import Derived.Test.YthloffjgbgmpkaaWTab
import Derived.Test.YthloffjgbgmpkaaWFour
import Derived.Test.YthloffjgbgmpkaaWQPut
import Derived.Test.YthloffjgbgmpkaaWApart
import Derived.Test.YthloffjgbgmpkaaWArr
import Derived.Test.YthloffjgbgmpkaaWZeros
import Derived.Test.YthloffjgbgmpkaaWFoot
import Derived.Test.YthloffjgbgmpkaaWKept
import Derived.Test.YthloffjgbgmpkaaWShare
import Derived.Test.YthloffjgbgmpkaaWN
import Derived.Test.YthloffjgbgmpkaaWFootNe
import Derived.Test.YthloffjgbgmpkaaWAt
import Derived.Test.YthloffjgbgmpkaaWEqStruct
import Derived.Test.YthloffjgbgmpkaaWRepsOne
import Derived.Test.YthloffjgbgmpkaaWInv
import Derived.Test.YthloffjgbgmpkaaWInvWords
import Derived.Test.YthloffjgbgmpkaaWGuard
import Derived.Test.YthloffjgbgmpkaaWNEv
import Derived.Test.YthloffjgbgmpkaaWMore
import Derived.Test.YthloffjgbgmpkaaPAx1
import Derived.Test.YthloffjgbgmpkaaManB
namespace Go.Proofs.Ythloffjgbgmpkaa.PD
open Go.RowKit Go.Proofs.Ythloffjgbgmpkaa.PA Go.Proofs.Ythloffjgbgmpkaa.Man Go.Proofs.YthloffjgbgmpkaaW.PrintWords Go.Proofs.YthloffjgbgmpkaaW.PrintLast Go.Proofs.YthloffjgbgmpkaaW.PrintMore
attribute [local go_sem] max2_int min2_int max_two min_two max_three min_three max_four min_four   -- for this text's walks alone
set_option linter.unusedVariables false
set_option linter.unusedSimpArgs false




-- the values' own types
def rd_L3 (xs : List (List S32)) (i : Int) : (List S32) := xs.getD i.toNat ([] : List S32)
theorem at_L3 {w : World} {A : Option Addr} {n : Nat} {xs : List (List S32)} (h : Kd.C (Kd.slice 32 k32) w A n xs) (i : Int) (h0 : 0 ≤ i) (h1 : i < n) : ∃ ad A0 c0, A = some ad ∧ w.cell? (ad.add i.toNat) = some (.slice A0 (rd_L3 xs i).length c0) ∧ (rd_L3 xs i).length ≤ c0 ∧ k32.C w A0 (rd_L3 xs i).length (rd_L3 xs i) := by
  obtain ⟨ad, c, e, _, hK, hc0⟩ := Kd.C_get h ([] : List S32) i h0 h1
  have hc : ∀ j u, c[j]? = some u → w.cell? (ad.add (i.toNat * 1 + j)) = some u := hc0
  obtain ⟨A0, c0, rfl, l0, g0⟩ := hK
  exact ⟨ad, A0, c0, e, by have hq := hc 0 _ rfl; rwa [Nat.mul_one, Nat.add_zero] at hq, l0, g0⟩

def rd_L5 (xs : List (List S43)) (i : Int) : (List S43) := xs.getD i.toNat ([] : List S43)
theorem at_L5 {w : World} {A : Option Addr} {n : Nat} {xs : List (List S43)} (h : Kd.C (Kd.slice 43 k43) w A n xs) (i : Int) (h0 : 0 ≤ i) (h1 : i < n) : ∃ ad A0 c0, A = some ad ∧ w.cell? (ad.add i.toNat) = some (.slice A0 (rd_L5 xs i).length c0) ∧ (rd_L5 xs i).length ≤ c0 ∧ k43.C w A0 (rd_L5 xs i).length (rd_L5 xs i) := by
  obtain ⟨ad, c, e, _, hK, hc0⟩ := Kd.C_get h ([] : List S43) i h0 h1
  have hc : ∀ j u, c[j]? = some u → w.cell? (ad.add (i.toNat * 1 + j)) = some u := hc0
  obtain ⟨A0, c0, rfl, l0, g0⟩ := hK
  exact ⟨ad, A0, c0, e, by have hq := hc 0 _ rfl; rwa [Nat.mul_one, Nat.add_zero] at hq, l0, g0⟩

end Go.Proofs.Ythloffjgbgmpkaa.PD
