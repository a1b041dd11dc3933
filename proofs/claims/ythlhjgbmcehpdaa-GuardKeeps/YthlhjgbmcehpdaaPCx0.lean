/-
  Contracts of the program's functions and the Lean functions that they compute, laid by a program of this session out of the translation. Conditions: none.
-/
import Derived.Test.YthlhjgbmcehpdaaProg
import Derived.Below
import Derived.Deep.Draws
import Derived.Deep.AppendLies
import Derived.Maps.AppendAt
import Derived.OwnWalk
import Derived.Laws.BytesArg
import Derived.Laws.MakeOwn
import Derived.Laws.OwnMore
import Derived.Deep.OwnRows
import Derived.Tactics
import Derived.Lib.ConvBytes
import Derived.Laws.Slices
import Derived.WalkKit
import Derived.KernelRfl
import Derived.RowKit3
import Derived.Deep.LoopGhost
import Derived.Deep.QuietTactic
import Derived.BigQuiet
import Derived.WideLaws
import Derived.Deep.DeepCutAuto
import Derived.Deep.CutBlock
import Derived.Deep.RegionHeld3
import Derived.Laws.Rows
import Derived.Lib.AppendStr
import Derived.ArgAppend
import Derived.Laws.IdiomCopy
import Derived.OrdersHeld
import Derived.Laws.BitsLemmas
import Derived.RowKit
import Derived.Test.YthlhjgbmcehpdaaWWords
import Derived.Test.YthlhjgbmcehpdaaWLast
import Derived.Test.YthlhjgbmcehpdaaWTab
import Derived.Test.YthlhjgbmcehpdaaWFour
import Derived.Test.YthlhjgbmcehpdaaWQPut
import Derived.Test.YthlhjgbmcehpdaaWApart
import Derived.Test.YthlhjgbmcehpdaaWArr
import Derived.Test.YthlhjgbmcehpdaaWZeros
import Derived.Test.YthlhjgbmcehpdaaWFoot
import Derived.Test.YthlhjgbmcehpdaaWKept
import Derived.Test.YthlhjgbmcehpdaaWShare
import Derived.Test.YthlhjgbmcehpdaaWN
import Derived.Test.YthlhjgbmcehpdaaWFootNe
import Derived.Test.YthlhjgbmcehpdaaWAt
import Derived.Test.YthlhjgbmcehpdaaWEqStruct
import Derived.Test.YthlhjgbmcehpdaaWRepsOne
import Derived.Test.YthlhjgbmcehpdaaWInv
import Derived.Test.YthlhjgbmcehpdaaWInvWords
import Derived.Test.YthlhjgbmcehpdaaWGuard
import Derived.Test.YthlhjgbmcehpdaaWNEv
import Derived.Test.YthlhjgbmcehpdaaWMore
import Derived.Test.YthlhjgbmcehpdaaManB
import Derived.Test.YthlhjgbmcehpdaaPAx1
import Derived.Test.YthlhjgbmcehpdaaPAx2
import Derived.Test.YthlhjgbmcehpdaaPAx3
namespace Go.Proofs.Ythlhjgbmcehpdaa.PC
open Go.RowKit Go.Proofs.Ythlhjgbmcehpdaa.Man Go.Proofs.Ythlhjgbmcehpdaa.PA Go.Proofs.Ythlhjgbmcehpdaa.ManB Go.Proofs.YthlhjgbmcehpdaaW.PrintWords Go.Proofs.YthlhjgbmcehpdaaW.PrintLast Go.Proofs.YthlhjgbmcehpdaaW.PrintMore
attribute [local go_sem] max2_int min2_int max_two min_two max_three min_three max_four min_four   -- for this text's walks alone
set_option linter.unusedVariables false
set_option linter.unusedSimpArgs false




-- the values' own types
def rd_L1 (xs : List (List Int)) (i : Int) : (List Int) := xs.getD i.toNat ([] : List Int)
theorem at_L1 {w : World} {A : Option Addr} {n : Nat} {xs : List (List Int)} (h : Kd.C (Kd.slice 3 (Kd.int .i64)) w A n xs) (i : Int) (h0 : 0 ≤ i) (h1 : i < n) : ∃ ad A0 c0, A = some ad ∧ w.cell? (ad.add i.toNat) = some (.slice A0 (rd_L1 xs i).length c0) ∧ (rd_L1 xs i).length ≤ c0 ∧ (Kd.int .i64).C w A0 (rd_L1 xs i).length (rd_L1 xs i) := by
  obtain ⟨ad, c, e, _, hK, hc0⟩ := Kd.C_get h ([] : List Int) i h0 h1
  have hc : ∀ j u, c[j]? = some u → w.cell? (ad.add (i.toNat * 1 + j)) = some u := hc0
  obtain ⟨A0, c0, rfl, l0, g0⟩ := hK
  exact ⟨ad, A0, c0, e, by have hq := hc 0 _ rfl; rwa [Nat.mul_one, Nat.add_zero] at hq, l0, g0⟩

end Go.Proofs.Ythlhjgbmcehpdaa.PC
