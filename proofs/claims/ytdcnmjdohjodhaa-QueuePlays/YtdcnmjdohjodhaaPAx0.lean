/-
  Contracts of the program's functions and the Lean functions that they compute, laid by a program of this session out of the translation. Conditions: none.
-/
import Derived.Test.YtdcnmjdohjodhaaProg
import Derived.Below
import Derived.Deep.Draws
import Derived.Deep.AppendLies
import Derived.Maps.AppendAt
import Derived.OwnWalk
import Derived.Laws.BytesArg
import Derived.Laws.MakeOwn
import Derived.Laws.OwnMore
import Derived.Deep.OwnRows
import Derived.Tactics
import Derived.Lib.ConvBytes
import Derived.Laws.Slices
import Derived.WalkKit
import Derived.KernelRfl
import Derived.RowKit3
import Derived.Deep.LoopGhost
import Derived.Deep.QuietTactic
import Derived.BigQuiet
import Derived.WideLaws
import Derived.Deep.DeepCutAuto
import Derived.Deep.CutBlock
import Derived.Deep.RegionHeld3
import Derived.Laws.Rows
import Derived.Lib.AppendStr
import Derived.ArgAppend
import Derived.Laws.IdiomCopy
import Derived.OrdersHeld
import Derived.Laws.BitsLemmas
import Derived.RowKit
import Derived.Test.YtdcnmjdohjodhaaWWords
import Derived.Test.YtdcnmjdohjodhaaWLast
import Derived.Test.YtdcnmjdohjodhaaWTab
import Derived.Test.YtdcnmjdohjodhaaWFour
import Derived.Test.YtdcnmjdohjodhaaWQPut
import Derived.Test.YtdcnmjdohjodhaaWApart
import Derived.Test.YtdcnmjdohjodhaaWArr
import Derived.Test.YtdcnmjdohjodhaaWZeros
import Derived.Test.YtdcnmjdohjodhaaWFoot
import Derived.Test.YtdcnmjdohjodhaaWKept
import Derived.Test.YtdcnmjdohjodhaaWShare
import Derived.Test.YtdcnmjdohjodhaaWN
import Derived.Test.YtdcnmjdohjodhaaWFootNe
import Derived.Test.YtdcnmjdohjodhaaWAt
import Derived.Test.YtdcnmjdohjodhaaWEqStruct
import Derived.Test.YtdcnmjdohjodhaaWRepsOne
import Derived.Test.YtdcnmjdohjodhaaWInv
import Derived.Test.YtdcnmjdohjodhaaWInvWords
import Derived.Test.YtdcnmjdohjodhaaWGuard
import Derived.Test.YtdcnmjdohjodhaaWNEv
import Derived.Test.YtdcnmjdohjodhaaWMore
import Derived.Test.YtdcnmjdohjodhaaPEx1
namespace Go.Proofs.Ytdcnmjdohjodhaa.PA
open Go.RowKit Go.Proofs.Ytdcnmjdohjodhaa.PE Go.Proofs.YtdcnmjdohjodhaaW.PrintWords Go.Proofs.YtdcnmjdohjodhaaW.PrintLast Go.Proofs.YtdcnmjdohjodhaaW.PrintMore
attribute [local go_sem] max2_int min2_int max_two min_two max_three min_three max_four min_four   -- for this text's walks alone
set_option linter.unusedVariables false
set_option linter.unusedSimpArgs false




theorem info3 : (Try.prog.info? 3).map (fun i => (i.zero, i.size, i.bytes)) = some (some (.int .i64 0), 1, 8) := by kernel_rfl
-- the values' own types
def rd_L2 (xs : List (List S37)) (i : Int) : (List S37) := xs.getD i.toNat ([] : List S37)
theorem at_L2 {w : World} {A : Option Addr} {n : Nat} {xs : List (List S37)} (h : Kd.C (Kd.slice 37 k37) w A n xs) (i : Int) (h0 : 0 ≤ i) (h1 : i < n) : ∃ ad A0 c0, A = some ad ∧ w.cell? (ad.add i.toNat) = some (.slice A0 (rd_L2 xs i).length c0) ∧ (rd_L2 xs i).length ≤ c0 ∧ k37.C w A0 (rd_L2 xs i).length (rd_L2 xs i) := by
  obtain ⟨ad, c, e, _, hK, hc0⟩ := Kd.C_get h ([] : List S37) i h0 h1
  have hc : ∀ j u, c[j]? = some u → w.cell? (ad.add (i.toNat * 1 + j)) = some u := hc0
  obtain ⟨A0, c0, rfl, l0, g0⟩ := hK
  exact ⟨ad, A0, c0, e, by have hq := hc 0 _ rfl; rwa [Nat.mul_one, Nat.add_zero] at hq, l0, g0⟩

end Go.Proofs.Ytdcnmjdohjodhaa.PA
