/-
  Contracts of the program's functions and the Lean functions that they compute, laid by a program of this session out of the translation. Conditions: none.
-/
import Derived.Test.YteagjolmikbllaaProg
import Derived.Below
import Derived.Deep.Draws
import Derived.Deep.AppendLies
import Derived.Maps.AppendAt
import Derived.OwnWalk
import Derived.Laws.BytesArg
import Derived.Laws.MakeOwn
import Derived.Laws.OwnMore
import Derived.Deep.OwnRows
import Derived.Tactics
import Derived.Lib.ConvBytes
import Derived.Laws.Slices
import Derived.WalkKit
import Derived.KernelRfl
import Derived.RowKit3
import Derived.Deep.LoopGhost
import Derived.Deep.QuietTactic
import Derived.BigQuiet
import Derived.WideLaws
import Derived.Deep.DeepCutAuto
import Derived.Deep.CutBlock
import Derived.Deep.RegionHeld3
import Derived.Laws.Rows
import Derived.Lib.AppendStr
import Derived.ArgAppend
import Derived.Laws.IdiomCopy
import Derived.OrdersHeld
import Derived.Laws.BitsLemmas
import Derived.RowKit
import Derived.Test.YteagjolmikbllaaWWords
import Derived.Test.YteagjolmikbllaaWLast
import Derived.Test.YteagjolmikbllaaWTab
import Derived.Test.YteagjolmikbllaaWFour
import Derived.Test.YteagjolmikbllaaWQPut
import Derived.Test.YteagjolmikbllaaWApart
import Derived.Test.YteagjolmikbllaaWArr
import Derived.Test.YteagjolmikbllaaWZeros
import Derived.Test.YteagjolmikbllaaWFoot
import Derived.Test.YteagjolmikbllaaWKept
import Derived.Test.YteagjolmikbllaaWShare
import Derived.Test.YteagjolmikbllaaWN
import Derived.Test.YteagjolmikbllaaWFootNe
import Derived.Test.YteagjolmikbllaaWAt
import Derived.Test.YteagjolmikbllaaWEqStruct
import Derived.Test.YteagjolmikbllaaWRepsOne
import Derived.Test.YteagjolmikbllaaWInv
import Derived.Test.YteagjolmikbllaaWInvWords
import Derived.Test.YteagjolmikbllaaWGuard
import Derived.Test.YteagjolmikbllaaWNEv
import Derived.Test.YteagjolmikbllaaWMore
namespace Go.Proofs.Yteagjolmikbllaa.PA
open Go.RowKit Go.Proofs.YteagjolmikbllaaW.PrintWords Go.Proofs.YteagjolmikbllaaW.PrintLast Go.Proofs.YteagjolmikbllaaW.PrintMore
attribute [local go_sem] max2_int min2_int max_two min_two max_three min_three max_four min_four   -- for this text's walks alone
set_option linter.unusedVariables false
set_option linter.unusedSimpArgs false



def errW : Option Int → Value
  | none => .nilIface
  | some c => .iface 0 (.int .i64 c)
theorem errW_none : errW none = .nilIface := rfl
theorem errW_some (c : Int) : errW (some c) = .iface 0 (.int .i64 c) := rfl

theorem info3 : (Try.prog.info? 3).map (fun i => (i.zero, i.size, i.bytes)) = some (some (.int .i64 0), 1, 8) := by kernel_rfl
-- the values' own types

end Go.Proofs.Yteagjolmikbllaa.PA
