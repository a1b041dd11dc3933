/-
  Contracts of the program's functions and the Lean functions that they compute, laid by a program of this session out of the translation. Conditions: none.
-/
import Derived.Test.YtfflhppieogkbaaProg
import Derived.Below
import Derived.Deep.Draws
import Derived.Deep.AppendLies
import Derived.Maps.AppendAt
import Derived.OwnWalk
import Derived.Laws.BytesArg
import Derived.Laws.MakeOwn
import Derived.Laws.OwnMore
import Derived.Deep.OwnRows
import Derived.Tactics
import Derived.Lib.ConvBytes
import Derived.Laws.Slices
import Derived.WalkKit
import Derived.KernelRfl
import Derived.RowKit3
import Derived.Deep.LoopGhost
import Derived.Deep.QuietTactic
import Derived.BigQuiet
import Derived.WideLaws
import Derived.Deep.DeepCutAuto
import Derived.Deep.CutBlock
import Derived.Deep.RegionHeld3
import Derived.Laws.Rows
import Derived.Lib.AppendStr
import Derived.ArgAppend
import Derived.Laws.IdiomCopy
import Derived.OrdersHeld
import Derived.Laws.BitsLemmas
import Derived.RowKit
import Derived.Test.YtfflhppieogkbaaWWords
import Derived.Test.YtfflhppieogkbaaWLast
import Derived.Test.YtfflhppieogkbaaWTab
import Derived.Test.YtfflhppieogkbaaWFour
import Derived.Test.YtfflhppieogkbaaWQPut
import Derived.Test.YtfflhppieogkbaaWApart
import Derived.Test.YtfflhppieogkbaaWArr
import Derived.Test.YtfflhppieogkbaaWZeros
import Derived.Test.YtfflhppieogkbaaWFoot
import Derived.Test.YtfflhppieogkbaaWKept
import Derived.Test.YtfflhppieogkbaaWShare
import Derived.Test.YtfflhppieogkbaaWN
import Derived.Test.YtfflhppieogkbaaWFootNe
import Derived.Test.YtfflhppieogkbaaWAt
import Derived.Test.YtfflhppieogkbaaWEqStruct
import Derived.Test.YtfflhppieogkbaaWRepsOne
import Derived.Test.YtfflhppieogkbaaWInv
import Derived.Test.YtfflhppieogkbaaWInvWords
import Derived.Test.YtfflhppieogkbaaWGuard
import Derived.Test.YtfflhppieogkbaaWNEv
import Derived.Test.YtfflhppieogkbaaWMore
import Derived.Test.YtfflhppieogkbaaPAx1
namespace Go.Proofs.Ytfflhppieogkbaa.PC
open Go.RowKit Go.Proofs.Ytfflhppieogkbaa.PA Go.Proofs.YtfflhppieogkbaaW.PrintWords Go.Proofs.YtfflhppieogkbaaW.PrintLast Go.Proofs.YtfflhppieogkbaaW.PrintMore
attribute [local go_sem] max2_int min2_int max_two min_two max_three min_three max_four min_four   -- for this text's walks alone
set_option linter.unusedVariables false
set_option linter.unusedSimpArgs false




theorem info3 : (Try.prog.info? 3).map (fun i => (i.zero, i.size, i.bytes)) = some (some (.int .i64 0), 1, 8) := by kernel_rfl
-- the values' own types

end Go.Proofs.Ytfflhppieogkbaa.PC
