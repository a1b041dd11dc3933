/-
  Contracts of the program's functions and the Lean functions that they compute, laid by a program of this session out of the translation. Conditions: none.
-/
import Derived.Test.YthloffjgbgmpkaaProg
import Derived.Below
import Derived.Deep.Draws
import Derived.Deep.AppendLies
import Derived.Maps.AppendAt
import Derived.OwnWalk
import Derived.Laws.BytesArg
import Derived.Laws.MakeOwn
import Derived.Laws.OwnMore
import Derived.Deep.OwnRows
import Derived.Tactics
import Derived.Lib.ConvBytes
import Derived.Laws.Slices
import Derived.WalkKit
import Derived.KernelRfl
import Derived.RowKit3
import Derived.Deep.LoopGhost
import Derived.Deep.QuietTactic
import Derived.BigQuiet
import Derived.WideLaws
import Derived.Deep.DeepCutAuto
import Derived.Deep.CutBlock
import Derived.Deep.RegionHeld3
import Derived.Laws.Rows
import Derived.Lib.AppendStr
import Derived.ArgAppend
import Derived.Laws.IdiomCopy
import Derived.OrdersHeld
import Derived.Laws.BitsLemmas
import Derived.RowKit
import Derived.Test.YthloffjgbgmpkaaWWords
import Derived.Test.YthloffjgbgmpkaaWLast
import Derived.Test.YthloffjgbgmpkaaWTab
import Derived.Test.YthloffjgbgmpkaaWFour
import Derived.Test.YthloffjgbgmpkaaWQPut
import Derived.Test.YthloffjgbgmpkaaWApart
import Derived.Test.YthloffjgbgmpkaaWArr
import Derived.Test.YthloffjgbgmpkaaWZeros
import Derived.Test.YthloffjgbgmpkaaWFoot
import Derived.Test.YthloffjgbgmpkaaWKept
import Derived.Test.YthloffjgbgmpkaaWShare
import Derived.Test.YthloffjgbgmpkaaWN
import Derived.Test.YthloffjgbgmpkaaWFootNe
import Derived.Test.YthloffjgbgmpkaaWAt
import Derived.Test.YthloffjgbgmpkaaWEqStruct
import Derived.Test.YthloffjgbgmpkaaWRepsOne
import Derived.Test.YthloffjgbgmpkaaWInv
import Derived.Test.YthloffjgbgmpkaaWInvWords
import Derived.Test.YthloffjgbgmpkaaWGuard
import Derived.Test.YthloffjgbgmpkaaWNEv
import Derived.Test.YthloffjgbgmpkaaWMore
import Derived.Test.YthloffjgbgmpkaaPAx5
import Derived.Test.YthloffjgbgmpkaaManA
namespace Go.Proofs.Ythloffjgbgmpkaa.LO
open Go.RowKit Go.Proofs.Ythloffjgbgmpkaa.PA Go.Proofs.Ythloffjgbgmpkaa.Man Go.Proofs.YthloffjgbgmpkaaW.PrintWords Go.Proofs.YthloffjgbgmpkaaW.PrintLast Go.Proofs.YthloffjgbgmpkaaW.PrintMore
attribute [local go_sem] max2_int min2_int max_two min_two max_three min_three max_four min_four   -- for this text's walks alone
set_option linter.unusedVariables false
set_option linter.unusedSimpArgs false




-- the values' own types

end Go.Proofs.Ythloffjgbgmpkaa.LO
