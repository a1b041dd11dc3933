/-
  Contracts of the program's functions and the Lean functions that they compute, laid by a program of this session out of the translation. Conditions: none.
-/
import Derived.Test.YtmkijdkfogebjaaProg
import Derived.Below
import Derived.Deep.Draws
import Derived.Deep.AppendLies
import Derived.Maps.AppendAt
import Derived.OwnWalk
import Derived.Laws.BytesArg
import Derived.Laws.MakeOwn
import Derived.Laws.OwnMore
import Derived.Deep.OwnRows
import Derived.Tactics
import Derived.Lib.ConvBytes
import Derived.Laws.Slices
import Derived.WalkKit
import Derived.KernelRfl
import Derived.RowKit3
import Derived.Deep.LoopGhost
import Derived.Deep.QuietTactic
import Derived.BigQuiet
import Derived.WideLaws
import Derived.Deep.DeepCutAuto
import Derived.Deep.CutBlock
import Derived.Deep.RegionHeld3
import Derived.Laws.Rows
import Derived.Lib.AppendStr
import Derived.ArgAppend
import Derived.Laws.IdiomCopy
import Derived.OrdersHeld
import Derived.Laws.BitsLemmas
import Derived.RowKit
import Derived.Test.YtmkijdkfogebjaaWWords
import Derived.Test.YtmkijdkfogebjaaWLast
import Derived.Test.YtmkijdkfogebjaaWTab
import Derived.Test.YtmkijdkfogebjaaWFour
import Derived.Test.YtmkijdkfogebjaaWQPut
import Derived.Test.YtmkijdkfogebjaaWApart
import Derived.Test.YtmkijdkfogebjaaWArr
import Derived.Test.YtmkijdkfogebjaaWZeros
import Derived.Test.YtmkijdkfogebjaaWFoot
import Derived.Test.YtmkijdkfogebjaaWKept
import Derived.Test.YtmkijdkfogebjaaWShare
import Derived.Test.YtmkijdkfogebjaaWN
import Derived.Test.YtmkijdkfogebjaaWFootNe
import Derived.Test.YtmkijdkfogebjaaWAt
import Derived.Test.YtmkijdkfogebjaaWEqStruct
import Derived.Test.YtmkijdkfogebjaaWRepsOne
import Derived.Test.YtmkijdkfogebjaaWInv
import Derived.Test.YtmkijdkfogebjaaWInvWords
import Derived.Test.YtmkijdkfogebjaaWGuard
import Derived.Test.YtmkijdkfogebjaaWNEv
import Derived.Test.YtmkijdkfogebjaaWMore
import Derived.Test.YtmkijdkfogebjaaPBx1
namespace Go.Proofs.Ytmkijdkfogebjaa.PF
open Go.RowKit Go.Proofs.Ytmkijdkfogebjaa.PA Go.Proofs.Ytmkijdkfogebjaa.PB Go.Proofs.YtmkijdkfogebjaaW.PrintWords Go.Proofs.YtmkijdkfogebjaaW.PrintLast Go.Proofs.YtmkijdkfogebjaaW.PrintMore
attribute [local go_sem] max2_int min2_int max_two min_two max_three min_three max_four min_four   -- for this text's walks alone
set_option linter.unusedVariables false
set_option linter.unusedSimpArgs false




-- the values' own types

end Go.Proofs.Ytmkijdkfogebjaa.PF
