/- Functions of the translation as plain Lean functions, and their walks: written by a program of this session's on the kit's print, for this seat. -/
import Derived.Test.YtlkehngobhmhbaaProg
import Derived.Below
import Derived.Deep.Draws
import Derived.Deep.AppendLies
import Derived.Maps.AppendAt
import Derived.OwnWalk
import Derived.Laws.BytesArg
import Derived.Laws.MakeOwn
import Derived.Laws.OwnMore
import Derived.Deep.OwnRows
import Derived.Tactics
import Derived.Lib.ConvBytes
import Derived.Laws.Slices
import Derived.WalkKit
import Derived.KernelRfl
import Derived.RowKit3
import Derived.Deep.LoopGhost
import Derived.Deep.QuietTactic
import Derived.BigQuiet
import Derived.WideLaws
import Derived.Deep.DeepCutAuto
import Derived.Deep.CutBlock
import Derived.Deep.RegionHeld3
import Derived.Laws.Rows
import Derived.Lib.AppendStr
import Derived.ArgAppend
import Derived.Laws.IdiomCopy
import Derived.OrdersHeld
import Derived.Laws.BitsLemmas
import Derived.RowKit
import Derived.Handy
import Derived.Test.YtlkehngobhmhbaaWWords
import Derived.Test.YtlkehngobhmhbaaWLast
import Derived.Test.YtlkehngobhmhbaaWTab
import Derived.Test.YtlkehngobhmhbaaWFour
import Derived.Test.YtlkehngobhmhbaaWQPut
import Derived.Test.YtlkehngobhmhbaaWApart
import Derived.Test.YtlkehngobhmhbaaWArr
import Derived.Test.YtlkehngobhmhbaaWZeros
import Derived.Test.YtlkehngobhmhbaaWFoot
import Derived.Test.YtlkehngobhmhbaaWKept
import Derived.Test.YtlkehngobhmhbaaWShare
import Derived.Test.YtlkehngobhmhbaaWN
import Derived.Test.YtlkehngobhmhbaaWFootNe
import Derived.Test.YtlkehngobhmhbaaWAt
import Derived.Test.YtlkehngobhmhbaaWEqStruct
import Derived.Test.YtlkehngobhmhbaaWRepsOne
import Derived.Test.YtlkehngobhmhbaaWInv
import Derived.Test.YtlkehngobhmhbaaWInvWords
import Derived.Test.YtlkehngobhmhbaaWGuard
import Derived.Test.YtlkehngobhmhbaaWNEv
import Derived.Test.YtlkehngobhmhbaaWMore
namespace Go.Proofs.Ytlkehngobhmhbaa.Q
open Go.RowKit Go.Proofs.YtlkehngobhmhbaaW.PrintWords Go.Proofs.YtlkehngobhmhbaaW.PrintLast Go.Proofs.YtlkehngobhmhbaaW.PrintMore
attribute [local go_sem] max2_int min2_int max_two min_two max_three min_three max_four min_four   -- for this text's walks alone
set_option linter.unusedVariables false
set_option linter.unusedSimpArgs false



def errW : Option Int → Value
  | none => .nilIface
  | some c => .iface 0 (.int .i64 c)
theorem errW_none : errW none = .nilIface := rfl
theorem errW_some (c : Int) : errW (some c) = .iface 0 (.int .i64 c) := rfl

-- the values' own types

end Go.Proofs.Ytlkehngobhmhbaa.Q
