/- Functions of the translation as plain Lean functions, and their walks: written by a program of this session's on the kit's print, for this seat. -/
import Derived.Test.YtlpdongckcaclaaProg
import Derived.Below
import Derived.Deep.Draws
import Derived.Deep.AppendLies
import Derived.Maps.AppendAt
import Derived.OwnWalk
import Derived.Laws.BytesArg
import Derived.Laws.MakeOwn
import Derived.Laws.OwnMore
import Derived.Deep.OwnRows
import Derived.Tactics
import Derived.Lib.ConvBytes
import Derived.Laws.Slices
import Derived.WalkKit
import Derived.KernelRfl
import Derived.RowKit3
import Derived.Deep.LoopGhost
import Derived.Deep.QuietTactic
import Derived.BigQuiet
import Derived.WideLaws
import Derived.Deep.DeepCutAuto
import Derived.Deep.CutBlock
import Derived.Deep.RegionHeld3
import Derived.Laws.Rows
import Derived.Lib.AppendStr
import Derived.ArgAppend
import Derived.Laws.IdiomCopy
import Derived.OrdersHeld
import Derived.Laws.BitsLemmas
import Derived.RowKit
import Derived.Handy
import Derived.Test.YtlpdongckcaclaaLimbA
import Derived.Test.YtlpdongckcaclaaLimbM
import Derived.Test.YtlpdongckcaclaaLimbL
import Derived.Test.YtlpdongckcaclaaLimbS
import Derived.Test.YtlpdongckcaclaaLimbR
import Derived.Test.YtlpdongckcaclaaLimbD
import Derived.Test.YtlpdongckcaclaaLimbE
import Derived.Test.YtlpdongckcaclaaWWords
import Derived.Test.YtlpdongckcaclaaWLast
import Derived.Test.YtlpdongckcaclaaWTab
import Derived.Test.YtlpdongckcaclaaWFour
import Derived.Test.YtlpdongckcaclaaWQPut
import Derived.Test.YtlpdongckcaclaaWApart
import Derived.Test.YtlpdongckcaclaaWArr
import Derived.Test.YtlpdongckcaclaaWZeros
import Derived.Test.YtlpdongckcaclaaWFoot
import Derived.Test.YtlpdongckcaclaaWKept
import Derived.Test.YtlpdongckcaclaaWShare
import Derived.Test.YtlpdongckcaclaaWN
import Derived.Test.YtlpdongckcaclaaWFootNe
import Derived.Test.YtlpdongckcaclaaWAt
import Derived.Test.YtlpdongckcaclaaWEqStruct
import Derived.Test.YtlpdongckcaclaaWRepsOne
import Derived.Test.YtlpdongckcaclaaWInv
import Derived.Test.YtlpdongckcaclaaWInvWords
import Derived.Test.YtlpdongckcaclaaWGuard
import Derived.Test.YtlpdongckcaclaaWNEv
import Derived.Test.YtlpdongckcaclaaWMore
namespace Go.Proofs.Ytlpdongckcaclaa.S
open Go.RowKit Go.Proofs.Ytlpdongckcaclaa.Limb Go.Proofs.Ytlpdongckcaclaa.Plain Go.Proofs.YtlpdongckcaclaaW.PrintWords Go.Proofs.YtlpdongckcaclaaW.PrintLast Go.Proofs.YtlpdongckcaclaaW.PrintMore
attribute [local go_sem] max2_int min2_int max_two min_two max_three min_three max_four min_four   -- for this text's walks alone
set_option linter.unusedVariables false
set_option linter.unusedSimpArgs false

def bA (n m : Nat) : Array Bool := ((List.range n).map fun i => m.testBit i).toArray


def errW : Option Int → Value
  | none => .nilIface
  | some c => .iface 0 (.int .i64 c)
theorem errW_none : errW none = .nilIface := rfl
theorem errW_some (c : Int) : errW (some c) = .iface 0 (.int .i64 c) := rfl

theorem info3 : (Try.prog.info? 3).map (fun i => (i.zero, i.size, i.bytes)) = some (some (.int .i64 0), 1, 8) := by kernel_rfl
theorem info22 : (Try.prog.info? 22).map (fun i => (i.zero, i.size, i.bytes)) = some (some (.int .u64 0), 1, 8) := by kernel_rfl
-- the values' own types

end Go.Proofs.Ytlpdongckcaclaa.S
