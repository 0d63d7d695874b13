/- A walk by reckoning: the document's example of layer 24. -/
import Derived.Test.YtilkebpcjklmfaaGreatFixX
set_option linter.unusedVariables false
set_option linter.unusedSimpArgs false
namespace Go.Proofs.YtilkebpcjklmfaaGreat.Own
open Go Go.RowKit Go.Proofs
set_option maxRecDepth 100000
set_option maxHeartbeats 40000000
theorem qu3:Pure Tryz.prog 9 #[] (.bool true):=qmm (c:=cf0) (d:=300) (vs:=[]) (v:= .one (.bool true)) ok0 (by kernel_rfl) .nil (.one .bool)
end Go.Proofs.YtilkebpcjklmfaaGreat.Own
