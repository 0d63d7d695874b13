/- A world turned: the checks. -/
import Derived.Test.YtedfbamihjnhhaaWtK
namespace Go.Proofs.Ytedfbamihjnhhaa.Own
open Go Go.RowKit Go.Proofs Go.Proofs.Ytedfbamihjnhhaa.Plain
set_option linter.unusedVariables false
set_option maxRecDepth 100000
set_option maxHeartbeats 40000000
theorem wtC8_tt : wtRun wtT8_tt (wtD8_tt ++ wtCase 8 true true) = true := by kernel_rfl
theorem wtC8_tf : wtRun wtT8_tf (wtD8_tf ++ wtCase 8 true false) = true := by kernel_rfl
theorem wtC8_ft : wtRun wtT8_ft (wtD8_ft ++ wtCase 8 false true) = true := by kernel_rfl
theorem wtC8_ff : wtRun wtT8_ff (wtD8_ff ++ wtCase 8 false false) = true := by kernel_rfl
end Go.Proofs.Ytedfbamihjnhhaa.Own
