/- A world turned: the checks. -/
import Derived.Test.YtedfbamihjnhhaaWtK
namespace Go.Proofs.Ytedfbamihjnhhaa.Own
open Go Go.RowKit Go.Proofs Go.Proofs.Ytedfbamihjnhhaa.Plain
set_option linter.unusedVariables false
set_option maxRecDepth 100000
set_option maxHeartbeats 40000000
theorem wtC9_tt : wtRun wtT9_tt (wtD9_tt ++ wtCase 9 true true) = true := by kernel_rfl
theorem wtC9_tf : wtRun wtT9_tf (wtD9_tf ++ wtCase 9 true false) = true := by kernel_rfl
theorem wtC9_ft : wtRun wtT9_ft (wtD9_ft ++ wtCase 9 false true) = true := by kernel_rfl
theorem wtC9_ff : wtRun wtT9_ff (wtD9_ff ++ wtCase 9 false false) = true := by kernel_rfl
end Go.Proofs.Ytedfbamihjnhhaa.Own
