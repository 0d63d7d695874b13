/- A world turned: the checks. -/
import Derived.Test.YtedfbamihjnhhaaWtK
namespace Go.Proofs.Ytedfbamihjnhhaa.Own
open Go Go.RowKit Go.Proofs Go.Proofs.Ytedfbamihjnhhaa.Plain
set_option linter.unusedVariables false
set_option maxRecDepth 100000
set_option maxHeartbeats 40000000
def wtNq : SE := .cmp .neq (.lit .i64 1) (.len wtL9)
theorem wtC10_tt : wtRun wtT10_tt (wtD10_tt ++ wtCase 10 true true) = true := by kernel_rfl
theorem wtC10_tf : wtRun wtT10_tf (wtD10_tf ++ wtCase 10 true false) = true := by kernel_rfl
theorem wtC10_ft : wtRun wtT10_ft (wtD10_ft ++ wtCase 10 false true) = true := by kernel_rfl
theorem wtC10_ff : wtRun wtT10_ff (wtD10_ff ++ wtCase 10 false false) = true := by kernel_rfl
theorem wtC11_tt : wtRun wtT11_tt (wtD11_tt ++ wtCase 11 true true) = true := by kernel_rfl
theorem wtC11_tfc : wtRun wtT11_tfc (wtD11_tfc ++ (wtNq, true) :: wtCase 11 true false) = true := by kernel_rfl
theorem wtC11_tfd : wtRun wtT11_tfd (wtD11_tfd ++ (wtNq, false) :: wtCase 11 true false) = true := by kernel_rfl
theorem wtC11_ft : wtRun wtT11_ft (wtD11_ft ++ wtCase 11 false true) = true := by kernel_rfl
theorem wtC11_ffc : wtRun wtT11_ffc (wtD11_ffc ++ (wtNq, true) :: wtCase 11 false false) = true := by kernel_rfl
theorem wtC11_ffd : wtRun wtT11_ffd (wtD11_ffd ++ (wtNq, false) :: wtCase 11 false false) = true := by kernel_rfl
theorem wtC14_tt : wtRun wtT14_tt (wtD14_tt ++ wtCase 14 true true) = true := by kernel_rfl
theorem wtC14_tf : wtRun wtT14_tf (wtD14_tf ++ wtCase 14 true false) = true := by kernel_rfl
theorem wtC14_ft : wtRun wtT14_ft (wtD14_ft ++ wtCase 14 false true) = true := by kernel_rfl
theorem wtC14_ff : wtRun wtT14_ff (wtD14_ff ++ wtCase 14 false false) = true := by kernel_rfl
theorem wtC15_tt : wtRun wtT15_tt (wtD15_tt ++ wtCase 15 true true) = true := by kernel_rfl
theorem wtC15_tf : wtRun wtT15_tf (wtD15_tf ++ wtCase 15 true false) = true := by kernel_rfl
theorem wtC15_ft : wtRun wtT15_ft (wtD15_ft ++ wtCase 15 false true) = true := by kernel_rfl
theorem wtC15_ff : wtRun wtT15_ff (wtD15_ff ++ wtCase 15 false false) = true := by kernel_rfl
end Go.Proofs.Ytedfbamihjnhhaa.Own
