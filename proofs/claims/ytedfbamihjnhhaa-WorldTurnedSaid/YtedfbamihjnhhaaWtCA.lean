/- A world turned: the checks. -/
import Derived.Test.YtedfbamihjnhhaaWtK
namespace Go.Proofs.Ytedfbamihjnhhaa.Own
open Go Go.RowKit Go.Proofs Go.Proofs.Ytedfbamihjnhhaa.Plain
set_option linter.unusedVariables false
set_option maxRecDepth 100000
set_option maxHeartbeats 40000000
theorem wtC0_tt : wtRun wtT0_tt (wtD0_tt ++ wtCase 0 true true) = true := by kernel_rfl
theorem wtC0_tf : wtRun wtT0_tf (wtD0_tf ++ wtCase 0 true false) = true := by kernel_rfl
theorem wtC0_ft : wtRun wtT0_ft (wtD0_ft ++ wtCase 0 false true) = true := by kernel_rfl
theorem wtC0_ff : wtRun wtT0_ff (wtD0_ff ++ wtCase 0 false false) = true := by kernel_rfl
theorem wtC1_tt : wtRun wtT1_tt (wtD1_tt ++ wtCase 1 true true) = true := by kernel_rfl
theorem wtC1_tf : wtRun wtT1_tf (wtD1_tf ++ wtCase 1 true false) = true := by kernel_rfl
theorem wtC1_ft : wtRun wtT1_ft (wtD1_ft ++ wtCase 1 false true) = true := by kernel_rfl
theorem wtC1_ff : wtRun wtT1_ff (wtD1_ff ++ wtCase 1 false false) = true := by kernel_rfl
theorem wtC2_tt : wtRun wtT2_tt (wtD2_tt ++ wtCase 2 true true) = true := by kernel_rfl
theorem wtC2_tf : wtRun wtT2_tf (wtD2_tf ++ wtCase 2 true false) = true := by kernel_rfl
theorem wtC2_ft : wtRun wtT2_ft (wtD2_ft ++ wtCase 2 false true) = true := by kernel_rfl
theorem wtC2_ff : wtRun wtT2_ff (wtD2_ff ++ wtCase 2 false false) = true := by kernel_rfl
theorem wtC3_tt : wtRun wtT3_tt (wtD3_tt ++ wtCase 3 true true) = true := by kernel_rfl
theorem wtC3_tf : wtRun wtT3_tf (wtD3_tf ++ wtCase 3 true false) = true := by kernel_rfl
theorem wtC3_ft : wtRun wtT3_ft (wtD3_ft ++ wtCase 3 false true) = true := by kernel_rfl
theorem wtC3_ff : wtRun wtT3_ff (wtD3_ff ++ wtCase 3 false false) = true := by kernel_rfl
theorem wtC4_tt : wtRun wtT4_tt (wtD4_tt ++ wtCase 4 true true) = true := by kernel_rfl
theorem wtC4_tf : wtRun wtT4_tf (wtD4_tf ++ wtCase 4 true false) = true := by kernel_rfl
theorem wtC4_ft : wtRun wtT4_ft (wtD4_ft ++ wtCase 4 false true) = true := by kernel_rfl
theorem wtC4_ff : wtRun wtT4_ff (wtD4_ff ++ wtCase 4 false false) = true := by kernel_rfl
theorem wtC5_tt : wtRun wtT5_tt (wtD5_tt ++ wtCase 5 true true) = true := by kernel_rfl
theorem wtC5_tf : wtRun wtT5_tf (wtD5_tf ++ wtCase 5 true false) = true := by kernel_rfl
theorem wtC5_ft : wtRun wtT5_ft (wtD5_ft ++ wtCase 5 false true) = true := by kernel_rfl
theorem wtC5_ff : wtRun wtT5_ff (wtD5_ff ++ wtCase 5 false false) = true := by kernel_rfl
theorem wtC6_tt : wtRun wtT6_tt (wtD6_tt ++ wtCase 6 true true) = true := by kernel_rfl
theorem wtC6_tf : wtRun wtT6_tf (wtD6_tf ++ wtCase 6 true false) = true := by kernel_rfl
theorem wtC6_ft : wtRun wtT6_ft (wtD6_ft ++ wtCase 6 false true) = true := by kernel_rfl
theorem wtC6_ff : wtRun wtT6_ff (wtD6_ff ++ wtCase 6 false false) = true := by kernel_rfl
theorem wtC7_tt : wtRun wtT7_tt (wtD7_tt ++ wtCase 7 true true) = true := by kernel_rfl
theorem wtC7_tf : wtRun wtT7_tf (wtD7_tf ++ wtCase 7 true false) = true := by kernel_rfl
theorem wtC7_ft : wtRun wtT7_ft (wtD7_ft ++ wtCase 7 false true) = true := by kernel_rfl
theorem wtC7_ff : wtRun wtT7_ff (wtD7_ff ++ wtCase 7 false false) = true := by kernel_rfl
theorem wtC12_tt : wtRun wtT12_tt (wtD12_tt ++ wtCase 12 true true) = true := by kernel_rfl
theorem wtC12_tf : wtRun wtT12_tf (wtD12_tf ++ wtCase 12 true false) = true := by kernel_rfl
theorem wtC12_ft : wtRun wtT12_ft (wtD12_ft ++ wtCase 12 false true) = true := by kernel_rfl
theorem wtC12_ff : wtRun wtT12_ff (wtD12_ff ++ wtCase 12 false false) = true := by kernel_rfl
theorem wtC13_tt : wtRun wtT13_tt (wtD13_tt ++ wtCase 13 true true) = true := by kernel_rfl
theorem wtC13_tf : wtRun wtT13_tf (wtD13_tf ++ wtCase 13 true false) = true := by kernel_rfl
theorem wtC13_ft : wtRun wtT13_ft (wtD13_ft ++ wtCase 13 false true) = true := by kernel_rfl
theorem wtC13_ff : wtRun wtT13_ff (wtD13_ff ++ wtCase 13 false false) = true := by kernel_rfl
end Go.Proofs.Ytedfbamihjnhhaa.Own
