/- In whatever order bodies stand: the runs, for each number of bodies and each turn. -/
import Derived.Test.YtedfbamihjnhhaaLoX
namespace Go.Proofs.Ytedfbamihjnhhaa.Own
open Go Go.RowKit Go.Proofs
set_option maxRecDepth 100000
set_option maxHeartbeats 40000000 in
theorem lo_9_f_0 : (([0, 1, 2] : List Nat).all fun r => loB 9 r false) = true := by kernel_rfl
set_option maxHeartbeats 40000000 in
theorem lo_9_f_1 : (([3, 4, 5] : List Nat).all fun r => loB 9 r false) = true := by kernel_rfl
set_option maxHeartbeats 40000000 in
theorem lo_9_f_2 : (([6, 7, 8] : List Nat).all fun r => loB 9 r false) = true := by kernel_rfl
theorem lo_9_f {r : Nat} (h : r < 9) : loB 9 r false = true := by
  by_cases h3 : r < 3
  · exact List.all_eq_true.1 lo_9_f_0 r (by simp; omega)
  by_cases h6 : r < 6
  · exact List.all_eq_true.1 lo_9_f_1 r (by simp; omega)
  by_cases h9 : r < 9
  · exact List.all_eq_true.1 lo_9_f_2 r (by simp; omega)
  exact absurd h h9
end Go.Proofs.Ytedfbamihjnhhaa.Own
