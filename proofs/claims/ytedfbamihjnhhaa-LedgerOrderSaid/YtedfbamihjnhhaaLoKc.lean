/- In whatever order bodies stand: the runs, for each number of bodies and each turn. -/
import Derived.Test.YtedfbamihjnhhaaLoX
namespace Go.Proofs.Ytedfbamihjnhhaa.Own
open Go Go.RowKit Go.Proofs
set_option maxRecDepth 100000
set_option maxHeartbeats 40000000 in
theorem lo_11_f_0 : (([0, 1] : List Nat).all fun r => loB 11 r false) = true := by kernel_rfl
set_option maxHeartbeats 40000000 in
theorem lo_11_f_1 : (([2, 3] : List Nat).all fun r => loB 11 r false) = true := by kernel_rfl
set_option maxHeartbeats 40000000 in
theorem lo_11_f_2 : (([4, 5] : List Nat).all fun r => loB 11 r false) = true := by kernel_rfl
set_option maxHeartbeats 40000000 in
theorem lo_11_f_3 : (([6, 7] : List Nat).all fun r => loB 11 r false) = true := by kernel_rfl
set_option maxHeartbeats 40000000 in
theorem lo_11_f_4 : (([8, 9] : List Nat).all fun r => loB 11 r false) = true := by kernel_rfl
set_option maxHeartbeats 40000000 in
theorem lo_11_f_5 : (([10] : List Nat).all fun r => loB 11 r false) = true := by kernel_rfl
theorem lo_11_f {r : Nat} (h : r < 11) : loB 11 r false = true := by
  by_cases h2 : r < 2
  · exact List.all_eq_true.1 lo_11_f_0 r (by simp; omega)
  by_cases h4 : r < 4
  · exact List.all_eq_true.1 lo_11_f_1 r (by simp; omega)
  by_cases h6 : r < 6
  · exact List.all_eq_true.1 lo_11_f_2 r (by simp; omega)
  by_cases h8 : r < 8
  · exact List.all_eq_true.1 lo_11_f_3 r (by simp; omega)
  by_cases h10 : r < 10
  · exact List.all_eq_true.1 lo_11_f_4 r (by simp; omega)
  by_cases h11 : r < 11
  · exact List.all_eq_true.1 lo_11_f_5 r (by simp; omega)
  exact absurd h h11
end Go.Proofs.Ytedfbamihjnhhaa.Own
