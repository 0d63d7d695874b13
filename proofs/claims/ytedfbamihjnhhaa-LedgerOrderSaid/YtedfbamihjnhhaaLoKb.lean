/- In whatever order bodies stand: the runs, for each number of bodies and each turn. -/
import Derived.Test.YtedfbamihjnhhaaLoX
namespace Go.Proofs.Ytedfbamihjnhhaa.Own
open Go Go.RowKit Go.Proofs
set_option maxRecDepth 100000
set_option maxHeartbeats 40000000 in
theorem lo_12_t_0 : (([0, 1] : List Nat).all fun r => loB 12 r true) = true := by kernel_rfl
set_option maxHeartbeats 40000000 in
theorem lo_12_t_1 : (([2, 3] : List Nat).all fun r => loB 12 r true) = true := by kernel_rfl
set_option maxHeartbeats 40000000 in
theorem lo_12_t_2 : (([4, 5] : List Nat).all fun r => loB 12 r true) = true := by kernel_rfl
set_option maxHeartbeats 40000000 in
theorem lo_12_t_3 : (([6, 7] : List Nat).all fun r => loB 12 r true) = true := by kernel_rfl
set_option maxHeartbeats 40000000 in
theorem lo_12_t_4 : (([8, 9] : List Nat).all fun r => loB 12 r true) = true := by kernel_rfl
set_option maxHeartbeats 40000000 in
theorem lo_12_t_5 : (([10, 11] : List Nat).all fun r => loB 12 r true) = true := by kernel_rfl
theorem lo_12_t {r : Nat} (h : r < 12) : loB 12 r true = true := by
  by_cases h2 : r < 2
  · exact List.all_eq_true.1 lo_12_t_0 r (by simp; omega)
  by_cases h4 : r < 4
  · exact List.all_eq_true.1 lo_12_t_1 r (by simp; omega)
  by_cases h6 : r < 6
  · exact List.all_eq_true.1 lo_12_t_2 r (by simp; omega)
  by_cases h8 : r < 8
  · exact List.all_eq_true.1 lo_12_t_3 r (by simp; omega)
  by_cases h10 : r < 10
  · exact List.all_eq_true.1 lo_12_t_4 r (by simp; omega)
  by_cases h12 : r < 12
  · exact List.all_eq_true.1 lo_12_t_5 r (by simp; omega)
  exact absurd h h12
end Go.Proofs.Ytedfbamihjnhhaa.Own
