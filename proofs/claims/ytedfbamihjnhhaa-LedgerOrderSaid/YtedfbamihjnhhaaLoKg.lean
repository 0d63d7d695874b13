/- In whatever order bodies stand: the runs, for each number of bodies and each turn. -/
import Derived.Test.YtedfbamihjnhhaaLoX
namespace Go.Proofs.Ytedfbamihjnhhaa.Own
open Go Go.RowKit Go.Proofs
set_option maxRecDepth 100000
set_option maxHeartbeats 40000000 in
theorem lo_6_f_0 : (([0, 1, 2] : List Nat).all fun r => loB 6 r false) = true := by kernel_rfl
set_option maxHeartbeats 40000000 in
theorem lo_6_f_1 : (([3, 4, 5] : List Nat).all fun r => loB 6 r false) = true := by kernel_rfl
theorem lo_6_f {r : Nat} (h : r < 6) : loB 6 r false = true := by
  by_cases h3 : r < 3
  · exact List.all_eq_true.1 lo_6_f_0 r (by simp; omega)
  by_cases h6 : r < 6
  · exact List.all_eq_true.1 lo_6_f_1 r (by simp; omega)
  exact absurd h h6
set_option maxHeartbeats 40000000 in
theorem lo_5_f_0 : (([0, 1, 2, 3, 4] : List Nat).all fun r => loB 5 r false) = true := by kernel_rfl
theorem lo_5_f {r : Nat} (h : r < 5) : loB 5 r false = true := by
  by_cases h5 : r < 5
  · exact List.all_eq_true.1 lo_5_f_0 r (by simp; omega)
  exact absurd h h5
set_option maxHeartbeats 40000000 in
theorem lo_4_f_0 : (([0, 1, 2, 3] : List Nat).all fun r => loB 4 r false) = true := by kernel_rfl
theorem lo_4_f {r : Nat} (h : r < 4) : loB 4 r false = true := by
  by_cases h4 : r < 4
  · exact List.all_eq_true.1 lo_4_f_0 r (by simp; omega)
  exact absurd h h4
set_option maxHeartbeats 40000000 in
theorem lo_3_f_0 : (([0, 1, 2] : List Nat).all fun r => loB 3 r false) = true := by kernel_rfl
theorem lo_3_f {r : Nat} (h : r < 3) : loB 3 r false = true := by
  by_cases h3 : r < 3
  · exact List.all_eq_true.1 lo_3_f_0 r (by simp; omega)
  exact absurd h h3
set_option maxHeartbeats 40000000 in
theorem lo_2_f_0 : (([0, 1] : List Nat).all fun r => loB 2 r false) = true := by kernel_rfl
theorem lo_2_f {r : Nat} (h : r < 2) : loB 2 r false = true := by
  by_cases h2 : r < 2
  · exact List.all_eq_true.1 lo_2_f_0 r (by simp; omega)
  exact absurd h h2
set_option maxHeartbeats 40000000 in
theorem lo_1_f_0 : (([0] : List Nat).all fun r => loB 1 r false) = true := by kernel_rfl
theorem lo_1_f {r : Nat} (h : r < 1) : loB 1 r false = true := by
  by_cases h1 : r < 1
  · exact List.all_eq_true.1 lo_1_f_0 r (by simp; omega)
  exact absurd h h1
end Go.Proofs.Ytedfbamihjnhhaa.Own
