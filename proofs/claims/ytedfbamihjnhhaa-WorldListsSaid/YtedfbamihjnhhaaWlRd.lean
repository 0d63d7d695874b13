/- Lists as long as they may: the runs of one case, 34 of them. -/
import Derived.Test.YtedfbamihjnhhaaWlK
namespace Go.Proofs.Ytedfbamihjnhhaa.Own
open Go Go.RowKit Go.Proofs Go.Proofs.Ytedfbamihjnhhaa.Plain
set_option maxRecDepth 100000
set_option maxHeartbeats 8000000
theorem wlrd_0 : wlRun 0 wl1 = true := by kernel_rfl
theorem wlrd_1 : wlRun 1 wl1 = true := by kernel_rfl
theorem wlrd_2 : wlRun 2 wl1 = true := by kernel_rfl
theorem wlrd_3 : wlRun 3 wl1 = true := by kernel_rfl
theorem wlrd_4 : wlRun 4 wl1 = true := by kernel_rfl
theorem wlrd_5 : wlRun 5 wl1 = true := by kernel_rfl
theorem wlrd_6 : wlRun 6 wl1 = true := by kernel_rfl
theorem wlrd_7 : wlRun 7 wl1 = true := by kernel_rfl
theorem wlrd_8 : wlRun 8 wl1 = true := by kernel_rfl
theorem wlrd_9 : wlRun 9 wl1 = true := by kernel_rfl
theorem wlrd_10 : wlRun 10 wl1 = true := by kernel_rfl
theorem wlrd_11 : wlRun 11 wl1 = true := by kernel_rfl
theorem wlrd_12 : wlRun 12 wl1 = true := by kernel_rfl
theorem wlrd_13 : wlRun 13 wl1 = true := by kernel_rfl
theorem wlrd_14 : wlRun 14 wl1 = true := by kernel_rfl
theorem wlrd_15 : wlRun 15 wl1 = true := by kernel_rfl
theorem wlrd_16 : wlRun 16 wl1 = true := by kernel_rfl
theorem wlrd_17 : wlRun 17 wl1 = true := by kernel_rfl
theorem wlrd_18 : wlRun 18 wl1 = true := by kernel_rfl
theorem wlrd_19 : wlRun 19 wl1 = true := by kernel_rfl
theorem wlrd_20 : wlRun 20 wl1 = true := by kernel_rfl
theorem wlrd_21 : wlRun 21 wl1 = true := by kernel_rfl
theorem wlrd_22 : wlRun 22 wl1 = true := by kernel_rfl
theorem wlrd_23 : wlRun 23 wl1 = true := by kernel_rfl
theorem wlrd_24 : wlRun 24 wl1 = true := by kernel_rfl
theorem wlrd_25 : wlRun 25 wl1 = true := by kernel_rfl
theorem wlrd_26 : wlRun 26 wl1 = true := by kernel_rfl
theorem wlrd_27 : wlRun 27 wl1 = true := by kernel_rfl
theorem wlrd_28 : wlRun 28 wl1 = true := by kernel_rfl
theorem wlrd_29 : wlRun 29 wl1 = true := by kernel_rfl
theorem wlrd_30 : wlRun 30 wl1 = true := by kernel_rfl
theorem wlrd_31 : wlRun 31 wl1 = true := by kernel_rfl
theorem wlrd_32 : wlRun 32 wl1 = true := by kernel_rfl
theorem wlrd_33 : wlRun 33 wl1 = true := by kernel_rfl
theorem wlrd {n : Nat} (h1 : 0 ≤ n) (h2 : n < 34) : wlRun n wl1 = true := by
  obtain ⟨d, rfl⟩ : ∃ d, n = 0 + d := ⟨n - 0, by omega⟩
  match d, (show d < 34 by omega) with
  | 0, _ => exact wlrd_0
  | 1, _ => exact wlrd_1
  | 2, _ => exact wlrd_2
  | 3, _ => exact wlrd_3
  | 4, _ => exact wlrd_4
  | 5, _ => exact wlrd_5
  | 6, _ => exact wlrd_6
  | 7, _ => exact wlrd_7
  | 8, _ => exact wlrd_8
  | 9, _ => exact wlrd_9
  | 10, _ => exact wlrd_10
  | 11, _ => exact wlrd_11
  | 12, _ => exact wlrd_12
  | 13, _ => exact wlrd_13
  | 14, _ => exact wlrd_14
  | 15, _ => exact wlrd_15
  | 16, _ => exact wlrd_16
  | 17, _ => exact wlrd_17
  | 18, _ => exact wlrd_18
  | 19, _ => exact wlrd_19
  | 20, _ => exact wlrd_20
  | 21, _ => exact wlrd_21
  | 22, _ => exact wlrd_22
  | 23, _ => exact wlrd_23
  | 24, _ => exact wlrd_24
  | 25, _ => exact wlrd_25
  | 26, _ => exact wlrd_26
  | 27, _ => exact wlrd_27
  | 28, _ => exact wlrd_28
  | 29, _ => exact wlrd_29
  | 30, _ => exact wlrd_30
  | 31, _ => exact wlrd_31
  | 32, _ => exact wlrd_32
  | 33, _ => exact wlrd_33
  | d + 34, h => exact absurd h (by omega)
end Go.Proofs.Ytedfbamihjnhhaa.Own
