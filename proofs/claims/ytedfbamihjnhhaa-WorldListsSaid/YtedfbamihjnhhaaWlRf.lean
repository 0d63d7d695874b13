/- Lists as long as they may: the runs of one case, 34 of them. -/
import Derived.Test.YtedfbamihjnhhaaWlK
namespace Go.Proofs.Ytedfbamihjnhhaa.Own
open Go Go.RowKit Go.Proofs Go.Proofs.Ytedfbamihjnhhaa.Plain
set_option maxRecDepth 100000
set_option maxHeartbeats 8000000
theorem wlrf_0 : wlRun 0 wl2 = true := by kernel_rfl
theorem wlrf_1 : wlRun 1 wl2 = true := by kernel_rfl
theorem wlrf_2 : wlRun 2 wl2 = true := by kernel_rfl
theorem wlrf_3 : wlRun 3 wl2 = true := by kernel_rfl
theorem wlrf_4 : wlRun 4 wl2 = true := by kernel_rfl
theorem wlrf_5 : wlRun 5 wl2 = true := by kernel_rfl
theorem wlrf_6 : wlRun 6 wl2 = true := by kernel_rfl
theorem wlrf_7 : wlRun 7 wl2 = true := by kernel_rfl
theorem wlrf_8 : wlRun 8 wl2 = true := by kernel_rfl
theorem wlrf_9 : wlRun 9 wl2 = true := by kernel_rfl
theorem wlrf_10 : wlRun 10 wl2 = true := by kernel_rfl
theorem wlrf_11 : wlRun 11 wl2 = true := by kernel_rfl
theorem wlrf_12 : wlRun 12 wl2 = true := by kernel_rfl
theorem wlrf_13 : wlRun 13 wl2 = true := by kernel_rfl
theorem wlrf_14 : wlRun 14 wl2 = true := by kernel_rfl
theorem wlrf_15 : wlRun 15 wl2 = true := by kernel_rfl
theorem wlrf_16 : wlRun 16 wl2 = true := by kernel_rfl
theorem wlrf_17 : wlRun 17 wl2 = true := by kernel_rfl
theorem wlrf_18 : wlRun 18 wl2 = true := by kernel_rfl
theorem wlrf_19 : wlRun 19 wl2 = true := by kernel_rfl
theorem wlrf_20 : wlRun 20 wl2 = true := by kernel_rfl
theorem wlrf_21 : wlRun 21 wl2 = true := by kernel_rfl
theorem wlrf_22 : wlRun 22 wl2 = true := by kernel_rfl
theorem wlrf_23 : wlRun 23 wl2 = true := by kernel_rfl
theorem wlrf_24 : wlRun 24 wl2 = true := by kernel_rfl
theorem wlrf_25 : wlRun 25 wl2 = true := by kernel_rfl
theorem wlrf_26 : wlRun 26 wl2 = true := by kernel_rfl
theorem wlrf_27 : wlRun 27 wl2 = true := by kernel_rfl
theorem wlrf_28 : wlRun 28 wl2 = true := by kernel_rfl
theorem wlrf_29 : wlRun 29 wl2 = true := by kernel_rfl
theorem wlrf_30 : wlRun 30 wl2 = true := by kernel_rfl
theorem wlrf_31 : wlRun 31 wl2 = true := by kernel_rfl
theorem wlrf_32 : wlRun 32 wl2 = true := by kernel_rfl
theorem wlrf_33 : wlRun 33 wl2 = true := by kernel_rfl
theorem wlrf {n : Nat} (h1 : 0 ≤ n) (h2 : n < 34) : wlRun n wl2 = true := by
  obtain ⟨d, rfl⟩ : ∃ d, n = 0 + d := ⟨n - 0, by omega⟩
  match d, (show d < 34 by omega) with
  | 0, _ => exact wlrf_0
  | 1, _ => exact wlrf_1
  | 2, _ => exact wlrf_2
  | 3, _ => exact wlrf_3
  | 4, _ => exact wlrf_4
  | 5, _ => exact wlrf_5
  | 6, _ => exact wlrf_6
  | 7, _ => exact wlrf_7
  | 8, _ => exact wlrf_8
  | 9, _ => exact wlrf_9
  | 10, _ => exact wlrf_10
  | 11, _ => exact wlrf_11
  | 12, _ => exact wlrf_12
  | 13, _ => exact wlrf_13
  | 14, _ => exact wlrf_14
  | 15, _ => exact wlrf_15
  | 16, _ => exact wlrf_16
  | 17, _ => exact wlrf_17
  | 18, _ => exact wlrf_18
  | 19, _ => exact wlrf_19
  | 20, _ => exact wlrf_20
  | 21, _ => exact wlrf_21
  | 22, _ => exact wlrf_22
  | 23, _ => exact wlrf_23
  | 24, _ => exact wlrf_24
  | 25, _ => exact wlrf_25
  | 26, _ => exact wlrf_26
  | 27, _ => exact wlrf_27
  | 28, _ => exact wlrf_28
  | 29, _ => exact wlrf_29
  | 30, _ => exact wlrf_30
  | 31, _ => exact wlrf_31
  | 32, _ => exact wlrf_32
  | 33, _ => exact wlrf_33
  | d + 34, h => exact absurd h (by omega)
end Go.Proofs.Ytedfbamihjnhhaa.Own
