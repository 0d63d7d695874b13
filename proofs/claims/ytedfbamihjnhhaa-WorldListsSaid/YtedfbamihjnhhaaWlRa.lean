/- Lists as long as they may: the runs of one case, 30 of them. -/
import Derived.Test.YtedfbamihjnhhaaWlK
namespace Go.Proofs.Ytedfbamihjnhhaa.Own
open Go Go.RowKit Go.Proofs Go.Proofs.Ytedfbamihjnhhaa.Plain
set_option maxRecDepth 100000
set_option maxHeartbeats 8000000
theorem wlra_0 : wlRun 0 wl0 = true := by kernel_rfl
theorem wlra_1 : wlRun 1 wl0 = true := by kernel_rfl
theorem wlra_2 : wlRun 2 wl0 = true := by kernel_rfl
theorem wlra_3 : wlRun 3 wl0 = true := by kernel_rfl
theorem wlra_4 : wlRun 4 wl0 = true := by kernel_rfl
theorem wlra_5 : wlRun 5 wl0 = true := by kernel_rfl
theorem wlra_6 : wlRun 6 wl0 = true := by kernel_rfl
theorem wlra_7 : wlRun 7 wl0 = true := by kernel_rfl
theorem wlra_8 : wlRun 8 wl0 = true := by kernel_rfl
theorem wlra_9 : wlRun 9 wl0 = true := by kernel_rfl
theorem wlra_10 : wlRun 10 wl0 = true := by kernel_rfl
theorem wlra_11 : wlRun 11 wl0 = true := by kernel_rfl
theorem wlra_12 : wlRun 12 wl0 = true := by kernel_rfl
theorem wlra_13 : wlRun 13 wl0 = true := by kernel_rfl
theorem wlra_14 : wlRun 14 wl0 = true := by kernel_rfl
theorem wlra_15 : wlRun 15 wl0 = true := by kernel_rfl
theorem wlra_16 : wlRun 16 wl0 = true := by kernel_rfl
theorem wlra_17 : wlRun 17 wl0 = true := by kernel_rfl
theorem wlra_18 : wlRun 18 wl0 = true := by kernel_rfl
theorem wlra_19 : wlRun 19 wl0 = true := by kernel_rfl
theorem wlra_20 : wlRun 20 wl0 = true := by kernel_rfl
theorem wlra_21 : wlRun 21 wl0 = true := by kernel_rfl
theorem wlra_22 : wlRun 22 wl0 = true := by kernel_rfl
theorem wlra_23 : wlRun 23 wl0 = true := by kernel_rfl
theorem wlra_24 : wlRun 24 wl0 = true := by kernel_rfl
theorem wlra_25 : wlRun 25 wl0 = true := by kernel_rfl
theorem wlra_26 : wlRun 26 wl0 = true := by kernel_rfl
theorem wlra_27 : wlRun 27 wl0 = true := by kernel_rfl
theorem wlra_28 : wlRun 28 wl0 = true := by kernel_rfl
theorem wlra_29 : wlRun 29 wl0 = true := by kernel_rfl
theorem wlra {n : Nat} (h1 : 0 ≤ n) (h2 : n < 30) : wlRun n wl0 = true := by
  obtain ⟨d, rfl⟩ : ∃ d, n = 0 + d := ⟨n - 0, by omega⟩
  match d, (show d < 30 by omega) with
  | 0, _ => exact wlra_0
  | 1, _ => exact wlra_1
  | 2, _ => exact wlra_2
  | 3, _ => exact wlra_3
  | 4, _ => exact wlra_4
  | 5, _ => exact wlra_5
  | 6, _ => exact wlra_6
  | 7, _ => exact wlra_7
  | 8, _ => exact wlra_8
  | 9, _ => exact wlra_9
  | 10, _ => exact wlra_10
  | 11, _ => exact wlra_11
  | 12, _ => exact wlra_12
  | 13, _ => exact wlra_13
  | 14, _ => exact wlra_14
  | 15, _ => exact wlra_15
  | 16, _ => exact wlra_16
  | 17, _ => exact wlra_17
  | 18, _ => exact wlra_18
  | 19, _ => exact wlra_19
  | 20, _ => exact wlra_20
  | 21, _ => exact wlra_21
  | 22, _ => exact wlra_22
  | 23, _ => exact wlra_23
  | 24, _ => exact wlra_24
  | 25, _ => exact wlra_25
  | 26, _ => exact wlra_26
  | 27, _ => exact wlra_27
  | 28, _ => exact wlra_28
  | 29, _ => exact wlra_29
  | d + 30, h => exact absurd h (by omega)
end Go.Proofs.Ytedfbamihjnhhaa.Own
