/- Lists as long as they may: the runs of one case, 10 of them. -/
import Derived.Test.YtedfbamihjnhhaaWlK
namespace Go.Proofs.Ytedfbamihjnhhaa.Own
open Go Go.RowKit Go.Proofs Go.Proofs.Ytedfbamihjnhhaa.Plain
set_option maxRecDepth 100000
set_option maxHeartbeats 8000000
theorem wlrb_30 : wlRun 30 wl0 = true := by kernel_rfl
theorem wlrb_31 : wlRun 31 wl0 = true := by kernel_rfl
theorem wlrb_32 : wlRun 32 wl0 = true := by kernel_rfl
theorem wlrb_33 : wlRun 33 wl0 = true := by kernel_rfl
theorem wlrb_34 : wlRun 34 wl0 = true := by kernel_rfl
theorem wlrb_35 : wlRun 35 wl0 = true := by kernel_rfl
theorem wlrb_36 : wlRun 36 wl0 = true := by kernel_rfl
theorem wlrb_37 : wlRun 37 wl0 = true := by kernel_rfl
theorem wlrb_38 : wlRun 38 wl0 = true := by kernel_rfl
theorem wlrb_39 : wlRun 39 wl0 = true := by kernel_rfl
theorem wlrb {n : Nat} (h1 : 30 ≤ n) (h2 : n < 40) : wlRun n wl0 = true := by
  obtain ⟨d, rfl⟩ : ∃ d, n = 30 + d := ⟨n - 30, by omega⟩
  match d, (show d < 10 by omega) with
  | 0, _ => exact wlrb_30
  | 1, _ => exact wlrb_31
  | 2, _ => exact wlrb_32
  | 3, _ => exact wlrb_33
  | 4, _ => exact wlrb_34
  | 5, _ => exact wlrb_35
  | 6, _ => exact wlrb_36
  | 7, _ => exact wlrb_37
  | 8, _ => exact wlrb_38
  | 9, _ => exact wlrb_39
  | d + 10, h => exact absurd h (by omega)
end Go.Proofs.Ytedfbamihjnhhaa.Own
