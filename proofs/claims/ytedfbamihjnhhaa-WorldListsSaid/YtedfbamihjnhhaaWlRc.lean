/- Lists as long as they may: the runs of one case, 10 of them. -/
import Derived.Test.YtedfbamihjnhhaaWlK
namespace Go.Proofs.Ytedfbamihjnhhaa.Own
open Go Go.RowKit Go.Proofs Go.Proofs.Ytedfbamihjnhhaa.Plain
set_option maxRecDepth 100000
set_option maxHeartbeats 8000000
theorem wlrc_40 : wlRun 40 wl0 = true := by kernel_rfl
theorem wlrc_41 : wlRun 41 wl0 = true := by kernel_rfl
theorem wlrc_42 : wlRun 42 wl0 = true := by kernel_rfl
theorem wlrc_43 : wlRun 43 wl0 = true := by kernel_rfl
theorem wlrc_44 : wlRun 44 wl0 = true := by kernel_rfl
theorem wlrc_45 : wlRun 45 wl0 = true := by kernel_rfl
theorem wlrc_46 : wlRun 46 wl0 = true := by kernel_rfl
theorem wlrc_47 : wlRun 47 wl0 = true := by kernel_rfl
theorem wlrc_48 : wlRun 48 wl0 = true := by kernel_rfl
theorem wlrc_49 : wlRun 49 wl0 = true := by kernel_rfl
theorem wlrc {n : Nat} (h1 : 40 ≤ n) (h2 : n < 50) : wlRun n wl0 = true := by
  obtain ⟨d, rfl⟩ : ∃ d, n = 40 + d := ⟨n - 40, by omega⟩
  match d, (show d < 10 by omega) with
  | 0, _ => exact wlrc_40
  | 1, _ => exact wlrc_41
  | 2, _ => exact wlrc_42
  | 3, _ => exact wlrc_43
  | 4, _ => exact wlrc_44
  | 5, _ => exact wlrc_45
  | 6, _ => exact wlrc_46
  | 7, _ => exact wlrc_47
  | 8, _ => exact wlrc_48
  | 9, _ => exact wlrc_49
  | d + 10, h => exact absurd h (by omega)
end Go.Proofs.Ytedfbamihjnhhaa.Own
