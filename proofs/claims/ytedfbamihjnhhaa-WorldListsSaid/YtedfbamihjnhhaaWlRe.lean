/- Lists as long as they may: the runs of one case, 16 of them. -/
import Derived.Test.YtedfbamihjnhhaaWlK
namespace Go.Proofs.Ytedfbamihjnhhaa.Own
open Go Go.RowKit Go.Proofs Go.Proofs.Ytedfbamihjnhhaa.Plain
set_option maxRecDepth 100000
set_option maxHeartbeats 8000000
theorem wlre_34 : wlRun 34 wl1 = true := by kernel_rfl
theorem wlre_35 : wlRun 35 wl1 = true := by kernel_rfl
theorem wlre_36 : wlRun 36 wl1 = true := by kernel_rfl
theorem wlre_37 : wlRun 37 wl1 = true := by kernel_rfl
theorem wlre_38 : wlRun 38 wl1 = true := by kernel_rfl
theorem wlre_39 : wlRun 39 wl1 = true := by kernel_rfl
theorem wlre_40 : wlRun 40 wl1 = true := by kernel_rfl
theorem wlre_41 : wlRun 41 wl1 = true := by kernel_rfl
theorem wlre_42 : wlRun 42 wl1 = true := by kernel_rfl
theorem wlre_43 : wlRun 43 wl1 = true := by kernel_rfl
theorem wlre_44 : wlRun 44 wl1 = true := by kernel_rfl
theorem wlre_45 : wlRun 45 wl1 = true := by kernel_rfl
theorem wlre_46 : wlRun 46 wl1 = true := by kernel_rfl
theorem wlre_47 : wlRun 47 wl1 = true := by kernel_rfl
theorem wlre_48 : wlRun 48 wl1 = true := by kernel_rfl
theorem wlre_49 : wlRun 49 wl1 = true := by kernel_rfl
theorem wlre {n : Nat} (h1 : 34 ≤ n) (h2 : n < 50) : wlRun n wl1 = true := by
  obtain ⟨d, rfl⟩ : ∃ d, n = 34 + d := ⟨n - 34, by omega⟩
  match d, (show d < 16 by omega) with
  | 0, _ => exact wlre_34
  | 1, _ => exact wlre_35
  | 2, _ => exact wlre_36
  | 3, _ => exact wlre_37
  | 4, _ => exact wlre_38
  | 5, _ => exact wlre_39
  | 6, _ => exact wlre_40
  | 7, _ => exact wlre_41
  | 8, _ => exact wlre_42
  | 9, _ => exact wlre_43
  | 10, _ => exact wlre_44
  | 11, _ => exact wlre_45
  | 12, _ => exact wlre_46
  | 13, _ => exact wlre_47
  | 14, _ => exact wlre_48
  | 15, _ => exact wlre_49
  | d + 16, h => exact absurd h (by omega)
end Go.Proofs.Ytedfbamihjnhhaa.Own
