/- Lists as long as they may: the runs of one case, 16 of them. -/
import Derived.Test.YtedfbamihjnhhaaWlK
namespace Go.Proofs.Ytedfbamihjnhhaa.Own
open Go Go.RowKit Go.Proofs Go.Proofs.Ytedfbamihjnhhaa.Plain
set_option maxRecDepth 100000
set_option maxHeartbeats 8000000
theorem wlrg_34 : wlRun 34 wl2 = true := by kernel_rfl
theorem wlrg_35 : wlRun 35 wl2 = true := by kernel_rfl
theorem wlrg_36 : wlRun 36 wl2 = true := by kernel_rfl
theorem wlrg_37 : wlRun 37 wl2 = true := by kernel_rfl
theorem wlrg_38 : wlRun 38 wl2 = true := by kernel_rfl
theorem wlrg_39 : wlRun 39 wl2 = true := by kernel_rfl
theorem wlrg_40 : wlRun 40 wl2 = true := by kernel_rfl
theorem wlrg_41 : wlRun 41 wl2 = true := by kernel_rfl
theorem wlrg_42 : wlRun 42 wl2 = true := by kernel_rfl
theorem wlrg_43 : wlRun 43 wl2 = true := by kernel_rfl
theorem wlrg_44 : wlRun 44 wl2 = true := by kernel_rfl
theorem wlrg_45 : wlRun 45 wl2 = true := by kernel_rfl
theorem wlrg_46 : wlRun 46 wl2 = true := by kernel_rfl
theorem wlrg_47 : wlRun 47 wl2 = true := by kernel_rfl
theorem wlrg_48 : wlRun 48 wl2 = true := by kernel_rfl
theorem wlrg_49 : wlRun 49 wl2 = true := by kernel_rfl
theorem wlrg {n : Nat} (h1 : 34 ≤ n) (h2 : n < 50) : wlRun n wl2 = true := by
  obtain ⟨d, rfl⟩ : ∃ d, n = 34 + d := ⟨n - 34, by omega⟩
  match d, (show d < 16 by omega) with
  | 0, _ => exact wlrg_34
  | 1, _ => exact wlrg_35
  | 2, _ => exact wlrg_36
  | 3, _ => exact wlrg_37
  | 4, _ => exact wlrg_38
  | 5, _ => exact wlrg_39
  | 6, _ => exact wlrg_40
  | 7, _ => exact wlrg_41
  | 8, _ => exact wlrg_42
  | 9, _ => exact wlrg_43
  | 10, _ => exact wlrg_44
  | 11, _ => exact wlrg_45
  | 12, _ => exact wlrg_46
  | 13, _ => exact wlrg_47
  | 14, _ => exact wlrg_48
  | 15, _ => exact wlrg_49
  | d + 16, h => exact absurd h (by omega)
end Go.Proofs.Ytedfbamihjnhhaa.Own
