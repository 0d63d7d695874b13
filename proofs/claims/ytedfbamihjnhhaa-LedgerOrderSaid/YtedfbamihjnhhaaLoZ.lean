/- In whatever order bodies stand: for every input. -/
import Derived.Test.YtedfbamihjnhhaaRowS
import Derived.Test.YtedfbamihjnhhaaLoY
import Derived.Test.YtedfbamihjnhhaaLoKa
import Derived.Test.YtedfbamihjnhhaaLoKb
import Derived.Test.YtedfbamihjnhhaaLoKc
import Derived.Test.YtedfbamihjnhhaaLoKd
import Derived.Test.YtedfbamihjnhhaaLoKe
import Derived.Test.YtedfbamihjnhhaaLoKf
import Derived.Test.YtedfbamihjnhhaaLoKg
namespace Go.Proofs.Ytedfbamihjnhhaa.Own
open Go Go.RowKit Go.Proofs Go.Proofs.Ytedfbamihjnhhaa.Plain
set_option linter.unusedVariables false
theorem lo_any {n r : Nat} {last : Bool} (hn : 0 < n ∧ n ≤ 12) (hr : r < n) (hl : n < 12 → last = false) : loB n r last = true := by
  by_cases h12 : n = 12
  · subst h12
    cases last
    · exact lo_12_f hr
    · exact lo_12_t hr
  · rw [hl (by omega)]
    have : n = 1 ∨ n = 2 ∨ n = 3 ∨ n = 4 ∨ n = 5 ∨ n = 6 ∨ n = 7 ∨ n = 8 ∨ n = 9 ∨ n = 10 ∨ n = 11 := by omega
    rcases this with rfl | rfl | rfl | rfl | rfl | rfl | rfl | rfl | rfl | rfl | rfl
    · exact lo_1_f hr
    · exact lo_2_f hr
    · exact lo_3_f hr
    · exact lo_4_f hr
    · exact lo_5_f hr
    · exact lo_6_f hr
    · exact lo_7_f hr
    · exact lo_8_f hr
    · exact lo_9_f hr
    · exact lo_10_f hr
    · exact lo_11_f hr
theorem lo_law {W : World} {v : Value} {xs : List Int} {how t : Int} (h : SlI W .u8 v xs) (wh : (Lit.int .u8 how).wf = true) (wt : (Lit.int .u8 t).wf = true) :
    Calls Try.prog 4 #[v, .int .u8 how, .int .u8 t] W fun e w' => e = .returned (.bool true) ∧ Below W.heap.size W w' := by
  obtain ⟨a, cap, rfl, hcap, hc63, hwf, hor⟩ := h
  have hh := u8_of_wf wh
  have ht := u8_of_wf wt
  by_cases h4 : xs.length < 4
  · exact lo_none hh ht h4
  rcases hor with rfl | ⟨b, off, rfl, hcell⟩
  · simp at h4
  have hn : 0 < min 12 (xs.length / 4) ∧ min 12 (xs.length / 4) ≤ 12 := by omega
  have hn4 : 4 * min 12 (xs.length / 4) ≤ xs.length := by omega
  have hr0 : 0 ≤ t % ((min 12 (xs.length / 4) : Nat) : Int) := Int.emod_nonneg _ (by omega)
  have hr1 : t % ((min 12 (xs.length / 4) : Nat) : Int) < ((min 12 (xs.length / 4) : Nat) : Int) := Int.emod_lt_of_pos _ (by omega)
  have hb : b < W.heap.size := World.block_lt_of_cell? W _ (hcell 0 (by omega))
  generalize hN : min 12 (xs.length / 4) = n at *
  exact lo_case (n := n) (r := (t % (n : Int)).toNat) (last := decide (4 * n + 3 < xs.length)) (lo_any hn (by omega) (fun h12 => decide_eq_false (by omega))) hh ht hn (by omega) (by omega) hn4 rfl
    (fun i hi => by
      have hlt : i < xs.length := by omega
      rw [List.getD_eq_getElem?_getD, List.getElem?_eq_getElem hlt]
      exact u8_of_wf (hwf _ (List.getElem_mem hlt))) hb (fun i hi => hcell i (by omega))
end Go.Proofs.Ytedfbamihjnhhaa.Own
