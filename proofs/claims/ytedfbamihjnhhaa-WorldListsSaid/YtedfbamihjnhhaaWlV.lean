/- Lists as long as they may: the law. -/
import Derived.Test.YtedfbamihjnhhaaWlRa
import Derived.Test.YtedfbamihjnhhaaWlRb
import Derived.Test.YtedfbamihjnhhaaWlRc
import Derived.Test.YtedfbamihjnhhaaWlRd
import Derived.Test.YtedfbamihjnhhaaWlRe
import Derived.Test.YtedfbamihjnhhaaWlRf
import Derived.Test.YtedfbamihjnhhaaWlRg
import Derived.Test.YtedfbamihjnhhaaWlM
namespace Go.Proofs.Ytedfbamihjnhhaa.Own
open Go Go.RowKit Go.Proofs Go.Proofs.Ytedfbamihjnhhaa.Plain
set_option linter.unusedVariables false
set_option linter.unusedSimpArgs false
set_option maxRecDepth 100000
theorem wl0_all {n : Nat} (h : n < 50) : wlRun n wl0 = true := by
  by_cases h1 : n < 30
  · exact wlra (by omega) h1
  by_cases h2 : n < 40
  · exact wlrb (by omega) h2
  exact wlrc (by omega) h
theorem wl1_all {n : Nat} (h : n < 50) : wlRun n wl1 = true := by
  by_cases h1 : n < 34
  · exact wlrd (by omega) h1
  exact wlre (by omega) h
theorem wl2_all {n : Nat} (h : n < 50) : wlRun n wl2 = true := by
  by_cases h1 : n < 34
  · exact wlrf (by omega) h1
  exact wlrg (by omega) h
theorem wl_law {a0 a1 : Int} (h0 : 0 ≤ a0 ∧ a0 < 256) (h1 : 0 ≤ a1 ∧ a1 < 65536) (W : World) : Calls Try.prog 6 #[.int .u8 a0, .int .u16 a1] W fun en w' => en = .returned (.bool true) ∧ Below W.heap.size W w' := by
  have hus : RelVs (eV (envOf (FT Wl3_T) [a0, a1])) [] wlA [.int .u8 a0, .int .u16 a1] := .cons (.one (rel_num rfl (wl_u8 h0))) (.cons (.one (rel_num rfl (wl_u16 h1))) .nil)
  have hF : FR (bW.loops Wl3_L).P (eV (envOf (FT Wl3_T) [a0, a1])) [] [[]] W := ⟨fun _ _ _ _ h => (by cases h), fun _ _ _ _ h => (by cases h)⟩
  have go : ∀ (T : LT) (ds : List (SE × Bool)), checkK (bW.loops Wl3_L) Wl3_T wlK 300 6 wlA [] 0 T ds = true → Knows (envOf (FT Wl3_T) [a0, a1]) ds → T.ok (envOf (FT Wl3_T) [a0, a1]) → Calls Try.prog 6 #[.int .u8 a0, .int .u16 a1] W fun en w' => en = .returned (.bool true) ∧ Below W.heap.size W w' :=
    law_soundK (b := bW.loops Wl3_L) (Tb := Wl3_T) (K := wlK) (loops_ok bW_ok _) wlK_ok (lb_of Wl3_lb) Wl3_ok (E := envOf (FT Wl3_T) [a0, a1]) rfl (σ := []) rfl hus hF
  have q : ∀ n : Int, 0 ≤ n → n < 4 → ((wlQ n).val (envOf (FT Wl3_T) [a0, a1]) != 0) = decide (a0 % 4 = n) := wlQ_val h0
  have b : ∀ i : Nat, i < 100 → ((wlB i).val (envOf (FT Wl3_T) [a0, a1]) != 0) = decide ((i : Int) < a1 % 50) := wlB_val h1
  have ask : ∀ cs : List (SE × Bool), (∀ p ∈ cs, isBool p.1 = true ∧ (p.1.val (envOf (FT Wl3_T) [a0, a1]) != 0) = p.2) → wlRun (a1 % 50).toNat cs = true → Calls Try.prog 6 #[.int .u8 a0, .int .u16 a1] W fun en w' => en = .returned (.bool true) ∧ Below W.heap.size W w' := fun cs hcs hr => by
    refine go .done _ hr (knows_of fun p hp => ?_) trivial
    rcases List.mem_append.1 hp with hp | hp
    · simp only [wlD, List.mem_cons, List.mem_map, List.mem_range] at hp
      rcases hp with rfl | ⟨i, hi, rfl⟩
      · exact ⟨rfl, (b _ (by omega)).trans (decide_eq_false (by omega))⟩
      · exact ⟨rfl, (b i (by omega)).trans (decide_eq_true (by omega))⟩
    · exact hcs p hp
  have hn : (a1 % 50).toNat < 50 := by omega
  by_cases c0 : a0 % 4 = 0
  · refine ask wl0 (fun p hp => ?_) (wl0_all hn)
    simp only [wl0, List.mem_cons, List.not_mem_nil, or_false] at hp
    subst hp
    exact ⟨rfl, (q 0 (by omega) (by omega)).trans (decide_eq_true c0)⟩
  by_cases c1 : a0 % 4 = 1
  · refine ask wl1 (fun p hp => ?_) (wl1_all hn)
    simp only [wl1, List.mem_cons, List.not_mem_nil, or_false] at hp
    rcases hp with rfl | rfl
    · exact ⟨rfl, (q 1 (by omega) (by omega)).trans (decide_eq_true c1)⟩
    · exact ⟨rfl, (q 0 (by omega) (by omega)).trans (decide_eq_false c0)⟩
  by_cases c2 : a0 % 4 = 2
  · refine ask wl2 (fun p hp => ?_) (wl2_all hn)
    simp only [wl2, List.mem_cons, List.not_mem_nil, or_false] at hp
    rcases hp with rfl | rfl | rfl
    · exact ⟨rfl, (q 2 (by omega) (by omega)).trans (decide_eq_true c2)⟩
    · exact ⟨rfl, (q 1 (by omega) (by omega)).trans (decide_eq_false c1)⟩
    · exact ⟨rfl, (q 0 (by omega) (by omega)).trans (decide_eq_false c0)⟩
  refine go wlT3 wl3 wl3_check (knows_of fun p hp => ?_) (wlT3_ok h1)
  simp only [wl3, List.mem_cons, List.not_mem_nil, or_false] at hp
  rcases hp with rfl | rfl | rfl
  · exact ⟨rfl, (q 2 (by omega) (by omega)).trans (decide_eq_false c2)⟩
  · exact ⟨rfl, (q 1 (by omega) (by omega)).trans (decide_eq_false c1)⟩
  · exact ⟨rfl, (q 0 (by omega) (by omega)).trans (decide_eq_false c0)⟩
end Go.Proofs.Ytedfbamihjnhhaa.Own
