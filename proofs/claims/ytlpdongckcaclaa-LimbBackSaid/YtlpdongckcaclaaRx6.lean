/- Functions of the translation as plain Lean functions, and their walks: written by a program of this session's on the kit's print, for this seat. -/
import Derived.Test.YtlpdongckcaclaaRx0
import Derived.Test.YtlpdongckcaclaaRx1
import Derived.Test.YtlpdongckcaclaaRx4
import Derived.Test.YtlpdongckcaclaaRx5
namespace Go.Proofs.Ytlpdongckcaclaa.R
open Go.RowKit Go.Proofs.Ytlpdongckcaclaa.Limb Go.Proofs.Ytlpdongckcaclaa.Plain Go.Proofs.YtlpdongckcaclaaW.PrintWords Go.Proofs.YtlpdongckcaclaaW.PrintLast Go.Proofs.YtlpdongckcaclaaW.PrintMore
attribute [local go_sem] max2_int min2_int max_two min_two max_three min_three max_four min_four   -- for this text's walks alone
set_option linter.unusedVariables false
set_option linter.unusedSimpArgs false

attribute [local go_sem high] eqA24
/-! ### perigeelaw1_LimbAdds: function 4 -/
def perigeelaw1_LimbAdds.f (k : Nat) (a0_0 : Int) (a0_1 : Int) (a1_0 : Int) (a1_1 : Int) : Option (Bool) := (limb_Add.f a0_0 a0_1 a1_0 a1_1).bind fun bt144 => ((limb_Sub.f a0_0 a0_1 a1_0 a1_1).bind fun bt148 => ((perigeeref1_AddTwo.f a0_0 a0_1 a1_0 a1_1).bind fun bt152 => ((perigeeref1_SubTwo.f a0_0 a0_1 a1_0 a1_1).bind fun bt155 => (if (bt144.1 == bt152.1 && (bt144.2.1 == bt152.2.1)) = true then (if (bt144.2.2 == bt152.2.2) = true then (if (bt148.1 == bt155.1 && (bt148.2.1 == bt155.2.1)) = true then (if (bt148.2.2 == bt155.2.2) = true then ((perigeelaw1_awake.f k).bind fun t160 => (some t160)) else (none)) else (none)) else (none)) else (none)))))
theorem perigeelaw1_LimbAdds.mono : ∀ a0 a1 a2 a3 k, LeO (perigeelaw1_LimbAdds.f k a0 a1 a2 a3) (perigeelaw1_LimbAdds.f (k + 1) a0 a1 a2 a3) := by
  intro a0 a1 a2 a3 k
  unfold perigeelaw1_LimbAdds.f
  repeat' first
      | (with_reducible exact perigeelaw1_awake.mono _)
      | (with_reducible exact LeO.refl _)
      | (with_reducible exact LeO.none _)
      | (with_reducible refine LeO.ite ?_ ?_)
      | (with_reducible refine LeO.bind ?_ (fun _ => ?_))
      | exact perigeelaw1_awake.mono _
      | exact LeO.none _
      | refine LeO.ite ?_ ?_
      | refine LeO.bind ?_ (fun _ => ?_)
def perigeelaw1_LimbAdds.T3 : Bool × List (List Nat × List Nat) := (true, [([], []), ([], []), ([0, 1], [0, 1]), ([], []), ([], []), ([3, 4, 2], [3, 4]), ([], []), ([], []), ([6, 2, 5, 0, 1, 2, 6, 7], [2, 6]), ([7, 5, 8, 0, 1, 2, 3, 4, 5, 6, 7, 8], [5, 7])])
def perigeelaw1_LimbAdds.B3 : List Nat := [0, 0, 3, 0, 0, 31, 0, 0, 255, 511]
theorem perigeelaw1_LimbAdds.tab3 : rtab .any (opsOf Try.f4 3) = perigeelaw1_LimbAdds.T3 := by kernel_rfl
theorem perigeelaw1_LimbAdds.bits3 : waitsOk perigeelaw1_LimbAdds.T3.2 perigeelaw1_LimbAdds.B3 = true := by kernel_rfl
set_option maxHeartbeats 8000000 in
set_option maxRecDepth 100000 in
theorem perigeelaw1_LimbAdds.calls (k : Nat) (a0_0 : Int) (a0_1 : Int) (a1_0 : Int) (a1_1 : Int) (r : Bool) (w : World) (h : perigeelaw1_LimbAdds.f k a0_0 a0_1 a1_0 a1_1 = some r) :
    Calls Try.prog 4 #[.agg #[.int .u64 a0_0, .int .u64 a0_1], .agg #[.int .u64 a1_0, .int .u64 a1_1]] w fun e w' => e = .returned (.bool r) ∧ Below w.heap.size w w' := by
  have hu24 := Try.underlying24
  have hu38 := Try.underlying38
  have HB := Aside0.mk (Below.refl w.heap.size w)
  have H : ((limb_Add.f a0_0 a0_1 a1_0 a1_1).bind fun bt144 => ((limb_Sub.f a0_0 a0_1 a1_0 a1_1).bind fun bt148 => ((perigeeref1_AddTwo.f a0_0 a0_1 a1_0 a1_1).bind fun bt152 => ((perigeeref1_SubTwo.f a0_0 a0_1 a1_0 a1_1).bind fun bt155 => (if (bt144.1 == bt152.1 && (bt144.2.1 == bt152.2.1)) = true then (if (bt144.2.2 == bt152.2.2) = true then (if (bt148.1 == bt155.1 && (bt148.2.1 == bt155.2.1)) = true then (if (bt148.2.2 == bt155.2.2) = true then ((perigeelaw1_awake.f k).bind fun t160 => (some t160)) else (none)) else (none)) else (none)) else (none)))))) = some r := h
  clear h
  replace H := Option.bind_eq_some_iff.mp H
  obtain ⟨⟨t144, t145, t146⟩, A30, H⟩ := H
  replace H : ((limb_Sub.f a0_0 a0_1 a1_0 a1_1).bind fun bt148 => ((perigeeref1_AddTwo.f a0_0 a0_1 a1_0 a1_1).bind fun bt152 => ((perigeeref1_SubTwo.f a0_0 a0_1 a1_0 a1_1).bind fun bt155 => (if (t144 == bt152.1 && (t145 == bt152.2.1)) = true then (if (t146 == bt152.2.2) = true then (if (bt148.1 == bt155.1 && (bt148.2.1 == bt155.2.1)) = true then (if (bt148.2.2 == bt155.2.2) = true then ((perigeelaw1_awake.f k).bind fun t160 => (some t160)) else (none)) else (none)) else (none)) else (none))))) = some r := H
  have A3 := Aside0.mk A30
  clear A30
  replace H := Option.bind_eq_some_iff.mp H
  obtain ⟨⟨t148, t149, t150⟩, A40, H⟩ := H
  replace H : ((perigeeref1_AddTwo.f a0_0 a0_1 a1_0 a1_1).bind fun bt152 => ((perigeeref1_SubTwo.f a0_0 a0_1 a1_0 a1_1).bind fun bt155 => (if (t144 == bt152.1 && (t145 == bt152.2.1)) = true then (if (t146 == bt152.2.2) = true then (if (t148 == bt155.1 && (t149 == bt155.2.1)) = true then (if (t150 == bt155.2.2) = true then ((perigeelaw1_awake.f k).bind fun t160 => (some t160)) else (none)) else (none)) else (none)) else (none)))) = some r := H
  have A4 := Aside0.mk A40
  clear A40
  replace H := Option.bind_eq_some_iff.mp H
  obtain ⟨⟨t152, t153, t154⟩, A50, H⟩ := H
  replace H : ((perigeeref1_SubTwo.f a0_0 a0_1 a1_0 a1_1).bind fun bt155 => (if (t144 == t152 && (t145 == t153)) = true then (if (t146 == t154) = true then (if (t148 == bt155.1 && (t149 == bt155.2.1)) = true then (if (t150 == bt155.2.2) = true then ((perigeelaw1_awake.f k).bind fun t160 => (some t160)) else (none)) else (none)) else (none)) else (none))) = some r := H
  have A5 := Aside0.mk A50
  clear A50
  replace H := Option.bind_eq_some_iff.mp H
  obtain ⟨⟨t155, t156, t157⟩, A60, H⟩ := H
  replace H : (if (t144 == t152 && (t145 == t153)) = true then (if (t146 == t154) = true then (if (t148 == t155 && (t149 == t156)) = true then (if (t150 == t157) = true then ((perigeelaw1_awake.f k).bind fun t160 => (some t160)) else (none)) else (none)) else (none)) else (none)) = some r := H
  have A6 := Aside0.mk A60
  clear A60
  by_cases c7 : (t144 == t152 && (t145 == t153)) = true
  · rw [if_pos c7] at H
    have c7b0 : (t144 == t152 && (t145 == t153)) = true := c7
    (try (have c7b1 : decide (t144 = t152 && (t145 == t153)) = true := by simpa using c7))
    (try (have c7b2 : (t144 == t152 && (t145 == t153)) = true := by simpa using c7))
    clear c7
    by_cases c8 : (t146 == t154) = true
    · rw [if_pos c8] at H
      have c8b0 : (t146 == t154) = true := c8
      (try (have c8b1 : decide (t146 = t154) = true := by simpa using c8))
      (try (have c8b2 : (t146 == t154) = true := by simpa using c8))
      clear c8
      by_cases c9 : (t148 == t155 && (t149 == t156)) = true
      · rw [if_pos c9] at H
        have c9b0 : (t148 == t155 && (t149 == t156)) = true := c9
        (try (have c9b1 : decide (t148 = t155 && (t149 == t156)) = true := by simpa using c9))
        (try (have c9b2 : (t148 == t155 && (t149 == t156)) = true := by simpa using c9))
        clear c9
        by_cases c10 : (t150 == t157) = true
        · rw [if_pos c10] at H
          have c10b0 : (t150 == t157) = true := c10
          (try (have c10b1 : decide (t150 = t157) = true := by simpa using c10))
          (try (have c10b2 : (t150 == t157) = true := by simpa using c10))
          clear c10
          replace H := Option.bind_eq_some_iff.mp H
          obtain ⟨t160, A110, H⟩ := H
          replace H : (some t160) = some r := H
          have A11 := Aside0.mk A110
          clear A110
          obtain rfl := Option.some.inj H
          go_enter Try.func4, Try.ntmps4
          try go_wp2_with (first | ((with_reducible refine gate_dst (N := 2) rfl ?_); refine box_event ?hg (N := 2) ?hd (cs := #[.int .u64 a0_0, .int .u64 a0_1]) (t := 24) ?hr ?_; (case hd => rfl); (case hg => rfl); (case hr => first | (go_simp; done) | (go_simp; rfl)); intro gb142 hg w12 hbox hb; have n0_ := Aside0.mk (below_step (by repeat (first | (with_reducible first | exact HB.out | apply below_alloc | apply pw_below_drewN | apply below_drew1) | exact HB.out)) hb); have n1_ := Aside0.mk (hbox); have n2_ := Aside0.mk ((by rw [hg]; exact (below_size (by repeat (first | (with_reducible first | exact HB.out | apply below_alloc | apply pw_below_drewN | apply below_drew1) | exact HB.out))) : w.heap.size ≤ gb142)); have n3_ := Aside0.mk ((by rw [hg]; exact (below_size (by repeat (first | (with_reducible first | exact HB.out | apply below_alloc | apply pw_below_drewN | apply below_drew1) | exact HB.out))) : w.heap.size ≤ gb142)); clear HB; have HB := n0_; have BK142 := n1_; have GW142 := n2_; have GE142 := n3_; clear n0_ n1_ n2_ n3_; clear hb hbox hg) | ((with_reducible refine gate_dst (N := 3) rfl ?_); refine box_event ?hg (N := 3) ?hd (cs := #[.int .u64 a1_0, .int .u64 a1_1]) (t := 24) ?hr ?_; (case hd => rfl); (case hg => rfl); (case hr => first | (go_simp; done) | (go_simp; rfl)); intro gb143 hg w13 hbox hb; have n0_ := Aside0.mk (blk_below (g := gb142) (o := .cells #[.int .u64 a0_0, .int .u64 a0_1] 24 (0, 0)) (by (with_reducible repeat (first | refine blk_drewN ?_ _ | refine blk_drew ?_ | refine blk_alloc ?_ _)); exact BK142.out) hb); have n1_ := Aside0.mk (below_step (by repeat (first | (with_reducible first | exact HB.out | apply below_alloc | apply pw_below_drewN | apply below_drew1 | refine below_set ?_ GE142.out) | exact HB.out)) hb); have n2_ := Aside0.mk (hbox); have n3_ := Aside0.mk ((by rw [hg]; exact (below_size (by repeat (first | (with_reducible first | exact HB.out | apply below_alloc | apply pw_below_drewN | apply below_drew1 | refine below_set ?_ GE142.out) | exact HB.out))) : w.heap.size ≤ gb143)); have n4_ := Aside0.mk ((by rw [hg]; exact (below_size (by repeat (first | (with_reducible first | exact HB.out | apply below_alloc | apply pw_below_drewN | apply below_drew1 | refine below_set ?_ GE142.out) | exact HB.out))) : w.heap.size ≤ gb143)); have n5_ := Aside0.mk ((by rw [hg]; exact Nat.ne_of_lt (blk_lt (g := gb142) (o := .cells #[.int .u64 a0_0, .int .u64 a0_1] 24 (0, 0)) (by (with_reducible repeat (first | refine blk_drewN ?_ _ | refine blk_drew ?_ | refine blk_alloc ?_ _)); exact BK142.out)) : gb142 ≠ gb143)); have n6_ := Aside0.mk ((by rw [hg]; exact Nat.ne_of_gt (blk_lt (g := gb142) (o := .cells #[.int .u64 a0_0, .int .u64 a0_1] 24 (0, 0)) (by (with_reducible repeat (first | refine blk_drewN ?_ _ | refine blk_drew ?_ | refine blk_alloc ?_ _)); exact BK142.out)) : gb143 ≠ gb142)); clear BK142; clear HB; have BK142 := n0_; have HB := n1_; have BK143 := n2_; have GW143 := n3_; have GE143 := n4_; have NB142_143 := n5_; have NB143_142 := n6_; clear n0_ n1_ n2_ n3_ n4_ n5_ n6_; clear hb hbox hg; have hnb14 := NB142_143.out; have hnc14 := NB143_142.out; have hcz15_0 : w13.cell? ⟨gb142, 0, none⟩ = some (.int .u64 a0_0) := (blk_cell BK142.out 0).trans rfl; have hcz15_1 : w13.cell? ⟨gb142, 1, none⟩ = some (.int .u64 a0_1) := (blk_cell BK142.out 1).trans rfl; have hfz15_0 := blk_frozen BK142.out 0; have hfz15_1 := blk_frozen BK142.out 1; have hcz16_0 : w13.cell? ⟨gb143, 0, none⟩ = some (.int .u64 a1_0) := (blk_cell BK143.out 0).trans rfl; have hcz16_1 : w13.cell? ⟨gb143, 1, none⟩ = some (.int .u64 a1_1) := (blk_cell BK143.out 1).trans rfl; have hfz16_0 := blk_frozen BK143.out 0; have hfz16_1 := blk_frozen BK143.out 1) | ((with_reducible refine gate_callee (f := 17) rfl ?_); refine goesL_ (some 14) rfl rfl Try.func17 (by kernel_rfl) rfl #[.agg #[.int .u64 a0_0, .int .u64 a0_1], .agg #[.int .u64 a1_0, .int .u64 a1_1]] rfl (by (try simp only [List.map_toArray, List.map_cons, List.map_nil]); first | done | rfl | (simp only [List.length_drop, List.length_take]; rfl)) ?_; (with_reducible refine (limb_Add.calls a0_0 a0_1 a1_0 a1_1 t144 t145 t146 _ A3.out).mono ?_); rintro e w17 ⟨rfl, hb⟩; refine ⟨_, rfl, ?_⟩; have n0_ := Aside0.mk (blk_below (g := gb142) (o := .cells #[.int .u64 a0_0, .int .u64 a0_1] 24 (0, 0)) (by (with_reducible repeat (first | refine blk_drewN ?_ _ | refine blk_drew ?_ | refine blk_alloc ?_ _)); exact BK142.out) hb); have n1_ := Aside0.mk (blk_below (g := gb143) (o := .cells #[.int .u64 a1_0, .int .u64 a1_1] 24 (0, 0)) (by (with_reducible repeat (first | refine blk_drewN ?_ _ | refine blk_drew ?_ | refine blk_alloc ?_ _)); exact BK143.out) hb); have n2_ := Aside0.mk (below_step (by repeat (first | (with_reducible first | exact HB.out | apply below_alloc | apply pw_below_drewN | apply below_drew1 | refine below_set ?_ GE142.out | refine below_set ?_ GE143.out) | exact HB.out)) hb); clear BK142; clear BK143; clear HB; have BK142 := n0_; have BK143 := n1_; have HB := n2_; clear n0_ n1_ n2_; (try clear hb); (try clear hb2); (try clear hk); (try clear hi)) | ((with_reducible refine gate_dst (N := 5) rfl ?_); refine box_event ?hg (N := 5) ?hd (cs := #[.int .u64 0, .int .u64 0]) (t := 24) ?hr ?_; (case hd => rfl); (case hg => rfl); (case hr => first | (go_simp; done) | (go_simp; rfl)); intro gb147 hg w18 hbox hb; have n0_ := Aside0.mk (blk_below (g := gb142) (o := .cells #[.int .u64 a0_0, .int .u64 a0_1] 24 (0, 0)) (by (with_reducible repeat (first | refine blk_drewN ?_ _ | refine blk_drew ?_ | refine blk_alloc ?_ _)); exact BK142.out) hb); have n1_ := Aside0.mk (blk_below (g := gb143) (o := .cells #[.int .u64 a1_0, .int .u64 a1_1] 24 (0, 0)) (by (with_reducible repeat (first | refine blk_drewN ?_ _ | refine blk_drew ?_ | refine blk_alloc ?_ _)); exact BK143.out) hb); have n2_ := Aside0.mk (below_step (by repeat (first | (with_reducible first | exact HB.out | apply below_alloc | apply pw_below_drewN | apply below_drew1 | refine below_set ?_ GE142.out | refine below_set ?_ GE143.out) | exact HB.out)) hb); have n3_ := Aside0.mk (hbox); have n4_ := Aside0.mk ((by rw [hg]; exact (below_size (by repeat (first | (with_reducible first | exact HB.out | apply below_alloc | apply pw_below_drewN | apply below_drew1 | refine below_set ?_ GE142.out | refine below_set ?_ GE143.out) | exact HB.out))) : w.heap.size ≤ gb147)); have n5_ := Aside0.mk ((by rw [hg]; exact (below_size (by repeat (first | (with_reducible first | exact HB.out | apply below_alloc | apply pw_below_drewN | apply below_drew1 | refine below_set ?_ GE142.out | refine below_set ?_ GE143.out) | exact HB.out))) : w.heap.size ≤ gb147)); have n6_ := Aside0.mk ((by rw [hg]; exact Nat.ne_of_lt (blk_lt (g := gb142) (o := .cells #[.int .u64 a0_0, .int .u64 a0_1] 24 (0, 0)) (by (with_reducible repeat (first | refine blk_drewN ?_ _ | refine blk_drew ?_ | refine blk_alloc ?_ _)); exact BK142.out)) : gb142 ≠ gb147)); have n7_ := Aside0.mk ((by rw [hg]; exact Nat.ne_of_gt (blk_lt (g := gb142) (o := .cells #[.int .u64 a0_0, .int .u64 a0_1] 24 (0, 0)) (by (with_reducible repeat (first | refine blk_drewN ?_ _ | refine blk_drew ?_ | refine blk_alloc ?_ _)); exact BK142.out)) : gb147 ≠ gb142)); have n8_ := Aside0.mk ((by rw [hg]; exact Nat.ne_of_lt (blk_lt (g := gb143) (o := .cells #[.int .u64 a1_0, .int .u64 a1_1] 24 (0, 0)) (by (with_reducible repeat (first | refine blk_drewN ?_ _ | refine blk_drew ?_ | refine blk_alloc ?_ _)); exact BK143.out)) : gb143 ≠ gb147)); have n9_ := Aside0.mk ((by rw [hg]; exact Nat.ne_of_gt (blk_lt (g := gb143) (o := .cells #[.int .u64 a1_0, .int .u64 a1_1] 24 (0, 0)) (by (with_reducible repeat (first | refine blk_drewN ?_ _ | refine blk_drew ?_ | refine blk_alloc ?_ _)); exact BK143.out)) : gb147 ≠ gb143)); clear BK142; clear BK143; clear HB; have BK142 := n0_; have BK143 := n1_; have HB := n2_; have BK147 := n3_; have GW147 := n4_; have GE147 := n5_; have NB142_147 := n6_; have NB147_142 := n7_; have NB143_147 := n8_; have NB147_143 := n9_; clear n0_ n1_ n2_ n3_ n4_ n5_ n6_ n7_ n8_ n9_; clear hb hbox hg; have hnb19 := NB147_142.out; have hnc19 := NB142_147.out; have hnb20 := NB147_143.out; have hnc20 := NB143_147.out; have hcz21_0 : w18.cell? ⟨gb147, 0, none⟩ = some (.int .u64 0) := (blk_cell BK147.out 0).trans rfl; have hcz21_1 : w18.cell? ⟨gb147, 1, none⟩ = some (.int .u64 0) := (blk_cell BK147.out 1).trans rfl; have hfz21_0 := blk_frozen BK147.out 0; have hfz21_1 := blk_frozen BK147.out 1; have hcz22_0 : w18.cell? ⟨gb142, 0, none⟩ = some (.int .u64 a0_0) := (blk_cell BK142.out 0).trans rfl; have hcz22_1 : w18.cell? ⟨gb142, 1, none⟩ = some (.int .u64 a0_1) := (blk_cell BK142.out 1).trans rfl; have hfz22_0 := blk_frozen BK142.out 0; have hfz22_1 := blk_frozen BK142.out 1; have hcz23_0 : w18.cell? ⟨gb143, 0, none⟩ = some (.int .u64 a1_0) := (blk_cell BK143.out 0).trans rfl; have hcz23_1 : w18.cell? ⟨gb143, 1, none⟩ = some (.int .u64 a1_1) := (blk_cell BK143.out 1).trans rfl; have hfz23_0 := blk_frozen BK143.out 0; have hfz23_1 := blk_frozen BK143.out 1) | ((with_reducible refine gate_callee (f := 18) rfl ?_); refine goesL_ (some 20) rfl rfl Try.func18 (by kernel_rfl) rfl #[.agg #[.int .u64 a0_0, .int .u64 a0_1], .agg #[.int .u64 a1_0, .int .u64 a1_1]] rfl (by (try simp only [List.map_toArray, List.map_cons, List.map_nil]); first | done | rfl | (simp only [List.length_drop, List.length_take]; rfl)) ?_; (with_reducible refine (limb_Sub.calls a0_0 a0_1 a1_0 a1_1 t148 t149 t150 _ A4.out).mono ?_); rintro e w24 ⟨rfl, hb⟩; refine ⟨_, rfl, ?_⟩; have n0_ := Aside0.mk (blk_below (g := gb142) (o := .cells #[.int .u64 a0_0, .int .u64 a0_1] 24 (0, 0)) (by (with_reducible repeat (first | refine blk_drewN ?_ _ | refine blk_drew ?_ | refine blk_alloc ?_ _)); refine blk_far ?_ NB142_147.out _; (with_reducible repeat (first | refine blk_drewN ?_ _ | refine blk_drew ?_ | refine blk_alloc ?_ _)); refine blk_far ?_ NB142_147.out _; (with_reducible repeat (first | refine blk_drewN ?_ _ | refine blk_drew ?_ | refine blk_alloc ?_ _)); exact BK142.out) hb); have n1_ := Aside0.mk (blk_below (g := gb143) (o := .cells #[.int .u64 a1_0, .int .u64 a1_1] 24 (0, 0)) (by (with_reducible repeat (first | refine blk_drewN ?_ _ | refine blk_drew ?_ | refine blk_alloc ?_ _)); refine blk_far ?_ NB143_147.out _; (with_reducible repeat (first | refine blk_drewN ?_ _ | refine blk_drew ?_ | refine blk_alloc ?_ _)); refine blk_far ?_ NB143_147.out _; (with_reducible repeat (first | refine blk_drewN ?_ _ | refine blk_drew ?_ | refine blk_alloc ?_ _)); exact BK143.out) hb); have n2_ := Aside0.mk (blk_below (g := gb147) (o := .cells #[.int .u64 t144, .int .u64 t145] 24 (0, 0)) (by (with_reducible repeat (first | refine blk_drewN ?_ _ | refine blk_drew ?_ | refine blk_alloc ?_ _)); refine blk_put (cs := #[.int .u64 t144, .int .u64 0]) ?_ 1 _ rfl; (with_reducible repeat (first | refine blk_drewN ?_ _ | refine blk_drew ?_ | refine blk_alloc ?_ _)); refine blk_put (cs := #[.int .u64 0, .int .u64 0]) ?_ 0 _ rfl; (with_reducible repeat (first | refine blk_drewN ?_ _ | refine blk_drew ?_ | refine blk_alloc ?_ _)); exact BK147.out) hb); have n3_ := Aside0.mk (below_step (by repeat (first | (with_reducible first | exact HB.out | apply below_alloc | apply pw_below_drewN | apply below_drew1 | refine below_set ?_ GE142.out | refine below_set ?_ GE143.out | refine below_set ?_ GE147.out) | exact HB.out)) hb); clear BK142; clear BK143; clear BK147; clear HB; have BK142 := n0_; have BK143 := n1_; have BK147 := n2_; have HB := n3_; clear n0_ n1_ n2_ n3_; (try clear hb); (try clear hb2); (try clear hk); (try clear hi)) | ((with_reducible refine gate_dst (N := 7) rfl ?_); refine box_event ?hg (N := 7) ?hd (cs := #[.int .u64 0, .int .u64 0]) (t := 24) ?hr ?_; (case hd => rfl); (case hg => rfl); (case hr => first | (go_simp; done) | (go_simp; rfl)); intro gb151 hg w25 hbox hb; have n0_ := Aside0.mk (blk_below (g := gb142) (o := .cells #[.int .u64 a0_0, .int .u64 a0_1] 24 (0, 0)) (by (with_reducible repeat (first | refine blk_drewN ?_ _ | refine blk_drew ?_ | refine blk_alloc ?_ _)); exact BK142.out) hb); have n1_ := Aside0.mk (blk_below (g := gb143) (o := .cells #[.int .u64 a1_0, .int .u64 a1_1] 24 (0, 0)) (by (with_reducible repeat (first | refine blk_drewN ?_ _ | refine blk_drew ?_ | refine blk_alloc ?_ _)); exact BK143.out) hb); have n2_ := Aside0.mk (blk_below (g := gb147) (o := .cells #[.int .u64 t144, .int .u64 t145] 24 (0, 0)) (by (with_reducible repeat (first | refine blk_drewN ?_ _ | refine blk_drew ?_ | refine blk_alloc ?_ _)); exact BK147.out) hb); have n3_ := Aside0.mk (below_step (by repeat (first | (with_reducible first | exact HB.out | apply below_alloc | apply pw_below_drewN | apply below_drew1 | refine below_set ?_ GE142.out | refine below_set ?_ GE143.out | refine below_set ?_ GE147.out) | exact HB.out)) hb); have n4_ := Aside0.mk (hbox); have n5_ := Aside0.mk ((by rw [hg]; exact (below_size (by repeat (first | (with_reducible first | exact HB.out | apply below_alloc | apply pw_below_drewN | apply below_drew1 | refine below_set ?_ GE142.out | refine below_set ?_ GE143.out | refine below_set ?_ GE147.out) | exact HB.out))) : w.heap.size ≤ gb151)); have n6_ := Aside0.mk ((by rw [hg]; exact (below_size (by repeat (first | (with_reducible first | exact HB.out | apply below_alloc | apply pw_below_drewN | apply below_drew1 | refine below_set ?_ GE142.out | refine below_set ?_ GE143.out | refine below_set ?_ GE147.out) | exact HB.out))) : w.heap.size ≤ gb151)); have n7_ := Aside0.mk ((by rw [hg]; exact Nat.ne_of_lt (blk_lt (g := gb142) (o := .cells #[.int .u64 a0_0, .int .u64 a0_1] 24 (0, 0)) (by (with_reducible repeat (first | refine blk_drewN ?_ _ | refine blk_drew ?_ | refine blk_alloc ?_ _)); exact BK142.out)) : gb142 ≠ gb151)); have n8_ := Aside0.mk ((by rw [hg]; exact Nat.ne_of_gt (blk_lt (g := gb142) (o := .cells #[.int .u64 a0_0, .int .u64 a0_1] 24 (0, 0)) (by (with_reducible repeat (first | refine blk_drewN ?_ _ | refine blk_drew ?_ | refine blk_alloc ?_ _)); exact BK142.out)) : gb151 ≠ gb142)); have n9_ := Aside0.mk ((by rw [hg]; exact Nat.ne_of_lt (blk_lt (g := gb143) (o := .cells #[.int .u64 a1_0, .int .u64 a1_1] 24 (0, 0)) (by (with_reducible repeat (first | refine blk_drewN ?_ _ | refine blk_drew ?_ | refine blk_alloc ?_ _)); exact BK143.out)) : gb143 ≠ gb151)); have n10_ := Aside0.mk ((by rw [hg]; exact Nat.ne_of_gt (blk_lt (g := gb143) (o := .cells #[.int .u64 a1_0, .int .u64 a1_1] 24 (0, 0)) (by (with_reducible repeat (first | refine blk_drewN ?_ _ | refine blk_drew ?_ | refine blk_alloc ?_ _)); exact BK143.out)) : gb151 ≠ gb143)); have n11_ := Aside0.mk ((by rw [hg]; exact Nat.ne_of_lt (blk_lt (g := gb147) (o := .cells #[.int .u64 t144, .int .u64 t145] 24 (0, 0)) (by (with_reducible repeat (first | refine blk_drewN ?_ _ | refine blk_drew ?_ | refine blk_alloc ?_ _)); exact BK147.out)) : gb147 ≠ gb151)); have n12_ := Aside0.mk ((by rw [hg]; exact Nat.ne_of_gt (blk_lt (g := gb147) (o := .cells #[.int .u64 t144, .int .u64 t145] 24 (0, 0)) (by (with_reducible repeat (first | refine blk_drewN ?_ _ | refine blk_drew ?_ | refine blk_alloc ?_ _)); exact BK147.out)) : gb151 ≠ gb147)); clear BK142; clear BK143; clear BK147; clear HB; have BK142 := n0_; have BK143 := n1_; have BK147 := n2_; have HB := n3_; have BK151 := n4_; have GW151 := n5_; have GE151 := n6_; have NB142_151 := n7_; have NB151_142 := n8_; have NB143_151 := n9_; have NB151_143 := n10_; have NB147_151 := n11_; have NB151_147 := n12_; clear n0_ n1_ n2_ n3_ n4_ n5_ n6_ n7_ n8_ n9_ n10_ n11_ n12_; clear hb hbox hg; have hnb26 := NB151_142.out; have hnc26 := NB142_151.out; have hnb27 := NB151_143.out; have hnc27 := NB143_151.out; have hnb28 := NB151_147.out; have hnc28 := NB147_151.out; have hcz29_0 : w25.cell? ⟨gb151, 0, none⟩ = some (.int .u64 0) := (blk_cell BK151.out 0).trans rfl; have hcz29_1 : w25.cell? ⟨gb151, 1, none⟩ = some (.int .u64 0) := (blk_cell BK151.out 1).trans rfl; have hfz29_0 := blk_frozen BK151.out 0; have hfz29_1 := blk_frozen BK151.out 1))
          have n0_ : Aside0 (((w25.setCell ⟨gb151, 0, none⟩ (.int .u64 t148)).setCell ⟨gb151, 1, none⟩ (.int .u64 t149)).heap[gb142]? = some (.cells #[.int .u64 a0_0, .int .u64 a0_1] 24 (0, 0))) := ⟨by (with_reducible repeat (first | refine blk_drewN ?_ _ | refine blk_drew ?_ | refine blk_alloc ?_ _)); refine blk_far ?_ NB142_151.out _; (with_reducible repeat (first | refine blk_drewN ?_ _ | refine blk_drew ?_ | refine blk_alloc ?_ _)); refine blk_far ?_ NB142_151.out _; (with_reducible repeat (first | refine blk_drewN ?_ _ | refine blk_drew ?_ | refine blk_alloc ?_ _)); exact BK142.out⟩
          have n1_ : Aside0 (((w25.setCell ⟨gb151, 0, none⟩ (.int .u64 t148)).setCell ⟨gb151, 1, none⟩ (.int .u64 t149)).heap[gb143]? = some (.cells #[.int .u64 a1_0, .int .u64 a1_1] 24 (0, 0))) := ⟨by (with_reducible repeat (first | refine blk_drewN ?_ _ | refine blk_drew ?_ | refine blk_alloc ?_ _)); refine blk_far ?_ NB143_151.out _; (with_reducible repeat (first | refine blk_drewN ?_ _ | refine blk_drew ?_ | refine blk_alloc ?_ _)); refine blk_far ?_ NB143_151.out _; (with_reducible repeat (first | refine blk_drewN ?_ _ | refine blk_drew ?_ | refine blk_alloc ?_ _)); exact BK143.out⟩
          have n2_ : Aside0 (((w25.setCell ⟨gb151, 0, none⟩ (.int .u64 t148)).setCell ⟨gb151, 1, none⟩ (.int .u64 t149)).heap[gb147]? = some (.cells #[.int .u64 t144, .int .u64 t145] 24 (0, 0))) := ⟨by (with_reducible repeat (first | refine blk_drewN ?_ _ | refine blk_drew ?_ | refine blk_alloc ?_ _)); refine blk_far ?_ NB147_151.out _; (with_reducible repeat (first | refine blk_drewN ?_ _ | refine blk_drew ?_ | refine blk_alloc ?_ _)); refine blk_far ?_ NB147_151.out _; (with_reducible repeat (first | refine blk_drewN ?_ _ | refine blk_drew ?_ | refine blk_alloc ?_ _)); exact BK147.out⟩
          have n3_ : Aside0 (((w25.setCell ⟨gb151, 0, none⟩ (.int .u64 t148)).setCell ⟨gb151, 1, none⟩ (.int .u64 t149)).heap[gb151]? = some (.cells #[.int .u64 t148, .int .u64 t149] 24 (0, 0))) := ⟨by (with_reducible repeat (first | refine blk_drewN ?_ _ | refine blk_drew ?_ | refine blk_alloc ?_ _)); refine blk_put (cs := #[.int .u64 t148, .int .u64 0]) ?_ 1 _ rfl; (with_reducible repeat (first | refine blk_drewN ?_ _ | refine blk_drew ?_ | refine blk_alloc ?_ _)); refine blk_put (cs := #[.int .u64 0, .int .u64 0]) ?_ 0 _ rfl; (with_reducible repeat (first | refine blk_drewN ?_ _ | refine blk_drew ?_ | refine blk_alloc ?_ _)); exact BK151.out⟩
          have n4_ : Aside0 (Below w.heap.size w ((w25.setCell ⟨gb151, 0, none⟩ (.int .u64 t148)).setCell ⟨gb151, 1, none⟩ (.int .u64 t149))) := ⟨by repeat (first | (with_reducible first | exact HB.out | apply below_alloc | apply pw_below_drewN | apply below_drew1 | refine below_set ?_ GE142.out | refine below_set ?_ GE143.out | refine below_set ?_ GE147.out | refine below_set ?_ GE151.out) | exact HB.out)⟩
          (try clear BK142)
          (try clear BK143)
          (try clear BK147)
          (try clear BK151)
          (try clear HB)
          generalize ((w25.setCell ⟨gb151, 0, none⟩ (.int .u64 t148)).setCell ⟨gb151, 1, none⟩ (.int .u64 t149)) = w30 at n0_ n1_ n2_ n3_ n4_ ⊢
          have BK142 := n0_
          have BK143 := n1_
          have BK147 := n2_
          have BK151 := n3_
          have HB := n4_
          clear n0_ n1_ n2_ n3_ n4_
          have n0_ := Aside0.mk (blk_drew BK142.out)
          have n1_ := Aside0.mk (blk_drew BK143.out)
          have n2_ := Aside0.mk (blk_drew BK147.out)
          have n3_ := Aside0.mk (blk_drew BK151.out)
          have n4_ := Aside0.mk (below_drew1 HB.out)
          clear BK142
          clear BK143
          clear BK147
          clear BK151
          clear HB
          have BK142 := n0_
          have BK143 := n1_
          have BK147 := n2_
          have BK151 := n3_
          have HB := n4_
          clear n0_ n1_ n2_ n3_ n4_
          refine start_ (n := 10) (S := fun w' => w'.cell? ⟨gb142, 0, none⟩ = some (.int .u64 a0_0) ∧ w'.cell? ⟨gb142, 1, none⟩ = some (.int .u64 a0_1) ∧ w'.cell? ⟨gb143, 0, none⟩ = some (.int .u64 a1_0) ∧ w'.cell? ⟨gb143, 1, none⟩ = some (.int .u64 a1_1)) (ds := []) (bA 10 0) (by kernel_rfl) rfl rfl ⟨(blk_cell BK142.out 0).trans rfl, (blk_cell BK142.out 1).trans rfl, (blk_cell BK143.out 0).trans rfl, (blk_cell BK143.out 1).trans rfl⟩ (fun hHeld => ?_); refine with_tabW perigeelaw1_LimbAdds.tab3 perigeelaw1_LimbAdds.bits3 (fun HT_ HW_ => ?_)
          generalize w30.drew = w31 at BK142 BK143 BK147 BK151 HB hHeld ⊢
          refine take_ (i := 0) (N := some 23) (v := ?_) (a' := ?_) (bA 10 1) rfl rfl (take_ofW HT_.out HW_.out (by kernel_rfl)) (fun _ _ _ h => h) (Or.inl ⟨by rfl, ?_⟩) hHeld ?_ ?_
          rotate_left
          · rintro w' ⟨s0, s1, s2, s3⟩
            go_simp
            with_reducible rfl
          rotate_left
          · simp only [Act.put, List.setIfInBounds_toArray, List.set_cons_zero, List.set_cons_succ, i64_w, i32_w]
            rfl
          refine take_ (i := 1) (N := some 24) (v := ?_) (a' := ?_) (bA 10 3) rfl rfl (take_ofW HT_.out HW_.out (by kernel_rfl)) (fun _ _ _ h => h) (Or.inl ⟨by rfl, ?_⟩) hHeld ?_ ?_
          rotate_left
          · rintro w' ⟨s0, s1, s2, s3⟩
            go_simp
            with_reducible rfl
          rotate_left
          · simp only [Act.put, List.setIfInBounds_toArray, List.set_cons_zero, List.set_cons_succ, i64_w, i32_w]
            rfl
          refine take_ (i := 3) (N := some 26) (v := ?_) (a' := ?_) (bA 10 11) rfl rfl (take_ofW HT_.out HW_.out (by kernel_rfl)) (fun _ _ _ h => h) (Or.inl ⟨by rfl, ?_⟩) hHeld ?_ ?_
          rotate_left
          · rintro w' ⟨s0, s1, s2, s3⟩
            go_simp
            with_reducible rfl
          rotate_left
          · simp only [Act.put, List.setIfInBounds_toArray, List.set_cons_zero, List.set_cons_succ, i64_w, i32_w]
            rfl
          refine take_ (i := 4) (N := some 27) (v := ?_) (a' := ?_) (bA 10 27) rfl rfl (take_ofW HT_.out HW_.out (by kernel_rfl)) (fun _ _ _ h => h) (Or.inl ⟨by rfl, ?_⟩) hHeld ?_ ?_
          rotate_left
          · rintro w' ⟨s0, s1, s2, s3⟩
            go_simp
            with_reducible rfl
          rotate_left
          · simp only [Act.put, List.setIfInBounds_toArray, List.set_cons_zero, List.set_cons_succ, i64_w, i32_w]
            rfl
          refine join_ (σ := Nat × Nat) 2 (bA 10 255) (fun s_ => [(25, .agg #[.int .u64 t152, .int .u64 t153, .bool t154]), (28, .agg #[.int .u64 t155, .int .u64 t156, .bool t157]), (9, .pointer (some ⟨s_.1, 0, none⟩)), (10, .pointer (some ⟨s_.2, 0, none⟩))]) (fun s_ w' => (w'.cell? ⟨gb142, 0, none⟩ = some (.int .u64 a0_0) ∧ w'.cell? ⟨gb142, 1, none⟩ = some (.int .u64 a0_1) ∧ w'.cell? ⟨gb143, 0, none⟩ = some (.int .u64 a1_0) ∧ w'.cell? ⟨gb143, 1, none⟩ = some (.int .u64 a1_1)) ∧ (w'.heap[gb142]? = some (.cells #[.int .u64 a0_0, .int .u64 a0_1] 24 (0, 0))) ∧ (w'.heap[gb143]? = some (.cells #[.int .u64 a1_0, .int .u64 a1_1] 24 (0, 0))) ∧ (w'.heap[gb147]? = some (.cells #[.int .u64 t144, .int .u64 t145] 24 (0, 0))) ∧ (w'.heap[gb151]? = some (.cells #[.int .u64 t148, .int .u64 t149] 24 (0, 0))) ∧ (w'.heap[s_.1]? = some (.cells #[.int .u64 0, .int .u64 0, .bool false] 38 (0, 0))) ∧ (w'.heap[s_.2]? = some (.cells #[.int .u64 0, .int .u64 0, .bool false] 38 (0, 0))) ∧ (w.heap.size ≤ s_.1) ∧ (w.heap.size ≤ s_.1) ∧ (gb142 ≠ s_.1) ∧ (s_.1 ≠ gb142) ∧ (gb143 ≠ s_.1) ∧ (s_.1 ≠ gb143) ∧ (gb147 ≠ s_.1) ∧ (s_.1 ≠ gb147) ∧ (gb151 ≠ s_.1) ∧ (s_.1 ≠ gb151) ∧ (s_.2 ≠ s_.1) ∧ (s_.1 ≠ s_.2) ∧ (w.heap.size ≤ s_.2) ∧ (w.heap.size ≤ s_.2) ∧ (gb142 ≠ s_.2) ∧ (s_.2 ≠ gb142) ∧ (gb143 ≠ s_.2) ∧ (s_.2 ≠ gb143) ∧ (gb147 ≠ s_.2) ∧ (s_.2 ≠ gb147) ∧ (gb151 ≠ s_.2) ∧ (s_.2 ≠ gb151) ∧ (Below w.heap.size w w')) ?_ ?_
          rotate_left
          · intro hJ2_5_6_7
            refine join_ (σ := Nat) 3 (bA 10 127) (fun s_ => [(25, .agg #[.int .u64 t152, .int .u64 t153, .bool t154]), (28, .agg #[.int .u64 t155, .int .u64 t156, .bool t157]), (9, .pointer (some ⟨s_, 0, none⟩))]) (fun s_ w' => (w'.cell? ⟨gb142, 0, none⟩ = some (.int .u64 a0_0) ∧ w'.cell? ⟨gb142, 1, none⟩ = some (.int .u64 a0_1) ∧ w'.cell? ⟨gb143, 0, none⟩ = some (.int .u64 a1_0) ∧ w'.cell? ⟨gb143, 1, none⟩ = some (.int .u64 a1_1)) ∧ (w'.heap[gb142]? = some (.cells #[.int .u64 a0_0, .int .u64 a0_1] 24 (0, 0))) ∧ (w'.heap[gb143]? = some (.cells #[.int .u64 a1_0, .int .u64 a1_1] 24 (0, 0))) ∧ (w'.heap[gb147]? = some (.cells #[.int .u64 t144, .int .u64 t145] 24 (0, 0))) ∧ (w'.heap[gb151]? = some (.cells #[.int .u64 t148, .int .u64 t149] 24 (0, 0))) ∧ (w'.heap[s_]? = some (.cells #[.int .u64 0, .int .u64 0, .bool false] 38 (0, 0))) ∧ (w.heap.size ≤ s_) ∧ (w.heap.size ≤ s_) ∧ (gb142 ≠ s_) ∧ (s_ ≠ gb142) ∧ (gb143 ≠ s_) ∧ (s_ ≠ gb143) ∧ (gb147 ≠ s_) ∧ (s_ ≠ gb147) ∧ (gb151 ≠ s_) ∧ (s_ ≠ gb151) ∧ (Below w.heap.size w w')) ?_ ?_
            rotate_left
            · intro hJ2_5_6
              refine join_ (σ := Nat) 3 (bA 10 191) (fun s_ => [(25, .agg #[.int .u64 t152, .int .u64 t153, .bool t154]), (28, .agg #[.int .u64 t155, .int .u64 t156, .bool t157]), (10, .pointer (some ⟨s_, 0, none⟩))]) (fun s_ w' => (w'.cell? ⟨gb142, 0, none⟩ = some (.int .u64 a0_0) ∧ w'.cell? ⟨gb142, 1, none⟩ = some (.int .u64 a0_1) ∧ w'.cell? ⟨gb143, 0, none⟩ = some (.int .u64 a1_0) ∧ w'.cell? ⟨gb143, 1, none⟩ = some (.int .u64 a1_1)) ∧ (w'.heap[gb142]? = some (.cells #[.int .u64 a0_0, .int .u64 a0_1] 24 (0, 0))) ∧ (w'.heap[gb143]? = some (.cells #[.int .u64 a1_0, .int .u64 a1_1] 24 (0, 0))) ∧ (w'.heap[gb147]? = some (.cells #[.int .u64 t144, .int .u64 t145] 24 (0, 0))) ∧ (w'.heap[gb151]? = some (.cells #[.int .u64 t148, .int .u64 t149] 24 (0, 0))) ∧ (w'.heap[s_]? = some (.cells #[.int .u64 0, .int .u64 0, .bool false] 38 (0, 0))) ∧ (w.heap.size ≤ s_) ∧ (w.heap.size ≤ s_) ∧ (gb142 ≠ s_) ∧ (s_ ≠ gb142) ∧ (gb143 ≠ s_) ∧ (s_ ≠ gb143) ∧ (gb147 ≠ s_) ∧ (s_ ≠ gb147) ∧ (gb151 ≠ s_) ∧ (s_ ≠ gb151) ∧ (Below w.heap.size w w')) ?_ ?_
              rotate_left
              · intro hJ2_5_7
                refine join_ (σ := Nat × Nat) 3 (bA 10 223) (fun s_ => [(25, .agg #[.int .u64 t152, .int .u64 t153, .bool t154]), (9, .pointer (some ⟨s_.1, 0, none⟩)), (10, .pointer (some ⟨s_.2, 0, none⟩))]) (fun s_ w' => (w'.cell? ⟨gb142, 0, none⟩ = some (.int .u64 a0_0) ∧ w'.cell? ⟨gb142, 1, none⟩ = some (.int .u64 a0_1) ∧ w'.cell? ⟨gb143, 0, none⟩ = some (.int .u64 a1_0) ∧ w'.cell? ⟨gb143, 1, none⟩ = some (.int .u64 a1_1)) ∧ (w'.heap[gb142]? = some (.cells #[.int .u64 a0_0, .int .u64 a0_1] 24 (0, 0))) ∧ (w'.heap[gb143]? = some (.cells #[.int .u64 a1_0, .int .u64 a1_1] 24 (0, 0))) ∧ (w'.heap[gb147]? = some (.cells #[.int .u64 t144, .int .u64 t145] 24 (0, 0))) ∧ (w'.heap[gb151]? = some (.cells #[.int .u64 t148, .int .u64 t149] 24 (0, 0))) ∧ (w'.heap[s_.1]? = some (.cells #[.int .u64 0, .int .u64 0, .bool false] 38 (0, 0))) ∧ (w'.heap[s_.2]? = some (.cells #[.int .u64 0, .int .u64 0, .bool false] 38 (0, 0))) ∧ (w.heap.size ≤ s_.1) ∧ (w.heap.size ≤ s_.1) ∧ (gb142 ≠ s_.1) ∧ (s_.1 ≠ gb142) ∧ (gb143 ≠ s_.1) ∧ (s_.1 ≠ gb143) ∧ (gb147 ≠ s_.1) ∧ (s_.1 ≠ gb147) ∧ (gb151 ≠ s_.1) ∧ (s_.1 ≠ gb151) ∧ (s_.2 ≠ s_.1) ∧ (s_.1 ≠ s_.2) ∧ (w.heap.size ≤ s_.2) ∧ (w.heap.size ≤ s_.2) ∧ (gb142 ≠ s_.2) ∧ (s_.2 ≠ gb142) ∧ (gb143 ≠ s_.2) ∧ (s_.2 ≠ gb143) ∧ (gb147 ≠ s_.2) ∧ (s_.2 ≠ gb147) ∧ (gb151 ≠ s_.2) ∧ (s_.2 ≠ gb151) ∧ (Below w.heap.size w w')) ?_ ?_
                rotate_left
                · intro hJ2_6_7
                  refine join_ (σ := Unit) 4 (bA 10 63) (fun s_ => [(25, .agg #[.int .u64 t152, .int .u64 t153, .bool t154]), (28, .agg #[.int .u64 t155, .int .u64 t156, .bool t157])]) (fun s_ w' => (w'.cell? ⟨gb142, 0, none⟩ = some (.int .u64 a0_0) ∧ w'.cell? ⟨gb142, 1, none⟩ = some (.int .u64 a0_1) ∧ w'.cell? ⟨gb143, 0, none⟩ = some (.int .u64 a1_0) ∧ w'.cell? ⟨gb143, 1, none⟩ = some (.int .u64 a1_1)) ∧ (w'.heap[gb142]? = some (.cells #[.int .u64 a0_0, .int .u64 a0_1] 24 (0, 0))) ∧ (w'.heap[gb143]? = some (.cells #[.int .u64 a1_0, .int .u64 a1_1] 24 (0, 0))) ∧ (w'.heap[gb147]? = some (.cells #[.int .u64 t144, .int .u64 t145] 24 (0, 0))) ∧ (w'.heap[gb151]? = some (.cells #[.int .u64 t148, .int .u64 t149] 24 (0, 0))) ∧ (Below w.heap.size w w')) ?_ ?_
                  rotate_left
                  · intro hJ2_5
                    refine join_ (σ := Nat) 4 (bA 10 95) (fun s_ => [(25, .agg #[.int .u64 t152, .int .u64 t153, .bool t154]), (9, .pointer (some ⟨s_, 0, none⟩))]) (fun s_ w' => (w'.cell? ⟨gb142, 0, none⟩ = some (.int .u64 a0_0) ∧ w'.cell? ⟨gb142, 1, none⟩ = some (.int .u64 a0_1) ∧ w'.cell? ⟨gb143, 0, none⟩ = some (.int .u64 a1_0) ∧ w'.cell? ⟨gb143, 1, none⟩ = some (.int .u64 a1_1)) ∧ (w'.heap[gb142]? = some (.cells #[.int .u64 a0_0, .int .u64 a0_1] 24 (0, 0))) ∧ (w'.heap[gb143]? = some (.cells #[.int .u64 a1_0, .int .u64 a1_1] 24 (0, 0))) ∧ (w'.heap[gb147]? = some (.cells #[.int .u64 t144, .int .u64 t145] 24 (0, 0))) ∧ (w'.heap[gb151]? = some (.cells #[.int .u64 t148, .int .u64 t149] 24 (0, 0))) ∧ (w'.heap[s_]? = some (.cells #[.int .u64 0, .int .u64 0, .bool false] 38 (0, 0))) ∧ (w.heap.size ≤ s_) ∧ (w.heap.size ≤ s_) ∧ (gb142 ≠ s_) ∧ (s_ ≠ gb142) ∧ (gb143 ≠ s_) ∧ (s_ ≠ gb143) ∧ (gb147 ≠ s_) ∧ (s_ ≠ gb147) ∧ (gb151 ≠ s_) ∧ (s_ ≠ gb151) ∧ (Below w.heap.size w w')) ?_ ?_
                    rotate_left
                    · intro hJ2_6
                      refine join_ (σ := Nat) 4 (bA 10 159) (fun s_ => [(25, .agg #[.int .u64 t152, .int .u64 t153, .bool t154]), (10, .pointer (some ⟨s_, 0, none⟩))]) (fun s_ w' => (w'.cell? ⟨gb142, 0, none⟩ = some (.int .u64 a0_0) ∧ w'.cell? ⟨gb142, 1, none⟩ = some (.int .u64 a0_1) ∧ w'.cell? ⟨gb143, 0, none⟩ = some (.int .u64 a1_0) ∧ w'.cell? ⟨gb143, 1, none⟩ = some (.int .u64 a1_1)) ∧ (w'.heap[gb142]? = some (.cells #[.int .u64 a0_0, .int .u64 a0_1] 24 (0, 0))) ∧ (w'.heap[gb143]? = some (.cells #[.int .u64 a1_0, .int .u64 a1_1] 24 (0, 0))) ∧ (w'.heap[gb147]? = some (.cells #[.int .u64 t144, .int .u64 t145] 24 (0, 0))) ∧ (w'.heap[gb151]? = some (.cells #[.int .u64 t148, .int .u64 t149] 24 (0, 0))) ∧ (w'.heap[s_]? = some (.cells #[.int .u64 0, .int .u64 0, .bool false] 38 (0, 0))) ∧ (w.heap.size ≤ s_) ∧ (w.heap.size ≤ s_) ∧ (gb142 ≠ s_) ∧ (s_ ≠ gb142) ∧ (gb143 ≠ s_) ∧ (s_ ≠ gb143) ∧ (gb147 ≠ s_) ∧ (s_ ≠ gb147) ∧ (gb151 ≠ s_) ∧ (s_ ≠ gb151) ∧ (Below w.heap.size w w')) ?_ ?_
                      rotate_left
                      · intro hJ2_7
                        refine join_ (σ := Nat × Nat) 4 (bA 10 219) (fun s_ => [(9, .pointer (some ⟨s_.1, 0, none⟩)), (10, .pointer (some ⟨s_.2, 0, none⟩))]) (fun s_ w' => (w'.cell? ⟨gb142, 0, none⟩ = some (.int .u64 a0_0) ∧ w'.cell? ⟨gb142, 1, none⟩ = some (.int .u64 a0_1) ∧ w'.cell? ⟨gb143, 0, none⟩ = some (.int .u64 a1_0) ∧ w'.cell? ⟨gb143, 1, none⟩ = some (.int .u64 a1_1)) ∧ (w'.heap[gb142]? = some (.cells #[.int .u64 a0_0, .int .u64 a0_1] 24 (0, 0))) ∧ (w'.heap[gb143]? = some (.cells #[.int .u64 a1_0, .int .u64 a1_1] 24 (0, 0))) ∧ (w'.heap[gb147]? = some (.cells #[.int .u64 t144, .int .u64 t145] 24 (0, 0))) ∧ (w'.heap[gb151]? = some (.cells #[.int .u64 t148, .int .u64 t149] 24 (0, 0))) ∧ (w'.heap[s_.1]? = some (.cells #[.int .u64 0, .int .u64 0, .bool false] 38 (0, 0))) ∧ (w'.heap[s_.2]? = some (.cells #[.int .u64 0, .int .u64 0, .bool false] 38 (0, 0))) ∧ (w.heap.size ≤ s_.1) ∧ (w.heap.size ≤ s_.1) ∧ (gb142 ≠ s_.1) ∧ (s_.1 ≠ gb142) ∧ (gb143 ≠ s_.1) ∧ (s_.1 ≠ gb143) ∧ (gb147 ≠ s_.1) ∧ (s_.1 ≠ gb147) ∧ (gb151 ≠ s_.1) ∧ (s_.1 ≠ gb151) ∧ (s_.2 ≠ s_.1) ∧ (s_.1 ≠ s_.2) ∧ (w.heap.size ≤ s_.2) ∧ (w.heap.size ≤ s_.2) ∧ (gb142 ≠ s_.2) ∧ (s_.2 ≠ gb142) ∧ (gb143 ≠ s_.2) ∧ (s_.2 ≠ gb143) ∧ (gb147 ≠ s_.2) ∧ (s_.2 ≠ gb147) ∧ (gb151 ≠ s_.2) ∧ (s_.2 ≠ gb151) ∧ (Below w.heap.size w w')) ?_ ?_
                        rotate_left
                        · intro hJ6_7
                          refine join_ (σ := Unit) 5 (bA 10 31) (fun s_ => [(25, .agg #[.int .u64 t152, .int .u64 t153, .bool t154])]) (fun s_ w' => (w'.cell? ⟨gb142, 0, none⟩ = some (.int .u64 a0_0) ∧ w'.cell? ⟨gb142, 1, none⟩ = some (.int .u64 a0_1) ∧ w'.cell? ⟨gb143, 0, none⟩ = some (.int .u64 a1_0) ∧ w'.cell? ⟨gb143, 1, none⟩ = some (.int .u64 a1_1)) ∧ (w'.heap[gb142]? = some (.cells #[.int .u64 a0_0, .int .u64 a0_1] 24 (0, 0))) ∧ (w'.heap[gb143]? = some (.cells #[.int .u64 a1_0, .int .u64 a1_1] 24 (0, 0))) ∧ (w'.heap[gb147]? = some (.cells #[.int .u64 t144, .int .u64 t145] 24 (0, 0))) ∧ (w'.heap[gb151]? = some (.cells #[.int .u64 t148, .int .u64 t149] 24 (0, 0))) ∧ (Below w.heap.size w w')) ?_ ?_
                          rotate_left
                          · intro hJ2
                            refine join_ (σ := Nat) 5 (bA 10 91) (fun s_ => [(9, .pointer (some ⟨s_, 0, none⟩))]) (fun s_ w' => (w'.cell? ⟨gb142, 0, none⟩ = some (.int .u64 a0_0) ∧ w'.cell? ⟨gb142, 1, none⟩ = some (.int .u64 a0_1) ∧ w'.cell? ⟨gb143, 0, none⟩ = some (.int .u64 a1_0) ∧ w'.cell? ⟨gb143, 1, none⟩ = some (.int .u64 a1_1)) ∧ (w'.heap[gb142]? = some (.cells #[.int .u64 a0_0, .int .u64 a0_1] 24 (0, 0))) ∧ (w'.heap[gb143]? = some (.cells #[.int .u64 a1_0, .int .u64 a1_1] 24 (0, 0))) ∧ (w'.heap[gb147]? = some (.cells #[.int .u64 t144, .int .u64 t145] 24 (0, 0))) ∧ (w'.heap[gb151]? = some (.cells #[.int .u64 t148, .int .u64 t149] 24 (0, 0))) ∧ (w'.heap[s_]? = some (.cells #[.int .u64 0, .int .u64 0, .bool false] 38 (0, 0))) ∧ (w.heap.size ≤ s_) ∧ (w.heap.size ≤ s_) ∧ (gb142 ≠ s_) ∧ (s_ ≠ gb142) ∧ (gb143 ≠ s_) ∧ (s_ ≠ gb143) ∧ (gb147 ≠ s_) ∧ (s_ ≠ gb147) ∧ (gb151 ≠ s_) ∧ (s_ ≠ gb151) ∧ (Below w.heap.size w w')) ?_ ?_
                            rotate_left
                            · intro hJ6
                              refine join_ (σ := Nat) 5 (bA 10 155) (fun s_ => [(10, .pointer (some ⟨s_, 0, none⟩))]) (fun s_ w' => (w'.cell? ⟨gb142, 0, none⟩ = some (.int .u64 a0_0) ∧ w'.cell? ⟨gb142, 1, none⟩ = some (.int .u64 a0_1) ∧ w'.cell? ⟨gb143, 0, none⟩ = some (.int .u64 a1_0) ∧ w'.cell? ⟨gb143, 1, none⟩ = some (.int .u64 a1_1)) ∧ (w'.heap[gb142]? = some (.cells #[.int .u64 a0_0, .int .u64 a0_1] 24 (0, 0))) ∧ (w'.heap[gb143]? = some (.cells #[.int .u64 a1_0, .int .u64 a1_1] 24 (0, 0))) ∧ (w'.heap[gb147]? = some (.cells #[.int .u64 t144, .int .u64 t145] 24 (0, 0))) ∧ (w'.heap[gb151]? = some (.cells #[.int .u64 t148, .int .u64 t149] 24 (0, 0))) ∧ (w'.heap[s_]? = some (.cells #[.int .u64 0, .int .u64 0, .bool false] 38 (0, 0))) ∧ (w.heap.size ≤ s_) ∧ (w.heap.size ≤ s_) ∧ (gb142 ≠ s_) ∧ (s_ ≠ gb142) ∧ (gb143 ≠ s_) ∧ (s_ ≠ gb143) ∧ (gb147 ≠ s_) ∧ (s_ ≠ gb147) ∧ (gb151 ≠ s_) ∧ (s_ ≠ gb151) ∧ (Below w.heap.size w w')) ?_ ?_
                              rotate_left
                              · intro hJ7
                                refine three_ (i := 2) (j := 6) (k := 7) (Ni := some 25) (Nj := some 9) (Nk := some 10) (bA 10 31) (bA 10 91) (bA 10 155) rfl rfl rfl rfl rfl rfl (three_of HT_.out (by kernel_rfl)) (by decide) (by decide) (by decide) (fun K hK => ?_) (fun K hK => ?_) (fun K hK => ?_)
                                · skip
                                  refine goes_ Try.func19 (by kernel_rfl) rfl #[.agg #[.int .u64 a0_0, .int .u64 a0_1], .agg #[.int .u64 a1_0, .int .u64 a1_1]] (by rfl) rfl rfl (by (try simp only [List.map_toArray, List.map_cons, List.map_nil]); first | done | rfl | (simp only [List.length_drop, List.length_take]; rfl)) ?_
                                  with_reducible refine (perigeeref1_AddTwo.calls a0_0 a0_1 a1_0 a1_1 t152 t153 t154 _ A5.out).mono ?_
                                  rintro e w32 ⟨rfl, hb⟩
                                  refine ⟨_, rfl, ?_⟩
                                  have n0_ := Aside0.mk (blk_below (g := gb142) (o := .cells #[.int .u64 a0_0, .int .u64 a0_1] 24 (0, 0)) (by (with_reducible repeat (first | refine blk_drewN ?_ _ | refine blk_drew ?_ | refine blk_alloc ?_ _)); exact BK142.out) hb)
                                  have n1_ := Aside0.mk (blk_below (g := gb143) (o := .cells #[.int .u64 a1_0, .int .u64 a1_1] 24 (0, 0)) (by (with_reducible repeat (first | refine blk_drewN ?_ _ | refine blk_drew ?_ | refine blk_alloc ?_ _)); exact BK143.out) hb)
                                  have n2_ := Aside0.mk (blk_below (g := gb147) (o := .cells #[.int .u64 t144, .int .u64 t145] 24 (0, 0)) (by (with_reducible repeat (first | refine blk_drewN ?_ _ | refine blk_drew ?_ | refine blk_alloc ?_ _)); exact BK147.out) hb)
                                  have n3_ := Aside0.mk (blk_below (g := gb151) (o := .cells #[.int .u64 t148, .int .u64 t149] 24 (0, 0)) (by (with_reducible repeat (first | refine blk_drewN ?_ _ | refine blk_drew ?_ | refine blk_alloc ?_ _)); exact BK151.out) hb)
                                  have n4_ := Aside0.mk (below_step (by repeat (first | (with_reducible first | exact HB.out | apply below_alloc | apply pw_below_drewN | apply below_drew1 | refine below_set ?_ GE142.out | refine below_set ?_ GE143.out | refine below_set ?_ GE147.out | refine below_set ?_ GE151.out) | exact HB.out)) hb)
                                  clear BK142
                                  clear BK143
                                  clear BK147
                                  clear BK151
                                  clear HB
                                  have BK142 := n0_
                                  have BK143 := n1_
                                  have BK147 := n2_
                                  have BK151 := n3_
                                  have HB := n4_
                                  clear n0_ n1_ n2_ n3_ n4_
                                  (try clear hb)
                                  (try clear hb2)
                                  (try clear hk)
                                  (try clear hi)
                                  refine hK.out _ _ ⟨(blk_cell BK142.out 0).trans rfl, (blk_cell BK142.out 1).trans rfl, (blk_cell BK143.out 0).trans rfl, (blk_cell BK143.out 1).trans rfl⟩ (fun hHeld => ?_)
                                  clear hK K
                                  refine norm_ (a' := ?_) ?_ ?_
                                  rotate_left
                                  · show Act.put _ (some 25) _ = _
                                    simp only [Act.put, List.setIfInBounds_toArray, List.set_cons_zero, List.set_cons_succ, i64_w, i32_w]
                                    rfl
                                  exact norm_ (by first | (simp only [putAll, Act.put, List.setIfInBounds_toArray, List.set_cons_zero, List.set_cons_succ]; done) | (simp only [putAll, Act.put, List.setIfInBounds_toArray, List.set_cons_zero, List.set_cons_succ]; rfl)) (hJ2 () _ ⟨hHeld, (by (with_reducible repeat (first | refine blk_drewN ?_ _ | refine blk_drew ?_ | refine blk_alloc ?_ _)); exact BK142.out), (by (with_reducible repeat (first | refine blk_drewN ?_ _ | refine blk_drew ?_ | refine blk_alloc ?_ _)); exact BK143.out), (by (with_reducible repeat (first | refine blk_drewN ?_ _ | refine blk_drew ?_ | refine blk_alloc ?_ _)); exact BK147.out), (by (with_reducible repeat (first | refine blk_drewN ?_ _ | refine blk_drew ?_ | refine blk_alloc ?_ _)); exact BK151.out), (by repeat (first | (with_reducible first | exact HB.out | apply below_alloc | apply pw_below_drewN | apply below_drew1 | refine below_set ?_ GE142.out | refine below_set ?_ GE143.out | refine below_set ?_ GE147.out | refine below_set ?_ GE151.out) | exact HB.out))⟩)
                                · skip
                                  refine box_step ?hg (N := 9) ?hd (cs := #[.int .u64 0, .int .u64 0, .bool false]) (t := 38) ?hr ?_; (case hd => rfl); (case hg => rfl); (case hr => first | (go_simp; done) | (go_simp; rfl))
                                  intro gb158 hg w32 hbox hb
                                  have n0_ := Aside0.mk (blk_below (g := gb142) (o := .cells #[.int .u64 a0_0, .int .u64 a0_1] 24 (0, 0)) (by (with_reducible repeat (first | refine blk_drewN ?_ _ | refine blk_drew ?_ | refine blk_alloc ?_ _)); exact BK142.out) hb)
                                  have n1_ := Aside0.mk (blk_below (g := gb143) (o := .cells #[.int .u64 a1_0, .int .u64 a1_1] 24 (0, 0)) (by (with_reducible repeat (first | refine blk_drewN ?_ _ | refine blk_drew ?_ | refine blk_alloc ?_ _)); exact BK143.out) hb)
                                  have n2_ := Aside0.mk (blk_below (g := gb147) (o := .cells #[.int .u64 t144, .int .u64 t145] 24 (0, 0)) (by (with_reducible repeat (first | refine blk_drewN ?_ _ | refine blk_drew ?_ | refine blk_alloc ?_ _)); exact BK147.out) hb)
                                  have n3_ := Aside0.mk (blk_below (g := gb151) (o := .cells #[.int .u64 t148, .int .u64 t149] 24 (0, 0)) (by (with_reducible repeat (first | refine blk_drewN ?_ _ | refine blk_drew ?_ | refine blk_alloc ?_ _)); exact BK151.out) hb)
                                  have n4_ := Aside0.mk (below_step (by repeat (first | (with_reducible first | exact HB.out | apply below_alloc | apply pw_below_drewN | apply below_drew1 | refine below_set ?_ GE142.out | refine below_set ?_ GE143.out | refine below_set ?_ GE147.out | refine below_set ?_ GE151.out) | exact HB.out)) hb)
                                  have n5_ := Aside0.mk (hbox)
                                  have n6_ := Aside0.mk ((by rw [hg]; exact (below_size (by repeat (first | (with_reducible first | exact HB.out | apply below_alloc | apply pw_below_drewN | apply below_drew1 | refine below_set ?_ GE142.out | refine below_set ?_ GE143.out | refine below_set ?_ GE147.out | refine below_set ?_ GE151.out) | exact HB.out))) : w.heap.size ≤ gb158))
                                  have n7_ := Aside0.mk ((by rw [hg]; exact (below_size (by repeat (first | (with_reducible first | exact HB.out | apply below_alloc | apply pw_below_drewN | apply below_drew1 | refine below_set ?_ GE142.out | refine below_set ?_ GE143.out | refine below_set ?_ GE147.out | refine below_set ?_ GE151.out) | exact HB.out))) : w.heap.size ≤ gb158))
                                  have n8_ := Aside0.mk ((by rw [hg]; exact Nat.ne_of_lt (blk_lt (g := gb142) (o := .cells #[.int .u64 a0_0, .int .u64 a0_1] 24 (0, 0)) (by (with_reducible repeat (first | refine blk_drewN ?_ _ | refine blk_drew ?_ | refine blk_alloc ?_ _)); exact BK142.out)) : gb142 ≠ gb158))
                                  have n9_ := Aside0.mk ((by rw [hg]; exact Nat.ne_of_gt (blk_lt (g := gb142) (o := .cells #[.int .u64 a0_0, .int .u64 a0_1] 24 (0, 0)) (by (with_reducible repeat (first | refine blk_drewN ?_ _ | refine blk_drew ?_ | refine blk_alloc ?_ _)); exact BK142.out)) : gb158 ≠ gb142))
                                  have n10_ := Aside0.mk ((by rw [hg]; exact Nat.ne_of_lt (blk_lt (g := gb143) (o := .cells #[.int .u64 a1_0, .int .u64 a1_1] 24 (0, 0)) (by (with_reducible repeat (first | refine blk_drewN ?_ _ | refine blk_drew ?_ | refine blk_alloc ?_ _)); exact BK143.out)) : gb143 ≠ gb158))
                                  have n11_ := Aside0.mk ((by rw [hg]; exact Nat.ne_of_gt (blk_lt (g := gb143) (o := .cells #[.int .u64 a1_0, .int .u64 a1_1] 24 (0, 0)) (by (with_reducible repeat (first | refine blk_drewN ?_ _ | refine blk_drew ?_ | refine blk_alloc ?_ _)); exact BK143.out)) : gb158 ≠ gb143))
                                  have n12_ := Aside0.mk ((by rw [hg]; exact Nat.ne_of_lt (blk_lt (g := gb147) (o := .cells #[.int .u64 t144, .int .u64 t145] 24 (0, 0)) (by (with_reducible repeat (first | refine blk_drewN ?_ _ | refine blk_drew ?_ | refine blk_alloc ?_ _)); exact BK147.out)) : gb147 ≠ gb158))
                                  have n13_ := Aside0.mk ((by rw [hg]; exact Nat.ne_of_gt (blk_lt (g := gb147) (o := .cells #[.int .u64 t144, .int .u64 t145] 24 (0, 0)) (by (with_reducible repeat (first | refine blk_drewN ?_ _ | refine blk_drew ?_ | refine blk_alloc ?_ _)); exact BK147.out)) : gb158 ≠ gb147))
                                  have n14_ := Aside0.mk ((by rw [hg]; exact Nat.ne_of_lt (blk_lt (g := gb151) (o := .cells #[.int .u64 t148, .int .u64 t149] 24 (0, 0)) (by (with_reducible repeat (first | refine blk_drewN ?_ _ | refine blk_drew ?_ | refine blk_alloc ?_ _)); exact BK151.out)) : gb151 ≠ gb158))
                                  have n15_ := Aside0.mk ((by rw [hg]; exact Nat.ne_of_gt (blk_lt (g := gb151) (o := .cells #[.int .u64 t148, .int .u64 t149] 24 (0, 0)) (by (with_reducible repeat (first | refine blk_drewN ?_ _ | refine blk_drew ?_ | refine blk_alloc ?_ _)); exact BK151.out)) : gb158 ≠ gb151))
                                  clear BK142
                                  clear BK143
                                  clear BK147
                                  clear BK151
                                  clear HB
                                  have BK142 := n0_
                                  have BK143 := n1_
                                  have BK147 := n2_
                                  have BK151 := n3_
                                  have HB := n4_
                                  have BK158 := n5_
                                  have GW158 := n6_
                                  have GE158 := n7_
                                  have NB142_158 := n8_
                                  have NB158_142 := n9_
                                  have NB143_158 := n10_
                                  have NB158_143 := n11_
                                  have NB147_158 := n12_
                                  have NB158_147 := n13_
                                  have NB151_158 := n14_
                                  have NB158_151 := n15_
                                  clear n0_ n1_ n2_ n3_ n4_ n5_ n6_ n7_ n8_ n9_ n10_ n11_ n12_ n13_ n14_ n15_
                                  clear hb hbox hg
                                  refine hK.out _ _ ⟨(blk_cell BK142.out 0).trans rfl, (blk_cell BK142.out 1).trans rfl, (blk_cell BK143.out 0).trans rfl, (blk_cell BK143.out 1).trans rfl⟩ (fun hHeld => ?_)
                                  clear hK K
                                  refine norm_ (a' := ?_) ?_ ?_
                                  rotate_left
                                  · show Act.put _ (some 9) _ = _
                                    simp only [Act.put, List.setIfInBounds_toArray, List.set_cons_zero, List.set_cons_succ, i64_w, i32_w]
                                    rfl
                                  exact norm_ (by first | (simp only [putAll, Act.put, List.setIfInBounds_toArray, List.set_cons_zero, List.set_cons_succ]; done) | (simp only [putAll, Act.put, List.setIfInBounds_toArray, List.set_cons_zero, List.set_cons_succ]; rfl)) (hJ6 (gb158) _ ⟨hHeld, (by (with_reducible repeat (first | refine blk_drewN ?_ _ | refine blk_drew ?_ | refine blk_alloc ?_ _)); exact BK142.out), (by (with_reducible repeat (first | refine blk_drewN ?_ _ | refine blk_drew ?_ | refine blk_alloc ?_ _)); exact BK143.out), (by (with_reducible repeat (first | refine blk_drewN ?_ _ | refine blk_drew ?_ | refine blk_alloc ?_ _)); exact BK147.out), (by (with_reducible repeat (first | refine blk_drewN ?_ _ | refine blk_drew ?_ | refine blk_alloc ?_ _)); exact BK151.out), (by (with_reducible repeat (first | refine blk_drewN ?_ _ | refine blk_drew ?_ | refine blk_alloc ?_ _)); exact BK158.out), GW158.out, GE158.out, NB142_158.out, NB158_142.out, NB143_158.out, NB158_143.out, NB147_158.out, NB158_147.out, NB151_158.out, NB158_151.out, (by repeat (first | (with_reducible first | exact HB.out | apply below_alloc | apply pw_below_drewN | apply below_drew1 | refine below_set ?_ GE142.out | refine below_set ?_ GE143.out | refine below_set ?_ GE147.out | refine below_set ?_ GE151.out | refine below_set ?_ GE158.out) | exact HB.out))⟩)
                                · skip
                                  refine box_step ?hg (N := 10) ?hd (cs := #[.int .u64 0, .int .u64 0, .bool false]) (t := 38) ?hr ?_; (case hd => rfl); (case hg => rfl); (case hr => first | (go_simp; done) | (go_simp; rfl))
                                  intro gb159 hg w32 hbox hb
                                  have n0_ := Aside0.mk (blk_below (g := gb142) (o := .cells #[.int .u64 a0_0, .int .u64 a0_1] 24 (0, 0)) (by (with_reducible repeat (first | refine blk_drewN ?_ _ | refine blk_drew ?_ | refine blk_alloc ?_ _)); exact BK142.out) hb)
                                  have n1_ := Aside0.mk (blk_below (g := gb143) (o := .cells #[.int .u64 a1_0, .int .u64 a1_1] 24 (0, 0)) (by (with_reducible repeat (first | refine blk_drewN ?_ _ | refine blk_drew ?_ | refine blk_alloc ?_ _)); exact BK143.out) hb)
                                  have n2_ := Aside0.mk (blk_below (g := gb147) (o := .cells #[.int .u64 t144, .int .u64 t145] 24 (0, 0)) (by (with_reducible repeat (first | refine blk_drewN ?_ _ | refine blk_drew ?_ | refine blk_alloc ?_ _)); exact BK147.out) hb)
                                  have n3_ := Aside0.mk (blk_below (g := gb151) (o := .cells #[.int .u64 t148, .int .u64 t149] 24 (0, 0)) (by (with_reducible repeat (first | refine blk_drewN ?_ _ | refine blk_drew ?_ | refine blk_alloc ?_ _)); exact BK151.out) hb)
                                  have n4_ := Aside0.mk (below_step (by repeat (first | (with_reducible first | exact HB.out | apply below_alloc | apply pw_below_drewN | apply below_drew1 | refine below_set ?_ GE142.out | refine below_set ?_ GE143.out | refine below_set ?_ GE147.out | refine below_set ?_ GE151.out) | exact HB.out)) hb)
                                  have n5_ := Aside0.mk (hbox)
                                  have n6_ := Aside0.mk ((by rw [hg]; exact (below_size (by repeat (first | (with_reducible first | exact HB.out | apply below_alloc | apply pw_below_drewN | apply below_drew1 | refine below_set ?_ GE142.out | refine below_set ?_ GE143.out | refine below_set ?_ GE147.out | refine below_set ?_ GE151.out) | exact HB.out))) : w.heap.size ≤ gb159))
                                  have n7_ := Aside0.mk ((by rw [hg]; exact (below_size (by repeat (first | (with_reducible first | exact HB.out | apply below_alloc | apply pw_below_drewN | apply below_drew1 | refine below_set ?_ GE142.out | refine below_set ?_ GE143.out | refine below_set ?_ GE147.out | refine below_set ?_ GE151.out) | exact HB.out))) : w.heap.size ≤ gb159))
                                  have n8_ := Aside0.mk ((by rw [hg]; exact Nat.ne_of_lt (blk_lt (g := gb142) (o := .cells #[.int .u64 a0_0, .int .u64 a0_1] 24 (0, 0)) (by (with_reducible repeat (first | refine blk_drewN ?_ _ | refine blk_drew ?_ | refine blk_alloc ?_ _)); exact BK142.out)) : gb142 ≠ gb159))
                                  have n9_ := Aside0.mk ((by rw [hg]; exact Nat.ne_of_gt (blk_lt (g := gb142) (o := .cells #[.int .u64 a0_0, .int .u64 a0_1] 24 (0, 0)) (by (with_reducible repeat (first | refine blk_drewN ?_ _ | refine blk_drew ?_ | refine blk_alloc ?_ _)); exact BK142.out)) : gb159 ≠ gb142))
                                  have n10_ := Aside0.mk ((by rw [hg]; exact Nat.ne_of_lt (blk_lt (g := gb143) (o := .cells #[.int .u64 a1_0, .int .u64 a1_1] 24 (0, 0)) (by (with_reducible repeat (first | refine blk_drewN ?_ _ | refine blk_drew ?_ | refine blk_alloc ?_ _)); exact BK143.out)) : gb143 ≠ gb159))
                                  have n11_ := Aside0.mk ((by rw [hg]; exact Nat.ne_of_gt (blk_lt (g := gb143) (o := .cells #[.int .u64 a1_0, .int .u64 a1_1] 24 (0, 0)) (by (with_reducible repeat (first | refine blk_drewN ?_ _ | refine blk_drew ?_ | refine blk_alloc ?_ _)); exact BK143.out)) : gb159 ≠ gb143))
                                  have n12_ := Aside0.mk ((by rw [hg]; exact Nat.ne_of_lt (blk_lt (g := gb147) (o := .cells #[.int .u64 t144, .int .u64 t145] 24 (0, 0)) (by (with_reducible repeat (first | refine blk_drewN ?_ _ | refine blk_drew ?_ | refine blk_alloc ?_ _)); exact BK147.out)) : gb147 ≠ gb159))
                                  have n13_ := Aside0.mk ((by rw [hg]; exact Nat.ne_of_gt (blk_lt (g := gb147) (o := .cells #[.int .u64 t144, .int .u64 t145] 24 (0, 0)) (by (with_reducible repeat (first | refine blk_drewN ?_ _ | refine blk_drew ?_ | refine blk_alloc ?_ _)); exact BK147.out)) : gb159 ≠ gb147))
                                  have n14_ := Aside0.mk ((by rw [hg]; exact Nat.ne_of_lt (blk_lt (g := gb151) (o := .cells #[.int .u64 t148, .int .u64 t149] 24 (0, 0)) (by (with_reducible repeat (first | refine blk_drewN ?_ _ | refine blk_drew ?_ | refine blk_alloc ?_ _)); exact BK151.out)) : gb151 ≠ gb159))
                                  have n15_ := Aside0.mk ((by rw [hg]; exact Nat.ne_of_gt (blk_lt (g := gb151) (o := .cells #[.int .u64 t148, .int .u64 t149] 24 (0, 0)) (by (with_reducible repeat (first | refine blk_drewN ?_ _ | refine blk_drew ?_ | refine blk_alloc ?_ _)); exact BK151.out)) : gb159 ≠ gb151))
                                  clear BK142
                                  clear BK143
                                  clear BK147
                                  clear BK151
                                  clear HB
                                  have BK142 := n0_
                                  have BK143 := n1_
                                  have BK147 := n2_
                                  have BK151 := n3_
                                  have HB := n4_
                                  have BK159 := n5_
                                  have GW159 := n6_
                                  have GE159 := n7_
                                  have NB142_159 := n8_
                                  have NB159_142 := n9_
                                  have NB143_159 := n10_
                                  have NB159_143 := n11_
                                  have NB147_159 := n12_
                                  have NB159_147 := n13_
                                  have NB151_159 := n14_
                                  have NB159_151 := n15_
                                  clear n0_ n1_ n2_ n3_ n4_ n5_ n6_ n7_ n8_ n9_ n10_ n11_ n12_ n13_ n14_ n15_
                                  clear hb hbox hg
                                  refine hK.out _ _ ⟨(blk_cell BK142.out 0).trans rfl, (blk_cell BK142.out 1).trans rfl, (blk_cell BK143.out 0).trans rfl, (blk_cell BK143.out 1).trans rfl⟩ (fun hHeld => ?_)
                                  clear hK K
                                  refine norm_ (a' := ?_) ?_ ?_
                                  rotate_left
                                  · show Act.put _ (some 10) _ = _
                                    simp only [Act.put, List.setIfInBounds_toArray, List.set_cons_zero, List.set_cons_succ, i64_w, i32_w]
                                    rfl
                                  exact norm_ (by first | (simp only [putAll, Act.put, List.setIfInBounds_toArray, List.set_cons_zero, List.set_cons_succ]; done) | (simp only [putAll, Act.put, List.setIfInBounds_toArray, List.set_cons_zero, List.set_cons_succ]; rfl)) (hJ7 (gb159) _ ⟨hHeld, (by (with_reducible repeat (first | refine blk_drewN ?_ _ | refine blk_drew ?_ | refine blk_alloc ?_ _)); exact BK142.out), (by (with_reducible repeat (first | refine blk_drewN ?_ _ | refine blk_drew ?_ | refine blk_alloc ?_ _)); exact BK143.out), (by (with_reducible repeat (first | refine blk_drewN ?_ _ | refine blk_drew ?_ | refine blk_alloc ?_ _)); exact BK147.out), (by (with_reducible repeat (first | refine blk_drewN ?_ _ | refine blk_drew ?_ | refine blk_alloc ?_ _)); exact BK151.out), (by (with_reducible repeat (first | refine blk_drewN ?_ _ | refine blk_drew ?_ | refine blk_alloc ?_ _)); exact BK159.out), GW159.out, GE159.out, NB142_159.out, NB159_142.out, NB143_159.out, NB159_143.out, NB147_159.out, NB159_147.out, NB151_159.out, NB159_151.out, (by repeat (first | (with_reducible first | exact HB.out | apply below_alloc | apply pw_below_drewN | apply below_drew1 | refine below_set ?_ GE142.out | refine below_set ?_ GE143.out | refine below_set ?_ GE147.out | refine below_set ?_ GE151.out | refine below_set ?_ GE159.out) | exact HB.out))⟩)
                              · skip
                                rintro gb159 w33 ⟨hS_, h0_, h1_, h2_, h3_, h4_, h5_, h6_, h7_, h8_, h9_, h10_, h11_, h12_, h13_, h14_, h15_⟩
                                have n0_ : Aside0 (w33.heap[gb142]? = some (.cells #[.int .u64 a0_0, .int .u64 a0_1] 24 (0, 0))) := ⟨h0_⟩
                                have n1_ : Aside0 (w33.heap[gb143]? = some (.cells #[.int .u64 a1_0, .int .u64 a1_1] 24 (0, 0))) := ⟨h1_⟩
                                have n2_ : Aside0 (w33.heap[gb147]? = some (.cells #[.int .u64 t144, .int .u64 t145] 24 (0, 0))) := ⟨h2_⟩
                                have n3_ : Aside0 (w33.heap[gb151]? = some (.cells #[.int .u64 t148, .int .u64 t149] 24 (0, 0))) := ⟨h3_⟩
                                have n4_ : Aside0 (w33.heap[gb159]? = some (.cells #[.int .u64 0, .int .u64 0, .bool false] 38 (0, 0))) := ⟨h4_⟩
                                have n5_ : Aside0 (w.heap.size ≤ gb159) := ⟨h5_⟩
                                have n6_ : Aside0 (w.heap.size ≤ gb159) := ⟨h6_⟩
                                have n7_ : Aside0 (gb142 ≠ gb159) := ⟨h7_⟩
                                have n8_ : Aside0 (gb159 ≠ gb142) := ⟨h8_⟩
                                have n9_ : Aside0 (gb143 ≠ gb159) := ⟨h9_⟩
                                have n10_ : Aside0 (gb159 ≠ gb143) := ⟨h10_⟩
                                have n11_ : Aside0 (gb147 ≠ gb159) := ⟨h11_⟩
                                have n12_ : Aside0 (gb159 ≠ gb147) := ⟨h12_⟩
                                have n13_ : Aside0 (gb151 ≠ gb159) := ⟨h13_⟩
                                have n14_ : Aside0 (gb159 ≠ gb151) := ⟨h14_⟩
                                have n15_ : Aside0 (Below w.heap.size w w33) := ⟨h15_⟩
                                clear BK142
                                clear BK143
                                clear BK147
                                clear BK151
                                clear HB
                                clear h0_ h1_ h2_ h3_ h4_ h5_ h6_ h7_ h8_ h9_ h10_ h11_ h12_ h13_ h14_ h15_
                                have BK142 := n0_
                                have BK143 := n1_
                                have BK147 := n2_
                                have BK151 := n3_
                                have BK159 := n4_
                                have GW159 := n5_
                                have GE159 := n6_
                                have NB142_159 := n7_
                                have NB159_142 := n8_
                                have NB143_159 := n9_
                                have NB159_143 := n10_
                                have NB147_159 := n11_
                                have NB159_147 := n12_
                                have NB151_159 := n13_
                                have NB159_151 := n14_
                                have HB := n15_
                                clear n0_ n1_ n2_ n3_ n4_ n5_ n6_ n7_ n8_ n9_ n10_ n11_ n12_ n13_ n14_ n15_
                                have hHeld : w33.cell? ⟨gb142, 0, none⟩ = some (.int .u64 a0_0) ∧ w33.cell? ⟨gb142, 1, none⟩ = some (.int .u64 a0_1) ∧ w33.cell? ⟨gb143, 0, none⟩ = some (.int .u64 a1_0) ∧ w33.cell? ⟨gb143, 1, none⟩ = some (.int .u64 a1_1) := hS_
                                refine norm_ (a' := ?_) ?_ ?_
                                rotate_left
                                · simp only [putAll, Act.put, List.setIfInBounds_toArray, List.set_cons_zero, List.set_cons_succ]
                                  rfl
                                refine two_ (i := 2) (j := 6) (Ni := some 25) (Nj := some 9) (bA 10 159) (bA 10 219) rfl rfl rfl rfl (two_of HT_.out (by kernel_rfl)) (by decide) (by decide) (fun K hK => ?_) (fun K hK => ?_)
                                · skip
                                  refine goes_ Try.func19 (by kernel_rfl) rfl #[.agg #[.int .u64 a0_0, .int .u64 a0_1], .agg #[.int .u64 a1_0, .int .u64 a1_1]] (by rfl) rfl rfl (by (try simp only [List.map_toArray, List.map_cons, List.map_nil]); first | done | rfl | (simp only [List.length_drop, List.length_take]; rfl)) ?_
                                  with_reducible refine (perigeeref1_AddTwo.calls a0_0 a0_1 a1_0 a1_1 t152 t153 t154 _ A5.out).mono ?_
                                  rintro e w34 ⟨rfl, hb⟩
                                  refine ⟨_, rfl, ?_⟩
                                  have n0_ := Aside0.mk (blk_below (g := gb142) (o := .cells #[.int .u64 a0_0, .int .u64 a0_1] 24 (0, 0)) (by (with_reducible repeat (first | refine blk_drewN ?_ _ | refine blk_drew ?_ | refine blk_alloc ?_ _)); exact BK142.out) hb)
                                  have n1_ := Aside0.mk (blk_below (g := gb143) (o := .cells #[.int .u64 a1_0, .int .u64 a1_1] 24 (0, 0)) (by (with_reducible repeat (first | refine blk_drewN ?_ _ | refine blk_drew ?_ | refine blk_alloc ?_ _)); exact BK143.out) hb)
                                  have n2_ := Aside0.mk (blk_below (g := gb147) (o := .cells #[.int .u64 t144, .int .u64 t145] 24 (0, 0)) (by (with_reducible repeat (first | refine blk_drewN ?_ _ | refine blk_drew ?_ | refine blk_alloc ?_ _)); exact BK147.out) hb)
                                  have n3_ := Aside0.mk (blk_below (g := gb151) (o := .cells #[.int .u64 t148, .int .u64 t149] 24 (0, 0)) (by (with_reducible repeat (first | refine blk_drewN ?_ _ | refine blk_drew ?_ | refine blk_alloc ?_ _)); exact BK151.out) hb)
                                  have n4_ := Aside0.mk (blk_below (g := gb159) (o := .cells #[.int .u64 0, .int .u64 0, .bool false] 38 (0, 0)) (by (with_reducible repeat (first | refine blk_drewN ?_ _ | refine blk_drew ?_ | refine blk_alloc ?_ _)); exact BK159.out) hb)
                                  have n5_ := Aside0.mk (below_step (by repeat (first | (with_reducible first | exact HB.out | apply below_alloc | apply pw_below_drewN | apply below_drew1 | refine below_set ?_ GE142.out | refine below_set ?_ GE143.out | refine below_set ?_ GE147.out | refine below_set ?_ GE151.out | refine below_set ?_ GE159.out) | exact HB.out)) hb)
                                  clear BK142
                                  clear BK143
                                  clear BK147
                                  clear BK151
                                  clear BK159
                                  clear HB
                                  have BK142 := n0_
                                  have BK143 := n1_
                                  have BK147 := n2_
                                  have BK151 := n3_
                                  have BK159 := n4_
                                  have HB := n5_
                                  clear n0_ n1_ n2_ n3_ n4_ n5_
                                  (try clear hb)
                                  (try clear hb2)
                                  (try clear hk)
                                  (try clear hi)
                                  refine hK.out _ _ ⟨(blk_cell BK142.out 0).trans rfl, (blk_cell BK142.out 1).trans rfl, (blk_cell BK143.out 0).trans rfl, (blk_cell BK143.out 1).trans rfl⟩ (fun hHeld => ?_)
                                  clear hK K
                                  refine norm_ (a' := ?_) ?_ ?_
                                  rotate_left
                                  · show Act.put _ (some 25) _ = _
                                    simp only [Act.put, List.setIfInBounds_toArray, List.set_cons_zero, List.set_cons_succ, i64_w, i32_w]
                                    rfl
                                  exact norm_ (by first | (simp only [putAll, Act.put, List.setIfInBounds_toArray, List.set_cons_zero, List.set_cons_succ]; done) | (simp only [putAll, Act.put, List.setIfInBounds_toArray, List.set_cons_zero, List.set_cons_succ]; rfl)) (hJ2_7 (gb159) _ ⟨hHeld, (by (with_reducible repeat (first | refine blk_drewN ?_ _ | refine blk_drew ?_ | refine blk_alloc ?_ _)); exact BK142.out), (by (with_reducible repeat (first | refine blk_drewN ?_ _ | refine blk_drew ?_ | refine blk_alloc ?_ _)); exact BK143.out), (by (with_reducible repeat (first | refine blk_drewN ?_ _ | refine blk_drew ?_ | refine blk_alloc ?_ _)); exact BK147.out), (by (with_reducible repeat (first | refine blk_drewN ?_ _ | refine blk_drew ?_ | refine blk_alloc ?_ _)); exact BK151.out), (by (with_reducible repeat (first | refine blk_drewN ?_ _ | refine blk_drew ?_ | refine blk_alloc ?_ _)); exact BK159.out), GW159.out, GE159.out, NB142_159.out, NB159_142.out, NB143_159.out, NB159_143.out, NB147_159.out, NB159_147.out, NB151_159.out, NB159_151.out, (by repeat (first | (with_reducible first | exact HB.out | apply below_alloc | apply pw_below_drewN | apply below_drew1 | refine below_set ?_ GE142.out | refine below_set ?_ GE143.out | refine below_set ?_ GE147.out | refine below_set ?_ GE151.out | refine below_set ?_ GE159.out) | exact HB.out))⟩)
                                · skip
                                  refine box_step ?hg (N := 9) ?hd (cs := #[.int .u64 0, .int .u64 0, .bool false]) (t := 38) ?hr ?_; (case hd => rfl); (case hg => rfl); (case hr => first | (go_simp; done) | (go_simp; rfl))
                                  intro gb158 hg w34 hbox hb
                                  have n0_ := Aside0.mk (blk_below (g := gb142) (o := .cells #[.int .u64 a0_0, .int .u64 a0_1] 24 (0, 0)) (by (with_reducible repeat (first | refine blk_drewN ?_ _ | refine blk_drew ?_ | refine blk_alloc ?_ _)); exact BK142.out) hb)
                                  have n1_ := Aside0.mk (blk_below (g := gb143) (o := .cells #[.int .u64 a1_0, .int .u64 a1_1] 24 (0, 0)) (by (with_reducible repeat (first | refine blk_drewN ?_ _ | refine blk_drew ?_ | refine blk_alloc ?_ _)); exact BK143.out) hb)
                                  have n2_ := Aside0.mk (blk_below (g := gb147) (o := .cells #[.int .u64 t144, .int .u64 t145] 24 (0, 0)) (by (with_reducible repeat (first | refine blk_drewN ?_ _ | refine blk_drew ?_ | refine blk_alloc ?_ _)); exact BK147.out) hb)
                                  have n3_ := Aside0.mk (blk_below (g := gb151) (o := .cells #[.int .u64 t148, .int .u64 t149] 24 (0, 0)) (by (with_reducible repeat (first | refine blk_drewN ?_ _ | refine blk_drew ?_ | refine blk_alloc ?_ _)); exact BK151.out) hb)
                                  have n4_ := Aside0.mk (blk_below (g := gb159) (o := .cells #[.int .u64 0, .int .u64 0, .bool false] 38 (0, 0)) (by (with_reducible repeat (first | refine blk_drewN ?_ _ | refine blk_drew ?_ | refine blk_alloc ?_ _)); exact BK159.out) hb)
                                  have n5_ := Aside0.mk (below_step (by repeat (first | (with_reducible first | exact HB.out | apply below_alloc | apply pw_below_drewN | apply below_drew1 | refine below_set ?_ GE142.out | refine below_set ?_ GE143.out | refine below_set ?_ GE147.out | refine below_set ?_ GE151.out | refine below_set ?_ GE159.out) | exact HB.out)) hb)
                                  have n6_ := Aside0.mk (hbox)
                                  have n7_ := Aside0.mk ((by rw [hg]; exact (below_size (by repeat (first | (with_reducible first | exact HB.out | apply below_alloc | apply pw_below_drewN | apply below_drew1 | refine below_set ?_ GE142.out | refine below_set ?_ GE143.out | refine below_set ?_ GE147.out | refine below_set ?_ GE151.out | refine below_set ?_ GE159.out) | exact HB.out))) : w.heap.size ≤ gb158))
                                  have n8_ := Aside0.mk ((by rw [hg]; exact (below_size (by repeat (first | (with_reducible first | exact HB.out | apply below_alloc | apply pw_below_drewN | apply below_drew1 | refine below_set ?_ GE142.out | refine below_set ?_ GE143.out | refine below_set ?_ GE147.out | refine below_set ?_ GE151.out | refine below_set ?_ GE159.out) | exact HB.out))) : w.heap.size ≤ gb158))
                                  have n9_ := Aside0.mk ((by rw [hg]; exact Nat.ne_of_lt (blk_lt (g := gb142) (o := .cells #[.int .u64 a0_0, .int .u64 a0_1] 24 (0, 0)) (by (with_reducible repeat (first | refine blk_drewN ?_ _ | refine blk_drew ?_ | refine blk_alloc ?_ _)); exact BK142.out)) : gb142 ≠ gb158))
                                  have n10_ := Aside0.mk ((by rw [hg]; exact Nat.ne_of_gt (blk_lt (g := gb142) (o := .cells #[.int .u64 a0_0, .int .u64 a0_1] 24 (0, 0)) (by (with_reducible repeat (first | refine blk_drewN ?_ _ | refine blk_drew ?_ | refine blk_alloc ?_ _)); exact BK142.out)) : gb158 ≠ gb142))
                                  have n11_ := Aside0.mk ((by rw [hg]; exact Nat.ne_of_lt (blk_lt (g := gb143) (o := .cells #[.int .u64 a1_0, .int .u64 a1_1] 24 (0, 0)) (by (with_reducible repeat (first | refine blk_drewN ?_ _ | refine blk_drew ?_ | refine blk_alloc ?_ _)); exact BK143.out)) : gb143 ≠ gb158))
                                  have n12_ := Aside0.mk ((by rw [hg]; exact Nat.ne_of_gt (blk_lt (g := gb143) (o := .cells #[.int .u64 a1_0, .int .u64 a1_1] 24 (0, 0)) (by (with_reducible repeat (first | refine blk_drewN ?_ _ | refine blk_drew ?_ | refine blk_alloc ?_ _)); exact BK143.out)) : gb158 ≠ gb143))
                                  have n13_ := Aside0.mk ((by rw [hg]; exact Nat.ne_of_lt (blk_lt (g := gb147) (o := .cells #[.int .u64 t144, .int .u64 t145] 24 (0, 0)) (by (with_reducible repeat (first | refine blk_drewN ?_ _ | refine blk_drew ?_ | refine blk_alloc ?_ _)); exact BK147.out)) : gb147 ≠ gb158))
                                  have n14_ := Aside0.mk ((by rw [hg]; exact Nat.ne_of_gt (blk_lt (g := gb147) (o := .cells #[.int .u64 t144, .int .u64 t145] 24 (0, 0)) (by (with_reducible repeat (first | refine blk_drewN ?_ _ | refine blk_drew ?_ | refine blk_alloc ?_ _)); exact BK147.out)) : gb158 ≠ gb147))
                                  have n15_ := Aside0.mk ((by rw [hg]; exact Nat.ne_of_lt (blk_lt (g := gb151) (o := .cells #[.int .u64 t148, .int .u64 t149] 24 (0, 0)) (by (with_reducible repeat (first | refine blk_drewN ?_ _ | refine blk_drew ?_ | refine blk_alloc ?_ _)); exact BK151.out)) : gb151 ≠ gb158))
                                  have n16_ := Aside0.mk ((by rw [hg]; exact Nat.ne_of_gt (blk_lt (g := gb151) (o := .cells #[.int .u64 t148, .int .u64 t149] 24 (0, 0)) (by (with_reducible repeat (first | refine blk_drewN ?_ _ | refine blk_drew ?_ | refine blk_alloc ?_ _)); exact BK151.out)) : gb158 ≠ gb151))
                                  have n17_ := Aside0.mk ((by rw [hg]; exact Nat.ne_of_lt (blk_lt (g := gb159) (o := .cells #[.int .u64 0, .int .u64 0, .bool false] 38 (0, 0)) (by (with_reducible repeat (first | refine blk_drewN ?_ _ | refine blk_drew ?_ | refine blk_alloc ?_ _)); exact BK159.out)) : gb159 ≠ gb158))
                                  have n18_ := Aside0.mk ((by rw [hg]; exact Nat.ne_of_gt (blk_lt (g := gb159) (o := .cells #[.int .u64 0, .int .u64 0, .bool false] 38 (0, 0)) (by (with_reducible repeat (first | refine blk_drewN ?_ _ | refine blk_drew ?_ | refine blk_alloc ?_ _)); exact BK159.out)) : gb158 ≠ gb159))
                                  clear BK142
                                  clear BK143
                                  clear BK147
                                  clear BK151
                                  clear BK159
                                  clear HB
                                  have BK142 := n0_
                                  have BK143 := n1_
                                  have BK147 := n2_
                                  have BK151 := n3_
                                  have BK159 := n4_
                                  have HB := n5_
                                  have BK158 := n6_
                                  have GW158 := n7_
                                  have GE158 := n8_
                                  have NB142_158 := n9_
                                  have NB158_142 := n10_
                                  have NB143_158 := n11_
                                  have NB158_143 := n12_
                                  have NB147_158 := n13_
                                  have NB158_147 := n14_
                                  have NB151_158 := n15_
                                  have NB158_151 := n16_
                                  have NB159_158 := n17_
                                  have NB158_159 := n18_
                                  clear n0_ n1_ n2_ n3_ n4_ n5_ n6_ n7_ n8_ n9_ n10_ n11_ n12_ n13_ n14_ n15_ n16_ n17_ n18_
                                  clear hb hbox hg
                                  refine hK.out _ _ ⟨(blk_cell BK142.out 0).trans rfl, (blk_cell BK142.out 1).trans rfl, (blk_cell BK143.out 0).trans rfl, (blk_cell BK143.out 1).trans rfl⟩ (fun hHeld => ?_)
                                  clear hK K
                                  refine norm_ (a' := ?_) ?_ ?_
                                  rotate_left
                                  · show Act.put _ (some 9) _ = _
                                    simp only [Act.put, List.setIfInBounds_toArray, List.set_cons_zero, List.set_cons_succ, i64_w, i32_w]
                                    rfl
                                  exact norm_ (by first | (simp only [putAll, Act.put, List.setIfInBounds_toArray, List.set_cons_zero, List.set_cons_succ]; done) | (simp only [putAll, Act.put, List.setIfInBounds_toArray, List.set_cons_zero, List.set_cons_succ]; rfl)) (hJ6_7 (gb158, gb159) _ ⟨hHeld, (by (with_reducible repeat (first | refine blk_drewN ?_ _ | refine blk_drew ?_ | refine blk_alloc ?_ _)); exact BK142.out), (by (with_reducible repeat (first | refine blk_drewN ?_ _ | refine blk_drew ?_ | refine blk_alloc ?_ _)); exact BK143.out), (by (with_reducible repeat (first | refine blk_drewN ?_ _ | refine blk_drew ?_ | refine blk_alloc ?_ _)); exact BK147.out), (by (with_reducible repeat (first | refine blk_drewN ?_ _ | refine blk_drew ?_ | refine blk_alloc ?_ _)); exact BK151.out), (by (with_reducible repeat (first | refine blk_drewN ?_ _ | refine blk_drew ?_ | refine blk_alloc ?_ _)); exact BK158.out), (by (with_reducible repeat (first | refine blk_drewN ?_ _ | refine blk_drew ?_ | refine blk_alloc ?_ _)); exact BK159.out), GW158.out, GE158.out, NB142_158.out, NB158_142.out, NB143_158.out, NB158_143.out, NB147_158.out, NB158_147.out, NB151_158.out, NB158_151.out, NB159_158.out, NB158_159.out, GW159.out, GE159.out, NB142_159.out, NB159_142.out, NB143_159.out, NB159_143.out, NB147_159.out, NB159_147.out, NB151_159.out, NB159_151.out, (by repeat (first | (with_reducible first | exact HB.out | apply below_alloc | apply pw_below_drewN | apply below_drew1 | refine below_set ?_ GE142.out | refine below_set ?_ GE143.out | refine below_set ?_ GE147.out | refine below_set ?_ GE151.out | refine below_set ?_ GE159.out | refine below_set ?_ GE158.out) | exact HB.out))⟩)
                            · skip
                              rintro gb158 w33 ⟨hS_, h0_, h1_, h2_, h3_, h4_, h5_, h6_, h7_, h8_, h9_, h10_, h11_, h12_, h13_, h14_, h15_⟩
                              have n0_ : Aside0 (w33.heap[gb142]? = some (.cells #[.int .u64 a0_0, .int .u64 a0_1] 24 (0, 0))) := ⟨h0_⟩
                              have n1_ : Aside0 (w33.heap[gb143]? = some (.cells #[.int .u64 a1_0, .int .u64 a1_1] 24 (0, 0))) := ⟨h1_⟩
                              have n2_ : Aside0 (w33.heap[gb147]? = some (.cells #[.int .u64 t144, .int .u64 t145] 24 (0, 0))) := ⟨h2_⟩
                              have n3_ : Aside0 (w33.heap[gb151]? = some (.cells #[.int .u64 t148, .int .u64 t149] 24 (0, 0))) := ⟨h3_⟩
                              have n4_ : Aside0 (w33.heap[gb158]? = some (.cells #[.int .u64 0, .int .u64 0, .bool false] 38 (0, 0))) := ⟨h4_⟩
                              have n5_ : Aside0 (w.heap.size ≤ gb158) := ⟨h5_⟩
                              have n6_ : Aside0 (w.heap.size ≤ gb158) := ⟨h6_⟩
                              have n7_ : Aside0 (gb142 ≠ gb158) := ⟨h7_⟩
                              have n8_ : Aside0 (gb158 ≠ gb142) := ⟨h8_⟩
                              have n9_ : Aside0 (gb143 ≠ gb158) := ⟨h9_⟩
                              have n10_ : Aside0 (gb158 ≠ gb143) := ⟨h10_⟩
                              have n11_ : Aside0 (gb147 ≠ gb158) := ⟨h11_⟩
                              have n12_ : Aside0 (gb158 ≠ gb147) := ⟨h12_⟩
                              have n13_ : Aside0 (gb151 ≠ gb158) := ⟨h13_⟩
                              have n14_ : Aside0 (gb158 ≠ gb151) := ⟨h14_⟩
                              have n15_ : Aside0 (Below w.heap.size w w33) := ⟨h15_⟩
                              clear BK142
                              clear BK143
                              clear BK147
                              clear BK151
                              clear HB
                              clear h0_ h1_ h2_ h3_ h4_ h5_ h6_ h7_ h8_ h9_ h10_ h11_ h12_ h13_ h14_ h15_
                              have BK142 := n0_
                              have BK143 := n1_
                              have BK147 := n2_
                              have BK151 := n3_
                              have BK158 := n4_
                              have GW158 := n5_
                              have GE158 := n6_
                              have NB142_158 := n7_
                              have NB158_142 := n8_
                              have NB143_158 := n9_
                              have NB158_143 := n10_
                              have NB147_158 := n11_
                              have NB158_147 := n12_
                              have NB151_158 := n13_
                              have NB158_151 := n14_
                              have HB := n15_
                              clear n0_ n1_ n2_ n3_ n4_ n5_ n6_ n7_ n8_ n9_ n10_ n11_ n12_ n13_ n14_ n15_
                              have hHeld : w33.cell? ⟨gb142, 0, none⟩ = some (.int .u64 a0_0) ∧ w33.cell? ⟨gb142, 1, none⟩ = some (.int .u64 a0_1) ∧ w33.cell? ⟨gb143, 0, none⟩ = some (.int .u64 a1_0) ∧ w33.cell? ⟨gb143, 1, none⟩ = some (.int .u64 a1_1) := hS_
                              refine norm_ (a' := ?_) ?_ ?_
                              rotate_left
                              · simp only [putAll, Act.put, List.setIfInBounds_toArray, List.set_cons_zero, List.set_cons_succ]
                                rfl
                              refine two_ (i := 2) (j := 7) (Ni := some 25) (Nj := some 10) (bA 10 95) (bA 10 219) rfl rfl rfl rfl (two_of HT_.out (by kernel_rfl)) (by decide) (by decide) (fun K hK => ?_) (fun K hK => ?_)
                              · skip
                                refine goes_ Try.func19 (by kernel_rfl) rfl #[.agg #[.int .u64 a0_0, .int .u64 a0_1], .agg #[.int .u64 a1_0, .int .u64 a1_1]] (by rfl) rfl rfl (by (try simp only [List.map_toArray, List.map_cons, List.map_nil]); first | done | rfl | (simp only [List.length_drop, List.length_take]; rfl)) ?_
                                with_reducible refine (perigeeref1_AddTwo.calls a0_0 a0_1 a1_0 a1_1 t152 t153 t154 _ A5.out).mono ?_
                                rintro e w34 ⟨rfl, hb⟩
                                refine ⟨_, rfl, ?_⟩
                                have n0_ := Aside0.mk (blk_below (g := gb142) (o := .cells #[.int .u64 a0_0, .int .u64 a0_1] 24 (0, 0)) (by (with_reducible repeat (first | refine blk_drewN ?_ _ | refine blk_drew ?_ | refine blk_alloc ?_ _)); exact BK142.out) hb)
                                have n1_ := Aside0.mk (blk_below (g := gb143) (o := .cells #[.int .u64 a1_0, .int .u64 a1_1] 24 (0, 0)) (by (with_reducible repeat (first | refine blk_drewN ?_ _ | refine blk_drew ?_ | refine blk_alloc ?_ _)); exact BK143.out) hb)
                                have n2_ := Aside0.mk (blk_below (g := gb147) (o := .cells #[.int .u64 t144, .int .u64 t145] 24 (0, 0)) (by (with_reducible repeat (first | refine blk_drewN ?_ _ | refine blk_drew ?_ | refine blk_alloc ?_ _)); exact BK147.out) hb)
                                have n3_ := Aside0.mk (blk_below (g := gb151) (o := .cells #[.int .u64 t148, .int .u64 t149] 24 (0, 0)) (by (with_reducible repeat (first | refine blk_drewN ?_ _ | refine blk_drew ?_ | refine blk_alloc ?_ _)); exact BK151.out) hb)
                                have n4_ := Aside0.mk (blk_below (g := gb158) (o := .cells #[.int .u64 0, .int .u64 0, .bool false] 38 (0, 0)) (by (with_reducible repeat (first | refine blk_drewN ?_ _ | refine blk_drew ?_ | refine blk_alloc ?_ _)); exact BK158.out) hb)
                                have n5_ := Aside0.mk (below_step (by repeat (first | (with_reducible first | exact HB.out | apply below_alloc | apply pw_below_drewN | apply below_drew1 | refine below_set ?_ GE142.out | refine below_set ?_ GE143.out | refine below_set ?_ GE147.out | refine below_set ?_ GE151.out | refine below_set ?_ GE158.out) | exact HB.out)) hb)
                                clear BK142
                                clear BK143
                                clear BK147
                                clear BK151
                                clear BK158
                                clear HB
                                have BK142 := n0_
                                have BK143 := n1_
                                have BK147 := n2_
                                have BK151 := n3_
                                have BK158 := n4_
                                have HB := n5_
                                clear n0_ n1_ n2_ n3_ n4_ n5_
                                (try clear hb)
                                (try clear hb2)
                                (try clear hk)
                                (try clear hi)
                                refine hK.out _ _ ⟨(blk_cell BK142.out 0).trans rfl, (blk_cell BK142.out 1).trans rfl, (blk_cell BK143.out 0).trans rfl, (blk_cell BK143.out 1).trans rfl⟩ (fun hHeld => ?_)
                                clear hK K
                                refine norm_ (a' := ?_) ?_ ?_
                                rotate_left
                                · show Act.put _ (some 25) _ = _
                                  simp only [Act.put, List.setIfInBounds_toArray, List.set_cons_zero, List.set_cons_succ, i64_w, i32_w]
                                  rfl
                                exact norm_ (by first | (simp only [putAll, Act.put, List.setIfInBounds_toArray, List.set_cons_zero, List.set_cons_succ]; done) | (simp only [putAll, Act.put, List.setIfInBounds_toArray, List.set_cons_zero, List.set_cons_succ]; rfl)) (hJ2_6 (gb158) _ ⟨hHeld, (by (with_reducible repeat (first | refine blk_drewN ?_ _ | refine blk_drew ?_ | refine blk_alloc ?_ _)); exact BK142.out), (by (with_reducible repeat (first | refine blk_drewN ?_ _ | refine blk_drew ?_ | refine blk_alloc ?_ _)); exact BK143.out), (by (with_reducible repeat (first | refine blk_drewN ?_ _ | refine blk_drew ?_ | refine blk_alloc ?_ _)); exact BK147.out), (by (with_reducible repeat (first | refine blk_drewN ?_ _ | refine blk_drew ?_ | refine blk_alloc ?_ _)); exact BK151.out), (by (with_reducible repeat (first | refine blk_drewN ?_ _ | refine blk_drew ?_ | refine blk_alloc ?_ _)); exact BK158.out), GW158.out, GE158.out, NB142_158.out, NB158_142.out, NB143_158.out, NB158_143.out, NB147_158.out, NB158_147.out, NB151_158.out, NB158_151.out, (by repeat (first | (with_reducible first | exact HB.out | apply below_alloc | apply pw_below_drewN | apply below_drew1 | refine below_set ?_ GE142.out | refine below_set ?_ GE143.out | refine below_set ?_ GE147.out | refine below_set ?_ GE151.out | refine below_set ?_ GE158.out) | exact HB.out))⟩)
                              · skip
                                refine box_step ?hg (N := 10) ?hd (cs := #[.int .u64 0, .int .u64 0, .bool false]) (t := 38) ?hr ?_; (case hd => rfl); (case hg => rfl); (case hr => first | (go_simp; done) | (go_simp; rfl))
                                intro gb159 hg w34 hbox hb
                                have n0_ := Aside0.mk (blk_below (g := gb142) (o := .cells #[.int .u64 a0_0, .int .u64 a0_1] 24 (0, 0)) (by (with_reducible repeat (first | refine blk_drewN ?_ _ | refine blk_drew ?_ | refine blk_alloc ?_ _)); exact BK142.out) hb)
                                have n1_ := Aside0.mk (blk_below (g := gb143) (o := .cells #[.int .u64 a1_0, .int .u64 a1_1] 24 (0, 0)) (by (with_reducible repeat (first | refine blk_drewN ?_ _ | refine blk_drew ?_ | refine blk_alloc ?_ _)); exact BK143.out) hb)
                                have n2_ := Aside0.mk (blk_below (g := gb147) (o := .cells #[.int .u64 t144, .int .u64 t145] 24 (0, 0)) (by (with_reducible repeat (first | refine blk_drewN ?_ _ | refine blk_drew ?_ | refine blk_alloc ?_ _)); exact BK147.out) hb)
                                have n3_ := Aside0.mk (blk_below (g := gb151) (o := .cells #[.int .u64 t148, .int .u64 t149] 24 (0, 0)) (by (with_reducible repeat (first | refine blk_drewN ?_ _ | refine blk_drew ?_ | refine blk_alloc ?_ _)); exact BK151.out) hb)
                                have n4_ := Aside0.mk (blk_below (g := gb158) (o := .cells #[.int .u64 0, .int .u64 0, .bool false] 38 (0, 0)) (by (with_reducible repeat (first | refine blk_drewN ?_ _ | refine blk_drew ?_ | refine blk_alloc ?_ _)); exact BK158.out) hb)
                                have n5_ := Aside0.mk (below_step (by repeat (first | (with_reducible first | exact HB.out | apply below_alloc | apply pw_below_drewN | apply below_drew1 | refine below_set ?_ GE142.out | refine below_set ?_ GE143.out | refine below_set ?_ GE147.out | refine below_set ?_ GE151.out | refine below_set ?_ GE158.out) | exact HB.out)) hb)
                                have n6_ := Aside0.mk (hbox)
                                have n7_ := Aside0.mk ((by rw [hg]; exact (below_size (by repeat (first | (with_reducible first | exact HB.out | apply below_alloc | apply pw_below_drewN | apply below_drew1 | refine below_set ?_ GE142.out | refine below_set ?_ GE143.out | refine below_set ?_ GE147.out | refine below_set ?_ GE151.out | refine below_set ?_ GE158.out) | exact HB.out))) : w.heap.size ≤ gb159))
                                have n8_ := Aside0.mk ((by rw [hg]; exact (below_size (by repeat (first | (with_reducible first | exact HB.out | apply below_alloc | apply pw_below_drewN | apply below_drew1 | refine below_set ?_ GE142.out | refine below_set ?_ GE143.out | refine below_set ?_ GE147.out | refine below_set ?_ GE151.out | refine below_set ?_ GE158.out) | exact HB.out))) : w.heap.size ≤ gb159))
                                have n9_ := Aside0.mk ((by rw [hg]; exact Nat.ne_of_lt (blk_lt (g := gb142) (o := .cells #[.int .u64 a0_0, .int .u64 a0_1] 24 (0, 0)) (by (with_reducible repeat (first | refine blk_drewN ?_ _ | refine blk_drew ?_ | refine blk_alloc ?_ _)); exact BK142.out)) : gb142 ≠ gb159))
                                have n10_ := Aside0.mk ((by rw [hg]; exact Nat.ne_of_gt (blk_lt (g := gb142) (o := .cells #[.int .u64 a0_0, .int .u64 a0_1] 24 (0, 0)) (by (with_reducible repeat (first | refine blk_drewN ?_ _ | refine blk_drew ?_ | refine blk_alloc ?_ _)); exact BK142.out)) : gb159 ≠ gb142))
                                have n11_ := Aside0.mk ((by rw [hg]; exact Nat.ne_of_lt (blk_lt (g := gb143) (o := .cells #[.int .u64 a1_0, .int .u64 a1_1] 24 (0, 0)) (by (with_reducible repeat (first | refine blk_drewN ?_ _ | refine blk_drew ?_ | refine blk_alloc ?_ _)); exact BK143.out)) : gb143 ≠ gb159))
                                have n12_ := Aside0.mk ((by rw [hg]; exact Nat.ne_of_gt (blk_lt (g := gb143) (o := .cells #[.int .u64 a1_0, .int .u64 a1_1] 24 (0, 0)) (by (with_reducible repeat (first | refine blk_drewN ?_ _ | refine blk_drew ?_ | refine blk_alloc ?_ _)); exact BK143.out)) : gb159 ≠ gb143))
                                have n13_ := Aside0.mk ((by rw [hg]; exact Nat.ne_of_lt (blk_lt (g := gb147) (o := .cells #[.int .u64 t144, .int .u64 t145] 24 (0, 0)) (by (with_reducible repeat (first | refine blk_drewN ?_ _ | refine blk_drew ?_ | refine blk_alloc ?_ _)); exact BK147.out)) : gb147 ≠ gb159))
                                have n14_ := Aside0.mk ((by rw [hg]; exact Nat.ne_of_gt (blk_lt (g := gb147) (o := .cells #[.int .u64 t144, .int .u64 t145] 24 (0, 0)) (by (with_reducible repeat (first | refine blk_drewN ?_ _ | refine blk_drew ?_ | refine blk_alloc ?_ _)); exact BK147.out)) : gb159 ≠ gb147))
                                have n15_ := Aside0.mk ((by rw [hg]; exact Nat.ne_of_lt (blk_lt (g := gb151) (o := .cells #[.int .u64 t148, .int .u64 t149] 24 (0, 0)) (by (with_reducible repeat (first | refine blk_drewN ?_ _ | refine blk_drew ?_ | refine blk_alloc ?_ _)); exact BK151.out)) : gb151 ≠ gb159))
                                have n16_ := Aside0.mk ((by rw [hg]; exact Nat.ne_of_gt (blk_lt (g := gb151) (o := .cells #[.int .u64 t148, .int .u64 t149] 24 (0, 0)) (by (with_reducible repeat (first | refine blk_drewN ?_ _ | refine blk_drew ?_ | refine blk_alloc ?_ _)); exact BK151.out)) : gb159 ≠ gb151))
                                have n17_ := Aside0.mk ((by rw [hg]; exact Nat.ne_of_lt (blk_lt (g := gb158) (o := .cells #[.int .u64 0, .int .u64 0, .bool false] 38 (0, 0)) (by (with_reducible repeat (first | refine blk_drewN ?_ _ | refine blk_drew ?_ | refine blk_alloc ?_ _)); exact BK158.out)) : gb158 ≠ gb159))
                                have n18_ := Aside0.mk ((by rw [hg]; exact Nat.ne_of_gt (blk_lt (g := gb158) (o := .cells #[.int .u64 0, .int .u64 0, .bool false] 38 (0, 0)) (by (with_reducible repeat (first | refine blk_drewN ?_ _ | refine blk_drew ?_ | refine blk_alloc ?_ _)); exact BK158.out)) : gb159 ≠ gb158))
                                clear BK142
                                clear BK143
                                clear BK147
                                clear BK151
                                clear BK158
                                clear HB
                                have BK142 := n0_
                                have BK143 := n1_
                                have BK147 := n2_
                                have BK151 := n3_
                                have BK158 := n4_
                                have HB := n5_
                                have BK159 := n6_
                                have GW159 := n7_
                                have GE159 := n8_
                                have NB142_159 := n9_
                                have NB159_142 := n10_
                                have NB143_159 := n11_
                                have NB159_143 := n12_
                                have NB147_159 := n13_
                                have NB159_147 := n14_
                                have NB151_159 := n15_
                                have NB159_151 := n16_
                                have NB158_159 := n17_
                                have NB159_158 := n18_
                                clear n0_ n1_ n2_ n3_ n4_ n5_ n6_ n7_ n8_ n9_ n10_ n11_ n12_ n13_ n14_ n15_ n16_ n17_ n18_
                                clear hb hbox hg
                                refine hK.out _ _ ⟨(blk_cell BK142.out 0).trans rfl, (blk_cell BK142.out 1).trans rfl, (blk_cell BK143.out 0).trans rfl, (blk_cell BK143.out 1).trans rfl⟩ (fun hHeld => ?_)
                                clear hK K
                                refine norm_ (a' := ?_) ?_ ?_
                                rotate_left
                                · show Act.put _ (some 10) _ = _
                                  simp only [Act.put, List.setIfInBounds_toArray, List.set_cons_zero, List.set_cons_succ, i64_w, i32_w]
                                  rfl
                                exact norm_ (by first | (simp only [putAll, Act.put, List.setIfInBounds_toArray, List.set_cons_zero, List.set_cons_succ]; done) | (simp only [putAll, Act.put, List.setIfInBounds_toArray, List.set_cons_zero, List.set_cons_succ]; rfl)) (hJ6_7 (gb158, gb159) _ ⟨hHeld, (by (with_reducible repeat (first | refine blk_drewN ?_ _ | refine blk_drew ?_ | refine blk_alloc ?_ _)); exact BK142.out), (by (with_reducible repeat (first | refine blk_drewN ?_ _ | refine blk_drew ?_ | refine blk_alloc ?_ _)); exact BK143.out), (by (with_reducible repeat (first | refine blk_drewN ?_ _ | refine blk_drew ?_ | refine blk_alloc ?_ _)); exact BK147.out), (by (with_reducible repeat (first | refine blk_drewN ?_ _ | refine blk_drew ?_ | refine blk_alloc ?_ _)); exact BK151.out), (by (with_reducible repeat (first | refine blk_drewN ?_ _ | refine blk_drew ?_ | refine blk_alloc ?_ _)); exact BK158.out), (by (with_reducible repeat (first | refine blk_drewN ?_ _ | refine blk_drew ?_ | refine blk_alloc ?_ _)); exact BK159.out), GW158.out, GE158.out, NB142_158.out, NB158_142.out, NB143_158.out, NB158_143.out, NB147_158.out, NB158_147.out, NB151_158.out, NB158_151.out, NB159_158.out, NB158_159.out, GW159.out, GE159.out, NB142_159.out, NB159_142.out, NB143_159.out, NB159_143.out, NB147_159.out, NB159_147.out, NB151_159.out, NB159_151.out, (by repeat (first | (with_reducible first | exact HB.out | apply below_alloc | apply pw_below_drewN | apply below_drew1 | refine below_set ?_ GE142.out | refine below_set ?_ GE143.out | refine below_set ?_ GE147.out | refine below_set ?_ GE151.out | refine below_set ?_ GE158.out | refine below_set ?_ GE159.out) | exact HB.out))⟩)
                          · skip
                            rintro _ w33 ⟨hS_, h0_, h1_, h2_, h3_, h4_⟩
                            have n0_ : Aside0 (w33.heap[gb142]? = some (.cells #[.int .u64 a0_0, .int .u64 a0_1] 24 (0, 0))) := ⟨h0_⟩
                            have n1_ : Aside0 (w33.heap[gb143]? = some (.cells #[.int .u64 a1_0, .int .u64 a1_1] 24 (0, 0))) := ⟨h1_⟩
                            have n2_ : Aside0 (w33.heap[gb147]? = some (.cells #[.int .u64 t144, .int .u64 t145] 24 (0, 0))) := ⟨h2_⟩
                            have n3_ : Aside0 (w33.heap[gb151]? = some (.cells #[.int .u64 t148, .int .u64 t149] 24 (0, 0))) := ⟨h3_⟩
                            have n4_ : Aside0 (Below w.heap.size w w33) := ⟨h4_⟩
                            clear BK142
                            clear BK143
                            clear BK147
                            clear BK151
                            clear HB
                            clear h0_ h1_ h2_ h3_ h4_
                            have BK142 := n0_
                            have BK143 := n1_
                            have BK147 := n2_
                            have BK151 := n3_
                            have HB := n4_
                            clear n0_ n1_ n2_ n3_ n4_
                            have hHeld : w33.cell? ⟨gb142, 0, none⟩ = some (.int .u64 a0_0) ∧ w33.cell? ⟨gb142, 1, none⟩ = some (.int .u64 a0_1) ∧ w33.cell? ⟨gb143, 0, none⟩ = some (.int .u64 a1_0) ∧ w33.cell? ⟨gb143, 1, none⟩ = some (.int .u64 a1_1) := hS_
                            refine norm_ (a' := ?_) ?_ ?_
                            rotate_left
                            · simp only [putAll, Act.put, List.setIfInBounds_toArray, List.set_cons_zero, List.set_cons_succ]
                              rfl
                            refine three_ (i := 5) (j := 6) (k := 7) (Ni := some 28) (Nj := some 9) (Nk := some 10) (bA 10 63) (bA 10 95) (bA 10 159) rfl rfl rfl rfl rfl rfl (three_of HT_.out (by kernel_rfl)) (by decide) (by decide) (by decide) (fun K hK => ?_) (fun K hK => ?_) (fun K hK => ?_)
                            · skip
                              refine goes_ Try.func20 (by kernel_rfl) rfl #[.agg #[.int .u64 a0_0, .int .u64 a0_1], .agg #[.int .u64 a1_0, .int .u64 a1_1]] (by rfl) rfl rfl (by (try simp only [List.map_toArray, List.map_cons, List.map_nil]); first | done | rfl | (simp only [List.length_drop, List.length_take]; rfl)) ?_
                              with_reducible refine (perigeeref1_SubTwo.calls a0_0 a0_1 a1_0 a1_1 t155 t156 t157 _ A6.out).mono ?_
                              rintro e w34 ⟨rfl, hb⟩
                              refine ⟨_, rfl, ?_⟩
                              have n0_ := Aside0.mk (blk_below (g := gb142) (o := .cells #[.int .u64 a0_0, .int .u64 a0_1] 24 (0, 0)) (by (with_reducible repeat (first | refine blk_drewN ?_ _ | refine blk_drew ?_ | refine blk_alloc ?_ _)); exact BK142.out) hb)
                              have n1_ := Aside0.mk (blk_below (g := gb143) (o := .cells #[.int .u64 a1_0, .int .u64 a1_1] 24 (0, 0)) (by (with_reducible repeat (first | refine blk_drewN ?_ _ | refine blk_drew ?_ | refine blk_alloc ?_ _)); exact BK143.out) hb)
                              have n2_ := Aside0.mk (blk_below (g := gb147) (o := .cells #[.int .u64 t144, .int .u64 t145] 24 (0, 0)) (by (with_reducible repeat (first | refine blk_drewN ?_ _ | refine blk_drew ?_ | refine blk_alloc ?_ _)); exact BK147.out) hb)
                              have n3_ := Aside0.mk (blk_below (g := gb151) (o := .cells #[.int .u64 t148, .int .u64 t149] 24 (0, 0)) (by (with_reducible repeat (first | refine blk_drewN ?_ _ | refine blk_drew ?_ | refine blk_alloc ?_ _)); exact BK151.out) hb)
                              have n4_ := Aside0.mk (below_step (by repeat (first | (with_reducible first | exact HB.out | apply below_alloc | apply pw_below_drewN | apply below_drew1 | refine below_set ?_ GE142.out | refine below_set ?_ GE143.out | refine below_set ?_ GE147.out | refine below_set ?_ GE151.out) | exact HB.out)) hb)
                              clear BK142
                              clear BK143
                              clear BK147
                              clear BK151
                              clear HB
                              have BK142 := n0_
                              have BK143 := n1_
                              have BK147 := n2_
                              have BK151 := n3_
                              have HB := n4_
                              clear n0_ n1_ n2_ n3_ n4_
                              (try clear hb)
                              (try clear hb2)
                              (try clear hk)
                              (try clear hi)
                              refine hK.out _ _ ⟨(blk_cell BK142.out 0).trans rfl, (blk_cell BK142.out 1).trans rfl, (blk_cell BK143.out 0).trans rfl, (blk_cell BK143.out 1).trans rfl⟩ (fun hHeld => ?_)
                              clear hK K
                              refine norm_ (a' := ?_) ?_ ?_
                              rotate_left
                              · show Act.put _ (some 28) _ = _
                                simp only [Act.put, List.setIfInBounds_toArray, List.set_cons_zero, List.set_cons_succ, i64_w, i32_w]
                                rfl
                              exact norm_ (by first | (simp only [putAll, Act.put, List.setIfInBounds_toArray, List.set_cons_zero, List.set_cons_succ]; done) | (simp only [putAll, Act.put, List.setIfInBounds_toArray, List.set_cons_zero, List.set_cons_succ]; rfl)) (hJ2_5 () _ ⟨hHeld, (by (with_reducible repeat (first | refine blk_drewN ?_ _ | refine blk_drew ?_ | refine blk_alloc ?_ _)); exact BK142.out), (by (with_reducible repeat (first | refine blk_drewN ?_ _ | refine blk_drew ?_ | refine blk_alloc ?_ _)); exact BK143.out), (by (with_reducible repeat (first | refine blk_drewN ?_ _ | refine blk_drew ?_ | refine blk_alloc ?_ _)); exact BK147.out), (by (with_reducible repeat (first | refine blk_drewN ?_ _ | refine blk_drew ?_ | refine blk_alloc ?_ _)); exact BK151.out), (by repeat (first | (with_reducible first | exact HB.out | apply below_alloc | apply pw_below_drewN | apply below_drew1 | refine below_set ?_ GE142.out | refine below_set ?_ GE143.out | refine below_set ?_ GE147.out | refine below_set ?_ GE151.out) | exact HB.out))⟩)
                            · skip
                              refine box_step ?hg (N := 9) ?hd (cs := #[.int .u64 0, .int .u64 0, .bool false]) (t := 38) ?hr ?_; (case hd => rfl); (case hg => rfl); (case hr => first | (go_simp; done) | (go_simp; rfl))
                              intro gb158 hg w34 hbox hb
                              have n0_ := Aside0.mk (blk_below (g := gb142) (o := .cells #[.int .u64 a0_0, .int .u64 a0_1] 24 (0, 0)) (by (with_reducible repeat (first | refine blk_drewN ?_ _ | refine blk_drew ?_ | refine blk_alloc ?_ _)); exact BK142.out) hb)
                              have n1_ := Aside0.mk (blk_below (g := gb143) (o := .cells #[.int .u64 a1_0, .int .u64 a1_1] 24 (0, 0)) (by (with_reducible repeat (first | refine blk_drewN ?_ _ | refine blk_drew ?_ | refine blk_alloc ?_ _)); exact BK143.out) hb)
                              have n2_ := Aside0.mk (blk_below (g := gb147) (o := .cells #[.int .u64 t144, .int .u64 t145] 24 (0, 0)) (by (with_reducible repeat (first | refine blk_drewN ?_ _ | refine blk_drew ?_ | refine blk_alloc ?_ _)); exact BK147.out) hb)
                              have n3_ := Aside0.mk (blk_below (g := gb151) (o := .cells #[.int .u64 t148, .int .u64 t149] 24 (0, 0)) (by (with_reducible repeat (first | refine blk_drewN ?_ _ | refine blk_drew ?_ | refine blk_alloc ?_ _)); exact BK151.out) hb)
                              have n4_ := Aside0.mk (below_step (by repeat (first | (with_reducible first | exact HB.out | apply below_alloc | apply pw_below_drewN | apply below_drew1 | refine below_set ?_ GE142.out | refine below_set ?_ GE143.out | refine below_set ?_ GE147.out | refine below_set ?_ GE151.out) | exact HB.out)) hb)
                              have n5_ := Aside0.mk (hbox)
                              have n6_ := Aside0.mk ((by rw [hg]; exact (below_size (by repeat (first | (with_reducible first | exact HB.out | apply below_alloc | apply pw_below_drewN | apply below_drew1 | refine below_set ?_ GE142.out | refine below_set ?_ GE143.out | refine below_set ?_ GE147.out | refine below_set ?_ GE151.out) | exact HB.out))) : w.heap.size ≤ gb158))
                              have n7_ := Aside0.mk ((by rw [hg]; exact (below_size (by repeat (first | (with_reducible first | exact HB.out | apply below_alloc | apply pw_below_drewN | apply below_drew1 | refine below_set ?_ GE142.out | refine below_set ?_ GE143.out | refine below_set ?_ GE147.out | refine below_set ?_ GE151.out) | exact HB.out))) : w.heap.size ≤ gb158))
                              have n8_ := Aside0.mk ((by rw [hg]; exact Nat.ne_of_lt (blk_lt (g := gb142) (o := .cells #[.int .u64 a0_0, .int .u64 a0_1] 24 (0, 0)) (by (with_reducible repeat (first | refine blk_drewN ?_ _ | refine blk_drew ?_ | refine blk_alloc ?_ _)); exact BK142.out)) : gb142 ≠ gb158))
                              have n9_ := Aside0.mk ((by rw [hg]; exact Nat.ne_of_gt (blk_lt (g := gb142) (o := .cells #[.int .u64 a0_0, .int .u64 a0_1] 24 (0, 0)) (by (with_reducible repeat (first | refine blk_drewN ?_ _ | refine blk_drew ?_ | refine blk_alloc ?_ _)); exact BK142.out)) : gb158 ≠ gb142))
                              have n10_ := Aside0.mk ((by rw [hg]; exact Nat.ne_of_lt (blk_lt (g := gb143) (o := .cells #[.int .u64 a1_0, .int .u64 a1_1] 24 (0, 0)) (by (with_reducible repeat (first | refine blk_drewN ?_ _ | refine blk_drew ?_ | refine blk_alloc ?_ _)); exact BK143.out)) : gb143 ≠ gb158))
                              have n11_ := Aside0.mk ((by rw [hg]; exact Nat.ne_of_gt (blk_lt (g := gb143) (o := .cells #[.int .u64 a1_0, .int .u64 a1_1] 24 (0, 0)) (by (with_reducible repeat (first | refine blk_drewN ?_ _ | refine blk_drew ?_ | refine blk_alloc ?_ _)); exact BK143.out)) : gb158 ≠ gb143))
                              have n12_ := Aside0.mk ((by rw [hg]; exact Nat.ne_of_lt (blk_lt (g := gb147) (o := .cells #[.int .u64 t144, .int .u64 t145] 24 (0, 0)) (by (with_reducible repeat (first | refine blk_drewN ?_ _ | refine blk_drew ?_ | refine blk_alloc ?_ _)); exact BK147.out)) : gb147 ≠ gb158))
                              have n13_ := Aside0.mk ((by rw [hg]; exact Nat.ne_of_gt (blk_lt (g := gb147) (o := .cells #[.int .u64 t144, .int .u64 t145] 24 (0, 0)) (by (with_reducible repeat (first | refine blk_drewN ?_ _ | refine blk_drew ?_ | refine blk_alloc ?_ _)); exact BK147.out)) : gb158 ≠ gb147))
                              have n14_ := Aside0.mk ((by rw [hg]; exact Nat.ne_of_lt (blk_lt (g := gb151) (o := .cells #[.int .u64 t148, .int .u64 t149] 24 (0, 0)) (by (with_reducible repeat (first | refine blk_drewN ?_ _ | refine blk_drew ?_ | refine blk_alloc ?_ _)); exact BK151.out)) : gb151 ≠ gb158))
                              have n15_ := Aside0.mk ((by rw [hg]; exact Nat.ne_of_gt (blk_lt (g := gb151) (o := .cells #[.int .u64 t148, .int .u64 t149] 24 (0, 0)) (by (with_reducible repeat (first | refine blk_drewN ?_ _ | refine blk_drew ?_ | refine blk_alloc ?_ _)); exact BK151.out)) : gb158 ≠ gb151))
                              clear BK142
                              clear BK143
                              clear BK147
                              clear BK151
                              clear HB
                              have BK142 := n0_
                              have BK143 := n1_
                              have BK147 := n2_
                              have BK151 := n3_
                              have HB := n4_
                              have BK158 := n5_
                              have GW158 := n6_
                              have GE158 := n7_
                              have NB142_158 := n8_
                              have NB158_142 := n9_
                              have NB143_158 := n10_
                              have NB158_143 := n11_
                              have NB147_158 := n12_
                              have NB158_147 := n13_
                              have NB151_158 := n14_
                              have NB158_151 := n15_
                              clear n0_ n1_ n2_ n3_ n4_ n5_ n6_ n7_ n8_ n9_ n10_ n11_ n12_ n13_ n14_ n15_
                              clear hb hbox hg
                              refine hK.out _ _ ⟨(blk_cell BK142.out 0).trans rfl, (blk_cell BK142.out 1).trans rfl, (blk_cell BK143.out 0).trans rfl, (blk_cell BK143.out 1).trans rfl⟩ (fun hHeld => ?_)
                              clear hK K
                              refine norm_ (a' := ?_) ?_ ?_
                              rotate_left
                              · show Act.put _ (some 9) _ = _
                                simp only [Act.put, List.setIfInBounds_toArray, List.set_cons_zero, List.set_cons_succ, i64_w, i32_w]
                                rfl
                              exact norm_ (by first | (simp only [putAll, Act.put, List.setIfInBounds_toArray, List.set_cons_zero, List.set_cons_succ]; done) | (simp only [putAll, Act.put, List.setIfInBounds_toArray, List.set_cons_zero, List.set_cons_succ]; rfl)) (hJ2_6 (gb158) _ ⟨hHeld, (by (with_reducible repeat (first | refine blk_drewN ?_ _ | refine blk_drew ?_ | refine blk_alloc ?_ _)); exact BK142.out), (by (with_reducible repeat (first | refine blk_drewN ?_ _ | refine blk_drew ?_ | refine blk_alloc ?_ _)); exact BK143.out), (by (with_reducible repeat (first | refine blk_drewN ?_ _ | refine blk_drew ?_ | refine blk_alloc ?_ _)); exact BK147.out), (by (with_reducible repeat (first | refine blk_drewN ?_ _ | refine blk_drew ?_ | refine blk_alloc ?_ _)); exact BK151.out), (by (with_reducible repeat (first | refine blk_drewN ?_ _ | refine blk_drew ?_ | refine blk_alloc ?_ _)); exact BK158.out), GW158.out, GE158.out, NB142_158.out, NB158_142.out, NB143_158.out, NB158_143.out, NB147_158.out, NB158_147.out, NB151_158.out, NB158_151.out, (by repeat (first | (with_reducible first | exact HB.out | apply below_alloc | apply pw_below_drewN | apply below_drew1 | refine below_set ?_ GE142.out | refine below_set ?_ GE143.out | refine below_set ?_ GE147.out | refine below_set ?_ GE151.out | refine below_set ?_ GE158.out) | exact HB.out))⟩)
                            · skip
                              refine box_step ?hg (N := 10) ?hd (cs := #[.int .u64 0, .int .u64 0, .bool false]) (t := 38) ?hr ?_; (case hd => rfl); (case hg => rfl); (case hr => first | (go_simp; done) | (go_simp; rfl))
                              intro gb159 hg w34 hbox hb
                              have n0_ := Aside0.mk (blk_below (g := gb142) (o := .cells #[.int .u64 a0_0, .int .u64 a0_1] 24 (0, 0)) (by (with_reducible repeat (first | refine blk_drewN ?_ _ | refine blk_drew ?_ | refine blk_alloc ?_ _)); exact BK142.out) hb)
                              have n1_ := Aside0.mk (blk_below (g := gb143) (o := .cells #[.int .u64 a1_0, .int .u64 a1_1] 24 (0, 0)) (by (with_reducible repeat (first | refine blk_drewN ?_ _ | refine blk_drew ?_ | refine blk_alloc ?_ _)); exact BK143.out) hb)
                              have n2_ := Aside0.mk (blk_below (g := gb147) (o := .cells #[.int .u64 t144, .int .u64 t145] 24 (0, 0)) (by (with_reducible repeat (first | refine blk_drewN ?_ _ | refine blk_drew ?_ | refine blk_alloc ?_ _)); exact BK147.out) hb)
                              have n3_ := Aside0.mk (blk_below (g := gb151) (o := .cells #[.int .u64 t148, .int .u64 t149] 24 (0, 0)) (by (with_reducible repeat (first | refine blk_drewN ?_ _ | refine blk_drew ?_ | refine blk_alloc ?_ _)); exact BK151.out) hb)
                              have n4_ := Aside0.mk (below_step (by repeat (first | (with_reducible first | exact HB.out | apply below_alloc | apply pw_below_drewN | apply below_drew1 | refine below_set ?_ GE142.out | refine below_set ?_ GE143.out | refine below_set ?_ GE147.out | refine below_set ?_ GE151.out) | exact HB.out)) hb)
                              have n5_ := Aside0.mk (hbox)
                              have n6_ := Aside0.mk ((by rw [hg]; exact (below_size (by repeat (first | (with_reducible first | exact HB.out | apply below_alloc | apply pw_below_drewN | apply below_drew1 | refine below_set ?_ GE142.out | refine below_set ?_ GE143.out | refine below_set ?_ GE147.out | refine below_set ?_ GE151.out) | exact HB.out))) : w.heap.size ≤ gb159))
                              have n7_ := Aside0.mk ((by rw [hg]; exact (below_size (by repeat (first | (with_reducible first | exact HB.out | apply below_alloc | apply pw_below_drewN | apply below_drew1 | refine below_set ?_ GE142.out | refine below_set ?_ GE143.out | refine below_set ?_ GE147.out | refine below_set ?_ GE151.out) | exact HB.out))) : w.heap.size ≤ gb159))
                              have n8_ := Aside0.mk ((by rw [hg]; exact Nat.ne_of_lt (blk_lt (g := gb142) (o := .cells #[.int .u64 a0_0, .int .u64 a0_1] 24 (0, 0)) (by (with_reducible repeat (first | refine blk_drewN ?_ _ | refine blk_drew ?_ | refine blk_alloc ?_ _)); exact BK142.out)) : gb142 ≠ gb159))
                              have n9_ := Aside0.mk ((by rw [hg]; exact Nat.ne_of_gt (blk_lt (g := gb142) (o := .cells #[.int .u64 a0_0, .int .u64 a0_1] 24 (0, 0)) (by (with_reducible repeat (first | refine blk_drewN ?_ _ | refine blk_drew ?_ | refine blk_alloc ?_ _)); exact BK142.out)) : gb159 ≠ gb142))
                              have n10_ := Aside0.mk ((by rw [hg]; exact Nat.ne_of_lt (blk_lt (g := gb143) (o := .cells #[.int .u64 a1_0, .int .u64 a1_1] 24 (0, 0)) (by (with_reducible repeat (first | refine blk_drewN ?_ _ | refine blk_drew ?_ | refine blk_alloc ?_ _)); exact BK143.out)) : gb143 ≠ gb159))
                              have n11_ := Aside0.mk ((by rw [hg]; exact Nat.ne_of_gt (blk_lt (g := gb143) (o := .cells #[.int .u64 a1_0, .int .u64 a1_1] 24 (0, 0)) (by (with_reducible repeat (first | refine blk_drewN ?_ _ | refine blk_drew ?_ | refine blk_alloc ?_ _)); exact BK143.out)) : gb159 ≠ gb143))
                              have n12_ := Aside0.mk ((by rw [hg]; exact Nat.ne_of_lt (blk_lt (g := gb147) (o := .cells #[.int .u64 t144, .int .u64 t145] 24 (0, 0)) (by (with_reducible repeat (first | refine blk_drewN ?_ _ | refine blk_drew ?_ | refine blk_alloc ?_ _)); exact BK147.out)) : gb147 ≠ gb159))
                              have n13_ := Aside0.mk ((by rw [hg]; exact Nat.ne_of_gt (blk_lt (g := gb147) (o := .cells #[.int .u64 t144, .int .u64 t145] 24 (0, 0)) (by (with_reducible repeat (first | refine blk_drewN ?_ _ | refine blk_drew ?_ | refine blk_alloc ?_ _)); exact BK147.out)) : gb159 ≠ gb147))
                              have n14_ := Aside0.mk ((by rw [hg]; exact Nat.ne_of_lt (blk_lt (g := gb151) (o := .cells #[.int .u64 t148, .int .u64 t149] 24 (0, 0)) (by (with_reducible repeat (first | refine blk_drewN ?_ _ | refine blk_drew ?_ | refine blk_alloc ?_ _)); exact BK151.out)) : gb151 ≠ gb159))
                              have n15_ := Aside0.mk ((by rw [hg]; exact Nat.ne_of_gt (blk_lt (g := gb151) (o := .cells #[.int .u64 t148, .int .u64 t149] 24 (0, 0)) (by (with_reducible repeat (first | refine blk_drewN ?_ _ | refine blk_drew ?_ | refine blk_alloc ?_ _)); exact BK151.out)) : gb159 ≠ gb151))
                              clear BK142
                              clear BK143
                              clear BK147
                              clear BK151
                              clear HB
                              have BK142 := n0_
                              have BK143 := n1_
                              have BK147 := n2_
                              have BK151 := n3_
                              have HB := n4_
                              have BK159 := n5_
                              have GW159 := n6_
                              have GE159 := n7_
                              have NB142_159 := n8_
                              have NB159_142 := n9_
                              have NB143_159 := n10_
                              have NB159_143 := n11_
                              have NB147_159 := n12_
                              have NB159_147 := n13_
                              have NB151_159 := n14_
                              have NB159_151 := n15_
                              clear n0_ n1_ n2_ n3_ n4_ n5_ n6_ n7_ n8_ n9_ n10_ n11_ n12_ n13_ n14_ n15_
                              clear hb hbox hg
                              refine hK.out _ _ ⟨(blk_cell BK142.out 0).trans rfl, (blk_cell BK142.out 1).trans rfl, (blk_cell BK143.out 0).trans rfl, (blk_cell BK143.out 1).trans rfl⟩ (fun hHeld => ?_)
                              clear hK K
                              refine norm_ (a' := ?_) ?_ ?_
                              rotate_left
                              · show Act.put _ (some 10) _ = _
                                simp only [Act.put, List.setIfInBounds_toArray, List.set_cons_zero, List.set_cons_succ, i64_w, i32_w]
                                rfl
                              exact norm_ (by first | (simp only [putAll, Act.put, List.setIfInBounds_toArray, List.set_cons_zero, List.set_cons_succ]; done) | (simp only [putAll, Act.put, List.setIfInBounds_toArray, List.set_cons_zero, List.set_cons_succ]; rfl)) (hJ2_7 (gb159) _ ⟨hHeld, (by (with_reducible repeat (first | refine blk_drewN ?_ _ | refine blk_drew ?_ | refine blk_alloc ?_ _)); exact BK142.out), (by (with_reducible repeat (first | refine blk_drewN ?_ _ | refine blk_drew ?_ | refine blk_alloc ?_ _)); exact BK143.out), (by (with_reducible repeat (first | refine blk_drewN ?_ _ | refine blk_drew ?_ | refine blk_alloc ?_ _)); exact BK147.out), (by (with_reducible repeat (first | refine blk_drewN ?_ _ | refine blk_drew ?_ | refine blk_alloc ?_ _)); exact BK151.out), (by (with_reducible repeat (first | refine blk_drewN ?_ _ | refine blk_drew ?_ | refine blk_alloc ?_ _)); exact BK159.out), GW159.out, GE159.out, NB142_159.out, NB159_142.out, NB143_159.out, NB159_143.out, NB147_159.out, NB159_147.out, NB151_159.out, NB159_151.out, (by repeat (first | (with_reducible first | exact HB.out | apply below_alloc | apply pw_below_drewN | apply below_drew1 | refine below_set ?_ GE142.out | refine below_set ?_ GE143.out | refine below_set ?_ GE147.out | refine below_set ?_ GE151.out | refine below_set ?_ GE159.out) | exact HB.out))⟩)
                        · skip
                          rintro ⟨gb158, gb159⟩ w34 ⟨hS_, h0_, h1_, h2_, h3_, h4_, h5_, h6_, h7_, h8_, h9_, h10_, h11_, h12_, h13_, h14_, h15_, h16_, h17_, h18_, h19_, h20_, h21_, h22_, h23_, h24_, h25_, h26_, h27_, h28_⟩
                          have n0_ : Aside0 (w34.heap[gb142]? = some (.cells #[.int .u64 a0_0, .int .u64 a0_1] 24 (0, 0))) := ⟨h0_⟩
                          have n1_ : Aside0 (w34.heap[gb143]? = some (.cells #[.int .u64 a1_0, .int .u64 a1_1] 24 (0, 0))) := ⟨h1_⟩
                          have n2_ : Aside0 (w34.heap[gb147]? = some (.cells #[.int .u64 t144, .int .u64 t145] 24 (0, 0))) := ⟨h2_⟩
                          have n3_ : Aside0 (w34.heap[gb151]? = some (.cells #[.int .u64 t148, .int .u64 t149] 24 (0, 0))) := ⟨h3_⟩
                          have n4_ : Aside0 (w34.heap[gb158]? = some (.cells #[.int .u64 0, .int .u64 0, .bool false] 38 (0, 0))) := ⟨h4_⟩
                          have n5_ : Aside0 (w34.heap[gb159]? = some (.cells #[.int .u64 0, .int .u64 0, .bool false] 38 (0, 0))) := ⟨h5_⟩
                          have n6_ : Aside0 (w.heap.size ≤ gb158) := ⟨h6_⟩
                          have n7_ : Aside0 (w.heap.size ≤ gb158) := ⟨h7_⟩
                          have n8_ : Aside0 (gb142 ≠ gb158) := ⟨h8_⟩
                          have n9_ : Aside0 (gb158 ≠ gb142) := ⟨h9_⟩
                          have n10_ : Aside0 (gb143 ≠ gb158) := ⟨h10_⟩
                          have n11_ : Aside0 (gb158 ≠ gb143) := ⟨h11_⟩
                          have n12_ : Aside0 (gb147 ≠ gb158) := ⟨h12_⟩
                          have n13_ : Aside0 (gb158 ≠ gb147) := ⟨h13_⟩
                          have n14_ : Aside0 (gb151 ≠ gb158) := ⟨h14_⟩
                          have n15_ : Aside0 (gb158 ≠ gb151) := ⟨h15_⟩
                          have n16_ : Aside0 (gb159 ≠ gb158) := ⟨h16_⟩
                          have n17_ : Aside0 (gb158 ≠ gb159) := ⟨h17_⟩
                          have n18_ : Aside0 (w.heap.size ≤ gb159) := ⟨h18_⟩
                          have n19_ : Aside0 (w.heap.size ≤ gb159) := ⟨h19_⟩
                          have n20_ : Aside0 (gb142 ≠ gb159) := ⟨h20_⟩
                          have n21_ : Aside0 (gb159 ≠ gb142) := ⟨h21_⟩
                          have n22_ : Aside0 (gb143 ≠ gb159) := ⟨h22_⟩
                          have n23_ : Aside0 (gb159 ≠ gb143) := ⟨h23_⟩
                          have n24_ : Aside0 (gb147 ≠ gb159) := ⟨h24_⟩
                          have n25_ : Aside0 (gb159 ≠ gb147) := ⟨h25_⟩
                          have n26_ : Aside0 (gb151 ≠ gb159) := ⟨h26_⟩
                          have n27_ : Aside0 (gb159 ≠ gb151) := ⟨h27_⟩
                          have n28_ : Aside0 (Below w.heap.size w w34) := ⟨h28_⟩
                          clear BK142
                          clear BK143
                          clear BK147
                          clear BK151
                          clear HB
                          clear h0_ h1_ h2_ h3_ h4_ h5_ h6_ h7_ h8_ h9_ h10_ h11_ h12_ h13_ h14_ h15_ h16_ h17_ h18_ h19_ h20_ h21_ h22_ h23_ h24_ h25_ h26_ h27_ h28_
                          have BK142 := n0_
                          have BK143 := n1_
                          have BK147 := n2_
                          have BK151 := n3_
                          have BK158 := n4_
                          have BK159 := n5_
                          have GW158 := n6_
                          have GE158 := n7_
                          have NB142_158 := n8_
                          have NB158_142 := n9_
                          have NB143_158 := n10_
                          have NB158_143 := n11_
                          have NB147_158 := n12_
                          have NB158_147 := n13_
                          have NB151_158 := n14_
                          have NB158_151 := n15_
                          have NB159_158 := n16_
                          have NB158_159 := n17_
                          have GW159 := n18_
                          have GE159 := n19_
                          have NB142_159 := n20_
                          have NB159_142 := n21_
                          have NB143_159 := n22_
                          have NB159_143 := n23_
                          have NB147_159 := n24_
                          have NB159_147 := n25_
                          have NB151_159 := n26_
                          have NB159_151 := n27_
                          have HB := n28_
                          clear n0_ n1_ n2_ n3_ n4_ n5_ n6_ n7_ n8_ n9_ n10_ n11_ n12_ n13_ n14_ n15_ n16_ n17_ n18_ n19_ n20_ n21_ n22_ n23_ n24_ n25_ n26_ n27_ n28_
                          have hHeld : w34.cell? ⟨gb142, 0, none⟩ = some (.int .u64 a0_0) ∧ w34.cell? ⟨gb142, 1, none⟩ = some (.int .u64 a0_1) ∧ w34.cell? ⟨gb143, 0, none⟩ = some (.int .u64 a1_0) ∧ w34.cell? ⟨gb143, 1, none⟩ = some (.int .u64 a1_1) := hS_
                          refine norm_ (a' := ?_) ?_ ?_
                          rotate_left
                          · simp only [putAll, Act.put, List.setIfInBounds_toArray, List.set_cons_zero, List.set_cons_succ]
                            rfl
                          refine one_ (i := 2) (N := some 25) (bA 10 223) rfl rfl (one_of HT_.out (by kernel_rfl)) (by decide) (fun K hK => ?_)
                          refine goes_ Try.func19 (by kernel_rfl) rfl #[.agg #[.int .u64 a0_0, .int .u64 a0_1], .agg #[.int .u64 a1_0, .int .u64 a1_1]] (by rfl) rfl rfl (by (try simp only [List.map_toArray, List.map_cons, List.map_nil]); first | done | rfl | (simp only [List.length_drop, List.length_take]; rfl)) ?_
                          with_reducible refine (perigeeref1_AddTwo.calls a0_0 a0_1 a1_0 a1_1 t152 t153 t154 _ A5.out).mono ?_
                          rintro e w35 ⟨rfl, hb⟩
                          refine ⟨_, rfl, ?_⟩
                          have n0_ := Aside0.mk (blk_below (g := gb142) (o := .cells #[.int .u64 a0_0, .int .u64 a0_1] 24 (0, 0)) (by (with_reducible repeat (first | refine blk_drewN ?_ _ | refine blk_drew ?_ | refine blk_alloc ?_ _)); exact BK142.out) hb)
                          have n1_ := Aside0.mk (blk_below (g := gb143) (o := .cells #[.int .u64 a1_0, .int .u64 a1_1] 24 (0, 0)) (by (with_reducible repeat (first | refine blk_drewN ?_ _ | refine blk_drew ?_ | refine blk_alloc ?_ _)); exact BK143.out) hb)
                          have n2_ := Aside0.mk (blk_below (g := gb147) (o := .cells #[.int .u64 t144, .int .u64 t145] 24 (0, 0)) (by (with_reducible repeat (first | refine blk_drewN ?_ _ | refine blk_drew ?_ | refine blk_alloc ?_ _)); exact BK147.out) hb)
                          have n3_ := Aside0.mk (blk_below (g := gb151) (o := .cells #[.int .u64 t148, .int .u64 t149] 24 (0, 0)) (by (with_reducible repeat (first | refine blk_drewN ?_ _ | refine blk_drew ?_ | refine blk_alloc ?_ _)); exact BK151.out) hb)
                          have n4_ := Aside0.mk (blk_below (g := gb158) (o := .cells #[.int .u64 0, .int .u64 0, .bool false] 38 (0, 0)) (by (with_reducible repeat (first | refine blk_drewN ?_ _ | refine blk_drew ?_ | refine blk_alloc ?_ _)); exact BK158.out) hb)
                          have n5_ := Aside0.mk (blk_below (g := gb159) (o := .cells #[.int .u64 0, .int .u64 0, .bool false] 38 (0, 0)) (by (with_reducible repeat (first | refine blk_drewN ?_ _ | refine blk_drew ?_ | refine blk_alloc ?_ _)); exact BK159.out) hb)
                          have n6_ := Aside0.mk (below_step (by repeat (first | (with_reducible first | exact HB.out | apply below_alloc | apply pw_below_drewN | apply below_drew1 | refine below_set ?_ GE142.out | refine below_set ?_ GE143.out | refine below_set ?_ GE147.out | refine below_set ?_ GE151.out | refine below_set ?_ GE158.out | refine below_set ?_ GE159.out) | exact HB.out)) hb)
                          clear BK142
                          clear BK143
                          clear BK147
                          clear BK151
                          clear BK158
                          clear BK159
                          clear HB
                          have BK142 := n0_
                          have BK143 := n1_
                          have BK147 := n2_
                          have BK151 := n3_
                          have BK158 := n4_
                          have BK159 := n5_
                          have HB := n6_
                          clear n0_ n1_ n2_ n3_ n4_ n5_ n6_
                          (try clear hb)
                          (try clear hb2)
                          (try clear hk)
                          (try clear hi)
                          refine hK.out _ _ ⟨(blk_cell BK142.out 0).trans rfl, (blk_cell BK142.out 1).trans rfl, (blk_cell BK143.out 0).trans rfl, (blk_cell BK143.out 1).trans rfl⟩ (fun hHeld => ?_)
                          clear hK K
                          refine norm_ (a' := ?_) ?_ ?_
                          rotate_left
                          · show Act.put _ (some 25) _ = _
                            simp only [Act.put, List.setIfInBounds_toArray, List.set_cons_zero, List.set_cons_succ, i64_w, i32_w]
                            rfl
                          exact norm_ (by first | (simp only [putAll, Act.put, List.setIfInBounds_toArray, List.set_cons_zero, List.set_cons_succ]; done) | (simp only [putAll, Act.put, List.setIfInBounds_toArray, List.set_cons_zero, List.set_cons_succ]; rfl)) (hJ2_6_7 (gb158, gb159) _ ⟨hHeld, (by (with_reducible repeat (first | refine blk_drewN ?_ _ | refine blk_drew ?_ | refine blk_alloc ?_ _)); exact BK142.out), (by (with_reducible repeat (first | refine blk_drewN ?_ _ | refine blk_drew ?_ | refine blk_alloc ?_ _)); exact BK143.out), (by (with_reducible repeat (first | refine blk_drewN ?_ _ | refine blk_drew ?_ | refine blk_alloc ?_ _)); exact BK147.out), (by (with_reducible repeat (first | refine blk_drewN ?_ _ | refine blk_drew ?_ | refine blk_alloc ?_ _)); exact BK151.out), (by (with_reducible repeat (first | refine blk_drewN ?_ _ | refine blk_drew ?_ | refine blk_alloc ?_ _)); exact BK158.out), (by (with_reducible repeat (first | refine blk_drewN ?_ _ | refine blk_drew ?_ | refine blk_alloc ?_ _)); exact BK159.out), GW158.out, GE158.out, NB142_158.out, NB158_142.out, NB143_158.out, NB158_143.out, NB147_158.out, NB158_147.out, NB151_158.out, NB158_151.out, NB159_158.out, NB158_159.out, GW159.out, GE159.out, NB142_159.out, NB159_142.out, NB143_159.out, NB159_143.out, NB147_159.out, NB159_147.out, NB151_159.out, NB159_151.out, (by repeat (first | (with_reducible first | exact HB.out | apply below_alloc | apply pw_below_drewN | apply below_drew1 | refine below_set ?_ GE142.out | refine below_set ?_ GE143.out | refine below_set ?_ GE147.out | refine below_set ?_ GE151.out | refine below_set ?_ GE158.out | refine below_set ?_ GE159.out) | exact HB.out))⟩)
                      · skip
                        rintro gb159 w34 ⟨hS_, h0_, h1_, h2_, h3_, h4_, h5_, h6_, h7_, h8_, h9_, h10_, h11_, h12_, h13_, h14_, h15_⟩
                        have n0_ : Aside0 (w34.heap[gb142]? = some (.cells #[.int .u64 a0_0, .int .u64 a0_1] 24 (0, 0))) := ⟨h0_⟩
                        have n1_ : Aside0 (w34.heap[gb143]? = some (.cells #[.int .u64 a1_0, .int .u64 a1_1] 24 (0, 0))) := ⟨h1_⟩
                        have n2_ : Aside0 (w34.heap[gb147]? = some (.cells #[.int .u64 t144, .int .u64 t145] 24 (0, 0))) := ⟨h2_⟩
                        have n3_ : Aside0 (w34.heap[gb151]? = some (.cells #[.int .u64 t148, .int .u64 t149] 24 (0, 0))) := ⟨h3_⟩
                        have n4_ : Aside0 (w34.heap[gb159]? = some (.cells #[.int .u64 0, .int .u64 0, .bool false] 38 (0, 0))) := ⟨h4_⟩
                        have n5_ : Aside0 (w.heap.size ≤ gb159) := ⟨h5_⟩
                        have n6_ : Aside0 (w.heap.size ≤ gb159) := ⟨h6_⟩
                        have n7_ : Aside0 (gb142 ≠ gb159) := ⟨h7_⟩
                        have n8_ : Aside0 (gb159 ≠ gb142) := ⟨h8_⟩
                        have n9_ : Aside0 (gb143 ≠ gb159) := ⟨h9_⟩
                        have n10_ : Aside0 (gb159 ≠ gb143) := ⟨h10_⟩
                        have n11_ : Aside0 (gb147 ≠ gb159) := ⟨h11_⟩
                        have n12_ : Aside0 (gb159 ≠ gb147) := ⟨h12_⟩
                        have n13_ : Aside0 (gb151 ≠ gb159) := ⟨h13_⟩
                        have n14_ : Aside0 (gb159 ≠ gb151) := ⟨h14_⟩
                        have n15_ : Aside0 (Below w.heap.size w w34) := ⟨h15_⟩
                        clear BK142
                        clear BK143
                        clear BK147
                        clear BK151
                        clear HB
                        clear h0_ h1_ h2_ h3_ h4_ h5_ h6_ h7_ h8_ h9_ h10_ h11_ h12_ h13_ h14_ h15_
                        have BK142 := n0_
                        have BK143 := n1_
                        have BK147 := n2_
                        have BK151 := n3_
                        have BK159 := n4_
                        have GW159 := n5_
                        have GE159 := n6_
                        have NB142_159 := n7_
                        have NB159_142 := n8_
                        have NB143_159 := n9_
                        have NB159_143 := n10_
                        have NB147_159 := n11_
                        have NB159_147 := n12_
                        have NB151_159 := n13_
                        have NB159_151 := n14_
                        have HB := n15_
                        clear n0_ n1_ n2_ n3_ n4_ n5_ n6_ n7_ n8_ n9_ n10_ n11_ n12_ n13_ n14_ n15_
                        have hHeld : w34.cell? ⟨gb142, 0, none⟩ = some (.int .u64 a0_0) ∧ w34.cell? ⟨gb142, 1, none⟩ = some (.int .u64 a0_1) ∧ w34.cell? ⟨gb143, 0, none⟩ = some (.int .u64 a1_0) ∧ w34.cell? ⟨gb143, 1, none⟩ = some (.int .u64 a1_1) := hS_
                        refine norm_ (a' := ?_) ?_ ?_
                        rotate_left
                        · simp only [putAll, Act.put, List.setIfInBounds_toArray, List.set_cons_zero, List.set_cons_succ]
                          rfl
                        refine two_ (i := 5) (j := 6) (Ni := some 28) (Nj := some 9) (bA 10 191) (bA 10 223) rfl rfl rfl rfl (two_of HT_.out (by kernel_rfl)) (by decide) (by decide) (fun K hK => ?_) (fun K hK => ?_)
                        · skip
                          refine goes_ Try.func20 (by kernel_rfl) rfl #[.agg #[.int .u64 a0_0, .int .u64 a0_1], .agg #[.int .u64 a1_0, .int .u64 a1_1]] (by rfl) rfl rfl (by (try simp only [List.map_toArray, List.map_cons, List.map_nil]); first | done | rfl | (simp only [List.length_drop, List.length_take]; rfl)) ?_
                          with_reducible refine (perigeeref1_SubTwo.calls a0_0 a0_1 a1_0 a1_1 t155 t156 t157 _ A6.out).mono ?_
                          rintro e w35 ⟨rfl, hb⟩
                          refine ⟨_, rfl, ?_⟩
                          have n0_ := Aside0.mk (blk_below (g := gb142) (o := .cells #[.int .u64 a0_0, .int .u64 a0_1] 24 (0, 0)) (by (with_reducible repeat (first | refine blk_drewN ?_ _ | refine blk_drew ?_ | refine blk_alloc ?_ _)); exact BK142.out) hb)
                          have n1_ := Aside0.mk (blk_below (g := gb143) (o := .cells #[.int .u64 a1_0, .int .u64 a1_1] 24 (0, 0)) (by (with_reducible repeat (first | refine blk_drewN ?_ _ | refine blk_drew ?_ | refine blk_alloc ?_ _)); exact BK143.out) hb)
                          have n2_ := Aside0.mk (blk_below (g := gb147) (o := .cells #[.int .u64 t144, .int .u64 t145] 24 (0, 0)) (by (with_reducible repeat (first | refine blk_drewN ?_ _ | refine blk_drew ?_ | refine blk_alloc ?_ _)); exact BK147.out) hb)
                          have n3_ := Aside0.mk (blk_below (g := gb151) (o := .cells #[.int .u64 t148, .int .u64 t149] 24 (0, 0)) (by (with_reducible repeat (first | refine blk_drewN ?_ _ | refine blk_drew ?_ | refine blk_alloc ?_ _)); exact BK151.out) hb)
                          have n4_ := Aside0.mk (blk_below (g := gb159) (o := .cells #[.int .u64 0, .int .u64 0, .bool false] 38 (0, 0)) (by (with_reducible repeat (first | refine blk_drewN ?_ _ | refine blk_drew ?_ | refine blk_alloc ?_ _)); exact BK159.out) hb)
                          have n5_ := Aside0.mk (below_step (by repeat (first | (with_reducible first | exact HB.out | apply below_alloc | apply pw_below_drewN | apply below_drew1 | refine below_set ?_ GE142.out | refine below_set ?_ GE143.out | refine below_set ?_ GE147.out | refine below_set ?_ GE151.out | refine below_set ?_ GE159.out) | exact HB.out)) hb)
                          clear BK142
                          clear BK143
                          clear BK147
                          clear BK151
                          clear BK159
                          clear HB
                          have BK142 := n0_
                          have BK143 := n1_
                          have BK147 := n2_
                          have BK151 := n3_
                          have BK159 := n4_
                          have HB := n5_
                          clear n0_ n1_ n2_ n3_ n4_ n5_
                          (try clear hb)
                          (try clear hb2)
                          (try clear hk)
                          (try clear hi)
                          refine hK.out _ _ ⟨(blk_cell BK142.out 0).trans rfl, (blk_cell BK142.out 1).trans rfl, (blk_cell BK143.out 0).trans rfl, (blk_cell BK143.out 1).trans rfl⟩ (fun hHeld => ?_)
                          clear hK K
                          refine norm_ (a' := ?_) ?_ ?_
                          rotate_left
                          · show Act.put _ (some 28) _ = _
                            simp only [Act.put, List.setIfInBounds_toArray, List.set_cons_zero, List.set_cons_succ, i64_w, i32_w]
                            rfl
                          exact norm_ (by first | (simp only [putAll, Act.put, List.setIfInBounds_toArray, List.set_cons_zero, List.set_cons_succ]; done) | (simp only [putAll, Act.put, List.setIfInBounds_toArray, List.set_cons_zero, List.set_cons_succ]; rfl)) (hJ2_5_7 (gb159) _ ⟨hHeld, (by (with_reducible repeat (first | refine blk_drewN ?_ _ | refine blk_drew ?_ | refine blk_alloc ?_ _)); exact BK142.out), (by (with_reducible repeat (first | refine blk_drewN ?_ _ | refine blk_drew ?_ | refine blk_alloc ?_ _)); exact BK143.out), (by (with_reducible repeat (first | refine blk_drewN ?_ _ | refine blk_drew ?_ | refine blk_alloc ?_ _)); exact BK147.out), (by (with_reducible repeat (first | refine blk_drewN ?_ _ | refine blk_drew ?_ | refine blk_alloc ?_ _)); exact BK151.out), (by (with_reducible repeat (first | refine blk_drewN ?_ _ | refine blk_drew ?_ | refine blk_alloc ?_ _)); exact BK159.out), GW159.out, GE159.out, NB142_159.out, NB159_142.out, NB143_159.out, NB159_143.out, NB147_159.out, NB159_147.out, NB151_159.out, NB159_151.out, (by repeat (first | (with_reducible first | exact HB.out | apply below_alloc | apply pw_below_drewN | apply below_drew1 | refine below_set ?_ GE142.out | refine below_set ?_ GE143.out | refine below_set ?_ GE147.out | refine below_set ?_ GE151.out | refine below_set ?_ GE159.out) | exact HB.out))⟩)
                        · skip
                          refine box_step ?hg (N := 9) ?hd (cs := #[.int .u64 0, .int .u64 0, .bool false]) (t := 38) ?hr ?_; (case hd => rfl); (case hg => rfl); (case hr => first | (go_simp; done) | (go_simp; rfl))
                          intro gb158 hg w35 hbox hb
                          have n0_ := Aside0.mk (blk_below (g := gb142) (o := .cells #[.int .u64 a0_0, .int .u64 a0_1] 24 (0, 0)) (by (with_reducible repeat (first | refine blk_drewN ?_ _ | refine blk_drew ?_ | refine blk_alloc ?_ _)); exact BK142.out) hb)
                          have n1_ := Aside0.mk (blk_below (g := gb143) (o := .cells #[.int .u64 a1_0, .int .u64 a1_1] 24 (0, 0)) (by (with_reducible repeat (first | refine blk_drewN ?_ _ | refine blk_drew ?_ | refine blk_alloc ?_ _)); exact BK143.out) hb)
                          have n2_ := Aside0.mk (blk_below (g := gb147) (o := .cells #[.int .u64 t144, .int .u64 t145] 24 (0, 0)) (by (with_reducible repeat (first | refine blk_drewN ?_ _ | refine blk_drew ?_ | refine blk_alloc ?_ _)); exact BK147.out) hb)
                          have n3_ := Aside0.mk (blk_below (g := gb151) (o := .cells #[.int .u64 t148, .int .u64 t149] 24 (0, 0)) (by (with_reducible repeat (first | refine blk_drewN ?_ _ | refine blk_drew ?_ | refine blk_alloc ?_ _)); exact BK151.out) hb)
                          have n4_ := Aside0.mk (blk_below (g := gb159) (o := .cells #[.int .u64 0, .int .u64 0, .bool false] 38 (0, 0)) (by (with_reducible repeat (first | refine blk_drewN ?_ _ | refine blk_drew ?_ | refine blk_alloc ?_ _)); exact BK159.out) hb)
                          have n5_ := Aside0.mk (below_step (by repeat (first | (with_reducible first | exact HB.out | apply below_alloc | apply pw_below_drewN | apply below_drew1 | refine below_set ?_ GE142.out | refine below_set ?_ GE143.out | refine below_set ?_ GE147.out | refine below_set ?_ GE151.out | refine below_set ?_ GE159.out) | exact HB.out)) hb)
                          have n6_ := Aside0.mk (hbox)
                          have n7_ := Aside0.mk ((by rw [hg]; exact (below_size (by repeat (first | (with_reducible first | exact HB.out | apply below_alloc | apply pw_below_drewN | apply below_drew1 | refine below_set ?_ GE142.out | refine below_set ?_ GE143.out | refine below_set ?_ GE147.out | refine below_set ?_ GE151.out | refine below_set ?_ GE159.out) | exact HB.out))) : w.heap.size ≤ gb158))
                          have n8_ := Aside0.mk ((by rw [hg]; exact (below_size (by repeat (first | (with_reducible first | exact HB.out | apply below_alloc | apply pw_below_drewN | apply below_drew1 | refine below_set ?_ GE142.out | refine below_set ?_ GE143.out | refine below_set ?_ GE147.out | refine below_set ?_ GE151.out | refine below_set ?_ GE159.out) | exact HB.out))) : w.heap.size ≤ gb158))
                          have n9_ := Aside0.mk ((by rw [hg]; exact Nat.ne_of_lt (blk_lt (g := gb142) (o := .cells #[.int .u64 a0_0, .int .u64 a0_1] 24 (0, 0)) (by (with_reducible repeat (first | refine blk_drewN ?_ _ | refine blk_drew ?_ | refine blk_alloc ?_ _)); exact BK142.out)) : gb142 ≠ gb158))
                          have n10_ := Aside0.mk ((by rw [hg]; exact Nat.ne_of_gt (blk_lt (g := gb142) (o := .cells #[.int .u64 a0_0, .int .u64 a0_1] 24 (0, 0)) (by (with_reducible repeat (first | refine blk_drewN ?_ _ | refine blk_drew ?_ | refine blk_alloc ?_ _)); exact BK142.out)) : gb158 ≠ gb142))
                          have n11_ := Aside0.mk ((by rw [hg]; exact Nat.ne_of_lt (blk_lt (g := gb143) (o := .cells #[.int .u64 a1_0, .int .u64 a1_1] 24 (0, 0)) (by (with_reducible repeat (first | refine blk_drewN ?_ _ | refine blk_drew ?_ | refine blk_alloc ?_ _)); exact BK143.out)) : gb143 ≠ gb158))
                          have n12_ := Aside0.mk ((by rw [hg]; exact Nat.ne_of_gt (blk_lt (g := gb143) (o := .cells #[.int .u64 a1_0, .int .u64 a1_1] 24 (0, 0)) (by (with_reducible repeat (first | refine blk_drewN ?_ _ | refine blk_drew ?_ | refine blk_alloc ?_ _)); exact BK143.out)) : gb158 ≠ gb143))
                          have n13_ := Aside0.mk ((by rw [hg]; exact Nat.ne_of_lt (blk_lt (g := gb147) (o := .cells #[.int .u64 t144, .int .u64 t145] 24 (0, 0)) (by (with_reducible repeat (first | refine blk_drewN ?_ _ | refine blk_drew ?_ | refine blk_alloc ?_ _)); exact BK147.out)) : gb147 ≠ gb158))
                          have n14_ := Aside0.mk ((by rw [hg]; exact Nat.ne_of_gt (blk_lt (g := gb147) (o := .cells #[.int .u64 t144, .int .u64 t145] 24 (0, 0)) (by (with_reducible repeat (first | refine blk_drewN ?_ _ | refine blk_drew ?_ | refine blk_alloc ?_ _)); exact BK147.out)) : gb158 ≠ gb147))
                          have n15_ := Aside0.mk ((by rw [hg]; exact Nat.ne_of_lt (blk_lt (g := gb151) (o := .cells #[.int .u64 t148, .int .u64 t149] 24 (0, 0)) (by (with_reducible repeat (first | refine blk_drewN ?_ _ | refine blk_drew ?_ | refine blk_alloc ?_ _)); exact BK151.out)) : gb151 ≠ gb158))
                          have n16_ := Aside0.mk ((by rw [hg]; exact Nat.ne_of_gt (blk_lt (g := gb151) (o := .cells #[.int .u64 t148, .int .u64 t149] 24 (0, 0)) (by (with_reducible repeat (first | refine blk_drewN ?_ _ | refine blk_drew ?_ | refine blk_alloc ?_ _)); exact BK151.out)) : gb158 ≠ gb151))
                          have n17_ := Aside0.mk ((by rw [hg]; exact Nat.ne_of_lt (blk_lt (g := gb159) (o := .cells #[.int .u64 0, .int .u64 0, .bool false] 38 (0, 0)) (by (with_reducible repeat (first | refine blk_drewN ?_ _ | refine blk_drew ?_ | refine blk_alloc ?_ _)); exact BK159.out)) : gb159 ≠ gb158))
                          have n18_ := Aside0.mk ((by rw [hg]; exact Nat.ne_of_gt (blk_lt (g := gb159) (o := .cells #[.int .u64 0, .int .u64 0, .bool false] 38 (0, 0)) (by (with_reducible repeat (first | refine blk_drewN ?_ _ | refine blk_drew ?_ | refine blk_alloc ?_ _)); exact BK159.out)) : gb158 ≠ gb159))
                          clear BK142
                          clear BK143
                          clear BK147
                          clear BK151
                          clear BK159
                          clear HB
                          have BK142 := n0_
                          have BK143 := n1_
                          have BK147 := n2_
                          have BK151 := n3_
                          have BK159 := n4_
                          have HB := n5_
                          have BK158 := n6_
                          have GW158 := n7_
                          have GE158 := n8_
                          have NB142_158 := n9_
                          have NB158_142 := n10_
                          have NB143_158 := n11_
                          have NB158_143 := n12_
                          have NB147_158 := n13_
                          have NB158_147 := n14_
                          have NB151_158 := n15_
                          have NB158_151 := n16_
                          have NB159_158 := n17_
                          have NB158_159 := n18_
                          clear n0_ n1_ n2_ n3_ n4_ n5_ n6_ n7_ n8_ n9_ n10_ n11_ n12_ n13_ n14_ n15_ n16_ n17_ n18_
                          clear hb hbox hg
                          refine hK.out _ _ ⟨(blk_cell BK142.out 0).trans rfl, (blk_cell BK142.out 1).trans rfl, (blk_cell BK143.out 0).trans rfl, (blk_cell BK143.out 1).trans rfl⟩ (fun hHeld => ?_)
                          clear hK K
                          refine norm_ (a' := ?_) ?_ ?_
                          rotate_left
                          · show Act.put _ (some 9) _ = _
                            simp only [Act.put, List.setIfInBounds_toArray, List.set_cons_zero, List.set_cons_succ, i64_w, i32_w]
                            rfl
                          exact norm_ (by first | (simp only [putAll, Act.put, List.setIfInBounds_toArray, List.set_cons_zero, List.set_cons_succ]; done) | (simp only [putAll, Act.put, List.setIfInBounds_toArray, List.set_cons_zero, List.set_cons_succ]; rfl)) (hJ2_6_7 (gb158, gb159) _ ⟨hHeld, (by (with_reducible repeat (first | refine blk_drewN ?_ _ | refine blk_drew ?_ | refine blk_alloc ?_ _)); exact BK142.out), (by (with_reducible repeat (first | refine blk_drewN ?_ _ | refine blk_drew ?_ | refine blk_alloc ?_ _)); exact BK143.out), (by (with_reducible repeat (first | refine blk_drewN ?_ _ | refine blk_drew ?_ | refine blk_alloc ?_ _)); exact BK147.out), (by (with_reducible repeat (first | refine blk_drewN ?_ _ | refine blk_drew ?_ | refine blk_alloc ?_ _)); exact BK151.out), (by (with_reducible repeat (first | refine blk_drewN ?_ _ | refine blk_drew ?_ | refine blk_alloc ?_ _)); exact BK158.out), (by (with_reducible repeat (first | refine blk_drewN ?_ _ | refine blk_drew ?_ | refine blk_alloc ?_ _)); exact BK159.out), GW158.out, GE158.out, NB142_158.out, NB158_142.out, NB143_158.out, NB158_143.out, NB147_158.out, NB158_147.out, NB151_158.out, NB158_151.out, NB159_158.out, NB158_159.out, GW159.out, GE159.out, NB142_159.out, NB159_142.out, NB143_159.out, NB159_143.out, NB147_159.out, NB159_147.out, NB151_159.out, NB159_151.out, (by repeat (first | (with_reducible first | exact HB.out | apply below_alloc | apply pw_below_drewN | apply below_drew1 | refine below_set ?_ GE142.out | refine below_set ?_ GE143.out | refine below_set ?_ GE147.out | refine below_set ?_ GE151.out | refine below_set ?_ GE159.out | refine below_set ?_ GE158.out) | exact HB.out))⟩)
                    · skip
                      rintro gb158 w34 ⟨hS_, h0_, h1_, h2_, h3_, h4_, h5_, h6_, h7_, h8_, h9_, h10_, h11_, h12_, h13_, h14_, h15_⟩
                      have n0_ : Aside0 (w34.heap[gb142]? = some (.cells #[.int .u64 a0_0, .int .u64 a0_1] 24 (0, 0))) := ⟨h0_⟩
                      have n1_ : Aside0 (w34.heap[gb143]? = some (.cells #[.int .u64 a1_0, .int .u64 a1_1] 24 (0, 0))) := ⟨h1_⟩
                      have n2_ : Aside0 (w34.heap[gb147]? = some (.cells #[.int .u64 t144, .int .u64 t145] 24 (0, 0))) := ⟨h2_⟩
                      have n3_ : Aside0 (w34.heap[gb151]? = some (.cells #[.int .u64 t148, .int .u64 t149] 24 (0, 0))) := ⟨h3_⟩
                      have n4_ : Aside0 (w34.heap[gb158]? = some (.cells #[.int .u64 0, .int .u64 0, .bool false] 38 (0, 0))) := ⟨h4_⟩
                      have n5_ : Aside0 (w.heap.size ≤ gb158) := ⟨h5_⟩
                      have n6_ : Aside0 (w.heap.size ≤ gb158) := ⟨h6_⟩
                      have n7_ : Aside0 (gb142 ≠ gb158) := ⟨h7_⟩
                      have n8_ : Aside0 (gb158 ≠ gb142) := ⟨h8_⟩
                      have n9_ : Aside0 (gb143 ≠ gb158) := ⟨h9_⟩
                      have n10_ : Aside0 (gb158 ≠ gb143) := ⟨h10_⟩
                      have n11_ : Aside0 (gb147 ≠ gb158) := ⟨h11_⟩
                      have n12_ : Aside0 (gb158 ≠ gb147) := ⟨h12_⟩
                      have n13_ : Aside0 (gb151 ≠ gb158) := ⟨h13_⟩
                      have n14_ : Aside0 (gb158 ≠ gb151) := ⟨h14_⟩
                      have n15_ : Aside0 (Below w.heap.size w w34) := ⟨h15_⟩
                      clear BK142
                      clear BK143
                      clear BK147
                      clear BK151
                      clear HB
                      clear h0_ h1_ h2_ h3_ h4_ h5_ h6_ h7_ h8_ h9_ h10_ h11_ h12_ h13_ h14_ h15_
                      have BK142 := n0_
                      have BK143 := n1_
                      have BK147 := n2_
                      have BK151 := n3_
                      have BK158 := n4_
                      have GW158 := n5_
                      have GE158 := n6_
                      have NB142_158 := n7_
                      have NB158_142 := n8_
                      have NB143_158 := n9_
                      have NB158_143 := n10_
                      have NB147_158 := n11_
                      have NB158_147 := n12_
                      have NB151_158 := n13_
                      have NB158_151 := n14_
                      have HB := n15_
                      clear n0_ n1_ n2_ n3_ n4_ n5_ n6_ n7_ n8_ n9_ n10_ n11_ n12_ n13_ n14_ n15_
                      have hHeld : w34.cell? ⟨gb142, 0, none⟩ = some (.int .u64 a0_0) ∧ w34.cell? ⟨gb142, 1, none⟩ = some (.int .u64 a0_1) ∧ w34.cell? ⟨gb143, 0, none⟩ = some (.int .u64 a1_0) ∧ w34.cell? ⟨gb143, 1, none⟩ = some (.int .u64 a1_1) := hS_
                      refine norm_ (a' := ?_) ?_ ?_
                      rotate_left
                      · simp only [putAll, Act.put, List.setIfInBounds_toArray, List.set_cons_zero, List.set_cons_succ]
                        rfl
                      refine two_ (i := 5) (j := 7) (Ni := some 28) (Nj := some 10) (bA 10 127) (bA 10 223) rfl rfl rfl rfl (two_of HT_.out (by kernel_rfl)) (by decide) (by decide) (fun K hK => ?_) (fun K hK => ?_)
                      · skip
                        refine goes_ Try.func20 (by kernel_rfl) rfl #[.agg #[.int .u64 a0_0, .int .u64 a0_1], .agg #[.int .u64 a1_0, .int .u64 a1_1]] (by rfl) rfl rfl (by (try simp only [List.map_toArray, List.map_cons, List.map_nil]); first | done | rfl | (simp only [List.length_drop, List.length_take]; rfl)) ?_
                        with_reducible refine (perigeeref1_SubTwo.calls a0_0 a0_1 a1_0 a1_1 t155 t156 t157 _ A6.out).mono ?_
                        rintro e w35 ⟨rfl, hb⟩
                        refine ⟨_, rfl, ?_⟩
                        have n0_ := Aside0.mk (blk_below (g := gb142) (o := .cells #[.int .u64 a0_0, .int .u64 a0_1] 24 (0, 0)) (by (with_reducible repeat (first | refine blk_drewN ?_ _ | refine blk_drew ?_ | refine blk_alloc ?_ _)); exact BK142.out) hb)
                        have n1_ := Aside0.mk (blk_below (g := gb143) (o := .cells #[.int .u64 a1_0, .int .u64 a1_1] 24 (0, 0)) (by (with_reducible repeat (first | refine blk_drewN ?_ _ | refine blk_drew ?_ | refine blk_alloc ?_ _)); exact BK143.out) hb)
                        have n2_ := Aside0.mk (blk_below (g := gb147) (o := .cells #[.int .u64 t144, .int .u64 t145] 24 (0, 0)) (by (with_reducible repeat (first | refine blk_drewN ?_ _ | refine blk_drew ?_ | refine blk_alloc ?_ _)); exact BK147.out) hb)
                        have n3_ := Aside0.mk (blk_below (g := gb151) (o := .cells #[.int .u64 t148, .int .u64 t149] 24 (0, 0)) (by (with_reducible repeat (first | refine blk_drewN ?_ _ | refine blk_drew ?_ | refine blk_alloc ?_ _)); exact BK151.out) hb)
                        have n4_ := Aside0.mk (blk_below (g := gb158) (o := .cells #[.int .u64 0, .int .u64 0, .bool false] 38 (0, 0)) (by (with_reducible repeat (first | refine blk_drewN ?_ _ | refine blk_drew ?_ | refine blk_alloc ?_ _)); exact BK158.out) hb)
                        have n5_ := Aside0.mk (below_step (by repeat (first | (with_reducible first | exact HB.out | apply below_alloc | apply pw_below_drewN | apply below_drew1 | refine below_set ?_ GE142.out | refine below_set ?_ GE143.out | refine below_set ?_ GE147.out | refine below_set ?_ GE151.out | refine below_set ?_ GE158.out) | exact HB.out)) hb)
                        clear BK142
                        clear BK143
                        clear BK147
                        clear BK151
                        clear BK158
                        clear HB
                        have BK142 := n0_
                        have BK143 := n1_
                        have BK147 := n2_
                        have BK151 := n3_
                        have BK158 := n4_
                        have HB := n5_
                        clear n0_ n1_ n2_ n3_ n4_ n5_
                        (try clear hb)
                        (try clear hb2)
                        (try clear hk)
                        (try clear hi)
                        refine hK.out _ _ ⟨(blk_cell BK142.out 0).trans rfl, (blk_cell BK142.out 1).trans rfl, (blk_cell BK143.out 0).trans rfl, (blk_cell BK143.out 1).trans rfl⟩ (fun hHeld => ?_)
                        clear hK K
                        refine norm_ (a' := ?_) ?_ ?_
                        rotate_left
                        · show Act.put _ (some 28) _ = _
                          simp only [Act.put, List.setIfInBounds_toArray, List.set_cons_zero, List.set_cons_succ, i64_w, i32_w]
                          rfl
                        exact norm_ (by first | (simp only [putAll, Act.put, List.setIfInBounds_toArray, List.set_cons_zero, List.set_cons_succ]; done) | (simp only [putAll, Act.put, List.setIfInBounds_toArray, List.set_cons_zero, List.set_cons_succ]; rfl)) (hJ2_5_6 (gb158) _ ⟨hHeld, (by (with_reducible repeat (first | refine blk_drewN ?_ _ | refine blk_drew ?_ | refine blk_alloc ?_ _)); exact BK142.out), (by (with_reducible repeat (first | refine blk_drewN ?_ _ | refine blk_drew ?_ | refine blk_alloc ?_ _)); exact BK143.out), (by (with_reducible repeat (first | refine blk_drewN ?_ _ | refine blk_drew ?_ | refine blk_alloc ?_ _)); exact BK147.out), (by (with_reducible repeat (first | refine blk_drewN ?_ _ | refine blk_drew ?_ | refine blk_alloc ?_ _)); exact BK151.out), (by (with_reducible repeat (first | refine blk_drewN ?_ _ | refine blk_drew ?_ | refine blk_alloc ?_ _)); exact BK158.out), GW158.out, GE158.out, NB142_158.out, NB158_142.out, NB143_158.out, NB158_143.out, NB147_158.out, NB158_147.out, NB151_158.out, NB158_151.out, (by repeat (first | (with_reducible first | exact HB.out | apply below_alloc | apply pw_below_drewN | apply below_drew1 | refine below_set ?_ GE142.out | refine below_set ?_ GE143.out | refine below_set ?_ GE147.out | refine below_set ?_ GE151.out | refine below_set ?_ GE158.out) | exact HB.out))⟩)
                      · skip
                        refine box_step ?hg (N := 10) ?hd (cs := #[.int .u64 0, .int .u64 0, .bool false]) (t := 38) ?hr ?_; (case hd => rfl); (case hg => rfl); (case hr => first | (go_simp; done) | (go_simp; rfl))
                        intro gb159 hg w35 hbox hb
                        have n0_ := Aside0.mk (blk_below (g := gb142) (o := .cells #[.int .u64 a0_0, .int .u64 a0_1] 24 (0, 0)) (by (with_reducible repeat (first | refine blk_drewN ?_ _ | refine blk_drew ?_ | refine blk_alloc ?_ _)); exact BK142.out) hb)
                        have n1_ := Aside0.mk (blk_below (g := gb143) (o := .cells #[.int .u64 a1_0, .int .u64 a1_1] 24 (0, 0)) (by (with_reducible repeat (first | refine blk_drewN ?_ _ | refine blk_drew ?_ | refine blk_alloc ?_ _)); exact BK143.out) hb)
                        have n2_ := Aside0.mk (blk_below (g := gb147) (o := .cells #[.int .u64 t144, .int .u64 t145] 24 (0, 0)) (by (with_reducible repeat (first | refine blk_drewN ?_ _ | refine blk_drew ?_ | refine blk_alloc ?_ _)); exact BK147.out) hb)
                        have n3_ := Aside0.mk (blk_below (g := gb151) (o := .cells #[.int .u64 t148, .int .u64 t149] 24 (0, 0)) (by (with_reducible repeat (first | refine blk_drewN ?_ _ | refine blk_drew ?_ | refine blk_alloc ?_ _)); exact BK151.out) hb)
                        have n4_ := Aside0.mk (blk_below (g := gb158) (o := .cells #[.int .u64 0, .int .u64 0, .bool false] 38 (0, 0)) (by (with_reducible repeat (first | refine blk_drewN ?_ _ | refine blk_drew ?_ | refine blk_alloc ?_ _)); exact BK158.out) hb)
                        have n5_ := Aside0.mk (below_step (by repeat (first | (with_reducible first | exact HB.out | apply below_alloc | apply pw_below_drewN | apply below_drew1 | refine below_set ?_ GE142.out | refine below_set ?_ GE143.out | refine below_set ?_ GE147.out | refine below_set ?_ GE151.out | refine below_set ?_ GE158.out) | exact HB.out)) hb)
                        have n6_ := Aside0.mk (hbox)
                        have n7_ := Aside0.mk ((by rw [hg]; exact (below_size (by repeat (first | (with_reducible first | exact HB.out | apply below_alloc | apply pw_below_drewN | apply below_drew1 | refine below_set ?_ GE142.out | refine below_set ?_ GE143.out | refine below_set ?_ GE147.out | refine below_set ?_ GE151.out | refine below_set ?_ GE158.out) | exact HB.out))) : w.heap.size ≤ gb159))
                        have n8_ := Aside0.mk ((by rw [hg]; exact (below_size (by repeat (first | (with_reducible first | exact HB.out | apply below_alloc | apply pw_below_drewN | apply below_drew1 | refine below_set ?_ GE142.out | refine below_set ?_ GE143.out | refine below_set ?_ GE147.out | refine below_set ?_ GE151.out | refine below_set ?_ GE158.out) | exact HB.out))) : w.heap.size ≤ gb159))
                        have n9_ := Aside0.mk ((by rw [hg]; exact Nat.ne_of_lt (blk_lt (g := gb142) (o := .cells #[.int .u64 a0_0, .int .u64 a0_1] 24 (0, 0)) (by (with_reducible repeat (first | refine blk_drewN ?_ _ | refine blk_drew ?_ | refine blk_alloc ?_ _)); exact BK142.out)) : gb142 ≠ gb159))
                        have n10_ := Aside0.mk ((by rw [hg]; exact Nat.ne_of_gt (blk_lt (g := gb142) (o := .cells #[.int .u64 a0_0, .int .u64 a0_1] 24 (0, 0)) (by (with_reducible repeat (first | refine blk_drewN ?_ _ | refine blk_drew ?_ | refine blk_alloc ?_ _)); exact BK142.out)) : gb159 ≠ gb142))
                        have n11_ := Aside0.mk ((by rw [hg]; exact Nat.ne_of_lt (blk_lt (g := gb143) (o := .cells #[.int .u64 a1_0, .int .u64 a1_1] 24 (0, 0)) (by (with_reducible repeat (first | refine blk_drewN ?_ _ | refine blk_drew ?_ | refine blk_alloc ?_ _)); exact BK143.out)) : gb143 ≠ gb159))
                        have n12_ := Aside0.mk ((by rw [hg]; exact Nat.ne_of_gt (blk_lt (g := gb143) (o := .cells #[.int .u64 a1_0, .int .u64 a1_1] 24 (0, 0)) (by (with_reducible repeat (first | refine blk_drewN ?_ _ | refine blk_drew ?_ | refine blk_alloc ?_ _)); exact BK143.out)) : gb159 ≠ gb143))
                        have n13_ := Aside0.mk ((by rw [hg]; exact Nat.ne_of_lt (blk_lt (g := gb147) (o := .cells #[.int .u64 t144, .int .u64 t145] 24 (0, 0)) (by (with_reducible repeat (first | refine blk_drewN ?_ _ | refine blk_drew ?_ | refine blk_alloc ?_ _)); exact BK147.out)) : gb147 ≠ gb159))
                        have n14_ := Aside0.mk ((by rw [hg]; exact Nat.ne_of_gt (blk_lt (g := gb147) (o := .cells #[.int .u64 t144, .int .u64 t145] 24 (0, 0)) (by (with_reducible repeat (first | refine blk_drewN ?_ _ | refine blk_drew ?_ | refine blk_alloc ?_ _)); exact BK147.out)) : gb159 ≠ gb147))
                        have n15_ := Aside0.mk ((by rw [hg]; exact Nat.ne_of_lt (blk_lt (g := gb151) (o := .cells #[.int .u64 t148, .int .u64 t149] 24 (0, 0)) (by (with_reducible repeat (first | refine blk_drewN ?_ _ | refine blk_drew ?_ | refine blk_alloc ?_ _)); exact BK151.out)) : gb151 ≠ gb159))
                        have n16_ := Aside0.mk ((by rw [hg]; exact Nat.ne_of_gt (blk_lt (g := gb151) (o := .cells #[.int .u64 t148, .int .u64 t149] 24 (0, 0)) (by (with_reducible repeat (first | refine blk_drewN ?_ _ | refine blk_drew ?_ | refine blk_alloc ?_ _)); exact BK151.out)) : gb159 ≠ gb151))
                        have n17_ := Aside0.mk ((by rw [hg]; exact Nat.ne_of_lt (blk_lt (g := gb158) (o := .cells #[.int .u64 0, .int .u64 0, .bool false] 38 (0, 0)) (by (with_reducible repeat (first | refine blk_drewN ?_ _ | refine blk_drew ?_ | refine blk_alloc ?_ _)); exact BK158.out)) : gb158 ≠ gb159))
                        have n18_ := Aside0.mk ((by rw [hg]; exact Nat.ne_of_gt (blk_lt (g := gb158) (o := .cells #[.int .u64 0, .int .u64 0, .bool false] 38 (0, 0)) (by (with_reducible repeat (first | refine blk_drewN ?_ _ | refine blk_drew ?_ | refine blk_alloc ?_ _)); exact BK158.out)) : gb159 ≠ gb158))
                        clear BK142
                        clear BK143
                        clear BK147
                        clear BK151
                        clear BK158
                        clear HB
                        have BK142 := n0_
                        have BK143 := n1_
                        have BK147 := n2_
                        have BK151 := n3_
                        have BK158 := n4_
                        have HB := n5_
                        have BK159 := n6_
                        have GW159 := n7_
                        have GE159 := n8_
                        have NB142_159 := n9_
                        have NB159_142 := n10_
                        have NB143_159 := n11_
                        have NB159_143 := n12_
                        have NB147_159 := n13_
                        have NB159_147 := n14_
                        have NB151_159 := n15_
                        have NB159_151 := n16_
                        have NB158_159 := n17_
                        have NB159_158 := n18_
                        clear n0_ n1_ n2_ n3_ n4_ n5_ n6_ n7_ n8_ n9_ n10_ n11_ n12_ n13_ n14_ n15_ n16_ n17_ n18_
                        clear hb hbox hg
                        refine hK.out _ _ ⟨(blk_cell BK142.out 0).trans rfl, (blk_cell BK142.out 1).trans rfl, (blk_cell BK143.out 0).trans rfl, (blk_cell BK143.out 1).trans rfl⟩ (fun hHeld => ?_)
                        clear hK K
                        refine norm_ (a' := ?_) ?_ ?_
                        rotate_left
                        · show Act.put _ (some 10) _ = _
                          simp only [Act.put, List.setIfInBounds_toArray, List.set_cons_zero, List.set_cons_succ, i64_w, i32_w]
                          rfl
                        exact norm_ (by first | (simp only [putAll, Act.put, List.setIfInBounds_toArray, List.set_cons_zero, List.set_cons_succ]; done) | (simp only [putAll, Act.put, List.setIfInBounds_toArray, List.set_cons_zero, List.set_cons_succ]; rfl)) (hJ2_6_7 (gb158, gb159) _ ⟨hHeld, (by (with_reducible repeat (first | refine blk_drewN ?_ _ | refine blk_drew ?_ | refine blk_alloc ?_ _)); exact BK142.out), (by (with_reducible repeat (first | refine blk_drewN ?_ _ | refine blk_drew ?_ | refine blk_alloc ?_ _)); exact BK143.out), (by (with_reducible repeat (first | refine blk_drewN ?_ _ | refine blk_drew ?_ | refine blk_alloc ?_ _)); exact BK147.out), (by (with_reducible repeat (first | refine blk_drewN ?_ _ | refine blk_drew ?_ | refine blk_alloc ?_ _)); exact BK151.out), (by (with_reducible repeat (first | refine blk_drewN ?_ _ | refine blk_drew ?_ | refine blk_alloc ?_ _)); exact BK158.out), (by (with_reducible repeat (first | refine blk_drewN ?_ _ | refine blk_drew ?_ | refine blk_alloc ?_ _)); exact BK159.out), GW158.out, GE158.out, NB142_158.out, NB158_142.out, NB143_158.out, NB158_143.out, NB147_158.out, NB158_147.out, NB151_158.out, NB158_151.out, NB159_158.out, NB158_159.out, GW159.out, GE159.out, NB142_159.out, NB159_142.out, NB143_159.out, NB159_143.out, NB147_159.out, NB159_147.out, NB151_159.out, NB159_151.out, (by repeat (first | (with_reducible first | exact HB.out | apply below_alloc | apply pw_below_drewN | apply below_drew1 | refine below_set ?_ GE142.out | refine below_set ?_ GE143.out | refine below_set ?_ GE147.out | refine below_set ?_ GE151.out | refine below_set ?_ GE158.out | refine below_set ?_ GE159.out) | exact HB.out))⟩)
                  · skip
                    rintro _ w34 ⟨hS_, h0_, h1_, h2_, h3_, h4_⟩
                    have n0_ : Aside0 (w34.heap[gb142]? = some (.cells #[.int .u64 a0_0, .int .u64 a0_1] 24 (0, 0))) := ⟨h0_⟩
                    have n1_ : Aside0 (w34.heap[gb143]? = some (.cells #[.int .u64 a1_0, .int .u64 a1_1] 24 (0, 0))) := ⟨h1_⟩
                    have n2_ : Aside0 (w34.heap[gb147]? = some (.cells #[.int .u64 t144, .int .u64 t145] 24 (0, 0))) := ⟨h2_⟩
                    have n3_ : Aside0 (w34.heap[gb151]? = some (.cells #[.int .u64 t148, .int .u64 t149] 24 (0, 0))) := ⟨h3_⟩
                    have n4_ : Aside0 (Below w.heap.size w w34) := ⟨h4_⟩
                    clear BK142
                    clear BK143
                    clear BK147
                    clear BK151
                    clear HB
                    clear h0_ h1_ h2_ h3_ h4_
                    have BK142 := n0_
                    have BK143 := n1_
                    have BK147 := n2_
                    have BK151 := n3_
                    have HB := n4_
                    clear n0_ n1_ n2_ n3_ n4_
                    have hHeld : w34.cell? ⟨gb142, 0, none⟩ = some (.int .u64 a0_0) ∧ w34.cell? ⟨gb142, 1, none⟩ = some (.int .u64 a0_1) ∧ w34.cell? ⟨gb143, 0, none⟩ = some (.int .u64 a1_0) ∧ w34.cell? ⟨gb143, 1, none⟩ = some (.int .u64 a1_1) := hS_
                    refine norm_ (a' := ?_) ?_ ?_
                    rotate_left
                    · simp only [putAll, Act.put, List.setIfInBounds_toArray, List.set_cons_zero, List.set_cons_succ]
                      rfl
                    refine two_ (i := 6) (j := 7) (Ni := some 9) (Nj := some 10) (bA 10 127) (bA 10 191) rfl rfl rfl rfl (two_of HT_.out (by kernel_rfl)) (by decide) (by decide) (fun K hK => ?_) (fun K hK => ?_)
                    · skip
                      refine box_step ?hg (N := 9) ?hd (cs := #[.int .u64 0, .int .u64 0, .bool false]) (t := 38) ?hr ?_; (case hd => rfl); (case hg => rfl); (case hr => first | (go_simp; done) | (go_simp; rfl))
                      intro gb158 hg w35 hbox hb
                      have n0_ := Aside0.mk (blk_below (g := gb142) (o := .cells #[.int .u64 a0_0, .int .u64 a0_1] 24 (0, 0)) (by (with_reducible repeat (first | refine blk_drewN ?_ _ | refine blk_drew ?_ | refine blk_alloc ?_ _)); exact BK142.out) hb)
                      have n1_ := Aside0.mk (blk_below (g := gb143) (o := .cells #[.int .u64 a1_0, .int .u64 a1_1] 24 (0, 0)) (by (with_reducible repeat (first | refine blk_drewN ?_ _ | refine blk_drew ?_ | refine blk_alloc ?_ _)); exact BK143.out) hb)
                      have n2_ := Aside0.mk (blk_below (g := gb147) (o := .cells #[.int .u64 t144, .int .u64 t145] 24 (0, 0)) (by (with_reducible repeat (first | refine blk_drewN ?_ _ | refine blk_drew ?_ | refine blk_alloc ?_ _)); exact BK147.out) hb)
                      have n3_ := Aside0.mk (blk_below (g := gb151) (o := .cells #[.int .u64 t148, .int .u64 t149] 24 (0, 0)) (by (with_reducible repeat (first | refine blk_drewN ?_ _ | refine blk_drew ?_ | refine blk_alloc ?_ _)); exact BK151.out) hb)
                      have n4_ := Aside0.mk (below_step (by repeat (first | (with_reducible first | exact HB.out | apply below_alloc | apply pw_below_drewN | apply below_drew1 | refine below_set ?_ GE142.out | refine below_set ?_ GE143.out | refine below_set ?_ GE147.out | refine below_set ?_ GE151.out) | exact HB.out)) hb)
                      have n5_ := Aside0.mk (hbox)
                      have n6_ := Aside0.mk ((by rw [hg]; exact (below_size (by repeat (first | (with_reducible first | exact HB.out | apply below_alloc | apply pw_below_drewN | apply below_drew1 | refine below_set ?_ GE142.out | refine below_set ?_ GE143.out | refine below_set ?_ GE147.out | refine below_set ?_ GE151.out) | exact HB.out))) : w.heap.size ≤ gb158))
                      have n7_ := Aside0.mk ((by rw [hg]; exact (below_size (by repeat (first | (with_reducible first | exact HB.out | apply below_alloc | apply pw_below_drewN | apply below_drew1 | refine below_set ?_ GE142.out | refine below_set ?_ GE143.out | refine below_set ?_ GE147.out | refine below_set ?_ GE151.out) | exact HB.out))) : w.heap.size ≤ gb158))
                      have n8_ := Aside0.mk ((by rw [hg]; exact Nat.ne_of_lt (blk_lt (g := gb142) (o := .cells #[.int .u64 a0_0, .int .u64 a0_1] 24 (0, 0)) (by (with_reducible repeat (first | refine blk_drewN ?_ _ | refine blk_drew ?_ | refine blk_alloc ?_ _)); exact BK142.out)) : gb142 ≠ gb158))
                      have n9_ := Aside0.mk ((by rw [hg]; exact Nat.ne_of_gt (blk_lt (g := gb142) (o := .cells #[.int .u64 a0_0, .int .u64 a0_1] 24 (0, 0)) (by (with_reducible repeat (first | refine blk_drewN ?_ _ | refine blk_drew ?_ | refine blk_alloc ?_ _)); exact BK142.out)) : gb158 ≠ gb142))
                      have n10_ := Aside0.mk ((by rw [hg]; exact Nat.ne_of_lt (blk_lt (g := gb143) (o := .cells #[.int .u64 a1_0, .int .u64 a1_1] 24 (0, 0)) (by (with_reducible repeat (first | refine blk_drewN ?_ _ | refine blk_drew ?_ | refine blk_alloc ?_ _)); exact BK143.out)) : gb143 ≠ gb158))
                      have n11_ := Aside0.mk ((by rw [hg]; exact Nat.ne_of_gt (blk_lt (g := gb143) (o := .cells #[.int .u64 a1_0, .int .u64 a1_1] 24 (0, 0)) (by (with_reducible repeat (first | refine blk_drewN ?_ _ | refine blk_drew ?_ | refine blk_alloc ?_ _)); exact BK143.out)) : gb158 ≠ gb143))
                      have n12_ := Aside0.mk ((by rw [hg]; exact Nat.ne_of_lt (blk_lt (g := gb147) (o := .cells #[.int .u64 t144, .int .u64 t145] 24 (0, 0)) (by (with_reducible repeat (first | refine blk_drewN ?_ _ | refine blk_drew ?_ | refine blk_alloc ?_ _)); exact BK147.out)) : gb147 ≠ gb158))
                      have n13_ := Aside0.mk ((by rw [hg]; exact Nat.ne_of_gt (blk_lt (g := gb147) (o := .cells #[.int .u64 t144, .int .u64 t145] 24 (0, 0)) (by (with_reducible repeat (first | refine blk_drewN ?_ _ | refine blk_drew ?_ | refine blk_alloc ?_ _)); exact BK147.out)) : gb158 ≠ gb147))
                      have n14_ := Aside0.mk ((by rw [hg]; exact Nat.ne_of_lt (blk_lt (g := gb151) (o := .cells #[.int .u64 t148, .int .u64 t149] 24 (0, 0)) (by (with_reducible repeat (first | refine blk_drewN ?_ _ | refine blk_drew ?_ | refine blk_alloc ?_ _)); exact BK151.out)) : gb151 ≠ gb158))
                      have n15_ := Aside0.mk ((by rw [hg]; exact Nat.ne_of_gt (blk_lt (g := gb151) (o := .cells #[.int .u64 t148, .int .u64 t149] 24 (0, 0)) (by (with_reducible repeat (first | refine blk_drewN ?_ _ | refine blk_drew ?_ | refine blk_alloc ?_ _)); exact BK151.out)) : gb158 ≠ gb151))
                      clear BK142
                      clear BK143
                      clear BK147
                      clear BK151
                      clear HB
                      have BK142 := n0_
                      have BK143 := n1_
                      have BK147 := n2_
                      have BK151 := n3_
                      have HB := n4_
                      have BK158 := n5_
                      have GW158 := n6_
                      have GE158 := n7_
                      have NB142_158 := n8_
                      have NB158_142 := n9_
                      have NB143_158 := n10_
                      have NB158_143 := n11_
                      have NB147_158 := n12_
                      have NB158_147 := n13_
                      have NB151_158 := n14_
                      have NB158_151 := n15_
                      clear n0_ n1_ n2_ n3_ n4_ n5_ n6_ n7_ n8_ n9_ n10_ n11_ n12_ n13_ n14_ n15_
                      clear hb hbox hg
                      refine hK.out _ _ ⟨(blk_cell BK142.out 0).trans rfl, (blk_cell BK142.out 1).trans rfl, (blk_cell BK143.out 0).trans rfl, (blk_cell BK143.out 1).trans rfl⟩ (fun hHeld => ?_)
                      clear hK K
                      refine norm_ (a' := ?_) ?_ ?_
                      rotate_left
                      · show Act.put _ (some 9) _ = _
                        simp only [Act.put, List.setIfInBounds_toArray, List.set_cons_zero, List.set_cons_succ, i64_w, i32_w]
                        rfl
                      exact norm_ (by first | (simp only [putAll, Act.put, List.setIfInBounds_toArray, List.set_cons_zero, List.set_cons_succ]; done) | (simp only [putAll, Act.put, List.setIfInBounds_toArray, List.set_cons_zero, List.set_cons_succ]; rfl)) (hJ2_5_6 (gb158) _ ⟨hHeld, (by (with_reducible repeat (first | refine blk_drewN ?_ _ | refine blk_drew ?_ | refine blk_alloc ?_ _)); exact BK142.out), (by (with_reducible repeat (first | refine blk_drewN ?_ _ | refine blk_drew ?_ | refine blk_alloc ?_ _)); exact BK143.out), (by (with_reducible repeat (first | refine blk_drewN ?_ _ | refine blk_drew ?_ | refine blk_alloc ?_ _)); exact BK147.out), (by (with_reducible repeat (first | refine blk_drewN ?_ _ | refine blk_drew ?_ | refine blk_alloc ?_ _)); exact BK151.out), (by (with_reducible repeat (first | refine blk_drewN ?_ _ | refine blk_drew ?_ | refine blk_alloc ?_ _)); exact BK158.out), GW158.out, GE158.out, NB142_158.out, NB158_142.out, NB143_158.out, NB158_143.out, NB147_158.out, NB158_147.out, NB151_158.out, NB158_151.out, (by repeat (first | (with_reducible first | exact HB.out | apply below_alloc | apply pw_below_drewN | apply below_drew1 | refine below_set ?_ GE142.out | refine below_set ?_ GE143.out | refine below_set ?_ GE147.out | refine below_set ?_ GE151.out | refine below_set ?_ GE158.out) | exact HB.out))⟩)
                    · skip
                      refine box_step ?hg (N := 10) ?hd (cs := #[.int .u64 0, .int .u64 0, .bool false]) (t := 38) ?hr ?_; (case hd => rfl); (case hg => rfl); (case hr => first | (go_simp; done) | (go_simp; rfl))
                      intro gb159 hg w35 hbox hb
                      have n0_ := Aside0.mk (blk_below (g := gb142) (o := .cells #[.int .u64 a0_0, .int .u64 a0_1] 24 (0, 0)) (by (with_reducible repeat (first | refine blk_drewN ?_ _ | refine blk_drew ?_ | refine blk_alloc ?_ _)); exact BK142.out) hb)
                      have n1_ := Aside0.mk (blk_below (g := gb143) (o := .cells #[.int .u64 a1_0, .int .u64 a1_1] 24 (0, 0)) (by (with_reducible repeat (first | refine blk_drewN ?_ _ | refine blk_drew ?_ | refine blk_alloc ?_ _)); exact BK143.out) hb)
                      have n2_ := Aside0.mk (blk_below (g := gb147) (o := .cells #[.int .u64 t144, .int .u64 t145] 24 (0, 0)) (by (with_reducible repeat (first | refine blk_drewN ?_ _ | refine blk_drew ?_ | refine blk_alloc ?_ _)); exact BK147.out) hb)
                      have n3_ := Aside0.mk (blk_below (g := gb151) (o := .cells #[.int .u64 t148, .int .u64 t149] 24 (0, 0)) (by (with_reducible repeat (first | refine blk_drewN ?_ _ | refine blk_drew ?_ | refine blk_alloc ?_ _)); exact BK151.out) hb)
                      have n4_ := Aside0.mk (below_step (by repeat (first | (with_reducible first | exact HB.out | apply below_alloc | apply pw_below_drewN | apply below_drew1 | refine below_set ?_ GE142.out | refine below_set ?_ GE143.out | refine below_set ?_ GE147.out | refine below_set ?_ GE151.out) | exact HB.out)) hb)
                      have n5_ := Aside0.mk (hbox)
                      have n6_ := Aside0.mk ((by rw [hg]; exact (below_size (by repeat (first | (with_reducible first | exact HB.out | apply below_alloc | apply pw_below_drewN | apply below_drew1 | refine below_set ?_ GE142.out | refine below_set ?_ GE143.out | refine below_set ?_ GE147.out | refine below_set ?_ GE151.out) | exact HB.out))) : w.heap.size ≤ gb159))
                      have n7_ := Aside0.mk ((by rw [hg]; exact (below_size (by repeat (first | (with_reducible first | exact HB.out | apply below_alloc | apply pw_below_drewN | apply below_drew1 | refine below_set ?_ GE142.out | refine below_set ?_ GE143.out | refine below_set ?_ GE147.out | refine below_set ?_ GE151.out) | exact HB.out))) : w.heap.size ≤ gb159))
                      have n8_ := Aside0.mk ((by rw [hg]; exact Nat.ne_of_lt (blk_lt (g := gb142) (o := .cells #[.int .u64 a0_0, .int .u64 a0_1] 24 (0, 0)) (by (with_reducible repeat (first | refine blk_drewN ?_ _ | refine blk_drew ?_ | refine blk_alloc ?_ _)); exact BK142.out)) : gb142 ≠ gb159))
                      have n9_ := Aside0.mk ((by rw [hg]; exact Nat.ne_of_gt (blk_lt (g := gb142) (o := .cells #[.int .u64 a0_0, .int .u64 a0_1] 24 (0, 0)) (by (with_reducible repeat (first | refine blk_drewN ?_ _ | refine blk_drew ?_ | refine blk_alloc ?_ _)); exact BK142.out)) : gb159 ≠ gb142))
                      have n10_ := Aside0.mk ((by rw [hg]; exact Nat.ne_of_lt (blk_lt (g := gb143) (o := .cells #[.int .u64 a1_0, .int .u64 a1_1] 24 (0, 0)) (by (with_reducible repeat (first | refine blk_drewN ?_ _ | refine blk_drew ?_ | refine blk_alloc ?_ _)); exact BK143.out)) : gb143 ≠ gb159))
                      have n11_ := Aside0.mk ((by rw [hg]; exact Nat.ne_of_gt (blk_lt (g := gb143) (o := .cells #[.int .u64 a1_0, .int .u64 a1_1] 24 (0, 0)) (by (with_reducible repeat (first | refine blk_drewN ?_ _ | refine blk_drew ?_ | refine blk_alloc ?_ _)); exact BK143.out)) : gb159 ≠ gb143))
                      have n12_ := Aside0.mk ((by rw [hg]; exact Nat.ne_of_lt (blk_lt (g := gb147) (o := .cells #[.int .u64 t144, .int .u64 t145] 24 (0, 0)) (by (with_reducible repeat (first | refine blk_drewN ?_ _ | refine blk_drew ?_ | refine blk_alloc ?_ _)); exact BK147.out)) : gb147 ≠ gb159))
                      have n13_ := Aside0.mk ((by rw [hg]; exact Nat.ne_of_gt (blk_lt (g := gb147) (o := .cells #[.int .u64 t144, .int .u64 t145] 24 (0, 0)) (by (with_reducible repeat (first | refine blk_drewN ?_ _ | refine blk_drew ?_ | refine blk_alloc ?_ _)); exact BK147.out)) : gb159 ≠ gb147))
                      have n14_ := Aside0.mk ((by rw [hg]; exact Nat.ne_of_lt (blk_lt (g := gb151) (o := .cells #[.int .u64 t148, .int .u64 t149] 24 (0, 0)) (by (with_reducible repeat (first | refine blk_drewN ?_ _ | refine blk_drew ?_ | refine blk_alloc ?_ _)); exact BK151.out)) : gb151 ≠ gb159))
                      have n15_ := Aside0.mk ((by rw [hg]; exact Nat.ne_of_gt (blk_lt (g := gb151) (o := .cells #[.int .u64 t148, .int .u64 t149] 24 (0, 0)) (by (with_reducible repeat (first | refine blk_drewN ?_ _ | refine blk_drew ?_ | refine blk_alloc ?_ _)); exact BK151.out)) : gb159 ≠ gb151))
                      clear BK142
                      clear BK143
                      clear BK147
                      clear BK151
                      clear HB
                      have BK142 := n0_
                      have BK143 := n1_
                      have BK147 := n2_
                      have BK151 := n3_
                      have HB := n4_
                      have BK159 := n5_
                      have GW159 := n6_
                      have GE159 := n7_
                      have NB142_159 := n8_
                      have NB159_142 := n9_
                      have NB143_159 := n10_
                      have NB159_143 := n11_
                      have NB147_159 := n12_
                      have NB159_147 := n13_
                      have NB151_159 := n14_
                      have NB159_151 := n15_
                      clear n0_ n1_ n2_ n3_ n4_ n5_ n6_ n7_ n8_ n9_ n10_ n11_ n12_ n13_ n14_ n15_
                      clear hb hbox hg
                      refine hK.out _ _ ⟨(blk_cell BK142.out 0).trans rfl, (blk_cell BK142.out 1).trans rfl, (blk_cell BK143.out 0).trans rfl, (blk_cell BK143.out 1).trans rfl⟩ (fun hHeld => ?_)
                      clear hK K
                      refine norm_ (a' := ?_) ?_ ?_
                      rotate_left
                      · show Act.put _ (some 10) _ = _
                        simp only [Act.put, List.setIfInBounds_toArray, List.set_cons_zero, List.set_cons_succ, i64_w, i32_w]
                        rfl
                      exact norm_ (by first | (simp only [putAll, Act.put, List.setIfInBounds_toArray, List.set_cons_zero, List.set_cons_succ]; done) | (simp only [putAll, Act.put, List.setIfInBounds_toArray, List.set_cons_zero, List.set_cons_succ]; rfl)) (hJ2_5_7 (gb159) _ ⟨hHeld, (by (with_reducible repeat (first | refine blk_drewN ?_ _ | refine blk_drew ?_ | refine blk_alloc ?_ _)); exact BK142.out), (by (with_reducible repeat (first | refine blk_drewN ?_ _ | refine blk_drew ?_ | refine blk_alloc ?_ _)); exact BK143.out), (by (with_reducible repeat (first | refine blk_drewN ?_ _ | refine blk_drew ?_ | refine blk_alloc ?_ _)); exact BK147.out), (by (with_reducible repeat (first | refine blk_drewN ?_ _ | refine blk_drew ?_ | refine blk_alloc ?_ _)); exact BK151.out), (by (with_reducible repeat (first | refine blk_drewN ?_ _ | refine blk_drew ?_ | refine blk_alloc ?_ _)); exact BK159.out), GW159.out, GE159.out, NB142_159.out, NB159_142.out, NB143_159.out, NB159_143.out, NB147_159.out, NB159_147.out, NB151_159.out, NB159_151.out, (by repeat (first | (with_reducible first | exact HB.out | apply below_alloc | apply pw_below_drewN | apply below_drew1 | refine below_set ?_ GE142.out | refine below_set ?_ GE143.out | refine below_set ?_ GE147.out | refine below_set ?_ GE151.out | refine below_set ?_ GE159.out) | exact HB.out))⟩)
                · skip
                  rintro ⟨gb158, gb159⟩ w35 ⟨hS_, h0_, h1_, h2_, h3_, h4_, h5_, h6_, h7_, h8_, h9_, h10_, h11_, h12_, h13_, h14_, h15_, h16_, h17_, h18_, h19_, h20_, h21_, h22_, h23_, h24_, h25_, h26_, h27_, h28_⟩
                  have n0_ : Aside0 (w35.heap[gb142]? = some (.cells #[.int .u64 a0_0, .int .u64 a0_1] 24 (0, 0))) := ⟨h0_⟩
                  have n1_ : Aside0 (w35.heap[gb143]? = some (.cells #[.int .u64 a1_0, .int .u64 a1_1] 24 (0, 0))) := ⟨h1_⟩
                  have n2_ : Aside0 (w35.heap[gb147]? = some (.cells #[.int .u64 t144, .int .u64 t145] 24 (0, 0))) := ⟨h2_⟩
                  have n3_ : Aside0 (w35.heap[gb151]? = some (.cells #[.int .u64 t148, .int .u64 t149] 24 (0, 0))) := ⟨h3_⟩
                  have n4_ : Aside0 (w35.heap[gb158]? = some (.cells #[.int .u64 0, .int .u64 0, .bool false] 38 (0, 0))) := ⟨h4_⟩
                  have n5_ : Aside0 (w35.heap[gb159]? = some (.cells #[.int .u64 0, .int .u64 0, .bool false] 38 (0, 0))) := ⟨h5_⟩
                  have n6_ : Aside0 (w.heap.size ≤ gb158) := ⟨h6_⟩
                  have n7_ : Aside0 (w.heap.size ≤ gb158) := ⟨h7_⟩
                  have n8_ : Aside0 (gb142 ≠ gb158) := ⟨h8_⟩
                  have n9_ : Aside0 (gb158 ≠ gb142) := ⟨h9_⟩
                  have n10_ : Aside0 (gb143 ≠ gb158) := ⟨h10_⟩
                  have n11_ : Aside0 (gb158 ≠ gb143) := ⟨h11_⟩
                  have n12_ : Aside0 (gb147 ≠ gb158) := ⟨h12_⟩
                  have n13_ : Aside0 (gb158 ≠ gb147) := ⟨h13_⟩
                  have n14_ : Aside0 (gb151 ≠ gb158) := ⟨h14_⟩
                  have n15_ : Aside0 (gb158 ≠ gb151) := ⟨h15_⟩
                  have n16_ : Aside0 (gb159 ≠ gb158) := ⟨h16_⟩
                  have n17_ : Aside0 (gb158 ≠ gb159) := ⟨h17_⟩
                  have n18_ : Aside0 (w.heap.size ≤ gb159) := ⟨h18_⟩
                  have n19_ : Aside0 (w.heap.size ≤ gb159) := ⟨h19_⟩
                  have n20_ : Aside0 (gb142 ≠ gb159) := ⟨h20_⟩
                  have n21_ : Aside0 (gb159 ≠ gb142) := ⟨h21_⟩
                  have n22_ : Aside0 (gb143 ≠ gb159) := ⟨h22_⟩
                  have n23_ : Aside0 (gb159 ≠ gb143) := ⟨h23_⟩
                  have n24_ : Aside0 (gb147 ≠ gb159) := ⟨h24_⟩
                  have n25_ : Aside0 (gb159 ≠ gb147) := ⟨h25_⟩
                  have n26_ : Aside0 (gb151 ≠ gb159) := ⟨h26_⟩
                  have n27_ : Aside0 (gb159 ≠ gb151) := ⟨h27_⟩
                  have n28_ : Aside0 (Below w.heap.size w w35) := ⟨h28_⟩
                  clear BK142
                  clear BK143
                  clear BK147
                  clear BK151
                  clear HB
                  clear h0_ h1_ h2_ h3_ h4_ h5_ h6_ h7_ h8_ h9_ h10_ h11_ h12_ h13_ h14_ h15_ h16_ h17_ h18_ h19_ h20_ h21_ h22_ h23_ h24_ h25_ h26_ h27_ h28_
                  have BK142 := n0_
                  have BK143 := n1_
                  have BK147 := n2_
                  have BK151 := n3_
                  have BK158 := n4_
                  have BK159 := n5_
                  have GW158 := n6_
                  have GE158 := n7_
                  have NB142_158 := n8_
                  have NB158_142 := n9_
                  have NB143_158 := n10_
                  have NB158_143 := n11_
                  have NB147_158 := n12_
                  have NB158_147 := n13_
                  have NB151_158 := n14_
                  have NB158_151 := n15_
                  have NB159_158 := n16_
                  have NB158_159 := n17_
                  have GW159 := n18_
                  have GE159 := n19_
                  have NB142_159 := n20_
                  have NB159_142 := n21_
                  have NB143_159 := n22_
                  have NB159_143 := n23_
                  have NB147_159 := n24_
                  have NB159_147 := n25_
                  have NB151_159 := n26_
                  have NB159_151 := n27_
                  have HB := n28_
                  clear n0_ n1_ n2_ n3_ n4_ n5_ n6_ n7_ n8_ n9_ n10_ n11_ n12_ n13_ n14_ n15_ n16_ n17_ n18_ n19_ n20_ n21_ n22_ n23_ n24_ n25_ n26_ n27_ n28_
                  have hHeld : w35.cell? ⟨gb142, 0, none⟩ = some (.int .u64 a0_0) ∧ w35.cell? ⟨gb142, 1, none⟩ = some (.int .u64 a0_1) ∧ w35.cell? ⟨gb143, 0, none⟩ = some (.int .u64 a1_0) ∧ w35.cell? ⟨gb143, 1, none⟩ = some (.int .u64 a1_1) := hS_
                  refine norm_ (a' := ?_) ?_ ?_
                  rotate_left
                  · simp only [putAll, Act.put, List.setIfInBounds_toArray, List.set_cons_zero, List.set_cons_succ]
                    rfl
                  refine one_ (i := 5) (N := some 28) (bA 10 255) rfl rfl (one_of HT_.out (by kernel_rfl)) (by decide) (fun K hK => ?_)
                  refine goes_ Try.func20 (by kernel_rfl) rfl #[.agg #[.int .u64 a0_0, .int .u64 a0_1], .agg #[.int .u64 a1_0, .int .u64 a1_1]] (by rfl) rfl rfl (by (try simp only [List.map_toArray, List.map_cons, List.map_nil]); first | done | rfl | (simp only [List.length_drop, List.length_take]; rfl)) ?_
                  with_reducible refine (perigeeref1_SubTwo.calls a0_0 a0_1 a1_0 a1_1 t155 t156 t157 _ A6.out).mono ?_
                  rintro e w36 ⟨rfl, hb⟩
                  refine ⟨_, rfl, ?_⟩
                  have n0_ := Aside0.mk (blk_below (g := gb142) (o := .cells #[.int .u64 a0_0, .int .u64 a0_1] 24 (0, 0)) (by (with_reducible repeat (first | refine blk_drewN ?_ _ | refine blk_drew ?_ | refine blk_alloc ?_ _)); exact BK142.out) hb)
                  have n1_ := Aside0.mk (blk_below (g := gb143) (o := .cells #[.int .u64 a1_0, .int .u64 a1_1] 24 (0, 0)) (by (with_reducible repeat (first | refine blk_drewN ?_ _ | refine blk_drew ?_ | refine blk_alloc ?_ _)); exact BK143.out) hb)
                  have n2_ := Aside0.mk (blk_below (g := gb147) (o := .cells #[.int .u64 t144, .int .u64 t145] 24 (0, 0)) (by (with_reducible repeat (first | refine blk_drewN ?_ _ | refine blk_drew ?_ | refine blk_alloc ?_ _)); exact BK147.out) hb)
                  have n3_ := Aside0.mk (blk_below (g := gb151) (o := .cells #[.int .u64 t148, .int .u64 t149] 24 (0, 0)) (by (with_reducible repeat (first | refine blk_drewN ?_ _ | refine blk_drew ?_ | refine blk_alloc ?_ _)); exact BK151.out) hb)
                  have n4_ := Aside0.mk (blk_below (g := gb158) (o := .cells #[.int .u64 0, .int .u64 0, .bool false] 38 (0, 0)) (by (with_reducible repeat (first | refine blk_drewN ?_ _ | refine blk_drew ?_ | refine blk_alloc ?_ _)); exact BK158.out) hb)
                  have n5_ := Aside0.mk (blk_below (g := gb159) (o := .cells #[.int .u64 0, .int .u64 0, .bool false] 38 (0, 0)) (by (with_reducible repeat (first | refine blk_drewN ?_ _ | refine blk_drew ?_ | refine blk_alloc ?_ _)); exact BK159.out) hb)
                  have n6_ := Aside0.mk (below_step (by repeat (first | (with_reducible first | exact HB.out | apply below_alloc | apply pw_below_drewN | apply below_drew1 | refine below_set ?_ GE142.out | refine below_set ?_ GE143.out | refine below_set ?_ GE147.out | refine below_set ?_ GE151.out | refine below_set ?_ GE158.out | refine below_set ?_ GE159.out) | exact HB.out)) hb)
                  clear BK142
                  clear BK143
                  clear BK147
                  clear BK151
                  clear BK158
                  clear BK159
                  clear HB
                  have BK142 := n0_
                  have BK143 := n1_
                  have BK147 := n2_
                  have BK151 := n3_
                  have BK158 := n4_
                  have BK159 := n5_
                  have HB := n6_
                  clear n0_ n1_ n2_ n3_ n4_ n5_ n6_
                  (try clear hb)
                  (try clear hb2)
                  (try clear hk)
                  (try clear hi)
                  refine hK.out _ _ ⟨(blk_cell BK142.out 0).trans rfl, (blk_cell BK142.out 1).trans rfl, (blk_cell BK143.out 0).trans rfl, (blk_cell BK143.out 1).trans rfl⟩ (fun hHeld => ?_)
                  clear hK K
                  refine norm_ (a' := ?_) ?_ ?_
                  rotate_left
                  · show Act.put _ (some 28) _ = _
                    simp only [Act.put, List.setIfInBounds_toArray, List.set_cons_zero, List.set_cons_succ, i64_w, i32_w]
                    rfl
                  exact norm_ (by first | (simp only [putAll, Act.put, List.setIfInBounds_toArray, List.set_cons_zero, List.set_cons_succ]; done) | (simp only [putAll, Act.put, List.setIfInBounds_toArray, List.set_cons_zero, List.set_cons_succ]; rfl)) (hJ2_5_6_7 (gb158, gb159) _ ⟨hHeld, (by (with_reducible repeat (first | refine blk_drewN ?_ _ | refine blk_drew ?_ | refine blk_alloc ?_ _)); exact BK142.out), (by (with_reducible repeat (first | refine blk_drewN ?_ _ | refine blk_drew ?_ | refine blk_alloc ?_ _)); exact BK143.out), (by (with_reducible repeat (first | refine blk_drewN ?_ _ | refine blk_drew ?_ | refine blk_alloc ?_ _)); exact BK147.out), (by (with_reducible repeat (first | refine blk_drewN ?_ _ | refine blk_drew ?_ | refine blk_alloc ?_ _)); exact BK151.out), (by (with_reducible repeat (first | refine blk_drewN ?_ _ | refine blk_drew ?_ | refine blk_alloc ?_ _)); exact BK158.out), (by (with_reducible repeat (first | refine blk_drewN ?_ _ | refine blk_drew ?_ | refine blk_alloc ?_ _)); exact BK159.out), GW158.out, GE158.out, NB142_158.out, NB158_142.out, NB143_158.out, NB158_143.out, NB147_158.out, NB158_147.out, NB151_158.out, NB158_151.out, NB159_158.out, NB158_159.out, GW159.out, GE159.out, NB142_159.out, NB159_142.out, NB143_159.out, NB159_143.out, NB147_159.out, NB159_147.out, NB151_159.out, NB159_151.out, (by repeat (first | (with_reducible first | exact HB.out | apply below_alloc | apply pw_below_drewN | apply below_drew1 | refine below_set ?_ GE142.out | refine below_set ?_ GE143.out | refine below_set ?_ GE147.out | refine below_set ?_ GE151.out | refine below_set ?_ GE158.out | refine below_set ?_ GE159.out) | exact HB.out))⟩)
              · skip
                rintro gb159 w35 ⟨hS_, h0_, h1_, h2_, h3_, h4_, h5_, h6_, h7_, h8_, h9_, h10_, h11_, h12_, h13_, h14_, h15_⟩
                have n0_ : Aside0 (w35.heap[gb142]? = some (.cells #[.int .u64 a0_0, .int .u64 a0_1] 24 (0, 0))) := ⟨h0_⟩
                have n1_ : Aside0 (w35.heap[gb143]? = some (.cells #[.int .u64 a1_0, .int .u64 a1_1] 24 (0, 0))) := ⟨h1_⟩
                have n2_ : Aside0 (w35.heap[gb147]? = some (.cells #[.int .u64 t144, .int .u64 t145] 24 (0, 0))) := ⟨h2_⟩
                have n3_ : Aside0 (w35.heap[gb151]? = some (.cells #[.int .u64 t148, .int .u64 t149] 24 (0, 0))) := ⟨h3_⟩
                have n4_ : Aside0 (w35.heap[gb159]? = some (.cells #[.int .u64 0, .int .u64 0, .bool false] 38 (0, 0))) := ⟨h4_⟩
                have n5_ : Aside0 (w.heap.size ≤ gb159) := ⟨h5_⟩
                have n6_ : Aside0 (w.heap.size ≤ gb159) := ⟨h6_⟩
                have n7_ : Aside0 (gb142 ≠ gb159) := ⟨h7_⟩
                have n8_ : Aside0 (gb159 ≠ gb142) := ⟨h8_⟩
                have n9_ : Aside0 (gb143 ≠ gb159) := ⟨h9_⟩
                have n10_ : Aside0 (gb159 ≠ gb143) := ⟨h10_⟩
                have n11_ : Aside0 (gb147 ≠ gb159) := ⟨h11_⟩
                have n12_ : Aside0 (gb159 ≠ gb147) := ⟨h12_⟩
                have n13_ : Aside0 (gb151 ≠ gb159) := ⟨h13_⟩
                have n14_ : Aside0 (gb159 ≠ gb151) := ⟨h14_⟩
                have n15_ : Aside0 (Below w.heap.size w w35) := ⟨h15_⟩
                clear BK142
                clear BK143
                clear BK147
                clear BK151
                clear HB
                clear h0_ h1_ h2_ h3_ h4_ h5_ h6_ h7_ h8_ h9_ h10_ h11_ h12_ h13_ h14_ h15_
                have BK142 := n0_
                have BK143 := n1_
                have BK147 := n2_
                have BK151 := n3_
                have BK159 := n4_
                have GW159 := n5_
                have GE159 := n6_
                have NB142_159 := n7_
                have NB159_142 := n8_
                have NB143_159 := n9_
                have NB159_143 := n10_
                have NB147_159 := n11_
                have NB159_147 := n12_
                have NB151_159 := n13_
                have NB159_151 := n14_
                have HB := n15_
                clear n0_ n1_ n2_ n3_ n4_ n5_ n6_ n7_ n8_ n9_ n10_ n11_ n12_ n13_ n14_ n15_
                have hHeld : w35.cell? ⟨gb142, 0, none⟩ = some (.int .u64 a0_0) ∧ w35.cell? ⟨gb142, 1, none⟩ = some (.int .u64 a0_1) ∧ w35.cell? ⟨gb143, 0, none⟩ = some (.int .u64 a1_0) ∧ w35.cell? ⟨gb143, 1, none⟩ = some (.int .u64 a1_1) := hS_
                refine norm_ (a' := ?_) ?_ ?_
                rotate_left
                · simp only [putAll, Act.put, List.setIfInBounds_toArray, List.set_cons_zero, List.set_cons_succ]
                  rfl
                refine one_ (i := 6) (N := some 9) (bA 10 255) rfl rfl (one_of HT_.out (by kernel_rfl)) (by decide) (fun K hK => ?_)
                refine box_step ?hg (N := 9) ?hd (cs := #[.int .u64 0, .int .u64 0, .bool false]) (t := 38) ?hr ?_; (case hd => rfl); (case hg => rfl); (case hr => first | (go_simp; done) | (go_simp; rfl))
                intro gb158 hg w36 hbox hb
                have n0_ := Aside0.mk (blk_below (g := gb142) (o := .cells #[.int .u64 a0_0, .int .u64 a0_1] 24 (0, 0)) (by (with_reducible repeat (first | refine blk_drewN ?_ _ | refine blk_drew ?_ | refine blk_alloc ?_ _)); exact BK142.out) hb)
                have n1_ := Aside0.mk (blk_below (g := gb143) (o := .cells #[.int .u64 a1_0, .int .u64 a1_1] 24 (0, 0)) (by (with_reducible repeat (first | refine blk_drewN ?_ _ | refine blk_drew ?_ | refine blk_alloc ?_ _)); exact BK143.out) hb)
                have n2_ := Aside0.mk (blk_below (g := gb147) (o := .cells #[.int .u64 t144, .int .u64 t145] 24 (0, 0)) (by (with_reducible repeat (first | refine blk_drewN ?_ _ | refine blk_drew ?_ | refine blk_alloc ?_ _)); exact BK147.out) hb)
                have n3_ := Aside0.mk (blk_below (g := gb151) (o := .cells #[.int .u64 t148, .int .u64 t149] 24 (0, 0)) (by (with_reducible repeat (first | refine blk_drewN ?_ _ | refine blk_drew ?_ | refine blk_alloc ?_ _)); exact BK151.out) hb)
                have n4_ := Aside0.mk (blk_below (g := gb159) (o := .cells #[.int .u64 0, .int .u64 0, .bool false] 38 (0, 0)) (by (with_reducible repeat (first | refine blk_drewN ?_ _ | refine blk_drew ?_ | refine blk_alloc ?_ _)); exact BK159.out) hb)
                have n5_ := Aside0.mk (below_step (by repeat (first | (with_reducible first | exact HB.out | apply below_alloc | apply pw_below_drewN | apply below_drew1 | refine below_set ?_ GE142.out | refine below_set ?_ GE143.out | refine below_set ?_ GE147.out | refine below_set ?_ GE151.out | refine below_set ?_ GE159.out) | exact HB.out)) hb)
                have n6_ := Aside0.mk (hbox)
                have n7_ := Aside0.mk ((by rw [hg]; exact (below_size (by repeat (first | (with_reducible first | exact HB.out | apply below_alloc | apply pw_below_drewN | apply below_drew1 | refine below_set ?_ GE142.out | refine below_set ?_ GE143.out | refine below_set ?_ GE147.out | refine below_set ?_ GE151.out | refine below_set ?_ GE159.out) | exact HB.out))) : w.heap.size ≤ gb158))
                have n8_ := Aside0.mk ((by rw [hg]; exact (below_size (by repeat (first | (with_reducible first | exact HB.out | apply below_alloc | apply pw_below_drewN | apply below_drew1 | refine below_set ?_ GE142.out | refine below_set ?_ GE143.out | refine below_set ?_ GE147.out | refine below_set ?_ GE151.out | refine below_set ?_ GE159.out) | exact HB.out))) : w.heap.size ≤ gb158))
                have n9_ := Aside0.mk ((by rw [hg]; exact Nat.ne_of_lt (blk_lt (g := gb142) (o := .cells #[.int .u64 a0_0, .int .u64 a0_1] 24 (0, 0)) (by (with_reducible repeat (first | refine blk_drewN ?_ _ | refine blk_drew ?_ | refine blk_alloc ?_ _)); exact BK142.out)) : gb142 ≠ gb158))
                have n10_ := Aside0.mk ((by rw [hg]; exact Nat.ne_of_gt (blk_lt (g := gb142) (o := .cells #[.int .u64 a0_0, .int .u64 a0_1] 24 (0, 0)) (by (with_reducible repeat (first | refine blk_drewN ?_ _ | refine blk_drew ?_ | refine blk_alloc ?_ _)); exact BK142.out)) : gb158 ≠ gb142))
                have n11_ := Aside0.mk ((by rw [hg]; exact Nat.ne_of_lt (blk_lt (g := gb143) (o := .cells #[.int .u64 a1_0, .int .u64 a1_1] 24 (0, 0)) (by (with_reducible repeat (first | refine blk_drewN ?_ _ | refine blk_drew ?_ | refine blk_alloc ?_ _)); exact BK143.out)) : gb143 ≠ gb158))
                have n12_ := Aside0.mk ((by rw [hg]; exact Nat.ne_of_gt (blk_lt (g := gb143) (o := .cells #[.int .u64 a1_0, .int .u64 a1_1] 24 (0, 0)) (by (with_reducible repeat (first | refine blk_drewN ?_ _ | refine blk_drew ?_ | refine blk_alloc ?_ _)); exact BK143.out)) : gb158 ≠ gb143))
                have n13_ := Aside0.mk ((by rw [hg]; exact Nat.ne_of_lt (blk_lt (g := gb147) (o := .cells #[.int .u64 t144, .int .u64 t145] 24 (0, 0)) (by (with_reducible repeat (first | refine blk_drewN ?_ _ | refine blk_drew ?_ | refine blk_alloc ?_ _)); exact BK147.out)) : gb147 ≠ gb158))
                have n14_ := Aside0.mk ((by rw [hg]; exact Nat.ne_of_gt (blk_lt (g := gb147) (o := .cells #[.int .u64 t144, .int .u64 t145] 24 (0, 0)) (by (with_reducible repeat (first | refine blk_drewN ?_ _ | refine blk_drew ?_ | refine blk_alloc ?_ _)); exact BK147.out)) : gb158 ≠ gb147))
                have n15_ := Aside0.mk ((by rw [hg]; exact Nat.ne_of_lt (blk_lt (g := gb151) (o := .cells #[.int .u64 t148, .int .u64 t149] 24 (0, 0)) (by (with_reducible repeat (first | refine blk_drewN ?_ _ | refine blk_drew ?_ | refine blk_alloc ?_ _)); exact BK151.out)) : gb151 ≠ gb158))
                have n16_ := Aside0.mk ((by rw [hg]; exact Nat.ne_of_gt (blk_lt (g := gb151) (o := .cells #[.int .u64 t148, .int .u64 t149] 24 (0, 0)) (by (with_reducible repeat (first | refine blk_drewN ?_ _ | refine blk_drew ?_ | refine blk_alloc ?_ _)); exact BK151.out)) : gb158 ≠ gb151))
                have n17_ := Aside0.mk ((by rw [hg]; exact Nat.ne_of_lt (blk_lt (g := gb159) (o := .cells #[.int .u64 0, .int .u64 0, .bool false] 38 (0, 0)) (by (with_reducible repeat (first | refine blk_drewN ?_ _ | refine blk_drew ?_ | refine blk_alloc ?_ _)); exact BK159.out)) : gb159 ≠ gb158))
                have n18_ := Aside0.mk ((by rw [hg]; exact Nat.ne_of_gt (blk_lt (g := gb159) (o := .cells #[.int .u64 0, .int .u64 0, .bool false] 38 (0, 0)) (by (with_reducible repeat (first | refine blk_drewN ?_ _ | refine blk_drew ?_ | refine blk_alloc ?_ _)); exact BK159.out)) : gb158 ≠ gb159))
                clear BK142
                clear BK143
                clear BK147
                clear BK151
                clear BK159
                clear HB
                have BK142 := n0_
                have BK143 := n1_
                have BK147 := n2_
                have BK151 := n3_
                have BK159 := n4_
                have HB := n5_
                have BK158 := n6_
                have GW158 := n7_
                have GE158 := n8_
                have NB142_158 := n9_
                have NB158_142 := n10_
                have NB143_158 := n11_
                have NB158_143 := n12_
                have NB147_158 := n13_
                have NB158_147 := n14_
                have NB151_158 := n15_
                have NB158_151 := n16_
                have NB159_158 := n17_
                have NB158_159 := n18_
                clear n0_ n1_ n2_ n3_ n4_ n5_ n6_ n7_ n8_ n9_ n10_ n11_ n12_ n13_ n14_ n15_ n16_ n17_ n18_
                clear hb hbox hg
                refine hK.out _ _ ⟨(blk_cell BK142.out 0).trans rfl, (blk_cell BK142.out 1).trans rfl, (blk_cell BK143.out 0).trans rfl, (blk_cell BK143.out 1).trans rfl⟩ (fun hHeld => ?_)
                clear hK K
                refine norm_ (a' := ?_) ?_ ?_
                rotate_left
                · show Act.put _ (some 9) _ = _
                  simp only [Act.put, List.setIfInBounds_toArray, List.set_cons_zero, List.set_cons_succ, i64_w, i32_w]
                  rfl
                exact norm_ (by first | (simp only [putAll, Act.put, List.setIfInBounds_toArray, List.set_cons_zero, List.set_cons_succ]; done) | (simp only [putAll, Act.put, List.setIfInBounds_toArray, List.set_cons_zero, List.set_cons_succ]; rfl)) (hJ2_5_6_7 (gb158, gb159) _ ⟨hHeld, (by (with_reducible repeat (first | refine blk_drewN ?_ _ | refine blk_drew ?_ | refine blk_alloc ?_ _)); exact BK142.out), (by (with_reducible repeat (first | refine blk_drewN ?_ _ | refine blk_drew ?_ | refine blk_alloc ?_ _)); exact BK143.out), (by (with_reducible repeat (first | refine blk_drewN ?_ _ | refine blk_drew ?_ | refine blk_alloc ?_ _)); exact BK147.out), (by (with_reducible repeat (first | refine blk_drewN ?_ _ | refine blk_drew ?_ | refine blk_alloc ?_ _)); exact BK151.out), (by (with_reducible repeat (first | refine blk_drewN ?_ _ | refine blk_drew ?_ | refine blk_alloc ?_ _)); exact BK158.out), (by (with_reducible repeat (first | refine blk_drewN ?_ _ | refine blk_drew ?_ | refine blk_alloc ?_ _)); exact BK159.out), GW158.out, GE158.out, NB142_158.out, NB158_142.out, NB143_158.out, NB158_143.out, NB147_158.out, NB158_147.out, NB151_158.out, NB158_151.out, NB159_158.out, NB158_159.out, GW159.out, GE159.out, NB142_159.out, NB159_142.out, NB143_159.out, NB159_143.out, NB147_159.out, NB159_147.out, NB151_159.out, NB159_151.out, (by repeat (first | (with_reducible first | exact HB.out | apply below_alloc | apply pw_below_drewN | apply below_drew1 | refine below_set ?_ GE142.out | refine below_set ?_ GE143.out | refine below_set ?_ GE147.out | refine below_set ?_ GE151.out | refine below_set ?_ GE159.out | refine below_set ?_ GE158.out) | exact HB.out))⟩)
            · skip
              rintro gb158 w35 ⟨hS_, h0_, h1_, h2_, h3_, h4_, h5_, h6_, h7_, h8_, h9_, h10_, h11_, h12_, h13_, h14_, h15_⟩
              have n0_ : Aside0 (w35.heap[gb142]? = some (.cells #[.int .u64 a0_0, .int .u64 a0_1] 24 (0, 0))) := ⟨h0_⟩
              have n1_ : Aside0 (w35.heap[gb143]? = some (.cells #[.int .u64 a1_0, .int .u64 a1_1] 24 (0, 0))) := ⟨h1_⟩
              have n2_ : Aside0 (w35.heap[gb147]? = some (.cells #[.int .u64 t144, .int .u64 t145] 24 (0, 0))) := ⟨h2_⟩
              have n3_ : Aside0 (w35.heap[gb151]? = some (.cells #[.int .u64 t148, .int .u64 t149] 24 (0, 0))) := ⟨h3_⟩
              have n4_ : Aside0 (w35.heap[gb158]? = some (.cells #[.int .u64 0, .int .u64 0, .bool false] 38 (0, 0))) := ⟨h4_⟩
              have n5_ : Aside0 (w.heap.size ≤ gb158) := ⟨h5_⟩
              have n6_ : Aside0 (w.heap.size ≤ gb158) := ⟨h6_⟩
              have n7_ : Aside0 (gb142 ≠ gb158) := ⟨h7_⟩
              have n8_ : Aside0 (gb158 ≠ gb142) := ⟨h8_⟩
              have n9_ : Aside0 (gb143 ≠ gb158) := ⟨h9_⟩
              have n10_ : Aside0 (gb158 ≠ gb143) := ⟨h10_⟩
              have n11_ : Aside0 (gb147 ≠ gb158) := ⟨h11_⟩
              have n12_ : Aside0 (gb158 ≠ gb147) := ⟨h12_⟩
              have n13_ : Aside0 (gb151 ≠ gb158) := ⟨h13_⟩
              have n14_ : Aside0 (gb158 ≠ gb151) := ⟨h14_⟩
              have n15_ : Aside0 (Below w.heap.size w w35) := ⟨h15_⟩
              clear BK142
              clear BK143
              clear BK147
              clear BK151
              clear HB
              clear h0_ h1_ h2_ h3_ h4_ h5_ h6_ h7_ h8_ h9_ h10_ h11_ h12_ h13_ h14_ h15_
              have BK142 := n0_
              have BK143 := n1_
              have BK147 := n2_
              have BK151 := n3_
              have BK158 := n4_
              have GW158 := n5_
              have GE158 := n6_
              have NB142_158 := n7_
              have NB158_142 := n8_
              have NB143_158 := n9_
              have NB158_143 := n10_
              have NB147_158 := n11_
              have NB158_147 := n12_
              have NB151_158 := n13_
              have NB158_151 := n14_
              have HB := n15_
              clear n0_ n1_ n2_ n3_ n4_ n5_ n6_ n7_ n8_ n9_ n10_ n11_ n12_ n13_ n14_ n15_
              have hHeld : w35.cell? ⟨gb142, 0, none⟩ = some (.int .u64 a0_0) ∧ w35.cell? ⟨gb142, 1, none⟩ = some (.int .u64 a0_1) ∧ w35.cell? ⟨gb143, 0, none⟩ = some (.int .u64 a1_0) ∧ w35.cell? ⟨gb143, 1, none⟩ = some (.int .u64 a1_1) := hS_
              refine norm_ (a' := ?_) ?_ ?_
              rotate_left
              · simp only [putAll, Act.put, List.setIfInBounds_toArray, List.set_cons_zero, List.set_cons_succ]
                rfl
              refine one_ (i := 7) (N := some 10) (bA 10 255) rfl rfl (one_of HT_.out (by kernel_rfl)) (by decide) (fun K hK => ?_)
              refine box_step ?hg (N := 10) ?hd (cs := #[.int .u64 0, .int .u64 0, .bool false]) (t := 38) ?hr ?_; (case hd => rfl); (case hg => rfl); (case hr => first | (go_simp; done) | (go_simp; rfl))
              intro gb159 hg w36 hbox hb
              have n0_ := Aside0.mk (blk_below (g := gb142) (o := .cells #[.int .u64 a0_0, .int .u64 a0_1] 24 (0, 0)) (by (with_reducible repeat (first | refine blk_drewN ?_ _ | refine blk_drew ?_ | refine blk_alloc ?_ _)); exact BK142.out) hb)
              have n1_ := Aside0.mk (blk_below (g := gb143) (o := .cells #[.int .u64 a1_0, .int .u64 a1_1] 24 (0, 0)) (by (with_reducible repeat (first | refine blk_drewN ?_ _ | refine blk_drew ?_ | refine blk_alloc ?_ _)); exact BK143.out) hb)
              have n2_ := Aside0.mk (blk_below (g := gb147) (o := .cells #[.int .u64 t144, .int .u64 t145] 24 (0, 0)) (by (with_reducible repeat (first | refine blk_drewN ?_ _ | refine blk_drew ?_ | refine blk_alloc ?_ _)); exact BK147.out) hb)
              have n3_ := Aside0.mk (blk_below (g := gb151) (o := .cells #[.int .u64 t148, .int .u64 t149] 24 (0, 0)) (by (with_reducible repeat (first | refine blk_drewN ?_ _ | refine blk_drew ?_ | refine blk_alloc ?_ _)); exact BK151.out) hb)
              have n4_ := Aside0.mk (blk_below (g := gb158) (o := .cells #[.int .u64 0, .int .u64 0, .bool false] 38 (0, 0)) (by (with_reducible repeat (first | refine blk_drewN ?_ _ | refine blk_drew ?_ | refine blk_alloc ?_ _)); exact BK158.out) hb)
              have n5_ := Aside0.mk (below_step (by repeat (first | (with_reducible first | exact HB.out | apply below_alloc | apply pw_below_drewN | apply below_drew1 | refine below_set ?_ GE142.out | refine below_set ?_ GE143.out | refine below_set ?_ GE147.out | refine below_set ?_ GE151.out | refine below_set ?_ GE158.out) | exact HB.out)) hb)
              have n6_ := Aside0.mk (hbox)
              have n7_ := Aside0.mk ((by rw [hg]; exact (below_size (by repeat (first | (with_reducible first | exact HB.out | apply below_alloc | apply pw_below_drewN | apply below_drew1 | refine below_set ?_ GE142.out | refine below_set ?_ GE143.out | refine below_set ?_ GE147.out | refine below_set ?_ GE151.out | refine below_set ?_ GE158.out) | exact HB.out))) : w.heap.size ≤ gb159))
              have n8_ := Aside0.mk ((by rw [hg]; exact (below_size (by repeat (first | (with_reducible first | exact HB.out | apply below_alloc | apply pw_below_drewN | apply below_drew1 | refine below_set ?_ GE142.out | refine below_set ?_ GE143.out | refine below_set ?_ GE147.out | refine below_set ?_ GE151.out | refine below_set ?_ GE158.out) | exact HB.out))) : w.heap.size ≤ gb159))
              have n9_ := Aside0.mk ((by rw [hg]; exact Nat.ne_of_lt (blk_lt (g := gb142) (o := .cells #[.int .u64 a0_0, .int .u64 a0_1] 24 (0, 0)) (by (with_reducible repeat (first | refine blk_drewN ?_ _ | refine blk_drew ?_ | refine blk_alloc ?_ _)); exact BK142.out)) : gb142 ≠ gb159))
              have n10_ := Aside0.mk ((by rw [hg]; exact Nat.ne_of_gt (blk_lt (g := gb142) (o := .cells #[.int .u64 a0_0, .int .u64 a0_1] 24 (0, 0)) (by (with_reducible repeat (first | refine blk_drewN ?_ _ | refine blk_drew ?_ | refine blk_alloc ?_ _)); exact BK142.out)) : gb159 ≠ gb142))
              have n11_ := Aside0.mk ((by rw [hg]; exact Nat.ne_of_lt (blk_lt (g := gb143) (o := .cells #[.int .u64 a1_0, .int .u64 a1_1] 24 (0, 0)) (by (with_reducible repeat (first | refine blk_drewN ?_ _ | refine blk_drew ?_ | refine blk_alloc ?_ _)); exact BK143.out)) : gb143 ≠ gb159))
              have n12_ := Aside0.mk ((by rw [hg]; exact Nat.ne_of_gt (blk_lt (g := gb143) (o := .cells #[.int .u64 a1_0, .int .u64 a1_1] 24 (0, 0)) (by (with_reducible repeat (first | refine blk_drewN ?_ _ | refine blk_drew ?_ | refine blk_alloc ?_ _)); exact BK143.out)) : gb159 ≠ gb143))
              have n13_ := Aside0.mk ((by rw [hg]; exact Nat.ne_of_lt (blk_lt (g := gb147) (o := .cells #[.int .u64 t144, .int .u64 t145] 24 (0, 0)) (by (with_reducible repeat (first | refine blk_drewN ?_ _ | refine blk_drew ?_ | refine blk_alloc ?_ _)); exact BK147.out)) : gb147 ≠ gb159))
              have n14_ := Aside0.mk ((by rw [hg]; exact Nat.ne_of_gt (blk_lt (g := gb147) (o := .cells #[.int .u64 t144, .int .u64 t145] 24 (0, 0)) (by (with_reducible repeat (first | refine blk_drewN ?_ _ | refine blk_drew ?_ | refine blk_alloc ?_ _)); exact BK147.out)) : gb159 ≠ gb147))
              have n15_ := Aside0.mk ((by rw [hg]; exact Nat.ne_of_lt (blk_lt (g := gb151) (o := .cells #[.int .u64 t148, .int .u64 t149] 24 (0, 0)) (by (with_reducible repeat (first | refine blk_drewN ?_ _ | refine blk_drew ?_ | refine blk_alloc ?_ _)); exact BK151.out)) : gb151 ≠ gb159))
              have n16_ := Aside0.mk ((by rw [hg]; exact Nat.ne_of_gt (blk_lt (g := gb151) (o := .cells #[.int .u64 t148, .int .u64 t149] 24 (0, 0)) (by (with_reducible repeat (first | refine blk_drewN ?_ _ | refine blk_drew ?_ | refine blk_alloc ?_ _)); exact BK151.out)) : gb159 ≠ gb151))
              have n17_ := Aside0.mk ((by rw [hg]; exact Nat.ne_of_lt (blk_lt (g := gb158) (o := .cells #[.int .u64 0, .int .u64 0, .bool false] 38 (0, 0)) (by (with_reducible repeat (first | refine blk_drewN ?_ _ | refine blk_drew ?_ | refine blk_alloc ?_ _)); exact BK158.out)) : gb158 ≠ gb159))
              have n18_ := Aside0.mk ((by rw [hg]; exact Nat.ne_of_gt (blk_lt (g := gb158) (o := .cells #[.int .u64 0, .int .u64 0, .bool false] 38 (0, 0)) (by (with_reducible repeat (first | refine blk_drewN ?_ _ | refine blk_drew ?_ | refine blk_alloc ?_ _)); exact BK158.out)) : gb159 ≠ gb158))
              clear BK142
              clear BK143
              clear BK147
              clear BK151
              clear BK158
              clear HB
              have BK142 := n0_
              have BK143 := n1_
              have BK147 := n2_
              have BK151 := n3_
              have BK158 := n4_
              have HB := n5_
              have BK159 := n6_
              have GW159 := n7_
              have GE159 := n8_
              have NB142_159 := n9_
              have NB159_142 := n10_
              have NB143_159 := n11_
              have NB159_143 := n12_
              have NB147_159 := n13_
              have NB159_147 := n14_
              have NB151_159 := n15_
              have NB159_151 := n16_
              have NB158_159 := n17_
              have NB159_158 := n18_
              clear n0_ n1_ n2_ n3_ n4_ n5_ n6_ n7_ n8_ n9_ n10_ n11_ n12_ n13_ n14_ n15_ n16_ n17_ n18_
              clear hb hbox hg
              refine hK.out _ _ ⟨(blk_cell BK142.out 0).trans rfl, (blk_cell BK142.out 1).trans rfl, (blk_cell BK143.out 0).trans rfl, (blk_cell BK143.out 1).trans rfl⟩ (fun hHeld => ?_)
              clear hK K
              refine norm_ (a' := ?_) ?_ ?_
              rotate_left
              · show Act.put _ (some 10) _ = _
                simp only [Act.put, List.setIfInBounds_toArray, List.set_cons_zero, List.set_cons_succ, i64_w, i32_w]
                rfl
              exact norm_ (by first | (simp only [putAll, Act.put, List.setIfInBounds_toArray, List.set_cons_zero, List.set_cons_succ]; done) | (simp only [putAll, Act.put, List.setIfInBounds_toArray, List.set_cons_zero, List.set_cons_succ]; rfl)) (hJ2_5_6_7 (gb158, gb159) _ ⟨hHeld, (by (with_reducible repeat (first | refine blk_drewN ?_ _ | refine blk_drew ?_ | refine blk_alloc ?_ _)); exact BK142.out), (by (with_reducible repeat (first | refine blk_drewN ?_ _ | refine blk_drew ?_ | refine blk_alloc ?_ _)); exact BK143.out), (by (with_reducible repeat (first | refine blk_drewN ?_ _ | refine blk_drew ?_ | refine blk_alloc ?_ _)); exact BK147.out), (by (with_reducible repeat (first | refine blk_drewN ?_ _ | refine blk_drew ?_ | refine blk_alloc ?_ _)); exact BK151.out), (by (with_reducible repeat (first | refine blk_drewN ?_ _ | refine blk_drew ?_ | refine blk_alloc ?_ _)); exact BK158.out), (by (with_reducible repeat (first | refine blk_drewN ?_ _ | refine blk_drew ?_ | refine blk_alloc ?_ _)); exact BK159.out), GW158.out, GE158.out, NB142_158.out, NB158_142.out, NB143_158.out, NB158_143.out, NB147_158.out, NB158_147.out, NB151_158.out, NB158_151.out, NB159_158.out, NB158_159.out, GW159.out, GE159.out, NB142_159.out, NB159_142.out, NB143_159.out, NB159_143.out, NB147_159.out, NB159_147.out, NB151_159.out, NB159_151.out, (by repeat (first | (with_reducible first | exact HB.out | apply below_alloc | apply pw_below_drewN | apply below_drew1 | refine below_set ?_ GE142.out | refine below_set ?_ GE143.out | refine below_set ?_ GE147.out | refine below_set ?_ GE151.out | refine below_set ?_ GE158.out | refine below_set ?_ GE159.out) | exact HB.out))⟩)
          rintro ⟨gb158, gb159⟩ w36 ⟨hS_, h0_, h1_, h2_, h3_, h4_, h5_, h6_, h7_, h8_, h9_, h10_, h11_, h12_, h13_, h14_, h15_, h16_, h17_, h18_, h19_, h20_, h21_, h22_, h23_, h24_, h25_, h26_, h27_, h28_⟩
          have n0_ : Aside0 (w36.heap[gb142]? = some (.cells #[.int .u64 a0_0, .int .u64 a0_1] 24 (0, 0))) := ⟨h0_⟩
          have n1_ : Aside0 (w36.heap[gb143]? = some (.cells #[.int .u64 a1_0, .int .u64 a1_1] 24 (0, 0))) := ⟨h1_⟩
          have n2_ : Aside0 (w36.heap[gb147]? = some (.cells #[.int .u64 t144, .int .u64 t145] 24 (0, 0))) := ⟨h2_⟩
          have n3_ : Aside0 (w36.heap[gb151]? = some (.cells #[.int .u64 t148, .int .u64 t149] 24 (0, 0))) := ⟨h3_⟩
          have n4_ : Aside0 (w36.heap[gb158]? = some (.cells #[.int .u64 0, .int .u64 0, .bool false] 38 (0, 0))) := ⟨h4_⟩
          have n5_ : Aside0 (w36.heap[gb159]? = some (.cells #[.int .u64 0, .int .u64 0, .bool false] 38 (0, 0))) := ⟨h5_⟩
          have n6_ : Aside0 (w.heap.size ≤ gb158) := ⟨h6_⟩
          have n7_ : Aside0 (w.heap.size ≤ gb158) := ⟨h7_⟩
          have n8_ : Aside0 (gb142 ≠ gb158) := ⟨h8_⟩
          have n9_ : Aside0 (gb158 ≠ gb142) := ⟨h9_⟩
          have n10_ : Aside0 (gb143 ≠ gb158) := ⟨h10_⟩
          have n11_ : Aside0 (gb158 ≠ gb143) := ⟨h11_⟩
          have n12_ : Aside0 (gb147 ≠ gb158) := ⟨h12_⟩
          have n13_ : Aside0 (gb158 ≠ gb147) := ⟨h13_⟩
          have n14_ : Aside0 (gb151 ≠ gb158) := ⟨h14_⟩
          have n15_ : Aside0 (gb158 ≠ gb151) := ⟨h15_⟩
          have n16_ : Aside0 (gb159 ≠ gb158) := ⟨h16_⟩
          have n17_ : Aside0 (gb158 ≠ gb159) := ⟨h17_⟩
          have n18_ : Aside0 (w.heap.size ≤ gb159) := ⟨h18_⟩
          have n19_ : Aside0 (w.heap.size ≤ gb159) := ⟨h19_⟩
          have n20_ : Aside0 (gb142 ≠ gb159) := ⟨h20_⟩
          have n21_ : Aside0 (gb159 ≠ gb142) := ⟨h21_⟩
          have n22_ : Aside0 (gb143 ≠ gb159) := ⟨h22_⟩
          have n23_ : Aside0 (gb159 ≠ gb143) := ⟨h23_⟩
          have n24_ : Aside0 (gb147 ≠ gb159) := ⟨h24_⟩
          have n25_ : Aside0 (gb159 ≠ gb147) := ⟨h25_⟩
          have n26_ : Aside0 (gb151 ≠ gb159) := ⟨h26_⟩
          have n27_ : Aside0 (gb159 ≠ gb151) := ⟨h27_⟩
          have n28_ : Aside0 (Below w.heap.size w w36) := ⟨h28_⟩
          clear BK142
          clear BK143
          clear BK147
          clear BK151
          clear HB
          clear h0_ h1_ h2_ h3_ h4_ h5_ h6_ h7_ h8_ h9_ h10_ h11_ h12_ h13_ h14_ h15_ h16_ h17_ h18_ h19_ h20_ h21_ h22_ h23_ h24_ h25_ h26_ h27_ h28_
          have BK142 := n0_
          have BK143 := n1_
          have BK147 := n2_
          have BK151 := n3_
          have BK158 := n4_
          have BK159 := n5_
          have GW158 := n6_
          have GE158 := n7_
          have NB142_158 := n8_
          have NB158_142 := n9_
          have NB143_158 := n10_
          have NB158_143 := n11_
          have NB147_158 := n12_
          have NB158_147 := n13_
          have NB151_158 := n14_
          have NB158_151 := n15_
          have NB159_158 := n16_
          have NB158_159 := n17_
          have GW159 := n18_
          have GE159 := n19_
          have NB142_159 := n20_
          have NB159_142 := n21_
          have NB143_159 := n22_
          have NB159_143 := n23_
          have NB147_159 := n24_
          have NB159_147 := n25_
          have NB151_159 := n26_
          have NB159_151 := n27_
          have HB := n28_
          clear n0_ n1_ n2_ n3_ n4_ n5_ n6_ n7_ n8_ n9_ n10_ n11_ n12_ n13_ n14_ n15_ n16_ n17_ n18_ n19_ n20_ n21_ n22_ n23_ n24_ n25_ n26_ n27_ n28_
          have hHeld : w36.cell? ⟨gb142, 0, none⟩ = some (.int .u64 a0_0) ∧ w36.cell? ⟨gb142, 1, none⟩ = some (.int .u64 a0_1) ∧ w36.cell? ⟨gb143, 0, none⟩ = some (.int .u64 a1_0) ∧ w36.cell? ⟨gb143, 1, none⟩ = some (.int .u64 a1_1) := hS_
          refine norm_ (a' := ?_) ?_ ?_
          rotate_left
          · simp only [putAll, Act.put, List.setIfInBounds_toArray, List.set_cons_zero, List.set_cons_succ]
            rfl
          refine one_ (i := 8) (N := none) (bA 10 511) rfl rfl (one_of HT_.out (by kernel_rfl)) (by decide) (fun K hK => ?_)
          have hs37 : w36.cell? ⟨gb158, 0, none⟩ = some (.int .u64 0) := (blk_cell BK158.out 0).trans rfl
          have hfs37 := blk_frozen BK158.out 0
          have hns37_0 := NB142_158.out
          have hns37_1 := NB143_158.out
          have hns37_2 := NB147_158.out
          have hns37_3 := NB151_158.out
          have hns37_5 := NB159_158.out
          have hms37_0 := NB158_142.out
          have hms37_1 := NB158_143.out
          have hms37_2 := NB158_147.out
          have hms37_3 := NB158_151.out
          have hms37_5 := NB158_159.out
          have hs38 : w36.cell? ⟨gb158, 1, none⟩ = some (.int .u64 0) := (blk_cell BK158.out 1).trans rfl
          have hfs38 := blk_frozen BK158.out 1
          have hns38_0 := NB142_158.out
          have hns38_1 := NB143_158.out
          have hns38_2 := NB147_158.out
          have hns38_3 := NB151_158.out
          have hns38_5 := NB159_158.out
          have hms38_0 := NB158_142.out
          have hms38_1 := NB158_143.out
          have hms38_2 := NB158_147.out
          have hms38_3 := NB158_151.out
          have hms38_5 := NB158_159.out
          have hs39 : w36.cell? ⟨gb158, 2, none⟩ = some (.bool false) := (blk_cell BK158.out 2).trans rfl
          have hfs39 := blk_frozen BK158.out 2
          have hns39_0 := NB142_158.out
          have hns39_1 := NB143_158.out
          have hns39_2 := NB147_158.out
          have hns39_3 := NB151_158.out
          have hns39_5 := NB159_158.out
          have hms39_0 := NB158_142.out
          have hms39_1 := NB158_143.out
          have hms39_2 := NB158_147.out
          have hms39_3 := NB158_151.out
          have hms39_5 := NB158_159.out
          refine skip_ (w1 := ?_) (by rfl) rfl ?_ ?_
          rotate_left
          · go_simp
            rfl
          refine hK.out _ _ ⟨((cell_far (p := ⟨gb158, _, none⟩) NB142_158.out _).trans (((cell_far (p := ⟨gb158, _, none⟩) NB142_158.out _).trans (((cell_far (p := ⟨gb158, _, none⟩) NB142_158.out _).trans (hHeld.1)))))), ((cell_far (p := ⟨gb158, _, none⟩) NB142_158.out _).trans (((cell_far (p := ⟨gb158, _, none⟩) NB142_158.out _).trans (((cell_far (p := ⟨gb158, _, none⟩) NB142_158.out _).trans (hHeld.2.1)))))), ((cell_far (p := ⟨gb158, _, none⟩) NB143_158.out _).trans (((cell_far (p := ⟨gb158, _, none⟩) NB143_158.out _).trans (((cell_far (p := ⟨gb158, _, none⟩) NB143_158.out _).trans (hHeld.2.2.1)))))), ((cell_far (p := ⟨gb158, _, none⟩) NB143_158.out _).trans (((cell_far (p := ⟨gb158, _, none⟩) NB143_158.out _).trans (((cell_far (p := ⟨gb158, _, none⟩) NB143_158.out _).trans (hHeld.2.2.2))))))⟩ (fun hHeld => ?_)
          clear hK K
          refine one_ (i := 9) (N := none) (bA 10 1023) rfl rfl (one_of HT_.out (by kernel_rfl)) (by decide) (fun K hK => ?_)
          have hs40 : w36.cell? ⟨gb159, 0, none⟩ = some (.int .u64 0) := (blk_cell BK159.out 0).trans rfl
          have hfs40 := blk_frozen BK159.out 0
          have hns40_0 := NB142_159.out
          have hns40_1 := NB143_159.out
          have hns40_2 := NB147_159.out
          have hns40_3 := NB151_159.out
          have hns40_4 := NB158_159.out
          have hms40_0 := NB159_142.out
          have hms40_1 := NB159_143.out
          have hms40_2 := NB159_147.out
          have hms40_3 := NB159_151.out
          have hms40_4 := NB159_158.out
          have hs41 : w36.cell? ⟨gb159, 1, none⟩ = some (.int .u64 0) := (blk_cell BK159.out 1).trans rfl
          have hfs41 := blk_frozen BK159.out 1
          have hns41_0 := NB142_159.out
          have hns41_1 := NB143_159.out
          have hns41_2 := NB147_159.out
          have hns41_3 := NB151_159.out
          have hns41_4 := NB158_159.out
          have hms41_0 := NB159_142.out
          have hms41_1 := NB159_143.out
          have hms41_2 := NB159_147.out
          have hms41_3 := NB159_151.out
          have hms41_4 := NB159_158.out
          have hs42 : w36.cell? ⟨gb159, 2, none⟩ = some (.bool false) := (blk_cell BK159.out 2).trans rfl
          have hfs42 := blk_frozen BK159.out 2
          have hns42_0 := NB142_159.out
          have hns42_1 := NB143_159.out
          have hns42_2 := NB147_159.out
          have hns42_3 := NB151_159.out
          have hns42_4 := NB158_159.out
          have hms42_0 := NB159_142.out
          have hms42_1 := NB159_143.out
          have hms42_2 := NB159_147.out
          have hms42_3 := NB159_151.out
          have hms42_4 := NB159_158.out
          refine skip_ (w1 := ?_) (by rfl) rfl ?_ ?_
          rotate_left
          · go_simp
            rfl
          refine hK.out _ _ ⟨((cell_far (p := ⟨gb159, _, none⟩) NB142_159.out _).trans (((cell_far (p := ⟨gb159, _, none⟩) NB142_159.out _).trans (((cell_far (p := ⟨gb159, _, none⟩) NB142_159.out _).trans (hHeld.1)))))), ((cell_far (p := ⟨gb159, _, none⟩) NB142_159.out _).trans (((cell_far (p := ⟨gb159, _, none⟩) NB142_159.out _).trans (((cell_far (p := ⟨gb159, _, none⟩) NB142_159.out _).trans (hHeld.2.1)))))), ((cell_far (p := ⟨gb159, _, none⟩) NB143_159.out _).trans (((cell_far (p := ⟨gb159, _, none⟩) NB143_159.out _).trans (((cell_far (p := ⟨gb159, _, none⟩) NB143_159.out _).trans (hHeld.2.2.1)))))), ((cell_far (p := ⟨gb159, _, none⟩) NB143_159.out _).trans (((cell_far (p := ⟨gb159, _, none⟩) NB143_159.out _).trans (((cell_far (p := ⟨gb159, _, none⟩) NB143_159.out _).trans (hHeld.2.2.2))))))⟩ (fun hHeld => ?_)
          clear hK K
          refine done_ (done_of HT_.out (by kernel_rfl)) ?_
          have hnb43 := NB147_158.out
          have hnc43 := NB158_147.out
          have hnb44 := NB147_159.out
          have hnc44 := NB159_147.out
          have hcz45_0 : w36.cell? ⟨gb147, 0, none⟩ = some (.int .u64 t144) := (blk_cell BK147.out 0).trans rfl
          have hcz45_1 : w36.cell? ⟨gb147, 1, none⟩ = some (.int .u64 t145) := (blk_cell BK147.out 1).trans rfl
          have hfz45_0 := blk_frozen BK147.out 0
          have hfz45_1 := blk_frozen BK147.out 1
          have hnb46 := NB158_142.out
          have hnc46 := NB142_158.out
          have hnb47 := NB158_143.out
          have hnc47 := NB143_158.out
          have hnb48 := NB158_151.out
          have hnc48 := NB151_158.out
          have hnb49 := NB158_159.out
          have hnc49 := NB159_158.out
          have hcz50_0 : w36.cell? ⟨gb158, 0, none⟩ = some (.int .u64 0) := (blk_cell BK158.out 0).trans rfl
          have hcz50_1 : w36.cell? ⟨gb158, 1, none⟩ = some (.int .u64 0) := (blk_cell BK158.out 1).trans rfl
          have hcz50_2 : w36.cell? ⟨gb158, 2, none⟩ = some (.bool false) := (blk_cell BK158.out 2).trans rfl
          have hfz50_0 := blk_frozen BK158.out 0
          have hfz50_1 := blk_frozen BK158.out 1
          have hfz50_2 := blk_frozen BK158.out 2
          have hnb51 := NB151_159.out
          have hnc51 := NB159_151.out
          have hcz52_0 : w36.cell? ⟨gb151, 0, none⟩ = some (.int .u64 t148) := (blk_cell BK151.out 0).trans rfl
          have hcz52_1 : w36.cell? ⟨gb151, 1, none⟩ = some (.int .u64 t149) := (blk_cell BK151.out 1).trans rfl
          have hfz52_0 := blk_frozen BK151.out 0
          have hfz52_1 := blk_frozen BK151.out 1
          have hnb53 := NB159_142.out
          have hnc53 := NB142_159.out
          have hnb54 := NB159_143.out
          have hnc54 := NB143_159.out
          have hcz55_0 : w36.cell? ⟨gb159, 0, none⟩ = some (.int .u64 0) := (blk_cell BK159.out 0).trans rfl
          have hcz55_1 : w36.cell? ⟨gb159, 1, none⟩ = some (.int .u64 0) := (blk_cell BK159.out 1).trans rfl
          have hcz55_2 : w36.cell? ⟨gb159, 2, none⟩ = some (.bool false) := (blk_cell BK159.out 2).trans rfl
          have hfz55_0 := blk_frozen BK159.out 0
          have hfz55_1 := blk_frozen BK159.out 1
          have hfz55_2 := blk_frozen BK159.out 2
          try go_wp2_with (first | (go_at_call 16; (with_reducible refine (perigeelaw1_awake.calls k  t160 _ A11.out).mono ?_); rintro e w56 ⟨rfl, hb⟩; have n0_ := Aside0.mk (blk_below (g := gb142) (o := .cells #[.int .u64 a0_0, .int .u64 a0_1] 24 (0, 0)) (by (with_reducible repeat (first | refine blk_drewN ?_ _ | refine blk_drew ?_ | refine blk_alloc ?_ _)); refine blk_far ?_ NB142_159.out _; (with_reducible repeat (first | refine blk_drewN ?_ _ | refine blk_drew ?_ | refine blk_alloc ?_ _)); refine blk_far ?_ NB142_159.out _; (with_reducible repeat (first | refine blk_drewN ?_ _ | refine blk_drew ?_ | refine blk_alloc ?_ _)); refine blk_far ?_ NB142_159.out _; (with_reducible repeat (first | refine blk_drewN ?_ _ | refine blk_drew ?_ | refine blk_alloc ?_ _)); refine blk_far ?_ NB142_158.out _; (with_reducible repeat (first | refine blk_drewN ?_ _ | refine blk_drew ?_ | refine blk_alloc ?_ _)); refine blk_far ?_ NB142_158.out _; (with_reducible repeat (first | refine blk_drewN ?_ _ | refine blk_drew ?_ | refine blk_alloc ?_ _)); refine blk_far ?_ NB142_158.out _; (with_reducible repeat (first | refine blk_drewN ?_ _ | refine blk_drew ?_ | refine blk_alloc ?_ _)); exact BK142.out) hb); have n1_ := Aside0.mk (blk_below (g := gb143) (o := .cells #[.int .u64 a1_0, .int .u64 a1_1] 24 (0, 0)) (by (with_reducible repeat (first | refine blk_drewN ?_ _ | refine blk_drew ?_ | refine blk_alloc ?_ _)); refine blk_far ?_ NB143_159.out _; (with_reducible repeat (first | refine blk_drewN ?_ _ | refine blk_drew ?_ | refine blk_alloc ?_ _)); refine blk_far ?_ NB143_159.out _; (with_reducible repeat (first | refine blk_drewN ?_ _ | refine blk_drew ?_ | refine blk_alloc ?_ _)); refine blk_far ?_ NB143_159.out _; (with_reducible repeat (first | refine blk_drewN ?_ _ | refine blk_drew ?_ | refine blk_alloc ?_ _)); refine blk_far ?_ NB143_158.out _; (with_reducible repeat (first | refine blk_drewN ?_ _ | refine blk_drew ?_ | refine blk_alloc ?_ _)); refine blk_far ?_ NB143_158.out _; (with_reducible repeat (first | refine blk_drewN ?_ _ | refine blk_drew ?_ | refine blk_alloc ?_ _)); refine blk_far ?_ NB143_158.out _; (with_reducible repeat (first | refine blk_drewN ?_ _ | refine blk_drew ?_ | refine blk_alloc ?_ _)); exact BK143.out) hb); have n2_ := Aside0.mk (blk_below (g := gb147) (o := .cells #[.int .u64 t144, .int .u64 t145] 24 (0, 0)) (by (with_reducible repeat (first | refine blk_drewN ?_ _ | refine blk_drew ?_ | refine blk_alloc ?_ _)); refine blk_far ?_ NB147_159.out _; (with_reducible repeat (first | refine blk_drewN ?_ _ | refine blk_drew ?_ | refine blk_alloc ?_ _)); refine blk_far ?_ NB147_159.out _; (with_reducible repeat (first | refine blk_drewN ?_ _ | refine blk_drew ?_ | refine blk_alloc ?_ _)); refine blk_far ?_ NB147_159.out _; (with_reducible repeat (first | refine blk_drewN ?_ _ | refine blk_drew ?_ | refine blk_alloc ?_ _)); refine blk_far ?_ NB147_158.out _; (with_reducible repeat (first | refine blk_drewN ?_ _ | refine blk_drew ?_ | refine blk_alloc ?_ _)); refine blk_far ?_ NB147_158.out _; (with_reducible repeat (first | refine blk_drewN ?_ _ | refine blk_drew ?_ | refine blk_alloc ?_ _)); refine blk_far ?_ NB147_158.out _; (with_reducible repeat (first | refine blk_drewN ?_ _ | refine blk_drew ?_ | refine blk_alloc ?_ _)); exact BK147.out) hb); have n3_ := Aside0.mk (blk_below (g := gb151) (o := .cells #[.int .u64 t148, .int .u64 t149] 24 (0, 0)) (by (with_reducible repeat (first | refine blk_drewN ?_ _ | refine blk_drew ?_ | refine blk_alloc ?_ _)); refine blk_far ?_ NB151_159.out _; (with_reducible repeat (first | refine blk_drewN ?_ _ | refine blk_drew ?_ | refine blk_alloc ?_ _)); refine blk_far ?_ NB151_159.out _; (with_reducible repeat (first | refine blk_drewN ?_ _ | refine blk_drew ?_ | refine blk_alloc ?_ _)); refine blk_far ?_ NB151_159.out _; (with_reducible repeat (first | refine blk_drewN ?_ _ | refine blk_drew ?_ | refine blk_alloc ?_ _)); refine blk_far ?_ NB151_158.out _; (with_reducible repeat (first | refine blk_drewN ?_ _ | refine blk_drew ?_ | refine blk_alloc ?_ _)); refine blk_far ?_ NB151_158.out _; (with_reducible repeat (first | refine blk_drewN ?_ _ | refine blk_drew ?_ | refine blk_alloc ?_ _)); refine blk_far ?_ NB151_158.out _; (with_reducible repeat (first | refine blk_drewN ?_ _ | refine blk_drew ?_ | refine blk_alloc ?_ _)); exact BK151.out) hb); have n4_ := Aside0.mk (blk_below (g := gb158) (o := .cells #[.int .u64 t152, .int .u64 t153, .bool t154] 38 (0, 0)) (by (with_reducible repeat (first | refine blk_drewN ?_ _ | refine blk_drew ?_ | refine blk_alloc ?_ _)); refine blk_far ?_ NB158_159.out _; (with_reducible repeat (first | refine blk_drewN ?_ _ | refine blk_drew ?_ | refine blk_alloc ?_ _)); refine blk_far ?_ NB158_159.out _; (with_reducible repeat (first | refine blk_drewN ?_ _ | refine blk_drew ?_ | refine blk_alloc ?_ _)); refine blk_far ?_ NB158_159.out _; (with_reducible repeat (first | refine blk_drewN ?_ _ | refine blk_drew ?_ | refine blk_alloc ?_ _)); refine blk_put (cs := #[.int .u64 t152, .int .u64 t153, .bool false]) ?_ 2 _ rfl; (with_reducible repeat (first | refine blk_drewN ?_ _ | refine blk_drew ?_ | refine blk_alloc ?_ _)); refine blk_put (cs := #[.int .u64 t152, .int .u64 0, .bool false]) ?_ 1 _ rfl; (with_reducible repeat (first | refine blk_drewN ?_ _ | refine blk_drew ?_ | refine blk_alloc ?_ _)); refine blk_put (cs := #[.int .u64 0, .int .u64 0, .bool false]) ?_ 0 _ rfl; (with_reducible repeat (first | refine blk_drewN ?_ _ | refine blk_drew ?_ | refine blk_alloc ?_ _)); exact BK158.out) hb); have n5_ := Aside0.mk (blk_below (g := gb159) (o := .cells #[.int .u64 t155, .int .u64 t156, .bool t157] 38 (0, 0)) (by (with_reducible repeat (first | refine blk_drewN ?_ _ | refine blk_drew ?_ | refine blk_alloc ?_ _)); refine blk_put (cs := #[.int .u64 t155, .int .u64 t156, .bool false]) ?_ 2 _ rfl; (with_reducible repeat (first | refine blk_drewN ?_ _ | refine blk_drew ?_ | refine blk_alloc ?_ _)); refine blk_put (cs := #[.int .u64 t155, .int .u64 0, .bool false]) ?_ 1 _ rfl; (with_reducible repeat (first | refine blk_drewN ?_ _ | refine blk_drew ?_ | refine blk_alloc ?_ _)); refine blk_put (cs := #[.int .u64 0, .int .u64 0, .bool false]) ?_ 0 _ rfl; (with_reducible repeat (first | refine blk_drewN ?_ _ | refine blk_drew ?_ | refine blk_alloc ?_ _)); refine blk_far ?_ NB159_158.out _; (with_reducible repeat (first | refine blk_drewN ?_ _ | refine blk_drew ?_ | refine blk_alloc ?_ _)); refine blk_far ?_ NB159_158.out _; (with_reducible repeat (first | refine blk_drewN ?_ _ | refine blk_drew ?_ | refine blk_alloc ?_ _)); refine blk_far ?_ NB159_158.out _; (with_reducible repeat (first | refine blk_drewN ?_ _ | refine blk_drew ?_ | refine blk_alloc ?_ _)); exact BK159.out) hb); have n6_ := Aside0.mk (below_step (by repeat (first | (with_reducible first | exact HB.out | apply below_alloc | apply pw_below_drewN | apply below_drew1 | refine below_set ?_ GE142.out | refine below_set ?_ GE143.out | refine below_set ?_ GE147.out | refine below_set ?_ GE151.out | refine below_set ?_ GE158.out | refine below_set ?_ GE159.out) | exact HB.out)) hb); clear BK142; clear BK143; clear BK147; clear BK151; clear BK158; clear BK159; clear HB; have BK142 := n0_; have BK143 := n1_; have BK147 := n2_; have BK151 := n3_; have BK158 := n4_; have BK159 := n5_; have HB := n6_; clear n0_ n1_ n2_ n3_ n4_ n5_ n6_; (try clear hb); (try clear hb2); (try clear hk); (try clear hi)))
          go_ret
          exact ⟨by first | rfl | (simp [errW_none, errW_some] <;> rfl) | (simp [*, errW_none, errW_some] <;> rfl), by repeat (first | (with_reducible first | exact HB.out | apply below_alloc | apply pw_below_drewN | apply below_drew1 | refine below_set ?_ GE142.out | refine below_set ?_ GE143.out | refine below_set ?_ GE147.out | refine below_set ?_ GE151.out | refine below_set ?_ GE158.out | refine below_set ?_ GE159.out) | exact HB.out)⟩
        · rw [if_neg c10] at H
          exact absurd H (by simp)
      · rw [if_neg c9] at H
        exact absurd H (by simp)
    · rw [if_neg c8] at H
      exact absurd H (by simp)
  · rw [if_neg c7] at H
    exact absurd H (by simp)

/-- THE ONE PURE STATEMENT of perigeelaw1_LimbAdds: yours. -/
def perigeelaw1_LimbAdds.Pure : Prop := ∀ (a0_0 : Int) (a0_1 : Int) (a1_0 : Int) (a1_1 : Int), (Lit.int .u64 a0_0).wf = true → (Lit.int .u64 a0_1).wf = true → (Lit.int .u64 a1_0).wf = true → (Lit.int .u64 a1_1).wf = true → ∃ k, perigeelaw1_LimbAdds.f k a0_0 a0_1 a1_0 a1_1 = some true
theorem perigeelaw1_LimbAdds.walk (P : perigeelaw1_LimbAdds.Pure) (a0_0 : Int) (a0_1 : Int) (a1_0 : Int) (a1_1 : Int) (w : World) (w0_0 : (Lit.int .u64 a0_0).wf = true) (w0_1 : (Lit.int .u64 a0_1).wf = true) (w1_0 : (Lit.int .u64 a1_0).wf = true) (w1_1 : (Lit.int .u64 a1_1).wf = true) :
    Calls Try.prog 4 #[.agg #[.int .u64 a0_0, .int .u64 a0_1], .agg #[.int .u64 a1_0, .int .u64 a1_1]] w fun e w' => e = .returned (.bool true) ∧ Below w.heap.size w w' := by
  obtain ⟨k, h⟩ := P a0_0 a0_1 a1_0 a1_1 w0_0 w0_1 w1_0 w1_1
  refine (perigeelaw1_LimbAdds.calls k a0_0 a0_1 a1_0 a1_1 true w h).mono ?_
  rintro e w' ⟨rfl, hd⟩
  exact ⟨rfl, hd⟩

end Go.Proofs.Ytlpdongckcaclaa.R
