/- Functions of the translation as plain Lean functions, and their walks: written by a program of this session's on the kit's print, for this seat. -/
import Derived.Test.YtlpdongckcaclaaBx0
import Derived.Test.YtlpdongckcaclaaBx1
import Derived.Test.YtlpdongckcaclaaBx2
import Derived.Test.YtlpdongckcaclaaBx4
import Derived.Test.YtlpdongckcaclaaBy0
import Derived.Test.YtlpdongckcaclaaBy1
import Derived.Test.YtlpdongckcaclaaBy2
namespace Go.Proofs.Ytlpdongckcaclaa.B
open Go.RowKit Go.Proofs.Ytlpdongckcaclaa.Limb Go.Proofs.Ytlpdongckcaclaa.Plain Go.Proofs.YtlpdongckcaclaaW.PrintWords Go.Proofs.YtlpdongckcaclaaW.PrintLast Go.Proofs.YtlpdongckcaclaaW.PrintMore
attribute [local go_sem] max2_int min2_int max_two min_two max_three min_three max_four min_four   -- for this text's walks alone
set_option linter.unusedVariables false
set_option linter.unusedSimpArgs false
attribute [local go_sem high] eqA24 eqA26
set_option maxHeartbeats 8000000 in
set_option maxRecDepth 100000 in
theorem perigeelaw1_LimbRest.calls (k : Nat) (a0_0 : Int) (a0_1 : Int) (a0_2 : Int) (a0_3 : Int) (a1_0 : Int) (a1_1 : Int) (r : Bool) (w : World) (h : perigeelaw1_LimbRest.f k a0_0 a0_1 a0_2 a0_3 a1_0 a1_1 = some r) :
    Calls Try.prog 6 #[.agg #[.int .u64 a0_0, .int .u64 a0_1, .int .u64 a0_2, .int .u64 a0_3], .agg #[.int .u64 a1_0, .int .u64 a1_1]] w fun e w' => e = .returned (.bool r) ∧ Below w.heap.size w w' := by
  have hu26 := Try.underlying26
  have hu24 := Try.underlying24
  have HB := Aside0.mk (Below.refl w.heap.size w)
  have H : ((limb_Div.f a0_0 a0_1 a0_2 a0_3 a1_0 a1_1).bind fun bt137 => (if (a1_0 == 0 && (a1_1 == 0)) = true then (if bt137.2.2.2.2.2.2 = true then (none) else (if ((bt137.1 == 0 && (bt137.2.1 == 0)) && ((bt137.2.2.1 == 0 && (bt137.2.2.2.1 == 0)))) = true then (if (bt137.2.2.2.2.1 == 0 && (bt137.2.2.2.2.2.1 == 0)) = true then ((perigeelaw1_awake.f k).bind fun t146 => (some t146)) else (none)) else (none))) else ((limb_Mul.f bt137.2.2.1 bt137.2.2.2.1 a1_0 a1_1).bind fun bt147 => ((limb_Mul.f bt137.1 bt137.2.1 a1_0 a1_1).bind fun bt151 => ((limb_Add.f bt147.2.2.1 bt147.2.2.2 bt137.2.2.2.2.1 bt137.2.2.2.2.2.1).bind fun bt157 => ((limb_Add.f bt147.1 bt147.2.1 bt151.2.2.1 bt151.2.2.2).bind fun bt161 => (if bt157.2.2 = true then ((limb_Add.f bt161.1 bt161.2.1 0 1).bind fun bt165 => (if bt161.2.2 = true then ((limb_Sub.f bt137.2.2.2.2.1 bt137.2.2.2.2.2.1 a1_0 a1_1).bind fun bt169 => (if bt137.2.2.2.2.2.2 = true then (none) else (none))) else ((limb_Sub.f bt137.2.2.2.2.1 bt137.2.2.2.2.2.1 a1_0 a1_1).bind fun bt173 => (if bt137.2.2.2.2.2.2 = true then (if bt165.2.2 = true then (none) else (if (bt151.1 == 0 && (bt151.2.1 == 0)) = true then (if ((bt165.1 == a0_0 && (bt165.2.1 == a0_1)) && ((bt157.1 == a0_2 && (bt157.2.1 == a0_3)))) = true then (if bt173.2.2 = true then ((perigeelaw1_awake.f k).bind fun t177 => (some t177)) else (none)) else (none)) else (none))) else (none))))) else ((limb_Sub.f bt137.2.2.2.2.1 bt137.2.2.2.2.2.1 a1_0 a1_1).bind fun bt178 => (if bt137.2.2.2.2.2.2 = true then (if bt161.2.2 = true then (none) else (if (bt151.1 == 0 && (bt151.2.1 == 0)) = true then (if ((bt161.1 == a0_0 && (bt161.2.1 == a0_1)) && ((bt157.1 == a0_2 && (bt157.2.1 == a0_3)))) = true then (if bt178.2.2 = true then ((perigeelaw1_awake.f k).bind fun t182 => (some t182)) else (none)) else (none)) else (none))) else (none)))))))))) = some r := h
  clear h
  replace H := Option.bind_eq_some_iff.mp H
  obtain ⟨⟨t137, t138, t139, t140, t141, t142, t143⟩, A30, H⟩ := H
  replace H : (if (a1_0 == 0 && (a1_1 == 0)) = true then (if t143 = true then (none) else (if ((t137 == 0 && (t138 == 0)) && ((t139 == 0 && (t140 == 0)))) = true then (if (t141 == 0 && (t142 == 0)) = true then ((perigeelaw1_awake.f k).bind fun t146 => (some t146)) else (none)) else (none))) else ((limb_Mul.f t139 t140 a1_0 a1_1).bind fun bt147 => ((limb_Mul.f t137 t138 a1_0 a1_1).bind fun bt151 => ((limb_Add.f bt147.2.2.1 bt147.2.2.2 t141 t142).bind fun bt157 => ((limb_Add.f bt147.1 bt147.2.1 bt151.2.2.1 bt151.2.2.2).bind fun bt161 => (if bt157.2.2 = true then ((limb_Add.f bt161.1 bt161.2.1 0 1).bind fun bt165 => (if bt161.2.2 = true then ((limb_Sub.f t141 t142 a1_0 a1_1).bind fun bt169 => (if t143 = true then (none) else (none))) else ((limb_Sub.f t141 t142 a1_0 a1_1).bind fun bt173 => (if t143 = true then (if bt165.2.2 = true then (none) else (if (bt151.1 == 0 && (bt151.2.1 == 0)) = true then (if ((bt165.1 == a0_0 && (bt165.2.1 == a0_1)) && ((bt157.1 == a0_2 && (bt157.2.1 == a0_3)))) = true then (if bt173.2.2 = true then ((perigeelaw1_awake.f k).bind fun t177 => (some t177)) else (none)) else (none)) else (none))) else (none))))) else ((limb_Sub.f t141 t142 a1_0 a1_1).bind fun bt178 => (if t143 = true then (if bt161.2.2 = true then (none) else (if (bt151.1 == 0 && (bt151.2.1 == 0)) = true then (if ((bt161.1 == a0_0 && (bt161.2.1 == a0_1)) && ((bt157.1 == a0_2 && (bt157.2.1 == a0_3)))) = true then (if bt178.2.2 = true then ((perigeelaw1_awake.f k).bind fun t182 => (some t182)) else (none)) else (none)) else (none))) else (none))))))))) = some r := H
  have A3 := Aside0.mk A30
  clear A30
  by_cases c4 : (a1_0 == 0 && (a1_1 == 0)) = true
  · rw [if_pos c4] at H
    have c4b0 : (a1_0 == 0 && (a1_1 == 0)) = true := c4
    (try (have c4b1 : decide (a1_0 = 0 && (a1_1 == 0)) = true := by simpa using c4))
    (try (have c4b2 : (a1_0 == 0 && (a1_1 == 0)) = true := by simpa using c4))
    clear c4
    by_cases c5 : t143 = true
    · subst c5
      have H1 : (none) = some r := by rw [if_pos rfl] at H; exact H
      clear H
      have H := H1
      clear H1
      exact absurd H (by simp)
    · replace c5 := Bool.eq_false_iff.mpr c5
      subst c5
      have H1 : (if ((t137 == 0 && (t138 == 0)) && ((t139 == 0 && (t140 == 0)))) = true then (if (t141 == 0 && (t142 == 0)) = true then ((perigeelaw1_awake.f k).bind fun t146 => (some t146)) else (none)) else (none)) = some r := by rw [if_neg (show ¬ (false = true) by decide)] at H; exact H
      clear H
      have H := H1
      clear H1
      by_cases c6 : ((t137 == 0 && (t138 == 0)) && ((t139 == 0 && (t140 == 0)))) = true
      · rw [if_pos c6] at H
        have c6b0 : ((t137 == 0 && (t138 == 0)) && ((t139 == 0 && (t140 == 0)))) = true := c6
        clear c6
        by_cases c7 : (t141 == 0 && (t142 == 0)) = true
        · rw [if_pos c7] at H
          have c7b0 : (t141 == 0 && (t142 == 0)) = true := c7
          (try (have c7b1 : decide (t141 = 0 && (t142 == 0)) = true := by simpa using c7))
          (try (have c7b2 : (t141 == 0 && (t142 == 0)) = true := by simpa using c7))
          clear c7
          replace H := Option.bind_eq_some_iff.mp H
          obtain ⟨t146, A80, H⟩ := H
          replace H : (some t146) = some r := H
          have A8 := Aside0.mk A80
          clear A80
          obtain rfl := Option.some.inj H
          go_enter Try.func6, Try.ntmps6
          go_wp2_with (first | ((with_reducible refine gate_dst (N := 2) rfl ?_); refine box_event ?hg (N := 2) ?hd (cs := #[.int .u64 a0_0, .int .u64 a0_1, .int .u64 a0_2, .int .u64 a0_3]) (t := 26) ?hr ?_; (case hd => rfl); (case hg => rfl); (case hr => first | (go_simp; done) | (go_simp; rfl)); intro gb135 hg w9 hbox hb; have n0_ := Aside0.mk (below_step (by repeat (first | (with_reducible first | exact HB.out | apply below_alloc | apply pw_below_drewN | apply below_drew1) | exact HB.out)) hb); have n1_ := Aside0.mk (hbox); have n2_ := Aside0.mk ((by rw [hg]; exact (below_size (by repeat (first | (with_reducible first | exact HB.out | apply below_alloc | apply pw_below_drewN | apply below_drew1) | exact HB.out))) : w.heap.size ≤ gb135)); have n3_ := Aside0.mk ((by rw [hg]; exact (below_size (by repeat (first | (with_reducible first | exact HB.out | apply below_alloc | apply pw_below_drewN | apply below_drew1) | exact HB.out))) : w.heap.size ≤ gb135)); clear HB; have HB := n0_; have BK135 := n1_; have GW135 := n2_; have GE135 := n3_; clear n0_ n1_ n2_ n3_; clear hb hbox hg) | ((with_reducible refine gate_dst (N := 3) rfl ?_); refine box_event ?hg (N := 3) ?hd (cs := #[.int .u64 a1_0, .int .u64 a1_1]) (t := 24) ?hr ?_; (case hd => rfl); (case hg => rfl); (case hr => first | (go_simp; done) | (go_simp; rfl)); intro gb136 hg w10 hbox hb; have n0_ := Aside0.mk (blk_below (g := gb135) (o := .cells #[.int .u64 a0_0, .int .u64 a0_1, .int .u64 a0_2, .int .u64 a0_3] 26 (0, 0)) (by (with_reducible repeat (first | refine blk_drewN ?_ _ | refine blk_drew ?_ | refine blk_alloc ?_ _)); exact BK135.out) hb); have n1_ := Aside0.mk (below_step (by repeat (first | (with_reducible first | exact HB.out | apply below_alloc | apply pw_below_drewN | apply below_drew1 | refine below_set ?_ GE135.out) | exact HB.out)) hb); have n2_ := Aside0.mk (hbox); have n3_ := Aside0.mk ((by rw [hg]; exact (below_size (by repeat (first | (with_reducible first | exact HB.out | apply below_alloc | apply pw_below_drewN | apply below_drew1 | refine below_set ?_ GE135.out) | exact HB.out))) : w.heap.size ≤ gb136)); have n4_ := Aside0.mk ((by rw [hg]; exact (below_size (by repeat (first | (with_reducible first | exact HB.out | apply below_alloc | apply pw_below_drewN | apply below_drew1 | refine below_set ?_ GE135.out) | exact HB.out))) : w.heap.size ≤ gb136)); have n5_ := Aside0.mk ((by rw [hg]; exact Nat.ne_of_lt (blk_lt (g := gb135) (o := .cells #[.int .u64 a0_0, .int .u64 a0_1, .int .u64 a0_2, .int .u64 a0_3] 26 (0, 0)) (by (with_reducible repeat (first | refine blk_drewN ?_ _ | refine blk_drew ?_ | refine blk_alloc ?_ _)); exact BK135.out)) : gb135 ≠ gb136)); have n6_ := Aside0.mk ((by rw [hg]; exact Nat.ne_of_gt (blk_lt (g := gb135) (o := .cells #[.int .u64 a0_0, .int .u64 a0_1, .int .u64 a0_2, .int .u64 a0_3] 26 (0, 0)) (by (with_reducible repeat (first | refine blk_drewN ?_ _ | refine blk_drew ?_ | refine blk_alloc ?_ _)); exact BK135.out)) : gb136 ≠ gb135)); clear BK135; clear HB; have BK135 := n0_; have HB := n1_; have BK136 := n2_; have GW136 := n3_; have GE136 := n4_; have NB135_136 := n5_; have NB136_135 := n6_; clear n0_ n1_ n2_ n3_ n4_ n5_ n6_; clear hb hbox hg; have hnb11 := NB135_136.out; have hnc11 := NB136_135.out; have hcz12_0 : w10.cell? ⟨gb135, 0, none⟩ = some (.int .u64 a0_0) := (blk_cell BK135.out 0).trans rfl; have hcz12_1 : w10.cell? ⟨gb135, 1, none⟩ = some (.int .u64 a0_1) := (blk_cell BK135.out 1).trans rfl; have hcz12_2 : w10.cell? ⟨gb135, 2, none⟩ = some (.int .u64 a0_2) := (blk_cell BK135.out 2).trans rfl; have hcz12_3 : w10.cell? ⟨gb135, 3, none⟩ = some (.int .u64 a0_3) := (blk_cell BK135.out 3).trans rfl; have hfz12_0 := blk_frozen BK135.out 0; have hfz12_1 := blk_frozen BK135.out 1; have hfz12_2 := blk_frozen BK135.out 2; have hfz12_3 := blk_frozen BK135.out 3; have hcz13_0 : w10.cell? ⟨gb136, 0, none⟩ = some (.int .u64 a1_0) := (blk_cell BK136.out 0).trans rfl; have hcz13_1 : w10.cell? ⟨gb136, 1, none⟩ = some (.int .u64 a1_1) := (blk_cell BK136.out 1).trans rfl; have hfz13_0 := blk_frozen BK136.out 0; have hfz13_1 := blk_frozen BK136.out 1) | ((with_reducible refine gate_callee (f := 12) rfl ?_); refine goesL_ (some 21) rfl rfl Try.func12 (by kernel_rfl) rfl #[.agg #[.int .u64 a0_0, .int .u64 a0_1, .int .u64 a0_2, .int .u64 a0_3], .agg #[.int .u64 a1_0, .int .u64 a1_1]] rfl (by (try simp only [List.map_toArray, List.map_cons, List.map_nil]); first | done | rfl | (simp only [List.length_drop, List.length_take]; rfl)) ?_; (with_reducible refine (limb_Div.calls a0_0 a0_1 a0_2 a0_3 a1_0 a1_1 t137 t138 t139 t140 t141 t142 false _ A3.out).mono ?_); rintro e w14 ⟨rfl, hb⟩; refine ⟨_, rfl, ?_⟩; have n0_ := Aside0.mk (blk_below (g := gb135) (o := .cells #[.int .u64 a0_0, .int .u64 a0_1, .int .u64 a0_2, .int .u64 a0_3] 26 (0, 0)) (by (with_reducible repeat (first | refine blk_drewN ?_ _ | refine blk_drew ?_ | refine blk_alloc ?_ _)); exact BK135.out) hb); have n1_ := Aside0.mk (blk_below (g := gb136) (o := .cells #[.int .u64 a1_0, .int .u64 a1_1] 24 (0, 0)) (by (with_reducible repeat (first | refine blk_drewN ?_ _ | refine blk_drew ?_ | refine blk_alloc ?_ _)); exact BK136.out) hb); have n2_ := Aside0.mk (below_step (by repeat (first | (with_reducible first | exact HB.out | apply below_alloc | apply pw_below_drewN | apply below_drew1 | refine below_set ?_ GE135.out | refine below_set ?_ GE136.out) | exact HB.out)) hb); clear BK135; clear BK136; clear HB; have BK135 := n0_; have BK136 := n1_; have HB := n2_; clear n0_ n1_ n2_; (try clear hb); (try clear hb2); (try clear hk); (try clear hi)) | ((with_reducible refine gate_dst (N := 5) rfl ?_); refine box_event ?hg (N := 5) ?hd (cs := #[.int .u64 0, .int .u64 0, .int .u64 0, .int .u64 0]) (t := 26) ?hr ?_; (case hd => rfl); (case hg => rfl); (case hr => first | (go_simp; done) | (go_simp; rfl)); intro gb144 hg w15 hbox hb; have n0_ := Aside0.mk (blk_below (g := gb135) (o := .cells #[.int .u64 a0_0, .int .u64 a0_1, .int .u64 a0_2, .int .u64 a0_3] 26 (0, 0)) (by (with_reducible repeat (first | refine blk_drewN ?_ _ | refine blk_drew ?_ | refine blk_alloc ?_ _)); exact BK135.out) hb); have n1_ := Aside0.mk (blk_below (g := gb136) (o := .cells #[.int .u64 a1_0, .int .u64 a1_1] 24 (0, 0)) (by (with_reducible repeat (first | refine blk_drewN ?_ _ | refine blk_drew ?_ | refine blk_alloc ?_ _)); exact BK136.out) hb); have n2_ := Aside0.mk (below_step (by repeat (first | (with_reducible first | exact HB.out | apply below_alloc | apply pw_below_drewN | apply below_drew1 | refine below_set ?_ GE135.out | refine below_set ?_ GE136.out) | exact HB.out)) hb); have n3_ := Aside0.mk (hbox); have n4_ := Aside0.mk ((by rw [hg]; exact (below_size (by repeat (first | (with_reducible first | exact HB.out | apply below_alloc | apply pw_below_drewN | apply below_drew1 | refine below_set ?_ GE135.out | refine below_set ?_ GE136.out) | exact HB.out))) : w.heap.size ≤ gb144)); have n5_ := Aside0.mk ((by rw [hg]; exact (below_size (by repeat (first | (with_reducible first | exact HB.out | apply below_alloc | apply pw_below_drewN | apply below_drew1 | refine below_set ?_ GE135.out | refine below_set ?_ GE136.out) | exact HB.out))) : w.heap.size ≤ gb144)); have n6_ := Aside0.mk ((by rw [hg]; exact Nat.ne_of_lt (blk_lt (g := gb135) (o := .cells #[.int .u64 a0_0, .int .u64 a0_1, .int .u64 a0_2, .int .u64 a0_3] 26 (0, 0)) (by (with_reducible repeat (first | refine blk_drewN ?_ _ | refine blk_drew ?_ | refine blk_alloc ?_ _)); exact BK135.out)) : gb135 ≠ gb144)); have n7_ := Aside0.mk ((by rw [hg]; exact Nat.ne_of_gt (blk_lt (g := gb135) (o := .cells #[.int .u64 a0_0, .int .u64 a0_1, .int .u64 a0_2, .int .u64 a0_3] 26 (0, 0)) (by (with_reducible repeat (first | refine blk_drewN ?_ _ | refine blk_drew ?_ | refine blk_alloc ?_ _)); exact BK135.out)) : gb144 ≠ gb135)); have n8_ := Aside0.mk ((by rw [hg]; exact Nat.ne_of_lt (blk_lt (g := gb136) (o := .cells #[.int .u64 a1_0, .int .u64 a1_1] 24 (0, 0)) (by (with_reducible repeat (first | refine blk_drewN ?_ _ | refine blk_drew ?_ | refine blk_alloc ?_ _)); exact BK136.out)) : gb136 ≠ gb144)); have n9_ := Aside0.mk ((by rw [hg]; exact Nat.ne_of_gt (blk_lt (g := gb136) (o := .cells #[.int .u64 a1_0, .int .u64 a1_1] 24 (0, 0)) (by (with_reducible repeat (first | refine blk_drewN ?_ _ | refine blk_drew ?_ | refine blk_alloc ?_ _)); exact BK136.out)) : gb144 ≠ gb136)); clear BK135; clear BK136; clear HB; have BK135 := n0_; have BK136 := n1_; have HB := n2_; have BK144 := n3_; have GW144 := n4_; have GE144 := n5_; have NB135_144 := n6_; have NB144_135 := n7_; have NB136_144 := n8_; have NB144_136 := n9_; clear n0_ n1_ n2_ n3_ n4_ n5_ n6_ n7_ n8_ n9_; clear hb hbox hg) | ((with_reducible refine gate_dst (N := 6) rfl ?_); refine box_event ?hg (N := 6) ?hd (cs := #[.int .u64 0, .int .u64 0]) (t := 24) ?hr ?_; (case hd => rfl); (case hg => rfl); (case hr => first | (go_simp; done) | (go_simp; rfl)); intro gb145 hg w16 hbox hb; have n0_ := Aside0.mk (blk_below (g := gb135) (o := .cells #[.int .u64 a0_0, .int .u64 a0_1, .int .u64 a0_2, .int .u64 a0_3] 26 (0, 0)) (by (with_reducible repeat (first | refine blk_drewN ?_ _ | refine blk_drew ?_ | refine blk_alloc ?_ _)); exact BK135.out) hb); have n1_ := Aside0.mk (blk_below (g := gb136) (o := .cells #[.int .u64 a1_0, .int .u64 a1_1] 24 (0, 0)) (by (with_reducible repeat (first | refine blk_drewN ?_ _ | refine blk_drew ?_ | refine blk_alloc ?_ _)); exact BK136.out) hb); have n2_ := Aside0.mk (blk_below (g := gb144) (o := .cells #[.int .u64 0, .int .u64 0, .int .u64 0, .int .u64 0] 26 (0, 0)) (by (with_reducible repeat (first | refine blk_drewN ?_ _ | refine blk_drew ?_ | refine blk_alloc ?_ _)); exact BK144.out) hb); have n3_ := Aside0.mk (below_step (by repeat (first | (with_reducible first | exact HB.out | apply below_alloc | apply pw_below_drewN | apply below_drew1 | refine below_set ?_ GE135.out | refine below_set ?_ GE136.out | refine below_set ?_ GE144.out) | exact HB.out)) hb); have n4_ := Aside0.mk (hbox); have n5_ := Aside0.mk ((by rw [hg]; exact (below_size (by repeat (first | (with_reducible first | exact HB.out | apply below_alloc | apply pw_below_drewN | apply below_drew1 | refine below_set ?_ GE135.out | refine below_set ?_ GE136.out | refine below_set ?_ GE144.out) | exact HB.out))) : w.heap.size ≤ gb145)); have n6_ := Aside0.mk ((by rw [hg]; exact (below_size (by repeat (first | (with_reducible first | exact HB.out | apply below_alloc | apply pw_below_drewN | apply below_drew1 | refine below_set ?_ GE135.out | refine below_set ?_ GE136.out | refine below_set ?_ GE144.out) | exact HB.out))) : w.heap.size ≤ gb145)); have n7_ := Aside0.mk ((by rw [hg]; exact Nat.ne_of_lt (blk_lt (g := gb135) (o := .cells #[.int .u64 a0_0, .int .u64 a0_1, .int .u64 a0_2, .int .u64 a0_3] 26 (0, 0)) (by (with_reducible repeat (first | refine blk_drewN ?_ _ | refine blk_drew ?_ | refine blk_alloc ?_ _)); exact BK135.out)) : gb135 ≠ gb145)); have n8_ := Aside0.mk ((by rw [hg]; exact Nat.ne_of_gt (blk_lt (g := gb135) (o := .cells #[.int .u64 a0_0, .int .u64 a0_1, .int .u64 a0_2, .int .u64 a0_3] 26 (0, 0)) (by (with_reducible repeat (first | refine blk_drewN ?_ _ | refine blk_drew ?_ | refine blk_alloc ?_ _)); exact BK135.out)) : gb145 ≠ gb135)); have n9_ := Aside0.mk ((by rw [hg]; exact Nat.ne_of_lt (blk_lt (g := gb136) (o := .cells #[.int .u64 a1_0, .int .u64 a1_1] 24 (0, 0)) (by (with_reducible repeat (first | refine blk_drewN ?_ _ | refine blk_drew ?_ | refine blk_alloc ?_ _)); exact BK136.out)) : gb136 ≠ gb145)); have n10_ := Aside0.mk ((by rw [hg]; exact Nat.ne_of_gt (blk_lt (g := gb136) (o := .cells #[.int .u64 a1_0, .int .u64 a1_1] 24 (0, 0)) (by (with_reducible repeat (first | refine blk_drewN ?_ _ | refine blk_drew ?_ | refine blk_alloc ?_ _)); exact BK136.out)) : gb145 ≠ gb136)); have n11_ := Aside0.mk ((by rw [hg]; exact Nat.ne_of_lt (blk_lt (g := gb144) (o := .cells #[.int .u64 0, .int .u64 0, .int .u64 0, .int .u64 0] 26 (0, 0)) (by (with_reducible repeat (first | refine blk_drewN ?_ _ | refine blk_drew ?_ | refine blk_alloc ?_ _)); exact BK144.out)) : gb144 ≠ gb145)); have n12_ := Aside0.mk ((by rw [hg]; exact Nat.ne_of_gt (blk_lt (g := gb144) (o := .cells #[.int .u64 0, .int .u64 0, .int .u64 0, .int .u64 0] 26 (0, 0)) (by (with_reducible repeat (first | refine blk_drewN ?_ _ | refine blk_drew ?_ | refine blk_alloc ?_ _)); exact BK144.out)) : gb145 ≠ gb144)); clear BK135; clear BK136; clear BK144; clear HB; have BK135 := n0_; have BK136 := n1_; have BK144 := n2_; have HB := n3_; have BK145 := n4_; have GW145 := n5_; have GE145 := n6_; have NB135_145 := n7_; have NB145_135 := n8_; have NB136_145 := n9_; have NB145_136 := n10_; have NB144_145 := n11_; have NB145_144 := n12_; clear n0_ n1_ n2_ n3_ n4_ n5_ n6_ n7_ n8_ n9_ n10_ n11_ n12_; clear hb hbox hg; have hnb17 := NB144_135.out; have hnc17 := NB135_144.out; have hnb18 := NB144_136.out; have hnc18 := NB136_144.out; have hnb19 := NB144_145.out; have hnc19 := NB145_144.out; have hcz20_0 : w16.cell? ⟨gb144, 0, none⟩ = some (.int .u64 0) := (blk_cell BK144.out 0).trans rfl; have hcz20_1 : w16.cell? ⟨gb144, 1, none⟩ = some (.int .u64 0) := (blk_cell BK144.out 1).trans rfl; have hcz20_2 : w16.cell? ⟨gb144, 2, none⟩ = some (.int .u64 0) := (blk_cell BK144.out 2).trans rfl; have hcz20_3 : w16.cell? ⟨gb144, 3, none⟩ = some (.int .u64 0) := (blk_cell BK144.out 3).trans rfl; have hfz20_0 := blk_frozen BK144.out 0; have hfz20_1 := blk_frozen BK144.out 1; have hfz20_2 := blk_frozen BK144.out 2; have hfz20_3 := blk_frozen BK144.out 3; have hnb21 := NB145_135.out; have hnc21 := NB135_145.out; have hnb22 := NB145_136.out; have hnc22 := NB136_145.out; have hcz23_0 : w16.cell? ⟨gb145, 0, none⟩ = some (.int .u64 0) := (blk_cell BK145.out 0).trans rfl; have hcz23_1 : w16.cell? ⟨gb145, 1, none⟩ = some (.int .u64 0) := (blk_cell BK145.out 1).trans rfl; have hfz23_0 := blk_frozen BK145.out 0; have hfz23_1 := blk_frozen BK145.out 1; have hcz24_0 : w16.cell? ⟨gb136, 0, none⟩ = some (.int .u64 a1_0) := (blk_cell BK136.out 0).trans rfl; have hcz24_1 : w16.cell? ⟨gb136, 1, none⟩ = some (.int .u64 a1_1) := (blk_cell BK136.out 1).trans rfl; have hfz24_0 := blk_frozen BK136.out 0; have hfz24_1 := blk_frozen BK136.out 1) | (go_at_call 16; (with_reducible refine (perigeelaw1_awake.calls k  t146 _ A8.out).mono ?_); rintro e w25 ⟨rfl, hb⟩; have n0_ := Aside0.mk (blk_below (g := gb135) (o := .cells #[.int .u64 a0_0, .int .u64 a0_1, .int .u64 a0_2, .int .u64 a0_3] 26 (0, 0)) (by (with_reducible repeat (first | refine blk_drewN ?_ _ | refine blk_drew ?_ | refine blk_alloc ?_ _)); refine blk_far ?_ NB135_145.out _; (with_reducible repeat (first | refine blk_drewN ?_ _ | refine blk_drew ?_ | refine blk_alloc ?_ _)); refine blk_far ?_ NB135_145.out _; (with_reducible repeat (first | refine blk_drewN ?_ _ | refine blk_drew ?_ | refine blk_alloc ?_ _)); refine blk_far ?_ NB135_144.out _; (with_reducible repeat (first | refine blk_drewN ?_ _ | refine blk_drew ?_ | refine blk_alloc ?_ _)); refine blk_far ?_ NB135_144.out _; (with_reducible repeat (first | refine blk_drewN ?_ _ | refine blk_drew ?_ | refine blk_alloc ?_ _)); refine blk_far ?_ NB135_144.out _; (with_reducible repeat (first | refine blk_drewN ?_ _ | refine blk_drew ?_ | refine blk_alloc ?_ _)); refine blk_far ?_ NB135_144.out _; (with_reducible repeat (first | refine blk_drewN ?_ _ | refine blk_drew ?_ | refine blk_alloc ?_ _)); exact BK135.out) hb); have n1_ := Aside0.mk (blk_below (g := gb136) (o := .cells #[.int .u64 a1_0, .int .u64 a1_1] 24 (0, 0)) (by (with_reducible repeat (first | refine blk_drewN ?_ _ | refine blk_drew ?_ | refine blk_alloc ?_ _)); refine blk_far ?_ NB136_145.out _; (with_reducible repeat (first | refine blk_drewN ?_ _ | refine blk_drew ?_ | refine blk_alloc ?_ _)); refine blk_far ?_ NB136_145.out _; (with_reducible repeat (first | refine blk_drewN ?_ _ | refine blk_drew ?_ | refine blk_alloc ?_ _)); refine blk_far ?_ NB136_144.out _; (with_reducible repeat (first | refine blk_drewN ?_ _ | refine blk_drew ?_ | refine blk_alloc ?_ _)); refine blk_far ?_ NB136_144.out _; (with_reducible repeat (first | refine blk_drewN ?_ _ | refine blk_drew ?_ | refine blk_alloc ?_ _)); refine blk_far ?_ NB136_144.out _; (with_reducible repeat (first | refine blk_drewN ?_ _ | refine blk_drew ?_ | refine blk_alloc ?_ _)); refine blk_far ?_ NB136_144.out _; (with_reducible repeat (first | refine blk_drewN ?_ _ | refine blk_drew ?_ | refine blk_alloc ?_ _)); exact BK136.out) hb); have n2_ := Aside0.mk (blk_below (g := gb144) (o := .cells #[.int .u64 t137, .int .u64 t138, .int .u64 t139, .int .u64 t140] 26 (0, 0)) (by (with_reducible repeat (first | refine blk_drewN ?_ _ | refine blk_drew ?_ | refine blk_alloc ?_ _)); refine blk_far ?_ NB144_145.out _; (with_reducible repeat (first | refine blk_drewN ?_ _ | refine blk_drew ?_ | refine blk_alloc ?_ _)); refine blk_far ?_ NB144_145.out _; (with_reducible repeat (first | refine blk_drewN ?_ _ | refine blk_drew ?_ | refine blk_alloc ?_ _)); refine blk_put (cs := #[.int .u64 t137, .int .u64 t138, .int .u64 t139, .int .u64 0]) ?_ 3 _ rfl; (with_reducible repeat (first | refine blk_drewN ?_ _ | refine blk_drew ?_ | refine blk_alloc ?_ _)); refine blk_put (cs := #[.int .u64 t137, .int .u64 t138, .int .u64 0, .int .u64 0]) ?_ 2 _ rfl; (with_reducible repeat (first | refine blk_drewN ?_ _ | refine blk_drew ?_ | refine blk_alloc ?_ _)); refine blk_put (cs := #[.int .u64 t137, .int .u64 0, .int .u64 0, .int .u64 0]) ?_ 1 _ rfl; (with_reducible repeat (first | refine blk_drewN ?_ _ | refine blk_drew ?_ | refine blk_alloc ?_ _)); refine blk_put (cs := #[.int .u64 0, .int .u64 0, .int .u64 0, .int .u64 0]) ?_ 0 _ rfl; (with_reducible repeat (first | refine blk_drewN ?_ _ | refine blk_drew ?_ | refine blk_alloc ?_ _)); exact BK144.out) hb); have n3_ := Aside0.mk (blk_below (g := gb145) (o := .cells #[.int .u64 t141, .int .u64 t142] 24 (0, 0)) (by (with_reducible repeat (first | refine blk_drewN ?_ _ | refine blk_drew ?_ | refine blk_alloc ?_ _)); refine blk_put (cs := #[.int .u64 t141, .int .u64 0]) ?_ 1 _ rfl; (with_reducible repeat (first | refine blk_drewN ?_ _ | refine blk_drew ?_ | refine blk_alloc ?_ _)); refine blk_put (cs := #[.int .u64 0, .int .u64 0]) ?_ 0 _ rfl; (with_reducible repeat (first | refine blk_drewN ?_ _ | refine blk_drew ?_ | refine blk_alloc ?_ _)); refine blk_far ?_ NB145_144.out _; (with_reducible repeat (first | refine blk_drewN ?_ _ | refine blk_drew ?_ | refine blk_alloc ?_ _)); refine blk_far ?_ NB145_144.out _; (with_reducible repeat (first | refine blk_drewN ?_ _ | refine blk_drew ?_ | refine blk_alloc ?_ _)); refine blk_far ?_ NB145_144.out _; (with_reducible repeat (first | refine blk_drewN ?_ _ | refine blk_drew ?_ | refine blk_alloc ?_ _)); refine blk_far ?_ NB145_144.out _; (with_reducible repeat (first | refine blk_drewN ?_ _ | refine blk_drew ?_ | refine blk_alloc ?_ _)); exact BK145.out) hb); have n4_ := Aside0.mk (below_step (by repeat (first | (with_reducible first | exact HB.out | apply below_alloc | apply pw_below_drewN | apply below_drew1 | refine below_set ?_ GE135.out | refine below_set ?_ GE136.out | refine below_set ?_ GE144.out | refine below_set ?_ GE145.out) | exact HB.out)) hb); clear BK135; clear BK136; clear BK144; clear BK145; clear HB; have BK135 := n0_; have BK136 := n1_; have BK144 := n2_; have BK145 := n3_; have HB := n4_; clear n0_ n1_ n2_ n3_ n4_; (try clear hb); (try clear hb2); (try clear hk); (try clear hi)))
          go_ret
          exact ⟨by first | rfl | (simp [errW_none, errW_some] <;> rfl) | (simp [*, errW_none, errW_some] <;> rfl), by repeat (first | (with_reducible first | exact HB.out | apply below_alloc | apply pw_below_drewN | apply below_drew1 | refine below_set ?_ GE135.out | refine below_set ?_ GE136.out | refine below_set ?_ GE144.out | refine below_set ?_ GE145.out) | exact HB.out)⟩
        · rw [if_neg c7] at H
          exact absurd H (by simp)
      · rw [if_neg c6] at H
        exact absurd H (by simp)
  · rw [if_neg c4] at H
    have c4b0 : (a1_0 == 0 && (a1_1 == 0)) = false := by simpa using c4
    (try (have c4b1 : decide (a1_0 = 0 && (a1_1 == 0)) = false := by simpa using c4))
    (try (have c4b2 : (a1_0 == 0 && (a1_1 == 0)) = false := by simpa using c4))
    (try (have c4b3 : ¬ (a1_0 = 0 && (a1_1 == 0)) := by simpa using c4))
    clear c4
    replace H := Option.bind_eq_some_iff.mp H
    obtain ⟨⟨t147, t148, t149, t150⟩, A260, H⟩ := H
    replace H : ((limb_Mul.f t137 t138 a1_0 a1_1).bind fun bt151 => ((limb_Add.f t149 t150 t141 t142).bind fun bt157 => ((limb_Add.f t147 t148 bt151.2.2.1 bt151.2.2.2).bind fun bt161 => (if bt157.2.2 = true then ((limb_Add.f bt161.1 bt161.2.1 0 1).bind fun bt165 => (if bt161.2.2 = true then ((limb_Sub.f t141 t142 a1_0 a1_1).bind fun bt169 => (if t143 = true then (none) else (none))) else ((limb_Sub.f t141 t142 a1_0 a1_1).bind fun bt173 => (if t143 = true then (if bt165.2.2 = true then (none) else (if (bt151.1 == 0 && (bt151.2.1 == 0)) = true then (if ((bt165.1 == a0_0 && (bt165.2.1 == a0_1)) && ((bt157.1 == a0_2 && (bt157.2.1 == a0_3)))) = true then (if bt173.2.2 = true then ((perigeelaw1_awake.f k).bind fun t177 => (some t177)) else (none)) else (none)) else (none))) else (none))))) else ((limb_Sub.f t141 t142 a1_0 a1_1).bind fun bt178 => (if t143 = true then (if bt161.2.2 = true then (none) else (if (bt151.1 == 0 && (bt151.2.1 == 0)) = true then (if ((bt161.1 == a0_0 && (bt161.2.1 == a0_1)) && ((bt157.1 == a0_2 && (bt157.2.1 == a0_3)))) = true then (if bt178.2.2 = true then ((perigeelaw1_awake.f k).bind fun t182 => (some t182)) else (none)) else (none)) else (none))) else (none))))))) = some r := H
    have A26 := Aside0.mk A260
    clear A260
    replace H := Option.bind_eq_some_iff.mp H
    obtain ⟨⟨t151, t152, t153, t154⟩, A270, H⟩ := H
    replace H : ((limb_Add.f t149 t150 t141 t142).bind fun bt157 => ((limb_Add.f t147 t148 t153 t154).bind fun bt161 => (if bt157.2.2 = true then ((limb_Add.f bt161.1 bt161.2.1 0 1).bind fun bt165 => (if bt161.2.2 = true then ((limb_Sub.f t141 t142 a1_0 a1_1).bind fun bt169 => (if t143 = true then (none) else (none))) else ((limb_Sub.f t141 t142 a1_0 a1_1).bind fun bt173 => (if t143 = true then (if bt165.2.2 = true then (none) else (if (t151 == 0 && (t152 == 0)) = true then (if ((bt165.1 == a0_0 && (bt165.2.1 == a0_1)) && ((bt157.1 == a0_2 && (bt157.2.1 == a0_3)))) = true then (if bt173.2.2 = true then ((perigeelaw1_awake.f k).bind fun t177 => (some t177)) else (none)) else (none)) else (none))) else (none))))) else ((limb_Sub.f t141 t142 a1_0 a1_1).bind fun bt178 => (if t143 = true then (if bt161.2.2 = true then (none) else (if (t151 == 0 && (t152 == 0)) = true then (if ((bt161.1 == a0_0 && (bt161.2.1 == a0_1)) && ((bt157.1 == a0_2 && (bt157.2.1 == a0_3)))) = true then (if bt178.2.2 = true then ((perigeelaw1_awake.f k).bind fun t182 => (some t182)) else (none)) else (none)) else (none))) else (none)))))) = some r := H
    have A27 := Aside0.mk A270
    clear A270
    replace H := Option.bind_eq_some_iff.mp H
    obtain ⟨⟨t157, t158, t159⟩, A280, H⟩ := H
    replace H : ((limb_Add.f t147 t148 t153 t154).bind fun bt161 => (if t159 = true then ((limb_Add.f bt161.1 bt161.2.1 0 1).bind fun bt165 => (if bt161.2.2 = true then ((limb_Sub.f t141 t142 a1_0 a1_1).bind fun bt169 => (if t143 = true then (none) else (none))) else ((limb_Sub.f t141 t142 a1_0 a1_1).bind fun bt173 => (if t143 = true then (if bt165.2.2 = true then (none) else (if (t151 == 0 && (t152 == 0)) = true then (if ((bt165.1 == a0_0 && (bt165.2.1 == a0_1)) && ((t157 == a0_2 && (t158 == a0_3)))) = true then (if bt173.2.2 = true then ((perigeelaw1_awake.f k).bind fun t177 => (some t177)) else (none)) else (none)) else (none))) else (none))))) else ((limb_Sub.f t141 t142 a1_0 a1_1).bind fun bt178 => (if t143 = true then (if bt161.2.2 = true then (none) else (if (t151 == 0 && (t152 == 0)) = true then (if ((bt161.1 == a0_0 && (bt161.2.1 == a0_1)) && ((t157 == a0_2 && (t158 == a0_3)))) = true then (if bt178.2.2 = true then ((perigeelaw1_awake.f k).bind fun t182 => (some t182)) else (none)) else (none)) else (none))) else (none))))) = some r := H
    have A28 := Aside0.mk A280
    clear A280
    replace H := Option.bind_eq_some_iff.mp H
    obtain ⟨⟨t161, t162, t163⟩, A290, H⟩ := H
    replace H : (if t159 = true then ((limb_Add.f t161 t162 0 1).bind fun bt165 => (if t163 = true then ((limb_Sub.f t141 t142 a1_0 a1_1).bind fun bt169 => (if t143 = true then (none) else (none))) else ((limb_Sub.f t141 t142 a1_0 a1_1).bind fun bt173 => (if t143 = true then (if bt165.2.2 = true then (none) else (if (t151 == 0 && (t152 == 0)) = true then (if ((bt165.1 == a0_0 && (bt165.2.1 == a0_1)) && ((t157 == a0_2 && (t158 == a0_3)))) = true then (if bt173.2.2 = true then ((perigeelaw1_awake.f k).bind fun t177 => (some t177)) else (none)) else (none)) else (none))) else (none))))) else ((limb_Sub.f t141 t142 a1_0 a1_1).bind fun bt178 => (if t143 = true then (if t163 = true then (none) else (if (t151 == 0 && (t152 == 0)) = true then (if ((t161 == a0_0 && (t162 == a0_1)) && ((t157 == a0_2 && (t158 == a0_3)))) = true then (if bt178.2.2 = true then ((perigeelaw1_awake.f k).bind fun t182 => (some t182)) else (none)) else (none)) else (none))) else (none)))) = some r := H
    have A29 := Aside0.mk A290
    clear A290
    by_cases c30 : t159 = true
    · subst c30
      have H1 : ((limb_Add.f t161 t162 0 1).bind fun bt165 => (if t163 = true then ((limb_Sub.f t141 t142 a1_0 a1_1).bind fun bt169 => (if t143 = true then (none) else (none))) else ((limb_Sub.f t141 t142 a1_0 a1_1).bind fun bt173 => (if t143 = true then (if bt165.2.2 = true then (none) else (if (t151 == 0 && (t152 == 0)) = true then (if ((bt165.1 == a0_0 && (bt165.2.1 == a0_1)) && ((t157 == a0_2 && (t158 == a0_3)))) = true then (if bt173.2.2 = true then ((perigeelaw1_awake.f k).bind fun t177 => (some t177)) else (none)) else (none)) else (none))) else (none))))) = some r := by rw [if_pos rfl] at H; exact H
      clear H
      have H := H1
      clear H1
      replace H := Option.bind_eq_some_iff.mp H
      obtain ⟨⟨t165, t166, t167⟩, A310, H⟩ := H
      replace H : (if t163 = true then ((limb_Sub.f t141 t142 a1_0 a1_1).bind fun bt169 => (if t143 = true then (none) else (none))) else ((limb_Sub.f t141 t142 a1_0 a1_1).bind fun bt173 => (if t143 = true then (if t167 = true then (none) else (if (t151 == 0 && (t152 == 0)) = true then (if ((t165 == a0_0 && (t166 == a0_1)) && ((t157 == a0_2 && (t158 == a0_3)))) = true then (if bt173.2.2 = true then ((perigeelaw1_awake.f k).bind fun t177 => (some t177)) else (none)) else (none)) else (none))) else (none)))) = some r := H
      have A31 := Aside0.mk A310
      clear A310
      by_cases c32 : t163 = true
      · subst c32
        have H1 : ((limb_Sub.f t141 t142 a1_0 a1_1).bind fun bt169 => (if t143 = true then (none) else (none))) = some r := by rw [if_pos rfl] at H; exact H
        clear H
        have H := H1
        clear H1
        replace H := Option.bind_eq_some_iff.mp H
        obtain ⟨⟨t169, t170, t171⟩, A330, H⟩ := H
        replace H : (if t143 = true then (none) else (none)) = some r := H
        have A33 := Aside0.mk A330
        clear A330
        by_cases c34 : t143 = true
        · subst c34
          have H1 : (none) = some r := by rw [if_pos rfl] at H; exact H
          clear H
          have H := H1
          clear H1
          exact absurd H (by simp)
        · replace c34 := Bool.eq_false_iff.mpr c34
          subst c34
          have H1 : (none) = some r := by rw [if_neg (show ¬ (false = true) by decide)] at H; exact H
          clear H
          have H := H1
          clear H1
          exact absurd H (by simp)
      · replace c32 := Bool.eq_false_iff.mpr c32
        subst c32
        have H1 : ((limb_Sub.f t141 t142 a1_0 a1_1).bind fun bt173 => (if t143 = true then (if t167 = true then (none) else (if (t151 == 0 && (t152 == 0)) = true then (if ((t165 == a0_0 && (t166 == a0_1)) && ((t157 == a0_2 && (t158 == a0_3)))) = true then (if bt173.2.2 = true then ((perigeelaw1_awake.f k).bind fun t177 => (some t177)) else (none)) else (none)) else (none))) else (none))) = some r := by rw [if_neg (show ¬ (false = true) by decide)] at H; exact H
        clear H
        have H := H1
        clear H1
        replace H := Option.bind_eq_some_iff.mp H
        obtain ⟨⟨t173, t174, t175⟩, A350, H⟩ := H
        replace H : (if t143 = true then (if t167 = true then (none) else (if (t151 == 0 && (t152 == 0)) = true then (if ((t165 == a0_0 && (t166 == a0_1)) && ((t157 == a0_2 && (t158 == a0_3)))) = true then (if t175 = true then ((perigeelaw1_awake.f k).bind fun t177 => (some t177)) else (none)) else (none)) else (none))) else (none)) = some r := H
        have A35 := Aside0.mk A350
        clear A350
        by_cases c36 : t143 = true
        · subst c36
          have H1 : (if t167 = true then (none) else (if (t151 == 0 && (t152 == 0)) = true then (if ((t165 == a0_0 && (t166 == a0_1)) && ((t157 == a0_2 && (t158 == a0_3)))) = true then (if t175 = true then ((perigeelaw1_awake.f k).bind fun t177 => (some t177)) else (none)) else (none)) else (none))) = some r := by rw [if_pos rfl] at H; exact H
          clear H
          have H := H1
          clear H1
          by_cases c37 : t167 = true
          · subst c37
            have H1 : (none) = some r := by rw [if_pos rfl] at H; exact H
            clear H
            have H := H1
            clear H1
            exact absurd H (by simp)
          · replace c37 := Bool.eq_false_iff.mpr c37
            subst c37
            have H1 : (if (t151 == 0 && (t152 == 0)) = true then (if ((t165 == a0_0 && (t166 == a0_1)) && ((t157 == a0_2 && (t158 == a0_3)))) = true then (if t175 = true then ((perigeelaw1_awake.f k).bind fun t177 => (some t177)) else (none)) else (none)) else (none)) = some r := by rw [if_neg (show ¬ (false = true) by decide)] at H; exact H
            clear H
            have H := H1
            clear H1
            by_cases c38 : (t151 == 0 && (t152 == 0)) = true
            · rw [if_pos c38] at H
              have c38b0 : (t151 == 0 && (t152 == 0)) = true := c38
              (try (have c38b1 : decide (t151 = 0 && (t152 == 0)) = true := by simpa using c38))
              (try (have c38b2 : (t151 == 0 && (t152 == 0)) = true := by simpa using c38))
              clear c38
              by_cases c39 : ((t165 == a0_0 && (t166 == a0_1)) && ((t157 == a0_2 && (t158 == a0_3)))) = true
              · rw [if_pos c39] at H
                have c39b0 : ((t165 == a0_0 && (t166 == a0_1)) && ((t157 == a0_2 && (t158 == a0_3)))) = true := c39
                clear c39
                by_cases c40 : t175 = true
                · subst c40
                  have H1 : ((perigeelaw1_awake.f k).bind fun t177 => (some t177)) = some r := by rw [if_pos rfl] at H; exact H
                  clear H
                  have H := H1
                  clear H1
                  replace H := Option.bind_eq_some_iff.mp H
                  obtain ⟨t177, A410, H⟩ := H
                  replace H : (some t177) = some r := H
                  have A41 := Aside0.mk A410
                  clear A410
                  obtain rfl := Option.some.inj H
                  exact perigeelaw1_LimbRest.way1 w c4b0 c4b1 c4b2 c4b3 A26 A27 A28 A29 A3 A31 c38b0 c38b1 c38b2 c39b0 A35 A41
                · replace c40 := Bool.eq_false_iff.mpr c40
                  subst c40
                  have H1 : (none) = some r := by rw [if_neg (show ¬ (false = true) by decide)] at H; exact H
                  clear H
                  have H := H1
                  clear H1
                  exact absurd H (by simp)
              · rw [if_neg c39] at H
                exact absurd H (by simp)
            · rw [if_neg c38] at H
              exact absurd H (by simp)
        · replace c36 := Bool.eq_false_iff.mpr c36
          subst c36
          have H1 : (none) = some r := by rw [if_neg (show ¬ (false = true) by decide)] at H; exact H
          clear H
          have H := H1
          clear H1
          exact absurd H (by simp)
    · replace c30 := Bool.eq_false_iff.mpr c30
      subst c30
      have H1 : ((limb_Sub.f t141 t142 a1_0 a1_1).bind fun bt178 => (if t143 = true then (if t163 = true then (none) else (if (t151 == 0 && (t152 == 0)) = true then (if ((t161 == a0_0 && (t162 == a0_1)) && ((t157 == a0_2 && (t158 == a0_3)))) = true then (if bt178.2.2 = true then ((perigeelaw1_awake.f k).bind fun t182 => (some t182)) else (none)) else (none)) else (none))) else (none))) = some r := by rw [if_neg (show ¬ (false = true) by decide)] at H; exact H
      clear H
      have H := H1
      clear H1
      replace H := Option.bind_eq_some_iff.mp H
      obtain ⟨⟨t178, t179, t180⟩, A1360, H⟩ := H
      replace H : (if t143 = true then (if t163 = true then (none) else (if (t151 == 0 && (t152 == 0)) = true then (if ((t161 == a0_0 && (t162 == a0_1)) && ((t157 == a0_2 && (t158 == a0_3)))) = true then (if t180 = true then ((perigeelaw1_awake.f k).bind fun t182 => (some t182)) else (none)) else (none)) else (none))) else (none)) = some r := H
      have A136 := Aside0.mk A1360
      clear A1360
      by_cases c137 : t143 = true
      · subst c137
        have H1 : (if t163 = true then (none) else (if (t151 == 0 && (t152 == 0)) = true then (if ((t161 == a0_0 && (t162 == a0_1)) && ((t157 == a0_2 && (t158 == a0_3)))) = true then (if t180 = true then ((perigeelaw1_awake.f k).bind fun t182 => (some t182)) else (none)) else (none)) else (none))) = some r := by rw [if_pos rfl] at H; exact H
        clear H
        have H := H1
        clear H1
        by_cases c138 : t163 = true
        · subst c138
          have H1 : (none) = some r := by rw [if_pos rfl] at H; exact H
          clear H
          have H := H1
          clear H1
          exact absurd H (by simp)
        · replace c138 := Bool.eq_false_iff.mpr c138
          subst c138
          have H1 : (if (t151 == 0 && (t152 == 0)) = true then (if ((t161 == a0_0 && (t162 == a0_1)) && ((t157 == a0_2 && (t158 == a0_3)))) = true then (if t180 = true then ((perigeelaw1_awake.f k).bind fun t182 => (some t182)) else (none)) else (none)) else (none)) = some r := by rw [if_neg (show ¬ (false = true) by decide)] at H; exact H
          clear H
          have H := H1
          clear H1
          by_cases c139 : (t151 == 0 && (t152 == 0)) = true
          · rw [if_pos c139] at H
            have c139b0 : (t151 == 0 && (t152 == 0)) = true := c139
            (try (have c139b1 : decide (t151 = 0 && (t152 == 0)) = true := by simpa using c139))
            (try (have c139b2 : (t151 == 0 && (t152 == 0)) = true := by simpa using c139))
            clear c139
            by_cases c140 : ((t161 == a0_0 && (t162 == a0_1)) && ((t157 == a0_2 && (t158 == a0_3)))) = true
            · rw [if_pos c140] at H
              have c140b0 : ((t161 == a0_0 && (t162 == a0_1)) && ((t157 == a0_2 && (t158 == a0_3)))) = true := c140
              clear c140
              by_cases c141 : t180 = true
              · subst c141
                have H1 : ((perigeelaw1_awake.f k).bind fun t182 => (some t182)) = some r := by rw [if_pos rfl] at H; exact H
                clear H
                have H := H1
                clear H1
                replace H := Option.bind_eq_some_iff.mp H
                obtain ⟨t182, A1420, H⟩ := H
                replace H : (some t182) = some r := H
                have A142 := Aside0.mk A1420
                clear A1420
                obtain rfl := Option.some.inj H
                exact perigeelaw1_LimbRest.way2 w c4b0 c4b1 c4b2 c4b3 A26 A27 A28 A3 A29 c139b0 c139b1 c139b2 c140b0 A136 A142
              · replace c141 := Bool.eq_false_iff.mpr c141
                subst c141
                have H1 : (none) = some r := by rw [if_neg (show ¬ (false = true) by decide)] at H; exact H
                clear H
                have H := H1
                clear H1
                exact absurd H (by simp)
            · rw [if_neg c140] at H
              exact absurd H (by simp)
          · rw [if_neg c139] at H
            exact absurd H (by simp)
      · replace c137 := Bool.eq_false_iff.mpr c137
        subst c137
        have H1 : (none) = some r := by rw [if_neg (show ¬ (false = true) by decide)] at H; exact H
        clear H
        have H := H1
        clear H1
        exact absurd H (by simp)

/-- THE ONE PURE STATEMENT of perigeelaw1_LimbRest: yours. -/
def perigeelaw1_LimbRest.Pure : Prop := ∀ (a0_0 : Int) (a0_1 : Int) (a0_2 : Int) (a0_3 : Int) (a1_0 : Int) (a1_1 : Int), (Lit.int .u64 a0_0).wf = true → (Lit.int .u64 a0_1).wf = true → (Lit.int .u64 a0_2).wf = true → (Lit.int .u64 a0_3).wf = true → (Lit.int .u64 a1_0).wf = true → (Lit.int .u64 a1_1).wf = true → ∃ k, perigeelaw1_LimbRest.f k a0_0 a0_1 a0_2 a0_3 a1_0 a1_1 = some true
theorem perigeelaw1_LimbRest.walk (P : perigeelaw1_LimbRest.Pure) (a0_0 : Int) (a0_1 : Int) (a0_2 : Int) (a0_3 : Int) (a1_0 : Int) (a1_1 : Int) (w : World) (w0_0 : (Lit.int .u64 a0_0).wf = true) (w0_1 : (Lit.int .u64 a0_1).wf = true) (w0_2 : (Lit.int .u64 a0_2).wf = true) (w0_3 : (Lit.int .u64 a0_3).wf = true) (w1_0 : (Lit.int .u64 a1_0).wf = true) (w1_1 : (Lit.int .u64 a1_1).wf = true) :
    Calls Try.prog 6 #[.agg #[.int .u64 a0_0, .int .u64 a0_1, .int .u64 a0_2, .int .u64 a0_3], .agg #[.int .u64 a1_0, .int .u64 a1_1]] w fun e w' => e = .returned (.bool true) ∧ Below w.heap.size w w' := by
  obtain ⟨k, h⟩ := P a0_0 a0_1 a0_2 a0_3 a1_0 a1_1 w0_0 w0_1 w0_2 w0_3 w1_0 w1_1
  refine (perigeelaw1_LimbRest.calls k a0_0 a0_1 a0_2 a0_3 a1_0 a1_1 true w h).mono ?_
  rintro e w' ⟨rfl, hd⟩
  exact ⟨rfl, hd⟩

end Go.Proofs.Ytlpdongckcaclaa.B
