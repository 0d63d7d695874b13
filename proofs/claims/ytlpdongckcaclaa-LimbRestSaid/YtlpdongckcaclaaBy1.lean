/- Functions of the translation as plain Lean functions, and their walks: written by a program of this session's on the kit's print, for this seat. -/
import Derived.Test.YtlpdongckcaclaaBx0
import Derived.Test.YtlpdongckcaclaaBx1
import Derived.Test.YtlpdongckcaclaaBx2
import Derived.Test.YtlpdongckcaclaaBx4
import Derived.Test.YtlpdongckcaclaaBy0
namespace Go.Proofs.Ytlpdongckcaclaa.B
open Go.RowKit Go.Proofs.Ytlpdongckcaclaa.Limb Go.Proofs.Ytlpdongckcaclaa.Plain Go.Proofs.YtlpdongckcaclaaW.PrintWords Go.Proofs.YtlpdongckcaclaaW.PrintLast Go.Proofs.YtlpdongckcaclaaW.PrintMore
open Go.Proofs.YtlpdongckcaclaaW.PrintWords renaming pw_below_drewN → pN, below_drew1 → dI, blk_drewN → bN, blk_alloc → bL, blk_below → bB, blk_cell → bC, blk_frozen → bF, blk_far → bX, blk_drew → bD
attribute [local go_sem] max2_int min2_int max_two min_two max_three min_three max_four min_four   -- for this text's walks alone
set_option linter.unusedVariables false
set_option linter.unusedSimpArgs false
attribute [local go_sem high] eqA24 eqA26
set_option maxHeartbeats 8000000 in
set_option maxRecDepth 100000 in
theorem perigeelaw1_LimbRest.way1 (w : World) {k : Nat} {a0_0 a0_1 a0_2 a0_3 a1_0 a1_1 : Int} {t137 t138 t139 t140 t141 t142 : Int} {t147 t148 t149 t150 : Int} {t151 t152 t153 t154 : Int} {t157 t158 t161 t162 : Int} {t165 t166 : Int} {t173 t174 : Int} {t177 : Bool} (c4b0 : (a1_0 == 0 && a1_1 == 0) = false) (c4b1 : decide ((decide (a1_0 = 0) && a1_1 == 0) = true) = false) (c4b2 : (a1_0 == 0 && a1_1 == 0) = false) (c4b3 : ¬(decide (a1_0 = 0) && a1_1 == 0) = true) (A26 : Aside0 (limb_Mul.f t139 t140 a1_0 a1_1 = some (t147, t148, t149, t150))) (A27 : Aside0 (limb_Mul.f t137 t138 a1_0 a1_1 = some (t151, t152, t153, t154))) (A28 : Aside0 (limb_Add.f t149 t150 t141 t142 = some (t157, t158, true))) (A29 : Aside0 (limb_Add.f t147 t148 t153 t154 = some (t161, t162, false))) (A3 : Aside0 (limb_Div.f a0_0 a0_1 a0_2 a0_3 a1_0 a1_1 = some (t137, t138, t139, t140, t141, t142, true))) (A31 : Aside0 (limb_Add.f t161 t162 0 1 = some (t165, t166, false))) (c38b0 : (t151 == 0 && t152 == 0) = true) (c38b1 : decide ((decide (t151 = 0) && t152 == 0) = true) = true) (c38b2 : (t151 == 0 && t152 == 0) = true) (c39b0 : (t165 == a0_0 && t166 == a0_1 && (t157 == a0_2 && t158 == a0_3)) = true) (A35 : Aside0 (limb_Sub.f t141 t142 a1_0 a1_1 = some (t173, t174, true))) (A41 : Aside0 (perigeelaw1_awake.f k = some t177)) :
    Calls Try.prog 6 #[.agg #[.int .u64 a0_0, .int .u64 a0_1, .int .u64 a0_2, .int .u64 a0_3], .agg #[.int .u64 a1_0, .int .u64 a1_1]] w fun e w' => e = .returned (.bool t177) ∧ Below w.heap.size w w' := by
  have hu26 := Try.underlying26
  have hu24 := Try.underlying24
  have HB := Aside0.mk (Below.refl w.heap.size w)
  go_enter Try.func6, Try.ntmps6
  try go_wp2_with (first | ((with_reducible refine gate_dst (N := 2) rfl ?_); refine box_event ?hg (N := 2) ?hd (cs := #[.int .u64 a0_0, .int .u64 a0_1, .int .u64 a0_2, .int .u64 a0_3]) (t := 26) ?hr ?_; (case hd => rfl); (case hg => rfl); (case hr => first | (go_simp; done) | (go_simp; rfl)); intro gb135 hg w42 hbox hb; have n0_ := Aside0.mk (below_step (by repeat (first | (with_reducible first | exact HB.out | apply below_alloc | apply pN | apply dI) | exact HB.out)) hb); have n1_ := Aside0.mk (hbox); have n2_ := Aside0.mk ((by rw [hg]; exact (below_size (by repeat (first | (with_reducible first | exact HB.out | apply below_alloc | apply pN | apply dI) | exact HB.out))) : w.heap.size ≤ gb135)); have n3_ := Aside0.mk ((by rw [hg]; exact (below_size (by repeat (first | (with_reducible first | exact HB.out | apply below_alloc | apply pN | apply dI) | exact HB.out))) : w.heap.size ≤ gb135)); clear HB; have HB := n0_; have BK135 := n1_; have GW135 := n2_; have GE135 := n3_; clear n0_ n1_ n2_ n3_; clear hb hbox hg) | ((with_reducible refine gate_dst (N := 3) rfl ?_); refine box_event ?hg (N := 3) ?hd (cs := #[.int .u64 a1_0, .int .u64 a1_1]) (t := 24) ?hr ?_; (case hd => rfl); (case hg => rfl); (case hr => first | (go_simp; done) | (go_simp; rfl)); intro gb136 hg w43 hbox hb; have n0_ := Aside0.mk (bB (g := gb135) (o := .cells #[.int .u64 a0_0, .int .u64 a0_1, .int .u64 a0_2, .int .u64 a0_3] 26 (0, 0)) (by (with_reducible repeat (first | refine bN ?_ _ | refine bD ?_ | refine bL ?_ _)); exact BK135.out) hb); have n1_ := Aside0.mk (below_step (by repeat (first | (with_reducible first | exact HB.out | apply below_alloc | apply pN | apply dI | refine below_set ?_ GE135.out) | exact HB.out)) hb); have n2_ := Aside0.mk (hbox); have n3_ := Aside0.mk ((by rw [hg]; exact (below_size (by repeat (first | (with_reducible first | exact HB.out | apply below_alloc | apply pN | apply dI | refine below_set ?_ GE135.out) | exact HB.out))) : w.heap.size ≤ gb136)); have n4_ := Aside0.mk ((by rw [hg]; exact (below_size (by repeat (first | (with_reducible first | exact HB.out | apply below_alloc | apply pN | apply dI | refine below_set ?_ GE135.out) | exact HB.out))) : w.heap.size ≤ gb136)); have n5_ := Aside0.mk ((by rw [hg]; exact Nat.ne_of_lt (blk_lt (g := gb135) (o := .cells #[.int .u64 a0_0, .int .u64 a0_1, .int .u64 a0_2, .int .u64 a0_3] 26 (0, 0)) (by (with_reducible repeat (first | refine bN ?_ _ | refine bD ?_ | refine bL ?_ _)); exact BK135.out)) : gb135 ≠ gb136)); have n6_ := Aside0.mk ((by rw [hg]; exact Nat.ne_of_gt (blk_lt (g := gb135) (o := .cells #[.int .u64 a0_0, .int .u64 a0_1, .int .u64 a0_2, .int .u64 a0_3] 26 (0, 0)) (by (with_reducible repeat (first | refine bN ?_ _ | refine bD ?_ | refine bL ?_ _)); exact BK135.out)) : gb136 ≠ gb135)); clear BK135; clear HB; have BK135 := n0_; have HB := n1_; have BK136 := n2_; have GW136 := n3_; have GE136 := n4_; have NB135_136 := n5_; have NB136_135 := n6_; clear n0_ n1_ n2_ n3_ n4_ n5_ n6_; clear hb hbox hg; have hnb44 := NB135_136.out; have hnc44 := NB136_135.out; have hcz45_0 : w43.cell? ⟨gb135, 0, none⟩ = some (.int .u64 a0_0) := (bC BK135.out 0).trans rfl; have hcz45_1 : w43.cell? ⟨gb135, 1, none⟩ = some (.int .u64 a0_1) := (bC BK135.out 1).trans rfl; have hcz45_2 : w43.cell? ⟨gb135, 2, none⟩ = some (.int .u64 a0_2) := (bC BK135.out 2).trans rfl; have hcz45_3 : w43.cell? ⟨gb135, 3, none⟩ = some (.int .u64 a0_3) := (bC BK135.out 3).trans rfl; have hfz45_0 := bF BK135.out 0; have hfz45_1 := bF BK135.out 1; have hfz45_2 := bF BK135.out 2; have hfz45_3 := bF BK135.out 3; have hcz46_0 : w43.cell? ⟨gb136, 0, none⟩ = some (.int .u64 a1_0) := (bC BK136.out 0).trans rfl; have hcz46_1 : w43.cell? ⟨gb136, 1, none⟩ = some (.int .u64 a1_1) := (bC BK136.out 1).trans rfl; have hfz46_0 := bF BK136.out 0; have hfz46_1 := bF BK136.out 1) | ((with_reducible refine gate_callee (f := 12) rfl ?_); refine goesL_ (some 21) rfl rfl Try.func12 (by kernel_rfl) rfl #[.agg #[.int .u64 a0_0, .int .u64 a0_1, .int .u64 a0_2, .int .u64 a0_3], .agg #[.int .u64 a1_0, .int .u64 a1_1]] rfl (by (try simp only [List.map_toArray, List.map_cons, List.map_nil]); first | done | rfl | (simp only [List.length_drop, List.length_take]; rfl)) ?_; (with_reducible refine (limb_Div.calls a0_0 a0_1 a0_2 a0_3 a1_0 a1_1 t137 t138 t139 t140 t141 t142 true _ A3.out).mono ?_); rintro e w47 ⟨rfl, hb⟩; refine ⟨_, rfl, ?_⟩; have n0_ := Aside0.mk (bB (g := gb135) (o := .cells #[.int .u64 a0_0, .int .u64 a0_1, .int .u64 a0_2, .int .u64 a0_3] 26 (0, 0)) (by (with_reducible repeat (first | refine bN ?_ _ | refine bD ?_ | refine bL ?_ _)); exact BK135.out) hb); have n1_ := Aside0.mk (bB (g := gb136) (o := .cells #[.int .u64 a1_0, .int .u64 a1_1] 24 (0, 0)) (by (with_reducible repeat (first | refine bN ?_ _ | refine bD ?_ | refine bL ?_ _)); exact BK136.out) hb); have n2_ := Aside0.mk (below_step (by repeat (first | (with_reducible first | exact HB.out | apply below_alloc | apply pN | apply dI | refine below_set ?_ GE135.out | refine below_set ?_ GE136.out) | exact HB.out)) hb); clear BK135; clear BK136; clear HB; have BK135 := n0_; have BK136 := n1_; have HB := n2_; clear n0_ n1_ n2_; (try clear hb); (try clear hb2); (try clear hk); (try clear hi)) | ((with_reducible refine gate_dst (N := 5) rfl ?_); refine box_event ?hg (N := 5) ?hd (cs := #[.int .u64 0, .int .u64 0, .int .u64 0, .int .u64 0]) (t := 26) ?hr ?_; (case hd => rfl); (case hg => rfl); (case hr => first | (go_simp; done) | (go_simp; rfl)); intro gb144 hg w48 hbox hb; have n0_ := Aside0.mk (bB (g := gb135) (o := .cells #[.int .u64 a0_0, .int .u64 a0_1, .int .u64 a0_2, .int .u64 a0_3] 26 (0, 0)) (by (with_reducible repeat (first | refine bN ?_ _ | refine bD ?_ | refine bL ?_ _)); exact BK135.out) hb); have n1_ := Aside0.mk (bB (g := gb136) (o := .cells #[.int .u64 a1_0, .int .u64 a1_1] 24 (0, 0)) (by (with_reducible repeat (first | refine bN ?_ _ | refine bD ?_ | refine bL ?_ _)); exact BK136.out) hb); have n2_ := Aside0.mk (below_step (by repeat (first | (with_reducible first | exact HB.out | apply below_alloc | apply pN | apply dI | refine below_set ?_ GE135.out | refine below_set ?_ GE136.out) | exact HB.out)) hb); have n3_ := Aside0.mk (hbox); have n4_ := Aside0.mk ((by rw [hg]; exact (below_size (by repeat (first | (with_reducible first | exact HB.out | apply below_alloc | apply pN | apply dI | refine below_set ?_ GE135.out | refine below_set ?_ GE136.out) | exact HB.out))) : w.heap.size ≤ gb144)); have n5_ := Aside0.mk ((by rw [hg]; exact (below_size (by repeat (first | (with_reducible first | exact HB.out | apply below_alloc | apply pN | apply dI | refine below_set ?_ GE135.out | refine below_set ?_ GE136.out) | exact HB.out))) : w.heap.size ≤ gb144)); have n6_ := Aside0.mk ((by rw [hg]; exact Nat.ne_of_lt (blk_lt (g := gb135) (o := .cells #[.int .u64 a0_0, .int .u64 a0_1, .int .u64 a0_2, .int .u64 a0_3] 26 (0, 0)) (by (with_reducible repeat (first | refine bN ?_ _ | refine bD ?_ | refine bL ?_ _)); exact BK135.out)) : gb135 ≠ gb144)); have n7_ := Aside0.mk ((by rw [hg]; exact Nat.ne_of_gt (blk_lt (g := gb135) (o := .cells #[.int .u64 a0_0, .int .u64 a0_1, .int .u64 a0_2, .int .u64 a0_3] 26 (0, 0)) (by (with_reducible repeat (first | refine bN ?_ _ | refine bD ?_ | refine bL ?_ _)); exact BK135.out)) : gb144 ≠ gb135)); have n8_ := Aside0.mk ((by rw [hg]; exact Nat.ne_of_lt (blk_lt (g := gb136) (o := .cells #[.int .u64 a1_0, .int .u64 a1_1] 24 (0, 0)) (by (with_reducible repeat (first | refine bN ?_ _ | refine bD ?_ | refine bL ?_ _)); exact BK136.out)) : gb136 ≠ gb144)); have n9_ := Aside0.mk ((by rw [hg]; exact Nat.ne_of_gt (blk_lt (g := gb136) (o := .cells #[.int .u64 a1_0, .int .u64 a1_1] 24 (0, 0)) (by (with_reducible repeat (first | refine bN ?_ _ | refine bD ?_ | refine bL ?_ _)); exact BK136.out)) : gb144 ≠ gb136)); clear BK135; clear BK136; clear HB; have BK135 := n0_; have BK136 := n1_; have HB := n2_; have BK144 := n3_; have GW144 := n4_; have GE144 := n5_; have NB135_144 := n6_; have NB144_135 := n7_; have NB136_144 := n8_; have NB144_136 := n9_; clear n0_ n1_ n2_ n3_ n4_ n5_ n6_ n7_ n8_ n9_; clear hb hbox hg) | ((with_reducible refine gate_dst (N := 6) rfl ?_); refine box_event ?hg (N := 6) ?hd (cs := #[.int .u64 0, .int .u64 0]) (t := 24) ?hr ?_; (case hd => rfl); (case hg => rfl); (case hr => first | (go_simp; done) | (go_simp; rfl)); intro gb145 hg w49 hbox hb; have n0_ := Aside0.mk (bB (g := gb135) (o := .cells #[.int .u64 a0_0, .int .u64 a0_1, .int .u64 a0_2, .int .u64 a0_3] 26 (0, 0)) (by (with_reducible repeat (first | refine bN ?_ _ | refine bD ?_ | refine bL ?_ _)); exact BK135.out) hb); have n1_ := Aside0.mk (bB (g := gb136) (o := .cells #[.int .u64 a1_0, .int .u64 a1_1] 24 (0, 0)) (by (with_reducible repeat (first | refine bN ?_ _ | refine bD ?_ | refine bL ?_ _)); exact BK136.out) hb); have n2_ := Aside0.mk (bB (g := gb144) (o := .cells #[.int .u64 0, .int .u64 0, .int .u64 0, .int .u64 0] 26 (0, 0)) (by (with_reducible repeat (first | refine bN ?_ _ | refine bD ?_ | refine bL ?_ _)); exact BK144.out) hb); have n3_ := Aside0.mk (below_step (by repeat (first | (with_reducible first | exact HB.out | apply below_alloc | apply pN | apply dI | refine below_set ?_ GE135.out | refine below_set ?_ GE136.out | refine below_set ?_ GE144.out) | exact HB.out)) hb); have n4_ := Aside0.mk (hbox); have n5_ := Aside0.mk ((by rw [hg]; exact (below_size (by repeat (first | (with_reducible first | exact HB.out | apply below_alloc | apply pN | apply dI | refine below_set ?_ GE135.out | refine below_set ?_ GE136.out | refine below_set ?_ GE144.out) | exact HB.out))) : w.heap.size ≤ gb145)); have n6_ := Aside0.mk ((by rw [hg]; exact (below_size (by repeat (first | (with_reducible first | exact HB.out | apply below_alloc | apply pN | apply dI | refine below_set ?_ GE135.out | refine below_set ?_ GE136.out | refine below_set ?_ GE144.out) | exact HB.out))) : w.heap.size ≤ gb145)); have n7_ := Aside0.mk ((by rw [hg]; exact Nat.ne_of_lt (blk_lt (g := gb135) (o := .cells #[.int .u64 a0_0, .int .u64 a0_1, .int .u64 a0_2, .int .u64 a0_3] 26 (0, 0)) (by (with_reducible repeat (first | refine bN ?_ _ | refine bD ?_ | refine bL ?_ _)); exact BK135.out)) : gb135 ≠ gb145)); have n8_ := Aside0.mk ((by rw [hg]; exact Nat.ne_of_gt (blk_lt (g := gb135) (o := .cells #[.int .u64 a0_0, .int .u64 a0_1, .int .u64 a0_2, .int .u64 a0_3] 26 (0, 0)) (by (with_reducible repeat (first | refine bN ?_ _ | refine bD ?_ | refine bL ?_ _)); exact BK135.out)) : gb145 ≠ gb135)); have n9_ := Aside0.mk ((by rw [hg]; exact Nat.ne_of_lt (blk_lt (g := gb136) (o := .cells #[.int .u64 a1_0, .int .u64 a1_1] 24 (0, 0)) (by (with_reducible repeat (first | refine bN ?_ _ | refine bD ?_ | refine bL ?_ _)); exact BK136.out)) : gb136 ≠ gb145)); have n10_ := Aside0.mk ((by rw [hg]; exact Nat.ne_of_gt (blk_lt (g := gb136) (o := .cells #[.int .u64 a1_0, .int .u64 a1_1] 24 (0, 0)) (by (with_reducible repeat (first | refine bN ?_ _ | refine bD ?_ | refine bL ?_ _)); exact BK136.out)) : gb145 ≠ gb136)); have n11_ := Aside0.mk ((by rw [hg]; exact Nat.ne_of_lt (blk_lt (g := gb144) (o := .cells #[.int .u64 0, .int .u64 0, .int .u64 0, .int .u64 0] 26 (0, 0)) (by (with_reducible repeat (first | refine bN ?_ _ | refine bD ?_ | refine bL ?_ _)); exact BK144.out)) : gb144 ≠ gb145)); have n12_ := Aside0.mk ((by rw [hg]; exact Nat.ne_of_gt (blk_lt (g := gb144) (o := .cells #[.int .u64 0, .int .u64 0, .int .u64 0, .int .u64 0] 26 (0, 0)) (by (with_reducible repeat (first | refine bN ?_ _ | refine bD ?_ | refine bL ?_ _)); exact BK144.out)) : gb145 ≠ gb144)); clear BK135; clear BK136; clear BK144; clear HB; have BK135 := n0_; have BK136 := n1_; have BK144 := n2_; have HB := n3_; have BK145 := n4_; have GW145 := n5_; have GE145 := n6_; have NB135_145 := n7_; have NB145_135 := n8_; have NB136_145 := n9_; have NB145_136 := n10_; have NB144_145 := n11_; have NB145_144 := n12_; clear n0_ n1_ n2_ n3_ n4_ n5_ n6_ n7_ n8_ n9_ n10_ n11_ n12_; clear hb hbox hg; have hnb50 := NB144_135.out; have hnc50 := NB135_144.out; have hnb51 := NB144_136.out; have hnc51 := NB136_144.out; have hnb52 := NB144_145.out; have hnc52 := NB145_144.out; have hcz53_0 : w49.cell? ⟨gb144, 0, none⟩ = some (.int .u64 0) := (bC BK144.out 0).trans rfl; have hcz53_1 : w49.cell? ⟨gb144, 1, none⟩ = some (.int .u64 0) := (bC BK144.out 1).trans rfl; have hcz53_2 : w49.cell? ⟨gb144, 2, none⟩ = some (.int .u64 0) := (bC BK144.out 2).trans rfl; have hcz53_3 : w49.cell? ⟨gb144, 3, none⟩ = some (.int .u64 0) := (bC BK144.out 3).trans rfl; have hfz53_0 := bF BK144.out 0; have hfz53_1 := bF BK144.out 1; have hfz53_2 := bF BK144.out 2; have hfz53_3 := bF BK144.out 3; have hnb54 := NB145_135.out; have hnc54 := NB135_145.out; have hnb55 := NB145_136.out; have hnc55 := NB136_145.out; have hcz56_0 : w49.cell? ⟨gb145, 0, none⟩ = some (.int .u64 0) := (bC BK145.out 0).trans rfl; have hcz56_1 : w49.cell? ⟨gb145, 1, none⟩ = some (.int .u64 0) := (bC BK145.out 1).trans rfl; have hfz56_0 := bF BK145.out 0; have hfz56_1 := bF BK145.out 1; have hcz57_0 : w49.cell? ⟨gb136, 0, none⟩ = some (.int .u64 a1_0) := (bC BK136.out 0).trans rfl; have hcz57_1 : w49.cell? ⟨gb136, 1, none⟩ = some (.int .u64 a1_1) := (bC BK136.out 1).trans rfl; have hfz57_0 := bF BK136.out 0; have hfz57_1 := bF BK136.out 1))
  have n0_ : Aside0 (((((((w49.setCell ⟨gb144, 0, none⟩ (.int .u64 t137)).setCell ⟨gb144, 1, none⟩ (.int .u64 t138)).setCell ⟨gb144, 2, none⟩ (.int .u64 t139)).setCell ⟨gb144, 3, none⟩ (.int .u64 t140)).setCell ⟨gb145, 0, none⟩ (.int .u64 t141)).setCell ⟨gb145, 1, none⟩ (.int .u64 t142)).heap[gb135]? = some (.cells #[.int .u64 a0_0, .int .u64 a0_1, .int .u64 a0_2, .int .u64 a0_3] 26 (0, 0))) := ⟨by (with_reducible repeat (first | refine bN ?_ _ | refine bD ?_ | refine bL ?_ _)); refine bX ?_ NB135_145.out _; (with_reducible repeat (first | refine bN ?_ _ | refine bD ?_ | refine bL ?_ _)); refine bX ?_ NB135_145.out _; (with_reducible repeat (first | refine bN ?_ _ | refine bD ?_ | refine bL ?_ _)); refine bX ?_ NB135_144.out _; (with_reducible repeat (first | refine bN ?_ _ | refine bD ?_ | refine bL ?_ _)); refine bX ?_ NB135_144.out _; (with_reducible repeat (first | refine bN ?_ _ | refine bD ?_ | refine bL ?_ _)); refine bX ?_ NB135_144.out _; (with_reducible repeat (first | refine bN ?_ _ | refine bD ?_ | refine bL ?_ _)); refine bX ?_ NB135_144.out _; (with_reducible repeat (first | refine bN ?_ _ | refine bD ?_ | refine bL ?_ _)); exact BK135.out⟩
  have n1_ : Aside0 (((((((w49.setCell ⟨gb144, 0, none⟩ (.int .u64 t137)).setCell ⟨gb144, 1, none⟩ (.int .u64 t138)).setCell ⟨gb144, 2, none⟩ (.int .u64 t139)).setCell ⟨gb144, 3, none⟩ (.int .u64 t140)).setCell ⟨gb145, 0, none⟩ (.int .u64 t141)).setCell ⟨gb145, 1, none⟩ (.int .u64 t142)).heap[gb136]? = some (.cells #[.int .u64 a1_0, .int .u64 a1_1] 24 (0, 0))) := ⟨by (with_reducible repeat (first | refine bN ?_ _ | refine bD ?_ | refine bL ?_ _)); refine bX ?_ NB136_145.out _; (with_reducible repeat (first | refine bN ?_ _ | refine bD ?_ | refine bL ?_ _)); refine bX ?_ NB136_145.out _; (with_reducible repeat (first | refine bN ?_ _ | refine bD ?_ | refine bL ?_ _)); refine bX ?_ NB136_144.out _; (with_reducible repeat (first | refine bN ?_ _ | refine bD ?_ | refine bL ?_ _)); refine bX ?_ NB136_144.out _; (with_reducible repeat (first | refine bN ?_ _ | refine bD ?_ | refine bL ?_ _)); refine bX ?_ NB136_144.out _; (with_reducible repeat (first | refine bN ?_ _ | refine bD ?_ | refine bL ?_ _)); refine bX ?_ NB136_144.out _; (with_reducible repeat (first | refine bN ?_ _ | refine bD ?_ | refine bL ?_ _)); exact BK136.out⟩
  have n2_ : Aside0 (((((((w49.setCell ⟨gb144, 0, none⟩ (.int .u64 t137)).setCell ⟨gb144, 1, none⟩ (.int .u64 t138)).setCell ⟨gb144, 2, none⟩ (.int .u64 t139)).setCell ⟨gb144, 3, none⟩ (.int .u64 t140)).setCell ⟨gb145, 0, none⟩ (.int .u64 t141)).setCell ⟨gb145, 1, none⟩ (.int .u64 t142)).heap[gb144]? = some (.cells #[.int .u64 t137, .int .u64 t138, .int .u64 t139, .int .u64 t140] 26 (0, 0))) := ⟨by (with_reducible repeat (first | refine bN ?_ _ | refine bD ?_ | refine bL ?_ _)); refine bX ?_ NB144_145.out _; (with_reducible repeat (first | refine bN ?_ _ | refine bD ?_ | refine bL ?_ _)); refine bX ?_ NB144_145.out _; (with_reducible repeat (first | refine bN ?_ _ | refine bD ?_ | refine bL ?_ _)); refine blk_put (cs := #[.int .u64 t137, .int .u64 t138, .int .u64 t139, .int .u64 0]) ?_ 3 _ rfl; (with_reducible repeat (first | refine bN ?_ _ | refine bD ?_ | refine bL ?_ _)); refine blk_put (cs := #[.int .u64 t137, .int .u64 t138, .int .u64 0, .int .u64 0]) ?_ 2 _ rfl; (with_reducible repeat (first | refine bN ?_ _ | refine bD ?_ | refine bL ?_ _)); refine blk_put (cs := #[.int .u64 t137, .int .u64 0, .int .u64 0, .int .u64 0]) ?_ 1 _ rfl; (with_reducible repeat (first | refine bN ?_ _ | refine bD ?_ | refine bL ?_ _)); refine blk_put (cs := #[.int .u64 0, .int .u64 0, .int .u64 0, .int .u64 0]) ?_ 0 _ rfl; (with_reducible repeat (first | refine bN ?_ _ | refine bD ?_ | refine bL ?_ _)); exact BK144.out⟩
  have n3_ : Aside0 (((((((w49.setCell ⟨gb144, 0, none⟩ (.int .u64 t137)).setCell ⟨gb144, 1, none⟩ (.int .u64 t138)).setCell ⟨gb144, 2, none⟩ (.int .u64 t139)).setCell ⟨gb144, 3, none⟩ (.int .u64 t140)).setCell ⟨gb145, 0, none⟩ (.int .u64 t141)).setCell ⟨gb145, 1, none⟩ (.int .u64 t142)).heap[gb145]? = some (.cells #[.int .u64 t141, .int .u64 t142] 24 (0, 0))) := ⟨by (with_reducible repeat (first | refine bN ?_ _ | refine bD ?_ | refine bL ?_ _)); refine blk_put (cs := #[.int .u64 t141, .int .u64 0]) ?_ 1 _ rfl; (with_reducible repeat (first | refine bN ?_ _ | refine bD ?_ | refine bL ?_ _)); refine blk_put (cs := #[.int .u64 0, .int .u64 0]) ?_ 0 _ rfl; (with_reducible repeat (first | refine bN ?_ _ | refine bD ?_ | refine bL ?_ _)); refine bX ?_ NB145_144.out _; (with_reducible repeat (first | refine bN ?_ _ | refine bD ?_ | refine bL ?_ _)); refine bX ?_ NB145_144.out _; (with_reducible repeat (first | refine bN ?_ _ | refine bD ?_ | refine bL ?_ _)); refine bX ?_ NB145_144.out _; (with_reducible repeat (first | refine bN ?_ _ | refine bD ?_ | refine bL ?_ _)); refine bX ?_ NB145_144.out _; (with_reducible repeat (first | refine bN ?_ _ | refine bD ?_ | refine bL ?_ _)); exact BK145.out⟩
  have n4_ : Aside0 (Below w.heap.size w ((((((w49.setCell ⟨gb144, 0, none⟩ (.int .u64 t137)).setCell ⟨gb144, 1, none⟩ (.int .u64 t138)).setCell ⟨gb144, 2, none⟩ (.int .u64 t139)).setCell ⟨gb144, 3, none⟩ (.int .u64 t140)).setCell ⟨gb145, 0, none⟩ (.int .u64 t141)).setCell ⟨gb145, 1, none⟩ (.int .u64 t142))) := ⟨by repeat (first | (with_reducible first | exact HB.out | apply below_alloc | apply pN | apply dI | refine below_set ?_ GE135.out | refine below_set ?_ GE136.out | refine below_set ?_ GE144.out | refine below_set ?_ GE145.out) | exact HB.out)⟩
  (try clear BK135)
  (try clear BK136)
  (try clear BK144)
  (try clear BK145)
  (try clear HB)
  generalize ((((((w49.setCell ⟨gb144, 0, none⟩ (.int .u64 t137)).setCell ⟨gb144, 1, none⟩ (.int .u64 t138)).setCell ⟨gb144, 2, none⟩ (.int .u64 t139)).setCell ⟨gb144, 3, none⟩ (.int .u64 t140)).setCell ⟨gb145, 0, none⟩ (.int .u64 t141)).setCell ⟨gb145, 1, none⟩ (.int .u64 t142)) = w58 at n0_ n1_ n2_ n3_ n4_ ⊢
  have BK135 := n0_
  have BK136 := n1_
  have BK144 := n2_
  have BK145 := n3_
  have HB := n4_
  clear n0_ n1_ n2_ n3_ n4_
  have n0_ := Aside0.mk (bD BK135.out)
  have n1_ := Aside0.mk (bD BK136.out)
  have n2_ := Aside0.mk (bD BK144.out)
  have n3_ := Aside0.mk (bD BK145.out)
  have n4_ := Aside0.mk (dI HB.out)
  clear BK135
  clear BK136
  clear BK144
  clear BK145
  clear HB
  have BK135 := n0_
  have BK136 := n1_
  have BK144 := n2_
  have BK145 := n3_
  have HB := n4_
  clear n0_ n1_ n2_ n3_ n4_
  refine start_ (n := 12) (S := fun w' => w'.cell? ⟨gb144, 0, none⟩ = some (.int .u64 t137) ∧ w'.cell? ⟨gb144, 1, none⟩ = some (.int .u64 t138) ∧ w'.cell? ⟨gb144, 2, none⟩ = some (.int .u64 t139) ∧ w'.cell? ⟨gb144, 3, none⟩ = some (.int .u64 t140) ∧ w'.cell? ⟨gb136, 0, none⟩ = some (.int .u64 a1_0) ∧ w'.cell? ⟨gb136, 1, none⟩ = some (.int .u64 a1_1)) (ds := []) (bA 12 0) (by kernel_rfl) rfl rfl ⟨(bC BK144.out 0).trans rfl, (bC BK144.out 1).trans rfl, (bC BK144.out 2).trans rfl, (bC BK144.out 3).trans rfl, (bC BK136.out 0).trans rfl, (bC BK136.out 1).trans rfl⟩ (fun hHeld => ?_); refine with_tabW perigeelaw1_LimbRest.tab4 perigeelaw1_LimbRest.bits4 (fun HT_ HW_ => ?_)
  generalize w58.drew = w59 at BK135 BK136 BK144 BK145 HB hHeld ⊢
  refine pure_ (i := 0) (N := some 43) (v := ?_) (a' := ?_) (bA 12 1) rfl rfl (any_of HT_.out (by kernel_rfl)) (fun _ _ _ h => h) (Or.inl ⟨by rfl, ?_⟩) ?_ ?_
  rotate_left
  ·intro w'
   go_simp
   with_reducible rfl
  rotate_left
  ·simp only [Act.put, List.setIfInBounds_toArray, List.set_cons_zero, List.set_cons_succ, i64_w, i32_w]
   rfl
  refine pure_ (i := 4) (N := some 47) (v := ?_) (a' := ?_) (bA 12 17) rfl rfl (any_of HT_.out (by kernel_rfl)) (fun _ _ _ h => h) (Or.inl ⟨by rfl, ?_⟩) ?_ ?_
  rotate_left
  ·intro w'
   go_simp
   with_reducible rfl
  rotate_left
  ·simp only [Act.put, List.setIfInBounds_toArray, List.set_cons_zero, List.set_cons_succ, i64_w, i32_w]
   rfl
  refine take_ (i := 1) (N := some 44) (v := ?_) (a' := ?_) (bA 12 19) rfl rfl (take_ofW HT_.out HW_.out (by kernel_rfl)) (fun _ _ _ h => h) (Or.inl ⟨by rfl, ?_⟩) hHeld ?_ ?_
  rotate_left
  ·rintro w' ⟨s0, s1, s2, s3, s4, s5⟩
   go_simp
   with_reducible rfl
  rotate_left
  ·simp only [Act.put, List.setIfInBounds_toArray, List.set_cons_zero, List.set_cons_succ, i64_w, i32_w]
   rfl
  refine take_ (i := 2) (N := some 45) (v := ?_) (a' := ?_) (bA 12 23) rfl rfl (take_ofW HT_.out HW_.out (by kernel_rfl)) (fun _ _ _ h => h) (Or.inl ⟨by rfl, ?_⟩) hHeld ?_ ?_
  rotate_left
  ·rintro w' ⟨s0, s1, s2, s3, s4, s5⟩
   go_simp
   with_reducible rfl
  rotate_left
  ·simp only [Act.put, List.setIfInBounds_toArray, List.set_cons_zero, List.set_cons_succ, i64_w, i32_w]
   rfl
  refine take_ (i := 5) (N := some 48) (v := ?_) (a' := ?_) (bA 12 55) rfl rfl (take_ofW HT_.out HW_.out (by kernel_rfl)) (fun _ _ _ h => h) (Or.inl ⟨by rfl, ?_⟩) hHeld ?_ ?_
  rotate_left
  ·rintro w' ⟨s0, s1, s2, s3, s4, s5⟩
   go_simp
   with_reducible rfl
  rotate_left
  ·simp only [Act.put, List.setIfInBounds_toArray, List.set_cons_zero, List.set_cons_succ, i64_w, i32_w]
   rfl
  refine take_ (i := 6) (N := some 49) (v := ?_) (a' := ?_) (bA 12 119) rfl rfl (take_ofW HT_.out HW_.out (by kernel_rfl)) (fun _ _ _ h => h) (Or.inl ⟨by rfl, ?_⟩) hHeld ?_ ?_
  rotate_left
  ·rintro w' ⟨s0, s1, s2, s3, s4, s5⟩
   go_simp
   with_reducible rfl
  rotate_left
  ·simp only [Act.put, List.setIfInBounds_toArray, List.set_cons_zero, List.set_cons_succ, i64_w, i32_w]
   rfl
  refine join_ (σ := Nat × Nat) 2 (bA 12 1023) (fun s_ => [(46, .agg #[.int .u64 t147, .int .u64 t148, .int .u64 t149, .int .u64 t150]), (50, .agg #[.int .u64 t151, .int .u64 t152, .int .u64 t153, .int .u64 t154]), (8, .pointer (some ⟨s_.1, 0, none⟩)), (9, .pointer (some ⟨s_.2, 0, none⟩))]) (fun s_ w' => (w'.cell? ⟨gb144, 0, none⟩ = some (.int .u64 t137) ∧ w'.cell? ⟨gb144, 1, none⟩ = some (.int .u64 t138) ∧ w'.cell? ⟨gb144, 2, none⟩ = some (.int .u64 t139) ∧ w'.cell? ⟨gb144, 3, none⟩ = some (.int .u64 t140) ∧ w'.cell? ⟨gb136, 0, none⟩ = some (.int .u64 a1_0) ∧ w'.cell? ⟨gb136, 1, none⟩ = some (.int .u64 a1_1)) ∧ (w'.heap[gb135]? = some (.cells #[.int .u64 a0_0, .int .u64 a0_1, .int .u64 a0_2, .int .u64 a0_3] 26 (0, 0))) ∧ (w'.heap[gb136]? = some (.cells #[.int .u64 a1_0, .int .u64 a1_1] 24 (0, 0))) ∧ (w'.heap[gb144]? = some (.cells #[.int .u64 t137, .int .u64 t138, .int .u64 t139, .int .u64 t140] 26 (0, 0))) ∧ (w'.heap[gb145]? = some (.cells #[.int .u64 t141, .int .u64 t142] 24 (0, 0))) ∧ (w'.heap[s_.1]? = some (.cells #[.int .u64 0, .int .u64 0, .int .u64 0, .int .u64 0] 26 (0, 0))) ∧ (w'.heap[s_.2]? = some (.cells #[.int .u64 0, .int .u64 0, .int .u64 0, .int .u64 0] 26 (0, 0))) ∧ (w.heap.size ≤ s_.1) ∧ (w.heap.size ≤ s_.1) ∧ (gb135 ≠ s_.1) ∧ (s_.1 ≠ gb135) ∧ (gb136 ≠ s_.1) ∧ (s_.1 ≠ gb136) ∧ (gb144 ≠ s_.1) ∧ (s_.1 ≠ gb144) ∧ (gb145 ≠ s_.1) ∧ (s_.1 ≠ gb145) ∧ (s_.2 ≠ s_.1) ∧ (s_.1 ≠ s_.2) ∧ (w.heap.size ≤ s_.2) ∧ (w.heap.size ≤ s_.2) ∧ (gb135 ≠ s_.2) ∧ (s_.2 ≠ gb135) ∧ (gb136 ≠ s_.2) ∧ (s_.2 ≠ gb136) ∧ (gb144 ≠ s_.2) ∧ (s_.2 ≠ gb144) ∧ (gb145 ≠ s_.2) ∧ (s_.2 ≠ gb145) ∧ (Below w.heap.size w w')) ?_ ?_
  rotate_left
  ·intro hJ3_7_8_9
   refine join_ (σ := Nat) 3 (bA 12 511) (fun s_ => [(46, .agg #[.int .u64 t147, .int .u64 t148, .int .u64 t149, .int .u64 t150]), (50, .agg #[.int .u64 t151, .int .u64 t152, .int .u64 t153, .int .u64 t154]), (8, .pointer (some ⟨s_, 0, none⟩))]) (fun s_ w' => (w'.cell? ⟨gb144, 0, none⟩ = some (.int .u64 t137) ∧ w'.cell? ⟨gb144, 1, none⟩ = some (.int .u64 t138) ∧ w'.cell? ⟨gb144, 2, none⟩ = some (.int .u64 t139) ∧ w'.cell? ⟨gb144, 3, none⟩ = some (.int .u64 t140) ∧ w'.cell? ⟨gb136, 0, none⟩ = some (.int .u64 a1_0) ∧ w'.cell? ⟨gb136, 1, none⟩ = some (.int .u64 a1_1)) ∧ (w'.heap[gb135]? = some (.cells #[.int .u64 a0_0, .int .u64 a0_1, .int .u64 a0_2, .int .u64 a0_3] 26 (0, 0))) ∧ (w'.heap[gb136]? = some (.cells #[.int .u64 a1_0, .int .u64 a1_1] 24 (0, 0))) ∧ (w'.heap[gb144]? = some (.cells #[.int .u64 t137, .int .u64 t138, .int .u64 t139, .int .u64 t140] 26 (0, 0))) ∧ (w'.heap[gb145]? = some (.cells #[.int .u64 t141, .int .u64 t142] 24 (0, 0))) ∧ (w'.heap[s_]? = some (.cells #[.int .u64 0, .int .u64 0, .int .u64 0, .int .u64 0] 26 (0, 0))) ∧ (w.heap.size ≤ s_) ∧ (w.heap.size ≤ s_) ∧ (gb135 ≠ s_) ∧ (s_ ≠ gb135) ∧ (gb136 ≠ s_) ∧ (s_ ≠ gb136) ∧ (gb144 ≠ s_) ∧ (s_ ≠ gb144) ∧ (gb145 ≠ s_) ∧ (s_ ≠ gb145) ∧ (Below w.heap.size w w')) ?_ ?_
   rotate_left
   ·intro hJ3_7_8
    refine join_ (σ := Nat) 3 (bA 12 767) (fun s_ => [(46, .agg #[.int .u64 t147, .int .u64 t148, .int .u64 t149, .int .u64 t150]), (50, .agg #[.int .u64 t151, .int .u64 t152, .int .u64 t153, .int .u64 t154]), (9, .pointer (some ⟨s_, 0, none⟩))]) (fun s_ w' => (w'.cell? ⟨gb144, 0, none⟩ = some (.int .u64 t137) ∧ w'.cell? ⟨gb144, 1, none⟩ = some (.int .u64 t138) ∧ w'.cell? ⟨gb144, 2, none⟩ = some (.int .u64 t139) ∧ w'.cell? ⟨gb144, 3, none⟩ = some (.int .u64 t140) ∧ w'.cell? ⟨gb136, 0, none⟩ = some (.int .u64 a1_0) ∧ w'.cell? ⟨gb136, 1, none⟩ = some (.int .u64 a1_1)) ∧ (w'.heap[gb135]? = some (.cells #[.int .u64 a0_0, .int .u64 a0_1, .int .u64 a0_2, .int .u64 a0_3] 26 (0, 0))) ∧ (w'.heap[gb136]? = some (.cells #[.int .u64 a1_0, .int .u64 a1_1] 24 (0, 0))) ∧ (w'.heap[gb144]? = some (.cells #[.int .u64 t137, .int .u64 t138, .int .u64 t139, .int .u64 t140] 26 (0, 0))) ∧ (w'.heap[gb145]? = some (.cells #[.int .u64 t141, .int .u64 t142] 24 (0, 0))) ∧ (w'.heap[s_]? = some (.cells #[.int .u64 0, .int .u64 0, .int .u64 0, .int .u64 0] 26 (0, 0))) ∧ (w.heap.size ≤ s_) ∧ (w.heap.size ≤ s_) ∧ (gb135 ≠ s_) ∧ (s_ ≠ gb135) ∧ (gb136 ≠ s_) ∧ (s_ ≠ gb136) ∧ (gb144 ≠ s_) ∧ (s_ ≠ gb144) ∧ (gb145 ≠ s_) ∧ (s_ ≠ gb145) ∧ (Below w.heap.size w w')) ?_ ?_
    rotate_left
    ·intro hJ3_7_9
     refine join_ (σ := Nat × Nat) 3 (bA 12 895) (fun s_ => [(46, .agg #[.int .u64 t147, .int .u64 t148, .int .u64 t149, .int .u64 t150]), (8, .pointer (some ⟨s_.1, 0, none⟩)), (9, .pointer (some ⟨s_.2, 0, none⟩))]) (fun s_ w' => (w'.cell? ⟨gb144, 0, none⟩ = some (.int .u64 t137) ∧ w'.cell? ⟨gb144, 1, none⟩ = some (.int .u64 t138) ∧ w'.cell? ⟨gb144, 2, none⟩ = some (.int .u64 t139) ∧ w'.cell? ⟨gb144, 3, none⟩ = some (.int .u64 t140) ∧ w'.cell? ⟨gb136, 0, none⟩ = some (.int .u64 a1_0) ∧ w'.cell? ⟨gb136, 1, none⟩ = some (.int .u64 a1_1)) ∧ (w'.heap[gb135]? = some (.cells #[.int .u64 a0_0, .int .u64 a0_1, .int .u64 a0_2, .int .u64 a0_3] 26 (0, 0))) ∧ (w'.heap[gb136]? = some (.cells #[.int .u64 a1_0, .int .u64 a1_1] 24 (0, 0))) ∧ (w'.heap[gb144]? = some (.cells #[.int .u64 t137, .int .u64 t138, .int .u64 t139, .int .u64 t140] 26 (0, 0))) ∧ (w'.heap[gb145]? = some (.cells #[.int .u64 t141, .int .u64 t142] 24 (0, 0))) ∧ (w'.heap[s_.1]? = some (.cells #[.int .u64 0, .int .u64 0, .int .u64 0, .int .u64 0] 26 (0, 0))) ∧ (w'.heap[s_.2]? = some (.cells #[.int .u64 0, .int .u64 0, .int .u64 0, .int .u64 0] 26 (0, 0))) ∧ (w.heap.size ≤ s_.1) ∧ (w.heap.size ≤ s_.1) ∧ (gb135 ≠ s_.1) ∧ (s_.1 ≠ gb135) ∧ (gb136 ≠ s_.1) ∧ (s_.1 ≠ gb136) ∧ (gb144 ≠ s_.1) ∧ (s_.1 ≠ gb144) ∧ (gb145 ≠ s_.1) ∧ (s_.1 ≠ gb145) ∧ (s_.2 ≠ s_.1) ∧ (s_.1 ≠ s_.2) ∧ (w.heap.size ≤ s_.2) ∧ (w.heap.size ≤ s_.2) ∧ (gb135 ≠ s_.2) ∧ (s_.2 ≠ gb135) ∧ (gb136 ≠ s_.2) ∧ (s_.2 ≠ gb136) ∧ (gb144 ≠ s_.2) ∧ (s_.2 ≠ gb144) ∧ (gb145 ≠ s_.2) ∧ (s_.2 ≠ gb145) ∧ (Below w.heap.size w w')) ?_ ?_
     rotate_left
     ·intro hJ3_8_9
      refine join_ (σ := Unit) 4 (bA 12 255) (fun s_ => [(46, .agg #[.int .u64 t147, .int .u64 t148, .int .u64 t149, .int .u64 t150]), (50, .agg #[.int .u64 t151, .int .u64 t152, .int .u64 t153, .int .u64 t154])]) (fun s_ w' => (w'.cell? ⟨gb144, 0, none⟩ = some (.int .u64 t137) ∧ w'.cell? ⟨gb144, 1, none⟩ = some (.int .u64 t138) ∧ w'.cell? ⟨gb144, 2, none⟩ = some (.int .u64 t139) ∧ w'.cell? ⟨gb144, 3, none⟩ = some (.int .u64 t140) ∧ w'.cell? ⟨gb136, 0, none⟩ = some (.int .u64 a1_0) ∧ w'.cell? ⟨gb136, 1, none⟩ = some (.int .u64 a1_1)) ∧ (w'.heap[gb135]? = some (.cells #[.int .u64 a0_0, .int .u64 a0_1, .int .u64 a0_2, .int .u64 a0_3] 26 (0, 0))) ∧ (w'.heap[gb136]? = some (.cells #[.int .u64 a1_0, .int .u64 a1_1] 24 (0, 0))) ∧ (w'.heap[gb144]? = some (.cells #[.int .u64 t137, .int .u64 t138, .int .u64 t139, .int .u64 t140] 26 (0, 0))) ∧ (w'.heap[gb145]? = some (.cells #[.int .u64 t141, .int .u64 t142] 24 (0, 0))) ∧ (Below w.heap.size w w')) ?_ ?_
      rotate_left
      ·intro hJ3_7
       refine join_ (σ := Nat) 4 (bA 12 383) (fun s_ => [(46, .agg #[.int .u64 t147, .int .u64 t148, .int .u64 t149, .int .u64 t150]), (8, .pointer (some ⟨s_, 0, none⟩))]) (fun s_ w' => (w'.cell? ⟨gb144, 0, none⟩ = some (.int .u64 t137) ∧ w'.cell? ⟨gb144, 1, none⟩ = some (.int .u64 t138) ∧ w'.cell? ⟨gb144, 2, none⟩ = some (.int .u64 t139) ∧ w'.cell? ⟨gb144, 3, none⟩ = some (.int .u64 t140) ∧ w'.cell? ⟨gb136, 0, none⟩ = some (.int .u64 a1_0) ∧ w'.cell? ⟨gb136, 1, none⟩ = some (.int .u64 a1_1)) ∧ (w'.heap[gb135]? = some (.cells #[.int .u64 a0_0, .int .u64 a0_1, .int .u64 a0_2, .int .u64 a0_3] 26 (0, 0))) ∧ (w'.heap[gb136]? = some (.cells #[.int .u64 a1_0, .int .u64 a1_1] 24 (0, 0))) ∧ (w'.heap[gb144]? = some (.cells #[.int .u64 t137, .int .u64 t138, .int .u64 t139, .int .u64 t140] 26 (0, 0))) ∧ (w'.heap[gb145]? = some (.cells #[.int .u64 t141, .int .u64 t142] 24 (0, 0))) ∧ (w'.heap[s_]? = some (.cells #[.int .u64 0, .int .u64 0, .int .u64 0, .int .u64 0] 26 (0, 0))) ∧ (w.heap.size ≤ s_) ∧ (w.heap.size ≤ s_) ∧ (gb135 ≠ s_) ∧ (s_ ≠ gb135) ∧ (gb136 ≠ s_) ∧ (s_ ≠ gb136) ∧ (gb144 ≠ s_) ∧ (s_ ≠ gb144) ∧ (gb145 ≠ s_) ∧ (s_ ≠ gb145) ∧ (Below w.heap.size w w')) ?_ ?_
       rotate_left
       ·intro hJ3_8
        refine join_ (σ := Nat) 4 (bA 12 639) (fun s_ => [(46, .agg #[.int .u64 t147, .int .u64 t148, .int .u64 t149, .int .u64 t150]), (9, .pointer (some ⟨s_, 0, none⟩))]) (fun s_ w' => (w'.cell? ⟨gb144, 0, none⟩ = some (.int .u64 t137) ∧ w'.cell? ⟨gb144, 1, none⟩ = some (.int .u64 t138) ∧ w'.cell? ⟨gb144, 2, none⟩ = some (.int .u64 t139) ∧ w'.cell? ⟨gb144, 3, none⟩ = some (.int .u64 t140) ∧ w'.cell? ⟨gb136, 0, none⟩ = some (.int .u64 a1_0) ∧ w'.cell? ⟨gb136, 1, none⟩ = some (.int .u64 a1_1)) ∧ (w'.heap[gb135]? = some (.cells #[.int .u64 a0_0, .int .u64 a0_1, .int .u64 a0_2, .int .u64 a0_3] 26 (0, 0))) ∧ (w'.heap[gb136]? = some (.cells #[.int .u64 a1_0, .int .u64 a1_1] 24 (0, 0))) ∧ (w'.heap[gb144]? = some (.cells #[.int .u64 t137, .int .u64 t138, .int .u64 t139, .int .u64 t140] 26 (0, 0))) ∧ (w'.heap[gb145]? = some (.cells #[.int .u64 t141, .int .u64 t142] 24 (0, 0))) ∧ (w'.heap[s_]? = some (.cells #[.int .u64 0, .int .u64 0, .int .u64 0, .int .u64 0] 26 (0, 0))) ∧ (w.heap.size ≤ s_) ∧ (w.heap.size ≤ s_) ∧ (gb135 ≠ s_) ∧ (s_ ≠ gb135) ∧ (gb136 ≠ s_) ∧ (s_ ≠ gb136) ∧ (gb144 ≠ s_) ∧ (s_ ≠ gb144) ∧ (gb145 ≠ s_) ∧ (s_ ≠ gb145) ∧ (Below w.heap.size w w')) ?_ ?_
        rotate_left
        ·intro hJ3_9
         refine join_ (σ := Nat × Nat) 4 (bA 12 887) (fun s_ => [(8, .pointer (some ⟨s_.1, 0, none⟩)), (9, .pointer (some ⟨s_.2, 0, none⟩))]) (fun s_ w' => (w'.cell? ⟨gb144, 0, none⟩ = some (.int .u64 t137) ∧ w'.cell? ⟨gb144, 1, none⟩ = some (.int .u64 t138) ∧ w'.cell? ⟨gb144, 2, none⟩ = some (.int .u64 t139) ∧ w'.cell? ⟨gb144, 3, none⟩ = some (.int .u64 t140) ∧ w'.cell? ⟨gb136, 0, none⟩ = some (.int .u64 a1_0) ∧ w'.cell? ⟨gb136, 1, none⟩ = some (.int .u64 a1_1)) ∧ (w'.heap[gb135]? = some (.cells #[.int .u64 a0_0, .int .u64 a0_1, .int .u64 a0_2, .int .u64 a0_3] 26 (0, 0))) ∧ (w'.heap[gb136]? = some (.cells #[.int .u64 a1_0, .int .u64 a1_1] 24 (0, 0))) ∧ (w'.heap[gb144]? = some (.cells #[.int .u64 t137, .int .u64 t138, .int .u64 t139, .int .u64 t140] 26 (0, 0))) ∧ (w'.heap[gb145]? = some (.cells #[.int .u64 t141, .int .u64 t142] 24 (0, 0))) ∧ (w'.heap[s_.1]? = some (.cells #[.int .u64 0, .int .u64 0, .int .u64 0, .int .u64 0] 26 (0, 0))) ∧ (w'.heap[s_.2]? = some (.cells #[.int .u64 0, .int .u64 0, .int .u64 0, .int .u64 0] 26 (0, 0))) ∧ (w.heap.size ≤ s_.1) ∧ (w.heap.size ≤ s_.1) ∧ (gb135 ≠ s_.1) ∧ (s_.1 ≠ gb135) ∧ (gb136 ≠ s_.1) ∧ (s_.1 ≠ gb136) ∧ (gb144 ≠ s_.1) ∧ (s_.1 ≠ gb144) ∧ (gb145 ≠ s_.1) ∧ (s_.1 ≠ gb145) ∧ (s_.2 ≠ s_.1) ∧ (s_.1 ≠ s_.2) ∧ (w.heap.size ≤ s_.2) ∧ (w.heap.size ≤ s_.2) ∧ (gb135 ≠ s_.2) ∧ (s_.2 ≠ gb135) ∧ (gb136 ≠ s_.2) ∧ (s_.2 ≠ gb136) ∧ (gb144 ≠ s_.2) ∧ (s_.2 ≠ gb144) ∧ (gb145 ≠ s_.2) ∧ (s_.2 ≠ gb145) ∧ (Below w.heap.size w w')) ?_ ?_
         rotate_left
         ·intro hJ8_9
          refine join_ (σ := Unit) 5 (bA 12 127) (fun s_ => [(46, .agg #[.int .u64 t147, .int .u64 t148, .int .u64 t149, .int .u64 t150])]) (fun s_ w' => (w'.cell? ⟨gb144, 0, none⟩ = some (.int .u64 t137) ∧ w'.cell? ⟨gb144, 1, none⟩ = some (.int .u64 t138) ∧ w'.cell? ⟨gb144, 2, none⟩ = some (.int .u64 t139) ∧ w'.cell? ⟨gb144, 3, none⟩ = some (.int .u64 t140) ∧ w'.cell? ⟨gb136, 0, none⟩ = some (.int .u64 a1_0) ∧ w'.cell? ⟨gb136, 1, none⟩ = some (.int .u64 a1_1)) ∧ (w'.heap[gb135]? = some (.cells #[.int .u64 a0_0, .int .u64 a0_1, .int .u64 a0_2, .int .u64 a0_3] 26 (0, 0))) ∧ (w'.heap[gb136]? = some (.cells #[.int .u64 a1_0, .int .u64 a1_1] 24 (0, 0))) ∧ (w'.heap[gb144]? = some (.cells #[.int .u64 t137, .int .u64 t138, .int .u64 t139, .int .u64 t140] 26 (0, 0))) ∧ (w'.heap[gb145]? = some (.cells #[.int .u64 t141, .int .u64 t142] 24 (0, 0))) ∧ (Below w.heap.size w w')) ?_ ?_
          rotate_left
          ·intro hJ3
           refine join_ (σ := Nat) 5 (bA 12 375) (fun s_ => [(8, .pointer (some ⟨s_, 0, none⟩))]) (fun s_ w' => (w'.cell? ⟨gb144, 0, none⟩ = some (.int .u64 t137) ∧ w'.cell? ⟨gb144, 1, none⟩ = some (.int .u64 t138) ∧ w'.cell? ⟨gb144, 2, none⟩ = some (.int .u64 t139) ∧ w'.cell? ⟨gb144, 3, none⟩ = some (.int .u64 t140) ∧ w'.cell? ⟨gb136, 0, none⟩ = some (.int .u64 a1_0) ∧ w'.cell? ⟨gb136, 1, none⟩ = some (.int .u64 a1_1)) ∧ (w'.heap[gb135]? = some (.cells #[.int .u64 a0_0, .int .u64 a0_1, .int .u64 a0_2, .int .u64 a0_3] 26 (0, 0))) ∧ (w'.heap[gb136]? = some (.cells #[.int .u64 a1_0, .int .u64 a1_1] 24 (0, 0))) ∧ (w'.heap[gb144]? = some (.cells #[.int .u64 t137, .int .u64 t138, .int .u64 t139, .int .u64 t140] 26 (0, 0))) ∧ (w'.heap[gb145]? = some (.cells #[.int .u64 t141, .int .u64 t142] 24 (0, 0))) ∧ (w'.heap[s_]? = some (.cells #[.int .u64 0, .int .u64 0, .int .u64 0, .int .u64 0] 26 (0, 0))) ∧ (w.heap.size ≤ s_) ∧ (w.heap.size ≤ s_) ∧ (gb135 ≠ s_) ∧ (s_ ≠ gb135) ∧ (gb136 ≠ s_) ∧ (s_ ≠ gb136) ∧ (gb144 ≠ s_) ∧ (s_ ≠ gb144) ∧ (gb145 ≠ s_) ∧ (s_ ≠ gb145) ∧ (Below w.heap.size w w')) ?_ ?_
           rotate_left
           ·intro hJ8
            refine join_ (σ := Nat) 5 (bA 12 631) (fun s_ => [(9, .pointer (some ⟨s_, 0, none⟩))]) (fun s_ w' => (w'.cell? ⟨gb144, 0, none⟩ = some (.int .u64 t137) ∧ w'.cell? ⟨gb144, 1, none⟩ = some (.int .u64 t138) ∧ w'.cell? ⟨gb144, 2, none⟩ = some (.int .u64 t139) ∧ w'.cell? ⟨gb144, 3, none⟩ = some (.int .u64 t140) ∧ w'.cell? ⟨gb136, 0, none⟩ = some (.int .u64 a1_0) ∧ w'.cell? ⟨gb136, 1, none⟩ = some (.int .u64 a1_1)) ∧ (w'.heap[gb135]? = some (.cells #[.int .u64 a0_0, .int .u64 a0_1, .int .u64 a0_2, .int .u64 a0_3] 26 (0, 0))) ∧ (w'.heap[gb136]? = some (.cells #[.int .u64 a1_0, .int .u64 a1_1] 24 (0, 0))) ∧ (w'.heap[gb144]? = some (.cells #[.int .u64 t137, .int .u64 t138, .int .u64 t139, .int .u64 t140] 26 (0, 0))) ∧ (w'.heap[gb145]? = some (.cells #[.int .u64 t141, .int .u64 t142] 24 (0, 0))) ∧ (w'.heap[s_]? = some (.cells #[.int .u64 0, .int .u64 0, .int .u64 0, .int .u64 0] 26 (0, 0))) ∧ (w.heap.size ≤ s_) ∧ (w.heap.size ≤ s_) ∧ (gb135 ≠ s_) ∧ (s_ ≠ gb135) ∧ (gb136 ≠ s_) ∧ (s_ ≠ gb136) ∧ (gb144 ≠ s_) ∧ (s_ ≠ gb144) ∧ (gb145 ≠ s_) ∧ (s_ ≠ gb145) ∧ (Below w.heap.size w w')) ?_ ?_
            rotate_left
            ·intro hJ9
             refine three_ (i := 3) (j := 8) (k := 9) (Ni := some 46) (Nj := some 8) (Nk := some 9) (bA 12 127) (bA 12 375) (bA 12 631) rfl rfl rfl rfl rfl rfl (three_of HT_.out (by kernel_rfl)) (by decide) (by decide) (by decide) (fun K hK => ?_) (fun K hK => ?_) (fun K hK => ?_)
             ·skip
              refine goes_ Try.func14 (by kernel_rfl) rfl #[.agg #[.int .u64 t139, .int .u64 t140], .agg #[.int .u64 a1_0, .int .u64 a1_1]] (by rfl) rfl rfl (by (try simp only [List.map_toArray, List.map_cons, List.map_nil]); first | done | rfl | (simp only [List.length_drop, List.length_take]; rfl)) ?_
              with_reducible refine (limb_Mul.calls t139 t140 a1_0 a1_1 t147 t148 t149 t150 _ A26.out).mono ?_
              rintro e w60 ⟨rfl, hb⟩
              refine ⟨_, rfl, ?_⟩
              have n0_ := Aside0.mk (bB (g := gb135) (o := .cells #[.int .u64 a0_0, .int .u64 a0_1, .int .u64 a0_2, .int .u64 a0_3] 26 (0, 0)) (by (with_reducible repeat (first | refine bN ?_ _ | refine bD ?_ | refine bL ?_ _)); exact BK135.out) hb)
              have n1_ := Aside0.mk (bB (g := gb136) (o := .cells #[.int .u64 a1_0, .int .u64 a1_1] 24 (0, 0)) (by (with_reducible repeat (first | refine bN ?_ _ | refine bD ?_ | refine bL ?_ _)); exact BK136.out) hb)
              have n2_ := Aside0.mk (bB (g := gb144) (o := .cells #[.int .u64 t137, .int .u64 t138, .int .u64 t139, .int .u64 t140] 26 (0, 0)) (by (with_reducible repeat (first | refine bN ?_ _ | refine bD ?_ | refine bL ?_ _)); exact BK144.out) hb)
              have n3_ := Aside0.mk (bB (g := gb145) (o := .cells #[.int .u64 t141, .int .u64 t142] 24 (0, 0)) (by (with_reducible repeat (first | refine bN ?_ _ | refine bD ?_ | refine bL ?_ _)); exact BK145.out) hb)
              have n4_ := Aside0.mk (below_step (by repeat (first | (with_reducible first | exact HB.out | apply below_alloc | apply pN | apply dI | refine below_set ?_ GE135.out | refine below_set ?_ GE136.out | refine below_set ?_ GE144.out | refine below_set ?_ GE145.out) | exact HB.out)) hb)
              clear BK135
              clear BK136
              clear BK144
              clear BK145
              clear HB
              have BK135 := n0_
              have BK136 := n1_
              have BK144 := n2_
              have BK145 := n3_
              have HB := n4_
              clear n0_ n1_ n2_ n3_ n4_
              (try clear hb)
              (try clear hb2)
              (try clear hk)
              (try clear hi)
              refine hK.out _ _ ⟨(bC BK144.out 0).trans rfl, (bC BK144.out 1).trans rfl, (bC BK144.out 2).trans rfl, (bC BK144.out 3).trans rfl, (bC BK136.out 0).trans rfl, (bC BK136.out 1).trans rfl⟩ (fun hHeld => ?_)
              clear hK K
              refine norm_ (a' := ?_) ?_ ?_
              rotate_left
              ·show Act.put _ (some 46) _ = _
               simp only [Act.put, List.setIfInBounds_toArray, List.set_cons_zero, List.set_cons_succ, i64_w, i32_w]
               rfl
              exact norm_ (by first | (simp only [putAll, Act.put, List.setIfInBounds_toArray, List.set_cons_zero, List.set_cons_succ]; done) | (simp only [putAll, Act.put, List.setIfInBounds_toArray, List.set_cons_zero, List.set_cons_succ]; rfl)) (hJ3 () _ ⟨hHeld, (by (with_reducible repeat (first | refine bN ?_ _ | refine bD ?_ | refine bL ?_ _)); exact BK135.out), (by (with_reducible repeat (first | refine bN ?_ _ | refine bD ?_ | refine bL ?_ _)); exact BK136.out), (by (with_reducible repeat (first | refine bN ?_ _ | refine bD ?_ | refine bL ?_ _)); exact BK144.out), (by (with_reducible repeat (first | refine bN ?_ _ | refine bD ?_ | refine bL ?_ _)); exact BK145.out), (by repeat (first | (with_reducible first | exact HB.out | apply below_alloc | apply pN | apply dI | refine below_set ?_ GE135.out | refine below_set ?_ GE136.out | refine below_set ?_ GE144.out | refine below_set ?_ GE145.out) | exact HB.out))⟩)
             ·skip
              refine box_step ?hg (N := 8) ?hd (cs := #[.int .u64 0, .int .u64 0, .int .u64 0, .int .u64 0]) (t := 26) ?hr ?_; (case hd => rfl); (case hg => rfl); (case hr => first | (go_simp; done) | (go_simp; rfl))
              intro gb155 hg w60 hbox hb
              have n0_ := Aside0.mk (bB (g := gb135) (o := .cells #[.int .u64 a0_0, .int .u64 a0_1, .int .u64 a0_2, .int .u64 a0_3] 26 (0, 0)) (by (with_reducible repeat (first | refine bN ?_ _ | refine bD ?_ | refine bL ?_ _)); exact BK135.out) hb)
              have n1_ := Aside0.mk (bB (g := gb136) (o := .cells #[.int .u64 a1_0, .int .u64 a1_1] 24 (0, 0)) (by (with_reducible repeat (first | refine bN ?_ _ | refine bD ?_ | refine bL ?_ _)); exact BK136.out) hb)
              have n2_ := Aside0.mk (bB (g := gb144) (o := .cells #[.int .u64 t137, .int .u64 t138, .int .u64 t139, .int .u64 t140] 26 (0, 0)) (by (with_reducible repeat (first | refine bN ?_ _ | refine bD ?_ | refine bL ?_ _)); exact BK144.out) hb)
              have n3_ := Aside0.mk (bB (g := gb145) (o := .cells #[.int .u64 t141, .int .u64 t142] 24 (0, 0)) (by (with_reducible repeat (first | refine bN ?_ _ | refine bD ?_ | refine bL ?_ _)); exact BK145.out) hb)
              have n4_ := Aside0.mk (below_step (by repeat (first | (with_reducible first | exact HB.out | apply below_alloc | apply pN | apply dI | refine below_set ?_ GE135.out | refine below_set ?_ GE136.out | refine below_set ?_ GE144.out | refine below_set ?_ GE145.out) | exact HB.out)) hb)
              have n5_ := Aside0.mk (hbox)
              have n6_ := Aside0.mk ((by rw [hg]; exact (below_size (by repeat (first | (with_reducible first | exact HB.out | apply below_alloc | apply pN | apply dI | refine below_set ?_ GE135.out | refine below_set ?_ GE136.out | refine below_set ?_ GE144.out | refine below_set ?_ GE145.out) | exact HB.out))) : w.heap.size ≤ gb155))
              have n7_ := Aside0.mk ((by rw [hg]; exact (below_size (by repeat (first | (with_reducible first | exact HB.out | apply below_alloc | apply pN | apply dI | refine below_set ?_ GE135.out | refine below_set ?_ GE136.out | refine below_set ?_ GE144.out | refine below_set ?_ GE145.out) | exact HB.out))) : w.heap.size ≤ gb155))
              have n8_ := Aside0.mk ((by rw [hg]; exact Nat.ne_of_lt (blk_lt (g := gb135) (o := .cells #[.int .u64 a0_0, .int .u64 a0_1, .int .u64 a0_2, .int .u64 a0_3] 26 (0, 0)) (by (with_reducible repeat (first | refine bN ?_ _ | refine bD ?_ | refine bL ?_ _)); exact BK135.out)) : gb135 ≠ gb155))
              have n9_ := Aside0.mk ((by rw [hg]; exact Nat.ne_of_gt (blk_lt (g := gb135) (o := .cells #[.int .u64 a0_0, .int .u64 a0_1, .int .u64 a0_2, .int .u64 a0_3] 26 (0, 0)) (by (with_reducible repeat (first | refine bN ?_ _ | refine bD ?_ | refine bL ?_ _)); exact BK135.out)) : gb155 ≠ gb135))
              have n10_ := Aside0.mk ((by rw [hg]; exact Nat.ne_of_lt (blk_lt (g := gb136) (o := .cells #[.int .u64 a1_0, .int .u64 a1_1] 24 (0, 0)) (by (with_reducible repeat (first | refine bN ?_ _ | refine bD ?_ | refine bL ?_ _)); exact BK136.out)) : gb136 ≠ gb155))
              have n11_ := Aside0.mk ((by rw [hg]; exact Nat.ne_of_gt (blk_lt (g := gb136) (o := .cells #[.int .u64 a1_0, .int .u64 a1_1] 24 (0, 0)) (by (with_reducible repeat (first | refine bN ?_ _ | refine bD ?_ | refine bL ?_ _)); exact BK136.out)) : gb155 ≠ gb136))
              have n12_ := Aside0.mk ((by rw [hg]; exact Nat.ne_of_lt (blk_lt (g := gb144) (o := .cells #[.int .u64 t137, .int .u64 t138, .int .u64 t139, .int .u64 t140] 26 (0, 0)) (by (with_reducible repeat (first | refine bN ?_ _ | refine bD ?_ | refine bL ?_ _)); exact BK144.out)) : gb144 ≠ gb155))
              have n13_ := Aside0.mk ((by rw [hg]; exact Nat.ne_of_gt (blk_lt (g := gb144) (o := .cells #[.int .u64 t137, .int .u64 t138, .int .u64 t139, .int .u64 t140] 26 (0, 0)) (by (with_reducible repeat (first | refine bN ?_ _ | refine bD ?_ | refine bL ?_ _)); exact BK144.out)) : gb155 ≠ gb144))
              have n14_ := Aside0.mk ((by rw [hg]; exact Nat.ne_of_lt (blk_lt (g := gb145) (o := .cells #[.int .u64 t141, .int .u64 t142] 24 (0, 0)) (by (with_reducible repeat (first | refine bN ?_ _ | refine bD ?_ | refine bL ?_ _)); exact BK145.out)) : gb145 ≠ gb155))
              have n15_ := Aside0.mk ((by rw [hg]; exact Nat.ne_of_gt (blk_lt (g := gb145) (o := .cells #[.int .u64 t141, .int .u64 t142] 24 (0, 0)) (by (with_reducible repeat (first | refine bN ?_ _ | refine bD ?_ | refine bL ?_ _)); exact BK145.out)) : gb155 ≠ gb145))
              clear BK135
              clear BK136
              clear BK144
              clear BK145
              clear HB
              have BK135 := n0_
              have BK136 := n1_
              have BK144 := n2_
              have BK145 := n3_
              have HB := n4_
              have BK155 := n5_
              have GW155 := n6_
              have GE155 := n7_
              have NB135_155 := n8_
              have NB155_135 := n9_
              have NB136_155 := n10_
              have NB155_136 := n11_
              have NB144_155 := n12_
              have NB155_144 := n13_
              have NB145_155 := n14_
              have NB155_145 := n15_
              clear n0_ n1_ n2_ n3_ n4_ n5_ n6_ n7_ n8_ n9_ n10_ n11_ n12_ n13_ n14_ n15_
              clear hb hbox hg
              refine hK.out _ _ ⟨(bC BK144.out 0).trans rfl, (bC BK144.out 1).trans rfl, (bC BK144.out 2).trans rfl, (bC BK144.out 3).trans rfl, (bC BK136.out 0).trans rfl, (bC BK136.out 1).trans rfl⟩ (fun hHeld => ?_)
              clear hK K
              refine norm_ (a' := ?_) ?_ ?_
              rotate_left
              ·show Act.put _ (some 8) _ = _
               simp only [Act.put, List.setIfInBounds_toArray, List.set_cons_zero, List.set_cons_succ, i64_w, i32_w]
               rfl
              exact norm_ (by first | (simp only [putAll, Act.put, List.setIfInBounds_toArray, List.set_cons_zero, List.set_cons_succ]; done) | (simp only [putAll, Act.put, List.setIfInBounds_toArray, List.set_cons_zero, List.set_cons_succ]; rfl)) (hJ8 (gb155) _ ⟨hHeld, (by (with_reducible repeat (first | refine bN ?_ _ | refine bD ?_ | refine bL ?_ _)); exact BK135.out), (by (with_reducible repeat (first | refine bN ?_ _ | refine bD ?_ | refine bL ?_ _)); exact BK136.out), (by (with_reducible repeat (first | refine bN ?_ _ | refine bD ?_ | refine bL ?_ _)); exact BK144.out), (by (with_reducible repeat (first | refine bN ?_ _ | refine bD ?_ | refine bL ?_ _)); exact BK145.out), (by (with_reducible repeat (first | refine bN ?_ _ | refine bD ?_ | refine bL ?_ _)); exact BK155.out), GW155.out, GE155.out, NB135_155.out, NB155_135.out, NB136_155.out, NB155_136.out, NB144_155.out, NB155_144.out, NB145_155.out, NB155_145.out, (by repeat (first | (with_reducible first | exact HB.out | apply below_alloc | apply pN | apply dI | refine below_set ?_ GE135.out | refine below_set ?_ GE136.out | refine below_set ?_ GE144.out | refine below_set ?_ GE145.out | refine below_set ?_ GE155.out) | exact HB.out))⟩)
             ·skip
              refine box_step ?hg (N := 9) ?hd (cs := #[.int .u64 0, .int .u64 0, .int .u64 0, .int .u64 0]) (t := 26) ?hr ?_; (case hd => rfl); (case hg => rfl); (case hr => first | (go_simp; done) | (go_simp; rfl))
              intro gb156 hg w60 hbox hb
              have n0_ := Aside0.mk (bB (g := gb135) (o := .cells #[.int .u64 a0_0, .int .u64 a0_1, .int .u64 a0_2, .int .u64 a0_3] 26 (0, 0)) (by (with_reducible repeat (first | refine bN ?_ _ | refine bD ?_ | refine bL ?_ _)); exact BK135.out) hb)
              have n1_ := Aside0.mk (bB (g := gb136) (o := .cells #[.int .u64 a1_0, .int .u64 a1_1] 24 (0, 0)) (by (with_reducible repeat (first | refine bN ?_ _ | refine bD ?_ | refine bL ?_ _)); exact BK136.out) hb)
              have n2_ := Aside0.mk (bB (g := gb144) (o := .cells #[.int .u64 t137, .int .u64 t138, .int .u64 t139, .int .u64 t140] 26 (0, 0)) (by (with_reducible repeat (first | refine bN ?_ _ | refine bD ?_ | refine bL ?_ _)); exact BK144.out) hb)
              have n3_ := Aside0.mk (bB (g := gb145) (o := .cells #[.int .u64 t141, .int .u64 t142] 24 (0, 0)) (by (with_reducible repeat (first | refine bN ?_ _ | refine bD ?_ | refine bL ?_ _)); exact BK145.out) hb)
              have n4_ := Aside0.mk (below_step (by repeat (first | (with_reducible first | exact HB.out | apply below_alloc | apply pN | apply dI | refine below_set ?_ GE135.out | refine below_set ?_ GE136.out | refine below_set ?_ GE144.out | refine below_set ?_ GE145.out) | exact HB.out)) hb)
              have n5_ := Aside0.mk (hbox)
              have n6_ := Aside0.mk ((by rw [hg]; exact (below_size (by repeat (first | (with_reducible first | exact HB.out | apply below_alloc | apply pN | apply dI | refine below_set ?_ GE135.out | refine below_set ?_ GE136.out | refine below_set ?_ GE144.out | refine below_set ?_ GE145.out) | exact HB.out))) : w.heap.size ≤ gb156))
              have n7_ := Aside0.mk ((by rw [hg]; exact (below_size (by repeat (first | (with_reducible first | exact HB.out | apply below_alloc | apply pN | apply dI | refine below_set ?_ GE135.out | refine below_set ?_ GE136.out | refine below_set ?_ GE144.out | refine below_set ?_ GE145.out) | exact HB.out))) : w.heap.size ≤ gb156))
              have n8_ := Aside0.mk ((by rw [hg]; exact Nat.ne_of_lt (blk_lt (g := gb135) (o := .cells #[.int .u64 a0_0, .int .u64 a0_1, .int .u64 a0_2, .int .u64 a0_3] 26 (0, 0)) (by (with_reducible repeat (first | refine bN ?_ _ | refine bD ?_ | refine bL ?_ _)); exact BK135.out)) : gb135 ≠ gb156))
              have n9_ := Aside0.mk ((by rw [hg]; exact Nat.ne_of_gt (blk_lt (g := gb135) (o := .cells #[.int .u64 a0_0, .int .u64 a0_1, .int .u64 a0_2, .int .u64 a0_3] 26 (0, 0)) (by (with_reducible repeat (first | refine bN ?_ _ | refine bD ?_ | refine bL ?_ _)); exact BK135.out)) : gb156 ≠ gb135))
              have n10_ := Aside0.mk ((by rw [hg]; exact Nat.ne_of_lt (blk_lt (g := gb136) (o := .cells #[.int .u64 a1_0, .int .u64 a1_1] 24 (0, 0)) (by (with_reducible repeat (first | refine bN ?_ _ | refine bD ?_ | refine bL ?_ _)); exact BK136.out)) : gb136 ≠ gb156))
              have n11_ := Aside0.mk ((by rw [hg]; exact Nat.ne_of_gt (blk_lt (g := gb136) (o := .cells #[.int .u64 a1_0, .int .u64 a1_1] 24 (0, 0)) (by (with_reducible repeat (first | refine bN ?_ _ | refine bD ?_ | refine bL ?_ _)); exact BK136.out)) : gb156 ≠ gb136))
              have n12_ := Aside0.mk ((by rw [hg]; exact Nat.ne_of_lt (blk_lt (g := gb144) (o := .cells #[.int .u64 t137, .int .u64 t138, .int .u64 t139, .int .u64 t140] 26 (0, 0)) (by (with_reducible repeat (first | refine bN ?_ _ | refine bD ?_ | refine bL ?_ _)); exact BK144.out)) : gb144 ≠ gb156))
              have n13_ := Aside0.mk ((by rw [hg]; exact Nat.ne_of_gt (blk_lt (g := gb144) (o := .cells #[.int .u64 t137, .int .u64 t138, .int .u64 t139, .int .u64 t140] 26 (0, 0)) (by (with_reducible repeat (first | refine bN ?_ _ | refine bD ?_ | refine bL ?_ _)); exact BK144.out)) : gb156 ≠ gb144))
              have n14_ := Aside0.mk ((by rw [hg]; exact Nat.ne_of_lt (blk_lt (g := gb145) (o := .cells #[.int .u64 t141, .int .u64 t142] 24 (0, 0)) (by (with_reducible repeat (first | refine bN ?_ _ | refine bD ?_ | refine bL ?_ _)); exact BK145.out)) : gb145 ≠ gb156))
              have n15_ := Aside0.mk ((by rw [hg]; exact Nat.ne_of_gt (blk_lt (g := gb145) (o := .cells #[.int .u64 t141, .int .u64 t142] 24 (0, 0)) (by (with_reducible repeat (first | refine bN ?_ _ | refine bD ?_ | refine bL ?_ _)); exact BK145.out)) : gb156 ≠ gb145))
              clear BK135
              clear BK136
              clear BK144
              clear BK145
              clear HB
              have BK135 := n0_
              have BK136 := n1_
              have BK144 := n2_
              have BK145 := n3_
              have HB := n4_
              have BK156 := n5_
              have GW156 := n6_
              have GE156 := n7_
              have NB135_156 := n8_
              have NB156_135 := n9_
              have NB136_156 := n10_
              have NB156_136 := n11_
              have NB144_156 := n12_
              have NB156_144 := n13_
              have NB145_156 := n14_
              have NB156_145 := n15_
              clear n0_ n1_ n2_ n3_ n4_ n5_ n6_ n7_ n8_ n9_ n10_ n11_ n12_ n13_ n14_ n15_
              clear hb hbox hg
              refine hK.out _ _ ⟨(bC BK144.out 0).trans rfl, (bC BK144.out 1).trans rfl, (bC BK144.out 2).trans rfl, (bC BK144.out 3).trans rfl, (bC BK136.out 0).trans rfl, (bC BK136.out 1).trans rfl⟩ (fun hHeld => ?_)
              clear hK K
              refine norm_ (a' := ?_) ?_ ?_
              rotate_left
              ·show Act.put _ (some 9) _ = _
               simp only [Act.put, List.setIfInBounds_toArray, List.set_cons_zero, List.set_cons_succ, i64_w, i32_w]
               rfl
              exact norm_ (by first | (simp only [putAll, Act.put, List.setIfInBounds_toArray, List.set_cons_zero, List.set_cons_succ]; done) | (simp only [putAll, Act.put, List.setIfInBounds_toArray, List.set_cons_zero, List.set_cons_succ]; rfl)) (hJ9 (gb156) _ ⟨hHeld, (by (with_reducible repeat (first | refine bN ?_ _ | refine bD ?_ | refine bL ?_ _)); exact BK135.out), (by (with_reducible repeat (first | refine bN ?_ _ | refine bD ?_ | refine bL ?_ _)); exact BK136.out), (by (with_reducible repeat (first | refine bN ?_ _ | refine bD ?_ | refine bL ?_ _)); exact BK144.out), (by (with_reducible repeat (first | refine bN ?_ _ | refine bD ?_ | refine bL ?_ _)); exact BK145.out), (by (with_reducible repeat (first | refine bN ?_ _ | refine bD ?_ | refine bL ?_ _)); exact BK156.out), GW156.out, GE156.out, NB135_156.out, NB156_135.out, NB136_156.out, NB156_136.out, NB144_156.out, NB156_144.out, NB145_156.out, NB156_145.out, (by repeat (first | (with_reducible first | exact HB.out | apply below_alloc | apply pN | apply dI | refine below_set ?_ GE135.out | refine below_set ?_ GE136.out | refine below_set ?_ GE144.out | refine below_set ?_ GE145.out | refine below_set ?_ GE156.out) | exact HB.out))⟩)
            ·skip
             rintro gb156 w61 ⟨hS_, h0_, h1_, h2_, h3_, h4_, h5_, h6_, h7_, h8_, h9_, h10_, h11_, h12_, h13_, h14_, h15_⟩
             have n0_ : Aside0 (w61.heap[gb135]? = some (.cells #[.int .u64 a0_0, .int .u64 a0_1, .int .u64 a0_2, .int .u64 a0_3] 26 (0, 0))) := ⟨h0_⟩
             have n1_ : Aside0 (w61.heap[gb136]? = some (.cells #[.int .u64 a1_0, .int .u64 a1_1] 24 (0, 0))) := ⟨h1_⟩
             have n2_ : Aside0 (w61.heap[gb144]? = some (.cells #[.int .u64 t137, .int .u64 t138, .int .u64 t139, .int .u64 t140] 26 (0, 0))) := ⟨h2_⟩
             have n3_ : Aside0 (w61.heap[gb145]? = some (.cells #[.int .u64 t141, .int .u64 t142] 24 (0, 0))) := ⟨h3_⟩
             have n4_ : Aside0 (w61.heap[gb156]? = some (.cells #[.int .u64 0, .int .u64 0, .int .u64 0, .int .u64 0] 26 (0, 0))) := ⟨h4_⟩
             have n5_ : Aside0 (w.heap.size ≤ gb156) := ⟨h5_⟩
             have n6_ : Aside0 (w.heap.size ≤ gb156) := ⟨h6_⟩
             have n7_ : Aside0 (gb135 ≠ gb156) := ⟨h7_⟩
             have n8_ : Aside0 (gb156 ≠ gb135) := ⟨h8_⟩
             have n9_ : Aside0 (gb136 ≠ gb156) := ⟨h9_⟩
             have n10_ : Aside0 (gb156 ≠ gb136) := ⟨h10_⟩
             have n11_ : Aside0 (gb144 ≠ gb156) := ⟨h11_⟩
             have n12_ : Aside0 (gb156 ≠ gb144) := ⟨h12_⟩
             have n13_ : Aside0 (gb145 ≠ gb156) := ⟨h13_⟩
             have n14_ : Aside0 (gb156 ≠ gb145) := ⟨h14_⟩
             have n15_ : Aside0 (Below w.heap.size w w61) := ⟨h15_⟩
             clear BK135
             clear BK136
             clear BK144
             clear BK145
             clear HB
             clear h0_ h1_ h2_ h3_ h4_ h5_ h6_ h7_ h8_ h9_ h10_ h11_ h12_ h13_ h14_ h15_
             have BK135 := n0_
             have BK136 := n1_
             have BK144 := n2_
             have BK145 := n3_
             have BK156 := n4_
             have GW156 := n5_
             have GE156 := n6_
             have NB135_156 := n7_
             have NB156_135 := n8_
             have NB136_156 := n9_
             have NB156_136 := n10_
             have NB144_156 := n11_
             have NB156_144 := n12_
             have NB145_156 := n13_
             have NB156_145 := n14_
             have HB := n15_
             clear n0_ n1_ n2_ n3_ n4_ n5_ n6_ n7_ n8_ n9_ n10_ n11_ n12_ n13_ n14_ n15_
             have hHeld : w61.cell? ⟨gb144, 0, none⟩ = some (.int .u64 t137) ∧ w61.cell? ⟨gb144, 1, none⟩ = some (.int .u64 t138) ∧ w61.cell? ⟨gb144, 2, none⟩ = some (.int .u64 t139) ∧ w61.cell? ⟨gb144, 3, none⟩ = some (.int .u64 t140) ∧ w61.cell? ⟨gb136, 0, none⟩ = some (.int .u64 a1_0) ∧ w61.cell? ⟨gb136, 1, none⟩ = some (.int .u64 a1_1) := hS_
             refine norm_ (a' := ?_) ?_ ?_
             rotate_left
             ·simp only [putAll, Act.put, List.setIfInBounds_toArray, List.set_cons_zero, List.set_cons_succ]
              rfl
             refine two_ (i := 3) (j := 8) (Ni := some 46) (Nj := some 8) (bA 12 639) (bA 12 887) rfl rfl rfl rfl (two_of HT_.out (by kernel_rfl)) (by decide) (by decide) (fun K hK => ?_) (fun K hK => ?_)
             ·skip
              refine goes_ Try.func14 (by kernel_rfl) rfl #[.agg #[.int .u64 t139, .int .u64 t140], .agg #[.int .u64 a1_0, .int .u64 a1_1]] (by rfl) rfl rfl (by (try simp only [List.map_toArray, List.map_cons, List.map_nil]); first | done | rfl | (simp only [List.length_drop, List.length_take]; rfl)) ?_
              with_reducible refine (limb_Mul.calls t139 t140 a1_0 a1_1 t147 t148 t149 t150 _ A26.out).mono ?_
              rintro e w62 ⟨rfl, hb⟩
              refine ⟨_, rfl, ?_⟩
              have n0_ := Aside0.mk (bB (g := gb135) (o := .cells #[.int .u64 a0_0, .int .u64 a0_1, .int .u64 a0_2, .int .u64 a0_3] 26 (0, 0)) (by (with_reducible repeat (first | refine bN ?_ _ | refine bD ?_ | refine bL ?_ _)); exact BK135.out) hb)
              have n1_ := Aside0.mk (bB (g := gb136) (o := .cells #[.int .u64 a1_0, .int .u64 a1_1] 24 (0, 0)) (by (with_reducible repeat (first | refine bN ?_ _ | refine bD ?_ | refine bL ?_ _)); exact BK136.out) hb)
              have n2_ := Aside0.mk (bB (g := gb144) (o := .cells #[.int .u64 t137, .int .u64 t138, .int .u64 t139, .int .u64 t140] 26 (0, 0)) (by (with_reducible repeat (first | refine bN ?_ _ | refine bD ?_ | refine bL ?_ _)); exact BK144.out) hb)
              have n3_ := Aside0.mk (bB (g := gb145) (o := .cells #[.int .u64 t141, .int .u64 t142] 24 (0, 0)) (by (with_reducible repeat (first | refine bN ?_ _ | refine bD ?_ | refine bL ?_ _)); exact BK145.out) hb)
              have n4_ := Aside0.mk (bB (g := gb156) (o := .cells #[.int .u64 0, .int .u64 0, .int .u64 0, .int .u64 0] 26 (0, 0)) (by (with_reducible repeat (first | refine bN ?_ _ | refine bD ?_ | refine bL ?_ _)); exact BK156.out) hb)
              have n5_ := Aside0.mk (below_step (by repeat (first | (with_reducible first | exact HB.out | apply below_alloc | apply pN | apply dI | refine below_set ?_ GE135.out | refine below_set ?_ GE136.out | refine below_set ?_ GE144.out | refine below_set ?_ GE145.out | refine below_set ?_ GE156.out) | exact HB.out)) hb)
              clear BK135
              clear BK136
              clear BK144
              clear BK145
              clear BK156
              clear HB
              have BK135 := n0_
              have BK136 := n1_
              have BK144 := n2_
              have BK145 := n3_
              have BK156 := n4_
              have HB := n5_
              clear n0_ n1_ n2_ n3_ n4_ n5_
              (try clear hb)
              (try clear hb2)
              (try clear hk)
              (try clear hi)
              refine hK.out _ _ ⟨(bC BK144.out 0).trans rfl, (bC BK144.out 1).trans rfl, (bC BK144.out 2).trans rfl, (bC BK144.out 3).trans rfl, (bC BK136.out 0).trans rfl, (bC BK136.out 1).trans rfl⟩ (fun hHeld => ?_)
              clear hK K
              refine norm_ (a' := ?_) ?_ ?_
              rotate_left
              ·show Act.put _ (some 46) _ = _
               simp only [Act.put, List.setIfInBounds_toArray, List.set_cons_zero, List.set_cons_succ, i64_w, i32_w]
               rfl
              exact norm_ (by first | (simp only [putAll, Act.put, List.setIfInBounds_toArray, List.set_cons_zero, List.set_cons_succ]; done) | (simp only [putAll, Act.put, List.setIfInBounds_toArray, List.set_cons_zero, List.set_cons_succ]; rfl)) (hJ3_9 (gb156) _ ⟨hHeld, (by (with_reducible repeat (first | refine bN ?_ _ | refine bD ?_ | refine bL ?_ _)); exact BK135.out), (by (with_reducible repeat (first | refine bN ?_ _ | refine bD ?_ | refine bL ?_ _)); exact BK136.out), (by (with_reducible repeat (first | refine bN ?_ _ | refine bD ?_ | refine bL ?_ _)); exact BK144.out), (by (with_reducible repeat (first | refine bN ?_ _ | refine bD ?_ | refine bL ?_ _)); exact BK145.out), (by (with_reducible repeat (first | refine bN ?_ _ | refine bD ?_ | refine bL ?_ _)); exact BK156.out), GW156.out, GE156.out, NB135_156.out, NB156_135.out, NB136_156.out, NB156_136.out, NB144_156.out, NB156_144.out, NB145_156.out, NB156_145.out, (by repeat (first | (with_reducible first | exact HB.out | apply below_alloc | apply pN | apply dI | refine below_set ?_ GE135.out | refine below_set ?_ GE136.out | refine below_set ?_ GE144.out | refine below_set ?_ GE145.out | refine below_set ?_ GE156.out) | exact HB.out))⟩)
             ·skip
              refine box_step ?hg (N := 8) ?hd (cs := #[.int .u64 0, .int .u64 0, .int .u64 0, .int .u64 0]) (t := 26) ?hr ?_; (case hd => rfl); (case hg => rfl); (case hr => first | (go_simp; done) | (go_simp; rfl))
              intro gb155 hg w62 hbox hb
              have n0_ := Aside0.mk (bB (g := gb135) (o := .cells #[.int .u64 a0_0, .int .u64 a0_1, .int .u64 a0_2, .int .u64 a0_3] 26 (0, 0)) (by (with_reducible repeat (first | refine bN ?_ _ | refine bD ?_ | refine bL ?_ _)); exact BK135.out) hb)
              have n1_ := Aside0.mk (bB (g := gb136) (o := .cells #[.int .u64 a1_0, .int .u64 a1_1] 24 (0, 0)) (by (with_reducible repeat (first | refine bN ?_ _ | refine bD ?_ | refine bL ?_ _)); exact BK136.out) hb)
              have n2_ := Aside0.mk (bB (g := gb144) (o := .cells #[.int .u64 t137, .int .u64 t138, .int .u64 t139, .int .u64 t140] 26 (0, 0)) (by (with_reducible repeat (first | refine bN ?_ _ | refine bD ?_ | refine bL ?_ _)); exact BK144.out) hb)
              have n3_ := Aside0.mk (bB (g := gb145) (o := .cells #[.int .u64 t141, .int .u64 t142] 24 (0, 0)) (by (with_reducible repeat (first | refine bN ?_ _ | refine bD ?_ | refine bL ?_ _)); exact BK145.out) hb)
              have n4_ := Aside0.mk (bB (g := gb156) (o := .cells #[.int .u64 0, .int .u64 0, .int .u64 0, .int .u64 0] 26 (0, 0)) (by (with_reducible repeat (first | refine bN ?_ _ | refine bD ?_ | refine bL ?_ _)); exact BK156.out) hb)
              have n5_ := Aside0.mk (below_step (by repeat (first | (with_reducible first | exact HB.out | apply below_alloc | apply pN | apply dI | refine below_set ?_ GE135.out | refine below_set ?_ GE136.out | refine below_set ?_ GE144.out | refine below_set ?_ GE145.out | refine below_set ?_ GE156.out) | exact HB.out)) hb)
              have n6_ := Aside0.mk (hbox)
              have n7_ := Aside0.mk ((by rw [hg]; exact (below_size (by repeat (first | (with_reducible first | exact HB.out | apply below_alloc | apply pN | apply dI | refine below_set ?_ GE135.out | refine below_set ?_ GE136.out | refine below_set ?_ GE144.out | refine below_set ?_ GE145.out | refine below_set ?_ GE156.out) | exact HB.out))) : w.heap.size ≤ gb155))
              have n8_ := Aside0.mk ((by rw [hg]; exact (below_size (by repeat (first | (with_reducible first | exact HB.out | apply below_alloc | apply pN | apply dI | refine below_set ?_ GE135.out | refine below_set ?_ GE136.out | refine below_set ?_ GE144.out | refine below_set ?_ GE145.out | refine below_set ?_ GE156.out) | exact HB.out))) : w.heap.size ≤ gb155))
              have n9_ := Aside0.mk ((by rw [hg]; exact Nat.ne_of_lt (blk_lt (g := gb135) (o := .cells #[.int .u64 a0_0, .int .u64 a0_1, .int .u64 a0_2, .int .u64 a0_3] 26 (0, 0)) (by (with_reducible repeat (first | refine bN ?_ _ | refine bD ?_ | refine bL ?_ _)); exact BK135.out)) : gb135 ≠ gb155))
              have n10_ := Aside0.mk ((by rw [hg]; exact Nat.ne_of_gt (blk_lt (g := gb135) (o := .cells #[.int .u64 a0_0, .int .u64 a0_1, .int .u64 a0_2, .int .u64 a0_3] 26 (0, 0)) (by (with_reducible repeat (first | refine bN ?_ _ | refine bD ?_ | refine bL ?_ _)); exact BK135.out)) : gb155 ≠ gb135))
              have n11_ := Aside0.mk ((by rw [hg]; exact Nat.ne_of_lt (blk_lt (g := gb136) (o := .cells #[.int .u64 a1_0, .int .u64 a1_1] 24 (0, 0)) (by (with_reducible repeat (first | refine bN ?_ _ | refine bD ?_ | refine bL ?_ _)); exact BK136.out)) : gb136 ≠ gb155))
              have n12_ := Aside0.mk ((by rw [hg]; exact Nat.ne_of_gt (blk_lt (g := gb136) (o := .cells #[.int .u64 a1_0, .int .u64 a1_1] 24 (0, 0)) (by (with_reducible repeat (first | refine bN ?_ _ | refine bD ?_ | refine bL ?_ _)); exact BK136.out)) : gb155 ≠ gb136))
              have n13_ := Aside0.mk ((by rw [hg]; exact Nat.ne_of_lt (blk_lt (g := gb144) (o := .cells #[.int .u64 t137, .int .u64 t138, .int .u64 t139, .int .u64 t140] 26 (0, 0)) (by (with_reducible repeat (first | refine bN ?_ _ | refine bD ?_ | refine bL ?_ _)); exact BK144.out)) : gb144 ≠ gb155))
              have n14_ := Aside0.mk ((by rw [hg]; exact Nat.ne_of_gt (blk_lt (g := gb144) (o := .cells #[.int .u64 t137, .int .u64 t138, .int .u64 t139, .int .u64 t140] 26 (0, 0)) (by (with_reducible repeat (first | refine bN ?_ _ | refine bD ?_ | refine bL ?_ _)); exact BK144.out)) : gb155 ≠ gb144))
              have n15_ := Aside0.mk ((by rw [hg]; exact Nat.ne_of_lt (blk_lt (g := gb145) (o := .cells #[.int .u64 t141, .int .u64 t142] 24 (0, 0)) (by (with_reducible repeat (first | refine bN ?_ _ | refine bD ?_ | refine bL ?_ _)); exact BK145.out)) : gb145 ≠ gb155))
              have n16_ := Aside0.mk ((by rw [hg]; exact Nat.ne_of_gt (blk_lt (g := gb145) (o := .cells #[.int .u64 t141, .int .u64 t142] 24 (0, 0)) (by (with_reducible repeat (first | refine bN ?_ _ | refine bD ?_ | refine bL ?_ _)); exact BK145.out)) : gb155 ≠ gb145))
              have n17_ := Aside0.mk ((by rw [hg]; exact Nat.ne_of_lt (blk_lt (g := gb156) (o := .cells #[.int .u64 0, .int .u64 0, .int .u64 0, .int .u64 0] 26 (0, 0)) (by (with_reducible repeat (first | refine bN ?_ _ | refine bD ?_ | refine bL ?_ _)); exact BK156.out)) : gb156 ≠ gb155))
              have n18_ := Aside0.mk ((by rw [hg]; exact Nat.ne_of_gt (blk_lt (g := gb156) (o := .cells #[.int .u64 0, .int .u64 0, .int .u64 0, .int .u64 0] 26 (0, 0)) (by (with_reducible repeat (first | refine bN ?_ _ | refine bD ?_ | refine bL ?_ _)); exact BK156.out)) : gb155 ≠ gb156))
              clear BK135
              clear BK136
              clear BK144
              clear BK145
              clear BK156
              clear HB
              have BK135 := n0_
              have BK136 := n1_
              have BK144 := n2_
              have BK145 := n3_
              have BK156 := n4_
              have HB := n5_
              have BK155 := n6_
              have GW155 := n7_
              have GE155 := n8_
              have NB135_155 := n9_
              have NB155_135 := n10_
              have NB136_155 := n11_
              have NB155_136 := n12_
              have NB144_155 := n13_
              have NB155_144 := n14_
              have NB145_155 := n15_
              have NB155_145 := n16_
              have NB156_155 := n17_
              have NB155_156 := n18_
              clear n0_ n1_ n2_ n3_ n4_ n5_ n6_ n7_ n8_ n9_ n10_ n11_ n12_ n13_ n14_ n15_ n16_ n17_ n18_
              clear hb hbox hg
              refine hK.out _ _ ⟨(bC BK144.out 0).trans rfl, (bC BK144.out 1).trans rfl, (bC BK144.out 2).trans rfl, (bC BK144.out 3).trans rfl, (bC BK136.out 0).trans rfl, (bC BK136.out 1).trans rfl⟩ (fun hHeld => ?_)
              clear hK K
              refine norm_ (a' := ?_) ?_ ?_
              rotate_left
              ·show Act.put _ (some 8) _ = _
               simp only [Act.put, List.setIfInBounds_toArray, List.set_cons_zero, List.set_cons_succ, i64_w, i32_w]
               rfl
              exact norm_ (by first | (simp only [putAll, Act.put, List.setIfInBounds_toArray, List.set_cons_zero, List.set_cons_succ]; done) | (simp only [putAll, Act.put, List.setIfInBounds_toArray, List.set_cons_zero, List.set_cons_succ]; rfl)) (hJ8_9 (gb155, gb156) _ ⟨hHeld, (by (with_reducible repeat (first | refine bN ?_ _ | refine bD ?_ | refine bL ?_ _)); exact BK135.out), (by (with_reducible repeat (first | refine bN ?_ _ | refine bD ?_ | refine bL ?_ _)); exact BK136.out), (by (with_reducible repeat (first | refine bN ?_ _ | refine bD ?_ | refine bL ?_ _)); exact BK144.out), (by (with_reducible repeat (first | refine bN ?_ _ | refine bD ?_ | refine bL ?_ _)); exact BK145.out), (by (with_reducible repeat (first | refine bN ?_ _ | refine bD ?_ | refine bL ?_ _)); exact BK155.out), (by (with_reducible repeat (first | refine bN ?_ _ | refine bD ?_ | refine bL ?_ _)); exact BK156.out), GW155.out, GE155.out, NB135_155.out, NB155_135.out, NB136_155.out, NB155_136.out, NB144_155.out, NB155_144.out, NB145_155.out, NB155_145.out, NB156_155.out, NB155_156.out, GW156.out, GE156.out, NB135_156.out, NB156_135.out, NB136_156.out, NB156_136.out, NB144_156.out, NB156_144.out, NB145_156.out, NB156_145.out, (by repeat (first | (with_reducible first | exact HB.out | apply below_alloc | apply pN | apply dI | refine below_set ?_ GE135.out | refine below_set ?_ GE136.out | refine below_set ?_ GE144.out | refine below_set ?_ GE145.out | refine below_set ?_ GE156.out | refine below_set ?_ GE155.out) | exact HB.out))⟩)
           ·skip
            rintro gb155 w61 ⟨hS_, h0_, h1_, h2_, h3_, h4_, h5_, h6_, h7_, h8_, h9_, h10_, h11_, h12_, h13_, h14_, h15_⟩
            have n0_ : Aside0 (w61.heap[gb135]? = some (.cells #[.int .u64 a0_0, .int .u64 a0_1, .int .u64 a0_2, .int .u64 a0_3] 26 (0, 0))) := ⟨h0_⟩
            have n1_ : Aside0 (w61.heap[gb136]? = some (.cells #[.int .u64 a1_0, .int .u64 a1_1] 24 (0, 0))) := ⟨h1_⟩
            have n2_ : Aside0 (w61.heap[gb144]? = some (.cells #[.int .u64 t137, .int .u64 t138, .int .u64 t139, .int .u64 t140] 26 (0, 0))) := ⟨h2_⟩
            have n3_ : Aside0 (w61.heap[gb145]? = some (.cells #[.int .u64 t141, .int .u64 t142] 24 (0, 0))) := ⟨h3_⟩
            have n4_ : Aside0 (w61.heap[gb155]? = some (.cells #[.int .u64 0, .int .u64 0, .int .u64 0, .int .u64 0] 26 (0, 0))) := ⟨h4_⟩
            have n5_ : Aside0 (w.heap.size ≤ gb155) := ⟨h5_⟩
            have n6_ : Aside0 (w.heap.size ≤ gb155) := ⟨h6_⟩
            have n7_ : Aside0 (gb135 ≠ gb155) := ⟨h7_⟩
            have n8_ : Aside0 (gb155 ≠ gb135) := ⟨h8_⟩
            have n9_ : Aside0 (gb136 ≠ gb155) := ⟨h9_⟩
            have n10_ : Aside0 (gb155 ≠ gb136) := ⟨h10_⟩
            have n11_ : Aside0 (gb144 ≠ gb155) := ⟨h11_⟩
            have n12_ : Aside0 (gb155 ≠ gb144) := ⟨h12_⟩
            have n13_ : Aside0 (gb145 ≠ gb155) := ⟨h13_⟩
            have n14_ : Aside0 (gb155 ≠ gb145) := ⟨h14_⟩
            have n15_ : Aside0 (Below w.heap.size w w61) := ⟨h15_⟩
            clear BK135
            clear BK136
            clear BK144
            clear BK145
            clear HB
            clear h0_ h1_ h2_ h3_ h4_ h5_ h6_ h7_ h8_ h9_ h10_ h11_ h12_ h13_ h14_ h15_
            have BK135 := n0_
            have BK136 := n1_
            have BK144 := n2_
            have BK145 := n3_
            have BK155 := n4_
            have GW155 := n5_
            have GE155 := n6_
            have NB135_155 := n7_
            have NB155_135 := n8_
            have NB136_155 := n9_
            have NB155_136 := n10_
            have NB144_155 := n11_
            have NB155_144 := n12_
            have NB145_155 := n13_
            have NB155_145 := n14_
            have HB := n15_
            clear n0_ n1_ n2_ n3_ n4_ n5_ n6_ n7_ n8_ n9_ n10_ n11_ n12_ n13_ n14_ n15_
            have hHeld : w61.cell? ⟨gb144, 0, none⟩ = some (.int .u64 t137) ∧ w61.cell? ⟨gb144, 1, none⟩ = some (.int .u64 t138) ∧ w61.cell? ⟨gb144, 2, none⟩ = some (.int .u64 t139) ∧ w61.cell? ⟨gb144, 3, none⟩ = some (.int .u64 t140) ∧ w61.cell? ⟨gb136, 0, none⟩ = some (.int .u64 a1_0) ∧ w61.cell? ⟨gb136, 1, none⟩ = some (.int .u64 a1_1) := hS_
            refine norm_ (a' := ?_) ?_ ?_
            rotate_left
            ·simp only [putAll, Act.put, List.setIfInBounds_toArray, List.set_cons_zero, List.set_cons_succ]
             rfl
            refine two_ (i := 3) (j := 9) (Ni := some 46) (Nj := some 9) (bA 12 383) (bA 12 887) rfl rfl rfl rfl (two_of HT_.out (by kernel_rfl)) (by decide) (by decide) (fun K hK => ?_) (fun K hK => ?_)
            ·skip
             refine goes_ Try.func14 (by kernel_rfl) rfl #[.agg #[.int .u64 t139, .int .u64 t140], .agg #[.int .u64 a1_0, .int .u64 a1_1]] (by rfl) rfl rfl (by (try simp only [List.map_toArray, List.map_cons, List.map_nil]); first | done | rfl | (simp only [List.length_drop, List.length_take]; rfl)) ?_
             with_reducible refine (limb_Mul.calls t139 t140 a1_0 a1_1 t147 t148 t149 t150 _ A26.out).mono ?_
             rintro e w62 ⟨rfl, hb⟩
             refine ⟨_, rfl, ?_⟩
             have n0_ := Aside0.mk (bB (g := gb135) (o := .cells #[.int .u64 a0_0, .int .u64 a0_1, .int .u64 a0_2, .int .u64 a0_3] 26 (0, 0)) (by (with_reducible repeat (first | refine bN ?_ _ | refine bD ?_ | refine bL ?_ _)); exact BK135.out) hb)
             have n1_ := Aside0.mk (bB (g := gb136) (o := .cells #[.int .u64 a1_0, .int .u64 a1_1] 24 (0, 0)) (by (with_reducible repeat (first | refine bN ?_ _ | refine bD ?_ | refine bL ?_ _)); exact BK136.out) hb)
             have n2_ := Aside0.mk (bB (g := gb144) (o := .cells #[.int .u64 t137, .int .u64 t138, .int .u64 t139, .int .u64 t140] 26 (0, 0)) (by (with_reducible repeat (first | refine bN ?_ _ | refine bD ?_ | refine bL ?_ _)); exact BK144.out) hb)
             have n3_ := Aside0.mk (bB (g := gb145) (o := .cells #[.int .u64 t141, .int .u64 t142] 24 (0, 0)) (by (with_reducible repeat (first | refine bN ?_ _ | refine bD ?_ | refine bL ?_ _)); exact BK145.out) hb)
             have n4_ := Aside0.mk (bB (g := gb155) (o := .cells #[.int .u64 0, .int .u64 0, .int .u64 0, .int .u64 0] 26 (0, 0)) (by (with_reducible repeat (first | refine bN ?_ _ | refine bD ?_ | refine bL ?_ _)); exact BK155.out) hb)
             have n5_ := Aside0.mk (below_step (by repeat (first | (with_reducible first | exact HB.out | apply below_alloc | apply pN | apply dI | refine below_set ?_ GE135.out | refine below_set ?_ GE136.out | refine below_set ?_ GE144.out | refine below_set ?_ GE145.out | refine below_set ?_ GE155.out) | exact HB.out)) hb)
             clear BK135
             clear BK136
             clear BK144
             clear BK145
             clear BK155
             clear HB
             have BK135 := n0_
             have BK136 := n1_
             have BK144 := n2_
             have BK145 := n3_
             have BK155 := n4_
             have HB := n5_
             clear n0_ n1_ n2_ n3_ n4_ n5_
             (try clear hb)
             (try clear hb2)
             (try clear hk)
             (try clear hi)
             refine hK.out _ _ ⟨(bC BK144.out 0).trans rfl, (bC BK144.out 1).trans rfl, (bC BK144.out 2).trans rfl, (bC BK144.out 3).trans rfl, (bC BK136.out 0).trans rfl, (bC BK136.out 1).trans rfl⟩ (fun hHeld => ?_)
             clear hK K
             refine norm_ (a' := ?_) ?_ ?_
             rotate_left
             ·show Act.put _ (some 46) _ = _
              simp only [Act.put, List.setIfInBounds_toArray, List.set_cons_zero, List.set_cons_succ, i64_w, i32_w]
              rfl
             exact norm_ (by first | (simp only [putAll, Act.put, List.setIfInBounds_toArray, List.set_cons_zero, List.set_cons_succ]; done) | (simp only [putAll, Act.put, List.setIfInBounds_toArray, List.set_cons_zero, List.set_cons_succ]; rfl)) (hJ3_8 (gb155) _ ⟨hHeld, (by (with_reducible repeat (first | refine bN ?_ _ | refine bD ?_ | refine bL ?_ _)); exact BK135.out), (by (with_reducible repeat (first | refine bN ?_ _ | refine bD ?_ | refine bL ?_ _)); exact BK136.out), (by (with_reducible repeat (first | refine bN ?_ _ | refine bD ?_ | refine bL ?_ _)); exact BK144.out), (by (with_reducible repeat (first | refine bN ?_ _ | refine bD ?_ | refine bL ?_ _)); exact BK145.out), (by (with_reducible repeat (first | refine bN ?_ _ | refine bD ?_ | refine bL ?_ _)); exact BK155.out), GW155.out, GE155.out, NB135_155.out, NB155_135.out, NB136_155.out, NB155_136.out, NB144_155.out, NB155_144.out, NB145_155.out, NB155_145.out, (by repeat (first | (with_reducible first | exact HB.out | apply below_alloc | apply pN | apply dI | refine below_set ?_ GE135.out | refine below_set ?_ GE136.out | refine below_set ?_ GE144.out | refine below_set ?_ GE145.out | refine below_set ?_ GE155.out) | exact HB.out))⟩)
            ·skip
             refine box_step ?hg (N := 9) ?hd (cs := #[.int .u64 0, .int .u64 0, .int .u64 0, .int .u64 0]) (t := 26) ?hr ?_; (case hd => rfl); (case hg => rfl); (case hr => first | (go_simp; done) | (go_simp; rfl))
             intro gb156 hg w62 hbox hb
             have n0_ := Aside0.mk (bB (g := gb135) (o := .cells #[.int .u64 a0_0, .int .u64 a0_1, .int .u64 a0_2, .int .u64 a0_3] 26 (0, 0)) (by (with_reducible repeat (first | refine bN ?_ _ | refine bD ?_ | refine bL ?_ _)); exact BK135.out) hb)
             have n1_ := Aside0.mk (bB (g := gb136) (o := .cells #[.int .u64 a1_0, .int .u64 a1_1] 24 (0, 0)) (by (with_reducible repeat (first | refine bN ?_ _ | refine bD ?_ | refine bL ?_ _)); exact BK136.out) hb)
             have n2_ := Aside0.mk (bB (g := gb144) (o := .cells #[.int .u64 t137, .int .u64 t138, .int .u64 t139, .int .u64 t140] 26 (0, 0)) (by (with_reducible repeat (first | refine bN ?_ _ | refine bD ?_ | refine bL ?_ _)); exact BK144.out) hb)
             have n3_ := Aside0.mk (bB (g := gb145) (o := .cells #[.int .u64 t141, .int .u64 t142] 24 (0, 0)) (by (with_reducible repeat (first | refine bN ?_ _ | refine bD ?_ | refine bL ?_ _)); exact BK145.out) hb)
             have n4_ := Aside0.mk (bB (g := gb155) (o := .cells #[.int .u64 0, .int .u64 0, .int .u64 0, .int .u64 0] 26 (0, 0)) (by (with_reducible repeat (first | refine bN ?_ _ | refine bD ?_ | refine bL ?_ _)); exact BK155.out) hb)
             have n5_ := Aside0.mk (below_step (by repeat (first | (with_reducible first | exact HB.out | apply below_alloc | apply pN | apply dI | refine below_set ?_ GE135.out | refine below_set ?_ GE136.out | refine below_set ?_ GE144.out | refine below_set ?_ GE145.out | refine below_set ?_ GE155.out) | exact HB.out)) hb)
             have n6_ := Aside0.mk (hbox)
             have n7_ := Aside0.mk ((by rw [hg]; exact (below_size (by repeat (first | (with_reducible first | exact HB.out | apply below_alloc | apply pN | apply dI | refine below_set ?_ GE135.out | refine below_set ?_ GE136.out | refine below_set ?_ GE144.out | refine below_set ?_ GE145.out | refine below_set ?_ GE155.out) | exact HB.out))) : w.heap.size ≤ gb156))
             have n8_ := Aside0.mk ((by rw [hg]; exact (below_size (by repeat (first | (with_reducible first | exact HB.out | apply below_alloc | apply pN | apply dI | refine below_set ?_ GE135.out | refine below_set ?_ GE136.out | refine below_set ?_ GE144.out | refine below_set ?_ GE145.out | refine below_set ?_ GE155.out) | exact HB.out))) : w.heap.size ≤ gb156))
             have n9_ := Aside0.mk ((by rw [hg]; exact Nat.ne_of_lt (blk_lt (g := gb135) (o := .cells #[.int .u64 a0_0, .int .u64 a0_1, .int .u64 a0_2, .int .u64 a0_3] 26 (0, 0)) (by (with_reducible repeat (first | refine bN ?_ _ | refine bD ?_ | refine bL ?_ _)); exact BK135.out)) : gb135 ≠ gb156))
             have n10_ := Aside0.mk ((by rw [hg]; exact Nat.ne_of_gt (blk_lt (g := gb135) (o := .cells #[.int .u64 a0_0, .int .u64 a0_1, .int .u64 a0_2, .int .u64 a0_3] 26 (0, 0)) (by (with_reducible repeat (first | refine bN ?_ _ | refine bD ?_ | refine bL ?_ _)); exact BK135.out)) : gb156 ≠ gb135))
             have n11_ := Aside0.mk ((by rw [hg]; exact Nat.ne_of_lt (blk_lt (g := gb136) (o := .cells #[.int .u64 a1_0, .int .u64 a1_1] 24 (0, 0)) (by (with_reducible repeat (first | refine bN ?_ _ | refine bD ?_ | refine bL ?_ _)); exact BK136.out)) : gb136 ≠ gb156))
             have n12_ := Aside0.mk ((by rw [hg]; exact Nat.ne_of_gt (blk_lt (g := gb136) (o := .cells #[.int .u64 a1_0, .int .u64 a1_1] 24 (0, 0)) (by (with_reducible repeat (first | refine bN ?_ _ | refine bD ?_ | refine bL ?_ _)); exact BK136.out)) : gb156 ≠ gb136))
             have n13_ := Aside0.mk ((by rw [hg]; exact Nat.ne_of_lt (blk_lt (g := gb144) (o := .cells #[.int .u64 t137, .int .u64 t138, .int .u64 t139, .int .u64 t140] 26 (0, 0)) (by (with_reducible repeat (first | refine bN ?_ _ | refine bD ?_ | refine bL ?_ _)); exact BK144.out)) : gb144 ≠ gb156))
             have n14_ := Aside0.mk ((by rw [hg]; exact Nat.ne_of_gt (blk_lt (g := gb144) (o := .cells #[.int .u64 t137, .int .u64 t138, .int .u64 t139, .int .u64 t140] 26 (0, 0)) (by (with_reducible repeat (first | refine bN ?_ _ | refine bD ?_ | refine bL ?_ _)); exact BK144.out)) : gb156 ≠ gb144))
             have n15_ := Aside0.mk ((by rw [hg]; exact Nat.ne_of_lt (blk_lt (g := gb145) (o := .cells #[.int .u64 t141, .int .u64 t142] 24 (0, 0)) (by (with_reducible repeat (first | refine bN ?_ _ | refine bD ?_ | refine bL ?_ _)); exact BK145.out)) : gb145 ≠ gb156))
             have n16_ := Aside0.mk ((by rw [hg]; exact Nat.ne_of_gt (blk_lt (g := gb145) (o := .cells #[.int .u64 t141, .int .u64 t142] 24 (0, 0)) (by (with_reducible repeat (first | refine bN ?_ _ | refine bD ?_ | refine bL ?_ _)); exact BK145.out)) : gb156 ≠ gb145))
             have n17_ := Aside0.mk ((by rw [hg]; exact Nat.ne_of_lt (blk_lt (g := gb155) (o := .cells #[.int .u64 0, .int .u64 0, .int .u64 0, .int .u64 0] 26 (0, 0)) (by (with_reducible repeat (first | refine bN ?_ _ | refine bD ?_ | refine bL ?_ _)); exact BK155.out)) : gb155 ≠ gb156))
             have n18_ := Aside0.mk ((by rw [hg]; exact Nat.ne_of_gt (blk_lt (g := gb155) (o := .cells #[.int .u64 0, .int .u64 0, .int .u64 0, .int .u64 0] 26 (0, 0)) (by (with_reducible repeat (first | refine bN ?_ _ | refine bD ?_ | refine bL ?_ _)); exact BK155.out)) : gb156 ≠ gb155))
             clear BK135
             clear BK136
             clear BK144
             clear BK145
             clear BK155
             clear HB
             have BK135 := n0_
             have BK136 := n1_
             have BK144 := n2_
             have BK145 := n3_
             have BK155 := n4_
             have HB := n5_
             have BK156 := n6_
             have GW156 := n7_
             have GE156 := n8_
             have NB135_156 := n9_
             have NB156_135 := n10_
             have NB136_156 := n11_
             have NB156_136 := n12_
             have NB144_156 := n13_
             have NB156_144 := n14_
             have NB145_156 := n15_
             have NB156_145 := n16_
             have NB155_156 := n17_
             have NB156_155 := n18_
             clear n0_ n1_ n2_ n3_ n4_ n5_ n6_ n7_ n8_ n9_ n10_ n11_ n12_ n13_ n14_ n15_ n16_ n17_ n18_
             clear hb hbox hg
             refine hK.out _ _ ⟨(bC BK144.out 0).trans rfl, (bC BK144.out 1).trans rfl, (bC BK144.out 2).trans rfl, (bC BK144.out 3).trans rfl, (bC BK136.out 0).trans rfl, (bC BK136.out 1).trans rfl⟩ (fun hHeld => ?_)
             clear hK K
             refine norm_ (a' := ?_) ?_ ?_
             rotate_left
             ·show Act.put _ (some 9) _ = _
              simp only [Act.put, List.setIfInBounds_toArray, List.set_cons_zero, List.set_cons_succ, i64_w, i32_w]
              rfl
             exact norm_ (by first | (simp only [putAll, Act.put, List.setIfInBounds_toArray, List.set_cons_zero, List.set_cons_succ]; done) | (simp only [putAll, Act.put, List.setIfInBounds_toArray, List.set_cons_zero, List.set_cons_succ]; rfl)) (hJ8_9 (gb155, gb156) _ ⟨hHeld, (by (with_reducible repeat (first | refine bN ?_ _ | refine bD ?_ | refine bL ?_ _)); exact BK135.out), (by (with_reducible repeat (first | refine bN ?_ _ | refine bD ?_ | refine bL ?_ _)); exact BK136.out), (by (with_reducible repeat (first | refine bN ?_ _ | refine bD ?_ | refine bL ?_ _)); exact BK144.out), (by (with_reducible repeat (first | refine bN ?_ _ | refine bD ?_ | refine bL ?_ _)); exact BK145.out), (by (with_reducible repeat (first | refine bN ?_ _ | refine bD ?_ | refine bL ?_ _)); exact BK155.out), (by (with_reducible repeat (first | refine bN ?_ _ | refine bD ?_ | refine bL ?_ _)); exact BK156.out), GW155.out, GE155.out, NB135_155.out, NB155_135.out, NB136_155.out, NB155_136.out, NB144_155.out, NB155_144.out, NB145_155.out, NB155_145.out, NB156_155.out, NB155_156.out, GW156.out, GE156.out, NB135_156.out, NB156_135.out, NB136_156.out, NB156_136.out, NB144_156.out, NB156_144.out, NB145_156.out, NB156_145.out, (by repeat (first | (with_reducible first | exact HB.out | apply below_alloc | apply pN | apply dI | refine below_set ?_ GE135.out | refine below_set ?_ GE136.out | refine below_set ?_ GE144.out | refine below_set ?_ GE145.out | refine below_set ?_ GE155.out | refine below_set ?_ GE156.out) | exact HB.out))⟩)
          ·skip
           rintro _ w61 ⟨hS_, h0_, h1_, h2_, h3_, h4_⟩
           have n0_ : Aside0 (w61.heap[gb135]? = some (.cells #[.int .u64 a0_0, .int .u64 a0_1, .int .u64 a0_2, .int .u64 a0_3] 26 (0, 0))) := ⟨h0_⟩
           have n1_ : Aside0 (w61.heap[gb136]? = some (.cells #[.int .u64 a1_0, .int .u64 a1_1] 24 (0, 0))) := ⟨h1_⟩
           have n2_ : Aside0 (w61.heap[gb144]? = some (.cells #[.int .u64 t137, .int .u64 t138, .int .u64 t139, .int .u64 t140] 26 (0, 0))) := ⟨h2_⟩
           have n3_ : Aside0 (w61.heap[gb145]? = some (.cells #[.int .u64 t141, .int .u64 t142] 24 (0, 0))) := ⟨h3_⟩
           have n4_ : Aside0 (Below w.heap.size w w61) := ⟨h4_⟩
           clear BK135
           clear BK136
           clear BK144
           clear BK145
           clear HB
           clear h0_ h1_ h2_ h3_ h4_
           have BK135 := n0_
           have BK136 := n1_
           have BK144 := n2_
           have BK145 := n3_
           have HB := n4_
           clear n0_ n1_ n2_ n3_ n4_
           have hHeld : w61.cell? ⟨gb144, 0, none⟩ = some (.int .u64 t137) ∧ w61.cell? ⟨gb144, 1, none⟩ = some (.int .u64 t138) ∧ w61.cell? ⟨gb144, 2, none⟩ = some (.int .u64 t139) ∧ w61.cell? ⟨gb144, 3, none⟩ = some (.int .u64 t140) ∧ w61.cell? ⟨gb136, 0, none⟩ = some (.int .u64 a1_0) ∧ w61.cell? ⟨gb136, 1, none⟩ = some (.int .u64 a1_1) := hS_
           refine norm_ (a' := ?_) ?_ ?_
           rotate_left
           ·simp only [putAll, Act.put, List.setIfInBounds_toArray, List.set_cons_zero, List.set_cons_succ]
            rfl
           refine three_ (i := 7) (j := 8) (k := 9) (Ni := some 50) (Nj := some 8) (Nk := some 9) (bA 12 255) (bA 12 383) (bA 12 639) rfl rfl rfl rfl rfl rfl (three_of HT_.out (by kernel_rfl)) (by decide) (by decide) (by decide) (fun K hK => ?_) (fun K hK => ?_) (fun K hK => ?_)
           ·skip
            refine goes_ Try.func14 (by kernel_rfl) rfl #[.agg #[.int .u64 t137, .int .u64 t138], .agg #[.int .u64 a1_0, .int .u64 a1_1]] (by rfl) rfl rfl (by (try simp only [List.map_toArray, List.map_cons, List.map_nil]); first | done | rfl | (simp only [List.length_drop, List.length_take]; rfl)) ?_
            with_reducible refine (limb_Mul.calls t137 t138 a1_0 a1_1 t151 t152 t153 t154 _ A27.out).mono ?_
            rintro e w62 ⟨rfl, hb⟩
            refine ⟨_, rfl, ?_⟩
            have n0_ := Aside0.mk (bB (g := gb135) (o := .cells #[.int .u64 a0_0, .int .u64 a0_1, .int .u64 a0_2, .int .u64 a0_3] 26 (0, 0)) (by (with_reducible repeat (first | refine bN ?_ _ | refine bD ?_ | refine bL ?_ _)); exact BK135.out) hb)
            have n1_ := Aside0.mk (bB (g := gb136) (o := .cells #[.int .u64 a1_0, .int .u64 a1_1] 24 (0, 0)) (by (with_reducible repeat (first | refine bN ?_ _ | refine bD ?_ | refine bL ?_ _)); exact BK136.out) hb)
            have n2_ := Aside0.mk (bB (g := gb144) (o := .cells #[.int .u64 t137, .int .u64 t138, .int .u64 t139, .int .u64 t140] 26 (0, 0)) (by (with_reducible repeat (first | refine bN ?_ _ | refine bD ?_ | refine bL ?_ _)); exact BK144.out) hb)
            have n3_ := Aside0.mk (bB (g := gb145) (o := .cells #[.int .u64 t141, .int .u64 t142] 24 (0, 0)) (by (with_reducible repeat (first | refine bN ?_ _ | refine bD ?_ | refine bL ?_ _)); exact BK145.out) hb)
            have n4_ := Aside0.mk (below_step (by repeat (first | (with_reducible first | exact HB.out | apply below_alloc | apply pN | apply dI | refine below_set ?_ GE135.out | refine below_set ?_ GE136.out | refine below_set ?_ GE144.out | refine below_set ?_ GE145.out) | exact HB.out)) hb)
            clear BK135
            clear BK136
            clear BK144
            clear BK145
            clear HB
            have BK135 := n0_
            have BK136 := n1_
            have BK144 := n2_
            have BK145 := n3_
            have HB := n4_
            clear n0_ n1_ n2_ n3_ n4_
            (try clear hb)
            (try clear hb2)
            (try clear hk)
            (try clear hi)
            refine hK.out _ _ ⟨(bC BK144.out 0).trans rfl, (bC BK144.out 1).trans rfl, (bC BK144.out 2).trans rfl, (bC BK144.out 3).trans rfl, (bC BK136.out 0).trans rfl, (bC BK136.out 1).trans rfl⟩ (fun hHeld => ?_)
            clear hK K
            refine norm_ (a' := ?_) ?_ ?_
            rotate_left
            ·show Act.put _ (some 50) _ = _
             simp only [Act.put, List.setIfInBounds_toArray, List.set_cons_zero, List.set_cons_succ, i64_w, i32_w]
             rfl
            exact norm_ (by first | (simp only [putAll, Act.put, List.setIfInBounds_toArray, List.set_cons_zero, List.set_cons_succ]; done) | (simp only [putAll, Act.put, List.setIfInBounds_toArray, List.set_cons_zero, List.set_cons_succ]; rfl)) (hJ3_7 () _ ⟨hHeld, (by (with_reducible repeat (first | refine bN ?_ _ | refine bD ?_ | refine bL ?_ _)); exact BK135.out), (by (with_reducible repeat (first | refine bN ?_ _ | refine bD ?_ | refine bL ?_ _)); exact BK136.out), (by (with_reducible repeat (first | refine bN ?_ _ | refine bD ?_ | refine bL ?_ _)); exact BK144.out), (by (with_reducible repeat (first | refine bN ?_ _ | refine bD ?_ | refine bL ?_ _)); exact BK145.out), (by repeat (first | (with_reducible first | exact HB.out | apply below_alloc | apply pN | apply dI | refine below_set ?_ GE135.out | refine below_set ?_ GE136.out | refine below_set ?_ GE144.out | refine below_set ?_ GE145.out) | exact HB.out))⟩)
           ·skip
            refine box_step ?hg (N := 8) ?hd (cs := #[.int .u64 0, .int .u64 0, .int .u64 0, .int .u64 0]) (t := 26) ?hr ?_; (case hd => rfl); (case hg => rfl); (case hr => first | (go_simp; done) | (go_simp; rfl))
            intro gb155 hg w62 hbox hb
            have n0_ := Aside0.mk (bB (g := gb135) (o := .cells #[.int .u64 a0_0, .int .u64 a0_1, .int .u64 a0_2, .int .u64 a0_3] 26 (0, 0)) (by (with_reducible repeat (first | refine bN ?_ _ | refine bD ?_ | refine bL ?_ _)); exact BK135.out) hb)
            have n1_ := Aside0.mk (bB (g := gb136) (o := .cells #[.int .u64 a1_0, .int .u64 a1_1] 24 (0, 0)) (by (with_reducible repeat (first | refine bN ?_ _ | refine bD ?_ | refine bL ?_ _)); exact BK136.out) hb)
            have n2_ := Aside0.mk (bB (g := gb144) (o := .cells #[.int .u64 t137, .int .u64 t138, .int .u64 t139, .int .u64 t140] 26 (0, 0)) (by (with_reducible repeat (first | refine bN ?_ _ | refine bD ?_ | refine bL ?_ _)); exact BK144.out) hb)
            have n3_ := Aside0.mk (bB (g := gb145) (o := .cells #[.int .u64 t141, .int .u64 t142] 24 (0, 0)) (by (with_reducible repeat (first | refine bN ?_ _ | refine bD ?_ | refine bL ?_ _)); exact BK145.out) hb)
            have n4_ := Aside0.mk (below_step (by repeat (first | (with_reducible first | exact HB.out | apply below_alloc | apply pN | apply dI | refine below_set ?_ GE135.out | refine below_set ?_ GE136.out | refine below_set ?_ GE144.out | refine below_set ?_ GE145.out) | exact HB.out)) hb)
            have n5_ := Aside0.mk (hbox)
            have n6_ := Aside0.mk ((by rw [hg]; exact (below_size (by repeat (first | (with_reducible first | exact HB.out | apply below_alloc | apply pN | apply dI | refine below_set ?_ GE135.out | refine below_set ?_ GE136.out | refine below_set ?_ GE144.out | refine below_set ?_ GE145.out) | exact HB.out))) : w.heap.size ≤ gb155))
            have n7_ := Aside0.mk ((by rw [hg]; exact (below_size (by repeat (first | (with_reducible first | exact HB.out | apply below_alloc | apply pN | apply dI | refine below_set ?_ GE135.out | refine below_set ?_ GE136.out | refine below_set ?_ GE144.out | refine below_set ?_ GE145.out) | exact HB.out))) : w.heap.size ≤ gb155))
            have n8_ := Aside0.mk ((by rw [hg]; exact Nat.ne_of_lt (blk_lt (g := gb135) (o := .cells #[.int .u64 a0_0, .int .u64 a0_1, .int .u64 a0_2, .int .u64 a0_3] 26 (0, 0)) (by (with_reducible repeat (first | refine bN ?_ _ | refine bD ?_ | refine bL ?_ _)); exact BK135.out)) : gb135 ≠ gb155))
            have n9_ := Aside0.mk ((by rw [hg]; exact Nat.ne_of_gt (blk_lt (g := gb135) (o := .cells #[.int .u64 a0_0, .int .u64 a0_1, .int .u64 a0_2, .int .u64 a0_3] 26 (0, 0)) (by (with_reducible repeat (first | refine bN ?_ _ | refine bD ?_ | refine bL ?_ _)); exact BK135.out)) : gb155 ≠ gb135))
            have n10_ := Aside0.mk ((by rw [hg]; exact Nat.ne_of_lt (blk_lt (g := gb136) (o := .cells #[.int .u64 a1_0, .int .u64 a1_1] 24 (0, 0)) (by (with_reducible repeat (first | refine bN ?_ _ | refine bD ?_ | refine bL ?_ _)); exact BK136.out)) : gb136 ≠ gb155))
            have n11_ := Aside0.mk ((by rw [hg]; exact Nat.ne_of_gt (blk_lt (g := gb136) (o := .cells #[.int .u64 a1_0, .int .u64 a1_1] 24 (0, 0)) (by (with_reducible repeat (first | refine bN ?_ _ | refine bD ?_ | refine bL ?_ _)); exact BK136.out)) : gb155 ≠ gb136))
            have n12_ := Aside0.mk ((by rw [hg]; exact Nat.ne_of_lt (blk_lt (g := gb144) (o := .cells #[.int .u64 t137, .int .u64 t138, .int .u64 t139, .int .u64 t140] 26 (0, 0)) (by (with_reducible repeat (first | refine bN ?_ _ | refine bD ?_ | refine bL ?_ _)); exact BK144.out)) : gb144 ≠ gb155))
            have n13_ := Aside0.mk ((by rw [hg]; exact Nat.ne_of_gt (blk_lt (g := gb144) (o := .cells #[.int .u64 t137, .int .u64 t138, .int .u64 t139, .int .u64 t140] 26 (0, 0)) (by (with_reducible repeat (first | refine bN ?_ _ | refine bD ?_ | refine bL ?_ _)); exact BK144.out)) : gb155 ≠ gb144))
            have n14_ := Aside0.mk ((by rw [hg]; exact Nat.ne_of_lt (blk_lt (g := gb145) (o := .cells #[.int .u64 t141, .int .u64 t142] 24 (0, 0)) (by (with_reducible repeat (first | refine bN ?_ _ | refine bD ?_ | refine bL ?_ _)); exact BK145.out)) : gb145 ≠ gb155))
            have n15_ := Aside0.mk ((by rw [hg]; exact Nat.ne_of_gt (blk_lt (g := gb145) (o := .cells #[.int .u64 t141, .int .u64 t142] 24 (0, 0)) (by (with_reducible repeat (first | refine bN ?_ _ | refine bD ?_ | refine bL ?_ _)); exact BK145.out)) : gb155 ≠ gb145))
            clear BK135
            clear BK136
            clear BK144
            clear BK145
            clear HB
            have BK135 := n0_
            have BK136 := n1_
            have BK144 := n2_
            have BK145 := n3_
            have HB := n4_
            have BK155 := n5_
            have GW155 := n6_
            have GE155 := n7_
            have NB135_155 := n8_
            have NB155_135 := n9_
            have NB136_155 := n10_
            have NB155_136 := n11_
            have NB144_155 := n12_
            have NB155_144 := n13_
            have NB145_155 := n14_
            have NB155_145 := n15_
            clear n0_ n1_ n2_ n3_ n4_ n5_ n6_ n7_ n8_ n9_ n10_ n11_ n12_ n13_ n14_ n15_
            clear hb hbox hg
            refine hK.out _ _ ⟨(bC BK144.out 0).trans rfl, (bC BK144.out 1).trans rfl, (bC BK144.out 2).trans rfl, (bC BK144.out 3).trans rfl, (bC BK136.out 0).trans rfl, (bC BK136.out 1).trans rfl⟩ (fun hHeld => ?_)
            clear hK K
            refine norm_ (a' := ?_) ?_ ?_
            rotate_left
            ·show Act.put _ (some 8) _ = _
             simp only [Act.put, List.setIfInBounds_toArray, List.set_cons_zero, List.set_cons_succ, i64_w, i32_w]
             rfl
            exact norm_ (by first | (simp only [putAll, Act.put, List.setIfInBounds_toArray, List.set_cons_zero, List.set_cons_succ]; done) | (simp only [putAll, Act.put, List.setIfInBounds_toArray, List.set_cons_zero, List.set_cons_succ]; rfl)) (hJ3_8 (gb155) _ ⟨hHeld, (by (with_reducible repeat (first | refine bN ?_ _ | refine bD ?_ | refine bL ?_ _)); exact BK135.out), (by (with_reducible repeat (first | refine bN ?_ _ | refine bD ?_ | refine bL ?_ _)); exact BK136.out), (by (with_reducible repeat (first | refine bN ?_ _ | refine bD ?_ | refine bL ?_ _)); exact BK144.out), (by (with_reducible repeat (first | refine bN ?_ _ | refine bD ?_ | refine bL ?_ _)); exact BK145.out), (by (with_reducible repeat (first | refine bN ?_ _ | refine bD ?_ | refine bL ?_ _)); exact BK155.out), GW155.out, GE155.out, NB135_155.out, NB155_135.out, NB136_155.out, NB155_136.out, NB144_155.out, NB155_144.out, NB145_155.out, NB155_145.out, (by repeat (first | (with_reducible first | exact HB.out | apply below_alloc | apply pN | apply dI | refine below_set ?_ GE135.out | refine below_set ?_ GE136.out | refine below_set ?_ GE144.out | refine below_set ?_ GE145.out | refine below_set ?_ GE155.out) | exact HB.out))⟩)
           ·skip
            refine box_step ?hg (N := 9) ?hd (cs := #[.int .u64 0, .int .u64 0, .int .u64 0, .int .u64 0]) (t := 26) ?hr ?_; (case hd => rfl); (case hg => rfl); (case hr => first | (go_simp; done) | (go_simp; rfl))
            intro gb156 hg w62 hbox hb
            have n0_ := Aside0.mk (bB (g := gb135) (o := .cells #[.int .u64 a0_0, .int .u64 a0_1, .int .u64 a0_2, .int .u64 a0_3] 26 (0, 0)) (by (with_reducible repeat (first | refine bN ?_ _ | refine bD ?_ | refine bL ?_ _)); exact BK135.out) hb)
            have n1_ := Aside0.mk (bB (g := gb136) (o := .cells #[.int .u64 a1_0, .int .u64 a1_1] 24 (0, 0)) (by (with_reducible repeat (first | refine bN ?_ _ | refine bD ?_ | refine bL ?_ _)); exact BK136.out) hb)
            have n2_ := Aside0.mk (bB (g := gb144) (o := .cells #[.int .u64 t137, .int .u64 t138, .int .u64 t139, .int .u64 t140] 26 (0, 0)) (by (with_reducible repeat (first | refine bN ?_ _ | refine bD ?_ | refine bL ?_ _)); exact BK144.out) hb)
            have n3_ := Aside0.mk (bB (g := gb145) (o := .cells #[.int .u64 t141, .int .u64 t142] 24 (0, 0)) (by (with_reducible repeat (first | refine bN ?_ _ | refine bD ?_ | refine bL ?_ _)); exact BK145.out) hb)
            have n4_ := Aside0.mk (below_step (by repeat (first | (with_reducible first | exact HB.out | apply below_alloc | apply pN | apply dI | refine below_set ?_ GE135.out | refine below_set ?_ GE136.out | refine below_set ?_ GE144.out | refine below_set ?_ GE145.out) | exact HB.out)) hb)
            have n5_ := Aside0.mk (hbox)
            have n6_ := Aside0.mk ((by rw [hg]; exact (below_size (by repeat (first | (with_reducible first | exact HB.out | apply below_alloc | apply pN | apply dI | refine below_set ?_ GE135.out | refine below_set ?_ GE136.out | refine below_set ?_ GE144.out | refine below_set ?_ GE145.out) | exact HB.out))) : w.heap.size ≤ gb156))
            have n7_ := Aside0.mk ((by rw [hg]; exact (below_size (by repeat (first | (with_reducible first | exact HB.out | apply below_alloc | apply pN | apply dI | refine below_set ?_ GE135.out | refine below_set ?_ GE136.out | refine below_set ?_ GE144.out | refine below_set ?_ GE145.out) | exact HB.out))) : w.heap.size ≤ gb156))
            have n8_ := Aside0.mk ((by rw [hg]; exact Nat.ne_of_lt (blk_lt (g := gb135) (o := .cells #[.int .u64 a0_0, .int .u64 a0_1, .int .u64 a0_2, .int .u64 a0_3] 26 (0, 0)) (by (with_reducible repeat (first | refine bN ?_ _ | refine bD ?_ | refine bL ?_ _)); exact BK135.out)) : gb135 ≠ gb156))
            have n9_ := Aside0.mk ((by rw [hg]; exact Nat.ne_of_gt (blk_lt (g := gb135) (o := .cells #[.int .u64 a0_0, .int .u64 a0_1, .int .u64 a0_2, .int .u64 a0_3] 26 (0, 0)) (by (with_reducible repeat (first | refine bN ?_ _ | refine bD ?_ | refine bL ?_ _)); exact BK135.out)) : gb156 ≠ gb135))
            have n10_ := Aside0.mk ((by rw [hg]; exact Nat.ne_of_lt (blk_lt (g := gb136) (o := .cells #[.int .u64 a1_0, .int .u64 a1_1] 24 (0, 0)) (by (with_reducible repeat (first | refine bN ?_ _ | refine bD ?_ | refine bL ?_ _)); exact BK136.out)) : gb136 ≠ gb156))
            have n11_ := Aside0.mk ((by rw [hg]; exact Nat.ne_of_gt (blk_lt (g := gb136) (o := .cells #[.int .u64 a1_0, .int .u64 a1_1] 24 (0, 0)) (by (with_reducible repeat (first | refine bN ?_ _ | refine bD ?_ | refine bL ?_ _)); exact BK136.out)) : gb156 ≠ gb136))
            have n12_ := Aside0.mk ((by rw [hg]; exact Nat.ne_of_lt (blk_lt (g := gb144) (o := .cells #[.int .u64 t137, .int .u64 t138, .int .u64 t139, .int .u64 t140] 26 (0, 0)) (by (with_reducible repeat (first | refine bN ?_ _ | refine bD ?_ | refine bL ?_ _)); exact BK144.out)) : gb144 ≠ gb156))
            have n13_ := Aside0.mk ((by rw [hg]; exact Nat.ne_of_gt (blk_lt (g := gb144) (o := .cells #[.int .u64 t137, .int .u64 t138, .int .u64 t139, .int .u64 t140] 26 (0, 0)) (by (with_reducible repeat (first | refine bN ?_ _ | refine bD ?_ | refine bL ?_ _)); exact BK144.out)) : gb156 ≠ gb144))
            have n14_ := Aside0.mk ((by rw [hg]; exact Nat.ne_of_lt (blk_lt (g := gb145) (o := .cells #[.int .u64 t141, .int .u64 t142] 24 (0, 0)) (by (with_reducible repeat (first | refine bN ?_ _ | refine bD ?_ | refine bL ?_ _)); exact BK145.out)) : gb145 ≠ gb156))
            have n15_ := Aside0.mk ((by rw [hg]; exact Nat.ne_of_gt (blk_lt (g := gb145) (o := .cells #[.int .u64 t141, .int .u64 t142] 24 (0, 0)) (by (with_reducible repeat (first | refine bN ?_ _ | refine bD ?_ | refine bL ?_ _)); exact BK145.out)) : gb156 ≠ gb145))
            clear BK135
            clear BK136
            clear BK144
            clear BK145
            clear HB
            have BK135 := n0_
            have BK136 := n1_
            have BK144 := n2_
            have BK145 := n3_
            have HB := n4_
            have BK156 := n5_
            have GW156 := n6_
            have GE156 := n7_
            have NB135_156 := n8_
            have NB156_135 := n9_
            have NB136_156 := n10_
            have NB156_136 := n11_
            have NB144_156 := n12_
            have NB156_144 := n13_
            have NB145_156 := n14_
            have NB156_145 := n15_
            clear n0_ n1_ n2_ n3_ n4_ n5_ n6_ n7_ n8_ n9_ n10_ n11_ n12_ n13_ n14_ n15_
            clear hb hbox hg
            refine hK.out _ _ ⟨(bC BK144.out 0).trans rfl, (bC BK144.out 1).trans rfl, (bC BK144.out 2).trans rfl, (bC BK144.out 3).trans rfl, (bC BK136.out 0).trans rfl, (bC BK136.out 1).trans rfl⟩ (fun hHeld => ?_)
            clear hK K
            refine norm_ (a' := ?_) ?_ ?_
            rotate_left
            ·show Act.put _ (some 9) _ = _
             simp only [Act.put, List.setIfInBounds_toArray, List.set_cons_zero, List.set_cons_succ, i64_w, i32_w]
             rfl
            exact norm_ (by first | (simp only [putAll, Act.put, List.setIfInBounds_toArray, List.set_cons_zero, List.set_cons_succ]; done) | (simp only [putAll, Act.put, List.setIfInBounds_toArray, List.set_cons_zero, List.set_cons_succ]; rfl)) (hJ3_9 (gb156) _ ⟨hHeld, (by (with_reducible repeat (first | refine bN ?_ _ | refine bD ?_ | refine bL ?_ _)); exact BK135.out), (by (with_reducible repeat (first | refine bN ?_ _ | refine bD ?_ | refine bL ?_ _)); exact BK136.out), (by (with_reducible repeat (first | refine bN ?_ _ | refine bD ?_ | refine bL ?_ _)); exact BK144.out), (by (with_reducible repeat (first | refine bN ?_ _ | refine bD ?_ | refine bL ?_ _)); exact BK145.out), (by (with_reducible repeat (first | refine bN ?_ _ | refine bD ?_ | refine bL ?_ _)); exact BK156.out), GW156.out, GE156.out, NB135_156.out, NB156_135.out, NB136_156.out, NB156_136.out, NB144_156.out, NB156_144.out, NB145_156.out, NB156_145.out, (by repeat (first | (with_reducible first | exact HB.out | apply below_alloc | apply pN | apply dI | refine below_set ?_ GE135.out | refine below_set ?_ GE136.out | refine below_set ?_ GE144.out | refine below_set ?_ GE145.out | refine below_set ?_ GE156.out) | exact HB.out))⟩)
         ·skip
          rintro ⟨gb155, gb156⟩ w62 ⟨hS_, h0_, h1_, h2_, h3_, h4_, h5_, h6_, h7_, h8_, h9_, h10_, h11_, h12_, h13_, h14_, h15_, h16_, h17_, h18_, h19_, h20_, h21_, h22_, h23_, h24_, h25_, h26_, h27_, h28_⟩
          have n0_ : Aside0 (w62.heap[gb135]? = some (.cells #[.int .u64 a0_0, .int .u64 a0_1, .int .u64 a0_2, .int .u64 a0_3] 26 (0, 0))) := ⟨h0_⟩
          have n1_ : Aside0 (w62.heap[gb136]? = some (.cells #[.int .u64 a1_0, .int .u64 a1_1] 24 (0, 0))) := ⟨h1_⟩
          have n2_ : Aside0 (w62.heap[gb144]? = some (.cells #[.int .u64 t137, .int .u64 t138, .int .u64 t139, .int .u64 t140] 26 (0, 0))) := ⟨h2_⟩
          have n3_ : Aside0 (w62.heap[gb145]? = some (.cells #[.int .u64 t141, .int .u64 t142] 24 (0, 0))) := ⟨h3_⟩
          have n4_ : Aside0 (w62.heap[gb155]? = some (.cells #[.int .u64 0, .int .u64 0, .int .u64 0, .int .u64 0] 26 (0, 0))) := ⟨h4_⟩
          have n5_ : Aside0 (w62.heap[gb156]? = some (.cells #[.int .u64 0, .int .u64 0, .int .u64 0, .int .u64 0] 26 (0, 0))) := ⟨h5_⟩
          have n6_ : Aside0 (w.heap.size ≤ gb155) := ⟨h6_⟩
          have n7_ : Aside0 (w.heap.size ≤ gb155) := ⟨h7_⟩
          have n8_ : Aside0 (gb135 ≠ gb155) := ⟨h8_⟩
          have n9_ : Aside0 (gb155 ≠ gb135) := ⟨h9_⟩
          have n10_ : Aside0 (gb136 ≠ gb155) := ⟨h10_⟩
          have n11_ : Aside0 (gb155 ≠ gb136) := ⟨h11_⟩
          have n12_ : Aside0 (gb144 ≠ gb155) := ⟨h12_⟩
          have n13_ : Aside0 (gb155 ≠ gb144) := ⟨h13_⟩
          have n14_ : Aside0 (gb145 ≠ gb155) := ⟨h14_⟩
          have n15_ : Aside0 (gb155 ≠ gb145) := ⟨h15_⟩
          have n16_ : Aside0 (gb156 ≠ gb155) := ⟨h16_⟩
          have n17_ : Aside0 (gb155 ≠ gb156) := ⟨h17_⟩
          have n18_ : Aside0 (w.heap.size ≤ gb156) := ⟨h18_⟩
          have n19_ : Aside0 (w.heap.size ≤ gb156) := ⟨h19_⟩
          have n20_ : Aside0 (gb135 ≠ gb156) := ⟨h20_⟩
          have n21_ : Aside0 (gb156 ≠ gb135) := ⟨h21_⟩
          have n22_ : Aside0 (gb136 ≠ gb156) := ⟨h22_⟩
          have n23_ : Aside0 (gb156 ≠ gb136) := ⟨h23_⟩
          have n24_ : Aside0 (gb144 ≠ gb156) := ⟨h24_⟩
          have n25_ : Aside0 (gb156 ≠ gb144) := ⟨h25_⟩
          have n26_ : Aside0 (gb145 ≠ gb156) := ⟨h26_⟩
          have n27_ : Aside0 (gb156 ≠ gb145) := ⟨h27_⟩
          have n28_ : Aside0 (Below w.heap.size w w62) := ⟨h28_⟩
          clear BK135
          clear BK136
          clear BK144
          clear BK145
          clear HB
          clear h0_ h1_ h2_ h3_ h4_ h5_ h6_ h7_ h8_ h9_ h10_ h11_ h12_ h13_ h14_ h15_ h16_ h17_ h18_ h19_ h20_ h21_ h22_ h23_ h24_ h25_ h26_ h27_ h28_
          have BK135 := n0_
          have BK136 := n1_
          have BK144 := n2_
          have BK145 := n3_
          have BK155 := n4_
          have BK156 := n5_
          have GW155 := n6_
          have GE155 := n7_
          have NB135_155 := n8_
          have NB155_135 := n9_
          have NB136_155 := n10_
          have NB155_136 := n11_
          have NB144_155 := n12_
          have NB155_144 := n13_
          have NB145_155 := n14_
          have NB155_145 := n15_
          have NB156_155 := n16_
          have NB155_156 := n17_
          have GW156 := n18_
          have GE156 := n19_
          have NB135_156 := n20_
          have NB156_135 := n21_
          have NB136_156 := n22_
          have NB156_136 := n23_
          have NB144_156 := n24_
          have NB156_144 := n25_
          have NB145_156 := n26_
          have NB156_145 := n27_
          have HB := n28_
          clear n0_ n1_ n2_ n3_ n4_ n5_ n6_ n7_ n8_ n9_ n10_ n11_ n12_ n13_ n14_ n15_ n16_ n17_ n18_ n19_ n20_ n21_ n22_ n23_ n24_ n25_ n26_ n27_ n28_
          have hHeld : w62.cell? ⟨gb144, 0, none⟩ = some (.int .u64 t137) ∧ w62.cell? ⟨gb144, 1, none⟩ = some (.int .u64 t138) ∧ w62.cell? ⟨gb144, 2, none⟩ = some (.int .u64 t139) ∧ w62.cell? ⟨gb144, 3, none⟩ = some (.int .u64 t140) ∧ w62.cell? ⟨gb136, 0, none⟩ = some (.int .u64 a1_0) ∧ w62.cell? ⟨gb136, 1, none⟩ = some (.int .u64 a1_1) := hS_
          refine norm_ (a' := ?_) ?_ ?_
          rotate_left
          ·simp only [putAll, Act.put, List.setIfInBounds_toArray, List.set_cons_zero, List.set_cons_succ]
           rfl
          refine one_ (i := 3) (N := some 46) (bA 12 895) rfl rfl (one_of HT_.out (by kernel_rfl)) (by decide) (fun K hK => ?_)
          refine goes_ Try.func14 (by kernel_rfl) rfl #[.agg #[.int .u64 t139, .int .u64 t140], .agg #[.int .u64 a1_0, .int .u64 a1_1]] (by rfl) rfl rfl (by (try simp only [List.map_toArray, List.map_cons, List.map_nil]); first | done | rfl | (simp only [List.length_drop, List.length_take]; rfl)) ?_
          with_reducible refine (limb_Mul.calls t139 t140 a1_0 a1_1 t147 t148 t149 t150 _ A26.out).mono ?_
          rintro e w63 ⟨rfl, hb⟩
          refine ⟨_, rfl, ?_⟩
          have n0_ := Aside0.mk (bB (g := gb135) (o := .cells #[.int .u64 a0_0, .int .u64 a0_1, .int .u64 a0_2, .int .u64 a0_3] 26 (0, 0)) (by (with_reducible repeat (first | refine bN ?_ _ | refine bD ?_ | refine bL ?_ _)); exact BK135.out) hb)
          have n1_ := Aside0.mk (bB (g := gb136) (o := .cells #[.int .u64 a1_0, .int .u64 a1_1] 24 (0, 0)) (by (with_reducible repeat (first | refine bN ?_ _ | refine bD ?_ | refine bL ?_ _)); exact BK136.out) hb)
          have n2_ := Aside0.mk (bB (g := gb144) (o := .cells #[.int .u64 t137, .int .u64 t138, .int .u64 t139, .int .u64 t140] 26 (0, 0)) (by (with_reducible repeat (first | refine bN ?_ _ | refine bD ?_ | refine bL ?_ _)); exact BK144.out) hb)
          have n3_ := Aside0.mk (bB (g := gb145) (o := .cells #[.int .u64 t141, .int .u64 t142] 24 (0, 0)) (by (with_reducible repeat (first | refine bN ?_ _ | refine bD ?_ | refine bL ?_ _)); exact BK145.out) hb)
          have n4_ := Aside0.mk (bB (g := gb155) (o := .cells #[.int .u64 0, .int .u64 0, .int .u64 0, .int .u64 0] 26 (0, 0)) (by (with_reducible repeat (first | refine bN ?_ _ | refine bD ?_ | refine bL ?_ _)); exact BK155.out) hb)
          have n5_ := Aside0.mk (bB (g := gb156) (o := .cells #[.int .u64 0, .int .u64 0, .int .u64 0, .int .u64 0] 26 (0, 0)) (by (with_reducible repeat (first | refine bN ?_ _ | refine bD ?_ | refine bL ?_ _)); exact BK156.out) hb)
          have n6_ := Aside0.mk (below_step (by repeat (first | (with_reducible first | exact HB.out | apply below_alloc | apply pN | apply dI | refine below_set ?_ GE135.out | refine below_set ?_ GE136.out | refine below_set ?_ GE144.out | refine below_set ?_ GE145.out | refine below_set ?_ GE155.out | refine below_set ?_ GE156.out) | exact HB.out)) hb)
          clear BK135
          clear BK136
          clear BK144
          clear BK145
          clear BK155
          clear BK156
          clear HB
          have BK135 := n0_
          have BK136 := n1_
          have BK144 := n2_
          have BK145 := n3_
          have BK155 := n4_
          have BK156 := n5_
          have HB := n6_
          clear n0_ n1_ n2_ n3_ n4_ n5_ n6_
          (try clear hb)
          (try clear hb2)
          (try clear hk)
          (try clear hi)
          refine hK.out _ _ ⟨(bC BK144.out 0).trans rfl, (bC BK144.out 1).trans rfl, (bC BK144.out 2).trans rfl, (bC BK144.out 3).trans rfl, (bC BK136.out 0).trans rfl, (bC BK136.out 1).trans rfl⟩ (fun hHeld => ?_)
          clear hK K
          refine norm_ (a' := ?_) ?_ ?_
          rotate_left
          ·show Act.put _ (some 46) _ = _
           simp only [Act.put, List.setIfInBounds_toArray, List.set_cons_zero, List.set_cons_succ, i64_w, i32_w]
           rfl
          exact norm_ (by first | (simp only [putAll, Act.put, List.setIfInBounds_toArray, List.set_cons_zero, List.set_cons_succ]; done) | (simp only [putAll, Act.put, List.setIfInBounds_toArray, List.set_cons_zero, List.set_cons_succ]; rfl)) (hJ3_8_9 (gb155, gb156) _ ⟨hHeld, (by (with_reducible repeat (first | refine bN ?_ _ | refine bD ?_ | refine bL ?_ _)); exact BK135.out), (by (with_reducible repeat (first | refine bN ?_ _ | refine bD ?_ | refine bL ?_ _)); exact BK136.out), (by (with_reducible repeat (first | refine bN ?_ _ | refine bD ?_ | refine bL ?_ _)); exact BK144.out), (by (with_reducible repeat (first | refine bN ?_ _ | refine bD ?_ | refine bL ?_ _)); exact BK145.out), (by (with_reducible repeat (first | refine bN ?_ _ | refine bD ?_ | refine bL ?_ _)); exact BK155.out), (by (with_reducible repeat (first | refine bN ?_ _ | refine bD ?_ | refine bL ?_ _)); exact BK156.out), GW155.out, GE155.out, NB135_155.out, NB155_135.out, NB136_155.out, NB155_136.out, NB144_155.out, NB155_144.out, NB145_155.out, NB155_145.out, NB156_155.out, NB155_156.out, GW156.out, GE156.out, NB135_156.out, NB156_135.out, NB136_156.out, NB156_136.out, NB144_156.out, NB156_144.out, NB145_156.out, NB156_145.out, (by repeat (first | (with_reducible first | exact HB.out | apply below_alloc | apply pN | apply dI | refine below_set ?_ GE135.out | refine below_set ?_ GE136.out | refine below_set ?_ GE144.out | refine below_set ?_ GE145.out | refine below_set ?_ GE155.out | refine below_set ?_ GE156.out) | exact HB.out))⟩)
        ·skip
         rintro gb156 w62 ⟨hS_, h0_, h1_, h2_, h3_, h4_, h5_, h6_, h7_, h8_, h9_, h10_, h11_, h12_, h13_, h14_, h15_⟩
         have n0_ : Aside0 (w62.heap[gb135]? = some (.cells #[.int .u64 a0_0, .int .u64 a0_1, .int .u64 a0_2, .int .u64 a0_3] 26 (0, 0))) := ⟨h0_⟩
         have n1_ : Aside0 (w62.heap[gb136]? = some (.cells #[.int .u64 a1_0, .int .u64 a1_1] 24 (0, 0))) := ⟨h1_⟩
         have n2_ : Aside0 (w62.heap[gb144]? = some (.cells #[.int .u64 t137, .int .u64 t138, .int .u64 t139, .int .u64 t140] 26 (0, 0))) := ⟨h2_⟩
         have n3_ : Aside0 (w62.heap[gb145]? = some (.cells #[.int .u64 t141, .int .u64 t142] 24 (0, 0))) := ⟨h3_⟩
         have n4_ : Aside0 (w62.heap[gb156]? = some (.cells #[.int .u64 0, .int .u64 0, .int .u64 0, .int .u64 0] 26 (0, 0))) := ⟨h4_⟩
         have n5_ : Aside0 (w.heap.size ≤ gb156) := ⟨h5_⟩
         have n6_ : Aside0 (w.heap.size ≤ gb156) := ⟨h6_⟩
         have n7_ : Aside0 (gb135 ≠ gb156) := ⟨h7_⟩
         have n8_ : Aside0 (gb156 ≠ gb135) := ⟨h8_⟩
         have n9_ : Aside0 (gb136 ≠ gb156) := ⟨h9_⟩
         have n10_ : Aside0 (gb156 ≠ gb136) := ⟨h10_⟩
         have n11_ : Aside0 (gb144 ≠ gb156) := ⟨h11_⟩
         have n12_ : Aside0 (gb156 ≠ gb144) := ⟨h12_⟩
         have n13_ : Aside0 (gb145 ≠ gb156) := ⟨h13_⟩
         have n14_ : Aside0 (gb156 ≠ gb145) := ⟨h14_⟩
         have n15_ : Aside0 (Below w.heap.size w w62) := ⟨h15_⟩
         clear BK135
         clear BK136
         clear BK144
         clear BK145
         clear HB
         clear h0_ h1_ h2_ h3_ h4_ h5_ h6_ h7_ h8_ h9_ h10_ h11_ h12_ h13_ h14_ h15_
         have BK135 := n0_
         have BK136 := n1_
         have BK144 := n2_
         have BK145 := n3_
         have BK156 := n4_
         have GW156 := n5_
         have GE156 := n6_
         have NB135_156 := n7_
         have NB156_135 := n8_
         have NB136_156 := n9_
         have NB156_136 := n10_
         have NB144_156 := n11_
         have NB156_144 := n12_
         have NB145_156 := n13_
         have NB156_145 := n14_
         have HB := n15_
         clear n0_ n1_ n2_ n3_ n4_ n5_ n6_ n7_ n8_ n9_ n10_ n11_ n12_ n13_ n14_ n15_
         have hHeld : w62.cell? ⟨gb144, 0, none⟩ = some (.int .u64 t137) ∧ w62.cell? ⟨gb144, 1, none⟩ = some (.int .u64 t138) ∧ w62.cell? ⟨gb144, 2, none⟩ = some (.int .u64 t139) ∧ w62.cell? ⟨gb144, 3, none⟩ = some (.int .u64 t140) ∧ w62.cell? ⟨gb136, 0, none⟩ = some (.int .u64 a1_0) ∧ w62.cell? ⟨gb136, 1, none⟩ = some (.int .u64 a1_1) := hS_
         refine norm_ (a' := ?_) ?_ ?_
         rotate_left
         ·simp only [putAll, Act.put, List.setIfInBounds_toArray, List.set_cons_zero, List.set_cons_succ]
          rfl
         refine two_ (i := 7) (j := 8) (Ni := some 50) (Nj := some 8) (bA 12 767) (bA 12 895) rfl rfl rfl rfl (two_of HT_.out (by kernel_rfl)) (by decide) (by decide) (fun K hK => ?_) (fun K hK => ?_)
         ·skip
          refine goes_ Try.func14 (by kernel_rfl) rfl #[.agg #[.int .u64 t137, .int .u64 t138], .agg #[.int .u64 a1_0, .int .u64 a1_1]] (by rfl) rfl rfl (by (try simp only [List.map_toArray, List.map_cons, List.map_nil]); first | done | rfl | (simp only [List.length_drop, List.length_take]; rfl)) ?_
          with_reducible refine (limb_Mul.calls t137 t138 a1_0 a1_1 t151 t152 t153 t154 _ A27.out).mono ?_
          rintro e w63 ⟨rfl, hb⟩
          refine ⟨_, rfl, ?_⟩
          have n0_ := Aside0.mk (bB (g := gb135) (o := .cells #[.int .u64 a0_0, .int .u64 a0_1, .int .u64 a0_2, .int .u64 a0_3] 26 (0, 0)) (by (with_reducible repeat (first | refine bN ?_ _ | refine bD ?_ | refine bL ?_ _)); exact BK135.out) hb)
          have n1_ := Aside0.mk (bB (g := gb136) (o := .cells #[.int .u64 a1_0, .int .u64 a1_1] 24 (0, 0)) (by (with_reducible repeat (first | refine bN ?_ _ | refine bD ?_ | refine bL ?_ _)); exact BK136.out) hb)
          have n2_ := Aside0.mk (bB (g := gb144) (o := .cells #[.int .u64 t137, .int .u64 t138, .int .u64 t139, .int .u64 t140] 26 (0, 0)) (by (with_reducible repeat (first | refine bN ?_ _ | refine bD ?_ | refine bL ?_ _)); exact BK144.out) hb)
          have n3_ := Aside0.mk (bB (g := gb145) (o := .cells #[.int .u64 t141, .int .u64 t142] 24 (0, 0)) (by (with_reducible repeat (first | refine bN ?_ _ | refine bD ?_ | refine bL ?_ _)); exact BK145.out) hb)
          have n4_ := Aside0.mk (bB (g := gb156) (o := .cells #[.int .u64 0, .int .u64 0, .int .u64 0, .int .u64 0] 26 (0, 0)) (by (with_reducible repeat (first | refine bN ?_ _ | refine bD ?_ | refine bL ?_ _)); exact BK156.out) hb)
          have n5_ := Aside0.mk (below_step (by repeat (first | (with_reducible first | exact HB.out | apply below_alloc | apply pN | apply dI | refine below_set ?_ GE135.out | refine below_set ?_ GE136.out | refine below_set ?_ GE144.out | refine below_set ?_ GE145.out | refine below_set ?_ GE156.out) | exact HB.out)) hb)
          clear BK135
          clear BK136
          clear BK144
          clear BK145
          clear BK156
          clear HB
          have BK135 := n0_
          have BK136 := n1_
          have BK144 := n2_
          have BK145 := n3_
          have BK156 := n4_
          have HB := n5_
          clear n0_ n1_ n2_ n3_ n4_ n5_
          (try clear hb)
          (try clear hb2)
          (try clear hk)
          (try clear hi)
          refine hK.out _ _ ⟨(bC BK144.out 0).trans rfl, (bC BK144.out 1).trans rfl, (bC BK144.out 2).trans rfl, (bC BK144.out 3).trans rfl, (bC BK136.out 0).trans rfl, (bC BK136.out 1).trans rfl⟩ (fun hHeld => ?_)
          clear hK K
          refine norm_ (a' := ?_) ?_ ?_
          rotate_left
          ·show Act.put _ (some 50) _ = _
           simp only [Act.put, List.setIfInBounds_toArray, List.set_cons_zero, List.set_cons_succ, i64_w, i32_w]
           rfl
          exact norm_ (by first | (simp only [putAll, Act.put, List.setIfInBounds_toArray, List.set_cons_zero, List.set_cons_succ]; done) | (simp only [putAll, Act.put, List.setIfInBounds_toArray, List.set_cons_zero, List.set_cons_succ]; rfl)) (hJ3_7_9 (gb156) _ ⟨hHeld, (by (with_reducible repeat (first | refine bN ?_ _ | refine bD ?_ | refine bL ?_ _)); exact BK135.out), (by (with_reducible repeat (first | refine bN ?_ _ | refine bD ?_ | refine bL ?_ _)); exact BK136.out), (by (with_reducible repeat (first | refine bN ?_ _ | refine bD ?_ | refine bL ?_ _)); exact BK144.out), (by (with_reducible repeat (first | refine bN ?_ _ | refine bD ?_ | refine bL ?_ _)); exact BK145.out), (by (with_reducible repeat (first | refine bN ?_ _ | refine bD ?_ | refine bL ?_ _)); exact BK156.out), GW156.out, GE156.out, NB135_156.out, NB156_135.out, NB136_156.out, NB156_136.out, NB144_156.out, NB156_144.out, NB145_156.out, NB156_145.out, (by repeat (first | (with_reducible first | exact HB.out | apply below_alloc | apply pN | apply dI | refine below_set ?_ GE135.out | refine below_set ?_ GE136.out | refine below_set ?_ GE144.out | refine below_set ?_ GE145.out | refine below_set ?_ GE156.out) | exact HB.out))⟩)
         ·skip
          refine box_step ?hg (N := 8) ?hd (cs := #[.int .u64 0, .int .u64 0, .int .u64 0, .int .u64 0]) (t := 26) ?hr ?_; (case hd => rfl); (case hg => rfl); (case hr => first | (go_simp; done) | (go_simp; rfl))
          intro gb155 hg w63 hbox hb
          have n0_ := Aside0.mk (bB (g := gb135) (o := .cells #[.int .u64 a0_0, .int .u64 a0_1, .int .u64 a0_2, .int .u64 a0_3] 26 (0, 0)) (by (with_reducible repeat (first | refine bN ?_ _ | refine bD ?_ | refine bL ?_ _)); exact BK135.out) hb)
          have n1_ := Aside0.mk (bB (g := gb136) (o := .cells #[.int .u64 a1_0, .int .u64 a1_1] 24 (0, 0)) (by (with_reducible repeat (first | refine bN ?_ _ | refine bD ?_ | refine bL ?_ _)); exact BK136.out) hb)
          have n2_ := Aside0.mk (bB (g := gb144) (o := .cells #[.int .u64 t137, .int .u64 t138, .int .u64 t139, .int .u64 t140] 26 (0, 0)) (by (with_reducible repeat (first | refine bN ?_ _ | refine bD ?_ | refine bL ?_ _)); exact BK144.out) hb)
          have n3_ := Aside0.mk (bB (g := gb145) (o := .cells #[.int .u64 t141, .int .u64 t142] 24 (0, 0)) (by (with_reducible repeat (first | refine bN ?_ _ | refine bD ?_ | refine bL ?_ _)); exact BK145.out) hb)
          have n4_ := Aside0.mk (bB (g := gb156) (o := .cells #[.int .u64 0, .int .u64 0, .int .u64 0, .int .u64 0] 26 (0, 0)) (by (with_reducible repeat (first | refine bN ?_ _ | refine bD ?_ | refine bL ?_ _)); exact BK156.out) hb)
          have n5_ := Aside0.mk (below_step (by repeat (first | (with_reducible first | exact HB.out | apply below_alloc | apply pN | apply dI | refine below_set ?_ GE135.out | refine below_set ?_ GE136.out | refine below_set ?_ GE144.out | refine below_set ?_ GE145.out | refine below_set ?_ GE156.out) | exact HB.out)) hb)
          have n6_ := Aside0.mk (hbox)
          have n7_ := Aside0.mk ((by rw [hg]; exact (below_size (by repeat (first | (with_reducible first | exact HB.out | apply below_alloc | apply pN | apply dI | refine below_set ?_ GE135.out | refine below_set ?_ GE136.out | refine below_set ?_ GE144.out | refine below_set ?_ GE145.out | refine below_set ?_ GE156.out) | exact HB.out))) : w.heap.size ≤ gb155))
          have n8_ := Aside0.mk ((by rw [hg]; exact (below_size (by repeat (first | (with_reducible first | exact HB.out | apply below_alloc | apply pN | apply dI | refine below_set ?_ GE135.out | refine below_set ?_ GE136.out | refine below_set ?_ GE144.out | refine below_set ?_ GE145.out | refine below_set ?_ GE156.out) | exact HB.out))) : w.heap.size ≤ gb155))
          have n9_ := Aside0.mk ((by rw [hg]; exact Nat.ne_of_lt (blk_lt (g := gb135) (o := .cells #[.int .u64 a0_0, .int .u64 a0_1, .int .u64 a0_2, .int .u64 a0_3] 26 (0, 0)) (by (with_reducible repeat (first | refine bN ?_ _ | refine bD ?_ | refine bL ?_ _)); exact BK135.out)) : gb135 ≠ gb155))
          have n10_ := Aside0.mk ((by rw [hg]; exact Nat.ne_of_gt (blk_lt (g := gb135) (o := .cells #[.int .u64 a0_0, .int .u64 a0_1, .int .u64 a0_2, .int .u64 a0_3] 26 (0, 0)) (by (with_reducible repeat (first | refine bN ?_ _ | refine bD ?_ | refine bL ?_ _)); exact BK135.out)) : gb155 ≠ gb135))
          have n11_ := Aside0.mk ((by rw [hg]; exact Nat.ne_of_lt (blk_lt (g := gb136) (o := .cells #[.int .u64 a1_0, .int .u64 a1_1] 24 (0, 0)) (by (with_reducible repeat (first | refine bN ?_ _ | refine bD ?_ | refine bL ?_ _)); exact BK136.out)) : gb136 ≠ gb155))
          have n12_ := Aside0.mk ((by rw [hg]; exact Nat.ne_of_gt (blk_lt (g := gb136) (o := .cells #[.int .u64 a1_0, .int .u64 a1_1] 24 (0, 0)) (by (with_reducible repeat (first | refine bN ?_ _ | refine bD ?_ | refine bL ?_ _)); exact BK136.out)) : gb155 ≠ gb136))
          have n13_ := Aside0.mk ((by rw [hg]; exact Nat.ne_of_lt (blk_lt (g := gb144) (o := .cells #[.int .u64 t137, .int .u64 t138, .int .u64 t139, .int .u64 t140] 26 (0, 0)) (by (with_reducible repeat (first | refine bN ?_ _ | refine bD ?_ | refine bL ?_ _)); exact BK144.out)) : gb144 ≠ gb155))
          have n14_ := Aside0.mk ((by rw [hg]; exact Nat.ne_of_gt (blk_lt (g := gb144) (o := .cells #[.int .u64 t137, .int .u64 t138, .int .u64 t139, .int .u64 t140] 26 (0, 0)) (by (with_reducible repeat (first | refine bN ?_ _ | refine bD ?_ | refine bL ?_ _)); exact BK144.out)) : gb155 ≠ gb144))
          have n15_ := Aside0.mk ((by rw [hg]; exact Nat.ne_of_lt (blk_lt (g := gb145) (o := .cells #[.int .u64 t141, .int .u64 t142] 24 (0, 0)) (by (with_reducible repeat (first | refine bN ?_ _ | refine bD ?_ | refine bL ?_ _)); exact BK145.out)) : gb145 ≠ gb155))
          have n16_ := Aside0.mk ((by rw [hg]; exact Nat.ne_of_gt (blk_lt (g := gb145) (o := .cells #[.int .u64 t141, .int .u64 t142] 24 (0, 0)) (by (with_reducible repeat (first | refine bN ?_ _ | refine bD ?_ | refine bL ?_ _)); exact BK145.out)) : gb155 ≠ gb145))
          have n17_ := Aside0.mk ((by rw [hg]; exact Nat.ne_of_lt (blk_lt (g := gb156) (o := .cells #[.int .u64 0, .int .u64 0, .int .u64 0, .int .u64 0] 26 (0, 0)) (by (with_reducible repeat (first | refine bN ?_ _ | refine bD ?_ | refine bL ?_ _)); exact BK156.out)) : gb156 ≠ gb155))
          have n18_ := Aside0.mk ((by rw [hg]; exact Nat.ne_of_gt (blk_lt (g := gb156) (o := .cells #[.int .u64 0, .int .u64 0, .int .u64 0, .int .u64 0] 26 (0, 0)) (by (with_reducible repeat (first | refine bN ?_ _ | refine bD ?_ | refine bL ?_ _)); exact BK156.out)) : gb155 ≠ gb156))
          clear BK135
          clear BK136
          clear BK144
          clear BK145
          clear BK156
          clear HB
          have BK135 := n0_
          have BK136 := n1_
          have BK144 := n2_
          have BK145 := n3_
          have BK156 := n4_
          have HB := n5_
          have BK155 := n6_
          have GW155 := n7_
          have GE155 := n8_
          have NB135_155 := n9_
          have NB155_135 := n10_
          have NB136_155 := n11_
          have NB155_136 := n12_
          have NB144_155 := n13_
          have NB155_144 := n14_
          have NB145_155 := n15_
          have NB155_145 := n16_
          have NB156_155 := n17_
          have NB155_156 := n18_
          clear n0_ n1_ n2_ n3_ n4_ n5_ n6_ n7_ n8_ n9_ n10_ n11_ n12_ n13_ n14_ n15_ n16_ n17_ n18_
          clear hb hbox hg
          refine hK.out _ _ ⟨(bC BK144.out 0).trans rfl, (bC BK144.out 1).trans rfl, (bC BK144.out 2).trans rfl, (bC BK144.out 3).trans rfl, (bC BK136.out 0).trans rfl, (bC BK136.out 1).trans rfl⟩ (fun hHeld => ?_)
          clear hK K
          refine norm_ (a' := ?_) ?_ ?_
          rotate_left
          ·show Act.put _ (some 8) _ = _
           simp only [Act.put, List.setIfInBounds_toArray, List.set_cons_zero, List.set_cons_succ, i64_w, i32_w]
           rfl
          exact norm_ (by first | (simp only [putAll, Act.put, List.setIfInBounds_toArray, List.set_cons_zero, List.set_cons_succ]; done) | (simp only [putAll, Act.put, List.setIfInBounds_toArray, List.set_cons_zero, List.set_cons_succ]; rfl)) (hJ3_8_9 (gb155, gb156) _ ⟨hHeld, (by (with_reducible repeat (first | refine bN ?_ _ | refine bD ?_ | refine bL ?_ _)); exact BK135.out), (by (with_reducible repeat (first | refine bN ?_ _ | refine bD ?_ | refine bL ?_ _)); exact BK136.out), (by (with_reducible repeat (first | refine bN ?_ _ | refine bD ?_ | refine bL ?_ _)); exact BK144.out), (by (with_reducible repeat (first | refine bN ?_ _ | refine bD ?_ | refine bL ?_ _)); exact BK145.out), (by (with_reducible repeat (first | refine bN ?_ _ | refine bD ?_ | refine bL ?_ _)); exact BK155.out), (by (with_reducible repeat (first | refine bN ?_ _ | refine bD ?_ | refine bL ?_ _)); exact BK156.out), GW155.out, GE155.out, NB135_155.out, NB155_135.out, NB136_155.out, NB155_136.out, NB144_155.out, NB155_144.out, NB145_155.out, NB155_145.out, NB156_155.out, NB155_156.out, GW156.out, GE156.out, NB135_156.out, NB156_135.out, NB136_156.out, NB156_136.out, NB144_156.out, NB156_144.out, NB145_156.out, NB156_145.out, (by repeat (first | (with_reducible first | exact HB.out | apply below_alloc | apply pN | apply dI | refine below_set ?_ GE135.out | refine below_set ?_ GE136.out | refine below_set ?_ GE144.out | refine below_set ?_ GE145.out | refine below_set ?_ GE156.out | refine below_set ?_ GE155.out) | exact HB.out))⟩)
       ·skip
        rintro gb155 w62 ⟨hS_, h0_, h1_, h2_, h3_, h4_, h5_, h6_, h7_, h8_, h9_, h10_, h11_, h12_, h13_, h14_, h15_⟩
        have n0_ : Aside0 (w62.heap[gb135]? = some (.cells #[.int .u64 a0_0, .int .u64 a0_1, .int .u64 a0_2, .int .u64 a0_3] 26 (0, 0))) := ⟨h0_⟩
        have n1_ : Aside0 (w62.heap[gb136]? = some (.cells #[.int .u64 a1_0, .int .u64 a1_1] 24 (0, 0))) := ⟨h1_⟩
        have n2_ : Aside0 (w62.heap[gb144]? = some (.cells #[.int .u64 t137, .int .u64 t138, .int .u64 t139, .int .u64 t140] 26 (0, 0))) := ⟨h2_⟩
        have n3_ : Aside0 (w62.heap[gb145]? = some (.cells #[.int .u64 t141, .int .u64 t142] 24 (0, 0))) := ⟨h3_⟩
        have n4_ : Aside0 (w62.heap[gb155]? = some (.cells #[.int .u64 0, .int .u64 0, .int .u64 0, .int .u64 0] 26 (0, 0))) := ⟨h4_⟩
        have n5_ : Aside0 (w.heap.size ≤ gb155) := ⟨h5_⟩
        have n6_ : Aside0 (w.heap.size ≤ gb155) := ⟨h6_⟩
        have n7_ : Aside0 (gb135 ≠ gb155) := ⟨h7_⟩
        have n8_ : Aside0 (gb155 ≠ gb135) := ⟨h8_⟩
        have n9_ : Aside0 (gb136 ≠ gb155) := ⟨h9_⟩
        have n10_ : Aside0 (gb155 ≠ gb136) := ⟨h10_⟩
        have n11_ : Aside0 (gb144 ≠ gb155) := ⟨h11_⟩
        have n12_ : Aside0 (gb155 ≠ gb144) := ⟨h12_⟩
        have n13_ : Aside0 (gb145 ≠ gb155) := ⟨h13_⟩
        have n14_ : Aside0 (gb155 ≠ gb145) := ⟨h14_⟩
        have n15_ : Aside0 (Below w.heap.size w w62) := ⟨h15_⟩
        clear BK135
        clear BK136
        clear BK144
        clear BK145
        clear HB
        clear h0_ h1_ h2_ h3_ h4_ h5_ h6_ h7_ h8_ h9_ h10_ h11_ h12_ h13_ h14_ h15_
        have BK135 := n0_
        have BK136 := n1_
        have BK144 := n2_
        have BK145 := n3_
        have BK155 := n4_
        have GW155 := n5_
        have GE155 := n6_
        have NB135_155 := n7_
        have NB155_135 := n8_
        have NB136_155 := n9_
        have NB155_136 := n10_
        have NB144_155 := n11_
        have NB155_144 := n12_
        have NB145_155 := n13_
        have NB155_145 := n14_
        have HB := n15_
        clear n0_ n1_ n2_ n3_ n4_ n5_ n6_ n7_ n8_ n9_ n10_ n11_ n12_ n13_ n14_ n15_
        have hHeld : w62.cell? ⟨gb144, 0, none⟩ = some (.int .u64 t137) ∧ w62.cell? ⟨gb144, 1, none⟩ = some (.int .u64 t138) ∧ w62.cell? ⟨gb144, 2, none⟩ = some (.int .u64 t139) ∧ w62.cell? ⟨gb144, 3, none⟩ = some (.int .u64 t140) ∧ w62.cell? ⟨gb136, 0, none⟩ = some (.int .u64 a1_0) ∧ w62.cell? ⟨gb136, 1, none⟩ = some (.int .u64 a1_1) := hS_
        refine norm_ (a' := ?_) ?_ ?_
        rotate_left
        ·simp only [putAll, Act.put, List.setIfInBounds_toArray, List.set_cons_zero, List.set_cons_succ]
         rfl
        refine two_ (i := 7) (j := 9) (Ni := some 50) (Nj := some 9) (bA 12 511) (bA 12 895) rfl rfl rfl rfl (two_of HT_.out (by kernel_rfl)) (by decide) (by decide) (fun K hK => ?_) (fun K hK => ?_)
        ·skip
         refine goes_ Try.func14 (by kernel_rfl) rfl #[.agg #[.int .u64 t137, .int .u64 t138], .agg #[.int .u64 a1_0, .int .u64 a1_1]] (by rfl) rfl rfl (by (try simp only [List.map_toArray, List.map_cons, List.map_nil]); first | done | rfl | (simp only [List.length_drop, List.length_take]; rfl)) ?_
         with_reducible refine (limb_Mul.calls t137 t138 a1_0 a1_1 t151 t152 t153 t154 _ A27.out).mono ?_
         rintro e w63 ⟨rfl, hb⟩
         refine ⟨_, rfl, ?_⟩
         have n0_ := Aside0.mk (bB (g := gb135) (o := .cells #[.int .u64 a0_0, .int .u64 a0_1, .int .u64 a0_2, .int .u64 a0_3] 26 (0, 0)) (by (with_reducible repeat (first | refine bN ?_ _ | refine bD ?_ | refine bL ?_ _)); exact BK135.out) hb)
         have n1_ := Aside0.mk (bB (g := gb136) (o := .cells #[.int .u64 a1_0, .int .u64 a1_1] 24 (0, 0)) (by (with_reducible repeat (first | refine bN ?_ _ | refine bD ?_ | refine bL ?_ _)); exact BK136.out) hb)
         have n2_ := Aside0.mk (bB (g := gb144) (o := .cells #[.int .u64 t137, .int .u64 t138, .int .u64 t139, .int .u64 t140] 26 (0, 0)) (by (with_reducible repeat (first | refine bN ?_ _ | refine bD ?_ | refine bL ?_ _)); exact BK144.out) hb)
         have n3_ := Aside0.mk (bB (g := gb145) (o := .cells #[.int .u64 t141, .int .u64 t142] 24 (0, 0)) (by (with_reducible repeat (first | refine bN ?_ _ | refine bD ?_ | refine bL ?_ _)); exact BK145.out) hb)
         have n4_ := Aside0.mk (bB (g := gb155) (o := .cells #[.int .u64 0, .int .u64 0, .int .u64 0, .int .u64 0] 26 (0, 0)) (by (with_reducible repeat (first | refine bN ?_ _ | refine bD ?_ | refine bL ?_ _)); exact BK155.out) hb)
         have n5_ := Aside0.mk (below_step (by repeat (first | (with_reducible first | exact HB.out | apply below_alloc | apply pN | apply dI | refine below_set ?_ GE135.out | refine below_set ?_ GE136.out | refine below_set ?_ GE144.out | refine below_set ?_ GE145.out | refine below_set ?_ GE155.out) | exact HB.out)) hb)
         clear BK135
         clear BK136
         clear BK144
         clear BK145
         clear BK155
         clear HB
         have BK135 := n0_
         have BK136 := n1_
         have BK144 := n2_
         have BK145 := n3_
         have BK155 := n4_
         have HB := n5_
         clear n0_ n1_ n2_ n3_ n4_ n5_
         (try clear hb)
         (try clear hb2)
         (try clear hk)
         (try clear hi)
         refine hK.out _ _ ⟨(bC BK144.out 0).trans rfl, (bC BK144.out 1).trans rfl, (bC BK144.out 2).trans rfl, (bC BK144.out 3).trans rfl, (bC BK136.out 0).trans rfl, (bC BK136.out 1).trans rfl⟩ (fun hHeld => ?_)
         clear hK K
         refine norm_ (a' := ?_) ?_ ?_
         rotate_left
         ·show Act.put _ (some 50) _ = _
          simp only [Act.put, List.setIfInBounds_toArray, List.set_cons_zero, List.set_cons_succ, i64_w, i32_w]
          rfl
         exact norm_ (by first | (simp only [putAll, Act.put, List.setIfInBounds_toArray, List.set_cons_zero, List.set_cons_succ]; done) | (simp only [putAll, Act.put, List.setIfInBounds_toArray, List.set_cons_zero, List.set_cons_succ]; rfl)) (hJ3_7_8 (gb155) _ ⟨hHeld, (by (with_reducible repeat (first | refine bN ?_ _ | refine bD ?_ | refine bL ?_ _)); exact BK135.out), (by (with_reducible repeat (first | refine bN ?_ _ | refine bD ?_ | refine bL ?_ _)); exact BK136.out), (by (with_reducible repeat (first | refine bN ?_ _ | refine bD ?_ | refine bL ?_ _)); exact BK144.out), (by (with_reducible repeat (first | refine bN ?_ _ | refine bD ?_ | refine bL ?_ _)); exact BK145.out), (by (with_reducible repeat (first | refine bN ?_ _ | refine bD ?_ | refine bL ?_ _)); exact BK155.out), GW155.out, GE155.out, NB135_155.out, NB155_135.out, NB136_155.out, NB155_136.out, NB144_155.out, NB155_144.out, NB145_155.out, NB155_145.out, (by repeat (first | (with_reducible first | exact HB.out | apply below_alloc | apply pN | apply dI | refine below_set ?_ GE135.out | refine below_set ?_ GE136.out | refine below_set ?_ GE144.out | refine below_set ?_ GE145.out | refine below_set ?_ GE155.out) | exact HB.out))⟩)
        ·skip
         refine box_step ?hg (N := 9) ?hd (cs := #[.int .u64 0, .int .u64 0, .int .u64 0, .int .u64 0]) (t := 26) ?hr ?_; (case hd => rfl); (case hg => rfl); (case hr => first | (go_simp; done) | (go_simp; rfl))
         intro gb156 hg w63 hbox hb
         have n0_ := Aside0.mk (bB (g := gb135) (o := .cells #[.int .u64 a0_0, .int .u64 a0_1, .int .u64 a0_2, .int .u64 a0_3] 26 (0, 0)) (by (with_reducible repeat (first | refine bN ?_ _ | refine bD ?_ | refine bL ?_ _)); exact BK135.out) hb)
         have n1_ := Aside0.mk (bB (g := gb136) (o := .cells #[.int .u64 a1_0, .int .u64 a1_1] 24 (0, 0)) (by (with_reducible repeat (first | refine bN ?_ _ | refine bD ?_ | refine bL ?_ _)); exact BK136.out) hb)
         have n2_ := Aside0.mk (bB (g := gb144) (o := .cells #[.int .u64 t137, .int .u64 t138, .int .u64 t139, .int .u64 t140] 26 (0, 0)) (by (with_reducible repeat (first | refine bN ?_ _ | refine bD ?_ | refine bL ?_ _)); exact BK144.out) hb)
         have n3_ := Aside0.mk (bB (g := gb145) (o := .cells #[.int .u64 t141, .int .u64 t142] 24 (0, 0)) (by (with_reducible repeat (first | refine bN ?_ _ | refine bD ?_ | refine bL ?_ _)); exact BK145.out) hb)
         have n4_ := Aside0.mk (bB (g := gb155) (o := .cells #[.int .u64 0, .int .u64 0, .int .u64 0, .int .u64 0] 26 (0, 0)) (by (with_reducible repeat (first | refine bN ?_ _ | refine bD ?_ | refine bL ?_ _)); exact BK155.out) hb)
         have n5_ := Aside0.mk (below_step (by repeat (first | (with_reducible first | exact HB.out | apply below_alloc | apply pN | apply dI | refine below_set ?_ GE135.out | refine below_set ?_ GE136.out | refine below_set ?_ GE144.out | refine below_set ?_ GE145.out | refine below_set ?_ GE155.out) | exact HB.out)) hb)
         have n6_ := Aside0.mk (hbox)
         have n7_ := Aside0.mk ((by rw [hg]; exact (below_size (by repeat (first | (with_reducible first | exact HB.out | apply below_alloc | apply pN | apply dI | refine below_set ?_ GE135.out | refine below_set ?_ GE136.out | refine below_set ?_ GE144.out | refine below_set ?_ GE145.out | refine below_set ?_ GE155.out) | exact HB.out))) : w.heap.size ≤ gb156))
         have n8_ := Aside0.mk ((by rw [hg]; exact (below_size (by repeat (first | (with_reducible first | exact HB.out | apply below_alloc | apply pN | apply dI | refine below_set ?_ GE135.out | refine below_set ?_ GE136.out | refine below_set ?_ GE144.out | refine below_set ?_ GE145.out | refine below_set ?_ GE155.out) | exact HB.out))) : w.heap.size ≤ gb156))
         have n9_ := Aside0.mk ((by rw [hg]; exact Nat.ne_of_lt (blk_lt (g := gb135) (o := .cells #[.int .u64 a0_0, .int .u64 a0_1, .int .u64 a0_2, .int .u64 a0_3] 26 (0, 0)) (by (with_reducible repeat (first | refine bN ?_ _ | refine bD ?_ | refine bL ?_ _)); exact BK135.out)) : gb135 ≠ gb156))
         have n10_ := Aside0.mk ((by rw [hg]; exact Nat.ne_of_gt (blk_lt (g := gb135) (o := .cells #[.int .u64 a0_0, .int .u64 a0_1, .int .u64 a0_2, .int .u64 a0_3] 26 (0, 0)) (by (with_reducible repeat (first | refine bN ?_ _ | refine bD ?_ | refine bL ?_ _)); exact BK135.out)) : gb156 ≠ gb135))
         have n11_ := Aside0.mk ((by rw [hg]; exact Nat.ne_of_lt (blk_lt (g := gb136) (o := .cells #[.int .u64 a1_0, .int .u64 a1_1] 24 (0, 0)) (by (with_reducible repeat (first | refine bN ?_ _ | refine bD ?_ | refine bL ?_ _)); exact BK136.out)) : gb136 ≠ gb156))
         have n12_ := Aside0.mk ((by rw [hg]; exact Nat.ne_of_gt (blk_lt (g := gb136) (o := .cells #[.int .u64 a1_0, .int .u64 a1_1] 24 (0, 0)) (by (with_reducible repeat (first | refine bN ?_ _ | refine bD ?_ | refine bL ?_ _)); exact BK136.out)) : gb156 ≠ gb136))
         have n13_ := Aside0.mk ((by rw [hg]; exact Nat.ne_of_lt (blk_lt (g := gb144) (o := .cells #[.int .u64 t137, .int .u64 t138, .int .u64 t139, .int .u64 t140] 26 (0, 0)) (by (with_reducible repeat (first | refine bN ?_ _ | refine bD ?_ | refine bL ?_ _)); exact BK144.out)) : gb144 ≠ gb156))
         have n14_ := Aside0.mk ((by rw [hg]; exact Nat.ne_of_gt (blk_lt (g := gb144) (o := .cells #[.int .u64 t137, .int .u64 t138, .int .u64 t139, .int .u64 t140] 26 (0, 0)) (by (with_reducible repeat (first | refine bN ?_ _ | refine bD ?_ | refine bL ?_ _)); exact BK144.out)) : gb156 ≠ gb144))
         have n15_ := Aside0.mk ((by rw [hg]; exact Nat.ne_of_lt (blk_lt (g := gb145) (o := .cells #[.int .u64 t141, .int .u64 t142] 24 (0, 0)) (by (with_reducible repeat (first | refine bN ?_ _ | refine bD ?_ | refine bL ?_ _)); exact BK145.out)) : gb145 ≠ gb156))
         have n16_ := Aside0.mk ((by rw [hg]; exact Nat.ne_of_gt (blk_lt (g := gb145) (o := .cells #[.int .u64 t141, .int .u64 t142] 24 (0, 0)) (by (with_reducible repeat (first | refine bN ?_ _ | refine bD ?_ | refine bL ?_ _)); exact BK145.out)) : gb156 ≠ gb145))
         have n17_ := Aside0.mk ((by rw [hg]; exact Nat.ne_of_lt (blk_lt (g := gb155) (o := .cells #[.int .u64 0, .int .u64 0, .int .u64 0, .int .u64 0] 26 (0, 0)) (by (with_reducible repeat (first | refine bN ?_ _ | refine bD ?_ | refine bL ?_ _)); exact BK155.out)) : gb155 ≠ gb156))
         have n18_ := Aside0.mk ((by rw [hg]; exact Nat.ne_of_gt (blk_lt (g := gb155) (o := .cells #[.int .u64 0, .int .u64 0, .int .u64 0, .int .u64 0] 26 (0, 0)) (by (with_reducible repeat (first | refine bN ?_ _ | refine bD ?_ | refine bL ?_ _)); exact BK155.out)) : gb156 ≠ gb155))
         clear BK135
         clear BK136
         clear BK144
         clear BK145
         clear BK155
         clear HB
         have BK135 := n0_
         have BK136 := n1_
         have BK144 := n2_
         have BK145 := n3_
         have BK155 := n4_
         have HB := n5_
         have BK156 := n6_
         have GW156 := n7_
         have GE156 := n8_
         have NB135_156 := n9_
         have NB156_135 := n10_
         have NB136_156 := n11_
         have NB156_136 := n12_
         have NB144_156 := n13_
         have NB156_144 := n14_
         have NB145_156 := n15_
         have NB156_145 := n16_
         have NB155_156 := n17_
         have NB156_155 := n18_
         clear n0_ n1_ n2_ n3_ n4_ n5_ n6_ n7_ n8_ n9_ n10_ n11_ n12_ n13_ n14_ n15_ n16_ n17_ n18_
         clear hb hbox hg
         refine hK.out _ _ ⟨(bC BK144.out 0).trans rfl, (bC BK144.out 1).trans rfl, (bC BK144.out 2).trans rfl, (bC BK144.out 3).trans rfl, (bC BK136.out 0).trans rfl, (bC BK136.out 1).trans rfl⟩ (fun hHeld => ?_)
         clear hK K
         refine norm_ (a' := ?_) ?_ ?_
         rotate_left
         ·show Act.put _ (some 9) _ = _
          simp only [Act.put, List.setIfInBounds_toArray, List.set_cons_zero, List.set_cons_succ, i64_w, i32_w]
          rfl
         exact norm_ (by first | (simp only [putAll, Act.put, List.setIfInBounds_toArray, List.set_cons_zero, List.set_cons_succ]; done) | (simp only [putAll, Act.put, List.setIfInBounds_toArray, List.set_cons_zero, List.set_cons_succ]; rfl)) (hJ3_8_9 (gb155, gb156) _ ⟨hHeld, (by (with_reducible repeat (first | refine bN ?_ _ | refine bD ?_ | refine bL ?_ _)); exact BK135.out), (by (with_reducible repeat (first | refine bN ?_ _ | refine bD ?_ | refine bL ?_ _)); exact BK136.out), (by (with_reducible repeat (first | refine bN ?_ _ | refine bD ?_ | refine bL ?_ _)); exact BK144.out), (by (with_reducible repeat (first | refine bN ?_ _ | refine bD ?_ | refine bL ?_ _)); exact BK145.out), (by (with_reducible repeat (first | refine bN ?_ _ | refine bD ?_ | refine bL ?_ _)); exact BK155.out), (by (with_reducible repeat (first | refine bN ?_ _ | refine bD ?_ | refine bL ?_ _)); exact BK156.out), GW155.out, GE155.out, NB135_155.out, NB155_135.out, NB136_155.out, NB155_136.out, NB144_155.out, NB155_144.out, NB145_155.out, NB155_145.out, NB156_155.out, NB155_156.out, GW156.out, GE156.out, NB135_156.out, NB156_135.out, NB136_156.out, NB156_136.out, NB144_156.out, NB156_144.out, NB145_156.out, NB156_145.out, (by repeat (first | (with_reducible first | exact HB.out | apply below_alloc | apply pN | apply dI | refine below_set ?_ GE135.out | refine below_set ?_ GE136.out | refine below_set ?_ GE144.out | refine below_set ?_ GE145.out | refine below_set ?_ GE155.out | refine below_set ?_ GE156.out) | exact HB.out))⟩)
      ·skip
       rintro _ w62 ⟨hS_, h0_, h1_, h2_, h3_, h4_⟩
       have n0_ : Aside0 (w62.heap[gb135]? = some (.cells #[.int .u64 a0_0, .int .u64 a0_1, .int .u64 a0_2, .int .u64 a0_3] 26 (0, 0))) := ⟨h0_⟩
       have n1_ : Aside0 (w62.heap[gb136]? = some (.cells #[.int .u64 a1_0, .int .u64 a1_1] 24 (0, 0))) := ⟨h1_⟩
       have n2_ : Aside0 (w62.heap[gb144]? = some (.cells #[.int .u64 t137, .int .u64 t138, .int .u64 t139, .int .u64 t140] 26 (0, 0))) := ⟨h2_⟩
       have n3_ : Aside0 (w62.heap[gb145]? = some (.cells #[.int .u64 t141, .int .u64 t142] 24 (0, 0))) := ⟨h3_⟩
       have n4_ : Aside0 (Below w.heap.size w w62) := ⟨h4_⟩
       clear BK135
       clear BK136
       clear BK144
       clear BK145
       clear HB
       clear h0_ h1_ h2_ h3_ h4_
       have BK135 := n0_
       have BK136 := n1_
       have BK144 := n2_
       have BK145 := n3_
       have HB := n4_
       clear n0_ n1_ n2_ n3_ n4_
       have hHeld : w62.cell? ⟨gb144, 0, none⟩ = some (.int .u64 t137) ∧ w62.cell? ⟨gb144, 1, none⟩ = some (.int .u64 t138) ∧ w62.cell? ⟨gb144, 2, none⟩ = some (.int .u64 t139) ∧ w62.cell? ⟨gb144, 3, none⟩ = some (.int .u64 t140) ∧ w62.cell? ⟨gb136, 0, none⟩ = some (.int .u64 a1_0) ∧ w62.cell? ⟨gb136, 1, none⟩ = some (.int .u64 a1_1) := hS_
       refine norm_ (a' := ?_) ?_ ?_
       rotate_left
       ·simp only [putAll, Act.put, List.setIfInBounds_toArray, List.set_cons_zero, List.set_cons_succ]
        rfl
       refine two_ (i := 8) (j := 9) (Ni := some 8) (Nj := some 9) (bA 12 511) (bA 12 767) rfl rfl rfl rfl (two_of HT_.out (by kernel_rfl)) (by decide) (by decide) (fun K hK => ?_) (fun K hK => ?_)
       ·skip
        refine box_step ?hg (N := 8) ?hd (cs := #[.int .u64 0, .int .u64 0, .int .u64 0, .int .u64 0]) (t := 26) ?hr ?_; (case hd => rfl); (case hg => rfl); (case hr => first | (go_simp; done) | (go_simp; rfl))
        intro gb155 hg w63 hbox hb
        have n0_ := Aside0.mk (bB (g := gb135) (o := .cells #[.int .u64 a0_0, .int .u64 a0_1, .int .u64 a0_2, .int .u64 a0_3] 26 (0, 0)) (by (with_reducible repeat (first | refine bN ?_ _ | refine bD ?_ | refine bL ?_ _)); exact BK135.out) hb)
        have n1_ := Aside0.mk (bB (g := gb136) (o := .cells #[.int .u64 a1_0, .int .u64 a1_1] 24 (0, 0)) (by (with_reducible repeat (first | refine bN ?_ _ | refine bD ?_ | refine bL ?_ _)); exact BK136.out) hb)
        have n2_ := Aside0.mk (bB (g := gb144) (o := .cells #[.int .u64 t137, .int .u64 t138, .int .u64 t139, .int .u64 t140] 26 (0, 0)) (by (with_reducible repeat (first | refine bN ?_ _ | refine bD ?_ | refine bL ?_ _)); exact BK144.out) hb)
        have n3_ := Aside0.mk (bB (g := gb145) (o := .cells #[.int .u64 t141, .int .u64 t142] 24 (0, 0)) (by (with_reducible repeat (first | refine bN ?_ _ | refine bD ?_ | refine bL ?_ _)); exact BK145.out) hb)
        have n4_ := Aside0.mk (below_step (by repeat (first | (with_reducible first | exact HB.out | apply below_alloc | apply pN | apply dI | refine below_set ?_ GE135.out | refine below_set ?_ GE136.out | refine below_set ?_ GE144.out | refine below_set ?_ GE145.out) | exact HB.out)) hb)
        have n5_ := Aside0.mk (hbox)
        have n6_ := Aside0.mk ((by rw [hg]; exact (below_size (by repeat (first | (with_reducible first | exact HB.out | apply below_alloc | apply pN | apply dI | refine below_set ?_ GE135.out | refine below_set ?_ GE136.out | refine below_set ?_ GE144.out | refine below_set ?_ GE145.out) | exact HB.out))) : w.heap.size ≤ gb155))
        have n7_ := Aside0.mk ((by rw [hg]; exact (below_size (by repeat (first | (with_reducible first | exact HB.out | apply below_alloc | apply pN | apply dI | refine below_set ?_ GE135.out | refine below_set ?_ GE136.out | refine below_set ?_ GE144.out | refine below_set ?_ GE145.out) | exact HB.out))) : w.heap.size ≤ gb155))
        have n8_ := Aside0.mk ((by rw [hg]; exact Nat.ne_of_lt (blk_lt (g := gb135) (o := .cells #[.int .u64 a0_0, .int .u64 a0_1, .int .u64 a0_2, .int .u64 a0_3] 26 (0, 0)) (by (with_reducible repeat (first | refine bN ?_ _ | refine bD ?_ | refine bL ?_ _)); exact BK135.out)) : gb135 ≠ gb155))
        have n9_ := Aside0.mk ((by rw [hg]; exact Nat.ne_of_gt (blk_lt (g := gb135) (o := .cells #[.int .u64 a0_0, .int .u64 a0_1, .int .u64 a0_2, .int .u64 a0_3] 26 (0, 0)) (by (with_reducible repeat (first | refine bN ?_ _ | refine bD ?_ | refine bL ?_ _)); exact BK135.out)) : gb155 ≠ gb135))
        have n10_ := Aside0.mk ((by rw [hg]; exact Nat.ne_of_lt (blk_lt (g := gb136) (o := .cells #[.int .u64 a1_0, .int .u64 a1_1] 24 (0, 0)) (by (with_reducible repeat (first | refine bN ?_ _ | refine bD ?_ | refine bL ?_ _)); exact BK136.out)) : gb136 ≠ gb155))
        have n11_ := Aside0.mk ((by rw [hg]; exact Nat.ne_of_gt (blk_lt (g := gb136) (o := .cells #[.int .u64 a1_0, .int .u64 a1_1] 24 (0, 0)) (by (with_reducible repeat (first | refine bN ?_ _ | refine bD ?_ | refine bL ?_ _)); exact BK136.out)) : gb155 ≠ gb136))
        have n12_ := Aside0.mk ((by rw [hg]; exact Nat.ne_of_lt (blk_lt (g := gb144) (o := .cells #[.int .u64 t137, .int .u64 t138, .int .u64 t139, .int .u64 t140] 26 (0, 0)) (by (with_reducible repeat (first | refine bN ?_ _ | refine bD ?_ | refine bL ?_ _)); exact BK144.out)) : gb144 ≠ gb155))
        have n13_ := Aside0.mk ((by rw [hg]; exact Nat.ne_of_gt (blk_lt (g := gb144) (o := .cells #[.int .u64 t137, .int .u64 t138, .int .u64 t139, .int .u64 t140] 26 (0, 0)) (by (with_reducible repeat (first | refine bN ?_ _ | refine bD ?_ | refine bL ?_ _)); exact BK144.out)) : gb155 ≠ gb144))
        have n14_ := Aside0.mk ((by rw [hg]; exact Nat.ne_of_lt (blk_lt (g := gb145) (o := .cells #[.int .u64 t141, .int .u64 t142] 24 (0, 0)) (by (with_reducible repeat (first | refine bN ?_ _ | refine bD ?_ | refine bL ?_ _)); exact BK145.out)) : gb145 ≠ gb155))
        have n15_ := Aside0.mk ((by rw [hg]; exact Nat.ne_of_gt (blk_lt (g := gb145) (o := .cells #[.int .u64 t141, .int .u64 t142] 24 (0, 0)) (by (with_reducible repeat (first | refine bN ?_ _ | refine bD ?_ | refine bL ?_ _)); exact BK145.out)) : gb155 ≠ gb145))
        clear BK135
        clear BK136
        clear BK144
        clear BK145
        clear HB
        have BK135 := n0_
        have BK136 := n1_
        have BK144 := n2_
        have BK145 := n3_
        have HB := n4_
        have BK155 := n5_
        have GW155 := n6_
        have GE155 := n7_
        have NB135_155 := n8_
        have NB155_135 := n9_
        have NB136_155 := n10_
        have NB155_136 := n11_
        have NB144_155 := n12_
        have NB155_144 := n13_
        have NB145_155 := n14_
        have NB155_145 := n15_
        clear n0_ n1_ n2_ n3_ n4_ n5_ n6_ n7_ n8_ n9_ n10_ n11_ n12_ n13_ n14_ n15_
        clear hb hbox hg
        refine hK.out _ _ ⟨(bC BK144.out 0).trans rfl, (bC BK144.out 1).trans rfl, (bC BK144.out 2).trans rfl, (bC BK144.out 3).trans rfl, (bC BK136.out 0).trans rfl, (bC BK136.out 1).trans rfl⟩ (fun hHeld => ?_)
        clear hK K
        refine norm_ (a' := ?_) ?_ ?_
        rotate_left
        ·show Act.put _ (some 8) _ = _
         simp only [Act.put, List.setIfInBounds_toArray, List.set_cons_zero, List.set_cons_succ, i64_w, i32_w]
         rfl
        exact norm_ (by first | (simp only [putAll, Act.put, List.setIfInBounds_toArray, List.set_cons_zero, List.set_cons_succ]; done) | (simp only [putAll, Act.put, List.setIfInBounds_toArray, List.set_cons_zero, List.set_cons_succ]; rfl)) (hJ3_7_8 (gb155) _ ⟨hHeld, (by (with_reducible repeat (first | refine bN ?_ _ | refine bD ?_ | refine bL ?_ _)); exact BK135.out), (by (with_reducible repeat (first | refine bN ?_ _ | refine bD ?_ | refine bL ?_ _)); exact BK136.out), (by (with_reducible repeat (first | refine bN ?_ _ | refine bD ?_ | refine bL ?_ _)); exact BK144.out), (by (with_reducible repeat (first | refine bN ?_ _ | refine bD ?_ | refine bL ?_ _)); exact BK145.out), (by (with_reducible repeat (first | refine bN ?_ _ | refine bD ?_ | refine bL ?_ _)); exact BK155.out), GW155.out, GE155.out, NB135_155.out, NB155_135.out, NB136_155.out, NB155_136.out, NB144_155.out, NB155_144.out, NB145_155.out, NB155_145.out, (by repeat (first | (with_reducible first | exact HB.out | apply below_alloc | apply pN | apply dI | refine below_set ?_ GE135.out | refine below_set ?_ GE136.out | refine below_set ?_ GE144.out | refine below_set ?_ GE145.out | refine below_set ?_ GE155.out) | exact HB.out))⟩)
       ·skip
        refine box_step ?hg (N := 9) ?hd (cs := #[.int .u64 0, .int .u64 0, .int .u64 0, .int .u64 0]) (t := 26) ?hr ?_; (case hd => rfl); (case hg => rfl); (case hr => first | (go_simp; done) | (go_simp; rfl))
        intro gb156 hg w63 hbox hb
        have n0_ := Aside0.mk (bB (g := gb135) (o := .cells #[.int .u64 a0_0, .int .u64 a0_1, .int .u64 a0_2, .int .u64 a0_3] 26 (0, 0)) (by (with_reducible repeat (first | refine bN ?_ _ | refine bD ?_ | refine bL ?_ _)); exact BK135.out) hb)
        have n1_ := Aside0.mk (bB (g := gb136) (o := .cells #[.int .u64 a1_0, .int .u64 a1_1] 24 (0, 0)) (by (with_reducible repeat (first | refine bN ?_ _ | refine bD ?_ | refine bL ?_ _)); exact BK136.out) hb)
        have n2_ := Aside0.mk (bB (g := gb144) (o := .cells #[.int .u64 t137, .int .u64 t138, .int .u64 t139, .int .u64 t140] 26 (0, 0)) (by (with_reducible repeat (first | refine bN ?_ _ | refine bD ?_ | refine bL ?_ _)); exact BK144.out) hb)
        have n3_ := Aside0.mk (bB (g := gb145) (o := .cells #[.int .u64 t141, .int .u64 t142] 24 (0, 0)) (by (with_reducible repeat (first | refine bN ?_ _ | refine bD ?_ | refine bL ?_ _)); exact BK145.out) hb)
        have n4_ := Aside0.mk (below_step (by repeat (first | (with_reducible first | exact HB.out | apply below_alloc | apply pN | apply dI | refine below_set ?_ GE135.out | refine below_set ?_ GE136.out | refine below_set ?_ GE144.out | refine below_set ?_ GE145.out) | exact HB.out)) hb)
        have n5_ := Aside0.mk (hbox)
        have n6_ := Aside0.mk ((by rw [hg]; exact (below_size (by repeat (first | (with_reducible first | exact HB.out | apply below_alloc | apply pN | apply dI | refine below_set ?_ GE135.out | refine below_set ?_ GE136.out | refine below_set ?_ GE144.out | refine below_set ?_ GE145.out) | exact HB.out))) : w.heap.size ≤ gb156))
        have n7_ := Aside0.mk ((by rw [hg]; exact (below_size (by repeat (first | (with_reducible first | exact HB.out | apply below_alloc | apply pN | apply dI | refine below_set ?_ GE135.out | refine below_set ?_ GE136.out | refine below_set ?_ GE144.out | refine below_set ?_ GE145.out) | exact HB.out))) : w.heap.size ≤ gb156))
        have n8_ := Aside0.mk ((by rw [hg]; exact Nat.ne_of_lt (blk_lt (g := gb135) (o := .cells #[.int .u64 a0_0, .int .u64 a0_1, .int .u64 a0_2, .int .u64 a0_3] 26 (0, 0)) (by (with_reducible repeat (first | refine bN ?_ _ | refine bD ?_ | refine bL ?_ _)); exact BK135.out)) : gb135 ≠ gb156))
        have n9_ := Aside0.mk ((by rw [hg]; exact Nat.ne_of_gt (blk_lt (g := gb135) (o := .cells #[.int .u64 a0_0, .int .u64 a0_1, .int .u64 a0_2, .int .u64 a0_3] 26 (0, 0)) (by (with_reducible repeat (first | refine bN ?_ _ | refine bD ?_ | refine bL ?_ _)); exact BK135.out)) : gb156 ≠ gb135))
        have n10_ := Aside0.mk ((by rw [hg]; exact Nat.ne_of_lt (blk_lt (g := gb136) (o := .cells #[.int .u64 a1_0, .int .u64 a1_1] 24 (0, 0)) (by (with_reducible repeat (first | refine bN ?_ _ | refine bD ?_ | refine bL ?_ _)); exact BK136.out)) : gb136 ≠ gb156))
        have n11_ := Aside0.mk ((by rw [hg]; exact Nat.ne_of_gt (blk_lt (g := gb136) (o := .cells #[.int .u64 a1_0, .int .u64 a1_1] 24 (0, 0)) (by (with_reducible repeat (first | refine bN ?_ _ | refine bD ?_ | refine bL ?_ _)); exact BK136.out)) : gb156 ≠ gb136))
        have n12_ := Aside0.mk ((by rw [hg]; exact Nat.ne_of_lt (blk_lt (g := gb144) (o := .cells #[.int .u64 t137, .int .u64 t138, .int .u64 t139, .int .u64 t140] 26 (0, 0)) (by (with_reducible repeat (first | refine bN ?_ _ | refine bD ?_ | refine bL ?_ _)); exact BK144.out)) : gb144 ≠ gb156))
        have n13_ := Aside0.mk ((by rw [hg]; exact Nat.ne_of_gt (blk_lt (g := gb144) (o := .cells #[.int .u64 t137, .int .u64 t138, .int .u64 t139, .int .u64 t140] 26 (0, 0)) (by (with_reducible repeat (first | refine bN ?_ _ | refine bD ?_ | refine bL ?_ _)); exact BK144.out)) : gb156 ≠ gb144))
        have n14_ := Aside0.mk ((by rw [hg]; exact Nat.ne_of_lt (blk_lt (g := gb145) (o := .cells #[.int .u64 t141, .int .u64 t142] 24 (0, 0)) (by (with_reducible repeat (first | refine bN ?_ _ | refine bD ?_ | refine bL ?_ _)); exact BK145.out)) : gb145 ≠ gb156))
        have n15_ := Aside0.mk ((by rw [hg]; exact Nat.ne_of_gt (blk_lt (g := gb145) (o := .cells #[.int .u64 t141, .int .u64 t142] 24 (0, 0)) (by (with_reducible repeat (first | refine bN ?_ _ | refine bD ?_ | refine bL ?_ _)); exact BK145.out)) : gb156 ≠ gb145))
        clear BK135
        clear BK136
        clear BK144
        clear BK145
        clear HB
        have BK135 := n0_
        have BK136 := n1_
        have BK144 := n2_
        have BK145 := n3_
        have HB := n4_
        have BK156 := n5_
        have GW156 := n6_
        have GE156 := n7_
        have NB135_156 := n8_
        have NB156_135 := n9_
        have NB136_156 := n10_
        have NB156_136 := n11_
        have NB144_156 := n12_
        have NB156_144 := n13_
        have NB145_156 := n14_
        have NB156_145 := n15_
        clear n0_ n1_ n2_ n3_ n4_ n5_ n6_ n7_ n8_ n9_ n10_ n11_ n12_ n13_ n14_ n15_
        clear hb hbox hg
        refine hK.out _ _ ⟨(bC BK144.out 0).trans rfl, (bC BK144.out 1).trans rfl, (bC BK144.out 2).trans rfl, (bC BK144.out 3).trans rfl, (bC BK136.out 0).trans rfl, (bC BK136.out 1).trans rfl⟩ (fun hHeld => ?_)
        clear hK K
        refine norm_ (a' := ?_) ?_ ?_
        rotate_left
        ·show Act.put _ (some 9) _ = _
         simp only [Act.put, List.setIfInBounds_toArray, List.set_cons_zero, List.set_cons_succ, i64_w, i32_w]
         rfl
        exact norm_ (by first | (simp only [putAll, Act.put, List.setIfInBounds_toArray, List.set_cons_zero, List.set_cons_succ]; done) | (simp only [putAll, Act.put, List.setIfInBounds_toArray, List.set_cons_zero, List.set_cons_succ]; rfl)) (hJ3_7_9 (gb156) _ ⟨hHeld, (by (with_reducible repeat (first | refine bN ?_ _ | refine bD ?_ | refine bL ?_ _)); exact BK135.out), (by (with_reducible repeat (first | refine bN ?_ _ | refine bD ?_ | refine bL ?_ _)); exact BK136.out), (by (with_reducible repeat (first | refine bN ?_ _ | refine bD ?_ | refine bL ?_ _)); exact BK144.out), (by (with_reducible repeat (first | refine bN ?_ _ | refine bD ?_ | refine bL ?_ _)); exact BK145.out), (by (with_reducible repeat (first | refine bN ?_ _ | refine bD ?_ | refine bL ?_ _)); exact BK156.out), GW156.out, GE156.out, NB135_156.out, NB156_135.out, NB136_156.out, NB156_136.out, NB144_156.out, NB156_144.out, NB145_156.out, NB156_145.out, (by repeat (first | (with_reducible first | exact HB.out | apply below_alloc | apply pN | apply dI | refine below_set ?_ GE135.out | refine below_set ?_ GE136.out | refine below_set ?_ GE144.out | refine below_set ?_ GE145.out | refine below_set ?_ GE156.out) | exact HB.out))⟩)
     ·skip
      rintro ⟨gb155, gb156⟩ w63 ⟨hS_, h0_, h1_, h2_, h3_, h4_, h5_, h6_, h7_, h8_, h9_, h10_, h11_, h12_, h13_, h14_, h15_, h16_, h17_, h18_, h19_, h20_, h21_, h22_, h23_, h24_, h25_, h26_, h27_, h28_⟩
      have n0_ : Aside0 (w63.heap[gb135]? = some (.cells #[.int .u64 a0_0, .int .u64 a0_1, .int .u64 a0_2, .int .u64 a0_3] 26 (0, 0))) := ⟨h0_⟩
      have n1_ : Aside0 (w63.heap[gb136]? = some (.cells #[.int .u64 a1_0, .int .u64 a1_1] 24 (0, 0))) := ⟨h1_⟩
      have n2_ : Aside0 (w63.heap[gb144]? = some (.cells #[.int .u64 t137, .int .u64 t138, .int .u64 t139, .int .u64 t140] 26 (0, 0))) := ⟨h2_⟩
      have n3_ : Aside0 (w63.heap[gb145]? = some (.cells #[.int .u64 t141, .int .u64 t142] 24 (0, 0))) := ⟨h3_⟩
      have n4_ : Aside0 (w63.heap[gb155]? = some (.cells #[.int .u64 0, .int .u64 0, .int .u64 0, .int .u64 0] 26 (0, 0))) := ⟨h4_⟩
      have n5_ : Aside0 (w63.heap[gb156]? = some (.cells #[.int .u64 0, .int .u64 0, .int .u64 0, .int .u64 0] 26 (0, 0))) := ⟨h5_⟩
      have n6_ : Aside0 (w.heap.size ≤ gb155) := ⟨h6_⟩
      have n7_ : Aside0 (w.heap.size ≤ gb155) := ⟨h7_⟩
      have n8_ : Aside0 (gb135 ≠ gb155) := ⟨h8_⟩
      have n9_ : Aside0 (gb155 ≠ gb135) := ⟨h9_⟩
      have n10_ : Aside0 (gb136 ≠ gb155) := ⟨h10_⟩
      have n11_ : Aside0 (gb155 ≠ gb136) := ⟨h11_⟩
      have n12_ : Aside0 (gb144 ≠ gb155) := ⟨h12_⟩
      have n13_ : Aside0 (gb155 ≠ gb144) := ⟨h13_⟩
      have n14_ : Aside0 (gb145 ≠ gb155) := ⟨h14_⟩
      have n15_ : Aside0 (gb155 ≠ gb145) := ⟨h15_⟩
      have n16_ : Aside0 (gb156 ≠ gb155) := ⟨h16_⟩
      have n17_ : Aside0 (gb155 ≠ gb156) := ⟨h17_⟩
      have n18_ : Aside0 (w.heap.size ≤ gb156) := ⟨h18_⟩
      have n19_ : Aside0 (w.heap.size ≤ gb156) := ⟨h19_⟩
      have n20_ : Aside0 (gb135 ≠ gb156) := ⟨h20_⟩
      have n21_ : Aside0 (gb156 ≠ gb135) := ⟨h21_⟩
      have n22_ : Aside0 (gb136 ≠ gb156) := ⟨h22_⟩
      have n23_ : Aside0 (gb156 ≠ gb136) := ⟨h23_⟩
      have n24_ : Aside0 (gb144 ≠ gb156) := ⟨h24_⟩
      have n25_ : Aside0 (gb156 ≠ gb144) := ⟨h25_⟩
      have n26_ : Aside0 (gb145 ≠ gb156) := ⟨h26_⟩
      have n27_ : Aside0 (gb156 ≠ gb145) := ⟨h27_⟩
      have n28_ : Aside0 (Below w.heap.size w w63) := ⟨h28_⟩
      clear BK135
      clear BK136
      clear BK144
      clear BK145
      clear HB
      clear h0_ h1_ h2_ h3_ h4_ h5_ h6_ h7_ h8_ h9_ h10_ h11_ h12_ h13_ h14_ h15_ h16_ h17_ h18_ h19_ h20_ h21_ h22_ h23_ h24_ h25_ h26_ h27_ h28_
      have BK135 := n0_
      have BK136 := n1_
      have BK144 := n2_
      have BK145 := n3_
      have BK155 := n4_
      have BK156 := n5_
      have GW155 := n6_
      have GE155 := n7_
      have NB135_155 := n8_
      have NB155_135 := n9_
      have NB136_155 := n10_
      have NB155_136 := n11_
      have NB144_155 := n12_
      have NB155_144 := n13_
      have NB145_155 := n14_
      have NB155_145 := n15_
      have NB156_155 := n16_
      have NB155_156 := n17_
      have GW156 := n18_
      have GE156 := n19_
      have NB135_156 := n20_
      have NB156_135 := n21_
      have NB136_156 := n22_
      have NB156_136 := n23_
      have NB144_156 := n24_
      have NB156_144 := n25_
      have NB145_156 := n26_
      have NB156_145 := n27_
      have HB := n28_
      clear n0_ n1_ n2_ n3_ n4_ n5_ n6_ n7_ n8_ n9_ n10_ n11_ n12_ n13_ n14_ n15_ n16_ n17_ n18_ n19_ n20_ n21_ n22_ n23_ n24_ n25_ n26_ n27_ n28_
      have hHeld : w63.cell? ⟨gb144, 0, none⟩ = some (.int .u64 t137) ∧ w63.cell? ⟨gb144, 1, none⟩ = some (.int .u64 t138) ∧ w63.cell? ⟨gb144, 2, none⟩ = some (.int .u64 t139) ∧ w63.cell? ⟨gb144, 3, none⟩ = some (.int .u64 t140) ∧ w63.cell? ⟨gb136, 0, none⟩ = some (.int .u64 a1_0) ∧ w63.cell? ⟨gb136, 1, none⟩ = some (.int .u64 a1_1) := hS_
      refine norm_ (a' := ?_) ?_ ?_
      rotate_left
      ·simp only [putAll, Act.put, List.setIfInBounds_toArray, List.set_cons_zero, List.set_cons_succ]
       rfl
      refine one_ (i := 7) (N := some 50) (bA 12 1023) rfl rfl (one_of HT_.out (by kernel_rfl)) (by decide) (fun K hK => ?_)
      refine goes_ Try.func14 (by kernel_rfl) rfl #[.agg #[.int .u64 t137, .int .u64 t138], .agg #[.int .u64 a1_0, .int .u64 a1_1]] (by rfl) rfl rfl (by (try simp only [List.map_toArray, List.map_cons, List.map_nil]); first | done | rfl | (simp only [List.length_drop, List.length_take]; rfl)) ?_
      with_reducible refine (limb_Mul.calls t137 t138 a1_0 a1_1 t151 t152 t153 t154 _ A27.out).mono ?_
      rintro e w64 ⟨rfl, hb⟩
      refine ⟨_, rfl, ?_⟩
      have n0_ := Aside0.mk (bB (g := gb135) (o := .cells #[.int .u64 a0_0, .int .u64 a0_1, .int .u64 a0_2, .int .u64 a0_3] 26 (0, 0)) (by (with_reducible repeat (first | refine bN ?_ _ | refine bD ?_ | refine bL ?_ _)); exact BK135.out) hb)
      have n1_ := Aside0.mk (bB (g := gb136) (o := .cells #[.int .u64 a1_0, .int .u64 a1_1] 24 (0, 0)) (by (with_reducible repeat (first | refine bN ?_ _ | refine bD ?_ | refine bL ?_ _)); exact BK136.out) hb)
      have n2_ := Aside0.mk (bB (g := gb144) (o := .cells #[.int .u64 t137, .int .u64 t138, .int .u64 t139, .int .u64 t140] 26 (0, 0)) (by (with_reducible repeat (first | refine bN ?_ _ | refine bD ?_ | refine bL ?_ _)); exact BK144.out) hb)
      have n3_ := Aside0.mk (bB (g := gb145) (o := .cells #[.int .u64 t141, .int .u64 t142] 24 (0, 0)) (by (with_reducible repeat (first | refine bN ?_ _ | refine bD ?_ | refine bL ?_ _)); exact BK145.out) hb)
      have n4_ := Aside0.mk (bB (g := gb155) (o := .cells #[.int .u64 0, .int .u64 0, .int .u64 0, .int .u64 0] 26 (0, 0)) (by (with_reducible repeat (first | refine bN ?_ _ | refine bD ?_ | refine bL ?_ _)); exact BK155.out) hb)
      have n5_ := Aside0.mk (bB (g := gb156) (o := .cells #[.int .u64 0, .int .u64 0, .int .u64 0, .int .u64 0] 26 (0, 0)) (by (with_reducible repeat (first | refine bN ?_ _ | refine bD ?_ | refine bL ?_ _)); exact BK156.out) hb)
      have n6_ := Aside0.mk (below_step (by repeat (first | (with_reducible first | exact HB.out | apply below_alloc | apply pN | apply dI | refine below_set ?_ GE135.out | refine below_set ?_ GE136.out | refine below_set ?_ GE144.out | refine below_set ?_ GE145.out | refine below_set ?_ GE155.out | refine below_set ?_ GE156.out) | exact HB.out)) hb)
      clear BK135
      clear BK136
      clear BK144
      clear BK145
      clear BK155
      clear BK156
      clear HB
      have BK135 := n0_
      have BK136 := n1_
      have BK144 := n2_
      have BK145 := n3_
      have BK155 := n4_
      have BK156 := n5_
      have HB := n6_
      clear n0_ n1_ n2_ n3_ n4_ n5_ n6_
      (try clear hb)
      (try clear hb2)
      (try clear hk)
      (try clear hi)
      refine hK.out _ _ ⟨(bC BK144.out 0).trans rfl, (bC BK144.out 1).trans rfl, (bC BK144.out 2).trans rfl, (bC BK144.out 3).trans rfl, (bC BK136.out 0).trans rfl, (bC BK136.out 1).trans rfl⟩ (fun hHeld => ?_)
      clear hK K
      refine norm_ (a' := ?_) ?_ ?_
      rotate_left
      ·show Act.put _ (some 50) _ = _
       simp only [Act.put, List.setIfInBounds_toArray, List.set_cons_zero, List.set_cons_succ, i64_w, i32_w]
       rfl
      exact norm_ (by first | (simp only [putAll, Act.put, List.setIfInBounds_toArray, List.set_cons_zero, List.set_cons_succ]; done) | (simp only [putAll, Act.put, List.setIfInBounds_toArray, List.set_cons_zero, List.set_cons_succ]; rfl)) (hJ3_7_8_9 (gb155, gb156) _ ⟨hHeld, (by (with_reducible repeat (first | refine bN ?_ _ | refine bD ?_ | refine bL ?_ _)); exact BK135.out), (by (with_reducible repeat (first | refine bN ?_ _ | refine bD ?_ | refine bL ?_ _)); exact BK136.out), (by (with_reducible repeat (first | refine bN ?_ _ | refine bD ?_ | refine bL ?_ _)); exact BK144.out), (by (with_reducible repeat (first | refine bN ?_ _ | refine bD ?_ | refine bL ?_ _)); exact BK145.out), (by (with_reducible repeat (first | refine bN ?_ _ | refine bD ?_ | refine bL ?_ _)); exact BK155.out), (by (with_reducible repeat (first | refine bN ?_ _ | refine bD ?_ | refine bL ?_ _)); exact BK156.out), GW155.out, GE155.out, NB135_155.out, NB155_135.out, NB136_155.out, NB155_136.out, NB144_155.out, NB155_144.out, NB145_155.out, NB155_145.out, NB156_155.out, NB155_156.out, GW156.out, GE156.out, NB135_156.out, NB156_135.out, NB136_156.out, NB156_136.out, NB144_156.out, NB156_144.out, NB145_156.out, NB156_145.out, (by repeat (first | (with_reducible first | exact HB.out | apply below_alloc | apply pN | apply dI | refine below_set ?_ GE135.out | refine below_set ?_ GE136.out | refine below_set ?_ GE144.out | refine below_set ?_ GE145.out | refine below_set ?_ GE155.out | refine below_set ?_ GE156.out) | exact HB.out))⟩)
    ·skip
     rintro gb156 w63 ⟨hS_, h0_, h1_, h2_, h3_, h4_, h5_, h6_, h7_, h8_, h9_, h10_, h11_, h12_, h13_, h14_, h15_⟩
     have n0_ : Aside0 (w63.heap[gb135]? = some (.cells #[.int .u64 a0_0, .int .u64 a0_1, .int .u64 a0_2, .int .u64 a0_3] 26 (0, 0))) := ⟨h0_⟩
     have n1_ : Aside0 (w63.heap[gb136]? = some (.cells #[.int .u64 a1_0, .int .u64 a1_1] 24 (0, 0))) := ⟨h1_⟩
     have n2_ : Aside0 (w63.heap[gb144]? = some (.cells #[.int .u64 t137, .int .u64 t138, .int .u64 t139, .int .u64 t140] 26 (0, 0))) := ⟨h2_⟩
     have n3_ : Aside0 (w63.heap[gb145]? = some (.cells #[.int .u64 t141, .int .u64 t142] 24 (0, 0))) := ⟨h3_⟩
     have n4_ : Aside0 (w63.heap[gb156]? = some (.cells #[.int .u64 0, .int .u64 0, .int .u64 0, .int .u64 0] 26 (0, 0))) := ⟨h4_⟩
     have n5_ : Aside0 (w.heap.size ≤ gb156) := ⟨h5_⟩
     have n6_ : Aside0 (w.heap.size ≤ gb156) := ⟨h6_⟩
     have n7_ : Aside0 (gb135 ≠ gb156) := ⟨h7_⟩
     have n8_ : Aside0 (gb156 ≠ gb135) := ⟨h8_⟩
     have n9_ : Aside0 (gb136 ≠ gb156) := ⟨h9_⟩
     have n10_ : Aside0 (gb156 ≠ gb136) := ⟨h10_⟩
     have n11_ : Aside0 (gb144 ≠ gb156) := ⟨h11_⟩
     have n12_ : Aside0 (gb156 ≠ gb144) := ⟨h12_⟩
     have n13_ : Aside0 (gb145 ≠ gb156) := ⟨h13_⟩
     have n14_ : Aside0 (gb156 ≠ gb145) := ⟨h14_⟩
     have n15_ : Aside0 (Below w.heap.size w w63) := ⟨h15_⟩
     clear BK135
     clear BK136
     clear BK144
     clear BK145
     clear HB
     clear h0_ h1_ h2_ h3_ h4_ h5_ h6_ h7_ h8_ h9_ h10_ h11_ h12_ h13_ h14_ h15_
     have BK135 := n0_
     have BK136 := n1_
     have BK144 := n2_
     have BK145 := n3_
     have BK156 := n4_
     have GW156 := n5_
     have GE156 := n6_
     have NB135_156 := n7_
     have NB156_135 := n8_
     have NB136_156 := n9_
     have NB156_136 := n10_
     have NB144_156 := n11_
     have NB156_144 := n12_
     have NB145_156 := n13_
     have NB156_145 := n14_
     have HB := n15_
     clear n0_ n1_ n2_ n3_ n4_ n5_ n6_ n7_ n8_ n9_ n10_ n11_ n12_ n13_ n14_ n15_
     have hHeld : w63.cell? ⟨gb144, 0, none⟩ = some (.int .u64 t137) ∧ w63.cell? ⟨gb144, 1, none⟩ = some (.int .u64 t138) ∧ w63.cell? ⟨gb144, 2, none⟩ = some (.int .u64 t139) ∧ w63.cell? ⟨gb144, 3, none⟩ = some (.int .u64 t140) ∧ w63.cell? ⟨gb136, 0, none⟩ = some (.int .u64 a1_0) ∧ w63.cell? ⟨gb136, 1, none⟩ = some (.int .u64 a1_1) := hS_
     refine norm_ (a' := ?_) ?_ ?_
     rotate_left
     ·simp only [putAll, Act.put, List.setIfInBounds_toArray, List.set_cons_zero, List.set_cons_succ]
      rfl
     refine one_ (i := 8) (N := some 8) (bA 12 1023) rfl rfl (one_of HT_.out (by kernel_rfl)) (by decide) (fun K hK => ?_)
     refine box_step ?hg (N := 8) ?hd (cs := #[.int .u64 0, .int .u64 0, .int .u64 0, .int .u64 0]) (t := 26) ?hr ?_; (case hd => rfl); (case hg => rfl); (case hr => first | (go_simp; done) | (go_simp; rfl))
     intro gb155 hg w64 hbox hb
     have n0_ := Aside0.mk (bB (g := gb135) (o := .cells #[.int .u64 a0_0, .int .u64 a0_1, .int .u64 a0_2, .int .u64 a0_3] 26 (0, 0)) (by (with_reducible repeat (first | refine bN ?_ _ | refine bD ?_ | refine bL ?_ _)); exact BK135.out) hb)
     have n1_ := Aside0.mk (bB (g := gb136) (o := .cells #[.int .u64 a1_0, .int .u64 a1_1] 24 (0, 0)) (by (with_reducible repeat (first | refine bN ?_ _ | refine bD ?_ | refine bL ?_ _)); exact BK136.out) hb)
     have n2_ := Aside0.mk (bB (g := gb144) (o := .cells #[.int .u64 t137, .int .u64 t138, .int .u64 t139, .int .u64 t140] 26 (0, 0)) (by (with_reducible repeat (first | refine bN ?_ _ | refine bD ?_ | refine bL ?_ _)); exact BK144.out) hb)
     have n3_ := Aside0.mk (bB (g := gb145) (o := .cells #[.int .u64 t141, .int .u64 t142] 24 (0, 0)) (by (with_reducible repeat (first | refine bN ?_ _ | refine bD ?_ | refine bL ?_ _)); exact BK145.out) hb)
     have n4_ := Aside0.mk (bB (g := gb156) (o := .cells #[.int .u64 0, .int .u64 0, .int .u64 0, .int .u64 0] 26 (0, 0)) (by (with_reducible repeat (first | refine bN ?_ _ | refine bD ?_ | refine bL ?_ _)); exact BK156.out) hb)
     have n5_ := Aside0.mk (below_step (by repeat (first | (with_reducible first | exact HB.out | apply below_alloc | apply pN | apply dI | refine below_set ?_ GE135.out | refine below_set ?_ GE136.out | refine below_set ?_ GE144.out | refine below_set ?_ GE145.out | refine below_set ?_ GE156.out) | exact HB.out)) hb)
     have n6_ := Aside0.mk (hbox)
     have n7_ := Aside0.mk ((by rw [hg]; exact (below_size (by repeat (first | (with_reducible first | exact HB.out | apply below_alloc | apply pN | apply dI | refine below_set ?_ GE135.out | refine below_set ?_ GE136.out | refine below_set ?_ GE144.out | refine below_set ?_ GE145.out | refine below_set ?_ GE156.out) | exact HB.out))) : w.heap.size ≤ gb155))
     have n8_ := Aside0.mk ((by rw [hg]; exact (below_size (by repeat (first | (with_reducible first | exact HB.out | apply below_alloc | apply pN | apply dI | refine below_set ?_ GE135.out | refine below_set ?_ GE136.out | refine below_set ?_ GE144.out | refine below_set ?_ GE145.out | refine below_set ?_ GE156.out) | exact HB.out))) : w.heap.size ≤ gb155))
     have n9_ := Aside0.mk ((by rw [hg]; exact Nat.ne_of_lt (blk_lt (g := gb135) (o := .cells #[.int .u64 a0_0, .int .u64 a0_1, .int .u64 a0_2, .int .u64 a0_3] 26 (0, 0)) (by (with_reducible repeat (first | refine bN ?_ _ | refine bD ?_ | refine bL ?_ _)); exact BK135.out)) : gb135 ≠ gb155))
     have n10_ := Aside0.mk ((by rw [hg]; exact Nat.ne_of_gt (blk_lt (g := gb135) (o := .cells #[.int .u64 a0_0, .int .u64 a0_1, .int .u64 a0_2, .int .u64 a0_3] 26 (0, 0)) (by (with_reducible repeat (first | refine bN ?_ _ | refine bD ?_ | refine bL ?_ _)); exact BK135.out)) : gb155 ≠ gb135))
     have n11_ := Aside0.mk ((by rw [hg]; exact Nat.ne_of_lt (blk_lt (g := gb136) (o := .cells #[.int .u64 a1_0, .int .u64 a1_1] 24 (0, 0)) (by (with_reducible repeat (first | refine bN ?_ _ | refine bD ?_ | refine bL ?_ _)); exact BK136.out)) : gb136 ≠ gb155))
     have n12_ := Aside0.mk ((by rw [hg]; exact Nat.ne_of_gt (blk_lt (g := gb136) (o := .cells #[.int .u64 a1_0, .int .u64 a1_1] 24 (0, 0)) (by (with_reducible repeat (first | refine bN ?_ _ | refine bD ?_ | refine bL ?_ _)); exact BK136.out)) : gb155 ≠ gb136))
     have n13_ := Aside0.mk ((by rw [hg]; exact Nat.ne_of_lt (blk_lt (g := gb144) (o := .cells #[.int .u64 t137, .int .u64 t138, .int .u64 t139, .int .u64 t140] 26 (0, 0)) (by (with_reducible repeat (first | refine bN ?_ _ | refine bD ?_ | refine bL ?_ _)); exact BK144.out)) : gb144 ≠ gb155))
     have n14_ := Aside0.mk ((by rw [hg]; exact Nat.ne_of_gt (blk_lt (g := gb144) (o := .cells #[.int .u64 t137, .int .u64 t138, .int .u64 t139, .int .u64 t140] 26 (0, 0)) (by (with_reducible repeat (first | refine bN ?_ _ | refine bD ?_ | refine bL ?_ _)); exact BK144.out)) : gb155 ≠ gb144))
     have n15_ := Aside0.mk ((by rw [hg]; exact Nat.ne_of_lt (blk_lt (g := gb145) (o := .cells #[.int .u64 t141, .int .u64 t142] 24 (0, 0)) (by (with_reducible repeat (first | refine bN ?_ _ | refine bD ?_ | refine bL ?_ _)); exact BK145.out)) : gb145 ≠ gb155))
     have n16_ := Aside0.mk ((by rw [hg]; exact Nat.ne_of_gt (blk_lt (g := gb145) (o := .cells #[.int .u64 t141, .int .u64 t142] 24 (0, 0)) (by (with_reducible repeat (first | refine bN ?_ _ | refine bD ?_ | refine bL ?_ _)); exact BK145.out)) : gb155 ≠ gb145))
     have n17_ := Aside0.mk ((by rw [hg]; exact Nat.ne_of_lt (blk_lt (g := gb156) (o := .cells #[.int .u64 0, .int .u64 0, .int .u64 0, .int .u64 0] 26 (0, 0)) (by (with_reducible repeat (first | refine bN ?_ _ | refine bD ?_ | refine bL ?_ _)); exact BK156.out)) : gb156 ≠ gb155))
     have n18_ := Aside0.mk ((by rw [hg]; exact Nat.ne_of_gt (blk_lt (g := gb156) (o := .cells #[.int .u64 0, .int .u64 0, .int .u64 0, .int .u64 0] 26 (0, 0)) (by (with_reducible repeat (first | refine bN ?_ _ | refine bD ?_ | refine bL ?_ _)); exact BK156.out)) : gb155 ≠ gb156))
     clear BK135
     clear BK136
     clear BK144
     clear BK145
     clear BK156
     clear HB
     have BK135 := n0_
     have BK136 := n1_
     have BK144 := n2_
     have BK145 := n3_
     have BK156 := n4_
     have HB := n5_
     have BK155 := n6_
     have GW155 := n7_
     have GE155 := n8_
     have NB135_155 := n9_
     have NB155_135 := n10_
     have NB136_155 := n11_
     have NB155_136 := n12_
     have NB144_155 := n13_
     have NB155_144 := n14_
     have NB145_155 := n15_
     have NB155_145 := n16_
     have NB156_155 := n17_
     have NB155_156 := n18_
     clear n0_ n1_ n2_ n3_ n4_ n5_ n6_ n7_ n8_ n9_ n10_ n11_ n12_ n13_ n14_ n15_ n16_ n17_ n18_
     clear hb hbox hg
     refine hK.out _ _ ⟨(bC BK144.out 0).trans rfl, (bC BK144.out 1).trans rfl, (bC BK144.out 2).trans rfl, (bC BK144.out 3).trans rfl, (bC BK136.out 0).trans rfl, (bC BK136.out 1).trans rfl⟩ (fun hHeld => ?_)
     clear hK K
     refine norm_ (a' := ?_) ?_ ?_
     rotate_left
     ·show Act.put _ (some 8) _ = _
      simp only [Act.put, List.setIfInBounds_toArray, List.set_cons_zero, List.set_cons_succ, i64_w, i32_w]
      rfl
     exact norm_ (by first | (simp only [putAll, Act.put, List.setIfInBounds_toArray, List.set_cons_zero, List.set_cons_succ]; done) | (simp only [putAll, Act.put, List.setIfInBounds_toArray, List.set_cons_zero, List.set_cons_succ]; rfl)) (hJ3_7_8_9 (gb155, gb156) _ ⟨hHeld, (by (with_reducible repeat (first | refine bN ?_ _ | refine bD ?_ | refine bL ?_ _)); exact BK135.out), (by (with_reducible repeat (first | refine bN ?_ _ | refine bD ?_ | refine bL ?_ _)); exact BK136.out), (by (with_reducible repeat (first | refine bN ?_ _ | refine bD ?_ | refine bL ?_ _)); exact BK144.out), (by (with_reducible repeat (first | refine bN ?_ _ | refine bD ?_ | refine bL ?_ _)); exact BK145.out), (by (with_reducible repeat (first | refine bN ?_ _ | refine bD ?_ | refine bL ?_ _)); exact BK155.out), (by (with_reducible repeat (first | refine bN ?_ _ | refine bD ?_ | refine bL ?_ _)); exact BK156.out), GW155.out, GE155.out, NB135_155.out, NB155_135.out, NB136_155.out, NB155_136.out, NB144_155.out, NB155_144.out, NB145_155.out, NB155_145.out, NB156_155.out, NB155_156.out, GW156.out, GE156.out, NB135_156.out, NB156_135.out, NB136_156.out, NB156_136.out, NB144_156.out, NB156_144.out, NB145_156.out, NB156_145.out, (by repeat (first | (with_reducible first | exact HB.out | apply below_alloc | apply pN | apply dI | refine below_set ?_ GE135.out | refine below_set ?_ GE136.out | refine below_set ?_ GE144.out | refine below_set ?_ GE145.out | refine below_set ?_ GE156.out | refine below_set ?_ GE155.out) | exact HB.out))⟩)
   ·skip
    rintro gb155 w63 ⟨hS_, h0_, h1_, h2_, h3_, h4_, h5_, h6_, h7_, h8_, h9_, h10_, h11_, h12_, h13_, h14_, h15_⟩
    have n0_ : Aside0 (w63.heap[gb135]? = some (.cells #[.int .u64 a0_0, .int .u64 a0_1, .int .u64 a0_2, .int .u64 a0_3] 26 (0, 0))) := ⟨h0_⟩
    have n1_ : Aside0 (w63.heap[gb136]? = some (.cells #[.int .u64 a1_0, .int .u64 a1_1] 24 (0, 0))) := ⟨h1_⟩
    have n2_ : Aside0 (w63.heap[gb144]? = some (.cells #[.int .u64 t137, .int .u64 t138, .int .u64 t139, .int .u64 t140] 26 (0, 0))) := ⟨h2_⟩
    have n3_ : Aside0 (w63.heap[gb145]? = some (.cells #[.int .u64 t141, .int .u64 t142] 24 (0, 0))) := ⟨h3_⟩
    have n4_ : Aside0 (w63.heap[gb155]? = some (.cells #[.int .u64 0, .int .u64 0, .int .u64 0, .int .u64 0] 26 (0, 0))) := ⟨h4_⟩
    have n5_ : Aside0 (w.heap.size ≤ gb155) := ⟨h5_⟩
    have n6_ : Aside0 (w.heap.size ≤ gb155) := ⟨h6_⟩
    have n7_ : Aside0 (gb135 ≠ gb155) := ⟨h7_⟩
    have n8_ : Aside0 (gb155 ≠ gb135) := ⟨h8_⟩
    have n9_ : Aside0 (gb136 ≠ gb155) := ⟨h9_⟩
    have n10_ : Aside0 (gb155 ≠ gb136) := ⟨h10_⟩
    have n11_ : Aside0 (gb144 ≠ gb155) := ⟨h11_⟩
    have n12_ : Aside0 (gb155 ≠ gb144) := ⟨h12_⟩
    have n13_ : Aside0 (gb145 ≠ gb155) := ⟨h13_⟩
    have n14_ : Aside0 (gb155 ≠ gb145) := ⟨h14_⟩
    have n15_ : Aside0 (Below w.heap.size w w63) := ⟨h15_⟩
    clear BK135
    clear BK136
    clear BK144
    clear BK145
    clear HB
    clear h0_ h1_ h2_ h3_ h4_ h5_ h6_ h7_ h8_ h9_ h10_ h11_ h12_ h13_ h14_ h15_
    have BK135 := n0_
    have BK136 := n1_
    have BK144 := n2_
    have BK145 := n3_
    have BK155 := n4_
    have GW155 := n5_
    have GE155 := n6_
    have NB135_155 := n7_
    have NB155_135 := n8_
    have NB136_155 := n9_
    have NB155_136 := n10_
    have NB144_155 := n11_
    have NB155_144 := n12_
    have NB145_155 := n13_
    have NB155_145 := n14_
    have HB := n15_
    clear n0_ n1_ n2_ n3_ n4_ n5_ n6_ n7_ n8_ n9_ n10_ n11_ n12_ n13_ n14_ n15_
    have hHeld : w63.cell? ⟨gb144, 0, none⟩ = some (.int .u64 t137) ∧ w63.cell? ⟨gb144, 1, none⟩ = some (.int .u64 t138) ∧ w63.cell? ⟨gb144, 2, none⟩ = some (.int .u64 t139) ∧ w63.cell? ⟨gb144, 3, none⟩ = some (.int .u64 t140) ∧ w63.cell? ⟨gb136, 0, none⟩ = some (.int .u64 a1_0) ∧ w63.cell? ⟨gb136, 1, none⟩ = some (.int .u64 a1_1) := hS_
    refine norm_ (a' := ?_) ?_ ?_
    rotate_left
    ·simp only [putAll, Act.put, List.setIfInBounds_toArray, List.set_cons_zero, List.set_cons_succ]
     rfl
    refine one_ (i := 9) (N := some 9) (bA 12 1023) rfl rfl (one_of HT_.out (by kernel_rfl)) (by decide) (fun K hK => ?_)
    refine box_step ?hg (N := 9) ?hd (cs := #[.int .u64 0, .int .u64 0, .int .u64 0, .int .u64 0]) (t := 26) ?hr ?_; (case hd => rfl); (case hg => rfl); (case hr => first | (go_simp; done) | (go_simp; rfl))
    intro gb156 hg w64 hbox hb
    have n0_ := Aside0.mk (bB (g := gb135) (o := .cells #[.int .u64 a0_0, .int .u64 a0_1, .int .u64 a0_2, .int .u64 a0_3] 26 (0, 0)) (by (with_reducible repeat (first | refine bN ?_ _ | refine bD ?_ | refine bL ?_ _)); exact BK135.out) hb)
    have n1_ := Aside0.mk (bB (g := gb136) (o := .cells #[.int .u64 a1_0, .int .u64 a1_1] 24 (0, 0)) (by (with_reducible repeat (first | refine bN ?_ _ | refine bD ?_ | refine bL ?_ _)); exact BK136.out) hb)
    have n2_ := Aside0.mk (bB (g := gb144) (o := .cells #[.int .u64 t137, .int .u64 t138, .int .u64 t139, .int .u64 t140] 26 (0, 0)) (by (with_reducible repeat (first | refine bN ?_ _ | refine bD ?_ | refine bL ?_ _)); exact BK144.out) hb)
    have n3_ := Aside0.mk (bB (g := gb145) (o := .cells #[.int .u64 t141, .int .u64 t142] 24 (0, 0)) (by (with_reducible repeat (first | refine bN ?_ _ | refine bD ?_ | refine bL ?_ _)); exact BK145.out) hb)
    have n4_ := Aside0.mk (bB (g := gb155) (o := .cells #[.int .u64 0, .int .u64 0, .int .u64 0, .int .u64 0] 26 (0, 0)) (by (with_reducible repeat (first | refine bN ?_ _ | refine bD ?_ | refine bL ?_ _)); exact BK155.out) hb)
    have n5_ := Aside0.mk (below_step (by repeat (first | (with_reducible first | exact HB.out | apply below_alloc | apply pN | apply dI | refine below_set ?_ GE135.out | refine below_set ?_ GE136.out | refine below_set ?_ GE144.out | refine below_set ?_ GE145.out | refine below_set ?_ GE155.out) | exact HB.out)) hb)
    have n6_ := Aside0.mk (hbox)
    have n7_ := Aside0.mk ((by rw [hg]; exact (below_size (by repeat (first | (with_reducible first | exact HB.out | apply below_alloc | apply pN | apply dI | refine below_set ?_ GE135.out | refine below_set ?_ GE136.out | refine below_set ?_ GE144.out | refine below_set ?_ GE145.out | refine below_set ?_ GE155.out) | exact HB.out))) : w.heap.size ≤ gb156))
    have n8_ := Aside0.mk ((by rw [hg]; exact (below_size (by repeat (first | (with_reducible first | exact HB.out | apply below_alloc | apply pN | apply dI | refine below_set ?_ GE135.out | refine below_set ?_ GE136.out | refine below_set ?_ GE144.out | refine below_set ?_ GE145.out | refine below_set ?_ GE155.out) | exact HB.out))) : w.heap.size ≤ gb156))
    have n9_ := Aside0.mk ((by rw [hg]; exact Nat.ne_of_lt (blk_lt (g := gb135) (o := .cells #[.int .u64 a0_0, .int .u64 a0_1, .int .u64 a0_2, .int .u64 a0_3] 26 (0, 0)) (by (with_reducible repeat (first | refine bN ?_ _ | refine bD ?_ | refine bL ?_ _)); exact BK135.out)) : gb135 ≠ gb156))
    have n10_ := Aside0.mk ((by rw [hg]; exact Nat.ne_of_gt (blk_lt (g := gb135) (o := .cells #[.int .u64 a0_0, .int .u64 a0_1, .int .u64 a0_2, .int .u64 a0_3] 26 (0, 0)) (by (with_reducible repeat (first | refine bN ?_ _ | refine bD ?_ | refine bL ?_ _)); exact BK135.out)) : gb156 ≠ gb135))
    have n11_ := Aside0.mk ((by rw [hg]; exact Nat.ne_of_lt (blk_lt (g := gb136) (o := .cells #[.int .u64 a1_0, .int .u64 a1_1] 24 (0, 0)) (by (with_reducible repeat (first | refine bN ?_ _ | refine bD ?_ | refine bL ?_ _)); exact BK136.out)) : gb136 ≠ gb156))
    have n12_ := Aside0.mk ((by rw [hg]; exact Nat.ne_of_gt (blk_lt (g := gb136) (o := .cells #[.int .u64 a1_0, .int .u64 a1_1] 24 (0, 0)) (by (with_reducible repeat (first | refine bN ?_ _ | refine bD ?_ | refine bL ?_ _)); exact BK136.out)) : gb156 ≠ gb136))
    have n13_ := Aside0.mk ((by rw [hg]; exact Nat.ne_of_lt (blk_lt (g := gb144) (o := .cells #[.int .u64 t137, .int .u64 t138, .int .u64 t139, .int .u64 t140] 26 (0, 0)) (by (with_reducible repeat (first | refine bN ?_ _ | refine bD ?_ | refine bL ?_ _)); exact BK144.out)) : gb144 ≠ gb156))
    have n14_ := Aside0.mk ((by rw [hg]; exact Nat.ne_of_gt (blk_lt (g := gb144) (o := .cells #[.int .u64 t137, .int .u64 t138, .int .u64 t139, .int .u64 t140] 26 (0, 0)) (by (with_reducible repeat (first | refine bN ?_ _ | refine bD ?_ | refine bL ?_ _)); exact BK144.out)) : gb156 ≠ gb144))
    have n15_ := Aside0.mk ((by rw [hg]; exact Nat.ne_of_lt (blk_lt (g := gb145) (o := .cells #[.int .u64 t141, .int .u64 t142] 24 (0, 0)) (by (with_reducible repeat (first | refine bN ?_ _ | refine bD ?_ | refine bL ?_ _)); exact BK145.out)) : gb145 ≠ gb156))
    have n16_ := Aside0.mk ((by rw [hg]; exact Nat.ne_of_gt (blk_lt (g := gb145) (o := .cells #[.int .u64 t141, .int .u64 t142] 24 (0, 0)) (by (with_reducible repeat (first | refine bN ?_ _ | refine bD ?_ | refine bL ?_ _)); exact BK145.out)) : gb156 ≠ gb145))
    have n17_ := Aside0.mk ((by rw [hg]; exact Nat.ne_of_lt (blk_lt (g := gb155) (o := .cells #[.int .u64 0, .int .u64 0, .int .u64 0, .int .u64 0] 26 (0, 0)) (by (with_reducible repeat (first | refine bN ?_ _ | refine bD ?_ | refine bL ?_ _)); exact BK155.out)) : gb155 ≠ gb156))
    have n18_ := Aside0.mk ((by rw [hg]; exact Nat.ne_of_gt (blk_lt (g := gb155) (o := .cells #[.int .u64 0, .int .u64 0, .int .u64 0, .int .u64 0] 26 (0, 0)) (by (with_reducible repeat (first | refine bN ?_ _ | refine bD ?_ | refine bL ?_ _)); exact BK155.out)) : gb156 ≠ gb155))
    clear BK135
    clear BK136
    clear BK144
    clear BK145
    clear BK155
    clear HB
    have BK135 := n0_
    have BK136 := n1_
    have BK144 := n2_
    have BK145 := n3_
    have BK155 := n4_
    have HB := n5_
    have BK156 := n6_
    have GW156 := n7_
    have GE156 := n8_
    have NB135_156 := n9_
    have NB156_135 := n10_
    have NB136_156 := n11_
    have NB156_136 := n12_
    have NB144_156 := n13_
    have NB156_144 := n14_
    have NB145_156 := n15_
    have NB156_145 := n16_
    have NB155_156 := n17_
    have NB156_155 := n18_
    clear n0_ n1_ n2_ n3_ n4_ n5_ n6_ n7_ n8_ n9_ n10_ n11_ n12_ n13_ n14_ n15_ n16_ n17_ n18_
    clear hb hbox hg
    refine hK.out _ _ ⟨(bC BK144.out 0).trans rfl, (bC BK144.out 1).trans rfl, (bC BK144.out 2).trans rfl, (bC BK144.out 3).trans rfl, (bC BK136.out 0).trans rfl, (bC BK136.out 1).trans rfl⟩ (fun hHeld => ?_)
    clear hK K
    refine norm_ (a' := ?_) ?_ ?_
    rotate_left
    ·show Act.put _ (some 9) _ = _
     simp only [Act.put, List.setIfInBounds_toArray, List.set_cons_zero, List.set_cons_succ, i64_w, i32_w]
     rfl
    exact norm_ (by first | (simp only [putAll, Act.put, List.setIfInBounds_toArray, List.set_cons_zero, List.set_cons_succ]; done) | (simp only [putAll, Act.put, List.setIfInBounds_toArray, List.set_cons_zero, List.set_cons_succ]; rfl)) (hJ3_7_8_9 (gb155, gb156) _ ⟨hHeld, (by (with_reducible repeat (first | refine bN ?_ _ | refine bD ?_ | refine bL ?_ _)); exact BK135.out), (by (with_reducible repeat (first | refine bN ?_ _ | refine bD ?_ | refine bL ?_ _)); exact BK136.out), (by (with_reducible repeat (first | refine bN ?_ _ | refine bD ?_ | refine bL ?_ _)); exact BK144.out), (by (with_reducible repeat (first | refine bN ?_ _ | refine bD ?_ | refine bL ?_ _)); exact BK145.out), (by (with_reducible repeat (first | refine bN ?_ _ | refine bD ?_ | refine bL ?_ _)); exact BK155.out), (by (with_reducible repeat (first | refine bN ?_ _ | refine bD ?_ | refine bL ?_ _)); exact BK156.out), GW155.out, GE155.out, NB135_155.out, NB155_135.out, NB136_155.out, NB155_136.out, NB144_155.out, NB155_144.out, NB145_155.out, NB155_145.out, NB156_155.out, NB155_156.out, GW156.out, GE156.out, NB135_156.out, NB156_135.out, NB136_156.out, NB156_136.out, NB144_156.out, NB156_144.out, NB145_156.out, NB156_145.out, (by repeat (first | (with_reducible first | exact HB.out | apply below_alloc | apply pN | apply dI | refine below_set ?_ GE135.out | refine below_set ?_ GE136.out | refine below_set ?_ GE144.out | refine below_set ?_ GE145.out | refine below_set ?_ GE155.out | refine below_set ?_ GE156.out) | exact HB.out))⟩)
  rintro ⟨gb155, gb156⟩ w64 ⟨hS_, h0_, h1_, h2_, h3_, h4_, h5_, h6_, h7_, h8_, h9_, h10_, h11_, h12_, h13_, h14_, h15_, h16_, h17_, h18_, h19_, h20_, h21_, h22_, h23_, h24_, h25_, h26_, h27_, h28_⟩
  have n0_ : Aside0 (w64.heap[gb135]? = some (.cells #[.int .u64 a0_0, .int .u64 a0_1, .int .u64 a0_2, .int .u64 a0_3] 26 (0, 0))) := ⟨h0_⟩
  have n1_ : Aside0 (w64.heap[gb136]? = some (.cells #[.int .u64 a1_0, .int .u64 a1_1] 24 (0, 0))) := ⟨h1_⟩
  have n2_ : Aside0 (w64.heap[gb144]? = some (.cells #[.int .u64 t137, .int .u64 t138, .int .u64 t139, .int .u64 t140] 26 (0, 0))) := ⟨h2_⟩
  have n3_ : Aside0 (w64.heap[gb145]? = some (.cells #[.int .u64 t141, .int .u64 t142] 24 (0, 0))) := ⟨h3_⟩
  have n4_ : Aside0 (w64.heap[gb155]? = some (.cells #[.int .u64 0, .int .u64 0, .int .u64 0, .int .u64 0] 26 (0, 0))) := ⟨h4_⟩
  have n5_ : Aside0 (w64.heap[gb156]? = some (.cells #[.int .u64 0, .int .u64 0, .int .u64 0, .int .u64 0] 26 (0, 0))) := ⟨h5_⟩
  have n6_ : Aside0 (w.heap.size ≤ gb155) := ⟨h6_⟩
  have n7_ : Aside0 (w.heap.size ≤ gb155) := ⟨h7_⟩
  have n8_ : Aside0 (gb135 ≠ gb155) := ⟨h8_⟩
  have n9_ : Aside0 (gb155 ≠ gb135) := ⟨h9_⟩
  have n10_ : Aside0 (gb136 ≠ gb155) := ⟨h10_⟩
  have n11_ : Aside0 (gb155 ≠ gb136) := ⟨h11_⟩
  have n12_ : Aside0 (gb144 ≠ gb155) := ⟨h12_⟩
  have n13_ : Aside0 (gb155 ≠ gb144) := ⟨h13_⟩
  have n14_ : Aside0 (gb145 ≠ gb155) := ⟨h14_⟩
  have n15_ : Aside0 (gb155 ≠ gb145) := ⟨h15_⟩
  have n16_ : Aside0 (gb156 ≠ gb155) := ⟨h16_⟩
  have n17_ : Aside0 (gb155 ≠ gb156) := ⟨h17_⟩
  have n18_ : Aside0 (w.heap.size ≤ gb156) := ⟨h18_⟩
  have n19_ : Aside0 (w.heap.size ≤ gb156) := ⟨h19_⟩
  have n20_ : Aside0 (gb135 ≠ gb156) := ⟨h20_⟩
  have n21_ : Aside0 (gb156 ≠ gb135) := ⟨h21_⟩
  have n22_ : Aside0 (gb136 ≠ gb156) := ⟨h22_⟩
  have n23_ : Aside0 (gb156 ≠ gb136) := ⟨h23_⟩
  have n24_ : Aside0 (gb144 ≠ gb156) := ⟨h24_⟩
  have n25_ : Aside0 (gb156 ≠ gb144) := ⟨h25_⟩
  have n26_ : Aside0 (gb145 ≠ gb156) := ⟨h26_⟩
  have n27_ : Aside0 (gb156 ≠ gb145) := ⟨h27_⟩
  have n28_ : Aside0 (Below w.heap.size w w64) := ⟨h28_⟩
  clear BK135
  clear BK136
  clear BK144
  clear BK145
  clear HB
  clear h0_ h1_ h2_ h3_ h4_ h5_ h6_ h7_ h8_ h9_ h10_ h11_ h12_ h13_ h14_ h15_ h16_ h17_ h18_ h19_ h20_ h21_ h22_ h23_ h24_ h25_ h26_ h27_ h28_
  have BK135 := n0_
  have BK136 := n1_
  have BK144 := n2_
  have BK145 := n3_
  have BK155 := n4_
  have BK156 := n5_
  have GW155 := n6_
  have GE155 := n7_
  have NB135_155 := n8_
  have NB155_135 := n9_
  have NB136_155 := n10_
  have NB155_136 := n11_
  have NB144_155 := n12_
  have NB155_144 := n13_
  have NB145_155 := n14_
  have NB155_145 := n15_
  have NB156_155 := n16_
  have NB155_156 := n17_
  have GW156 := n18_
  have GE156 := n19_
  have NB135_156 := n20_
  have NB156_135 := n21_
  have NB136_156 := n22_
  have NB156_136 := n23_
  have NB144_156 := n24_
  have NB156_144 := n25_
  have NB145_156 := n26_
  have NB156_145 := n27_
  have HB := n28_
  clear n0_ n1_ n2_ n3_ n4_ n5_ n6_ n7_ n8_ n9_ n10_ n11_ n12_ n13_ n14_ n15_ n16_ n17_ n18_ n19_ n20_ n21_ n22_ n23_ n24_ n25_ n26_ n27_ n28_
  have hHeld : w64.cell? ⟨gb144, 0, none⟩ = some (.int .u64 t137) ∧ w64.cell? ⟨gb144, 1, none⟩ = some (.int .u64 t138) ∧ w64.cell? ⟨gb144, 2, none⟩ = some (.int .u64 t139) ∧ w64.cell? ⟨gb144, 3, none⟩ = some (.int .u64 t140) ∧ w64.cell? ⟨gb136, 0, none⟩ = some (.int .u64 a1_0) ∧ w64.cell? ⟨gb136, 1, none⟩ = some (.int .u64 a1_1) := hS_
  refine norm_ (a' := ?_) ?_ ?_
  rotate_left
  ·simp only [putAll, Act.put, List.setIfInBounds_toArray, List.set_cons_zero, List.set_cons_succ]
   rfl
  refine one_ (i := 10) (N := none) (bA 12 2047) rfl rfl (one_of HT_.out (by kernel_rfl)) (by decide) (fun K hK => ?_)
  have hs65 : w64.cell? ⟨gb155, 0, none⟩ = some (.int .u64 0) := (bC BK155.out 0).trans rfl
  have hfs65 := bF BK155.out 0
  have hns65_0 := NB135_155.out
  have hns65_1 := NB136_155.out
  have hns65_2 := NB144_155.out
  have hns65_3 := NB145_155.out
  have hns65_5 := NB156_155.out
  have hms65_0 := NB155_135.out
  have hms65_1 := NB155_136.out
  have hms65_2 := NB155_144.out
  have hms65_3 := NB155_145.out
  have hms65_5 := NB155_156.out
  have hs66 : w64.cell? ⟨gb155, 1, none⟩ = some (.int .u64 0) := (bC BK155.out 1).trans rfl
  have hfs66 := bF BK155.out 1
  have hns66_0 := NB135_155.out
  have hns66_1 := NB136_155.out
  have hns66_2 := NB144_155.out
  have hns66_3 := NB145_155.out
  have hns66_5 := NB156_155.out
  have hms66_0 := NB155_135.out
  have hms66_1 := NB155_136.out
  have hms66_2 := NB155_144.out
  have hms66_3 := NB155_145.out
  have hms66_5 := NB155_156.out
  have hs67 : w64.cell? ⟨gb155, 2, none⟩ = some (.int .u64 0) := (bC BK155.out 2).trans rfl
  have hfs67 := bF BK155.out 2
  have hns67_0 := NB135_155.out
  have hns67_1 := NB136_155.out
  have hns67_2 := NB144_155.out
  have hns67_3 := NB145_155.out
  have hns67_5 := NB156_155.out
  have hms67_0 := NB155_135.out
  have hms67_1 := NB155_136.out
  have hms67_2 := NB155_144.out
  have hms67_3 := NB155_145.out
  have hms67_5 := NB155_156.out
  have hs68 : w64.cell? ⟨gb155, 3, none⟩ = some (.int .u64 0) := (bC BK155.out 3).trans rfl
  have hfs68 := bF BK155.out 3
  have hns68_0 := NB135_155.out
  have hns68_1 := NB136_155.out
  have hns68_2 := NB144_155.out
  have hns68_3 := NB145_155.out
  have hns68_5 := NB156_155.out
  have hms68_0 := NB155_135.out
  have hms68_1 := NB155_136.out
  have hms68_2 := NB155_144.out
  have hms68_3 := NB155_145.out
  have hms68_5 := NB155_156.out
  refine skip_ (w1 := ?_) (by rfl) rfl ?_ ?_
  rotate_left
  ·go_simp
   rfl
  refine hK.out _ _ ⟨((cell_far (p := ⟨gb155, _, none⟩) NB144_155.out _).trans (((cell_far (p := ⟨gb155, _, none⟩) NB144_155.out _).trans (((cell_far (p := ⟨gb155, _, none⟩) NB144_155.out _).trans (((cell_far (p := ⟨gb155, _, none⟩) NB144_155.out _).trans (hHeld.1)))))))), ((cell_far (p := ⟨gb155, _, none⟩) NB144_155.out _).trans (((cell_far (p := ⟨gb155, _, none⟩) NB144_155.out _).trans (((cell_far (p := ⟨gb155, _, none⟩) NB144_155.out _).trans (((cell_far (p := ⟨gb155, _, none⟩) NB144_155.out _).trans (hHeld.2.1)))))))), ((cell_far (p := ⟨gb155, _, none⟩) NB144_155.out _).trans (((cell_far (p := ⟨gb155, _, none⟩) NB144_155.out _).trans (((cell_far (p := ⟨gb155, _, none⟩) NB144_155.out _).trans (((cell_far (p := ⟨gb155, _, none⟩) NB144_155.out _).trans (hHeld.2.2.1)))))))), ((cell_far (p := ⟨gb155, _, none⟩) NB144_155.out _).trans (((cell_far (p := ⟨gb155, _, none⟩) NB144_155.out _).trans (((cell_far (p := ⟨gb155, _, none⟩) NB144_155.out _).trans (((cell_far (p := ⟨gb155, _, none⟩) NB144_155.out _).trans (hHeld.2.2.2.1)))))))), ((cell_far (p := ⟨gb155, _, none⟩) NB136_155.out _).trans (((cell_far (p := ⟨gb155, _, none⟩) NB136_155.out _).trans (((cell_far (p := ⟨gb155, _, none⟩) NB136_155.out _).trans (((cell_far (p := ⟨gb155, _, none⟩) NB136_155.out _).trans (hHeld.2.2.2.2.1)))))))), ((cell_far (p := ⟨gb155, _, none⟩) NB136_155.out _).trans (((cell_far (p := ⟨gb155, _, none⟩) NB136_155.out _).trans (((cell_far (p := ⟨gb155, _, none⟩) NB136_155.out _).trans (((cell_far (p := ⟨gb155, _, none⟩) NB136_155.out _).trans (hHeld.2.2.2.2.2))))))))⟩ (fun hHeld => ?_)
  clear hK K
  refine one_ (i := 11) (N := none) (bA 12 4095) rfl rfl (one_of HT_.out (by kernel_rfl)) (by decide) (fun K hK => ?_)
  have hs69 : w64.cell? ⟨gb156, 0, none⟩ = some (.int .u64 0) := (bC BK156.out 0).trans rfl
  have hfs69 := bF BK156.out 0
  have hns69_0 := NB135_156.out
  have hns69_1 := NB136_156.out
  have hns69_2 := NB144_156.out
  have hns69_3 := NB145_156.out
  have hns69_4 := NB155_156.out
  have hms69_0 := NB156_135.out
  have hms69_1 := NB156_136.out
  have hms69_2 := NB156_144.out
  have hms69_3 := NB156_145.out
  have hms69_4 := NB156_155.out
  have hs70 : w64.cell? ⟨gb156, 1, none⟩ = some (.int .u64 0) := (bC BK156.out 1).trans rfl
  have hfs70 := bF BK156.out 1
  have hns70_0 := NB135_156.out
  have hns70_1 := NB136_156.out
  have hns70_2 := NB144_156.out
  have hns70_3 := NB145_156.out
  have hns70_4 := NB155_156.out
  have hms70_0 := NB156_135.out
  have hms70_1 := NB156_136.out
  have hms70_2 := NB156_144.out
  have hms70_3 := NB156_145.out
  have hms70_4 := NB156_155.out
  have hs71 : w64.cell? ⟨gb156, 2, none⟩ = some (.int .u64 0) := (bC BK156.out 2).trans rfl
  have hfs71 := bF BK156.out 2
  have hns71_0 := NB135_156.out
  have hns71_1 := NB136_156.out
  have hns71_2 := NB144_156.out
  have hns71_3 := NB145_156.out
  have hns71_4 := NB155_156.out
  have hms71_0 := NB156_135.out
  have hms71_1 := NB156_136.out
  have hms71_2 := NB156_144.out
  have hms71_3 := NB156_145.out
  have hms71_4 := NB156_155.out
  have hs72 : w64.cell? ⟨gb156, 3, none⟩ = some (.int .u64 0) := (bC BK156.out 3).trans rfl
  have hfs72 := bF BK156.out 3
  have hns72_0 := NB135_156.out
  have hns72_1 := NB136_156.out
  have hns72_2 := NB144_156.out
  have hns72_3 := NB145_156.out
  have hns72_4 := NB155_156.out
  have hms72_0 := NB156_135.out
  have hms72_1 := NB156_136.out
  have hms72_2 := NB156_144.out
  have hms72_3 := NB156_145.out
  have hms72_4 := NB156_155.out
  refine skip_ (w1 := ?_) (by rfl) rfl ?_ ?_
  rotate_left
  ·go_simp
   rfl
  refine hK.out _ _ ⟨((cell_far (p := ⟨gb156, _, none⟩) NB144_156.out _).trans (((cell_far (p := ⟨gb156, _, none⟩) NB144_156.out _).trans (((cell_far (p := ⟨gb156, _, none⟩) NB144_156.out _).trans (((cell_far (p := ⟨gb156, _, none⟩) NB144_156.out _).trans (hHeld.1)))))))), ((cell_far (p := ⟨gb156, _, none⟩) NB144_156.out _).trans (((cell_far (p := ⟨gb156, _, none⟩) NB144_156.out _).trans (((cell_far (p := ⟨gb156, _, none⟩) NB144_156.out _).trans (((cell_far (p := ⟨gb156, _, none⟩) NB144_156.out _).trans (hHeld.2.1)))))))), ((cell_far (p := ⟨gb156, _, none⟩) NB144_156.out _).trans (((cell_far (p := ⟨gb156, _, none⟩) NB144_156.out _).trans (((cell_far (p := ⟨gb156, _, none⟩) NB144_156.out _).trans (((cell_far (p := ⟨gb156, _, none⟩) NB144_156.out _).trans (hHeld.2.2.1)))))))), ((cell_far (p := ⟨gb156, _, none⟩) NB144_156.out _).trans (((cell_far (p := ⟨gb156, _, none⟩) NB144_156.out _).trans (((cell_far (p := ⟨gb156, _, none⟩) NB144_156.out _).trans (((cell_far (p := ⟨gb156, _, none⟩) NB144_156.out _).trans (hHeld.2.2.2.1)))))))), ((cell_far (p := ⟨gb156, _, none⟩) NB136_156.out _).trans (((cell_far (p := ⟨gb156, _, none⟩) NB136_156.out _).trans (((cell_far (p := ⟨gb156, _, none⟩) NB136_156.out _).trans (((cell_far (p := ⟨gb156, _, none⟩) NB136_156.out _).trans (hHeld.2.2.2.2.1)))))))), ((cell_far (p := ⟨gb156, _, none⟩) NB136_156.out _).trans (((cell_far (p := ⟨gb156, _, none⟩) NB136_156.out _).trans (((cell_far (p := ⟨gb156, _, none⟩) NB136_156.out _).trans (((cell_far (p := ⟨gb156, _, none⟩) NB136_156.out _).trans (hHeld.2.2.2.2.2))))))))⟩ (fun hHeld => ?_)
  clear hK K
  refine done_ (done_of HT_.out (by kernel_rfl)) ?_
  have hnb73 := NB155_135.out
  have hnc73 := NB135_155.out
  have hnb74 := NB155_136.out
  have hnc74 := NB136_155.out
  have hnb75 := NB155_144.out
  have hnc75 := NB144_155.out
  have hnb76 := NB155_145.out
  have hnc76 := NB145_155.out
  have hnb77 := NB155_156.out
  have hnc77 := NB156_155.out
  have hcz78_0 : w64.cell? ⟨gb155, 0, none⟩ = some (.int .u64 0) := (bC BK155.out 0).trans rfl
  have hcz78_1 : w64.cell? ⟨gb155, 1, none⟩ = some (.int .u64 0) := (bC BK155.out 1).trans rfl
  have hcz78_2 : w64.cell? ⟨gb155, 2, none⟩ = some (.int .u64 0) := (bC BK155.out 2).trans rfl
  have hcz78_3 : w64.cell? ⟨gb155, 3, none⟩ = some (.int .u64 0) := (bC BK155.out 3).trans rfl
  have hfz78_0 := bF BK155.out 0
  have hfz78_1 := bF BK155.out 1
  have hfz78_2 := bF BK155.out 2
  have hfz78_3 := bF BK155.out 3
  have hnb79 := NB145_156.out
  have hnc79 := NB156_145.out
  have hcz80_0 : w64.cell? ⟨gb145, 0, none⟩ = some (.int .u64 t141) := (bC BK145.out 0).trans rfl
  have hcz80_1 : w64.cell? ⟨gb145, 1, none⟩ = some (.int .u64 t142) := (bC BK145.out 1).trans rfl
  have hfz80_0 := bF BK145.out 0
  have hfz80_1 := bF BK145.out 1
  try go_wp2_with (first | ((with_reducible refine gate_callee (f := 17) rfl ?_); refine goesL_ (some 55) rfl rfl Try.func17 (by kernel_rfl) rfl #[.agg #[.int .u64 t149, .int .u64 t150], .agg #[.int .u64 t141, .int .u64 t142]] rfl (by (try simp only [List.map_toArray, List.map_cons, List.map_nil]); first | done | rfl | (simp only [List.length_drop, List.length_take]; rfl)) ?_; (with_reducible refine (limb_Add.calls t149 t150 t141 t142 t157 t158 true _ A28.out).mono ?_); rintro e w81 ⟨rfl, hb⟩; refine ⟨_, rfl, ?_⟩; have n0_ := Aside0.mk (bB (g := gb135) (o := .cells #[.int .u64 a0_0, .int .u64 a0_1, .int .u64 a0_2, .int .u64 a0_3] 26 (0, 0)) (by (with_reducible repeat (first | refine bN ?_ _ | refine bD ?_ | refine bL ?_ _)); refine bX ?_ NB135_156.out _; (with_reducible repeat (first | refine bN ?_ _ | refine bD ?_ | refine bL ?_ _)); refine bX ?_ NB135_156.out _; (with_reducible repeat (first | refine bN ?_ _ | refine bD ?_ | refine bL ?_ _)); refine bX ?_ NB135_156.out _; (with_reducible repeat (first | refine bN ?_ _ | refine bD ?_ | refine bL ?_ _)); refine bX ?_ NB135_156.out _; (with_reducible repeat (first | refine bN ?_ _ | refine bD ?_ | refine bL ?_ _)); refine bX ?_ NB135_155.out _; (with_reducible repeat (first | refine bN ?_ _ | refine bD ?_ | refine bL ?_ _)); refine bX ?_ NB135_155.out _; (with_reducible repeat (first | refine bN ?_ _ | refine bD ?_ | refine bL ?_ _)); refine bX ?_ NB135_155.out _; (with_reducible repeat (first | refine bN ?_ _ | refine bD ?_ | refine bL ?_ _)); refine bX ?_ NB135_155.out _; (with_reducible repeat (first | refine bN ?_ _ | refine bD ?_ | refine bL ?_ _)); exact BK135.out) hb); have n1_ := Aside0.mk (bB (g := gb136) (o := .cells #[.int .u64 a1_0, .int .u64 a1_1] 24 (0, 0)) (by (with_reducible repeat (first | refine bN ?_ _ | refine bD ?_ | refine bL ?_ _)); refine bX ?_ NB136_156.out _; (with_reducible repeat (first | refine bN ?_ _ | refine bD ?_ | refine bL ?_ _)); refine bX ?_ NB136_156.out _; (with_reducible repeat (first | refine bN ?_ _ | refine bD ?_ | refine bL ?_ _)); refine bX ?_ NB136_156.out _; (with_reducible repeat (first | refine bN ?_ _ | refine bD ?_ | refine bL ?_ _)); refine bX ?_ NB136_156.out _; (with_reducible repeat (first | refine bN ?_ _ | refine bD ?_ | refine bL ?_ _)); refine bX ?_ NB136_155.out _; (with_reducible repeat (first | refine bN ?_ _ | refine bD ?_ | refine bL ?_ _)); refine bX ?_ NB136_155.out _; (with_reducible repeat (first | refine bN ?_ _ | refine bD ?_ | refine bL ?_ _)); refine bX ?_ NB136_155.out _; (with_reducible repeat (first | refine bN ?_ _ | refine bD ?_ | refine bL ?_ _)); refine bX ?_ NB136_155.out _; (with_reducible repeat (first | refine bN ?_ _ | refine bD ?_ | refine bL ?_ _)); exact BK136.out) hb); have n2_ := Aside0.mk (bB (g := gb144) (o := .cells #[.int .u64 t137, .int .u64 t138, .int .u64 t139, .int .u64 t140] 26 (0, 0)) (by (with_reducible repeat (first | refine bN ?_ _ | refine bD ?_ | refine bL ?_ _)); refine bX ?_ NB144_156.out _; (with_reducible repeat (first | refine bN ?_ _ | refine bD ?_ | refine bL ?_ _)); refine bX ?_ NB144_156.out _; (with_reducible repeat (first | refine bN ?_ _ | refine bD ?_ | refine bL ?_ _)); refine bX ?_ NB144_156.out _; (with_reducible repeat (first | refine bN ?_ _ | refine bD ?_ | refine bL ?_ _)); refine bX ?_ NB144_156.out _; (with_reducible repeat (first | refine bN ?_ _ | refine bD ?_ | refine bL ?_ _)); refine bX ?_ NB144_155.out _; (with_reducible repeat (first | refine bN ?_ _ | refine bD ?_ | refine bL ?_ _)); refine bX ?_ NB144_155.out _; (with_reducible repeat (first | refine bN ?_ _ | refine bD ?_ | refine bL ?_ _)); refine bX ?_ NB144_155.out _; (with_reducible repeat (first | refine bN ?_ _ | refine bD ?_ | refine bL ?_ _)); refine bX ?_ NB144_155.out _; (with_reducible repeat (first | refine bN ?_ _ | refine bD ?_ | refine bL ?_ _)); exact BK144.out) hb); have n3_ := Aside0.mk (bB (g := gb145) (o := .cells #[.int .u64 t141, .int .u64 t142] 24 (0, 0)) (by (with_reducible repeat (first | refine bN ?_ _ | refine bD ?_ | refine bL ?_ _)); refine bX ?_ NB145_156.out _; (with_reducible repeat (first | refine bN ?_ _ | refine bD ?_ | refine bL ?_ _)); refine bX ?_ NB145_156.out _; (with_reducible repeat (first | refine bN ?_ _ | refine bD ?_ | refine bL ?_ _)); refine bX ?_ NB145_156.out _; (with_reducible repeat (first | refine bN ?_ _ | refine bD ?_ | refine bL ?_ _)); refine bX ?_ NB145_156.out _; (with_reducible repeat (first | refine bN ?_ _ | refine bD ?_ | refine bL ?_ _)); refine bX ?_ NB145_155.out _; (with_reducible repeat (first | refine bN ?_ _ | refine bD ?_ | refine bL ?_ _)); refine bX ?_ NB145_155.out _; (with_reducible repeat (first | refine bN ?_ _ | refine bD ?_ | refine bL ?_ _)); refine bX ?_ NB145_155.out _; (with_reducible repeat (first | refine bN ?_ _ | refine bD ?_ | refine bL ?_ _)); refine bX ?_ NB145_155.out _; (with_reducible repeat (first | refine bN ?_ _ | refine bD ?_ | refine bL ?_ _)); exact BK145.out) hb); have n4_ := Aside0.mk (bB (g := gb155) (o := .cells #[.int .u64 t147, .int .u64 t148, .int .u64 t149, .int .u64 t150] 26 (0, 0)) (by (with_reducible repeat (first | refine bN ?_ _ | refine bD ?_ | refine bL ?_ _)); refine bX ?_ NB155_156.out _; (with_reducible repeat (first | refine bN ?_ _ | refine bD ?_ | refine bL ?_ _)); refine bX ?_ NB155_156.out _; (with_reducible repeat (first | refine bN ?_ _ | refine bD ?_ | refine bL ?_ _)); refine bX ?_ NB155_156.out _; (with_reducible repeat (first | refine bN ?_ _ | refine bD ?_ | refine bL ?_ _)); refine bX ?_ NB155_156.out _; (with_reducible repeat (first | refine bN ?_ _ | refine bD ?_ | refine bL ?_ _)); refine blk_put (cs := #[.int .u64 t147, .int .u64 t148, .int .u64 t149, .int .u64 0]) ?_ 3 _ rfl; (with_reducible repeat (first | refine bN ?_ _ | refine bD ?_ | refine bL ?_ _)); refine blk_put (cs := #[.int .u64 t147, .int .u64 t148, .int .u64 0, .int .u64 0]) ?_ 2 _ rfl; (with_reducible repeat (first | refine bN ?_ _ | refine bD ?_ | refine bL ?_ _)); refine blk_put (cs := #[.int .u64 t147, .int .u64 0, .int .u64 0, .int .u64 0]) ?_ 1 _ rfl; (with_reducible repeat (first | refine bN ?_ _ | refine bD ?_ | refine bL ?_ _)); refine blk_put (cs := #[.int .u64 0, .int .u64 0, .int .u64 0, .int .u64 0]) ?_ 0 _ rfl; (with_reducible repeat (first | refine bN ?_ _ | refine bD ?_ | refine bL ?_ _)); exact BK155.out) hb); have n5_ := Aside0.mk (bB (g := gb156) (o := .cells #[.int .u64 t151, .int .u64 t152, .int .u64 t153, .int .u64 t154] 26 (0, 0)) (by (with_reducible repeat (first | refine bN ?_ _ | refine bD ?_ | refine bL ?_ _)); refine blk_put (cs := #[.int .u64 t151, .int .u64 t152, .int .u64 t153, .int .u64 0]) ?_ 3 _ rfl; (with_reducible repeat (first | refine bN ?_ _ | refine bD ?_ | refine bL ?_ _)); refine blk_put (cs := #[.int .u64 t151, .int .u64 t152, .int .u64 0, .int .u64 0]) ?_ 2 _ rfl; (with_reducible repeat (first | refine bN ?_ _ | refine bD ?_ | refine bL ?_ _)); refine blk_put (cs := #[.int .u64 t151, .int .u64 0, .int .u64 0, .int .u64 0]) ?_ 1 _ rfl; (with_reducible repeat (first | refine bN ?_ _ | refine bD ?_ | refine bL ?_ _)); refine blk_put (cs := #[.int .u64 0, .int .u64 0, .int .u64 0, .int .u64 0]) ?_ 0 _ rfl; (with_reducible repeat (first | refine bN ?_ _ | refine bD ?_ | refine bL ?_ _)); refine bX ?_ NB156_155.out _; (with_reducible repeat (first | refine bN ?_ _ | refine bD ?_ | refine bL ?_ _)); refine bX ?_ NB156_155.out _; (with_reducible repeat (first | refine bN ?_ _ | refine bD ?_ | refine bL ?_ _)); refine bX ?_ NB156_155.out _; (with_reducible repeat (first | refine bN ?_ _ | refine bD ?_ | refine bL ?_ _)); refine bX ?_ NB156_155.out _; (with_reducible repeat (first | refine bN ?_ _ | refine bD ?_ | refine bL ?_ _)); exact BK156.out) hb); have n6_ := Aside0.mk (below_step (by repeat (first | (with_reducible first | exact HB.out | apply below_alloc | apply pN | apply dI | refine below_set ?_ GE135.out | refine below_set ?_ GE136.out | refine below_set ?_ GE144.out | refine below_set ?_ GE145.out | refine below_set ?_ GE155.out | refine below_set ?_ GE156.out) | exact HB.out)) hb); clear BK135; clear BK136; clear BK144; clear BK145; clear BK155; clear BK156; clear HB; have BK135 := n0_; have BK136 := n1_; have BK144 := n2_; have BK145 := n3_; have BK155 := n4_; have BK156 := n5_; have HB := n6_; clear n0_ n1_ n2_ n3_ n4_ n5_ n6_; (try clear hb); (try clear hb2); (try clear hk); (try clear hi)) | ((with_reducible refine gate_dst (N := 10) rfl ?_); refine box_event ?hg (N := 10) ?hd (cs := #[.int .u64 0, .int .u64 0]) (t := 24) ?hr ?_; (case hd => rfl); (case hg => rfl); (case hr => first | (go_simp; done) | (go_simp; rfl)); intro gb160 hg w82 hbox hb; have n0_ := Aside0.mk (bB (g := gb135) (o := .cells #[.int .u64 a0_0, .int .u64 a0_1, .int .u64 a0_2, .int .u64 a0_3] 26 (0, 0)) (by (with_reducible repeat (first | refine bN ?_ _ | refine bD ?_ | refine bL ?_ _)); exact BK135.out) hb); have n1_ := Aside0.mk (bB (g := gb136) (o := .cells #[.int .u64 a1_0, .int .u64 a1_1] 24 (0, 0)) (by (with_reducible repeat (first | refine bN ?_ _ | refine bD ?_ | refine bL ?_ _)); exact BK136.out) hb); have n2_ := Aside0.mk (bB (g := gb144) (o := .cells #[.int .u64 t137, .int .u64 t138, .int .u64 t139, .int .u64 t140] 26 (0, 0)) (by (with_reducible repeat (first | refine bN ?_ _ | refine bD ?_ | refine bL ?_ _)); exact BK144.out) hb); have n3_ := Aside0.mk (bB (g := gb145) (o := .cells #[.int .u64 t141, .int .u64 t142] 24 (0, 0)) (by (with_reducible repeat (first | refine bN ?_ _ | refine bD ?_ | refine bL ?_ _)); exact BK145.out) hb); have n4_ := Aside0.mk (bB (g := gb155) (o := .cells #[.int .u64 t147, .int .u64 t148, .int .u64 t149, .int .u64 t150] 26 (0, 0)) (by (with_reducible repeat (first | refine bN ?_ _ | refine bD ?_ | refine bL ?_ _)); exact BK155.out) hb); have n5_ := Aside0.mk (bB (g := gb156) (o := .cells #[.int .u64 t151, .int .u64 t152, .int .u64 t153, .int .u64 t154] 26 (0, 0)) (by (with_reducible repeat (first | refine bN ?_ _ | refine bD ?_ | refine bL ?_ _)); exact BK156.out) hb); have n6_ := Aside0.mk (below_step (by repeat (first | (with_reducible first | exact HB.out | apply below_alloc | apply pN | apply dI | refine below_set ?_ GE135.out | refine below_set ?_ GE136.out | refine below_set ?_ GE144.out | refine below_set ?_ GE145.out | refine below_set ?_ GE155.out | refine below_set ?_ GE156.out) | exact HB.out)) hb); have n7_ := Aside0.mk (hbox); have n8_ := Aside0.mk ((by rw [hg]; exact (below_size (by repeat (first | (with_reducible first | exact HB.out | apply below_alloc | apply pN | apply dI | refine below_set ?_ GE135.out | refine below_set ?_ GE136.out | refine below_set ?_ GE144.out | refine below_set ?_ GE145.out | refine below_set ?_ GE155.out | refine below_set ?_ GE156.out) | exact HB.out))) : w.heap.size ≤ gb160)); have n9_ := Aside0.mk ((by rw [hg]; exact (below_size (by repeat (first | (with_reducible first | exact HB.out | apply below_alloc | apply pN | apply dI | refine below_set ?_ GE135.out | refine below_set ?_ GE136.out | refine below_set ?_ GE144.out | refine below_set ?_ GE145.out | refine below_set ?_ GE155.out | refine below_set ?_ GE156.out) | exact HB.out))) : w.heap.size ≤ gb160)); have n10_ := Aside0.mk ((by rw [hg]; exact Nat.ne_of_lt (blk_lt (g := gb135) (o := .cells #[.int .u64 a0_0, .int .u64 a0_1, .int .u64 a0_2, .int .u64 a0_3] 26 (0, 0)) (by (with_reducible repeat (first | refine bN ?_ _ | refine bD ?_ | refine bL ?_ _)); exact BK135.out)) : gb135 ≠ gb160)); have n11_ := Aside0.mk ((by rw [hg]; exact Nat.ne_of_gt (blk_lt (g := gb135) (o := .cells #[.int .u64 a0_0, .int .u64 a0_1, .int .u64 a0_2, .int .u64 a0_3] 26 (0, 0)) (by (with_reducible repeat (first | refine bN ?_ _ | refine bD ?_ | refine bL ?_ _)); exact BK135.out)) : gb160 ≠ gb135)); have n12_ := Aside0.mk ((by rw [hg]; exact Nat.ne_of_lt (blk_lt (g := gb136) (o := .cells #[.int .u64 a1_0, .int .u64 a1_1] 24 (0, 0)) (by (with_reducible repeat (first | refine bN ?_ _ | refine bD ?_ | refine bL ?_ _)); exact BK136.out)) : gb136 ≠ gb160)); have n13_ := Aside0.mk ((by rw [hg]; exact Nat.ne_of_gt (blk_lt (g := gb136) (o := .cells #[.int .u64 a1_0, .int .u64 a1_1] 24 (0, 0)) (by (with_reducible repeat (first | refine bN ?_ _ | refine bD ?_ | refine bL ?_ _)); exact BK136.out)) : gb160 ≠ gb136)); have n14_ := Aside0.mk ((by rw [hg]; exact Nat.ne_of_lt (blk_lt (g := gb144) (o := .cells #[.int .u64 t137, .int .u64 t138, .int .u64 t139, .int .u64 t140] 26 (0, 0)) (by (with_reducible repeat (first | refine bN ?_ _ | refine bD ?_ | refine bL ?_ _)); exact BK144.out)) : gb144 ≠ gb160)); have n15_ := Aside0.mk ((by rw [hg]; exact Nat.ne_of_gt (blk_lt (g := gb144) (o := .cells #[.int .u64 t137, .int .u64 t138, .int .u64 t139, .int .u64 t140] 26 (0, 0)) (by (with_reducible repeat (first | refine bN ?_ _ | refine bD ?_ | refine bL ?_ _)); exact BK144.out)) : gb160 ≠ gb144)); have n16_ := Aside0.mk ((by rw [hg]; exact Nat.ne_of_lt (blk_lt (g := gb145) (o := .cells #[.int .u64 t141, .int .u64 t142] 24 (0, 0)) (by (with_reducible repeat (first | refine bN ?_ _ | refine bD ?_ | refine bL ?_ _)); exact BK145.out)) : gb145 ≠ gb160)); have n17_ := Aside0.mk ((by rw [hg]; exact Nat.ne_of_gt (blk_lt (g := gb145) (o := .cells #[.int .u64 t141, .int .u64 t142] 24 (0, 0)) (by (with_reducible repeat (first | refine bN ?_ _ | refine bD ?_ | refine bL ?_ _)); exact BK145.out)) : gb160 ≠ gb145)); have n18_ := Aside0.mk ((by rw [hg]; exact Nat.ne_of_lt (blk_lt (g := gb155) (o := .cells #[.int .u64 t147, .int .u64 t148, .int .u64 t149, .int .u64 t150] 26 (0, 0)) (by (with_reducible repeat (first | refine bN ?_ _ | refine bD ?_ | refine bL ?_ _)); exact BK155.out)) : gb155 ≠ gb160)); have n19_ := Aside0.mk ((by rw [hg]; exact Nat.ne_of_gt (blk_lt (g := gb155) (o := .cells #[.int .u64 t147, .int .u64 t148, .int .u64 t149, .int .u64 t150] 26 (0, 0)) (by (with_reducible repeat (first | refine bN ?_ _ | refine bD ?_ | refine bL ?_ _)); exact BK155.out)) : gb160 ≠ gb155)); have n20_ := Aside0.mk ((by rw [hg]; exact Nat.ne_of_lt (blk_lt (g := gb156) (o := .cells #[.int .u64 t151, .int .u64 t152, .int .u64 t153, .int .u64 t154] 26 (0, 0)) (by (with_reducible repeat (first | refine bN ?_ _ | refine bD ?_ | refine bL ?_ _)); exact BK156.out)) : gb156 ≠ gb160)); have n21_ := Aside0.mk ((by rw [hg]; exact Nat.ne_of_gt (blk_lt (g := gb156) (o := .cells #[.int .u64 t151, .int .u64 t152, .int .u64 t153, .int .u64 t154] 26 (0, 0)) (by (with_reducible repeat (first | refine bN ?_ _ | refine bD ?_ | refine bL ?_ _)); exact BK156.out)) : gb160 ≠ gb156)); clear BK135; clear BK136; clear BK144; clear BK145; clear BK155; clear BK156; clear HB; have BK135 := n0_; have BK136 := n1_; have BK144 := n2_; have BK145 := n3_; have BK155 := n4_; have BK156 := n5_; have HB := n6_; have BK160 := n7_; have GW160 := n8_; have GE160 := n9_; have NB135_160 := n10_; have NB160_135 := n11_; have NB136_160 := n12_; have NB160_136 := n13_; have NB144_160 := n14_; have NB160_144 := n15_; have NB145_160 := n16_; have NB160_145 := n17_; have NB155_160 := n18_; have NB160_155 := n19_; have NB156_160 := n20_; have NB160_156 := n21_; clear n0_ n1_ n2_ n3_ n4_ n5_ n6_ n7_ n8_ n9_ n10_ n11_ n12_ n13_ n14_ n15_ n16_ n17_ n18_ n19_ n20_ n21_; clear hb hbox hg; have hnb83 := NB160_135.out; have hnc83 := NB135_160.out; have hnb84 := NB160_136.out; have hnc84 := NB136_160.out; have hnb85 := NB160_144.out; have hnc85 := NB144_160.out; have hnb86 := NB160_145.out; have hnc86 := NB145_160.out; have hnb87 := NB160_155.out; have hnc87 := NB155_160.out; have hnb88 := NB160_156.out; have hnc88 := NB156_160.out; have hcz89_0 : w82.cell? ⟨gb160, 0, none⟩ = some (.int .u64 0) := (bC BK160.out 0).trans rfl; have hcz89_1 : w82.cell? ⟨gb160, 1, none⟩ = some (.int .u64 0) := (bC BK160.out 1).trans rfl; have hfz89_0 := bF BK160.out 0; have hfz89_1 := bF BK160.out 1; have hcz90_0 : w82.cell? ⟨gb155, 0, none⟩ = some (.int .u64 t147) := (bC BK155.out 0).trans rfl; have hcz90_1 : w82.cell? ⟨gb155, 1, none⟩ = some (.int .u64 t148) := (bC BK155.out 1).trans rfl; have hcz90_2 : w82.cell? ⟨gb155, 2, none⟩ = some (.int .u64 t149) := (bC BK155.out 2).trans rfl; have hcz90_3 : w82.cell? ⟨gb155, 3, none⟩ = some (.int .u64 t150) := (bC BK155.out 3).trans rfl; have hfz90_0 := bF BK155.out 0; have hfz90_1 := bF BK155.out 1; have hfz90_2 := bF BK155.out 2; have hfz90_3 := bF BK155.out 3; have hnb91 := NB156_135.out; have hnc91 := NB135_156.out; have hnb92 := NB156_136.out; have hnc92 := NB136_156.out; have hnb93 := NB156_144.out; have hnc93 := NB144_156.out; have hcz94_0 : w82.cell? ⟨gb156, 0, none⟩ = some (.int .u64 t151) := (bC BK156.out 0).trans rfl; have hcz94_1 : w82.cell? ⟨gb156, 1, none⟩ = some (.int .u64 t152) := (bC BK156.out 1).trans rfl; have hcz94_2 : w82.cell? ⟨gb156, 2, none⟩ = some (.int .u64 t153) := (bC BK156.out 2).trans rfl; have hcz94_3 : w82.cell? ⟨gb156, 3, none⟩ = some (.int .u64 t154) := (bC BK156.out 3).trans rfl; have hfz94_0 := bF BK156.out 0; have hfz94_1 := bF BK156.out 1; have hfz94_2 := bF BK156.out 2; have hfz94_3 := bF BK156.out 3) | ((with_reducible refine gate_callee (f := 17) rfl ?_); refine goesL_ (some 63) rfl rfl Try.func17 (by kernel_rfl) rfl #[.agg #[.int .u64 t147, .int .u64 t148], .agg #[.int .u64 t153, .int .u64 t154]] rfl (by (try simp only [List.map_toArray, List.map_cons, List.map_nil]); first | done | rfl | (simp only [List.length_drop, List.length_take]; rfl)) ?_; (with_reducible refine (limb_Add.calls t147 t148 t153 t154 t161 t162 false _ A29.out).mono ?_); rintro e w95 ⟨rfl, hb⟩; refine ⟨_, rfl, ?_⟩; have n0_ := Aside0.mk (bB (g := gb135) (o := .cells #[.int .u64 a0_0, .int .u64 a0_1, .int .u64 a0_2, .int .u64 a0_3] 26 (0, 0)) (by (with_reducible repeat (first | refine bN ?_ _ | refine bD ?_ | refine bL ?_ _)); refine bX ?_ NB135_160.out _; (with_reducible repeat (first | refine bN ?_ _ | refine bD ?_ | refine bL ?_ _)); refine bX ?_ NB135_160.out _; (with_reducible repeat (first | refine bN ?_ _ | refine bD ?_ | refine bL ?_ _)); exact BK135.out) hb); have n1_ := Aside0.mk (bB (g := gb136) (o := .cells #[.int .u64 a1_0, .int .u64 a1_1] 24 (0, 0)) (by (with_reducible repeat (first | refine bN ?_ _ | refine bD ?_ | refine bL ?_ _)); refine bX ?_ NB136_160.out _; (with_reducible repeat (first | refine bN ?_ _ | refine bD ?_ | refine bL ?_ _)); refine bX ?_ NB136_160.out _; (with_reducible repeat (first | refine bN ?_ _ | refine bD ?_ | refine bL ?_ _)); exact BK136.out) hb); have n2_ := Aside0.mk (bB (g := gb144) (o := .cells #[.int .u64 t137, .int .u64 t138, .int .u64 t139, .int .u64 t140] 26 (0, 0)) (by (with_reducible repeat (first | refine bN ?_ _ | refine bD ?_ | refine bL ?_ _)); refine bX ?_ NB144_160.out _; (with_reducible repeat (first | refine bN ?_ _ | refine bD ?_ | refine bL ?_ _)); refine bX ?_ NB144_160.out _; (with_reducible repeat (first | refine bN ?_ _ | refine bD ?_ | refine bL ?_ _)); exact BK144.out) hb); have n3_ := Aside0.mk (bB (g := gb145) (o := .cells #[.int .u64 t141, .int .u64 t142] 24 (0, 0)) (by (with_reducible repeat (first | refine bN ?_ _ | refine bD ?_ | refine bL ?_ _)); refine bX ?_ NB145_160.out _; (with_reducible repeat (first | refine bN ?_ _ | refine bD ?_ | refine bL ?_ _)); refine bX ?_ NB145_160.out _; (with_reducible repeat (first | refine bN ?_ _ | refine bD ?_ | refine bL ?_ _)); exact BK145.out) hb); have n4_ := Aside0.mk (bB (g := gb155) (o := .cells #[.int .u64 t147, .int .u64 t148, .int .u64 t149, .int .u64 t150] 26 (0, 0)) (by (with_reducible repeat (first | refine bN ?_ _ | refine bD ?_ | refine bL ?_ _)); refine bX ?_ NB155_160.out _; (with_reducible repeat (first | refine bN ?_ _ | refine bD ?_ | refine bL ?_ _)); refine bX ?_ NB155_160.out _; (with_reducible repeat (first | refine bN ?_ _ | refine bD ?_ | refine bL ?_ _)); exact BK155.out) hb); have n5_ := Aside0.mk (bB (g := gb156) (o := .cells #[.int .u64 t151, .int .u64 t152, .int .u64 t153, .int .u64 t154] 26 (0, 0)) (by (with_reducible repeat (first | refine bN ?_ _ | refine bD ?_ | refine bL ?_ _)); refine bX ?_ NB156_160.out _; (with_reducible repeat (first | refine bN ?_ _ | refine bD ?_ | refine bL ?_ _)); refine bX ?_ NB156_160.out _; (with_reducible repeat (first | refine bN ?_ _ | refine bD ?_ | refine bL ?_ _)); exact BK156.out) hb); have n6_ := Aside0.mk (bB (g := gb160) (o := .cells #[.int .u64 t157, .int .u64 t158] 24 (0, 0)) (by (with_reducible repeat (first | refine bN ?_ _ | refine bD ?_ | refine bL ?_ _)); refine blk_put (cs := #[.int .u64 t157, .int .u64 0]) ?_ 1 _ rfl; (with_reducible repeat (first | refine bN ?_ _ | refine bD ?_ | refine bL ?_ _)); refine blk_put (cs := #[.int .u64 0, .int .u64 0]) ?_ 0 _ rfl; (with_reducible repeat (first | refine bN ?_ _ | refine bD ?_ | refine bL ?_ _)); exact BK160.out) hb); have n7_ := Aside0.mk (below_step (by repeat (first | (with_reducible first | exact HB.out | apply below_alloc | apply pN | apply dI | refine below_set ?_ GE135.out | refine below_set ?_ GE136.out | refine below_set ?_ GE144.out | refine below_set ?_ GE145.out | refine below_set ?_ GE155.out | refine below_set ?_ GE156.out | refine below_set ?_ GE160.out) | exact HB.out)) hb); clear BK135; clear BK136; clear BK144; clear BK145; clear BK155; clear BK156; clear BK160; clear HB; have BK135 := n0_; have BK136 := n1_; have BK144 := n2_; have BK145 := n3_; have BK155 := n4_; have BK156 := n5_; have BK160 := n6_; have HB := n7_; clear n0_ n1_ n2_ n3_ n4_ n5_ n6_ n7_; (try clear hb); (try clear hb2); (try clear hk); (try clear hi)) | ((with_reducible refine gate_dst (N := 12) rfl ?_); refine box_event ?hg (N := 12) ?hd (cs := #[.int .u64 0, .int .u64 0]) (t := 24) ?hr ?_; (case hd => rfl); (case hg => rfl); (case hr => first | (go_simp; done) | (go_simp; rfl)); intro gb164 hg w96 hbox hb; have n0_ := Aside0.mk (bB (g := gb135) (o := .cells #[.int .u64 a0_0, .int .u64 a0_1, .int .u64 a0_2, .int .u64 a0_3] 26 (0, 0)) (by (with_reducible repeat (first | refine bN ?_ _ | refine bD ?_ | refine bL ?_ _)); exact BK135.out) hb); have n1_ := Aside0.mk (bB (g := gb136) (o := .cells #[.int .u64 a1_0, .int .u64 a1_1] 24 (0, 0)) (by (with_reducible repeat (first | refine bN ?_ _ | refine bD ?_ | refine bL ?_ _)); exact BK136.out) hb); have n2_ := Aside0.mk (bB (g := gb144) (o := .cells #[.int .u64 t137, .int .u64 t138, .int .u64 t139, .int .u64 t140] 26 (0, 0)) (by (with_reducible repeat (first | refine bN ?_ _ | refine bD ?_ | refine bL ?_ _)); exact BK144.out) hb); have n3_ := Aside0.mk (bB (g := gb145) (o := .cells #[.int .u64 t141, .int .u64 t142] 24 (0, 0)) (by (with_reducible repeat (first | refine bN ?_ _ | refine bD ?_ | refine bL ?_ _)); exact BK145.out) hb); have n4_ := Aside0.mk (bB (g := gb155) (o := .cells #[.int .u64 t147, .int .u64 t148, .int .u64 t149, .int .u64 t150] 26 (0, 0)) (by (with_reducible repeat (first | refine bN ?_ _ | refine bD ?_ | refine bL ?_ _)); exact BK155.out) hb); have n5_ := Aside0.mk (bB (g := gb156) (o := .cells #[.int .u64 t151, .int .u64 t152, .int .u64 t153, .int .u64 t154] 26 (0, 0)) (by (with_reducible repeat (first | refine bN ?_ _ | refine bD ?_ | refine bL ?_ _)); exact BK156.out) hb); have n6_ := Aside0.mk (bB (g := gb160) (o := .cells #[.int .u64 t157, .int .u64 t158] 24 (0, 0)) (by (with_reducible repeat (first | refine bN ?_ _ | refine bD ?_ | refine bL ?_ _)); exact BK160.out) hb); have n7_ := Aside0.mk (below_step (by repeat (first | (with_reducible first | exact HB.out | apply below_alloc | apply pN | apply dI | refine below_set ?_ GE135.out | refine below_set ?_ GE136.out | refine below_set ?_ GE144.out | refine below_set ?_ GE145.out | refine below_set ?_ GE155.out | refine below_set ?_ GE156.out | refine below_set ?_ GE160.out) | exact HB.out)) hb); have n8_ := Aside0.mk (hbox); have n9_ := Aside0.mk ((by rw [hg]; exact (below_size (by repeat (first | (with_reducible first | exact HB.out | apply below_alloc | apply pN | apply dI | refine below_set ?_ GE135.out | refine below_set ?_ GE136.out | refine below_set ?_ GE144.out | refine below_set ?_ GE145.out | refine below_set ?_ GE155.out | refine below_set ?_ GE156.out | refine below_set ?_ GE160.out) | exact HB.out))) : w.heap.size ≤ gb164)); have n10_ := Aside0.mk ((by rw [hg]; exact (below_size (by repeat (first | (with_reducible first | exact HB.out | apply below_alloc | apply pN | apply dI | refine below_set ?_ GE135.out | refine below_set ?_ GE136.out | refine below_set ?_ GE144.out | refine below_set ?_ GE145.out | refine below_set ?_ GE155.out | refine below_set ?_ GE156.out | refine below_set ?_ GE160.out) | exact HB.out))) : w.heap.size ≤ gb164)); have n11_ := Aside0.mk ((by rw [hg]; exact Nat.ne_of_lt (blk_lt (g := gb135) (o := .cells #[.int .u64 a0_0, .int .u64 a0_1, .int .u64 a0_2, .int .u64 a0_3] 26 (0, 0)) (by (with_reducible repeat (first | refine bN ?_ _ | refine bD ?_ | refine bL ?_ _)); exact BK135.out)) : gb135 ≠ gb164)); have n12_ := Aside0.mk ((by rw [hg]; exact Nat.ne_of_gt (blk_lt (g := gb135) (o := .cells #[.int .u64 a0_0, .int .u64 a0_1, .int .u64 a0_2, .int .u64 a0_3] 26 (0, 0)) (by (with_reducible repeat (first | refine bN ?_ _ | refine bD ?_ | refine bL ?_ _)); exact BK135.out)) : gb164 ≠ gb135)); have n13_ := Aside0.mk ((by rw [hg]; exact Nat.ne_of_lt (blk_lt (g := gb136) (o := .cells #[.int .u64 a1_0, .int .u64 a1_1] 24 (0, 0)) (by (with_reducible repeat (first | refine bN ?_ _ | refine bD ?_ | refine bL ?_ _)); exact BK136.out)) : gb136 ≠ gb164)); have n14_ := Aside0.mk ((by rw [hg]; exact Nat.ne_of_gt (blk_lt (g := gb136) (o := .cells #[.int .u64 a1_0, .int .u64 a1_1] 24 (0, 0)) (by (with_reducible repeat (first | refine bN ?_ _ | refine bD ?_ | refine bL ?_ _)); exact BK136.out)) : gb164 ≠ gb136)); have n15_ := Aside0.mk ((by rw [hg]; exact Nat.ne_of_lt (blk_lt (g := gb144) (o := .cells #[.int .u64 t137, .int .u64 t138, .int .u64 t139, .int .u64 t140] 26 (0, 0)) (by (with_reducible repeat (first | refine bN ?_ _ | refine bD ?_ | refine bL ?_ _)); exact BK144.out)) : gb144 ≠ gb164)); have n16_ := Aside0.mk ((by rw [hg]; exact Nat.ne_of_gt (blk_lt (g := gb144) (o := .cells #[.int .u64 t137, .int .u64 t138, .int .u64 t139, .int .u64 t140] 26 (0, 0)) (by (with_reducible repeat (first | refine bN ?_ _ | refine bD ?_ | refine bL ?_ _)); exact BK144.out)) : gb164 ≠ gb144)); have n17_ := Aside0.mk ((by rw [hg]; exact Nat.ne_of_lt (blk_lt (g := gb145) (o := .cells #[.int .u64 t141, .int .u64 t142] 24 (0, 0)) (by (with_reducible repeat (first | refine bN ?_ _ | refine bD ?_ | refine bL ?_ _)); exact BK145.out)) : gb145 ≠ gb164)); have n18_ := Aside0.mk ((by rw [hg]; exact Nat.ne_of_gt (blk_lt (g := gb145) (o := .cells #[.int .u64 t141, .int .u64 t142] 24 (0, 0)) (by (with_reducible repeat (first | refine bN ?_ _ | refine bD ?_ | refine bL ?_ _)); exact BK145.out)) : gb164 ≠ gb145)); have n19_ := Aside0.mk ((by rw [hg]; exact Nat.ne_of_lt (blk_lt (g := gb155) (o := .cells #[.int .u64 t147, .int .u64 t148, .int .u64 t149, .int .u64 t150] 26 (0, 0)) (by (with_reducible repeat (first | refine bN ?_ _ | refine bD ?_ | refine bL ?_ _)); exact BK155.out)) : gb155 ≠ gb164)); have n20_ := Aside0.mk ((by rw [hg]; exact Nat.ne_of_gt (blk_lt (g := gb155) (o := .cells #[.int .u64 t147, .int .u64 t148, .int .u64 t149, .int .u64 t150] 26 (0, 0)) (by (with_reducible repeat (first | refine bN ?_ _ | refine bD ?_ | refine bL ?_ _)); exact BK155.out)) : gb164 ≠ gb155)); have n21_ := Aside0.mk ((by rw [hg]; exact Nat.ne_of_lt (blk_lt (g := gb156) (o := .cells #[.int .u64 t151, .int .u64 t152, .int .u64 t153, .int .u64 t154] 26 (0, 0)) (by (with_reducible repeat (first | refine bN ?_ _ | refine bD ?_ | refine bL ?_ _)); exact BK156.out)) : gb156 ≠ gb164)); have n22_ := Aside0.mk ((by rw [hg]; exact Nat.ne_of_gt (blk_lt (g := gb156) (o := .cells #[.int .u64 t151, .int .u64 t152, .int .u64 t153, .int .u64 t154] 26 (0, 0)) (by (with_reducible repeat (first | refine bN ?_ _ | refine bD ?_ | refine bL ?_ _)); exact BK156.out)) : gb164 ≠ gb156)); have n23_ := Aside0.mk ((by rw [hg]; exact Nat.ne_of_lt (blk_lt (g := gb160) (o := .cells #[.int .u64 t157, .int .u64 t158] 24 (0, 0)) (by (with_reducible repeat (first | refine bN ?_ _ | refine bD ?_ | refine bL ?_ _)); exact BK160.out)) : gb160 ≠ gb164)); have n24_ := Aside0.mk ((by rw [hg]; exact Nat.ne_of_gt (blk_lt (g := gb160) (o := .cells #[.int .u64 t157, .int .u64 t158] 24 (0, 0)) (by (with_reducible repeat (first | refine bN ?_ _ | refine bD ?_ | refine bL ?_ _)); exact BK160.out)) : gb164 ≠ gb160)); clear BK135; clear BK136; clear BK144; clear BK145; clear BK155; clear BK156; clear BK160; clear HB; have BK135 := n0_; have BK136 := n1_; have BK144 := n2_; have BK145 := n3_; have BK155 := n4_; have BK156 := n5_; have BK160 := n6_; have HB := n7_; have BK164 := n8_; have GW164 := n9_; have GE164 := n10_; have NB135_164 := n11_; have NB164_135 := n12_; have NB136_164 := n13_; have NB164_136 := n14_; have NB144_164 := n15_; have NB164_144 := n16_; have NB145_164 := n17_; have NB164_145 := n18_; have NB155_164 := n19_; have NB164_155 := n20_; have NB156_164 := n21_; have NB164_156 := n22_; have NB160_164 := n23_; have NB164_160 := n24_; clear n0_ n1_ n2_ n3_ n4_ n5_ n6_ n7_ n8_ n9_ n10_ n11_ n12_ n13_ n14_ n15_ n16_ n17_ n18_ n19_ n20_ n21_ n22_ n23_ n24_; clear hb hbox hg; have hnb97 := NB164_135.out; have hnc97 := NB135_164.out; have hnb98 := NB164_136.out; have hnc98 := NB136_164.out; have hnb99 := NB164_144.out; have hnc99 := NB144_164.out; have hnb100 := NB164_145.out; have hnc100 := NB145_164.out; have hnb101 := NB164_155.out; have hnc101 := NB155_164.out; have hnb102 := NB164_156.out; have hnc102 := NB156_164.out; have hnb103 := NB164_160.out; have hnc103 := NB160_164.out; have hcz104_0 : w96.cell? ⟨gb164, 0, none⟩ = some (.int .u64 0) := (bC BK164.out 0).trans rfl; have hcz104_1 : w96.cell? ⟨gb164, 1, none⟩ = some (.int .u64 0) := (bC BK164.out 1).trans rfl; have hfz104_0 := bF BK164.out 0; have hfz104_1 := bF BK164.out 1) | ((with_reducible refine gate_callee (f := 17) rfl ?_); refine goesL_ (some 70) rfl rfl Try.func17 (by kernel_rfl) rfl #[.agg #[.int .u64 t161, .int .u64 t162], .agg #[.int .u64 0, .int .u64 1]] rfl (by (try simp only [List.map_toArray, List.map_cons, List.map_nil]); first | done | rfl | (simp only [List.length_drop, List.length_take]; rfl)) ?_; (with_reducible refine (limb_Add.calls t161 t162 0 1 t165 t166 false _ A31.out).mono ?_); rintro e w105 ⟨rfl, hb⟩; refine ⟨_, rfl, ?_⟩; have n0_ := Aside0.mk (bB (g := gb135) (o := .cells #[.int .u64 a0_0, .int .u64 a0_1, .int .u64 a0_2, .int .u64 a0_3] 26 (0, 0)) (by (with_reducible repeat (first | refine bN ?_ _ | refine bD ?_ | refine bL ?_ _)); refine bX ?_ NB135_164.out _; (with_reducible repeat (first | refine bN ?_ _ | refine bD ?_ | refine bL ?_ _)); refine bX ?_ NB135_164.out _; (with_reducible repeat (first | refine bN ?_ _ | refine bD ?_ | refine bL ?_ _)); exact BK135.out) hb); have n1_ := Aside0.mk (bB (g := gb136) (o := .cells #[.int .u64 a1_0, .int .u64 a1_1] 24 (0, 0)) (by (with_reducible repeat (first | refine bN ?_ _ | refine bD ?_ | refine bL ?_ _)); refine bX ?_ NB136_164.out _; (with_reducible repeat (first | refine bN ?_ _ | refine bD ?_ | refine bL ?_ _)); refine bX ?_ NB136_164.out _; (with_reducible repeat (first | refine bN ?_ _ | refine bD ?_ | refine bL ?_ _)); exact BK136.out) hb); have n2_ := Aside0.mk (bB (g := gb144) (o := .cells #[.int .u64 t137, .int .u64 t138, .int .u64 t139, .int .u64 t140] 26 (0, 0)) (by (with_reducible repeat (first | refine bN ?_ _ | refine bD ?_ | refine bL ?_ _)); refine bX ?_ NB144_164.out _; (with_reducible repeat (first | refine bN ?_ _ | refine bD ?_ | refine bL ?_ _)); refine bX ?_ NB144_164.out _; (with_reducible repeat (first | refine bN ?_ _ | refine bD ?_ | refine bL ?_ _)); exact BK144.out) hb); have n3_ := Aside0.mk (bB (g := gb145) (o := .cells #[.int .u64 t141, .int .u64 t142] 24 (0, 0)) (by (with_reducible repeat (first | refine bN ?_ _ | refine bD ?_ | refine bL ?_ _)); refine bX ?_ NB145_164.out _; (with_reducible repeat (first | refine bN ?_ _ | refine bD ?_ | refine bL ?_ _)); refine bX ?_ NB145_164.out _; (with_reducible repeat (first | refine bN ?_ _ | refine bD ?_ | refine bL ?_ _)); exact BK145.out) hb); have n4_ := Aside0.mk (bB (g := gb155) (o := .cells #[.int .u64 t147, .int .u64 t148, .int .u64 t149, .int .u64 t150] 26 (0, 0)) (by (with_reducible repeat (first | refine bN ?_ _ | refine bD ?_ | refine bL ?_ _)); refine bX ?_ NB155_164.out _; (with_reducible repeat (first | refine bN ?_ _ | refine bD ?_ | refine bL ?_ _)); refine bX ?_ NB155_164.out _; (with_reducible repeat (first | refine bN ?_ _ | refine bD ?_ | refine bL ?_ _)); exact BK155.out) hb); have n5_ := Aside0.mk (bB (g := gb156) (o := .cells #[.int .u64 t151, .int .u64 t152, .int .u64 t153, .int .u64 t154] 26 (0, 0)) (by (with_reducible repeat (first | refine bN ?_ _ | refine bD ?_ | refine bL ?_ _)); refine bX ?_ NB156_164.out _; (with_reducible repeat (first | refine bN ?_ _ | refine bD ?_ | refine bL ?_ _)); refine bX ?_ NB156_164.out _; (with_reducible repeat (first | refine bN ?_ _ | refine bD ?_ | refine bL ?_ _)); exact BK156.out) hb); have n6_ := Aside0.mk (bB (g := gb160) (o := .cells #[.int .u64 t157, .int .u64 t158] 24 (0, 0)) (by (with_reducible repeat (first | refine bN ?_ _ | refine bD ?_ | refine bL ?_ _)); refine bX ?_ NB160_164.out _; (with_reducible repeat (first | refine bN ?_ _ | refine bD ?_ | refine bL ?_ _)); refine bX ?_ NB160_164.out _; (with_reducible repeat (first | refine bN ?_ _ | refine bD ?_ | refine bL ?_ _)); exact BK160.out) hb); have n7_ := Aside0.mk (bB (g := gb164) (o := .cells #[.int .u64 t161, .int .u64 t162] 24 (0, 0)) (by (with_reducible repeat (first | refine bN ?_ _ | refine bD ?_ | refine bL ?_ _)); refine blk_put (cs := #[.int .u64 t161, .int .u64 0]) ?_ 1 _ rfl; (with_reducible repeat (first | refine bN ?_ _ | refine bD ?_ | refine bL ?_ _)); refine blk_put (cs := #[.int .u64 0, .int .u64 0]) ?_ 0 _ rfl; (with_reducible repeat (first | refine bN ?_ _ | refine bD ?_ | refine bL ?_ _)); exact BK164.out) hb); have n8_ := Aside0.mk (below_step (by repeat (first | (with_reducible first | exact HB.out | apply below_alloc | apply pN | apply dI | refine below_set ?_ GE135.out | refine below_set ?_ GE136.out | refine below_set ?_ GE144.out | refine below_set ?_ GE145.out | refine below_set ?_ GE155.out | refine below_set ?_ GE156.out | refine below_set ?_ GE160.out | refine below_set ?_ GE164.out) | exact HB.out)) hb); clear BK135; clear BK136; clear BK144; clear BK145; clear BK155; clear BK156; clear BK160; clear BK164; clear HB; have BK135 := n0_; have BK136 := n1_; have BK144 := n2_; have BK145 := n3_; have BK155 := n4_; have BK156 := n5_; have BK160 := n6_; have BK164 := n7_; have HB := n8_; clear n0_ n1_ n2_ n3_ n4_ n5_ n6_ n7_ n8_; (try clear hb); (try clear hb2); (try clear hk); (try clear hi)) | ((with_reducible refine gate_dst (N := 14) rfl ?_); refine box_event ?hg (N := 14) ?hd (cs := #[.int .u64 0, .int .u64 0]) (t := 24) ?hr ?_; (case hd => rfl); (case hg => rfl); (case hr => first | (go_simp; done) | (go_simp; rfl)); intro gb168 hg w106 hbox hb; have n0_ := Aside0.mk (bB (g := gb135) (o := .cells #[.int .u64 a0_0, .int .u64 a0_1, .int .u64 a0_2, .int .u64 a0_3] 26 (0, 0)) (by (with_reducible repeat (first | refine bN ?_ _ | refine bD ?_ | refine bL ?_ _)); exact BK135.out) hb); have n1_ := Aside0.mk (bB (g := gb136) (o := .cells #[.int .u64 a1_0, .int .u64 a1_1] 24 (0, 0)) (by (with_reducible repeat (first | refine bN ?_ _ | refine bD ?_ | refine bL ?_ _)); exact BK136.out) hb); have n2_ := Aside0.mk (bB (g := gb144) (o := .cells #[.int .u64 t137, .int .u64 t138, .int .u64 t139, .int .u64 t140] 26 (0, 0)) (by (with_reducible repeat (first | refine bN ?_ _ | refine bD ?_ | refine bL ?_ _)); exact BK144.out) hb); have n3_ := Aside0.mk (bB (g := gb145) (o := .cells #[.int .u64 t141, .int .u64 t142] 24 (0, 0)) (by (with_reducible repeat (first | refine bN ?_ _ | refine bD ?_ | refine bL ?_ _)); exact BK145.out) hb); have n4_ := Aside0.mk (bB (g := gb155) (o := .cells #[.int .u64 t147, .int .u64 t148, .int .u64 t149, .int .u64 t150] 26 (0, 0)) (by (with_reducible repeat (first | refine bN ?_ _ | refine bD ?_ | refine bL ?_ _)); exact BK155.out) hb); have n5_ := Aside0.mk (bB (g := gb156) (o := .cells #[.int .u64 t151, .int .u64 t152, .int .u64 t153, .int .u64 t154] 26 (0, 0)) (by (with_reducible repeat (first | refine bN ?_ _ | refine bD ?_ | refine bL ?_ _)); exact BK156.out) hb); have n6_ := Aside0.mk (bB (g := gb160) (o := .cells #[.int .u64 t157, .int .u64 t158] 24 (0, 0)) (by (with_reducible repeat (first | refine bN ?_ _ | refine bD ?_ | refine bL ?_ _)); exact BK160.out) hb); have n7_ := Aside0.mk (bB (g := gb164) (o := .cells #[.int .u64 t161, .int .u64 t162] 24 (0, 0)) (by (with_reducible repeat (first | refine bN ?_ _ | refine bD ?_ | refine bL ?_ _)); exact BK164.out) hb); have n8_ := Aside0.mk (below_step (by repeat (first | (with_reducible first | exact HB.out | apply below_alloc | apply pN | apply dI | refine below_set ?_ GE135.out | refine below_set ?_ GE136.out | refine below_set ?_ GE144.out | refine below_set ?_ GE145.out | refine below_set ?_ GE155.out | refine below_set ?_ GE156.out | refine below_set ?_ GE160.out | refine below_set ?_ GE164.out) | exact HB.out)) hb); have n9_ := Aside0.mk (hbox); have n10_ := Aside0.mk ((by rw [hg]; exact (below_size (by repeat (first | (with_reducible first | exact HB.out | apply below_alloc | apply pN | apply dI | refine below_set ?_ GE135.out | refine below_set ?_ GE136.out | refine below_set ?_ GE144.out | refine below_set ?_ GE145.out | refine below_set ?_ GE155.out | refine below_set ?_ GE156.out | refine below_set ?_ GE160.out | refine below_set ?_ GE164.out) | exact HB.out))) : w.heap.size ≤ gb168)); have n11_ := Aside0.mk ((by rw [hg]; exact (below_size (by repeat (first | (with_reducible first | exact HB.out | apply below_alloc | apply pN | apply dI | refine below_set ?_ GE135.out | refine below_set ?_ GE136.out | refine below_set ?_ GE144.out | refine below_set ?_ GE145.out | refine below_set ?_ GE155.out | refine below_set ?_ GE156.out | refine below_set ?_ GE160.out | refine below_set ?_ GE164.out) | exact HB.out))) : w.heap.size ≤ gb168)); have n12_ := Aside0.mk ((by rw [hg]; exact Nat.ne_of_lt (blk_lt (g := gb135) (o := .cells #[.int .u64 a0_0, .int .u64 a0_1, .int .u64 a0_2, .int .u64 a0_3] 26 (0, 0)) (by (with_reducible repeat (first | refine bN ?_ _ | refine bD ?_ | refine bL ?_ _)); exact BK135.out)) : gb135 ≠ gb168)); have n13_ := Aside0.mk ((by rw [hg]; exact Nat.ne_of_gt (blk_lt (g := gb135) (o := .cells #[.int .u64 a0_0, .int .u64 a0_1, .int .u64 a0_2, .int .u64 a0_3] 26 (0, 0)) (by (with_reducible repeat (first | refine bN ?_ _ | refine bD ?_ | refine bL ?_ _)); exact BK135.out)) : gb168 ≠ gb135)); have n14_ := Aside0.mk ((by rw [hg]; exact Nat.ne_of_lt (blk_lt (g := gb136) (o := .cells #[.int .u64 a1_0, .int .u64 a1_1] 24 (0, 0)) (by (with_reducible repeat (first | refine bN ?_ _ | refine bD ?_ | refine bL ?_ _)); exact BK136.out)) : gb136 ≠ gb168)); have n15_ := Aside0.mk ((by rw [hg]; exact Nat.ne_of_gt (blk_lt (g := gb136) (o := .cells #[.int .u64 a1_0, .int .u64 a1_1] 24 (0, 0)) (by (with_reducible repeat (first | refine bN ?_ _ | refine bD ?_ | refine bL ?_ _)); exact BK136.out)) : gb168 ≠ gb136)); have n16_ := Aside0.mk ((by rw [hg]; exact Nat.ne_of_lt (blk_lt (g := gb144) (o := .cells #[.int .u64 t137, .int .u64 t138, .int .u64 t139, .int .u64 t140] 26 (0, 0)) (by (with_reducible repeat (first | refine bN ?_ _ | refine bD ?_ | refine bL ?_ _)); exact BK144.out)) : gb144 ≠ gb168)); have n17_ := Aside0.mk ((by rw [hg]; exact Nat.ne_of_gt (blk_lt (g := gb144) (o := .cells #[.int .u64 t137, .int .u64 t138, .int .u64 t139, .int .u64 t140] 26 (0, 0)) (by (with_reducible repeat (first | refine bN ?_ _ | refine bD ?_ | refine bL ?_ _)); exact BK144.out)) : gb168 ≠ gb144)); have n18_ := Aside0.mk ((by rw [hg]; exact Nat.ne_of_lt (blk_lt (g := gb145) (o := .cells #[.int .u64 t141, .int .u64 t142] 24 (0, 0)) (by (with_reducible repeat (first | refine bN ?_ _ | refine bD ?_ | refine bL ?_ _)); exact BK145.out)) : gb145 ≠ gb168)); have n19_ := Aside0.mk ((by rw [hg]; exact Nat.ne_of_gt (blk_lt (g := gb145) (o := .cells #[.int .u64 t141, .int .u64 t142] 24 (0, 0)) (by (with_reducible repeat (first | refine bN ?_ _ | refine bD ?_ | refine bL ?_ _)); exact BK145.out)) : gb168 ≠ gb145)); have n20_ := Aside0.mk ((by rw [hg]; exact Nat.ne_of_lt (blk_lt (g := gb155) (o := .cells #[.int .u64 t147, .int .u64 t148, .int .u64 t149, .int .u64 t150] 26 (0, 0)) (by (with_reducible repeat (first | refine bN ?_ _ | refine bD ?_ | refine bL ?_ _)); exact BK155.out)) : gb155 ≠ gb168)); have n21_ := Aside0.mk ((by rw [hg]; exact Nat.ne_of_gt (blk_lt (g := gb155) (o := .cells #[.int .u64 t147, .int .u64 t148, .int .u64 t149, .int .u64 t150] 26 (0, 0)) (by (with_reducible repeat (first | refine bN ?_ _ | refine bD ?_ | refine bL ?_ _)); exact BK155.out)) : gb168 ≠ gb155)); have n22_ := Aside0.mk ((by rw [hg]; exact Nat.ne_of_lt (blk_lt (g := gb156) (o := .cells #[.int .u64 t151, .int .u64 t152, .int .u64 t153, .int .u64 t154] 26 (0, 0)) (by (with_reducible repeat (first | refine bN ?_ _ | refine bD ?_ | refine bL ?_ _)); exact BK156.out)) : gb156 ≠ gb168)); have n23_ := Aside0.mk ((by rw [hg]; exact Nat.ne_of_gt (blk_lt (g := gb156) (o := .cells #[.int .u64 t151, .int .u64 t152, .int .u64 t153, .int .u64 t154] 26 (0, 0)) (by (with_reducible repeat (first | refine bN ?_ _ | refine bD ?_ | refine bL ?_ _)); exact BK156.out)) : gb168 ≠ gb156)); have n24_ := Aside0.mk ((by rw [hg]; exact Nat.ne_of_lt (blk_lt (g := gb160) (o := .cells #[.int .u64 t157, .int .u64 t158] 24 (0, 0)) (by (with_reducible repeat (first | refine bN ?_ _ | refine bD ?_ | refine bL ?_ _)); exact BK160.out)) : gb160 ≠ gb168)); have n25_ := Aside0.mk ((by rw [hg]; exact Nat.ne_of_gt (blk_lt (g := gb160) (o := .cells #[.int .u64 t157, .int .u64 t158] 24 (0, 0)) (by (with_reducible repeat (first | refine bN ?_ _ | refine bD ?_ | refine bL ?_ _)); exact BK160.out)) : gb168 ≠ gb160)); have n26_ := Aside0.mk ((by rw [hg]; exact Nat.ne_of_lt (blk_lt (g := gb164) (o := .cells #[.int .u64 t161, .int .u64 t162] 24 (0, 0)) (by (with_reducible repeat (first | refine bN ?_ _ | refine bD ?_ | refine bL ?_ _)); exact BK164.out)) : gb164 ≠ gb168)); have n27_ := Aside0.mk ((by rw [hg]; exact Nat.ne_of_gt (blk_lt (g := gb164) (o := .cells #[.int .u64 t161, .int .u64 t162] 24 (0, 0)) (by (with_reducible repeat (first | refine bN ?_ _ | refine bD ?_ | refine bL ?_ _)); exact BK164.out)) : gb168 ≠ gb164)); clear BK135; clear BK136; clear BK144; clear BK145; clear BK155; clear BK156; clear BK160; clear BK164; clear HB; have BK135 := n0_; have BK136 := n1_; have BK144 := n2_; have BK145 := n3_; have BK155 := n4_; have BK156 := n5_; have BK160 := n6_; have BK164 := n7_; have HB := n8_; have BK168 := n9_; have GW168 := n10_; have GE168 := n11_; have NB135_168 := n12_; have NB168_135 := n13_; have NB136_168 := n14_; have NB168_136 := n15_; have NB144_168 := n16_; have NB168_144 := n17_; have NB145_168 := n18_; have NB168_145 := n19_; have NB155_168 := n20_; have NB168_155 := n21_; have NB156_168 := n22_; have NB168_156 := n23_; have NB160_168 := n24_; have NB168_160 := n25_; have NB164_168 := n26_; have NB168_164 := n27_; clear n0_ n1_ n2_ n3_ n4_ n5_ n6_ n7_ n8_ n9_ n10_ n11_ n12_ n13_ n14_ n15_ n16_ n17_ n18_ n19_ n20_ n21_ n22_ n23_ n24_ n25_ n26_ n27_; clear hb hbox hg; have hnb107 := NB168_135.out; have hnc107 := NB135_168.out; have hnb108 := NB168_136.out; have hnc108 := NB136_168.out; have hnb109 := NB168_144.out; have hnc109 := NB144_168.out; have hnb110 := NB168_145.out; have hnc110 := NB145_168.out; have hnb111 := NB168_155.out; have hnc111 := NB155_168.out; have hnb112 := NB168_156.out; have hnc112 := NB156_168.out; have hnb113 := NB168_160.out; have hnc113 := NB160_168.out; have hnb114 := NB168_164.out; have hnc114 := NB164_168.out; have hcz115_0 : w106.cell? ⟨gb168, 0, none⟩ = some (.int .u64 0) := (bC BK168.out 0).trans rfl; have hcz115_1 : w106.cell? ⟨gb168, 1, none⟩ = some (.int .u64 0) := (bC BK168.out 1).trans rfl; have hfz115_0 := bF BK168.out 0; have hfz115_1 := bF BK168.out 1; have hcz116_0 : w106.cell? ⟨gb164, 0, none⟩ = some (.int .u64 t161) := (bC BK164.out 0).trans rfl; have hcz116_1 : w106.cell? ⟨gb164, 1, none⟩ = some (.int .u64 t162) := (bC BK164.out 1).trans rfl; have hfz116_0 := bF BK164.out 0; have hfz116_1 := bF BK164.out 1; have hcz117_0 : w106.cell? ⟨gb145, 0, none⟩ = some (.int .u64 t141) := (bC BK145.out 0).trans rfl; have hcz117_1 : w106.cell? ⟨gb145, 1, none⟩ = some (.int .u64 t142) := (bC BK145.out 1).trans rfl; have hfz117_0 := bF BK145.out 0; have hfz117_1 := bF BK145.out 1; have hcz118_0 : w106.cell? ⟨gb136, 0, none⟩ = some (.int .u64 a1_0) := (bC BK136.out 0).trans rfl; have hcz118_1 : w106.cell? ⟨gb136, 1, none⟩ = some (.int .u64 a1_1) := (bC BK136.out 1).trans rfl; have hfz118_0 := bF BK136.out 0; have hfz118_1 := bF BK136.out 1) | ((with_reducible refine gate_callee (f := 18) rfl ?_); refine goesL_ (some 81) rfl rfl Try.func18 (by kernel_rfl) rfl #[.agg #[.int .u64 t141, .int .u64 t142], .agg #[.int .u64 a1_0, .int .u64 a1_1]] rfl (by (try simp only [List.map_toArray, List.map_cons, List.map_nil]); first | done | rfl | (simp only [List.length_drop, List.length_take]; rfl)) ?_; (with_reducible refine (limb_Sub.calls t141 t142 a1_0 a1_1 t173 t174 true _ A35.out).mono ?_); rintro e w119 ⟨rfl, hb⟩; refine ⟨_, rfl, ?_⟩; have n0_ := Aside0.mk (bB (g := gb135) (o := .cells #[.int .u64 a0_0, .int .u64 a0_1, .int .u64 a0_2, .int .u64 a0_3] 26 (0, 0)) (by (with_reducible repeat (first | refine bN ?_ _ | refine bD ?_ | refine bL ?_ _)); refine bX ?_ NB135_164.out _; (with_reducible repeat (first | refine bN ?_ _ | refine bD ?_ | refine bL ?_ _)); refine bX ?_ NB135_164.out _; (with_reducible repeat (first | refine bN ?_ _ | refine bD ?_ | refine bL ?_ _)); refine bX ?_ NB135_168.out _; (with_reducible repeat (first | refine bN ?_ _ | refine bD ?_ | refine bL ?_ _)); refine bX ?_ NB135_168.out _; (with_reducible repeat (first | refine bN ?_ _ | refine bD ?_ | refine bL ?_ _)); exact BK135.out) hb); have n1_ := Aside0.mk (bB (g := gb136) (o := .cells #[.int .u64 a1_0, .int .u64 a1_1] 24 (0, 0)) (by (with_reducible repeat (first | refine bN ?_ _ | refine bD ?_ | refine bL ?_ _)); refine bX ?_ NB136_164.out _; (with_reducible repeat (first | refine bN ?_ _ | refine bD ?_ | refine bL ?_ _)); refine bX ?_ NB136_164.out _; (with_reducible repeat (first | refine bN ?_ _ | refine bD ?_ | refine bL ?_ _)); refine bX ?_ NB136_168.out _; (with_reducible repeat (first | refine bN ?_ _ | refine bD ?_ | refine bL ?_ _)); refine bX ?_ NB136_168.out _; (with_reducible repeat (first | refine bN ?_ _ | refine bD ?_ | refine bL ?_ _)); exact BK136.out) hb); have n2_ := Aside0.mk (bB (g := gb144) (o := .cells #[.int .u64 t137, .int .u64 t138, .int .u64 t139, .int .u64 t140] 26 (0, 0)) (by (with_reducible repeat (first | refine bN ?_ _ | refine bD ?_ | refine bL ?_ _)); refine bX ?_ NB144_164.out _; (with_reducible repeat (first | refine bN ?_ _ | refine bD ?_ | refine bL ?_ _)); refine bX ?_ NB144_164.out _; (with_reducible repeat (first | refine bN ?_ _ | refine bD ?_ | refine bL ?_ _)); refine bX ?_ NB144_168.out _; (with_reducible repeat (first | refine bN ?_ _ | refine bD ?_ | refine bL ?_ _)); refine bX ?_ NB144_168.out _; (with_reducible repeat (first | refine bN ?_ _ | refine bD ?_ | refine bL ?_ _)); exact BK144.out) hb); have n3_ := Aside0.mk (bB (g := gb145) (o := .cells #[.int .u64 t141, .int .u64 t142] 24 (0, 0)) (by (with_reducible repeat (first | refine bN ?_ _ | refine bD ?_ | refine bL ?_ _)); refine bX ?_ NB145_164.out _; (with_reducible repeat (first | refine bN ?_ _ | refine bD ?_ | refine bL ?_ _)); refine bX ?_ NB145_164.out _; (with_reducible repeat (first | refine bN ?_ _ | refine bD ?_ | refine bL ?_ _)); refine bX ?_ NB145_168.out _; (with_reducible repeat (first | refine bN ?_ _ | refine bD ?_ | refine bL ?_ _)); refine bX ?_ NB145_168.out _; (with_reducible repeat (first | refine bN ?_ _ | refine bD ?_ | refine bL ?_ _)); exact BK145.out) hb); have n4_ := Aside0.mk (bB (g := gb155) (o := .cells #[.int .u64 t147, .int .u64 t148, .int .u64 t149, .int .u64 t150] 26 (0, 0)) (by (with_reducible repeat (first | refine bN ?_ _ | refine bD ?_ | refine bL ?_ _)); refine bX ?_ NB155_164.out _; (with_reducible repeat (first | refine bN ?_ _ | refine bD ?_ | refine bL ?_ _)); refine bX ?_ NB155_164.out _; (with_reducible repeat (first | refine bN ?_ _ | refine bD ?_ | refine bL ?_ _)); refine bX ?_ NB155_168.out _; (with_reducible repeat (first | refine bN ?_ _ | refine bD ?_ | refine bL ?_ _)); refine bX ?_ NB155_168.out _; (with_reducible repeat (first | refine bN ?_ _ | refine bD ?_ | refine bL ?_ _)); exact BK155.out) hb); have n5_ := Aside0.mk (bB (g := gb156) (o := .cells #[.int .u64 t151, .int .u64 t152, .int .u64 t153, .int .u64 t154] 26 (0, 0)) (by (with_reducible repeat (first | refine bN ?_ _ | refine bD ?_ | refine bL ?_ _)); refine bX ?_ NB156_164.out _; (with_reducible repeat (first | refine bN ?_ _ | refine bD ?_ | refine bL ?_ _)); refine bX ?_ NB156_164.out _; (with_reducible repeat (first | refine bN ?_ _ | refine bD ?_ | refine bL ?_ _)); refine bX ?_ NB156_168.out _; (with_reducible repeat (first | refine bN ?_ _ | refine bD ?_ | refine bL ?_ _)); refine bX ?_ NB156_168.out _; (with_reducible repeat (first | refine bN ?_ _ | refine bD ?_ | refine bL ?_ _)); exact BK156.out) hb); have n6_ := Aside0.mk (bB (g := gb160) (o := .cells #[.int .u64 t157, .int .u64 t158] 24 (0, 0)) (by (with_reducible repeat (first | refine bN ?_ _ | refine bD ?_ | refine bL ?_ _)); refine bX ?_ NB160_164.out _; (with_reducible repeat (first | refine bN ?_ _ | refine bD ?_ | refine bL ?_ _)); refine bX ?_ NB160_164.out _; (with_reducible repeat (first | refine bN ?_ _ | refine bD ?_ | refine bL ?_ _)); refine bX ?_ NB160_168.out _; (with_reducible repeat (first | refine bN ?_ _ | refine bD ?_ | refine bL ?_ _)); refine bX ?_ NB160_168.out _; (with_reducible repeat (first | refine bN ?_ _ | refine bD ?_ | refine bL ?_ _)); exact BK160.out) hb); have n7_ := Aside0.mk (bB (g := gb164) (o := .cells #[.int .u64 t165, .int .u64 t166] 24 (0, 0)) (by (with_reducible repeat (first | refine bN ?_ _ | refine bD ?_ | refine bL ?_ _)); refine blk_put (cs := #[.int .u64 t165, .int .u64 t162]) ?_ 1 _ rfl; (with_reducible repeat (first | refine bN ?_ _ | refine bD ?_ | refine bL ?_ _)); refine blk_put (cs := #[.int .u64 t161, .int .u64 t162]) ?_ 0 _ rfl; (with_reducible repeat (first | refine bN ?_ _ | refine bD ?_ | refine bL ?_ _)); refine bX ?_ NB164_168.out _; (with_reducible repeat (first | refine bN ?_ _ | refine bD ?_ | refine bL ?_ _)); refine bX ?_ NB164_168.out _; (with_reducible repeat (first | refine bN ?_ _ | refine bD ?_ | refine bL ?_ _)); exact BK164.out) hb); have n8_ := Aside0.mk (bB (g := gb168) (o := .cells #[.int .u64 t165, .int .u64 t166] 24 (0, 0)) (by (with_reducible repeat (first | refine bN ?_ _ | refine bD ?_ | refine bL ?_ _)); refine bX ?_ NB168_164.out _; (with_reducible repeat (first | refine bN ?_ _ | refine bD ?_ | refine bL ?_ _)); refine bX ?_ NB168_164.out _; (with_reducible repeat (first | refine bN ?_ _ | refine bD ?_ | refine bL ?_ _)); refine blk_put (cs := #[.int .u64 t165, .int .u64 0]) ?_ 1 _ rfl; (with_reducible repeat (first | refine bN ?_ _ | refine bD ?_ | refine bL ?_ _)); refine blk_put (cs := #[.int .u64 0, .int .u64 0]) ?_ 0 _ rfl; (with_reducible repeat (first | refine bN ?_ _ | refine bD ?_ | refine bL ?_ _)); exact BK168.out) hb); have n9_ := Aside0.mk (below_step (by repeat (first | (with_reducible first | exact HB.out | apply below_alloc | apply pN | apply dI | refine below_set ?_ GE135.out | refine below_set ?_ GE136.out | refine below_set ?_ GE144.out | refine below_set ?_ GE145.out | refine below_set ?_ GE155.out | refine below_set ?_ GE156.out | refine below_set ?_ GE160.out | refine below_set ?_ GE164.out | refine below_set ?_ GE168.out) | exact HB.out)) hb); clear BK135; clear BK136; clear BK144; clear BK145; clear BK155; clear BK156; clear BK160; clear BK164; clear BK168; clear HB; have BK135 := n0_; have BK136 := n1_; have BK144 := n2_; have BK145 := n3_; have BK155 := n4_; have BK156 := n5_; have BK160 := n6_; have BK164 := n7_; have BK168 := n8_; have HB := n9_; clear n0_ n1_ n2_ n3_ n4_ n5_ n6_ n7_ n8_ n9_; (try clear hb); (try clear hb2); (try clear hk); (try clear hi)) | ((with_reducible refine gate_dst (N := 16) rfl ?_); refine box_event ?hg (N := 16) ?hd (cs := #[.int .u64 0, .int .u64 0]) (t := 24) ?hr ?_; (case hd => rfl); (case hg => rfl); (case hr => first | (go_simp; done) | (go_simp; rfl)); intro gb176 hg w120 hbox hb; have n0_ := Aside0.mk (bB (g := gb135) (o := .cells #[.int .u64 a0_0, .int .u64 a0_1, .int .u64 a0_2, .int .u64 a0_3] 26 (0, 0)) (by (with_reducible repeat (first | refine bN ?_ _ | refine bD ?_ | refine bL ?_ _)); exact BK135.out) hb); have n1_ := Aside0.mk (bB (g := gb136) (o := .cells #[.int .u64 a1_0, .int .u64 a1_1] 24 (0, 0)) (by (with_reducible repeat (first | refine bN ?_ _ | refine bD ?_ | refine bL ?_ _)); exact BK136.out) hb); have n2_ := Aside0.mk (bB (g := gb144) (o := .cells #[.int .u64 t137, .int .u64 t138, .int .u64 t139, .int .u64 t140] 26 (0, 0)) (by (with_reducible repeat (first | refine bN ?_ _ | refine bD ?_ | refine bL ?_ _)); exact BK144.out) hb); have n3_ := Aside0.mk (bB (g := gb145) (o := .cells #[.int .u64 t141, .int .u64 t142] 24 (0, 0)) (by (with_reducible repeat (first | refine bN ?_ _ | refine bD ?_ | refine bL ?_ _)); exact BK145.out) hb); have n4_ := Aside0.mk (bB (g := gb155) (o := .cells #[.int .u64 t147, .int .u64 t148, .int .u64 t149, .int .u64 t150] 26 (0, 0)) (by (with_reducible repeat (first | refine bN ?_ _ | refine bD ?_ | refine bL ?_ _)); exact BK155.out) hb); have n5_ := Aside0.mk (bB (g := gb156) (o := .cells #[.int .u64 t151, .int .u64 t152, .int .u64 t153, .int .u64 t154] 26 (0, 0)) (by (with_reducible repeat (first | refine bN ?_ _ | refine bD ?_ | refine bL ?_ _)); exact BK156.out) hb); have n6_ := Aside0.mk (bB (g := gb160) (o := .cells #[.int .u64 t157, .int .u64 t158] 24 (0, 0)) (by (with_reducible repeat (first | refine bN ?_ _ | refine bD ?_ | refine bL ?_ _)); exact BK160.out) hb); have n7_ := Aside0.mk (bB (g := gb164) (o := .cells #[.int .u64 t165, .int .u64 t166] 24 (0, 0)) (by (with_reducible repeat (first | refine bN ?_ _ | refine bD ?_ | refine bL ?_ _)); exact BK164.out) hb); have n8_ := Aside0.mk (bB (g := gb168) (o := .cells #[.int .u64 t165, .int .u64 t166] 24 (0, 0)) (by (with_reducible repeat (first | refine bN ?_ _ | refine bD ?_ | refine bL ?_ _)); exact BK168.out) hb); have n9_ := Aside0.mk (below_step (by repeat (first | (with_reducible first | exact HB.out | apply below_alloc | apply pN | apply dI | refine below_set ?_ GE135.out | refine below_set ?_ GE136.out | refine below_set ?_ GE144.out | refine below_set ?_ GE145.out | refine below_set ?_ GE155.out | refine below_set ?_ GE156.out | refine below_set ?_ GE160.out | refine below_set ?_ GE164.out | refine below_set ?_ GE168.out) | exact HB.out)) hb); have n10_ := Aside0.mk (hbox); have n11_ := Aside0.mk ((by rw [hg]; exact (below_size (by repeat (first | (with_reducible first | exact HB.out | apply below_alloc | apply pN | apply dI | refine below_set ?_ GE135.out | refine below_set ?_ GE136.out | refine below_set ?_ GE144.out | refine below_set ?_ GE145.out | refine below_set ?_ GE155.out | refine below_set ?_ GE156.out | refine below_set ?_ GE160.out | refine below_set ?_ GE164.out | refine below_set ?_ GE168.out) | exact HB.out))) : w.heap.size ≤ gb176)); have n12_ := Aside0.mk ((by rw [hg]; exact (below_size (by repeat (first | (with_reducible first | exact HB.out | apply below_alloc | apply pN | apply dI | refine below_set ?_ GE135.out | refine below_set ?_ GE136.out | refine below_set ?_ GE144.out | refine below_set ?_ GE145.out | refine below_set ?_ GE155.out | refine below_set ?_ GE156.out | refine below_set ?_ GE160.out | refine below_set ?_ GE164.out | refine below_set ?_ GE168.out) | exact HB.out))) : w.heap.size ≤ gb176)); have n13_ := Aside0.mk ((by rw [hg]; exact Nat.ne_of_lt (blk_lt (g := gb135) (o := .cells #[.int .u64 a0_0, .int .u64 a0_1, .int .u64 a0_2, .int .u64 a0_3] 26 (0, 0)) (by (with_reducible repeat (first | refine bN ?_ _ | refine bD ?_ | refine bL ?_ _)); exact BK135.out)) : gb135 ≠ gb176)); have n14_ := Aside0.mk ((by rw [hg]; exact Nat.ne_of_gt (blk_lt (g := gb135) (o := .cells #[.int .u64 a0_0, .int .u64 a0_1, .int .u64 a0_2, .int .u64 a0_3] 26 (0, 0)) (by (with_reducible repeat (first | refine bN ?_ _ | refine bD ?_ | refine bL ?_ _)); exact BK135.out)) : gb176 ≠ gb135)); have n15_ := Aside0.mk ((by rw [hg]; exact Nat.ne_of_lt (blk_lt (g := gb136) (o := .cells #[.int .u64 a1_0, .int .u64 a1_1] 24 (0, 0)) (by (with_reducible repeat (first | refine bN ?_ _ | refine bD ?_ | refine bL ?_ _)); exact BK136.out)) : gb136 ≠ gb176)); have n16_ := Aside0.mk ((by rw [hg]; exact Nat.ne_of_gt (blk_lt (g := gb136) (o := .cells #[.int .u64 a1_0, .int .u64 a1_1] 24 (0, 0)) (by (with_reducible repeat (first | refine bN ?_ _ | refine bD ?_ | refine bL ?_ _)); exact BK136.out)) : gb176 ≠ gb136)); have n17_ := Aside0.mk ((by rw [hg]; exact Nat.ne_of_lt (blk_lt (g := gb144) (o := .cells #[.int .u64 t137, .int .u64 t138, .int .u64 t139, .int .u64 t140] 26 (0, 0)) (by (with_reducible repeat (first | refine bN ?_ _ | refine bD ?_ | refine bL ?_ _)); exact BK144.out)) : gb144 ≠ gb176)); have n18_ := Aside0.mk ((by rw [hg]; exact Nat.ne_of_gt (blk_lt (g := gb144) (o := .cells #[.int .u64 t137, .int .u64 t138, .int .u64 t139, .int .u64 t140] 26 (0, 0)) (by (with_reducible repeat (first | refine bN ?_ _ | refine bD ?_ | refine bL ?_ _)); exact BK144.out)) : gb176 ≠ gb144)); have n19_ := Aside0.mk ((by rw [hg]; exact Nat.ne_of_lt (blk_lt (g := gb145) (o := .cells #[.int .u64 t141, .int .u64 t142] 24 (0, 0)) (by (with_reducible repeat (first | refine bN ?_ _ | refine bD ?_ | refine bL ?_ _)); exact BK145.out)) : gb145 ≠ gb176)); have n20_ := Aside0.mk ((by rw [hg]; exact Nat.ne_of_gt (blk_lt (g := gb145) (o := .cells #[.int .u64 t141, .int .u64 t142] 24 (0, 0)) (by (with_reducible repeat (first | refine bN ?_ _ | refine bD ?_ | refine bL ?_ _)); exact BK145.out)) : gb176 ≠ gb145)); have n21_ := Aside0.mk ((by rw [hg]; exact Nat.ne_of_lt (blk_lt (g := gb155) (o := .cells #[.int .u64 t147, .int .u64 t148, .int .u64 t149, .int .u64 t150] 26 (0, 0)) (by (with_reducible repeat (first | refine bN ?_ _ | refine bD ?_ | refine bL ?_ _)); exact BK155.out)) : gb155 ≠ gb176)); have n22_ := Aside0.mk ((by rw [hg]; exact Nat.ne_of_gt (blk_lt (g := gb155) (o := .cells #[.int .u64 t147, .int .u64 t148, .int .u64 t149, .int .u64 t150] 26 (0, 0)) (by (with_reducible repeat (first | refine bN ?_ _ | refine bD ?_ | refine bL ?_ _)); exact BK155.out)) : gb176 ≠ gb155)); have n23_ := Aside0.mk ((by rw [hg]; exact Nat.ne_of_lt (blk_lt (g := gb156) (o := .cells #[.int .u64 t151, .int .u64 t152, .int .u64 t153, .int .u64 t154] 26 (0, 0)) (by (with_reducible repeat (first | refine bN ?_ _ | refine bD ?_ | refine bL ?_ _)); exact BK156.out)) : gb156 ≠ gb176)); have n24_ := Aside0.mk ((by rw [hg]; exact Nat.ne_of_gt (blk_lt (g := gb156) (o := .cells #[.int .u64 t151, .int .u64 t152, .int .u64 t153, .int .u64 t154] 26 (0, 0)) (by (with_reducible repeat (first | refine bN ?_ _ | refine bD ?_ | refine bL ?_ _)); exact BK156.out)) : gb176 ≠ gb156)); have n25_ := Aside0.mk ((by rw [hg]; exact Nat.ne_of_lt (blk_lt (g := gb160) (o := .cells #[.int .u64 t157, .int .u64 t158] 24 (0, 0)) (by (with_reducible repeat (first | refine bN ?_ _ | refine bD ?_ | refine bL ?_ _)); exact BK160.out)) : gb160 ≠ gb176)); have n26_ := Aside0.mk ((by rw [hg]; exact Nat.ne_of_gt (blk_lt (g := gb160) (o := .cells #[.int .u64 t157, .int .u64 t158] 24 (0, 0)) (by (with_reducible repeat (first | refine bN ?_ _ | refine bD ?_ | refine bL ?_ _)); exact BK160.out)) : gb176 ≠ gb160)); have n27_ := Aside0.mk ((by rw [hg]; exact Nat.ne_of_lt (blk_lt (g := gb164) (o := .cells #[.int .u64 t165, .int .u64 t166] 24 (0, 0)) (by (with_reducible repeat (first | refine bN ?_ _ | refine bD ?_ | refine bL ?_ _)); exact BK164.out)) : gb164 ≠ gb176)); have n28_ := Aside0.mk ((by rw [hg]; exact Nat.ne_of_gt (blk_lt (g := gb164) (o := .cells #[.int .u64 t165, .int .u64 t166] 24 (0, 0)) (by (with_reducible repeat (first | refine bN ?_ _ | refine bD ?_ | refine bL ?_ _)); exact BK164.out)) : gb176 ≠ gb164)); have n29_ := Aside0.mk ((by rw [hg]; exact Nat.ne_of_lt (blk_lt (g := gb168) (o := .cells #[.int .u64 t165, .int .u64 t166] 24 (0, 0)) (by (with_reducible repeat (first | refine bN ?_ _ | refine bD ?_ | refine bL ?_ _)); exact BK168.out)) : gb168 ≠ gb176)); have n30_ := Aside0.mk ((by rw [hg]; exact Nat.ne_of_gt (blk_lt (g := gb168) (o := .cells #[.int .u64 t165, .int .u64 t166] 24 (0, 0)) (by (with_reducible repeat (first | refine bN ?_ _ | refine bD ?_ | refine bL ?_ _)); exact BK168.out)) : gb176 ≠ gb168)); clear BK135; clear BK136; clear BK144; clear BK145; clear BK155; clear BK156; clear BK160; clear BK164; clear BK168; clear HB; have BK135 := n0_; have BK136 := n1_; have BK144 := n2_; have BK145 := n3_; have BK155 := n4_; have BK156 := n5_; have BK160 := n6_; have BK164 := n7_; have BK168 := n8_; have HB := n9_; have BK176 := n10_; have GW176 := n11_; have GE176 := n12_; have NB135_176 := n13_; have NB176_135 := n14_; have NB136_176 := n15_; have NB176_136 := n16_; have NB144_176 := n17_; have NB176_144 := n18_; have NB145_176 := n19_; have NB176_145 := n20_; have NB155_176 := n21_; have NB176_155 := n22_; have NB156_176 := n23_; have NB176_156 := n24_; have NB160_176 := n25_; have NB176_160 := n26_; have NB164_176 := n27_; have NB176_164 := n28_; have NB168_176 := n29_; have NB176_168 := n30_; clear n0_ n1_ n2_ n3_ n4_ n5_ n6_ n7_ n8_ n9_ n10_ n11_ n12_ n13_ n14_ n15_ n16_ n17_ n18_ n19_ n20_ n21_ n22_ n23_ n24_ n25_ n26_ n27_ n28_ n29_ n30_; clear hb hbox hg; have hnb121 := NB176_135.out; have hnc121 := NB135_176.out; have hnb122 := NB176_136.out; have hnc122 := NB136_176.out; have hnb123 := NB176_144.out; have hnc123 := NB144_176.out; have hnb124 := NB176_145.out; have hnc124 := NB145_176.out; have hnb125 := NB176_155.out; have hnc125 := NB155_176.out; have hnb126 := NB176_156.out; have hnc126 := NB156_176.out; have hnb127 := NB176_160.out; have hnc127 := NB160_176.out; have hnb128 := NB176_164.out; have hnc128 := NB164_176.out; have hnb129 := NB176_168.out; have hnc129 := NB168_176.out; have hcz130_0 : w120.cell? ⟨gb176, 0, none⟩ = some (.int .u64 0) := (bC BK176.out 0).trans rfl; have hcz130_1 : w120.cell? ⟨gb176, 1, none⟩ = some (.int .u64 0) := (bC BK176.out 1).trans rfl; have hfz130_0 := bF BK176.out 0; have hfz130_1 := bF BK176.out 1; have hcz131_0 : w120.cell? ⟨gb156, 0, none⟩ = some (.int .u64 t151) := (bC BK156.out 0).trans rfl; have hcz131_1 : w120.cell? ⟨gb156, 1, none⟩ = some (.int .u64 t152) := (bC BK156.out 1).trans rfl; have hcz131_2 : w120.cell? ⟨gb156, 2, none⟩ = some (.int .u64 t153) := (bC BK156.out 2).trans rfl; have hcz131_3 : w120.cell? ⟨gb156, 3, none⟩ = some (.int .u64 t154) := (bC BK156.out 3).trans rfl; have hfz131_0 := bF BK156.out 0; have hfz131_1 := bF BK156.out 1; have hfz131_2 := bF BK156.out 2; have hfz131_3 := bF BK156.out 3; have hcz132_0 : w120.cell? ⟨gb164, 0, none⟩ = some (.int .u64 t165) := (bC BK164.out 0).trans rfl; have hcz132_1 : w120.cell? ⟨gb164, 1, none⟩ = some (.int .u64 t166) := (bC BK164.out 1).trans rfl; have hfz132_0 := bF BK164.out 0; have hfz132_1 := bF BK164.out 1; have hcz133_0 : w120.cell? ⟨gb160, 0, none⟩ = some (.int .u64 t157) := (bC BK160.out 0).trans rfl; have hcz133_1 : w120.cell? ⟨gb160, 1, none⟩ = some (.int .u64 t158) := (bC BK160.out 1).trans rfl; have hfz133_0 := bF BK160.out 0; have hfz133_1 := bF BK160.out 1; have hcz134_0 : w120.cell? ⟨gb135, 0, none⟩ = some (.int .u64 a0_0) := (bC BK135.out 0).trans rfl; have hcz134_1 : w120.cell? ⟨gb135, 1, none⟩ = some (.int .u64 a0_1) := (bC BK135.out 1).trans rfl; have hcz134_2 : w120.cell? ⟨gb135, 2, none⟩ = some (.int .u64 a0_2) := (bC BK135.out 2).trans rfl; have hcz134_3 : w120.cell? ⟨gb135, 3, none⟩ = some (.int .u64 a0_3) := (bC BK135.out 3).trans rfl; have hfz134_0 := bF BK135.out 0; have hfz134_1 := bF BK135.out 1; have hfz134_2 := bF BK135.out 2; have hfz134_3 := bF BK135.out 3) | (go_at_call 16; (with_reducible refine (perigeelaw1_awake.calls k  t177 _ A41.out).mono ?_); rintro e w135 ⟨rfl, hb⟩; have n0_ := Aside0.mk (bB (g := gb135) (o := .cells #[.int .u64 a0_0, .int .u64 a0_1, .int .u64 a0_2, .int .u64 a0_3] 26 (0, 0)) (by (with_reducible repeat (first | refine bN ?_ _ | refine bD ?_ | refine bL ?_ _)); refine bX ?_ NB135_176.out _; (with_reducible repeat (first | refine bN ?_ _ | refine bD ?_ | refine bL ?_ _)); refine bX ?_ NB135_176.out _; (with_reducible repeat (first | refine bN ?_ _ | refine bD ?_ | refine bL ?_ _)); exact BK135.out) hb); have n1_ := Aside0.mk (bB (g := gb136) (o := .cells #[.int .u64 a1_0, .int .u64 a1_1] 24 (0, 0)) (by (with_reducible repeat (first | refine bN ?_ _ | refine bD ?_ | refine bL ?_ _)); refine bX ?_ NB136_176.out _; (with_reducible repeat (first | refine bN ?_ _ | refine bD ?_ | refine bL ?_ _)); refine bX ?_ NB136_176.out _; (with_reducible repeat (first | refine bN ?_ _ | refine bD ?_ | refine bL ?_ _)); exact BK136.out) hb); have n2_ := Aside0.mk (bB (g := gb144) (o := .cells #[.int .u64 t137, .int .u64 t138, .int .u64 t139, .int .u64 t140] 26 (0, 0)) (by (with_reducible repeat (first | refine bN ?_ _ | refine bD ?_ | refine bL ?_ _)); refine bX ?_ NB144_176.out _; (with_reducible repeat (first | refine bN ?_ _ | refine bD ?_ | refine bL ?_ _)); refine bX ?_ NB144_176.out _; (with_reducible repeat (first | refine bN ?_ _ | refine bD ?_ | refine bL ?_ _)); exact BK144.out) hb); have n3_ := Aside0.mk (bB (g := gb145) (o := .cells #[.int .u64 t141, .int .u64 t142] 24 (0, 0)) (by (with_reducible repeat (first | refine bN ?_ _ | refine bD ?_ | refine bL ?_ _)); refine bX ?_ NB145_176.out _; (with_reducible repeat (first | refine bN ?_ _ | refine bD ?_ | refine bL ?_ _)); refine bX ?_ NB145_176.out _; (with_reducible repeat (first | refine bN ?_ _ | refine bD ?_ | refine bL ?_ _)); exact BK145.out) hb); have n4_ := Aside0.mk (bB (g := gb155) (o := .cells #[.int .u64 t147, .int .u64 t148, .int .u64 t149, .int .u64 t150] 26 (0, 0)) (by (with_reducible repeat (first | refine bN ?_ _ | refine bD ?_ | refine bL ?_ _)); refine bX ?_ NB155_176.out _; (with_reducible repeat (first | refine bN ?_ _ | refine bD ?_ | refine bL ?_ _)); refine bX ?_ NB155_176.out _; (with_reducible repeat (first | refine bN ?_ _ | refine bD ?_ | refine bL ?_ _)); exact BK155.out) hb); have n5_ := Aside0.mk (bB (g := gb156) (o := .cells #[.int .u64 t151, .int .u64 t152, .int .u64 t153, .int .u64 t154] 26 (0, 0)) (by (with_reducible repeat (first | refine bN ?_ _ | refine bD ?_ | refine bL ?_ _)); refine bX ?_ NB156_176.out _; (with_reducible repeat (first | refine bN ?_ _ | refine bD ?_ | refine bL ?_ _)); refine bX ?_ NB156_176.out _; (with_reducible repeat (first | refine bN ?_ _ | refine bD ?_ | refine bL ?_ _)); exact BK156.out) hb); have n6_ := Aside0.mk (bB (g := gb160) (o := .cells #[.int .u64 t157, .int .u64 t158] 24 (0, 0)) (by (with_reducible repeat (first | refine bN ?_ _ | refine bD ?_ | refine bL ?_ _)); refine bX ?_ NB160_176.out _; (with_reducible repeat (first | refine bN ?_ _ | refine bD ?_ | refine bL ?_ _)); refine bX ?_ NB160_176.out _; (with_reducible repeat (first | refine bN ?_ _ | refine bD ?_ | refine bL ?_ _)); exact BK160.out) hb); have n7_ := Aside0.mk (bB (g := gb164) (o := .cells #[.int .u64 t165, .int .u64 t166] 24 (0, 0)) (by (with_reducible repeat (first | refine bN ?_ _ | refine bD ?_ | refine bL ?_ _)); refine bX ?_ NB164_176.out _; (with_reducible repeat (first | refine bN ?_ _ | refine bD ?_ | refine bL ?_ _)); refine bX ?_ NB164_176.out _; (with_reducible repeat (first | refine bN ?_ _ | refine bD ?_ | refine bL ?_ _)); exact BK164.out) hb); have n8_ := Aside0.mk (bB (g := gb168) (o := .cells #[.int .u64 t165, .int .u64 t166] 24 (0, 0)) (by (with_reducible repeat (first | refine bN ?_ _ | refine bD ?_ | refine bL ?_ _)); refine bX ?_ NB168_176.out _; (with_reducible repeat (first | refine bN ?_ _ | refine bD ?_ | refine bL ?_ _)); refine bX ?_ NB168_176.out _; (with_reducible repeat (first | refine bN ?_ _ | refine bD ?_ | refine bL ?_ _)); exact BK168.out) hb); have n9_ := Aside0.mk (bB (g := gb176) (o := .cells #[.int .u64 t173, .int .u64 t174] 24 (0, 0)) (by (with_reducible repeat (first | refine bN ?_ _ | refine bD ?_ | refine bL ?_ _)); refine blk_put (cs := #[.int .u64 t173, .int .u64 0]) ?_ 1 _ rfl; (with_reducible repeat (first | refine bN ?_ _ | refine bD ?_ | refine bL ?_ _)); refine blk_put (cs := #[.int .u64 0, .int .u64 0]) ?_ 0 _ rfl; (with_reducible repeat (first | refine bN ?_ _ | refine bD ?_ | refine bL ?_ _)); exact BK176.out) hb); have n10_ := Aside0.mk (below_step (by repeat (first | (with_reducible first | exact HB.out | apply below_alloc | apply pN | apply dI | refine below_set ?_ GE135.out | refine below_set ?_ GE136.out | refine below_set ?_ GE144.out | refine below_set ?_ GE145.out | refine below_set ?_ GE155.out | refine below_set ?_ GE156.out | refine below_set ?_ GE160.out | refine below_set ?_ GE164.out | refine below_set ?_ GE168.out | refine below_set ?_ GE176.out) | exact HB.out)) hb); clear BK135; clear BK136; clear BK144; clear BK145; clear BK155; clear BK156; clear BK160; clear BK164; clear BK168; clear BK176; clear HB; have BK135 := n0_; have BK136 := n1_; have BK144 := n2_; have BK145 := n3_; have BK155 := n4_; have BK156 := n5_; have BK160 := n6_; have BK164 := n7_; have BK168 := n8_; have BK176 := n9_; have HB := n10_; clear n0_ n1_ n2_ n3_ n4_ n5_ n6_ n7_ n8_ n9_ n10_; (try clear hb); (try clear hb2); (try clear hk); (try clear hi)))
  go_ret
  exact ⟨by first | rfl | (simp [errW_none, errW_some] <;> rfl) | (simp [*, errW_none, errW_some] <;> rfl), by repeat (first | (with_reducible first | exact HB.out | apply below_alloc | apply pN | apply dI | refine below_set ?_ GE135.out | refine below_set ?_ GE136.out | refine below_set ?_ GE144.out | refine below_set ?_ GE145.out | refine below_set ?_ GE155.out | refine below_set ?_ GE156.out | refine below_set ?_ GE160.out | refine below_set ?_ GE164.out | refine below_set ?_ GE168.out | refine below_set ?_ GE176.out) | exact HB.out)⟩
end Go.Proofs.Ytlpdongckcaclaa.B
