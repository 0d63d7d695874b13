/- Functions of the translation as plain Lean functions, and their walks: written by a program of this session's on the kit's print, for this seat. -/
import Derived.Test.YtlpdongckcaclaaBx0
import Derived.Test.YtlpdongckcaclaaBx1
import Derived.Test.YtlpdongckcaclaaBx2
import Derived.Test.YtlpdongckcaclaaBx4
import Derived.Test.YtlpdongckcaclaaBy0
namespace Go.Proofs.Ytlpdongckcaclaa.B
open Go.RowKit Go.Proofs.Ytlpdongckcaclaa.Limb Go.Proofs.Ytlpdongckcaclaa.Plain Go.Proofs.YtlpdongckcaclaaW.PrintWords Go.Proofs.YtlpdongckcaclaaW.PrintLast Go.Proofs.YtlpdongckcaclaaW.PrintMore
open Go.Proofs.YtlpdongckcaclaaW.PrintWords renaming pw_below_drewN → pN, below_drew1 → dI, blk_drewN → bN, blk_alloc → bL, blk_below → bB, blk_cell → bC, blk_frozen → bF, blk_far → bX, blk_drew → bD
attribute [local go_sem] max2_int min2_int max_two min_two max_three min_three max_four min_four   -- for this text's walks alone
set_option linter.unusedVariables false
set_option linter.unusedSimpArgs false
attribute [local go_sem high] eqA24 eqA26
set_option maxHeartbeats 8000000 in
set_option maxRecDepth 100000 in
theorem perigeelaw1_LimbRest.way2 (w : World) {k : Nat} {a0_0 a0_1 a0_2 a0_3 a1_0 a1_1 : Int} {t137 t138 t139 t140 t141 t142 : Int} {t147 t148 t149 t150 : Int} {t151 t152 t153 t154 : Int} {t157 t158 t161 t162 : Int} {t178 t179 : Int} {t182 : Bool} (c4b0 : (a1_0 == 0 && a1_1 == 0) = false) (c4b1 : decide ((decide (a1_0 = 0) && a1_1 == 0) = true) = false) (c4b2 : (a1_0 == 0 && a1_1 == 0) = false) (c4b3 : ¬(decide (a1_0 = 0) && a1_1 == 0) = true) (A26 : Aside0 (limb_Mul.f t139 t140 a1_0 a1_1 = some (t147, t148, t149, t150))) (A27 : Aside0 (limb_Mul.f t137 t138 a1_0 a1_1 = some (t151, t152, t153, t154))) (A28 : Aside0 (limb_Add.f t149 t150 t141 t142 = some (t157, t158, false))) (A3 : Aside0 (limb_Div.f a0_0 a0_1 a0_2 a0_3 a1_0 a1_1 = some (t137, t138, t139, t140, t141, t142, true))) (A29 : Aside0 (limb_Add.f t147 t148 t153 t154 = some (t161, t162, false))) (c139b0 : (t151 == 0 && t152 == 0) = true) (c139b1 : decide ((decide (t151 = 0) && t152 == 0) = true) = true) (c139b2 : (t151 == 0 && t152 == 0) = true) (c140b0 : (t161 == a0_0 && t162 == a0_1 && (t157 == a0_2 && t158 == a0_3)) = true) (A136 : Aside0 (limb_Sub.f t141 t142 a1_0 a1_1 = some (t178, t179, true))) (A142 : Aside0 (perigeelaw1_awake.f k = some t182)) :
    Calls Try.prog 6 #[.agg #[.int .u64 a0_0, .int .u64 a0_1, .int .u64 a0_2, .int .u64 a0_3], .agg #[.int .u64 a1_0, .int .u64 a1_1]] w fun e w' => e = .returned (.bool t182) ∧ Below w.heap.size w w' := by
  have hu26 := Try.underlying26
  have hu24 := Try.underlying24
  have HB := Aside0.mk (Below.refl w.heap.size w)
  go_enter Try.func6, Try.ntmps6
  try go_wp2_with (first | ((with_reducible refine gate_dst (N := 2) rfl ?_); refine box_event ?hg (N := 2) ?hd (cs := #[.int .u64 a0_0, .int .u64 a0_1, .int .u64 a0_2, .int .u64 a0_3]) (t := 26) ?hr ?_; (case hd => rfl); (case hg => rfl); (case hr => first | (go_simp; done) | (go_simp; rfl)); intro gb135 hg w143 hbox hb; have n0_ := Aside0.mk (below_step (by repeat (first | (with_reducible first | exact HB.out | apply below_alloc | apply pN | apply dI) | exact HB.out)) hb); have n1_ := Aside0.mk (hbox); have n2_ := Aside0.mk ((by rw [hg]; exact (below_size (by repeat (first | (with_reducible first | exact HB.out | apply below_alloc | apply pN | apply dI) | exact HB.out))) : w.heap.size ≤ gb135)); have n3_ := Aside0.mk ((by rw [hg]; exact (below_size (by repeat (first | (with_reducible first | exact HB.out | apply below_alloc | apply pN | apply dI) | exact HB.out))) : w.heap.size ≤ gb135)); clear HB; have HB := n0_; have BK135 := n1_; have GW135 := n2_; have GE135 := n3_; clear n0_ n1_ n2_ n3_; clear hb hbox hg) | ((with_reducible refine gate_dst (N := 3) rfl ?_); refine box_event ?hg (N := 3) ?hd (cs := #[.int .u64 a1_0, .int .u64 a1_1]) (t := 24) ?hr ?_; (case hd => rfl); (case hg => rfl); (case hr => first | (go_simp; done) | (go_simp; rfl)); intro gb136 hg w144 hbox hb; have n0_ := Aside0.mk (bB (g := gb135) (o := .cells #[.int .u64 a0_0, .int .u64 a0_1, .int .u64 a0_2, .int .u64 a0_3] 26 (0, 0)) (by (with_reducible repeat (first | refine bN ?_ _ | refine bD ?_ | refine bL ?_ _)); exact BK135.out) hb); have n1_ := Aside0.mk (below_step (by repeat (first | (with_reducible first | exact HB.out | apply below_alloc | apply pN | apply dI | refine below_set ?_ GE135.out) | exact HB.out)) hb); have n2_ := Aside0.mk (hbox); have n3_ := Aside0.mk ((by rw [hg]; exact (below_size (by repeat (first | (with_reducible first | exact HB.out | apply below_alloc | apply pN | apply dI | refine below_set ?_ GE135.out) | exact HB.out))) : w.heap.size ≤ gb136)); have n4_ := Aside0.mk ((by rw [hg]; exact (below_size (by repeat (first | (with_reducible first | exact HB.out | apply below_alloc | apply pN | apply dI | refine below_set ?_ GE135.out) | exact HB.out))) : w.heap.size ≤ gb136)); have n5_ := Aside0.mk ((by rw [hg]; exact Nat.ne_of_lt (blk_lt (g := gb135) (o := .cells #[.int .u64 a0_0, .int .u64 a0_1, .int .u64 a0_2, .int .u64 a0_3] 26 (0, 0)) (by (with_reducible repeat (first | refine bN ?_ _ | refine bD ?_ | refine bL ?_ _)); exact BK135.out)) : gb135 ≠ gb136)); have n6_ := Aside0.mk ((by rw [hg]; exact Nat.ne_of_gt (blk_lt (g := gb135) (o := .cells #[.int .u64 a0_0, .int .u64 a0_1, .int .u64 a0_2, .int .u64 a0_3] 26 (0, 0)) (by (with_reducible repeat (first | refine bN ?_ _ | refine bD ?_ | refine bL ?_ _)); exact BK135.out)) : gb136 ≠ gb135)); clear BK135; clear HB; have BK135 := n0_; have HB := n1_; have BK136 := n2_; have GW136 := n3_; have GE136 := n4_; have NB135_136 := n5_; have NB136_135 := n6_; clear n0_ n1_ n2_ n3_ n4_ n5_ n6_; clear hb hbox hg; have hnb145 := NB135_136.out; have hnc145 := NB136_135.out; have hcz146_0 : w144.cell? ⟨gb135, 0, none⟩ = some (.int .u64 a0_0) := (bC BK135.out 0).trans rfl; have hcz146_1 : w144.cell? ⟨gb135, 1, none⟩ = some (.int .u64 a0_1) := (bC BK135.out 1).trans rfl; have hcz146_2 : w144.cell? ⟨gb135, 2, none⟩ = some (.int .u64 a0_2) := (bC BK135.out 2).trans rfl; have hcz146_3 : w144.cell? ⟨gb135, 3, none⟩ = some (.int .u64 a0_3) := (bC BK135.out 3).trans rfl; have hfz146_0 := bF BK135.out 0; have hfz146_1 := bF BK135.out 1; have hfz146_2 := bF BK135.out 2; have hfz146_3 := bF BK135.out 3; have hcz147_0 : w144.cell? ⟨gb136, 0, none⟩ = some (.int .u64 a1_0) := (bC BK136.out 0).trans rfl; have hcz147_1 : w144.cell? ⟨gb136, 1, none⟩ = some (.int .u64 a1_1) := (bC BK136.out 1).trans rfl; have hfz147_0 := bF BK136.out 0; have hfz147_1 := bF BK136.out 1) | ((with_reducible refine gate_callee (f := 12) rfl ?_); refine goesL_ (some 21) rfl rfl Try.func12 (by kernel_rfl) rfl #[.agg #[.int .u64 a0_0, .int .u64 a0_1, .int .u64 a0_2, .int .u64 a0_3], .agg #[.int .u64 a1_0, .int .u64 a1_1]] rfl (by (try simp only [List.map_toArray, List.map_cons, List.map_nil]); first | done | rfl | (simp only [List.length_drop, List.length_take]; rfl)) ?_; (with_reducible refine (limb_Div.calls a0_0 a0_1 a0_2 a0_3 a1_0 a1_1 t137 t138 t139 t140 t141 t142 true _ A3.out).mono ?_); rintro e w148 ⟨rfl, hb⟩; refine ⟨_, rfl, ?_⟩; have n0_ := Aside0.mk (bB (g := gb135) (o := .cells #[.int .u64 a0_0, .int .u64 a0_1, .int .u64 a0_2, .int .u64 a0_3] 26 (0, 0)) (by (with_reducible repeat (first | refine bN ?_ _ | refine bD ?_ | refine bL ?_ _)); exact BK135.out) hb); have n1_ := Aside0.mk (bB (g := gb136) (o := .cells #[.int .u64 a1_0, .int .u64 a1_1] 24 (0, 0)) (by (with_reducible repeat (first | refine bN ?_ _ | refine bD ?_ | refine bL ?_ _)); exact BK136.out) hb); have n2_ := Aside0.mk (below_step (by repeat (first | (with_reducible first | exact HB.out | apply below_alloc | apply pN | apply dI | refine below_set ?_ GE135.out | refine below_set ?_ GE136.out) | exact HB.out)) hb); clear BK135; clear BK136; clear HB; have BK135 := n0_; have BK136 := n1_; have HB := n2_; clear n0_ n1_ n2_; (try clear hb); (try clear hb2); (try clear hk); (try clear hi)) | ((with_reducible refine gate_dst (N := 5) rfl ?_); refine box_event ?hg (N := 5) ?hd (cs := #[.int .u64 0, .int .u64 0, .int .u64 0, .int .u64 0]) (t := 26) ?hr ?_; (case hd => rfl); (case hg => rfl); (case hr => first | (go_simp; done) | (go_simp; rfl)); intro gb144 hg w149 hbox hb; have n0_ := Aside0.mk (bB (g := gb135) (o := .cells #[.int .u64 a0_0, .int .u64 a0_1, .int .u64 a0_2, .int .u64 a0_3] 26 (0, 0)) (by (with_reducible repeat (first | refine bN ?_ _ | refine bD ?_ | refine bL ?_ _)); exact BK135.out) hb); have n1_ := Aside0.mk (bB (g := gb136) (o := .cells #[.int .u64 a1_0, .int .u64 a1_1] 24 (0, 0)) (by (with_reducible repeat (first | refine bN ?_ _ | refine bD ?_ | refine bL ?_ _)); exact BK136.out) hb); have n2_ := Aside0.mk (below_step (by repeat (first | (with_reducible first | exact HB.out | apply below_alloc | apply pN | apply dI | refine below_set ?_ GE135.out | refine below_set ?_ GE136.out) | exact HB.out)) hb); have n3_ := Aside0.mk (hbox); have n4_ := Aside0.mk ((by rw [hg]; exact (below_size (by repeat (first | (with_reducible first | exact HB.out | apply below_alloc | apply pN | apply dI | refine below_set ?_ GE135.out | refine below_set ?_ GE136.out) | exact HB.out))) : w.heap.size ≤ gb144)); have n5_ := Aside0.mk ((by rw [hg]; exact (below_size (by repeat (first | (with_reducible first | exact HB.out | apply below_alloc | apply pN | apply dI | refine below_set ?_ GE135.out | refine below_set ?_ GE136.out) | exact HB.out))) : w.heap.size ≤ gb144)); have n6_ := Aside0.mk ((by rw [hg]; exact Nat.ne_of_lt (blk_lt (g := gb135) (o := .cells #[.int .u64 a0_0, .int .u64 a0_1, .int .u64 a0_2, .int .u64 a0_3] 26 (0, 0)) (by (with_reducible repeat (first | refine bN ?_ _ | refine bD ?_ | refine bL ?_ _)); exact BK135.out)) : gb135 ≠ gb144)); have n7_ := Aside0.mk ((by rw [hg]; exact Nat.ne_of_gt (blk_lt (g := gb135) (o := .cells #[.int .u64 a0_0, .int .u64 a0_1, .int .u64 a0_2, .int .u64 a0_3] 26 (0, 0)) (by (with_reducible repeat (first | refine bN ?_ _ | refine bD ?_ | refine bL ?_ _)); exact BK135.out)) : gb144 ≠ gb135)); have n8_ := Aside0.mk ((by rw [hg]; exact Nat.ne_of_lt (blk_lt (g := gb136) (o := .cells #[.int .u64 a1_0, .int .u64 a1_1] 24 (0, 0)) (by (with_reducible repeat (first | refine bN ?_ _ | refine bD ?_ | refine bL ?_ _)); exact BK136.out)) : gb136 ≠ gb144)); have n9_ := Aside0.mk ((by rw [hg]; exact Nat.ne_of_gt (blk_lt (g := gb136) (o := .cells #[.int .u64 a1_0, .int .u64 a1_1] 24 (0, 0)) (by (with_reducible repeat (first | refine bN ?_ _ | refine bD ?_ | refine bL ?_ _)); exact BK136.out)) : gb144 ≠ gb136)); clear BK135; clear BK136; clear HB; have BK135 := n0_; have BK136 := n1_; have HB := n2_; have BK144 := n3_; have GW144 := n4_; have GE144 := n5_; have NB135_144 := n6_; have NB144_135 := n7_; have NB136_144 := n8_; have NB144_136 := n9_; clear n0_ n1_ n2_ n3_ n4_ n5_ n6_ n7_ n8_ n9_; clear hb hbox hg) | ((with_reducible refine gate_dst (N := 6) rfl ?_); refine box_event ?hg (N := 6) ?hd (cs := #[.int .u64 0, .int .u64 0]) (t := 24) ?hr ?_; (case hd => rfl); (case hg => rfl); (case hr => first | (go_simp; done) | (go_simp; rfl)); intro gb145 hg w150 hbox hb; have n0_ := Aside0.mk (bB (g := gb135) (o := .cells #[.int .u64 a0_0, .int .u64 a0_1, .int .u64 a0_2, .int .u64 a0_3] 26 (0, 0)) (by (with_reducible repeat (first | refine bN ?_ _ | refine bD ?_ | refine bL ?_ _)); exact BK135.out) hb); have n1_ := Aside0.mk (bB (g := gb136) (o := .cells #[.int .u64 a1_0, .int .u64 a1_1] 24 (0, 0)) (by (with_reducible repeat (first | refine bN ?_ _ | refine bD ?_ | refine bL ?_ _)); exact BK136.out) hb); have n2_ := Aside0.mk (bB (g := gb144) (o := .cells #[.int .u64 0, .int .u64 0, .int .u64 0, .int .u64 0] 26 (0, 0)) (by (with_reducible repeat (first | refine bN ?_ _ | refine bD ?_ | refine bL ?_ _)); exact BK144.out) hb); have n3_ := Aside0.mk (below_step (by repeat (first | (with_reducible first | exact HB.out | apply below_alloc | apply pN | apply dI | refine below_set ?_ GE135.out | refine below_set ?_ GE136.out | refine below_set ?_ GE144.out) | exact HB.out)) hb); have n4_ := Aside0.mk (hbox); have n5_ := Aside0.mk ((by rw [hg]; exact (below_size (by repeat (first | (with_reducible first | exact HB.out | apply below_alloc | apply pN | apply dI | refine below_set ?_ GE135.out | refine below_set ?_ GE136.out | refine below_set ?_ GE144.out) | exact HB.out))) : w.heap.size ≤ gb145)); have n6_ := Aside0.mk ((by rw [hg]; exact (below_size (by repeat (first | (with_reducible first | exact HB.out | apply below_alloc | apply pN | apply dI | refine below_set ?_ GE135.out | refine below_set ?_ GE136.out | refine below_set ?_ GE144.out) | exact HB.out))) : w.heap.size ≤ gb145)); have n7_ := Aside0.mk ((by rw [hg]; exact Nat.ne_of_lt (blk_lt (g := gb135) (o := .cells #[.int .u64 a0_0, .int .u64 a0_1, .int .u64 a0_2, .int .u64 a0_3] 26 (0, 0)) (by (with_reducible repeat (first | refine bN ?_ _ | refine bD ?_ | refine bL ?_ _)); exact BK135.out)) : gb135 ≠ gb145)); have n8_ := Aside0.mk ((by rw [hg]; exact Nat.ne_of_gt (blk_lt (g := gb135) (o := .cells #[.int .u64 a0_0, .int .u64 a0_1, .int .u64 a0_2, .int .u64 a0_3] 26 (0, 0)) (by (with_reducible repeat (first | refine bN ?_ _ | refine bD ?_ | refine bL ?_ _)); exact BK135.out)) : gb145 ≠ gb135)); have n9_ := Aside0.mk ((by rw [hg]; exact Nat.ne_of_lt (blk_lt (g := gb136) (o := .cells #[.int .u64 a1_0, .int .u64 a1_1] 24 (0, 0)) (by (with_reducible repeat (first | refine bN ?_ _ | refine bD ?_ | refine bL ?_ _)); exact BK136.out)) : gb136 ≠ gb145)); have n10_ := Aside0.mk ((by rw [hg]; exact Nat.ne_of_gt (blk_lt (g := gb136) (o := .cells #[.int .u64 a1_0, .int .u64 a1_1] 24 (0, 0)) (by (with_reducible repeat (first | refine bN ?_ _ | refine bD ?_ | refine bL ?_ _)); exact BK136.out)) : gb145 ≠ gb136)); have n11_ := Aside0.mk ((by rw [hg]; exact Nat.ne_of_lt (blk_lt (g := gb144) (o := .cells #[.int .u64 0, .int .u64 0, .int .u64 0, .int .u64 0] 26 (0, 0)) (by (with_reducible repeat (first | refine bN ?_ _ | refine bD ?_ | refine bL ?_ _)); exact BK144.out)) : gb144 ≠ gb145)); have n12_ := Aside0.mk ((by rw [hg]; exact Nat.ne_of_gt (blk_lt (g := gb144) (o := .cells #[.int .u64 0, .int .u64 0, .int .u64 0, .int .u64 0] 26 (0, 0)) (by (with_reducible repeat (first | refine bN ?_ _ | refine bD ?_ | refine bL ?_ _)); exact BK144.out)) : gb145 ≠ gb144)); clear BK135; clear BK136; clear BK144; clear HB; have BK135 := n0_; have BK136 := n1_; have BK144 := n2_; have HB := n3_; have BK145 := n4_; have GW145 := n5_; have GE145 := n6_; have NB135_145 := n7_; have NB145_135 := n8_; have NB136_145 := n9_; have NB145_136 := n10_; have NB144_145 := n11_; have NB145_144 := n12_; clear n0_ n1_ n2_ n3_ n4_ n5_ n6_ n7_ n8_ n9_ n10_ n11_ n12_; clear hb hbox hg; have hnb151 := NB144_135.out; have hnc151 := NB135_144.out; have hnb152 := NB144_136.out; have hnc152 := NB136_144.out; have hnb153 := NB144_145.out; have hnc153 := NB145_144.out; have hcz154_0 : w150.cell? ⟨gb144, 0, none⟩ = some (.int .u64 0) := (bC BK144.out 0).trans rfl; have hcz154_1 : w150.cell? ⟨gb144, 1, none⟩ = some (.int .u64 0) := (bC BK144.out 1).trans rfl; have hcz154_2 : w150.cell? ⟨gb144, 2, none⟩ = some (.int .u64 0) := (bC BK144.out 2).trans rfl; have hcz154_3 : w150.cell? ⟨gb144, 3, none⟩ = some (.int .u64 0) := (bC BK144.out 3).trans rfl; have hfz154_0 := bF BK144.out 0; have hfz154_1 := bF BK144.out 1; have hfz154_2 := bF BK144.out 2; have hfz154_3 := bF BK144.out 3; have hnb155 := NB145_135.out; have hnc155 := NB135_145.out; have hnb156 := NB145_136.out; have hnc156 := NB136_145.out; have hcz157_0 : w150.cell? ⟨gb145, 0, none⟩ = some (.int .u64 0) := (bC BK145.out 0).trans rfl; have hcz157_1 : w150.cell? ⟨gb145, 1, none⟩ = some (.int .u64 0) := (bC BK145.out 1).trans rfl; have hfz157_0 := bF BK145.out 0; have hfz157_1 := bF BK145.out 1; have hcz158_0 : w150.cell? ⟨gb136, 0, none⟩ = some (.int .u64 a1_0) := (bC BK136.out 0).trans rfl; have hcz158_1 : w150.cell? ⟨gb136, 1, none⟩ = some (.int .u64 a1_1) := (bC BK136.out 1).trans rfl; have hfz158_0 := bF BK136.out 0; have hfz158_1 := bF BK136.out 1))
  have n0_ : Aside0 (((((((w150.setCell ⟨gb144, 0, none⟩ (.int .u64 t137)).setCell ⟨gb144, 1, none⟩ (.int .u64 t138)).setCell ⟨gb144, 2, none⟩ (.int .u64 t139)).setCell ⟨gb144, 3, none⟩ (.int .u64 t140)).setCell ⟨gb145, 0, none⟩ (.int .u64 t141)).setCell ⟨gb145, 1, none⟩ (.int .u64 t142)).heap[gb135]? = some (.cells #[.int .u64 a0_0, .int .u64 a0_1, .int .u64 a0_2, .int .u64 a0_3] 26 (0, 0))) := ⟨by (with_reducible repeat (first | refine bN ?_ _ | refine bD ?_ | refine bL ?_ _)); refine bX ?_ NB135_145.out _; (with_reducible repeat (first | refine bN ?_ _ | refine bD ?_ | refine bL ?_ _)); refine bX ?_ NB135_145.out _; (with_reducible repeat (first | refine bN ?_ _ | refine bD ?_ | refine bL ?_ _)); refine bX ?_ NB135_144.out _; (with_reducible repeat (first | refine bN ?_ _ | refine bD ?_ | refine bL ?_ _)); refine bX ?_ NB135_144.out _; (with_reducible repeat (first | refine bN ?_ _ | refine bD ?_ | refine bL ?_ _)); refine bX ?_ NB135_144.out _; (with_reducible repeat (first | refine bN ?_ _ | refine bD ?_ | refine bL ?_ _)); refine bX ?_ NB135_144.out _; (with_reducible repeat (first | refine bN ?_ _ | refine bD ?_ | refine bL ?_ _)); exact BK135.out⟩
  have n1_ : Aside0 (((((((w150.setCell ⟨gb144, 0, none⟩ (.int .u64 t137)).setCell ⟨gb144, 1, none⟩ (.int .u64 t138)).setCell ⟨gb144, 2, none⟩ (.int .u64 t139)).setCell ⟨gb144, 3, none⟩ (.int .u64 t140)).setCell ⟨gb145, 0, none⟩ (.int .u64 t141)).setCell ⟨gb145, 1, none⟩ (.int .u64 t142)).heap[gb136]? = some (.cells #[.int .u64 a1_0, .int .u64 a1_1] 24 (0, 0))) := ⟨by (with_reducible repeat (first | refine bN ?_ _ | refine bD ?_ | refine bL ?_ _)); refine bX ?_ NB136_145.out _; (with_reducible repeat (first | refine bN ?_ _ | refine bD ?_ | refine bL ?_ _)); refine bX ?_ NB136_145.out _; (with_reducible repeat (first | refine bN ?_ _ | refine bD ?_ | refine bL ?_ _)); refine bX ?_ NB136_144.out _; (with_reducible repeat (first | refine bN ?_ _ | refine bD ?_ | refine bL ?_ _)); refine bX ?_ NB136_144.out _; (with_reducible repeat (first | refine bN ?_ _ | refine bD ?_ | refine bL ?_ _)); refine bX ?_ NB136_144.out _; (with_reducible repeat (first | refine bN ?_ _ | refine bD ?_ | refine bL ?_ _)); refine bX ?_ NB136_144.out _; (with_reducible repeat (first | refine bN ?_ _ | refine bD ?_ | refine bL ?_ _)); exact BK136.out⟩
  have n2_ : Aside0 (((((((w150.setCell ⟨gb144, 0, none⟩ (.int .u64 t137)).setCell ⟨gb144, 1, none⟩ (.int .u64 t138)).setCell ⟨gb144, 2, none⟩ (.int .u64 t139)).setCell ⟨gb144, 3, none⟩ (.int .u64 t140)).setCell ⟨gb145, 0, none⟩ (.int .u64 t141)).setCell ⟨gb145, 1, none⟩ (.int .u64 t142)).heap[gb144]? = some (.cells #[.int .u64 t137, .int .u64 t138, .int .u64 t139, .int .u64 t140] 26 (0, 0))) := ⟨by (with_reducible repeat (first | refine bN ?_ _ | refine bD ?_ | refine bL ?_ _)); refine bX ?_ NB144_145.out _; (with_reducible repeat (first | refine bN ?_ _ | refine bD ?_ | refine bL ?_ _)); refine bX ?_ NB144_145.out _; (with_reducible repeat (first | refine bN ?_ _ | refine bD ?_ | refine bL ?_ _)); refine blk_put (cs := #[.int .u64 t137, .int .u64 t138, .int .u64 t139, .int .u64 0]) ?_ 3 _ rfl; (with_reducible repeat (first | refine bN ?_ _ | refine bD ?_ | refine bL ?_ _)); refine blk_put (cs := #[.int .u64 t137, .int .u64 t138, .int .u64 0, .int .u64 0]) ?_ 2 _ rfl; (with_reducible repeat (first | refine bN ?_ _ | refine bD ?_ | refine bL ?_ _)); refine blk_put (cs := #[.int .u64 t137, .int .u64 0, .int .u64 0, .int .u64 0]) ?_ 1 _ rfl; (with_reducible repeat (first | refine bN ?_ _ | refine bD ?_ | refine bL ?_ _)); refine blk_put (cs := #[.int .u64 0, .int .u64 0, .int .u64 0, .int .u64 0]) ?_ 0 _ rfl; (with_reducible repeat (first | refine bN ?_ _ | refine bD ?_ | refine bL ?_ _)); exact BK144.out⟩
  have n3_ : Aside0 (((((((w150.setCell ⟨gb144, 0, none⟩ (.int .u64 t137)).setCell ⟨gb144, 1, none⟩ (.int .u64 t138)).setCell ⟨gb144, 2, none⟩ (.int .u64 t139)).setCell ⟨gb144, 3, none⟩ (.int .u64 t140)).setCell ⟨gb145, 0, none⟩ (.int .u64 t141)).setCell ⟨gb145, 1, none⟩ (.int .u64 t142)).heap[gb145]? = some (.cells #[.int .u64 t141, .int .u64 t142] 24 (0, 0))) := ⟨by (with_reducible repeat (first | refine bN ?_ _ | refine bD ?_ | refine bL ?_ _)); refine blk_put (cs := #[.int .u64 t141, .int .u64 0]) ?_ 1 _ rfl; (with_reducible repeat (first | refine bN ?_ _ | refine bD ?_ | refine bL ?_ _)); refine blk_put (cs := #[.int .u64 0, .int .u64 0]) ?_ 0 _ rfl; (with_reducible repeat (first | refine bN ?_ _ | refine bD ?_ | refine bL ?_ _)); refine bX ?_ NB145_144.out _; (with_reducible repeat (first | refine bN ?_ _ | refine bD ?_ | refine bL ?_ _)); refine bX ?_ NB145_144.out _; (with_reducible repeat (first | refine bN ?_ _ | refine bD ?_ | refine bL ?_ _)); refine bX ?_ NB145_144.out _; (with_reducible repeat (first | refine bN ?_ _ | refine bD ?_ | refine bL ?_ _)); refine bX ?_ NB145_144.out _; (with_reducible repeat (first | refine bN ?_ _ | refine bD ?_ | refine bL ?_ _)); exact BK145.out⟩
  have n4_ : Aside0 (Below w.heap.size w ((((((w150.setCell ⟨gb144, 0, none⟩ (.int .u64 t137)).setCell ⟨gb144, 1, none⟩ (.int .u64 t138)).setCell ⟨gb144, 2, none⟩ (.int .u64 t139)).setCell ⟨gb144, 3, none⟩ (.int .u64 t140)).setCell ⟨gb145, 0, none⟩ (.int .u64 t141)).setCell ⟨gb145, 1, none⟩ (.int .u64 t142))) := ⟨by repeat (first | (with_reducible first | exact HB.out | apply below_alloc | apply pN | apply dI | refine below_set ?_ GE135.out | refine below_set ?_ GE136.out | refine below_set ?_ GE144.out | refine below_set ?_ GE145.out) | exact HB.out)⟩
  (try clear BK135)
  (try clear BK136)
  (try clear BK144)
  (try clear BK145)
  (try clear HB)
  generalize ((((((w150.setCell ⟨gb144, 0, none⟩ (.int .u64 t137)).setCell ⟨gb144, 1, none⟩ (.int .u64 t138)).setCell ⟨gb144, 2, none⟩ (.int .u64 t139)).setCell ⟨gb144, 3, none⟩ (.int .u64 t140)).setCell ⟨gb145, 0, none⟩ (.int .u64 t141)).setCell ⟨gb145, 1, none⟩ (.int .u64 t142)) = w159 at n0_ n1_ n2_ n3_ n4_ ⊢
  have BK135 := n0_
  have BK136 := n1_
  have BK144 := n2_
  have BK145 := n3_
  have HB := n4_
  clear n0_ n1_ n2_ n3_ n4_
  have n0_ := Aside0.mk (bD BK135.out)
  have n1_ := Aside0.mk (bD BK136.out)
  have n2_ := Aside0.mk (bD BK144.out)
  have n3_ := Aside0.mk (bD BK145.out)
  have n4_ := Aside0.mk (dI HB.out)
  clear BK135
  clear BK136
  clear BK144
  clear BK145
  clear HB
  have BK135 := n0_
  have BK136 := n1_
  have BK144 := n2_
  have BK145 := n3_
  have HB := n4_
  clear n0_ n1_ n2_ n3_ n4_
  refine start_ (n := 12) (S := fun w' => w'.cell? ⟨gb144, 0, none⟩ = some (.int .u64 t137) ∧ w'.cell? ⟨gb144, 1, none⟩ = some (.int .u64 t138) ∧ w'.cell? ⟨gb144, 2, none⟩ = some (.int .u64 t139) ∧ w'.cell? ⟨gb144, 3, none⟩ = some (.int .u64 t140) ∧ w'.cell? ⟨gb136, 0, none⟩ = some (.int .u64 a1_0) ∧ w'.cell? ⟨gb136, 1, none⟩ = some (.int .u64 a1_1)) (ds := []) (bA 12 0) (by kernel_rfl) rfl rfl ⟨(bC BK144.out 0).trans rfl, (bC BK144.out 1).trans rfl, (bC BK144.out 2).trans rfl, (bC BK144.out 3).trans rfl, (bC BK136.out 0).trans rfl, (bC BK136.out 1).trans rfl⟩ (fun hHeld => ?_); refine with_tabW perigeelaw1_LimbRest.tab4 perigeelaw1_LimbRest.bits4 (fun HT_ HW_ => ?_)
  generalize w159.drew = w160 at BK135 BK136 BK144 BK145 HB hHeld ⊢
  refine pure_ (i := 0) (N := some 43) (v := ?_) (a' := ?_) (bA 12 1) rfl rfl (any_of HT_.out (by kernel_rfl)) (fun _ _ _ h => h) (Or.inl ⟨by rfl, ?_⟩) ?_ ?_
  rotate_left
  ·intro w'
   go_simp
   with_reducible rfl
  rotate_left
  ·simp only [Act.put, List.setIfInBounds_toArray, List.set_cons_zero, List.set_cons_succ, i64_w, i32_w]
   rfl
  refine pure_ (i := 4) (N := some 47) (v := ?_) (a' := ?_) (bA 12 17) rfl rfl (any_of HT_.out (by kernel_rfl)) (fun _ _ _ h => h) (Or.inl ⟨by rfl, ?_⟩) ?_ ?_
  rotate_left
  ·intro w'
   go_simp
   with_reducible rfl
  rotate_left
  ·simp only [Act.put, List.setIfInBounds_toArray, List.set_cons_zero, List.set_cons_succ, i64_w, i32_w]
   rfl
  refine take_ (i := 1) (N := some 44) (v := ?_) (a' := ?_) (bA 12 19) rfl rfl (take_ofW HT_.out HW_.out (by kernel_rfl)) (fun _ _ _ h => h) (Or.inl ⟨by rfl, ?_⟩) hHeld ?_ ?_
  rotate_left
  ·rintro w' ⟨s0, s1, s2, s3, s4, s5⟩
   go_simp
   with_reducible rfl
  rotate_left
  ·simp only [Act.put, List.setIfInBounds_toArray, List.set_cons_zero, List.set_cons_succ, i64_w, i32_w]
   rfl
  refine take_ (i := 2) (N := some 45) (v := ?_) (a' := ?_) (bA 12 23) rfl rfl (take_ofW HT_.out HW_.out (by kernel_rfl)) (fun _ _ _ h => h) (Or.inl ⟨by rfl, ?_⟩) hHeld ?_ ?_
  rotate_left
  ·rintro w' ⟨s0, s1, s2, s3, s4, s5⟩
   go_simp
   with_reducible rfl
  rotate_left
  ·simp only [Act.put, List.setIfInBounds_toArray, List.set_cons_zero, List.set_cons_succ, i64_w, i32_w]
   rfl
  refine take_ (i := 5) (N := some 48) (v := ?_) (a' := ?_) (bA 12 55) rfl rfl (take_ofW HT_.out HW_.out (by kernel_rfl)) (fun _ _ _ h => h) (Or.inl ⟨by rfl, ?_⟩) hHeld ?_ ?_
  rotate_left
  ·rintro w' ⟨s0, s1, s2, s3, s4, s5⟩
   go_simp
   with_reducible rfl
  rotate_left
  ·simp only [Act.put, List.setIfInBounds_toArray, List.set_cons_zero, List.set_cons_succ, i64_w, i32_w]
   rfl
  refine take_ (i := 6) (N := some 49) (v := ?_) (a' := ?_) (bA 12 119) rfl rfl (take_ofW HT_.out HW_.out (by kernel_rfl)) (fun _ _ _ h => h) (Or.inl ⟨by rfl, ?_⟩) hHeld ?_ ?_
  rotate_left
  ·rintro w' ⟨s0, s1, s2, s3, s4, s5⟩
   go_simp
   with_reducible rfl
  rotate_left
  ·simp only [Act.put, List.setIfInBounds_toArray, List.set_cons_zero, List.set_cons_succ, i64_w, i32_w]
   rfl
  refine join_ (σ := Nat × Nat) 2 (bA 12 1023) (fun s_ => [(46, .agg #[.int .u64 t147, .int .u64 t148, .int .u64 t149, .int .u64 t150]), (50, .agg #[.int .u64 t151, .int .u64 t152, .int .u64 t153, .int .u64 t154]), (8, .pointer (some ⟨s_.1, 0, none⟩)), (9, .pointer (some ⟨s_.2, 0, none⟩))]) (fun s_ w' => (w'.cell? ⟨gb144, 0, none⟩ = some (.int .u64 t137) ∧ w'.cell? ⟨gb144, 1, none⟩ = some (.int .u64 t138) ∧ w'.cell? ⟨gb144, 2, none⟩ = some (.int .u64 t139) ∧ w'.cell? ⟨gb144, 3, none⟩ = some (.int .u64 t140) ∧ w'.cell? ⟨gb136, 0, none⟩ = some (.int .u64 a1_0) ∧ w'.cell? ⟨gb136, 1, none⟩ = some (.int .u64 a1_1)) ∧ (w'.heap[gb135]? = some (.cells #[.int .u64 a0_0, .int .u64 a0_1, .int .u64 a0_2, .int .u64 a0_3] 26 (0, 0))) ∧ (w'.heap[gb136]? = some (.cells #[.int .u64 a1_0, .int .u64 a1_1] 24 (0, 0))) ∧ (w'.heap[gb144]? = some (.cells #[.int .u64 t137, .int .u64 t138, .int .u64 t139, .int .u64 t140] 26 (0, 0))) ∧ (w'.heap[gb145]? = some (.cells #[.int .u64 t141, .int .u64 t142] 24 (0, 0))) ∧ (w'.heap[s_.1]? = some (.cells #[.int .u64 0, .int .u64 0, .int .u64 0, .int .u64 0] 26 (0, 0))) ∧ (w'.heap[s_.2]? = some (.cells #[.int .u64 0, .int .u64 0, .int .u64 0, .int .u64 0] 26 (0, 0))) ∧ (w.heap.size ≤ s_.1) ∧ (w.heap.size ≤ s_.1) ∧ (gb135 ≠ s_.1) ∧ (s_.1 ≠ gb135) ∧ (gb136 ≠ s_.1) ∧ (s_.1 ≠ gb136) ∧ (gb144 ≠ s_.1) ∧ (s_.1 ≠ gb144) ∧ (gb145 ≠ s_.1) ∧ (s_.1 ≠ gb145) ∧ (s_.2 ≠ s_.1) ∧ (s_.1 ≠ s_.2) ∧ (w.heap.size ≤ s_.2) ∧ (w.heap.size ≤ s_.2) ∧ (gb135 ≠ s_.2) ∧ (s_.2 ≠ gb135) ∧ (gb136 ≠ s_.2) ∧ (s_.2 ≠ gb136) ∧ (gb144 ≠ s_.2) ∧ (s_.2 ≠ gb144) ∧ (gb145 ≠ s_.2) ∧ (s_.2 ≠ gb145) ∧ (Below w.heap.size w w')) ?_ ?_
  rotate_left
  ·intro hJ3_7_8_9
   refine join_ (σ := Nat) 3 (bA 12 511) (fun s_ => [(46, .agg #[.int .u64 t147, .int .u64 t148, .int .u64 t149, .int .u64 t150]), (50, .agg #[.int .u64 t151, .int .u64 t152, .int .u64 t153, .int .u64 t154]), (8, .pointer (some ⟨s_, 0, none⟩))]) (fun s_ w' => (w'.cell? ⟨gb144, 0, none⟩ = some (.int .u64 t137) ∧ w'.cell? ⟨gb144, 1, none⟩ = some (.int .u64 t138) ∧ w'.cell? ⟨gb144, 2, none⟩ = some (.int .u64 t139) ∧ w'.cell? ⟨gb144, 3, none⟩ = some (.int .u64 t140) ∧ w'.cell? ⟨gb136, 0, none⟩ = some (.int .u64 a1_0) ∧ w'.cell? ⟨gb136, 1, none⟩ = some (.int .u64 a1_1)) ∧ (w'.heap[gb135]? = some (.cells #[.int .u64 a0_0, .int .u64 a0_1, .int .u64 a0_2, .int .u64 a0_3] 26 (0, 0))) ∧ (w'.heap[gb136]? = some (.cells #[.int .u64 a1_0, .int .u64 a1_1] 24 (0, 0))) ∧ (w'.heap[gb144]? = some (.cells #[.int .u64 t137, .int .u64 t138, .int .u64 t139, .int .u64 t140] 26 (0, 0))) ∧ (w'.heap[gb145]? = some (.cells #[.int .u64 t141, .int .u64 t142] 24 (0, 0))) ∧ (w'.heap[s_]? = some (.cells #[.int .u64 0, .int .u64 0, .int .u64 0, .int .u64 0] 26 (0, 0))) ∧ (w.heap.size ≤ s_) ∧ (w.heap.size ≤ s_) ∧ (gb135 ≠ s_) ∧ (s_ ≠ gb135) ∧ (gb136 ≠ s_) ∧ (s_ ≠ gb136) ∧ (gb144 ≠ s_) ∧ (s_ ≠ gb144) ∧ (gb145 ≠ s_) ∧ (s_ ≠ gb145) ∧ (Below w.heap.size w w')) ?_ ?_
   rotate_left
   ·intro hJ3_7_8
    refine join_ (σ := Nat) 3 (bA 12 767) (fun s_ => [(46, .agg #[.int .u64 t147, .int .u64 t148, .int .u64 t149, .int .u64 t150]), (50, .agg #[.int .u64 t151, .int .u64 t152, .int .u64 t153, .int .u64 t154]), (9, .pointer (some ⟨s_, 0, none⟩))]) (fun s_ w' => (w'.cell? ⟨gb144, 0, none⟩ = some (.int .u64 t137) ∧ w'.cell? ⟨gb144, 1, none⟩ = some (.int .u64 t138) ∧ w'.cell? ⟨gb144, 2, none⟩ = some (.int .u64 t139) ∧ w'.cell? ⟨gb144, 3, none⟩ = some (.int .u64 t140) ∧ w'.cell? ⟨gb136, 0, none⟩ = some (.int .u64 a1_0) ∧ w'.cell? ⟨gb136, 1, none⟩ = some (.int .u64 a1_1)) ∧ (w'.heap[gb135]? = some (.cells #[.int .u64 a0_0, .int .u64 a0_1, .int .u64 a0_2, .int .u64 a0_3] 26 (0, 0))) ∧ (w'.heap[gb136]? = some (.cells #[.int .u64 a1_0, .int .u64 a1_1] 24 (0, 0))) ∧ (w'.heap[gb144]? = some (.cells #[.int .u64 t137, .int .u64 t138, .int .u64 t139, .int .u64 t140] 26 (0, 0))) ∧ (w'.heap[gb145]? = some (.cells #[.int .u64 t141, .int .u64 t142] 24 (0, 0))) ∧ (w'.heap[s_]? = some (.cells #[.int .u64 0, .int .u64 0, .int .u64 0, .int .u64 0] 26 (0, 0))) ∧ (w.heap.size ≤ s_) ∧ (w.heap.size ≤ s_) ∧ (gb135 ≠ s_) ∧ (s_ ≠ gb135) ∧ (gb136 ≠ s_) ∧ (s_ ≠ gb136) ∧ (gb144 ≠ s_) ∧ (s_ ≠ gb144) ∧ (gb145 ≠ s_) ∧ (s_ ≠ gb145) ∧ (Below w.heap.size w w')) ?_ ?_
    rotate_left
    ·intro hJ3_7_9
     refine join_ (σ := Nat × Nat) 3 (bA 12 895) (fun s_ => [(46, .agg #[.int .u64 t147, .int .u64 t148, .int .u64 t149, .int .u64 t150]), (8, .pointer (some ⟨s_.1, 0, none⟩)), (9, .pointer (some ⟨s_.2, 0, none⟩))]) (fun s_ w' => (w'.cell? ⟨gb144, 0, none⟩ = some (.int .u64 t137) ∧ w'.cell? ⟨gb144, 1, none⟩ = some (.int .u64 t138) ∧ w'.cell? ⟨gb144, 2, none⟩ = some (.int .u64 t139) ∧ w'.cell? ⟨gb144, 3, none⟩ = some (.int .u64 t140) ∧ w'.cell? ⟨gb136, 0, none⟩ = some (.int .u64 a1_0) ∧ w'.cell? ⟨gb136, 1, none⟩ = some (.int .u64 a1_1)) ∧ (w'.heap[gb135]? = some (.cells #[.int .u64 a0_0, .int .u64 a0_1, .int .u64 a0_2, .int .u64 a0_3] 26 (0, 0))) ∧ (w'.heap[gb136]? = some (.cells #[.int .u64 a1_0, .int .u64 a1_1] 24 (0, 0))) ∧ (w'.heap[gb144]? = some (.cells #[.int .u64 t137, .int .u64 t138, .int .u64 t139, .int .u64 t140] 26 (0, 0))) ∧ (w'.heap[gb145]? = some (.cells #[.int .u64 t141, .int .u64 t142] 24 (0, 0))) ∧ (w'.heap[s_.1]? = some (.cells #[.int .u64 0, .int .u64 0, .int .u64 0, .int .u64 0] 26 (0, 0))) ∧ (w'.heap[s_.2]? = some (.cells #[.int .u64 0, .int .u64 0, .int .u64 0, .int .u64 0] 26 (0, 0))) ∧ (w.heap.size ≤ s_.1) ∧ (w.heap.size ≤ s_.1) ∧ (gb135 ≠ s_.1) ∧ (s_.1 ≠ gb135) ∧ (gb136 ≠ s_.1) ∧ (s_.1 ≠ gb136) ∧ (gb144 ≠ s_.1) ∧ (s_.1 ≠ gb144) ∧ (gb145 ≠ s_.1) ∧ (s_.1 ≠ gb145) ∧ (s_.2 ≠ s_.1) ∧ (s_.1 ≠ s_.2) ∧ (w.heap.size ≤ s_.2) ∧ (w.heap.size ≤ s_.2) ∧ (gb135 ≠ s_.2) ∧ (s_.2 ≠ gb135) ∧ (gb136 ≠ s_.2) ∧ (s_.2 ≠ gb136) ∧ (gb144 ≠ s_.2) ∧ (s_.2 ≠ gb144) ∧ (gb145 ≠ s_.2) ∧ (s_.2 ≠ gb145) ∧ (Below w.heap.size w w')) ?_ ?_
     rotate_left
     ·intro hJ3_8_9
      refine join_ (σ := Unit) 4 (bA 12 255) (fun s_ => [(46, .agg #[.int .u64 t147, .int .u64 t148, .int .u64 t149, .int .u64 t150]), (50, .agg #[.int .u64 t151, .int .u64 t152, .int .u64 t153, .int .u64 t154])]) (fun s_ w' => (w'.cell? ⟨gb144, 0, none⟩ = some (.int .u64 t137) ∧ w'.cell? ⟨gb144, 1, none⟩ = some (.int .u64 t138) ∧ w'.cell? ⟨gb144, 2, none⟩ = some (.int .u64 t139) ∧ w'.cell? ⟨gb144, 3, none⟩ = some (.int .u64 t140) ∧ w'.cell? ⟨gb136, 0, none⟩ = some (.int .u64 a1_0) ∧ w'.cell? ⟨gb136, 1, none⟩ = some (.int .u64 a1_1)) ∧ (w'.heap[gb135]? = some (.cells #[.int .u64 a0_0, .int .u64 a0_1, .int .u64 a0_2, .int .u64 a0_3] 26 (0, 0))) ∧ (w'.heap[gb136]? = some (.cells #[.int .u64 a1_0, .int .u64 a1_1] 24 (0, 0))) ∧ (w'.heap[gb144]? = some (.cells #[.int .u64 t137, .int .u64 t138, .int .u64 t139, .int .u64 t140] 26 (0, 0))) ∧ (w'.heap[gb145]? = some (.cells #[.int .u64 t141, .int .u64 t142] 24 (0, 0))) ∧ (Below w.heap.size w w')) ?_ ?_
      rotate_left
      ·intro hJ3_7
       refine join_ (σ := Nat) 4 (bA 12 383) (fun s_ => [(46, .agg #[.int .u64 t147, .int .u64 t148, .int .u64 t149, .int .u64 t150]), (8, .pointer (some ⟨s_, 0, none⟩))]) (fun s_ w' => (w'.cell? ⟨gb144, 0, none⟩ = some (.int .u64 t137) ∧ w'.cell? ⟨gb144, 1, none⟩ = some (.int .u64 t138) ∧ w'.cell? ⟨gb144, 2, none⟩ = some (.int .u64 t139) ∧ w'.cell? ⟨gb144, 3, none⟩ = some (.int .u64 t140) ∧ w'.cell? ⟨gb136, 0, none⟩ = some (.int .u64 a1_0) ∧ w'.cell? ⟨gb136, 1, none⟩ = some (.int .u64 a1_1)) ∧ (w'.heap[gb135]? = some (.cells #[.int .u64 a0_0, .int .u64 a0_1, .int .u64 a0_2, .int .u64 a0_3] 26 (0, 0))) ∧ (w'.heap[gb136]? = some (.cells #[.int .u64 a1_0, .int .u64 a1_1] 24 (0, 0))) ∧ (w'.heap[gb144]? = some (.cells #[.int .u64 t137, .int .u64 t138, .int .u64 t139, .int .u64 t140] 26 (0, 0))) ∧ (w'.heap[gb145]? = some (.cells #[.int .u64 t141, .int .u64 t142] 24 (0, 0))) ∧ (w'.heap[s_]? = some (.cells #[.int .u64 0, .int .u64 0, .int .u64 0, .int .u64 0] 26 (0, 0))) ∧ (w.heap.size ≤ s_) ∧ (w.heap.size ≤ s_) ∧ (gb135 ≠ s_) ∧ (s_ ≠ gb135) ∧ (gb136 ≠ s_) ∧ (s_ ≠ gb136) ∧ (gb144 ≠ s_) ∧ (s_ ≠ gb144) ∧ (gb145 ≠ s_) ∧ (s_ ≠ gb145) ∧ (Below w.heap.size w w')) ?_ ?_
       rotate_left
       ·intro hJ3_8
        refine join_ (σ := Nat) 4 (bA 12 639) (fun s_ => [(46, .agg #[.int .u64 t147, .int .u64 t148, .int .u64 t149, .int .u64 t150]), (9, .pointer (some ⟨s_, 0, none⟩))]) (fun s_ w' => (w'.cell? ⟨gb144, 0, none⟩ = some (.int .u64 t137) ∧ w'.cell? ⟨gb144, 1, none⟩ = some (.int .u64 t138) ∧ w'.cell? ⟨gb144, 2, none⟩ = some (.int .u64 t139) ∧ w'.cell? ⟨gb144, 3, none⟩ = some (.int .u64 t140) ∧ w'.cell? ⟨gb136, 0, none⟩ = some (.int .u64 a1_0) ∧ w'.cell? ⟨gb136, 1, none⟩ = some (.int .u64 a1_1)) ∧ (w'.heap[gb135]? = some (.cells #[.int .u64 a0_0, .int .u64 a0_1, .int .u64 a0_2, .int .u64 a0_3] 26 (0, 0))) ∧ (w'.heap[gb136]? = some (.cells #[.int .u64 a1_0, .int .u64 a1_1] 24 (0, 0))) ∧ (w'.heap[gb144]? = some (.cells #[.int .u64 t137, .int .u64 t138, .int .u64 t139, .int .u64 t140] 26 (0, 0))) ∧ (w'.heap[gb145]? = some (.cells #[.int .u64 t141, .int .u64 t142] 24 (0, 0))) ∧ (w'.heap[s_]? = some (.cells #[.int .u64 0, .int .u64 0, .int .u64 0, .int .u64 0] 26 (0, 0))) ∧ (w.heap.size ≤ s_) ∧ (w.heap.size ≤ s_) ∧ (gb135 ≠ s_) ∧ (s_ ≠ gb135) ∧ (gb136 ≠ s_) ∧ (s_ ≠ gb136) ∧ (gb144 ≠ s_) ∧ (s_ ≠ gb144) ∧ (gb145 ≠ s_) ∧ (s_ ≠ gb145) ∧ (Below w.heap.size w w')) ?_ ?_
        rotate_left
        ·intro hJ3_9
         refine join_ (σ := Nat × Nat) 4 (bA 12 887) (fun s_ => [(8, .pointer (some ⟨s_.1, 0, none⟩)), (9, .pointer (some ⟨s_.2, 0, none⟩))]) (fun s_ w' => (w'.cell? ⟨gb144, 0, none⟩ = some (.int .u64 t137) ∧ w'.cell? ⟨gb144, 1, none⟩ = some (.int .u64 t138) ∧ w'.cell? ⟨gb144, 2, none⟩ = some (.int .u64 t139) ∧ w'.cell? ⟨gb144, 3, none⟩ = some (.int .u64 t140) ∧ w'.cell? ⟨gb136, 0, none⟩ = some (.int .u64 a1_0) ∧ w'.cell? ⟨gb136, 1, none⟩ = some (.int .u64 a1_1)) ∧ (w'.heap[gb135]? = some (.cells #[.int .u64 a0_0, .int .u64 a0_1, .int .u64 a0_2, .int .u64 a0_3] 26 (0, 0))) ∧ (w'.heap[gb136]? = some (.cells #[.int .u64 a1_0, .int .u64 a1_1] 24 (0, 0))) ∧ (w'.heap[gb144]? = some (.cells #[.int .u64 t137, .int .u64 t138, .int .u64 t139, .int .u64 t140] 26 (0, 0))) ∧ (w'.heap[gb145]? = some (.cells #[.int .u64 t141, .int .u64 t142] 24 (0, 0))) ∧ (w'.heap[s_.1]? = some (.cells #[.int .u64 0, .int .u64 0, .int .u64 0, .int .u64 0] 26 (0, 0))) ∧ (w'.heap[s_.2]? = some (.cells #[.int .u64 0, .int .u64 0, .int .u64 0, .int .u64 0] 26 (0, 0))) ∧ (w.heap.size ≤ s_.1) ∧ (w.heap.size ≤ s_.1) ∧ (gb135 ≠ s_.1) ∧ (s_.1 ≠ gb135) ∧ (gb136 ≠ s_.1) ∧ (s_.1 ≠ gb136) ∧ (gb144 ≠ s_.1) ∧ (s_.1 ≠ gb144) ∧ (gb145 ≠ s_.1) ∧ (s_.1 ≠ gb145) ∧ (s_.2 ≠ s_.1) ∧ (s_.1 ≠ s_.2) ∧ (w.heap.size ≤ s_.2) ∧ (w.heap.size ≤ s_.2) ∧ (gb135 ≠ s_.2) ∧ (s_.2 ≠ gb135) ∧ (gb136 ≠ s_.2) ∧ (s_.2 ≠ gb136) ∧ (gb144 ≠ s_.2) ∧ (s_.2 ≠ gb144) ∧ (gb145 ≠ s_.2) ∧ (s_.2 ≠ gb145) ∧ (Below w.heap.size w w')) ?_ ?_
         rotate_left
         ·intro hJ8_9
          refine join_ (σ := Unit) 5 (bA 12 127) (fun s_ => [(46, .agg #[.int .u64 t147, .int .u64 t148, .int .u64 t149, .int .u64 t150])]) (fun s_ w' => (w'.cell? ⟨gb144, 0, none⟩ = some (.int .u64 t137) ∧ w'.cell? ⟨gb144, 1, none⟩ = some (.int .u64 t138) ∧ w'.cell? ⟨gb144, 2, none⟩ = some (.int .u64 t139) ∧ w'.cell? ⟨gb144, 3, none⟩ = some (.int .u64 t140) ∧ w'.cell? ⟨gb136, 0, none⟩ = some (.int .u64 a1_0) ∧ w'.cell? ⟨gb136, 1, none⟩ = some (.int .u64 a1_1)) ∧ (w'.heap[gb135]? = some (.cells #[.int .u64 a0_0, .int .u64 a0_1, .int .u64 a0_2, .int .u64 a0_3] 26 (0, 0))) ∧ (w'.heap[gb136]? = some (.cells #[.int .u64 a1_0, .int .u64 a1_1] 24 (0, 0))) ∧ (w'.heap[gb144]? = some (.cells #[.int .u64 t137, .int .u64 t138, .int .u64 t139, .int .u64 t140] 26 (0, 0))) ∧ (w'.heap[gb145]? = some (.cells #[.int .u64 t141, .int .u64 t142] 24 (0, 0))) ∧ (Below w.heap.size w w')) ?_ ?_
          rotate_left
          ·intro hJ3
           refine join_ (σ := Nat) 5 (bA 12 375) (fun s_ => [(8, .pointer (some ⟨s_, 0, none⟩))]) (fun s_ w' => (w'.cell? ⟨gb144, 0, none⟩ = some (.int .u64 t137) ∧ w'.cell? ⟨gb144, 1, none⟩ = some (.int .u64 t138) ∧ w'.cell? ⟨gb144, 2, none⟩ = some (.int .u64 t139) ∧ w'.cell? ⟨gb144, 3, none⟩ = some (.int .u64 t140) ∧ w'.cell? ⟨gb136, 0, none⟩ = some (.int .u64 a1_0) ∧ w'.cell? ⟨gb136, 1, none⟩ = some (.int .u64 a1_1)) ∧ (w'.heap[gb135]? = some (.cells #[.int .u64 a0_0, .int .u64 a0_1, .int .u64 a0_2, .int .u64 a0_3] 26 (0, 0))) ∧ (w'.heap[gb136]? = some (.cells #[.int .u64 a1_0, .int .u64 a1_1] 24 (0, 0))) ∧ (w'.heap[gb144]? = some (.cells #[.int .u64 t137, .int .u64 t138, .int .u64 t139, .int .u64 t140] 26 (0, 0))) ∧ (w'.heap[gb145]? = some (.cells #[.int .u64 t141, .int .u64 t142] 24 (0, 0))) ∧ (w'.heap[s_]? = some (.cells #[.int .u64 0, .int .u64 0, .int .u64 0, .int .u64 0] 26 (0, 0))) ∧ (w.heap.size ≤ s_) ∧ (w.heap.size ≤ s_) ∧ (gb135 ≠ s_) ∧ (s_ ≠ gb135) ∧ (gb136 ≠ s_) ∧ (s_ ≠ gb136) ∧ (gb144 ≠ s_) ∧ (s_ ≠ gb144) ∧ (gb145 ≠ s_) ∧ (s_ ≠ gb145) ∧ (Below w.heap.size w w')) ?_ ?_
           rotate_left
           ·intro hJ8
            refine join_ (σ := Nat) 5 (bA 12 631) (fun s_ => [(9, .pointer (some ⟨s_, 0, none⟩))]) (fun s_ w' => (w'.cell? ⟨gb144, 0, none⟩ = some (.int .u64 t137) ∧ w'.cell? ⟨gb144, 1, none⟩ = some (.int .u64 t138) ∧ w'.cell? ⟨gb144, 2, none⟩ = some (.int .u64 t139) ∧ w'.cell? ⟨gb144, 3, none⟩ = some (.int .u64 t140) ∧ w'.cell? ⟨gb136, 0, none⟩ = some (.int .u64 a1_0) ∧ w'.cell? ⟨gb136, 1, none⟩ = some (.int .u64 a1_1)) ∧ (w'.heap[gb135]? = some (.cells #[.int .u64 a0_0, .int .u64 a0_1, .int .u64 a0_2, .int .u64 a0_3] 26 (0, 0))) ∧ (w'.heap[gb136]? = some (.cells #[.int .u64 a1_0, .int .u64 a1_1] 24 (0, 0))) ∧ (w'.heap[gb144]? = some (.cells #[.int .u64 t137, .int .u64 t138, .int .u64 t139, .int .u64 t140] 26 (0, 0))) ∧ (w'.heap[gb145]? = some (.cells #[.int .u64 t141, .int .u64 t142] 24 (0, 0))) ∧ (w'.heap[s_]? = some (.cells #[.int .u64 0, .int .u64 0, .int .u64 0, .int .u64 0] 26 (0, 0))) ∧ (w.heap.size ≤ s_) ∧ (w.heap.size ≤ s_) ∧ (gb135 ≠ s_) ∧ (s_ ≠ gb135) ∧ (gb136 ≠ s_) ∧ (s_ ≠ gb136) ∧ (gb144 ≠ s_) ∧ (s_ ≠ gb144) ∧ (gb145 ≠ s_) ∧ (s_ ≠ gb145) ∧ (Below w.heap.size w w')) ?_ ?_
            rotate_left
            ·intro hJ9
             refine three_ (i := 3) (j := 8) (k := 9) (Ni := some 46) (Nj := some 8) (Nk := some 9) (bA 12 127) (bA 12 375) (bA 12 631) rfl rfl rfl rfl rfl rfl (three_of HT_.out (by kernel_rfl)) (by decide) (by decide) (by decide) (fun K hK => ?_) (fun K hK => ?_) (fun K hK => ?_)
             ·skip
              refine goes_ Try.func14 (by kernel_rfl) rfl #[.agg #[.int .u64 t139, .int .u64 t140], .agg #[.int .u64 a1_0, .int .u64 a1_1]] (by rfl) rfl rfl (by (try simp only [List.map_toArray, List.map_cons, List.map_nil]); first | done | rfl | (simp only [List.length_drop, List.length_take]; rfl)) ?_
              with_reducible refine (limb_Mul.calls t139 t140 a1_0 a1_1 t147 t148 t149 t150 _ A26.out).mono ?_
              rintro e w161 ⟨rfl, hb⟩
              refine ⟨_, rfl, ?_⟩
              have n0_ := Aside0.mk (bB (g := gb135) (o := .cells #[.int .u64 a0_0, .int .u64 a0_1, .int .u64 a0_2, .int .u64 a0_3] 26 (0, 0)) (by (with_reducible repeat (first | refine bN ?_ _ | refine bD ?_ | refine bL ?_ _)); exact BK135.out) hb)
              have n1_ := Aside0.mk (bB (g := gb136) (o := .cells #[.int .u64 a1_0, .int .u64 a1_1] 24 (0, 0)) (by (with_reducible repeat (first | refine bN ?_ _ | refine bD ?_ | refine bL ?_ _)); exact BK136.out) hb)
              have n2_ := Aside0.mk (bB (g := gb144) (o := .cells #[.int .u64 t137, .int .u64 t138, .int .u64 t139, .int .u64 t140] 26 (0, 0)) (by (with_reducible repeat (first | refine bN ?_ _ | refine bD ?_ | refine bL ?_ _)); exact BK144.out) hb)
              have n3_ := Aside0.mk (bB (g := gb145) (o := .cells #[.int .u64 t141, .int .u64 t142] 24 (0, 0)) (by (with_reducible repeat (first | refine bN ?_ _ | refine bD ?_ | refine bL ?_ _)); exact BK145.out) hb)
              have n4_ := Aside0.mk (below_step (by repeat (first | (with_reducible first | exact HB.out | apply below_alloc | apply pN | apply dI | refine below_set ?_ GE135.out | refine below_set ?_ GE136.out | refine below_set ?_ GE144.out | refine below_set ?_ GE145.out) | exact HB.out)) hb)
              clear BK135
              clear BK136
              clear BK144
              clear BK145
              clear HB
              have BK135 := n0_
              have BK136 := n1_
              have BK144 := n2_
              have BK145 := n3_
              have HB := n4_
              clear n0_ n1_ n2_ n3_ n4_
              (try clear hb)
              (try clear hb2)
              (try clear hk)
              (try clear hi)
              refine hK.out _ _ ⟨(bC BK144.out 0).trans rfl, (bC BK144.out 1).trans rfl, (bC BK144.out 2).trans rfl, (bC BK144.out 3).trans rfl, (bC BK136.out 0).trans rfl, (bC BK136.out 1).trans rfl⟩ (fun hHeld => ?_)
              clear hK K
              refine norm_ (a' := ?_) ?_ ?_
              rotate_left
              ·show Act.put _ (some 46) _ = _
               simp only [Act.put, List.setIfInBounds_toArray, List.set_cons_zero, List.set_cons_succ, i64_w, i32_w]
               rfl
              exact norm_ (by first | (simp only [putAll, Act.put, List.setIfInBounds_toArray, List.set_cons_zero, List.set_cons_succ]; done) | (simp only [putAll, Act.put, List.setIfInBounds_toArray, List.set_cons_zero, List.set_cons_succ]; rfl)) (hJ3 () _ ⟨hHeld, (by (with_reducible repeat (first | refine bN ?_ _ | refine bD ?_ | refine bL ?_ _)); exact BK135.out), (by (with_reducible repeat (first | refine bN ?_ _ | refine bD ?_ | refine bL ?_ _)); exact BK136.out), (by (with_reducible repeat (first | refine bN ?_ _ | refine bD ?_ | refine bL ?_ _)); exact BK144.out), (by (with_reducible repeat (first | refine bN ?_ _ | refine bD ?_ | refine bL ?_ _)); exact BK145.out), (by repeat (first | (with_reducible first | exact HB.out | apply below_alloc | apply pN | apply dI | refine below_set ?_ GE135.out | refine below_set ?_ GE136.out | refine below_set ?_ GE144.out | refine below_set ?_ GE145.out) | exact HB.out))⟩)
             ·skip
              refine box_step ?hg (N := 8) ?hd (cs := #[.int .u64 0, .int .u64 0, .int .u64 0, .int .u64 0]) (t := 26) ?hr ?_; (case hd => rfl); (case hg => rfl); (case hr => first | (go_simp; done) | (go_simp; rfl))
              intro gb155 hg w161 hbox hb
              have n0_ := Aside0.mk (bB (g := gb135) (o := .cells #[.int .u64 a0_0, .int .u64 a0_1, .int .u64 a0_2, .int .u64 a0_3] 26 (0, 0)) (by (with_reducible repeat (first | refine bN ?_ _ | refine bD ?_ | refine bL ?_ _)); exact BK135.out) hb)
              have n1_ := Aside0.mk (bB (g := gb136) (o := .cells #[.int .u64 a1_0, .int .u64 a1_1] 24 (0, 0)) (by (with_reducible repeat (first | refine bN ?_ _ | refine bD ?_ | refine bL ?_ _)); exact BK136.out) hb)
              have n2_ := Aside0.mk (bB (g := gb144) (o := .cells #[.int .u64 t137, .int .u64 t138, .int .u64 t139, .int .u64 t140] 26 (0, 0)) (by (with_reducible repeat (first | refine bN ?_ _ | refine bD ?_ | refine bL ?_ _)); exact BK144.out) hb)
              have n3_ := Aside0.mk (bB (g := gb145) (o := .cells #[.int .u64 t141, .int .u64 t142] 24 (0, 0)) (by (with_reducible repeat (first | refine bN ?_ _ | refine bD ?_ | refine bL ?_ _)); exact BK145.out) hb)
              have n4_ := Aside0.mk (below_step (by repeat (first | (with_reducible first | exact HB.out | apply below_alloc | apply pN | apply dI | refine below_set ?_ GE135.out | refine below_set ?_ GE136.out | refine below_set ?_ GE144.out | refine below_set ?_ GE145.out) | exact HB.out)) hb)
              have n5_ := Aside0.mk (hbox)
              have n6_ := Aside0.mk ((by rw [hg]; exact (below_size (by repeat (first | (with_reducible first | exact HB.out | apply below_alloc | apply pN | apply dI | refine below_set ?_ GE135.out | refine below_set ?_ GE136.out | refine below_set ?_ GE144.out | refine below_set ?_ GE145.out) | exact HB.out))) : w.heap.size ≤ gb155))
              have n7_ := Aside0.mk ((by rw [hg]; exact (below_size (by repeat (first | (with_reducible first | exact HB.out | apply below_alloc | apply pN | apply dI | refine below_set ?_ GE135.out | refine below_set ?_ GE136.out | refine below_set ?_ GE144.out | refine below_set ?_ GE145.out) | exact HB.out))) : w.heap.size ≤ gb155))
              have n8_ := Aside0.mk ((by rw [hg]; exact Nat.ne_of_lt (blk_lt (g := gb135) (o := .cells #[.int .u64 a0_0, .int .u64 a0_1, .int .u64 a0_2, .int .u64 a0_3] 26 (0, 0)) (by (with_reducible repeat (first | refine bN ?_ _ | refine bD ?_ | refine bL ?_ _)); exact BK135.out)) : gb135 ≠ gb155))
              have n9_ := Aside0.mk ((by rw [hg]; exact Nat.ne_of_gt (blk_lt (g := gb135) (o := .cells #[.int .u64 a0_0, .int .u64 a0_1, .int .u64 a0_2, .int .u64 a0_3] 26 (0, 0)) (by (with_reducible repeat (first | refine bN ?_ _ | refine bD ?_ | refine bL ?_ _)); exact BK135.out)) : gb155 ≠ gb135))
              have n10_ := Aside0.mk ((by rw [hg]; exact Nat.ne_of_lt (blk_lt (g := gb136) (o := .cells #[.int .u64 a1_0, .int .u64 a1_1] 24 (0, 0)) (by (with_reducible repeat (first | refine bN ?_ _ | refine bD ?_ | refine bL ?_ _)); exact BK136.out)) : gb136 ≠ gb155))
              have n11_ := Aside0.mk ((by rw [hg]; exact Nat.ne_of_gt (blk_lt (g := gb136) (o := .cells #[.int .u64 a1_0, .int .u64 a1_1] 24 (0, 0)) (by (with_reducible repeat (first | refine bN ?_ _ | refine bD ?_ | refine bL ?_ _)); exact BK136.out)) : gb155 ≠ gb136))
              have n12_ := Aside0.mk ((by rw [hg]; exact Nat.ne_of_lt (blk_lt (g := gb144) (o := .cells #[.int .u64 t137, .int .u64 t138, .int .u64 t139, .int .u64 t140] 26 (0, 0)) (by (with_reducible repeat (first | refine bN ?_ _ | refine bD ?_ | refine bL ?_ _)); exact BK144.out)) : gb144 ≠ gb155))
              have n13_ := Aside0.mk ((by rw [hg]; exact Nat.ne_of_gt (blk_lt (g := gb144) (o := .cells #[.int .u64 t137, .int .u64 t138, .int .u64 t139, .int .u64 t140] 26 (0, 0)) (by (with_reducible repeat (first | refine bN ?_ _ | refine bD ?_ | refine bL ?_ _)); exact BK144.out)) : gb155 ≠ gb144))
              have n14_ := Aside0.mk ((by rw [hg]; exact Nat.ne_of_lt (blk_lt (g := gb145) (o := .cells #[.int .u64 t141, .int .u64 t142] 24 (0, 0)) (by (with_reducible repeat (first | refine bN ?_ _ | refine bD ?_ | refine bL ?_ _)); exact BK145.out)) : gb145 ≠ gb155))
              have n15_ := Aside0.mk ((by rw [hg]; exact Nat.ne_of_gt (blk_lt (g := gb145) (o := .cells #[.int .u64 t141, .int .u64 t142] 24 (0, 0)) (by (with_reducible repeat (first | refine bN ?_ _ | refine bD ?_ | refine bL ?_ _)); exact BK145.out)) : gb155 ≠ gb145))
              clear BK135
              clear BK136
              clear BK144
              clear BK145
              clear HB
              have BK135 := n0_
              have BK136 := n1_
              have BK144 := n2_
              have BK145 := n3_
              have HB := n4_
              have BK155 := n5_
              have GW155 := n6_
              have GE155 := n7_
              have NB135_155 := n8_
              have NB155_135 := n9_
              have NB136_155 := n10_
              have NB155_136 := n11_
              have NB144_155 := n12_
              have NB155_144 := n13_
              have NB145_155 := n14_
              have NB155_145 := n15_
              clear n0_ n1_ n2_ n3_ n4_ n5_ n6_ n7_ n8_ n9_ n10_ n11_ n12_ n13_ n14_ n15_
              clear hb hbox hg
              refine hK.out _ _ ⟨(bC BK144.out 0).trans rfl, (bC BK144.out 1).trans rfl, (bC BK144.out 2).trans rfl, (bC BK144.out 3).trans rfl, (bC BK136.out 0).trans rfl, (bC BK136.out 1).trans rfl⟩ (fun hHeld => ?_)
              clear hK K
              refine norm_ (a' := ?_) ?_ ?_
              rotate_left
              ·show Act.put _ (some 8) _ = _
               simp only [Act.put, List.setIfInBounds_toArray, List.set_cons_zero, List.set_cons_succ, i64_w, i32_w]
               rfl
              exact norm_ (by first | (simp only [putAll, Act.put, List.setIfInBounds_toArray, List.set_cons_zero, List.set_cons_succ]; done) | (simp only [putAll, Act.put, List.setIfInBounds_toArray, List.set_cons_zero, List.set_cons_succ]; rfl)) (hJ8 (gb155) _ ⟨hHeld, (by (with_reducible repeat (first | refine bN ?_ _ | refine bD ?_ | refine bL ?_ _)); exact BK135.out), (by (with_reducible repeat (first | refine bN ?_ _ | refine bD ?_ | refine bL ?_ _)); exact BK136.out), (by (with_reducible repeat (first | refine bN ?_ _ | refine bD ?_ | refine bL ?_ _)); exact BK144.out), (by (with_reducible repeat (first | refine bN ?_ _ | refine bD ?_ | refine bL ?_ _)); exact BK145.out), (by (with_reducible repeat (first | refine bN ?_ _ | refine bD ?_ | refine bL ?_ _)); exact BK155.out), GW155.out, GE155.out, NB135_155.out, NB155_135.out, NB136_155.out, NB155_136.out, NB144_155.out, NB155_144.out, NB145_155.out, NB155_145.out, (by repeat (first | (with_reducible first | exact HB.out | apply below_alloc | apply pN | apply dI | refine below_set ?_ GE135.out | refine below_set ?_ GE136.out | refine below_set ?_ GE144.out | refine below_set ?_ GE145.out | refine below_set ?_ GE155.out) | exact HB.out))⟩)
             ·skip
              refine box_step ?hg (N := 9) ?hd (cs := #[.int .u64 0, .int .u64 0, .int .u64 0, .int .u64 0]) (t := 26) ?hr ?_; (case hd => rfl); (case hg => rfl); (case hr => first | (go_simp; done) | (go_simp; rfl))
              intro gb156 hg w161 hbox hb
              have n0_ := Aside0.mk (bB (g := gb135) (o := .cells #[.int .u64 a0_0, .int .u64 a0_1, .int .u64 a0_2, .int .u64 a0_3] 26 (0, 0)) (by (with_reducible repeat (first | refine bN ?_ _ | refine bD ?_ | refine bL ?_ _)); exact BK135.out) hb)
              have n1_ := Aside0.mk (bB (g := gb136) (o := .cells #[.int .u64 a1_0, .int .u64 a1_1] 24 (0, 0)) (by (with_reducible repeat (first | refine bN ?_ _ | refine bD ?_ | refine bL ?_ _)); exact BK136.out) hb)
              have n2_ := Aside0.mk (bB (g := gb144) (o := .cells #[.int .u64 t137, .int .u64 t138, .int .u64 t139, .int .u64 t140] 26 (0, 0)) (by (with_reducible repeat (first | refine bN ?_ _ | refine bD ?_ | refine bL ?_ _)); exact BK144.out) hb)
              have n3_ := Aside0.mk (bB (g := gb145) (o := .cells #[.int .u64 t141, .int .u64 t142] 24 (0, 0)) (by (with_reducible repeat (first | refine bN ?_ _ | refine bD ?_ | refine bL ?_ _)); exact BK145.out) hb)
              have n4_ := Aside0.mk (below_step (by repeat (first | (with_reducible first | exact HB.out | apply below_alloc | apply pN | apply dI | refine below_set ?_ GE135.out | refine below_set ?_ GE136.out | refine below_set ?_ GE144.out | refine below_set ?_ GE145.out) | exact HB.out)) hb)
              have n5_ := Aside0.mk (hbox)
              have n6_ := Aside0.mk ((by rw [hg]; exact (below_size (by repeat (first | (with_reducible first | exact HB.out | apply below_alloc | apply pN | apply dI | refine below_set ?_ GE135.out | refine below_set ?_ GE136.out | refine below_set ?_ GE144.out | refine below_set ?_ GE145.out) | exact HB.out))) : w.heap.size ≤ gb156))
              have n7_ := Aside0.mk ((by rw [hg]; exact (below_size (by repeat (first | (with_reducible first | exact HB.out | apply below_alloc | apply pN | apply dI | refine below_set ?_ GE135.out | refine below_set ?_ GE136.out | refine below_set ?_ GE144.out | refine below_set ?_ GE145.out) | exact HB.out))) : w.heap.size ≤ gb156))
              have n8_ := Aside0.mk ((by rw [hg]; exact Nat.ne_of_lt (blk_lt (g := gb135) (o := .cells #[.int .u64 a0_0, .int .u64 a0_1, .int .u64 a0_2, .int .u64 a0_3] 26 (0, 0)) (by (with_reducible repeat (first | refine bN ?_ _ | refine bD ?_ | refine bL ?_ _)); exact BK135.out)) : gb135 ≠ gb156))
              have n9_ := Aside0.mk ((by rw [hg]; exact Nat.ne_of_gt (blk_lt (g := gb135) (o := .cells #[.int .u64 a0_0, .int .u64 a0_1, .int .u64 a0_2, .int .u64 a0_3] 26 (0, 0)) (by (with_reducible repeat (first | refine bN ?_ _ | refine bD ?_ | refine bL ?_ _)); exact BK135.out)) : gb156 ≠ gb135))
              have n10_ := Aside0.mk ((by rw [hg]; exact Nat.ne_of_lt (blk_lt (g := gb136) (o := .cells #[.int .u64 a1_0, .int .u64 a1_1] 24 (0, 0)) (by (with_reducible repeat (first | refine bN ?_ _ | refine bD ?_ | refine bL ?_ _)); exact BK136.out)) : gb136 ≠ gb156))
              have n11_ := Aside0.mk ((by rw [hg]; exact Nat.ne_of_gt (blk_lt (g := gb136) (o := .cells #[.int .u64 a1_0, .int .u64 a1_1] 24 (0, 0)) (by (with_reducible repeat (first | refine bN ?_ _ | refine bD ?_ | refine bL ?_ _)); exact BK136.out)) : gb156 ≠ gb136))
              have n12_ := Aside0.mk ((by rw [hg]; exact Nat.ne_of_lt (blk_lt (g := gb144) (o := .cells #[.int .u64 t137, .int .u64 t138, .int .u64 t139, .int .u64 t140] 26 (0, 0)) (by (with_reducible repeat (first | refine bN ?_ _ | refine bD ?_ | refine bL ?_ _)); exact BK144.out)) : gb144 ≠ gb156))
              have n13_ := Aside0.mk ((by rw [hg]; exact Nat.ne_of_gt (blk_lt (g := gb144) (o := .cells #[.int .u64 t137, .int .u64 t138, .int .u64 t139, .int .u64 t140] 26 (0, 0)) (by (with_reducible repeat (first | refine bN ?_ _ | refine bD ?_ | refine bL ?_ _)); exact BK144.out)) : gb156 ≠ gb144))
              have n14_ := Aside0.mk ((by rw [hg]; exact Nat.ne_of_lt (blk_lt (g := gb145) (o := .cells #[.int .u64 t141, .int .u64 t142] 24 (0, 0)) (by (with_reducible repeat (first | refine bN ?_ _ | refine bD ?_ | refine bL ?_ _)); exact BK145.out)) : gb145 ≠ gb156))
              have n15_ := Aside0.mk ((by rw [hg]; exact Nat.ne_of_gt (blk_lt (g := gb145) (o := .cells #[.int .u64 t141, .int .u64 t142] 24 (0, 0)) (by (with_reducible repeat (first | refine bN ?_ _ | refine bD ?_ | refine bL ?_ _)); exact BK145.out)) : gb156 ≠ gb145))
              clear BK135
              clear BK136
              clear BK144
              clear BK145
              clear HB
              have BK135 := n0_
              have BK136 := n1_
              have BK144 := n2_
              have BK145 := n3_
              have HB := n4_
              have BK156 := n5_
              have GW156 := n6_
              have GE156 := n7_
              have NB135_156 := n8_
              have NB156_135 := n9_
              have NB136_156 := n10_
              have NB156_136 := n11_
              have NB144_156 := n12_
              have NB156_144 := n13_
              have NB145_156 := n14_
              have NB156_145 := n15_
              clear n0_ n1_ n2_ n3_ n4_ n5_ n6_ n7_ n8_ n9_ n10_ n11_ n12_ n13_ n14_ n15_
              clear hb hbox hg
              refine hK.out _ _ ⟨(bC BK144.out 0).trans rfl, (bC BK144.out 1).trans rfl, (bC BK144.out 2).trans rfl, (bC BK144.out 3).trans rfl, (bC BK136.out 0).trans rfl, (bC BK136.out 1).trans rfl⟩ (fun hHeld => ?_)
              clear hK K
              refine norm_ (a' := ?_) ?_ ?_
              rotate_left
              ·show Act.put _ (some 9) _ = _
               simp only [Act.put, List.setIfInBounds_toArray, List.set_cons_zero, List.set_cons_succ, i64_w, i32_w]
               rfl
              exact norm_ (by first | (simp only [putAll, Act.put, List.setIfInBounds_toArray, List.set_cons_zero, List.set_cons_succ]; done) | (simp only [putAll, Act.put, List.setIfInBounds_toArray, List.set_cons_zero, List.set_cons_succ]; rfl)) (hJ9 (gb156) _ ⟨hHeld, (by (with_reducible repeat (first | refine bN ?_ _ | refine bD ?_ | refine bL ?_ _)); exact BK135.out), (by (with_reducible repeat (first | refine bN ?_ _ | refine bD ?_ | refine bL ?_ _)); exact BK136.out), (by (with_reducible repeat (first | refine bN ?_ _ | refine bD ?_ | refine bL ?_ _)); exact BK144.out), (by (with_reducible repeat (first | refine bN ?_ _ | refine bD ?_ | refine bL ?_ _)); exact BK145.out), (by (with_reducible repeat (first | refine bN ?_ _ | refine bD ?_ | refine bL ?_ _)); exact BK156.out), GW156.out, GE156.out, NB135_156.out, NB156_135.out, NB136_156.out, NB156_136.out, NB144_156.out, NB156_144.out, NB145_156.out, NB156_145.out, (by repeat (first | (with_reducible first | exact HB.out | apply below_alloc | apply pN | apply dI | refine below_set ?_ GE135.out | refine below_set ?_ GE136.out | refine below_set ?_ GE144.out | refine below_set ?_ GE145.out | refine below_set ?_ GE156.out) | exact HB.out))⟩)
            ·skip
             rintro gb156 w162 ⟨hS_, h0_, h1_, h2_, h3_, h4_, h5_, h6_, h7_, h8_, h9_, h10_, h11_, h12_, h13_, h14_, h15_⟩
             have n0_ : Aside0 (w162.heap[gb135]? = some (.cells #[.int .u64 a0_0, .int .u64 a0_1, .int .u64 a0_2, .int .u64 a0_3] 26 (0, 0))) := ⟨h0_⟩
             have n1_ : Aside0 (w162.heap[gb136]? = some (.cells #[.int .u64 a1_0, .int .u64 a1_1] 24 (0, 0))) := ⟨h1_⟩
             have n2_ : Aside0 (w162.heap[gb144]? = some (.cells #[.int .u64 t137, .int .u64 t138, .int .u64 t139, .int .u64 t140] 26 (0, 0))) := ⟨h2_⟩
             have n3_ : Aside0 (w162.heap[gb145]? = some (.cells #[.int .u64 t141, .int .u64 t142] 24 (0, 0))) := ⟨h3_⟩
             have n4_ : Aside0 (w162.heap[gb156]? = some (.cells #[.int .u64 0, .int .u64 0, .int .u64 0, .int .u64 0] 26 (0, 0))) := ⟨h4_⟩
             have n5_ : Aside0 (w.heap.size ≤ gb156) := ⟨h5_⟩
             have n6_ : Aside0 (w.heap.size ≤ gb156) := ⟨h6_⟩
             have n7_ : Aside0 (gb135 ≠ gb156) := ⟨h7_⟩
             have n8_ : Aside0 (gb156 ≠ gb135) := ⟨h8_⟩
             have n9_ : Aside0 (gb136 ≠ gb156) := ⟨h9_⟩
             have n10_ : Aside0 (gb156 ≠ gb136) := ⟨h10_⟩
             have n11_ : Aside0 (gb144 ≠ gb156) := ⟨h11_⟩
             have n12_ : Aside0 (gb156 ≠ gb144) := ⟨h12_⟩
             have n13_ : Aside0 (gb145 ≠ gb156) := ⟨h13_⟩
             have n14_ : Aside0 (gb156 ≠ gb145) := ⟨h14_⟩
             have n15_ : Aside0 (Below w.heap.size w w162) := ⟨h15_⟩
             clear BK135
             clear BK136
             clear BK144
             clear BK145
             clear HB
             clear h0_ h1_ h2_ h3_ h4_ h5_ h6_ h7_ h8_ h9_ h10_ h11_ h12_ h13_ h14_ h15_
             have BK135 := n0_
             have BK136 := n1_
             have BK144 := n2_
             have BK145 := n3_
             have BK156 := n4_
             have GW156 := n5_
             have GE156 := n6_
             have NB135_156 := n7_
             have NB156_135 := n8_
             have NB136_156 := n9_
             have NB156_136 := n10_
             have NB144_156 := n11_
             have NB156_144 := n12_
             have NB145_156 := n13_
             have NB156_145 := n14_
             have HB := n15_
             clear n0_ n1_ n2_ n3_ n4_ n5_ n6_ n7_ n8_ n9_ n10_ n11_ n12_ n13_ n14_ n15_
             have hHeld : w162.cell? ⟨gb144, 0, none⟩ = some (.int .u64 t137) ∧ w162.cell? ⟨gb144, 1, none⟩ = some (.int .u64 t138) ∧ w162.cell? ⟨gb144, 2, none⟩ = some (.int .u64 t139) ∧ w162.cell? ⟨gb144, 3, none⟩ = some (.int .u64 t140) ∧ w162.cell? ⟨gb136, 0, none⟩ = some (.int .u64 a1_0) ∧ w162.cell? ⟨gb136, 1, none⟩ = some (.int .u64 a1_1) := hS_
             refine norm_ (a' := ?_) ?_ ?_
             rotate_left
             ·simp only [putAll, Act.put, List.setIfInBounds_toArray, List.set_cons_zero, List.set_cons_succ]
              rfl
             refine two_ (i := 3) (j := 8) (Ni := some 46) (Nj := some 8) (bA 12 639) (bA 12 887) rfl rfl rfl rfl (two_of HT_.out (by kernel_rfl)) (by decide) (by decide) (fun K hK => ?_) (fun K hK => ?_)
             ·skip
              refine goes_ Try.func14 (by kernel_rfl) rfl #[.agg #[.int .u64 t139, .int .u64 t140], .agg #[.int .u64 a1_0, .int .u64 a1_1]] (by rfl) rfl rfl (by (try simp only [List.map_toArray, List.map_cons, List.map_nil]); first | done | rfl | (simp only [List.length_drop, List.length_take]; rfl)) ?_
              with_reducible refine (limb_Mul.calls t139 t140 a1_0 a1_1 t147 t148 t149 t150 _ A26.out).mono ?_
              rintro e w163 ⟨rfl, hb⟩
              refine ⟨_, rfl, ?_⟩
              have n0_ := Aside0.mk (bB (g := gb135) (o := .cells #[.int .u64 a0_0, .int .u64 a0_1, .int .u64 a0_2, .int .u64 a0_3] 26 (0, 0)) (by (with_reducible repeat (first | refine bN ?_ _ | refine bD ?_ | refine bL ?_ _)); exact BK135.out) hb)
              have n1_ := Aside0.mk (bB (g := gb136) (o := .cells #[.int .u64 a1_0, .int .u64 a1_1] 24 (0, 0)) (by (with_reducible repeat (first | refine bN ?_ _ | refine bD ?_ | refine bL ?_ _)); exact BK136.out) hb)
              have n2_ := Aside0.mk (bB (g := gb144) (o := .cells #[.int .u64 t137, .int .u64 t138, .int .u64 t139, .int .u64 t140] 26 (0, 0)) (by (with_reducible repeat (first | refine bN ?_ _ | refine bD ?_ | refine bL ?_ _)); exact BK144.out) hb)
              have n3_ := Aside0.mk (bB (g := gb145) (o := .cells #[.int .u64 t141, .int .u64 t142] 24 (0, 0)) (by (with_reducible repeat (first | refine bN ?_ _ | refine bD ?_ | refine bL ?_ _)); exact BK145.out) hb)
              have n4_ := Aside0.mk (bB (g := gb156) (o := .cells #[.int .u64 0, .int .u64 0, .int .u64 0, .int .u64 0] 26 (0, 0)) (by (with_reducible repeat (first | refine bN ?_ _ | refine bD ?_ | refine bL ?_ _)); exact BK156.out) hb)
              have n5_ := Aside0.mk (below_step (by repeat (first | (with_reducible first | exact HB.out | apply below_alloc | apply pN | apply dI | refine below_set ?_ GE135.out | refine below_set ?_ GE136.out | refine below_set ?_ GE144.out | refine below_set ?_ GE145.out | refine below_set ?_ GE156.out) | exact HB.out)) hb)
              clear BK135
              clear BK136
              clear BK144
              clear BK145
              clear BK156
              clear HB
              have BK135 := n0_
              have BK136 := n1_
              have BK144 := n2_
              have BK145 := n3_
              have BK156 := n4_
              have HB := n5_
              clear n0_ n1_ n2_ n3_ n4_ n5_
              (try clear hb)
              (try clear hb2)
              (try clear hk)
              (try clear hi)
              refine hK.out _ _ ⟨(bC BK144.out 0).trans rfl, (bC BK144.out 1).trans rfl, (bC BK144.out 2).trans rfl, (bC BK144.out 3).trans rfl, (bC BK136.out 0).trans rfl, (bC BK136.out 1).trans rfl⟩ (fun hHeld => ?_)
              clear hK K
              refine norm_ (a' := ?_) ?_ ?_
              rotate_left
              ·show Act.put _ (some 46) _ = _
               simp only [Act.put, List.setIfInBounds_toArray, List.set_cons_zero, List.set_cons_succ, i64_w, i32_w]
               rfl
              exact norm_ (by first | (simp only [putAll, Act.put, List.setIfInBounds_toArray, List.set_cons_zero, List.set_cons_succ]; done) | (simp only [putAll, Act.put, List.setIfInBounds_toArray, List.set_cons_zero, List.set_cons_succ]; rfl)) (hJ3_9 (gb156) _ ⟨hHeld, (by (with_reducible repeat (first | refine bN ?_ _ | refine bD ?_ | refine bL ?_ _)); exact BK135.out), (by (with_reducible repeat (first | refine bN ?_ _ | refine bD ?_ | refine bL ?_ _)); exact BK136.out), (by (with_reducible repeat (first | refine bN ?_ _ | refine bD ?_ | refine bL ?_ _)); exact BK144.out), (by (with_reducible repeat (first | refine bN ?_ _ | refine bD ?_ | refine bL ?_ _)); exact BK145.out), (by (with_reducible repeat (first | refine bN ?_ _ | refine bD ?_ | refine bL ?_ _)); exact BK156.out), GW156.out, GE156.out, NB135_156.out, NB156_135.out, NB136_156.out, NB156_136.out, NB144_156.out, NB156_144.out, NB145_156.out, NB156_145.out, (by repeat (first | (with_reducible first | exact HB.out | apply below_alloc | apply pN | apply dI | refine below_set ?_ GE135.out | refine below_set ?_ GE136.out | refine below_set ?_ GE144.out | refine below_set ?_ GE145.out | refine below_set ?_ GE156.out) | exact HB.out))⟩)
             ·skip
              refine box_step ?hg (N := 8) ?hd (cs := #[.int .u64 0, .int .u64 0, .int .u64 0, .int .u64 0]) (t := 26) ?hr ?_; (case hd => rfl); (case hg => rfl); (case hr => first | (go_simp; done) | (go_simp; rfl))
              intro gb155 hg w163 hbox hb
              have n0_ := Aside0.mk (bB (g := gb135) (o := .cells #[.int .u64 a0_0, .int .u64 a0_1, .int .u64 a0_2, .int .u64 a0_3] 26 (0, 0)) (by (with_reducible repeat (first | refine bN ?_ _ | refine bD ?_ | refine bL ?_ _)); exact BK135.out) hb)
              have n1_ := Aside0.mk (bB (g := gb136) (o := .cells #[.int .u64 a1_0, .int .u64 a1_1] 24 (0, 0)) (by (with_reducible repeat (first | refine bN ?_ _ | refine bD ?_ | refine bL ?_ _)); exact BK136.out) hb)
              have n2_ := Aside0.mk (bB (g := gb144) (o := .cells #[.int .u64 t137, .int .u64 t138, .int .u64 t139, .int .u64 t140] 26 (0, 0)) (by (with_reducible repeat (first | refine bN ?_ _ | refine bD ?_ | refine bL ?_ _)); exact BK144.out) hb)
              have n3_ := Aside0.mk (bB (g := gb145) (o := .cells #[.int .u64 t141, .int .u64 t142] 24 (0, 0)) (by (with_reducible repeat (first | refine bN ?_ _ | refine bD ?_ | refine bL ?_ _)); exact BK145.out) hb)
              have n4_ := Aside0.mk (bB (g := gb156) (o := .cells #[.int .u64 0, .int .u64 0, .int .u64 0, .int .u64 0] 26 (0, 0)) (by (with_reducible repeat (first | refine bN ?_ _ | refine bD ?_ | refine bL ?_ _)); exact BK156.out) hb)
              have n5_ := Aside0.mk (below_step (by repeat (first | (with_reducible first | exact HB.out | apply below_alloc | apply pN | apply dI | refine below_set ?_ GE135.out | refine below_set ?_ GE136.out | refine below_set ?_ GE144.out | refine below_set ?_ GE145.out | refine below_set ?_ GE156.out) | exact HB.out)) hb)
              have n6_ := Aside0.mk (hbox)
              have n7_ := Aside0.mk ((by rw [hg]; exact (below_size (by repeat (first | (with_reducible first | exact HB.out | apply below_alloc | apply pN | apply dI | refine below_set ?_ GE135.out | refine below_set ?_ GE136.out | refine below_set ?_ GE144.out | refine below_set ?_ GE145.out | refine below_set ?_ GE156.out) | exact HB.out))) : w.heap.size ≤ gb155))
              have n8_ := Aside0.mk ((by rw [hg]; exact (below_size (by repeat (first | (with_reducible first | exact HB.out | apply below_alloc | apply pN | apply dI | refine below_set ?_ GE135.out | refine below_set ?_ GE136.out | refine below_set ?_ GE144.out | refine below_set ?_ GE145.out | refine below_set ?_ GE156.out) | exact HB.out))) : w.heap.size ≤ gb155))
              have n9_ := Aside0.mk ((by rw [hg]; exact Nat.ne_of_lt (blk_lt (g := gb135) (o := .cells #[.int .u64 a0_0, .int .u64 a0_1, .int .u64 a0_2, .int .u64 a0_3] 26 (0, 0)) (by (with_reducible repeat (first | refine bN ?_ _ | refine bD ?_ | refine bL ?_ _)); exact BK135.out)) : gb135 ≠ gb155))
              have n10_ := Aside0.mk ((by rw [hg]; exact Nat.ne_of_gt (blk_lt (g := gb135) (o := .cells #[.int .u64 a0_0, .int .u64 a0_1, .int .u64 a0_2, .int .u64 a0_3] 26 (0, 0)) (by (with_reducible repeat (first | refine bN ?_ _ | refine bD ?_ | refine bL ?_ _)); exact BK135.out)) : gb155 ≠ gb135))
              have n11_ := Aside0.mk ((by rw [hg]; exact Nat.ne_of_lt (blk_lt (g := gb136) (o := .cells #[.int .u64 a1_0, .int .u64 a1_1] 24 (0, 0)) (by (with_reducible repeat (first | refine bN ?_ _ | refine bD ?_ | refine bL ?_ _)); exact BK136.out)) : gb136 ≠ gb155))
              have n12_ := Aside0.mk ((by rw [hg]; exact Nat.ne_of_gt (blk_lt (g := gb136) (o := .cells #[.int .u64 a1_0, .int .u64 a1_1] 24 (0, 0)) (by (with_reducible repeat (first | refine bN ?_ _ | refine bD ?_ | refine bL ?_ _)); exact BK136.out)) : gb155 ≠ gb136))
              have n13_ := Aside0.mk ((by rw [hg]; exact Nat.ne_of_lt (blk_lt (g := gb144) (o := .cells #[.int .u64 t137, .int .u64 t138, .int .u64 t139, .int .u64 t140] 26 (0, 0)) (by (with_reducible repeat (first | refine bN ?_ _ | refine bD ?_ | refine bL ?_ _)); exact BK144.out)) : gb144 ≠ gb155))
              have n14_ := Aside0.mk ((by rw [hg]; exact Nat.ne_of_gt (blk_lt (g := gb144) (o := .cells #[.int .u64 t137, .int .u64 t138, .int .u64 t139, .int .u64 t140] 26 (0, 0)) (by (with_reducible repeat (first | refine bN ?_ _ | refine bD ?_ | refine bL ?_ _)); exact BK144.out)) : gb155 ≠ gb144))
              have n15_ := Aside0.mk ((by rw [hg]; exact Nat.ne_of_lt (blk_lt (g := gb145) (o := .cells #[.int .u64 t141, .int .u64 t142] 24 (0, 0)) (by (with_reducible repeat (first | refine bN ?_ _ | refine bD ?_ | refine bL ?_ _)); exact BK145.out)) : gb145 ≠ gb155))
              have n16_ := Aside0.mk ((by rw [hg]; exact Nat.ne_of_gt (blk_lt (g := gb145) (o := .cells #[.int .u64 t141, .int .u64 t142] 24 (0, 0)) (by (with_reducible repeat (first | refine bN ?_ _ | refine bD ?_ | refine bL ?_ _)); exact BK145.out)) : gb155 ≠ gb145))
              have n17_ := Aside0.mk ((by rw [hg]; exact Nat.ne_of_lt (blk_lt (g := gb156) (o := .cells #[.int .u64 0, .int .u64 0, .int .u64 0, .int .u64 0] 26 (0, 0)) (by (with_reducible repeat (first | refine bN ?_ _ | refine bD ?_ | refine bL ?_ _)); exact BK156.out)) : gb156 ≠ gb155))
              have n18_ := Aside0.mk ((by rw [hg]; exact Nat.ne_of_gt (blk_lt (g := gb156) (o := .cells #[.int .u64 0, .int .u64 0, .int .u64 0, .int .u64 0] 26 (0, 0)) (by (with_reducible repeat (first | refine bN ?_ _ | refine bD ?_ | refine bL ?_ _)); exact BK156.out)) : gb155 ≠ gb156))
              clear BK135
              clear BK136
              clear BK144
              clear BK145
              clear BK156
              clear HB
              have BK135 := n0_
              have BK136 := n1_
              have BK144 := n2_
              have BK145 := n3_
              have BK156 := n4_
              have HB := n5_
              have BK155 := n6_
              have GW155 := n7_
              have GE155 := n8_
              have NB135_155 := n9_
              have NB155_135 := n10_
              have NB136_155 := n11_
              have NB155_136 := n12_
              have NB144_155 := n13_
              have NB155_144 := n14_
              have NB145_155 := n15_
              have NB155_145 := n16_
              have NB156_155 := n17_
              have NB155_156 := n18_
              clear n0_ n1_ n2_ n3_ n4_ n5_ n6_ n7_ n8_ n9_ n10_ n11_ n12_ n13_ n14_ n15_ n16_ n17_ n18_
              clear hb hbox hg
              refine hK.out _ _ ⟨(bC BK144.out 0).trans rfl, (bC BK144.out 1).trans rfl, (bC BK144.out 2).trans rfl, (bC BK144.out 3).trans rfl, (bC BK136.out 0).trans rfl, (bC BK136.out 1).trans rfl⟩ (fun hHeld => ?_)
              clear hK K
              refine norm_ (a' := ?_) ?_ ?_
              rotate_left
              ·show Act.put _ (some 8) _ = _
               simp only [Act.put, List.setIfInBounds_toArray, List.set_cons_zero, List.set_cons_succ, i64_w, i32_w]
               rfl
              exact norm_ (by first | (simp only [putAll, Act.put, List.setIfInBounds_toArray, List.set_cons_zero, List.set_cons_succ]; done) | (simp only [putAll, Act.put, List.setIfInBounds_toArray, List.set_cons_zero, List.set_cons_succ]; rfl)) (hJ8_9 (gb155, gb156) _ ⟨hHeld, (by (with_reducible repeat (first | refine bN ?_ _ | refine bD ?_ | refine bL ?_ _)); exact BK135.out), (by (with_reducible repeat (first | refine bN ?_ _ | refine bD ?_ | refine bL ?_ _)); exact BK136.out), (by (with_reducible repeat (first | refine bN ?_ _ | refine bD ?_ | refine bL ?_ _)); exact BK144.out), (by (with_reducible repeat (first | refine bN ?_ _ | refine bD ?_ | refine bL ?_ _)); exact BK145.out), (by (with_reducible repeat (first | refine bN ?_ _ | refine bD ?_ | refine bL ?_ _)); exact BK155.out), (by (with_reducible repeat (first | refine bN ?_ _ | refine bD ?_ | refine bL ?_ _)); exact BK156.out), GW155.out, GE155.out, NB135_155.out, NB155_135.out, NB136_155.out, NB155_136.out, NB144_155.out, NB155_144.out, NB145_155.out, NB155_145.out, NB156_155.out, NB155_156.out, GW156.out, GE156.out, NB135_156.out, NB156_135.out, NB136_156.out, NB156_136.out, NB144_156.out, NB156_144.out, NB145_156.out, NB156_145.out, (by repeat (first | (with_reducible first | exact HB.out | apply below_alloc | apply pN | apply dI | refine below_set ?_ GE135.out | refine below_set ?_ GE136.out | refine below_set ?_ GE144.out | refine below_set ?_ GE145.out | refine below_set ?_ GE156.out | refine below_set ?_ GE155.out) | exact HB.out))⟩)
           ·skip
            rintro gb155 w162 ⟨hS_, h0_, h1_, h2_, h3_, h4_, h5_, h6_, h7_, h8_, h9_, h10_, h11_, h12_, h13_, h14_, h15_⟩
            have n0_ : Aside0 (w162.heap[gb135]? = some (.cells #[.int .u64 a0_0, .int .u64 a0_1, .int .u64 a0_2, .int .u64 a0_3] 26 (0, 0))) := ⟨h0_⟩
            have n1_ : Aside0 (w162.heap[gb136]? = some (.cells #[.int .u64 a1_0, .int .u64 a1_1] 24 (0, 0))) := ⟨h1_⟩
            have n2_ : Aside0 (w162.heap[gb144]? = some (.cells #[.int .u64 t137, .int .u64 t138, .int .u64 t139, .int .u64 t140] 26 (0, 0))) := ⟨h2_⟩
            have n3_ : Aside0 (w162.heap[gb145]? = some (.cells #[.int .u64 t141, .int .u64 t142] 24 (0, 0))) := ⟨h3_⟩
            have n4_ : Aside0 (w162.heap[gb155]? = some (.cells #[.int .u64 0, .int .u64 0, .int .u64 0, .int .u64 0] 26 (0, 0))) := ⟨h4_⟩
            have n5_ : Aside0 (w.heap.size ≤ gb155) := ⟨h5_⟩
            have n6_ : Aside0 (w.heap.size ≤ gb155) := ⟨h6_⟩
            have n7_ : Aside0 (gb135 ≠ gb155) := ⟨h7_⟩
            have n8_ : Aside0 (gb155 ≠ gb135) := ⟨h8_⟩
            have n9_ : Aside0 (gb136 ≠ gb155) := ⟨h9_⟩
            have n10_ : Aside0 (gb155 ≠ gb136) := ⟨h10_⟩
            have n11_ : Aside0 (gb144 ≠ gb155) := ⟨h11_⟩
            have n12_ : Aside0 (gb155 ≠ gb144) := ⟨h12_⟩
            have n13_ : Aside0 (gb145 ≠ gb155) := ⟨h13_⟩
            have n14_ : Aside0 (gb155 ≠ gb145) := ⟨h14_⟩
            have n15_ : Aside0 (Below w.heap.size w w162) := ⟨h15_⟩
            clear BK135
            clear BK136
            clear BK144
            clear BK145
            clear HB
            clear h0_ h1_ h2_ h3_ h4_ h5_ h6_ h7_ h8_ h9_ h10_ h11_ h12_ h13_ h14_ h15_
            have BK135 := n0_
            have BK136 := n1_
            have BK144 := n2_
            have BK145 := n3_
            have BK155 := n4_
            have GW155 := n5_
            have GE155 := n6_
            have NB135_155 := n7_
            have NB155_135 := n8_
            have NB136_155 := n9_
            have NB155_136 := n10_
            have NB144_155 := n11_
            have NB155_144 := n12_
            have NB145_155 := n13_
            have NB155_145 := n14_
            have HB := n15_
            clear n0_ n1_ n2_ n3_ n4_ n5_ n6_ n7_ n8_ n9_ n10_ n11_ n12_ n13_ n14_ n15_
            have hHeld : w162.cell? ⟨gb144, 0, none⟩ = some (.int .u64 t137) ∧ w162.cell? ⟨gb144, 1, none⟩ = some (.int .u64 t138) ∧ w162.cell? ⟨gb144, 2, none⟩ = some (.int .u64 t139) ∧ w162.cell? ⟨gb144, 3, none⟩ = some (.int .u64 t140) ∧ w162.cell? ⟨gb136, 0, none⟩ = some (.int .u64 a1_0) ∧ w162.cell? ⟨gb136, 1, none⟩ = some (.int .u64 a1_1) := hS_
            refine norm_ (a' := ?_) ?_ ?_
            rotate_left
            ·simp only [putAll, Act.put, List.setIfInBounds_toArray, List.set_cons_zero, List.set_cons_succ]
             rfl
            refine two_ (i := 3) (j := 9) (Ni := some 46) (Nj := some 9) (bA 12 383) (bA 12 887) rfl rfl rfl rfl (two_of HT_.out (by kernel_rfl)) (by decide) (by decide) (fun K hK => ?_) (fun K hK => ?_)
            ·skip
             refine goes_ Try.func14 (by kernel_rfl) rfl #[.agg #[.int .u64 t139, .int .u64 t140], .agg #[.int .u64 a1_0, .int .u64 a1_1]] (by rfl) rfl rfl (by (try simp only [List.map_toArray, List.map_cons, List.map_nil]); first | done | rfl | (simp only [List.length_drop, List.length_take]; rfl)) ?_
             with_reducible refine (limb_Mul.calls t139 t140 a1_0 a1_1 t147 t148 t149 t150 _ A26.out).mono ?_
             rintro e w163 ⟨rfl, hb⟩
             refine ⟨_, rfl, ?_⟩
             have n0_ := Aside0.mk (bB (g := gb135) (o := .cells #[.int .u64 a0_0, .int .u64 a0_1, .int .u64 a0_2, .int .u64 a0_3] 26 (0, 0)) (by (with_reducible repeat (first | refine bN ?_ _ | refine bD ?_ | refine bL ?_ _)); exact BK135.out) hb)
             have n1_ := Aside0.mk (bB (g := gb136) (o := .cells #[.int .u64 a1_0, .int .u64 a1_1] 24 (0, 0)) (by (with_reducible repeat (first | refine bN ?_ _ | refine bD ?_ | refine bL ?_ _)); exact BK136.out) hb)
             have n2_ := Aside0.mk (bB (g := gb144) (o := .cells #[.int .u64 t137, .int .u64 t138, .int .u64 t139, .int .u64 t140] 26 (0, 0)) (by (with_reducible repeat (first | refine bN ?_ _ | refine bD ?_ | refine bL ?_ _)); exact BK144.out) hb)
             have n3_ := Aside0.mk (bB (g := gb145) (o := .cells #[.int .u64 t141, .int .u64 t142] 24 (0, 0)) (by (with_reducible repeat (first | refine bN ?_ _ | refine bD ?_ | refine bL ?_ _)); exact BK145.out) hb)
             have n4_ := Aside0.mk (bB (g := gb155) (o := .cells #[.int .u64 0, .int .u64 0, .int .u64 0, .int .u64 0] 26 (0, 0)) (by (with_reducible repeat (first | refine bN ?_ _ | refine bD ?_ | refine bL ?_ _)); exact BK155.out) hb)
             have n5_ := Aside0.mk (below_step (by repeat (first | (with_reducible first | exact HB.out | apply below_alloc | apply pN | apply dI | refine below_set ?_ GE135.out | refine below_set ?_ GE136.out | refine below_set ?_ GE144.out | refine below_set ?_ GE145.out | refine below_set ?_ GE155.out) | exact HB.out)) hb)
             clear BK135
             clear BK136
             clear BK144
             clear BK145
             clear BK155
             clear HB
             have BK135 := n0_
             have BK136 := n1_
             have BK144 := n2_
             have BK145 := n3_
             have BK155 := n4_
             have HB := n5_
             clear n0_ n1_ n2_ n3_ n4_ n5_
             (try clear hb)
             (try clear hb2)
             (try clear hk)
             (try clear hi)
             refine hK.out _ _ ⟨(bC BK144.out 0).trans rfl, (bC BK144.out 1).trans rfl, (bC BK144.out 2).trans rfl, (bC BK144.out 3).trans rfl, (bC BK136.out 0).trans rfl, (bC BK136.out 1).trans rfl⟩ (fun hHeld => ?_)
             clear hK K
             refine norm_ (a' := ?_) ?_ ?_
             rotate_left
             ·show Act.put _ (some 46) _ = _
              simp only [Act.put, List.setIfInBounds_toArray, List.set_cons_zero, List.set_cons_succ, i64_w, i32_w]
              rfl
             exact norm_ (by first | (simp only [putAll, Act.put, List.setIfInBounds_toArray, List.set_cons_zero, List.set_cons_succ]; done) | (simp only [putAll, Act.put, List.setIfInBounds_toArray, List.set_cons_zero, List.set_cons_succ]; rfl)) (hJ3_8 (gb155) _ ⟨hHeld, (by (with_reducible repeat (first | refine bN ?_ _ | refine bD ?_ | refine bL ?_ _)); exact BK135.out), (by (with_reducible repeat (first | refine bN ?_ _ | refine bD ?_ | refine bL ?_ _)); exact BK136.out), (by (with_reducible repeat (first | refine bN ?_ _ | refine bD ?_ | refine bL ?_ _)); exact BK144.out), (by (with_reducible repeat (first | refine bN ?_ _ | refine bD ?_ | refine bL ?_ _)); exact BK145.out), (by (with_reducible repeat (first | refine bN ?_ _ | refine bD ?_ | refine bL ?_ _)); exact BK155.out), GW155.out, GE155.out, NB135_155.out, NB155_135.out, NB136_155.out, NB155_136.out, NB144_155.out, NB155_144.out, NB145_155.out, NB155_145.out, (by repeat (first | (with_reducible first | exact HB.out | apply below_alloc | apply pN | apply dI | refine below_set ?_ GE135.out | refine below_set ?_ GE136.out | refine below_set ?_ GE144.out | refine below_set ?_ GE145.out | refine below_set ?_ GE155.out) | exact HB.out))⟩)
            ·skip
             refine box_step ?hg (N := 9) ?hd (cs := #[.int .u64 0, .int .u64 0, .int .u64 0, .int .u64 0]) (t := 26) ?hr ?_; (case hd => rfl); (case hg => rfl); (case hr => first | (go_simp; done) | (go_simp; rfl))
             intro gb156 hg w163 hbox hb
             have n0_ := Aside0.mk (bB (g := gb135) (o := .cells #[.int .u64 a0_0, .int .u64 a0_1, .int .u64 a0_2, .int .u64 a0_3] 26 (0, 0)) (by (with_reducible repeat (first | refine bN ?_ _ | refine bD ?_ | refine bL ?_ _)); exact BK135.out) hb)
             have n1_ := Aside0.mk (bB (g := gb136) (o := .cells #[.int .u64 a1_0, .int .u64 a1_1] 24 (0, 0)) (by (with_reducible repeat (first | refine bN ?_ _ | refine bD ?_ | refine bL ?_ _)); exact BK136.out) hb)
             have n2_ := Aside0.mk (bB (g := gb144) (o := .cells #[.int .u64 t137, .int .u64 t138, .int .u64 t139, .int .u64 t140] 26 (0, 0)) (by (with_reducible repeat (first | refine bN ?_ _ | refine bD ?_ | refine bL ?_ _)); exact BK144.out) hb)
             have n3_ := Aside0.mk (bB (g := gb145) (o := .cells #[.int .u64 t141, .int .u64 t142] 24 (0, 0)) (by (with_reducible repeat (first | refine bN ?_ _ | refine bD ?_ | refine bL ?_ _)); exact BK145.out) hb)
             have n4_ := Aside0.mk (bB (g := gb155) (o := .cells #[.int .u64 0, .int .u64 0, .int .u64 0, .int .u64 0] 26 (0, 0)) (by (with_reducible repeat (first | refine bN ?_ _ | refine bD ?_ | refine bL ?_ _)); exact BK155.out) hb)
             have n5_ := Aside0.mk (below_step (by repeat (first | (with_reducible first | exact HB.out | apply below_alloc | apply pN | apply dI | refine below_set ?_ GE135.out | refine below_set ?_ GE136.out | refine below_set ?_ GE144.out | refine below_set ?_ GE145.out | refine below_set ?_ GE155.out) | exact HB.out)) hb)
             have n6_ := Aside0.mk (hbox)
             have n7_ := Aside0.mk ((by rw [hg]; exact (below_size (by repeat (first | (with_reducible first | exact HB.out | apply below_alloc | apply pN | apply dI | refine below_set ?_ GE135.out | refine below_set ?_ GE136.out | refine below_set ?_ GE144.out | refine below_set ?_ GE145.out | refine below_set ?_ GE155.out) | exact HB.out))) : w.heap.size ≤ gb156))
             have n8_ := Aside0.mk ((by rw [hg]; exact (below_size (by repeat (first | (with_reducible first | exact HB.out | apply below_alloc | apply pN | apply dI | refine below_set ?_ GE135.out | refine below_set ?_ GE136.out | refine below_set ?_ GE144.out | refine below_set ?_ GE145.out | refine below_set ?_ GE155.out) | exact HB.out))) : w.heap.size ≤ gb156))
             have n9_ := Aside0.mk ((by rw [hg]; exact Nat.ne_of_lt (blk_lt (g := gb135) (o := .cells #[.int .u64 a0_0, .int .u64 a0_1, .int .u64 a0_2, .int .u64 a0_3] 26 (0, 0)) (by (with_reducible repeat (first | refine bN ?_ _ | refine bD ?_ | refine bL ?_ _)); exact BK135.out)) : gb135 ≠ gb156))
             have n10_ := Aside0.mk ((by rw [hg]; exact Nat.ne_of_gt (blk_lt (g := gb135) (o := .cells #[.int .u64 a0_0, .int .u64 a0_1, .int .u64 a0_2, .int .u64 a0_3] 26 (0, 0)) (by (with_reducible repeat (first | refine bN ?_ _ | refine bD ?_ | refine bL ?_ _)); exact BK135.out)) : gb156 ≠ gb135))
             have n11_ := Aside0.mk ((by rw [hg]; exact Nat.ne_of_lt (blk_lt (g := gb136) (o := .cells #[.int .u64 a1_0, .int .u64 a1_1] 24 (0, 0)) (by (with_reducible repeat (first | refine bN ?_ _ | refine bD ?_ | refine bL ?_ _)); exact BK136.out)) : gb136 ≠ gb156))
             have n12_ := Aside0.mk ((by rw [hg]; exact Nat.ne_of_gt (blk_lt (g := gb136) (o := .cells #[.int .u64 a1_0, .int .u64 a1_1] 24 (0, 0)) (by (with_reducible repeat (first | refine bN ?_ _ | refine bD ?_ | refine bL ?_ _)); exact BK136.out)) : gb156 ≠ gb136))
             have n13_ := Aside0.mk ((by rw [hg]; exact Nat.ne_of_lt (blk_lt (g := gb144) (o := .cells #[.int .u64 t137, .int .u64 t138, .int .u64 t139, .int .u64 t140] 26 (0, 0)) (by (with_reducible repeat (first | refine bN ?_ _ | refine bD ?_ | refine bL ?_ _)); exact BK144.out)) : gb144 ≠ gb156))
             have n14_ := Aside0.mk ((by rw [hg]; exact Nat.ne_of_gt (blk_lt (g := gb144) (o := .cells #[.int .u64 t137, .int .u64 t138, .int .u64 t139, .int .u64 t140] 26 (0, 0)) (by (with_reducible repeat (first | refine bN ?_ _ | refine bD ?_ | refine bL ?_ _)); exact BK144.out)) : gb156 ≠ gb144))
             have n15_ := Aside0.mk ((by rw [hg]; exact Nat.ne_of_lt (blk_lt (g := gb145) (o := .cells #[.int .u64 t141, .int .u64 t142] 24 (0, 0)) (by (with_reducible repeat (first | refine bN ?_ _ | refine bD ?_ | refine bL ?_ _)); exact BK145.out)) : gb145 ≠ gb156))
             have n16_ := Aside0.mk ((by rw [hg]; exact Nat.ne_of_gt (blk_lt (g := gb145) (o := .cells #[.int .u64 t141, .int .u64 t142] 24 (0, 0)) (by (with_reducible repeat (first | refine bN ?_ _ | refine bD ?_ | refine bL ?_ _)); exact BK145.out)) : gb156 ≠ gb145))
             have n17_ := Aside0.mk ((by rw [hg]; exact Nat.ne_of_lt (blk_lt (g := gb155) (o := .cells #[.int .u64 0, .int .u64 0, .int .u64 0, .int .u64 0] 26 (0, 0)) (by (with_reducible repeat (first | refine bN ?_ _ | refine bD ?_ | refine bL ?_ _)); exact BK155.out)) : gb155 ≠ gb156))
             have n18_ := Aside0.mk ((by rw [hg]; exact Nat.ne_of_gt (blk_lt (g := gb155) (o := .cells #[.int .u64 0, .int .u64 0, .int .u64 0, .int .u64 0] 26 (0, 0)) (by (with_reducible repeat (first | refine bN ?_ _ | refine bD ?_ | refine bL ?_ _)); exact BK155.out)) : gb156 ≠ gb155))
             clear BK135
             clear BK136
             clear BK144
             clear BK145
             clear BK155
             clear HB
             have BK135 := n0_
             have BK136 := n1_
             have BK144 := n2_
             have BK145 := n3_
             have BK155 := n4_
             have HB := n5_
             have BK156 := n6_
             have GW156 := n7_
             have GE156 := n8_
             have NB135_156 := n9_
             have NB156_135 := n10_
             have NB136_156 := n11_
             have NB156_136 := n12_
             have NB144_156 := n13_
             have NB156_144 := n14_
             have NB145_156 := n15_
             have NB156_145 := n16_
             have NB155_156 := n17_
             have NB156_155 := n18_
             clear n0_ n1_ n2_ n3_ n4_ n5_ n6_ n7_ n8_ n9_ n10_ n11_ n12_ n13_ n14_ n15_ n16_ n17_ n18_
             clear hb hbox hg
             refine hK.out _ _ ⟨(bC BK144.out 0).trans rfl, (bC BK144.out 1).trans rfl, (bC BK144.out 2).trans rfl, (bC BK144.out 3).trans rfl, (bC BK136.out 0).trans rfl, (bC BK136.out 1).trans rfl⟩ (fun hHeld => ?_)
             clear hK K
             refine norm_ (a' := ?_) ?_ ?_
             rotate_left
             ·show Act.put _ (some 9) _ = _
              simp only [Act.put, List.setIfInBounds_toArray, List.set_cons_zero, List.set_cons_succ, i64_w, i32_w]
              rfl
             exact norm_ (by first | (simp only [putAll, Act.put, List.setIfInBounds_toArray, List.set_cons_zero, List.set_cons_succ]; done) | (simp only [putAll, Act.put, List.setIfInBounds_toArray, List.set_cons_zero, List.set_cons_succ]; rfl)) (hJ8_9 (gb155, gb156) _ ⟨hHeld, (by (with_reducible repeat (first | refine bN ?_ _ | refine bD ?_ | refine bL ?_ _)); exact BK135.out), (by (with_reducible repeat (first | refine bN ?_ _ | refine bD ?_ | refine bL ?_ _)); exact BK136.out), (by (with_reducible repeat (first | refine bN ?_ _ | refine bD ?_ | refine bL ?_ _)); exact BK144.out), (by (with_reducible repeat (first | refine bN ?_ _ | refine bD ?_ | refine bL ?_ _)); exact BK145.out), (by (with_reducible repeat (first | refine bN ?_ _ | refine bD ?_ | refine bL ?_ _)); exact BK155.out), (by (with_reducible repeat (first | refine bN ?_ _ | refine bD ?_ | refine bL ?_ _)); exact BK156.out), GW155.out, GE155.out, NB135_155.out, NB155_135.out, NB136_155.out, NB155_136.out, NB144_155.out, NB155_144.out, NB145_155.out, NB155_145.out, NB156_155.out, NB155_156.out, GW156.out, GE156.out, NB135_156.out, NB156_135.out, NB136_156.out, NB156_136.out, NB144_156.out, NB156_144.out, NB145_156.out, NB156_145.out, (by repeat (first | (with_reducible first | exact HB.out | apply below_alloc | apply pN | apply dI | refine below_set ?_ GE135.out | refine below_set ?_ GE136.out | refine below_set ?_ GE144.out | refine below_set ?_ GE145.out | refine below_set ?_ GE155.out | refine below_set ?_ GE156.out) | exact HB.out))⟩)
          ·skip
           rintro _ w162 ⟨hS_, h0_, h1_, h2_, h3_, h4_⟩
           have n0_ : Aside0 (w162.heap[gb135]? = some (.cells #[.int .u64 a0_0, .int .u64 a0_1, .int .u64 a0_2, .int .u64 a0_3] 26 (0, 0))) := ⟨h0_⟩
           have n1_ : Aside0 (w162.heap[gb136]? = some (.cells #[.int .u64 a1_0, .int .u64 a1_1] 24 (0, 0))) := ⟨h1_⟩
           have n2_ : Aside0 (w162.heap[gb144]? = some (.cells #[.int .u64 t137, .int .u64 t138, .int .u64 t139, .int .u64 t140] 26 (0, 0))) := ⟨h2_⟩
           have n3_ : Aside0 (w162.heap[gb145]? = some (.cells #[.int .u64 t141, .int .u64 t142] 24 (0, 0))) := ⟨h3_⟩
           have n4_ : Aside0 (Below w.heap.size w w162) := ⟨h4_⟩
           clear BK135
           clear BK136
           clear BK144
           clear BK145
           clear HB
           clear h0_ h1_ h2_ h3_ h4_
           have BK135 := n0_
           have BK136 := n1_
           have BK144 := n2_
           have BK145 := n3_
           have HB := n4_
           clear n0_ n1_ n2_ n3_ n4_
           have hHeld : w162.cell? ⟨gb144, 0, none⟩ = some (.int .u64 t137) ∧ w162.cell? ⟨gb144, 1, none⟩ = some (.int .u64 t138) ∧ w162.cell? ⟨gb144, 2, none⟩ = some (.int .u64 t139) ∧ w162.cell? ⟨gb144, 3, none⟩ = some (.int .u64 t140) ∧ w162.cell? ⟨gb136, 0, none⟩ = some (.int .u64 a1_0) ∧ w162.cell? ⟨gb136, 1, none⟩ = some (.int .u64 a1_1) := hS_
           refine norm_ (a' := ?_) ?_ ?_
           rotate_left
           ·simp only [putAll, Act.put, List.setIfInBounds_toArray, List.set_cons_zero, List.set_cons_succ]
            rfl
           refine three_ (i := 7) (j := 8) (k := 9) (Ni := some 50) (Nj := some 8) (Nk := some 9) (bA 12 255) (bA 12 383) (bA 12 639) rfl rfl rfl rfl rfl rfl (three_of HT_.out (by kernel_rfl)) (by decide) (by decide) (by decide) (fun K hK => ?_) (fun K hK => ?_) (fun K hK => ?_)
           ·skip
            refine goes_ Try.func14 (by kernel_rfl) rfl #[.agg #[.int .u64 t137, .int .u64 t138], .agg #[.int .u64 a1_0, .int .u64 a1_1]] (by rfl) rfl rfl (by (try simp only [List.map_toArray, List.map_cons, List.map_nil]); first | done | rfl | (simp only [List.length_drop, List.length_take]; rfl)) ?_
            with_reducible refine (limb_Mul.calls t137 t138 a1_0 a1_1 t151 t152 t153 t154 _ A27.out).mono ?_
            rintro e w163 ⟨rfl, hb⟩
            refine ⟨_, rfl, ?_⟩
            have n0_ := Aside0.mk (bB (g := gb135) (o := .cells #[.int .u64 a0_0, .int .u64 a0_1, .int .u64 a0_2, .int .u64 a0_3] 26 (0, 0)) (by (with_reducible repeat (first | refine bN ?_ _ | refine bD ?_ | refine bL ?_ _)); exact BK135.out) hb)
            have n1_ := Aside0.mk (bB (g := gb136) (o := .cells #[.int .u64 a1_0, .int .u64 a1_1] 24 (0, 0)) (by (with_reducible repeat (first | refine bN ?_ _ | refine bD ?_ | refine bL ?_ _)); exact BK136.out) hb)
            have n2_ := Aside0.mk (bB (g := gb144) (o := .cells #[.int .u64 t137, .int .u64 t138, .int .u64 t139, .int .u64 t140] 26 (0, 0)) (by (with_reducible repeat (first | refine bN ?_ _ | refine bD ?_ | refine bL ?_ _)); exact BK144.out) hb)
            have n3_ := Aside0.mk (bB (g := gb145) (o := .cells #[.int .u64 t141, .int .u64 t142] 24 (0, 0)) (by (with_reducible repeat (first | refine bN ?_ _ | refine bD ?_ | refine bL ?_ _)); exact BK145.out) hb)
            have n4_ := Aside0.mk (below_step (by repeat (first | (with_reducible first | exact HB.out | apply below_alloc | apply pN | apply dI | refine below_set ?_ GE135.out | refine below_set ?_ GE136.out | refine below_set ?_ GE144.out | refine below_set ?_ GE145.out) | exact HB.out)) hb)
            clear BK135
            clear BK136
            clear BK144
            clear BK145
            clear HB
            have BK135 := n0_
            have BK136 := n1_
            have BK144 := n2_
            have BK145 := n3_
            have HB := n4_
            clear n0_ n1_ n2_ n3_ n4_
            (try clear hb)
            (try clear hb2)
            (try clear hk)
            (try clear hi)
            refine hK.out _ _ ⟨(bC BK144.out 0).trans rfl, (bC BK144.out 1).trans rfl, (bC BK144.out 2).trans rfl, (bC BK144.out 3).trans rfl, (bC BK136.out 0).trans rfl, (bC BK136.out 1).trans rfl⟩ (fun hHeld => ?_)
            clear hK K
            refine norm_ (a' := ?_) ?_ ?_
            rotate_left
            ·show Act.put _ (some 50) _ = _
             simp only [Act.put, List.setIfInBounds_toArray, List.set_cons_zero, List.set_cons_succ, i64_w, i32_w]
             rfl
            exact norm_ (by first | (simp only [putAll, Act.put, List.setIfInBounds_toArray, List.set_cons_zero, List.set_cons_succ]; done) | (simp only [putAll, Act.put, List.setIfInBounds_toArray, List.set_cons_zero, List.set_cons_succ]; rfl)) (hJ3_7 () _ ⟨hHeld, (by (with_reducible repeat (first | refine bN ?_ _ | refine bD ?_ | refine bL ?_ _)); exact BK135.out), (by (with_reducible repeat (first | refine bN ?_ _ | refine bD ?_ | refine bL ?_ _)); exact BK136.out), (by (with_reducible repeat (first | refine bN ?_ _ | refine bD ?_ | refine bL ?_ _)); exact BK144.out), (by (with_reducible repeat (first | refine bN ?_ _ | refine bD ?_ | refine bL ?_ _)); exact BK145.out), (by repeat (first | (with_reducible first | exact HB.out | apply below_alloc | apply pN | apply dI | refine below_set ?_ GE135.out | refine below_set ?_ GE136.out | refine below_set ?_ GE144.out | refine below_set ?_ GE145.out) | exact HB.out))⟩)
           ·skip
            refine box_step ?hg (N := 8) ?hd (cs := #[.int .u64 0, .int .u64 0, .int .u64 0, .int .u64 0]) (t := 26) ?hr ?_; (case hd => rfl); (case hg => rfl); (case hr => first | (go_simp; done) | (go_simp; rfl))
            intro gb155 hg w163 hbox hb
            have n0_ := Aside0.mk (bB (g := gb135) (o := .cells #[.int .u64 a0_0, .int .u64 a0_1, .int .u64 a0_2, .int .u64 a0_3] 26 (0, 0)) (by (with_reducible repeat (first | refine bN ?_ _ | refine bD ?_ | refine bL ?_ _)); exact BK135.out) hb)
            have n1_ := Aside0.mk (bB (g := gb136) (o := .cells #[.int .u64 a1_0, .int .u64 a1_1] 24 (0, 0)) (by (with_reducible repeat (first | refine bN ?_ _ | refine bD ?_ | refine bL ?_ _)); exact BK136.out) hb)
            have n2_ := Aside0.mk (bB (g := gb144) (o := .cells #[.int .u64 t137, .int .u64 t138, .int .u64 t139, .int .u64 t140] 26 (0, 0)) (by (with_reducible repeat (first | refine bN ?_ _ | refine bD ?_ | refine bL ?_ _)); exact BK144.out) hb)
            have n3_ := Aside0.mk (bB (g := gb145) (o := .cells #[.int .u64 t141, .int .u64 t142] 24 (0, 0)) (by (with_reducible repeat (first | refine bN ?_ _ | refine bD ?_ | refine bL ?_ _)); exact BK145.out) hb)
            have n4_ := Aside0.mk (below_step (by repeat (first | (with_reducible first | exact HB.out | apply below_alloc | apply pN | apply dI | refine below_set ?_ GE135.out | refine below_set ?_ GE136.out | refine below_set ?_ GE144.out | refine below_set ?_ GE145.out) | exact HB.out)) hb)
            have n5_ := Aside0.mk (hbox)
            have n6_ := Aside0.mk ((by rw [hg]; exact (below_size (by repeat (first | (with_reducible first | exact HB.out | apply below_alloc | apply pN | apply dI | refine below_set ?_ GE135.out | refine below_set ?_ GE136.out | refine below_set ?_ GE144.out | refine below_set ?_ GE145.out) | exact HB.out))) : w.heap.size ≤ gb155))
            have n7_ := Aside0.mk ((by rw [hg]; exact (below_size (by repeat (first | (with_reducible first | exact HB.out | apply below_alloc | apply pN | apply dI | refine below_set ?_ GE135.out | refine below_set ?_ GE136.out | refine below_set ?_ GE144.out | refine below_set ?_ GE145.out) | exact HB.out))) : w.heap.size ≤ gb155))
            have n8_ := Aside0.mk ((by rw [hg]; exact Nat.ne_of_lt (blk_lt (g := gb135) (o := .cells #[.int .u64 a0_0, .int .u64 a0_1, .int .u64 a0_2, .int .u64 a0_3] 26 (0, 0)) (by (with_reducible repeat (first | refine bN ?_ _ | refine bD ?_ | refine bL ?_ _)); exact BK135.out)) : gb135 ≠ gb155))
            have n9_ := Aside0.mk ((by rw [hg]; exact Nat.ne_of_gt (blk_lt (g := gb135) (o := .cells #[.int .u64 a0_0, .int .u64 a0_1, .int .u64 a0_2, .int .u64 a0_3] 26 (0, 0)) (by (with_reducible repeat (first | refine bN ?_ _ | refine bD ?_ | refine bL ?_ _)); exact BK135.out)) : gb155 ≠ gb135))
            have n10_ := Aside0.mk ((by rw [hg]; exact Nat.ne_of_lt (blk_lt (g := gb136) (o := .cells #[.int .u64 a1_0, .int .u64 a1_1] 24 (0, 0)) (by (with_reducible repeat (first | refine bN ?_ _ | refine bD ?_ | refine bL ?_ _)); exact BK136.out)) : gb136 ≠ gb155))
            have n11_ := Aside0.mk ((by rw [hg]; exact Nat.ne_of_gt (blk_lt (g := gb136) (o := .cells #[.int .u64 a1_0, .int .u64 a1_1] 24 (0, 0)) (by (with_reducible repeat (first | refine bN ?_ _ | refine bD ?_ | refine bL ?_ _)); exact BK136.out)) : gb155 ≠ gb136))
            have n12_ := Aside0.mk ((by rw [hg]; exact Nat.ne_of_lt (blk_lt (g := gb144) (o := .cells #[.int .u64 t137, .int .u64 t138, .int .u64 t139, .int .u64 t140] 26 (0, 0)) (by (with_reducible repeat (first | refine bN ?_ _ | refine bD ?_ | refine bL ?_ _)); exact BK144.out)) : gb144 ≠ gb155))
            have n13_ := Aside0.mk ((by rw [hg]; exact Nat.ne_of_gt (blk_lt (g := gb144) (o := .cells #[.int .u64 t137, .int .u64 t138, .int .u64 t139, .int .u64 t140] 26 (0, 0)) (by (with_reducible repeat (first | refine bN ?_ _ | refine bD ?_ | refine bL ?_ _)); exact BK144.out)) : gb155 ≠ gb144))
            have n14_ := Aside0.mk ((by rw [hg]; exact Nat.ne_of_lt (blk_lt (g := gb145) (o := .cells #[.int .u64 t141, .int .u64 t142] 24 (0, 0)) (by (with_reducible repeat (first | refine bN ?_ _ | refine bD ?_ | refine bL ?_ _)); exact BK145.out)) : gb145 ≠ gb155))
            have n15_ := Aside0.mk ((by rw [hg]; exact Nat.ne_of_gt (blk_lt (g := gb145) (o := .cells #[.int .u64 t141, .int .u64 t142] 24 (0, 0)) (by (with_reducible repeat (first | refine bN ?_ _ | refine bD ?_ | refine bL ?_ _)); exact BK145.out)) : gb155 ≠ gb145))
            clear BK135
            clear BK136
            clear BK144
            clear BK145
            clear HB
            have BK135 := n0_
            have BK136 := n1_
            have BK144 := n2_
            have BK145 := n3_
            have HB := n4_
            have BK155 := n5_
            have GW155 := n6_
            have GE155 := n7_
            have NB135_155 := n8_
            have NB155_135 := n9_
            have NB136_155 := n10_
            have NB155_136 := n11_
            have NB144_155 := n12_
            have NB155_144 := n13_
            have NB145_155 := n14_
            have NB155_145 := n15_
            clear n0_ n1_ n2_ n3_ n4_ n5_ n6_ n7_ n8_ n9_ n10_ n11_ n12_ n13_ n14_ n15_
            clear hb hbox hg
            refine hK.out _ _ ⟨(bC BK144.out 0).trans rfl, (bC BK144.out 1).trans rfl, (bC BK144.out 2).trans rfl, (bC BK144.out 3).trans rfl, (bC BK136.out 0).trans rfl, (bC BK136.out 1).trans rfl⟩ (fun hHeld => ?_)
            clear hK K
            refine norm_ (a' := ?_) ?_ ?_
            rotate_left
            ·show Act.put _ (some 8) _ = _
             simp only [Act.put, List.setIfInBounds_toArray, List.set_cons_zero, List.set_cons_succ, i64_w, i32_w]
             rfl
            exact norm_ (by first | (simp only [putAll, Act.put, List.setIfInBounds_toArray, List.set_cons_zero, List.set_cons_succ]; done) | (simp only [putAll, Act.put, List.setIfInBounds_toArray, List.set_cons_zero, List.set_cons_succ]; rfl)) (hJ3_8 (gb155) _ ⟨hHeld, (by (with_reducible repeat (first | refine bN ?_ _ | refine bD ?_ | refine bL ?_ _)); exact BK135.out), (by (with_reducible repeat (first | refine bN ?_ _ | refine bD ?_ | refine bL ?_ _)); exact BK136.out), (by (with_reducible repeat (first | refine bN ?_ _ | refine bD ?_ | refine bL ?_ _)); exact BK144.out), (by (with_reducible repeat (first | refine bN ?_ _ | refine bD ?_ | refine bL ?_ _)); exact BK145.out), (by (with_reducible repeat (first | refine bN ?_ _ | refine bD ?_ | refine bL ?_ _)); exact BK155.out), GW155.out, GE155.out, NB135_155.out, NB155_135.out, NB136_155.out, NB155_136.out, NB144_155.out, NB155_144.out, NB145_155.out, NB155_145.out, (by repeat (first | (with_reducible first | exact HB.out | apply below_alloc | apply pN | apply dI | refine below_set ?_ GE135.out | refine below_set ?_ GE136.out | refine below_set ?_ GE144.out | refine below_set ?_ GE145.out | refine below_set ?_ GE155.out) | exact HB.out))⟩)
           ·skip
            refine box_step ?hg (N := 9) ?hd (cs := #[.int .u64 0, .int .u64 0, .int .u64 0, .int .u64 0]) (t := 26) ?hr ?_; (case hd => rfl); (case hg => rfl); (case hr => first | (go_simp; done) | (go_simp; rfl))
            intro gb156 hg w163 hbox hb
            have n0_ := Aside0.mk (bB (g := gb135) (o := .cells #[.int .u64 a0_0, .int .u64 a0_1, .int .u64 a0_2, .int .u64 a0_3] 26 (0, 0)) (by (with_reducible repeat (first | refine bN ?_ _ | refine bD ?_ | refine bL ?_ _)); exact BK135.out) hb)
            have n1_ := Aside0.mk (bB (g := gb136) (o := .cells #[.int .u64 a1_0, .int .u64 a1_1] 24 (0, 0)) (by (with_reducible repeat (first | refine bN ?_ _ | refine bD ?_ | refine bL ?_ _)); exact BK136.out) hb)
            have n2_ := Aside0.mk (bB (g := gb144) (o := .cells #[.int .u64 t137, .int .u64 t138, .int .u64 t139, .int .u64 t140] 26 (0, 0)) (by (with_reducible repeat (first | refine bN ?_ _ | refine bD ?_ | refine bL ?_ _)); exact BK144.out) hb)
            have n3_ := Aside0.mk (bB (g := gb145) (o := .cells #[.int .u64 t141, .int .u64 t142] 24 (0, 0)) (by (with_reducible repeat (first | refine bN ?_ _ | refine bD ?_ | refine bL ?_ _)); exact BK145.out) hb)
            have n4_ := Aside0.mk (below_step (by repeat (first | (with_reducible first | exact HB.out | apply below_alloc | apply pN | apply dI | refine below_set ?_ GE135.out | refine below_set ?_ GE136.out | refine below_set ?_ GE144.out | refine below_set ?_ GE145.out) | exact HB.out)) hb)
            have n5_ := Aside0.mk (hbox)
            have n6_ := Aside0.mk ((by rw [hg]; exact (below_size (by repeat (first | (with_reducible first | exact HB.out | apply below_alloc | apply pN | apply dI | refine below_set ?_ GE135.out | refine below_set ?_ GE136.out | refine below_set ?_ GE144.out | refine below_set ?_ GE145.out) | exact HB.out))) : w.heap.size ≤ gb156))
            have n7_ := Aside0.mk ((by rw [hg]; exact (below_size (by repeat (first | (with_reducible first | exact HB.out | apply below_alloc | apply pN | apply dI | refine below_set ?_ GE135.out | refine below_set ?_ GE136.out | refine below_set ?_ GE144.out | refine below_set ?_ GE145.out) | exact HB.out))) : w.heap.size ≤ gb156))
            have n8_ := Aside0.mk ((by rw [hg]; exact Nat.ne_of_lt (blk_lt (g := gb135) (o := .cells #[.int .u64 a0_0, .int .u64 a0_1, .int .u64 a0_2, .int .u64 a0_3] 26 (0, 0)) (by (with_reducible repeat (first | refine bN ?_ _ | refine bD ?_ | refine bL ?_ _)); exact BK135.out)) : gb135 ≠ gb156))
            have n9_ := Aside0.mk ((by rw [hg]; exact Nat.ne_of_gt (blk_lt (g := gb135) (o := .cells #[.int .u64 a0_0, .int .u64 a0_1, .int .u64 a0_2, .int .u64 a0_3] 26 (0, 0)) (by (with_reducible repeat (first | refine bN ?_ _ | refine bD ?_ | refine bL ?_ _)); exact BK135.out)) : gb156 ≠ gb135))
            have n10_ := Aside0.mk ((by rw [hg]; exact Nat.ne_of_lt (blk_lt (g := gb136) (o := .cells #[.int .u64 a1_0, .int .u64 a1_1] 24 (0, 0)) (by (with_reducible repeat (first | refine bN ?_ _ | refine bD ?_ | refine bL ?_ _)); exact BK136.out)) : gb136 ≠ gb156))
            have n11_ := Aside0.mk ((by rw [hg]; exact Nat.ne_of_gt (blk_lt (g := gb136) (o := .cells #[.int .u64 a1_0, .int .u64 a1_1] 24 (0, 0)) (by (with_reducible repeat (first | refine bN ?_ _ | refine bD ?_ | refine bL ?_ _)); exact BK136.out)) : gb156 ≠ gb136))
            have n12_ := Aside0.mk ((by rw [hg]; exact Nat.ne_of_lt (blk_lt (g := gb144) (o := .cells #[.int .u64 t137, .int .u64 t138, .int .u64 t139, .int .u64 t140] 26 (0, 0)) (by (with_reducible repeat (first | refine bN ?_ _ | refine bD ?_ | refine bL ?_ _)); exact BK144.out)) : gb144 ≠ gb156))
            have n13_ := Aside0.mk ((by rw [hg]; exact Nat.ne_of_gt (blk_lt (g := gb144) (o := .cells #[.int .u64 t137, .int .u64 t138, .int .u64 t139, .int .u64 t140] 26 (0, 0)) (by (with_reducible repeat (first | refine bN ?_ _ | refine bD ?_ | refine bL ?_ _)); exact BK144.out)) : gb156 ≠ gb144))
            have n14_ := Aside0.mk ((by rw [hg]; exact Nat.ne_of_lt (blk_lt (g := gb145) (o := .cells #[.int .u64 t141, .int .u64 t142] 24 (0, 0)) (by (with_reducible repeat (first | refine bN ?_ _ | refine bD ?_ | refine bL ?_ _)); exact BK145.out)) : gb145 ≠ gb156))
            have n15_ := Aside0.mk ((by rw [hg]; exact Nat.ne_of_gt (blk_lt (g := gb145) (o := .cells #[.int .u64 t141, .int .u64 t142] 24 (0, 0)) (by (with_reducible repeat (first | refine bN ?_ _ | refine bD ?_ | refine bL ?_ _)); exact BK145.out)) : gb156 ≠ gb145))
            clear BK135
            clear BK136
            clear BK144
            clear BK145
            clear HB
            have BK135 := n0_
            have BK136 := n1_
            have BK144 := n2_
            have BK145 := n3_
            have HB := n4_
            have BK156 := n5_
            have GW156 := n6_
            have GE156 := n7_
            have NB135_156 := n8_
            have NB156_135 := n9_
            have NB136_156 := n10_
            have NB156_136 := n11_
            have NB144_156 := n12_
            have NB156_144 := n13_
            have NB145_156 := n14_
            have NB156_145 := n15_
            clear n0_ n1_ n2_ n3_ n4_ n5_ n6_ n7_ n8_ n9_ n10_ n11_ n12_ n13_ n14_ n15_
            clear hb hbox hg
            refine hK.out _ _ ⟨(bC BK144.out 0).trans rfl, (bC BK144.out 1).trans rfl, (bC BK144.out 2).trans rfl, (bC BK144.out 3).trans rfl, (bC BK136.out 0).trans rfl, (bC BK136.out 1).trans rfl⟩ (fun hHeld => ?_)
            clear hK K
            refine norm_ (a' := ?_) ?_ ?_
            rotate_left
            ·show Act.put _ (some 9) _ = _
             simp only [Act.put, List.setIfInBounds_toArray, List.set_cons_zero, List.set_cons_succ, i64_w, i32_w]
             rfl
            exact norm_ (by first | (simp only [putAll, Act.put, List.setIfInBounds_toArray, List.set_cons_zero, List.set_cons_succ]; done) | (simp only [putAll, Act.put, List.setIfInBounds_toArray, List.set_cons_zero, List.set_cons_succ]; rfl)) (hJ3_9 (gb156) _ ⟨hHeld, (by (with_reducible repeat (first | refine bN ?_ _ | refine bD ?_ | refine bL ?_ _)); exact BK135.out), (by (with_reducible repeat (first | refine bN ?_ _ | refine bD ?_ | refine bL ?_ _)); exact BK136.out), (by (with_reducible repeat (first | refine bN ?_ _ | refine bD ?_ | refine bL ?_ _)); exact BK144.out), (by (with_reducible repeat (first | refine bN ?_ _ | refine bD ?_ | refine bL ?_ _)); exact BK145.out), (by (with_reducible repeat (first | refine bN ?_ _ | refine bD ?_ | refine bL ?_ _)); exact BK156.out), GW156.out, GE156.out, NB135_156.out, NB156_135.out, NB136_156.out, NB156_136.out, NB144_156.out, NB156_144.out, NB145_156.out, NB156_145.out, (by repeat (first | (with_reducible first | exact HB.out | apply below_alloc | apply pN | apply dI | refine below_set ?_ GE135.out | refine below_set ?_ GE136.out | refine below_set ?_ GE144.out | refine below_set ?_ GE145.out | refine below_set ?_ GE156.out) | exact HB.out))⟩)
         ·skip
          rintro ⟨gb155, gb156⟩ w163 ⟨hS_, h0_, h1_, h2_, h3_, h4_, h5_, h6_, h7_, h8_, h9_, h10_, h11_, h12_, h13_, h14_, h15_, h16_, h17_, h18_, h19_, h20_, h21_, h22_, h23_, h24_, h25_, h26_, h27_, h28_⟩
          have n0_ : Aside0 (w163.heap[gb135]? = some (.cells #[.int .u64 a0_0, .int .u64 a0_1, .int .u64 a0_2, .int .u64 a0_3] 26 (0, 0))) := ⟨h0_⟩
          have n1_ : Aside0 (w163.heap[gb136]? = some (.cells #[.int .u64 a1_0, .int .u64 a1_1] 24 (0, 0))) := ⟨h1_⟩
          have n2_ : Aside0 (w163.heap[gb144]? = some (.cells #[.int .u64 t137, .int .u64 t138, .int .u64 t139, .int .u64 t140] 26 (0, 0))) := ⟨h2_⟩
          have n3_ : Aside0 (w163.heap[gb145]? = some (.cells #[.int .u64 t141, .int .u64 t142] 24 (0, 0))) := ⟨h3_⟩
          have n4_ : Aside0 (w163.heap[gb155]? = some (.cells #[.int .u64 0, .int .u64 0, .int .u64 0, .int .u64 0] 26 (0, 0))) := ⟨h4_⟩
          have n5_ : Aside0 (w163.heap[gb156]? = some (.cells #[.int .u64 0, .int .u64 0, .int .u64 0, .int .u64 0] 26 (0, 0))) := ⟨h5_⟩
          have n6_ : Aside0 (w.heap.size ≤ gb155) := ⟨h6_⟩
          have n7_ : Aside0 (w.heap.size ≤ gb155) := ⟨h7_⟩
          have n8_ : Aside0 (gb135 ≠ gb155) := ⟨h8_⟩
          have n9_ : Aside0 (gb155 ≠ gb135) := ⟨h9_⟩
          have n10_ : Aside0 (gb136 ≠ gb155) := ⟨h10_⟩
          have n11_ : Aside0 (gb155 ≠ gb136) := ⟨h11_⟩
          have n12_ : Aside0 (gb144 ≠ gb155) := ⟨h12_⟩
          have n13_ : Aside0 (gb155 ≠ gb144) := ⟨h13_⟩
          have n14_ : Aside0 (gb145 ≠ gb155) := ⟨h14_⟩
          have n15_ : Aside0 (gb155 ≠ gb145) := ⟨h15_⟩
          have n16_ : Aside0 (gb156 ≠ gb155) := ⟨h16_⟩
          have n17_ : Aside0 (gb155 ≠ gb156) := ⟨h17_⟩
          have n18_ : Aside0 (w.heap.size ≤ gb156) := ⟨h18_⟩
          have n19_ : Aside0 (w.heap.size ≤ gb156) := ⟨h19_⟩
          have n20_ : Aside0 (gb135 ≠ gb156) := ⟨h20_⟩
          have n21_ : Aside0 (gb156 ≠ gb135) := ⟨h21_⟩
          have n22_ : Aside0 (gb136 ≠ gb156) := ⟨h22_⟩
          have n23_ : Aside0 (gb156 ≠ gb136) := ⟨h23_⟩
          have n24_ : Aside0 (gb144 ≠ gb156) := ⟨h24_⟩
          have n25_ : Aside0 (gb156 ≠ gb144) := ⟨h25_⟩
          have n26_ : Aside0 (gb145 ≠ gb156) := ⟨h26_⟩
          have n27_ : Aside0 (gb156 ≠ gb145) := ⟨h27_⟩
          have n28_ : Aside0 (Below w.heap.size w w163) := ⟨h28_⟩
          clear BK135
          clear BK136
          clear BK144
          clear BK145
          clear HB
          clear h0_ h1_ h2_ h3_ h4_ h5_ h6_ h7_ h8_ h9_ h10_ h11_ h12_ h13_ h14_ h15_ h16_ h17_ h18_ h19_ h20_ h21_ h22_ h23_ h24_ h25_ h26_ h27_ h28_
          have BK135 := n0_
          have BK136 := n1_
          have BK144 := n2_
          have BK145 := n3_
          have BK155 := n4_
          have BK156 := n5_
          have GW155 := n6_
          have GE155 := n7_
          have NB135_155 := n8_
          have NB155_135 := n9_
          have NB136_155 := n10_
          have NB155_136 := n11_
          have NB144_155 := n12_
          have NB155_144 := n13_
          have NB145_155 := n14_
          have NB155_145 := n15_
          have NB156_155 := n16_
          have NB155_156 := n17_
          have GW156 := n18_
          have GE156 := n19_
          have NB135_156 := n20_
          have NB156_135 := n21_
          have NB136_156 := n22_
          have NB156_136 := n23_
          have NB144_156 := n24_
          have NB156_144 := n25_
          have NB145_156 := n26_
          have NB156_145 := n27_
          have HB := n28_
          clear n0_ n1_ n2_ n3_ n4_ n5_ n6_ n7_ n8_ n9_ n10_ n11_ n12_ n13_ n14_ n15_ n16_ n17_ n18_ n19_ n20_ n21_ n22_ n23_ n24_ n25_ n26_ n27_ n28_
          have hHeld : w163.cell? ⟨gb144, 0, none⟩ = some (.int .u64 t137) ∧ w163.cell? ⟨gb144, 1, none⟩ = some (.int .u64 t138) ∧ w163.cell? ⟨gb144, 2, none⟩ = some (.int .u64 t139) ∧ w163.cell? ⟨gb144, 3, none⟩ = some (.int .u64 t140) ∧ w163.cell? ⟨gb136, 0, none⟩ = some (.int .u64 a1_0) ∧ w163.cell? ⟨gb136, 1, none⟩ = some (.int .u64 a1_1) := hS_
          refine norm_ (a' := ?_) ?_ ?_
          rotate_left
          ·simp only [putAll, Act.put, List.setIfInBounds_toArray, List.set_cons_zero, List.set_cons_succ]
           rfl
          refine one_ (i := 3) (N := some 46) (bA 12 895) rfl rfl (one_of HT_.out (by kernel_rfl)) (by decide) (fun K hK => ?_)
          refine goes_ Try.func14 (by kernel_rfl) rfl #[.agg #[.int .u64 t139, .int .u64 t140], .agg #[.int .u64 a1_0, .int .u64 a1_1]] (by rfl) rfl rfl (by (try simp only [List.map_toArray, List.map_cons, List.map_nil]); first | done | rfl | (simp only [List.length_drop, List.length_take]; rfl)) ?_
          with_reducible refine (limb_Mul.calls t139 t140 a1_0 a1_1 t147 t148 t149 t150 _ A26.out).mono ?_
          rintro e w164 ⟨rfl, hb⟩
          refine ⟨_, rfl, ?_⟩
          have n0_ := Aside0.mk (bB (g := gb135) (o := .cells #[.int .u64 a0_0, .int .u64 a0_1, .int .u64 a0_2, .int .u64 a0_3] 26 (0, 0)) (by (with_reducible repeat (first | refine bN ?_ _ | refine bD ?_ | refine bL ?_ _)); exact BK135.out) hb)
          have n1_ := Aside0.mk (bB (g := gb136) (o := .cells #[.int .u64 a1_0, .int .u64 a1_1] 24 (0, 0)) (by (with_reducible repeat (first | refine bN ?_ _ | refine bD ?_ | refine bL ?_ _)); exact BK136.out) hb)
          have n2_ := Aside0.mk (bB (g := gb144) (o := .cells #[.int .u64 t137, .int .u64 t138, .int .u64 t139, .int .u64 t140] 26 (0, 0)) (by (with_reducible repeat (first | refine bN ?_ _ | refine bD ?_ | refine bL ?_ _)); exact BK144.out) hb)
          have n3_ := Aside0.mk (bB (g := gb145) (o := .cells #[.int .u64 t141, .int .u64 t142] 24 (0, 0)) (by (with_reducible repeat (first | refine bN ?_ _ | refine bD ?_ | refine bL ?_ _)); exact BK145.out) hb)
          have n4_ := Aside0.mk (bB (g := gb155) (o := .cells #[.int .u64 0, .int .u64 0, .int .u64 0, .int .u64 0] 26 (0, 0)) (by (with_reducible repeat (first | refine bN ?_ _ | refine bD ?_ | refine bL ?_ _)); exact BK155.out) hb)
          have n5_ := Aside0.mk (bB (g := gb156) (o := .cells #[.int .u64 0, .int .u64 0, .int .u64 0, .int .u64 0] 26 (0, 0)) (by (with_reducible repeat (first | refine bN ?_ _ | refine bD ?_ | refine bL ?_ _)); exact BK156.out) hb)
          have n6_ := Aside0.mk (below_step (by repeat (first | (with_reducible first | exact HB.out | apply below_alloc | apply pN | apply dI | refine below_set ?_ GE135.out | refine below_set ?_ GE136.out | refine below_set ?_ GE144.out | refine below_set ?_ GE145.out | refine below_set ?_ GE155.out | refine below_set ?_ GE156.out) | exact HB.out)) hb)
          clear BK135
          clear BK136
          clear BK144
          clear BK145
          clear BK155
          clear BK156
          clear HB
          have BK135 := n0_
          have BK136 := n1_
          have BK144 := n2_
          have BK145 := n3_
          have BK155 := n4_
          have BK156 := n5_
          have HB := n6_
          clear n0_ n1_ n2_ n3_ n4_ n5_ n6_
          (try clear hb)
          (try clear hb2)
          (try clear hk)
          (try clear hi)
          refine hK.out _ _ ⟨(bC BK144.out 0).trans rfl, (bC BK144.out 1).trans rfl, (bC BK144.out 2).trans rfl, (bC BK144.out 3).trans rfl, (bC BK136.out 0).trans rfl, (bC BK136.out 1).trans rfl⟩ (fun hHeld => ?_)
          clear hK K
          refine norm_ (a' := ?_) ?_ ?_
          rotate_left
          ·show Act.put _ (some 46) _ = _
           simp only [Act.put, List.setIfInBounds_toArray, List.set_cons_zero, List.set_cons_succ, i64_w, i32_w]
           rfl
          exact norm_ (by first | (simp only [putAll, Act.put, List.setIfInBounds_toArray, List.set_cons_zero, List.set_cons_succ]; done) | (simp only [putAll, Act.put, List.setIfInBounds_toArray, List.set_cons_zero, List.set_cons_succ]; rfl)) (hJ3_8_9 (gb155, gb156) _ ⟨hHeld, (by (with_reducible repeat (first | refine bN ?_ _ | refine bD ?_ | refine bL ?_ _)); exact BK135.out), (by (with_reducible repeat (first | refine bN ?_ _ | refine bD ?_ | refine bL ?_ _)); exact BK136.out), (by (with_reducible repeat (first | refine bN ?_ _ | refine bD ?_ | refine bL ?_ _)); exact BK144.out), (by (with_reducible repeat (first | refine bN ?_ _ | refine bD ?_ | refine bL ?_ _)); exact BK145.out), (by (with_reducible repeat (first | refine bN ?_ _ | refine bD ?_ | refine bL ?_ _)); exact BK155.out), (by (with_reducible repeat (first | refine bN ?_ _ | refine bD ?_ | refine bL ?_ _)); exact BK156.out), GW155.out, GE155.out, NB135_155.out, NB155_135.out, NB136_155.out, NB155_136.out, NB144_155.out, NB155_144.out, NB145_155.out, NB155_145.out, NB156_155.out, NB155_156.out, GW156.out, GE156.out, NB135_156.out, NB156_135.out, NB136_156.out, NB156_136.out, NB144_156.out, NB156_144.out, NB145_156.out, NB156_145.out, (by repeat (first | (with_reducible first | exact HB.out | apply below_alloc | apply pN | apply dI | refine below_set ?_ GE135.out | refine below_set ?_ GE136.out | refine below_set ?_ GE144.out | refine below_set ?_ GE145.out | refine below_set ?_ GE155.out | refine below_set ?_ GE156.out) | exact HB.out))⟩)
        ·skip
         rintro gb156 w163 ⟨hS_, h0_, h1_, h2_, h3_, h4_, h5_, h6_, h7_, h8_, h9_, h10_, h11_, h12_, h13_, h14_, h15_⟩
         have n0_ : Aside0 (w163.heap[gb135]? = some (.cells #[.int .u64 a0_0, .int .u64 a0_1, .int .u64 a0_2, .int .u64 a0_3] 26 (0, 0))) := ⟨h0_⟩
         have n1_ : Aside0 (w163.heap[gb136]? = some (.cells #[.int .u64 a1_0, .int .u64 a1_1] 24 (0, 0))) := ⟨h1_⟩
         have n2_ : Aside0 (w163.heap[gb144]? = some (.cells #[.int .u64 t137, .int .u64 t138, .int .u64 t139, .int .u64 t140] 26 (0, 0))) := ⟨h2_⟩
         have n3_ : Aside0 (w163.heap[gb145]? = some (.cells #[.int .u64 t141, .int .u64 t142] 24 (0, 0))) := ⟨h3_⟩
         have n4_ : Aside0 (w163.heap[gb156]? = some (.cells #[.int .u64 0, .int .u64 0, .int .u64 0, .int .u64 0] 26 (0, 0))) := ⟨h4_⟩
         have n5_ : Aside0 (w.heap.size ≤ gb156) := ⟨h5_⟩
         have n6_ : Aside0 (w.heap.size ≤ gb156) := ⟨h6_⟩
         have n7_ : Aside0 (gb135 ≠ gb156) := ⟨h7_⟩
         have n8_ : Aside0 (gb156 ≠ gb135) := ⟨h8_⟩
         have n9_ : Aside0 (gb136 ≠ gb156) := ⟨h9_⟩
         have n10_ : Aside0 (gb156 ≠ gb136) := ⟨h10_⟩
         have n11_ : Aside0 (gb144 ≠ gb156) := ⟨h11_⟩
         have n12_ : Aside0 (gb156 ≠ gb144) := ⟨h12_⟩
         have n13_ : Aside0 (gb145 ≠ gb156) := ⟨h13_⟩
         have n14_ : Aside0 (gb156 ≠ gb145) := ⟨h14_⟩
         have n15_ : Aside0 (Below w.heap.size w w163) := ⟨h15_⟩
         clear BK135
         clear BK136
         clear BK144
         clear BK145
         clear HB
         clear h0_ h1_ h2_ h3_ h4_ h5_ h6_ h7_ h8_ h9_ h10_ h11_ h12_ h13_ h14_ h15_
         have BK135 := n0_
         have BK136 := n1_
         have BK144 := n2_
         have BK145 := n3_
         have BK156 := n4_
         have GW156 := n5_
         have GE156 := n6_
         have NB135_156 := n7_
         have NB156_135 := n8_
         have NB136_156 := n9_
         have NB156_136 := n10_
         have NB144_156 := n11_
         have NB156_144 := n12_
         have NB145_156 := n13_
         have NB156_145 := n14_
         have HB := n15_
         clear n0_ n1_ n2_ n3_ n4_ n5_ n6_ n7_ n8_ n9_ n10_ n11_ n12_ n13_ n14_ n15_
         have hHeld : w163.cell? ⟨gb144, 0, none⟩ = some (.int .u64 t137) ∧ w163.cell? ⟨gb144, 1, none⟩ = some (.int .u64 t138) ∧ w163.cell? ⟨gb144, 2, none⟩ = some (.int .u64 t139) ∧ w163.cell? ⟨gb144, 3, none⟩ = some (.int .u64 t140) ∧ w163.cell? ⟨gb136, 0, none⟩ = some (.int .u64 a1_0) ∧ w163.cell? ⟨gb136, 1, none⟩ = some (.int .u64 a1_1) := hS_
         refine norm_ (a' := ?_) ?_ ?_
         rotate_left
         ·simp only [putAll, Act.put, List.setIfInBounds_toArray, List.set_cons_zero, List.set_cons_succ]
          rfl
         refine two_ (i := 7) (j := 8) (Ni := some 50) (Nj := some 8) (bA 12 767) (bA 12 895) rfl rfl rfl rfl (two_of HT_.out (by kernel_rfl)) (by decide) (by decide) (fun K hK => ?_) (fun K hK => ?_)
         ·skip
          refine goes_ Try.func14 (by kernel_rfl) rfl #[.agg #[.int .u64 t137, .int .u64 t138], .agg #[.int .u64 a1_0, .int .u64 a1_1]] (by rfl) rfl rfl (by (try simp only [List.map_toArray, List.map_cons, List.map_nil]); first | done | rfl | (simp only [List.length_drop, List.length_take]; rfl)) ?_
          with_reducible refine (limb_Mul.calls t137 t138 a1_0 a1_1 t151 t152 t153 t154 _ A27.out).mono ?_
          rintro e w164 ⟨rfl, hb⟩
          refine ⟨_, rfl, ?_⟩
          have n0_ := Aside0.mk (bB (g := gb135) (o := .cells #[.int .u64 a0_0, .int .u64 a0_1, .int .u64 a0_2, .int .u64 a0_3] 26 (0, 0)) (by (with_reducible repeat (first | refine bN ?_ _ | refine bD ?_ | refine bL ?_ _)); exact BK135.out) hb)
          have n1_ := Aside0.mk (bB (g := gb136) (o := .cells #[.int .u64 a1_0, .int .u64 a1_1] 24 (0, 0)) (by (with_reducible repeat (first | refine bN ?_ _ | refine bD ?_ | refine bL ?_ _)); exact BK136.out) hb)
          have n2_ := Aside0.mk (bB (g := gb144) (o := .cells #[.int .u64 t137, .int .u64 t138, .int .u64 t139, .int .u64 t140] 26 (0, 0)) (by (with_reducible repeat (first | refine bN ?_ _ | refine bD ?_ | refine bL ?_ _)); exact BK144.out) hb)
          have n3_ := Aside0.mk (bB (g := gb145) (o := .cells #[.int .u64 t141, .int .u64 t142] 24 (0, 0)) (by (with_reducible repeat (first | refine bN ?_ _ | refine bD ?_ | refine bL ?_ _)); exact BK145.out) hb)
          have n4_ := Aside0.mk (bB (g := gb156) (o := .cells #[.int .u64 0, .int .u64 0, .int .u64 0, .int .u64 0] 26 (0, 0)) (by (with_reducible repeat (first | refine bN ?_ _ | refine bD ?_ | refine bL ?_ _)); exact BK156.out) hb)
          have n5_ := Aside0.mk (below_step (by repeat (first | (with_reducible first | exact HB.out | apply below_alloc | apply pN | apply dI | refine below_set ?_ GE135.out | refine below_set ?_ GE136.out | refine below_set ?_ GE144.out | refine below_set ?_ GE145.out | refine below_set ?_ GE156.out) | exact HB.out)) hb)
          clear BK135
          clear BK136
          clear BK144
          clear BK145
          clear BK156
          clear HB
          have BK135 := n0_
          have BK136 := n1_
          have BK144 := n2_
          have BK145 := n3_
          have BK156 := n4_
          have HB := n5_
          clear n0_ n1_ n2_ n3_ n4_ n5_
          (try clear hb)
          (try clear hb2)
          (try clear hk)
          (try clear hi)
          refine hK.out _ _ ⟨(bC BK144.out 0).trans rfl, (bC BK144.out 1).trans rfl, (bC BK144.out 2).trans rfl, (bC BK144.out 3).trans rfl, (bC BK136.out 0).trans rfl, (bC BK136.out 1).trans rfl⟩ (fun hHeld => ?_)
          clear hK K
          refine norm_ (a' := ?_) ?_ ?_
          rotate_left
          ·show Act.put _ (some 50) _ = _
           simp only [Act.put, List.setIfInBounds_toArray, List.set_cons_zero, List.set_cons_succ, i64_w, i32_w]
           rfl
          exact norm_ (by first | (simp only [putAll, Act.put, List.setIfInBounds_toArray, List.set_cons_zero, List.set_cons_succ]; done) | (simp only [putAll, Act.put, List.setIfInBounds_toArray, List.set_cons_zero, List.set_cons_succ]; rfl)) (hJ3_7_9 (gb156) _ ⟨hHeld, (by (with_reducible repeat (first | refine bN ?_ _ | refine bD ?_ | refine bL ?_ _)); exact BK135.out), (by (with_reducible repeat (first | refine bN ?_ _ | refine bD ?_ | refine bL ?_ _)); exact BK136.out), (by (with_reducible repeat (first | refine bN ?_ _ | refine bD ?_ | refine bL ?_ _)); exact BK144.out), (by (with_reducible repeat (first | refine bN ?_ _ | refine bD ?_ | refine bL ?_ _)); exact BK145.out), (by (with_reducible repeat (first | refine bN ?_ _ | refine bD ?_ | refine bL ?_ _)); exact BK156.out), GW156.out, GE156.out, NB135_156.out, NB156_135.out, NB136_156.out, NB156_136.out, NB144_156.out, NB156_144.out, NB145_156.out, NB156_145.out, (by repeat (first | (with_reducible first | exact HB.out | apply below_alloc | apply pN | apply dI | refine below_set ?_ GE135.out | refine below_set ?_ GE136.out | refine below_set ?_ GE144.out | refine below_set ?_ GE145.out | refine below_set ?_ GE156.out) | exact HB.out))⟩)
         ·skip
          refine box_step ?hg (N := 8) ?hd (cs := #[.int .u64 0, .int .u64 0, .int .u64 0, .int .u64 0]) (t := 26) ?hr ?_; (case hd => rfl); (case hg => rfl); (case hr => first | (go_simp; done) | (go_simp; rfl))
          intro gb155 hg w164 hbox hb
          have n0_ := Aside0.mk (bB (g := gb135) (o := .cells #[.int .u64 a0_0, .int .u64 a0_1, .int .u64 a0_2, .int .u64 a0_3] 26 (0, 0)) (by (with_reducible repeat (first | refine bN ?_ _ | refine bD ?_ | refine bL ?_ _)); exact BK135.out) hb)
          have n1_ := Aside0.mk (bB (g := gb136) (o := .cells #[.int .u64 a1_0, .int .u64 a1_1] 24 (0, 0)) (by (with_reducible repeat (first | refine bN ?_ _ | refine bD ?_ | refine bL ?_ _)); exact BK136.out) hb)
          have n2_ := Aside0.mk (bB (g := gb144) (o := .cells #[.int .u64 t137, .int .u64 t138, .int .u64 t139, .int .u64 t140] 26 (0, 0)) (by (with_reducible repeat (first | refine bN ?_ _ | refine bD ?_ | refine bL ?_ _)); exact BK144.out) hb)
          have n3_ := Aside0.mk (bB (g := gb145) (o := .cells #[.int .u64 t141, .int .u64 t142] 24 (0, 0)) (by (with_reducible repeat (first | refine bN ?_ _ | refine bD ?_ | refine bL ?_ _)); exact BK145.out) hb)
          have n4_ := Aside0.mk (bB (g := gb156) (o := .cells #[.int .u64 0, .int .u64 0, .int .u64 0, .int .u64 0] 26 (0, 0)) (by (with_reducible repeat (first | refine bN ?_ _ | refine bD ?_ | refine bL ?_ _)); exact BK156.out) hb)
          have n5_ := Aside0.mk (below_step (by repeat (first | (with_reducible first | exact HB.out | apply below_alloc | apply pN | apply dI | refine below_set ?_ GE135.out | refine below_set ?_ GE136.out | refine below_set ?_ GE144.out | refine below_set ?_ GE145.out | refine below_set ?_ GE156.out) | exact HB.out)) hb)
          have n6_ := Aside0.mk (hbox)
          have n7_ := Aside0.mk ((by rw [hg]; exact (below_size (by repeat (first | (with_reducible first | exact HB.out | apply below_alloc | apply pN | apply dI | refine below_set ?_ GE135.out | refine below_set ?_ GE136.out | refine below_set ?_ GE144.out | refine below_set ?_ GE145.out | refine below_set ?_ GE156.out) | exact HB.out))) : w.heap.size ≤ gb155))
          have n8_ := Aside0.mk ((by rw [hg]; exact (below_size (by repeat (first | (with_reducible first | exact HB.out | apply below_alloc | apply pN | apply dI | refine below_set ?_ GE135.out | refine below_set ?_ GE136.out | refine below_set ?_ GE144.out | refine below_set ?_ GE145.out | refine below_set ?_ GE156.out) | exact HB.out))) : w.heap.size ≤ gb155))
          have n9_ := Aside0.mk ((by rw [hg]; exact Nat.ne_of_lt (blk_lt (g := gb135) (o := .cells #[.int .u64 a0_0, .int .u64 a0_1, .int .u64 a0_2, .int .u64 a0_3] 26 (0, 0)) (by (with_reducible repeat (first | refine bN ?_ _ | refine bD ?_ | refine bL ?_ _)); exact BK135.out)) : gb135 ≠ gb155))
          have n10_ := Aside0.mk ((by rw [hg]; exact Nat.ne_of_gt (blk_lt (g := gb135) (o := .cells #[.int .u64 a0_0, .int .u64 a0_1, .int .u64 a0_2, .int .u64 a0_3] 26 (0, 0)) (by (with_reducible repeat (first | refine bN ?_ _ | refine bD ?_ | refine bL ?_ _)); exact BK135.out)) : gb155 ≠ gb135))
          have n11_ := Aside0.mk ((by rw [hg]; exact Nat.ne_of_lt (blk_lt (g := gb136) (o := .cells #[.int .u64 a1_0, .int .u64 a1_1] 24 (0, 0)) (by (with_reducible repeat (first | refine bN ?_ _ | refine bD ?_ | refine bL ?_ _)); exact BK136.out)) : gb136 ≠ gb155))
          have n12_ := Aside0.mk ((by rw [hg]; exact Nat.ne_of_gt (blk_lt (g := gb136) (o := .cells #[.int .u64 a1_0, .int .u64 a1_1] 24 (0, 0)) (by (with_reducible repeat (first | refine bN ?_ _ | refine bD ?_ | refine bL ?_ _)); exact BK136.out)) : gb155 ≠ gb136))
          have n13_ := Aside0.mk ((by rw [hg]; exact Nat.ne_of_lt (blk_lt (g := gb144) (o := .cells #[.int .u64 t137, .int .u64 t138, .int .u64 t139, .int .u64 t140] 26 (0, 0)) (by (with_reducible repeat (first | refine bN ?_ _ | refine bD ?_ | refine bL ?_ _)); exact BK144.out)) : gb144 ≠ gb155))
          have n14_ := Aside0.mk ((by rw [hg]; exact Nat.ne_of_gt (blk_lt (g := gb144) (o := .cells #[.int .u64 t137, .int .u64 t138, .int .u64 t139, .int .u64 t140] 26 (0, 0)) (by (with_reducible repeat (first | refine bN ?_ _ | refine bD ?_ | refine bL ?_ _)); exact BK144.out)) : gb155 ≠ gb144))
          have n15_ := Aside0.mk ((by rw [hg]; exact Nat.ne_of_lt (blk_lt (g := gb145) (o := .cells #[.int .u64 t141, .int .u64 t142] 24 (0, 0)) (by (with_reducible repeat (first | refine bN ?_ _ | refine bD ?_ | refine bL ?_ _)); exact BK145.out)) : gb145 ≠ gb155))
          have n16_ := Aside0.mk ((by rw [hg]; exact Nat.ne_of_gt (blk_lt (g := gb145) (o := .cells #[.int .u64 t141, .int .u64 t142] 24 (0, 0)) (by (with_reducible repeat (first | refine bN ?_ _ | refine bD ?_ | refine bL ?_ _)); exact BK145.out)) : gb155 ≠ gb145))
          have n17_ := Aside0.mk ((by rw [hg]; exact Nat.ne_of_lt (blk_lt (g := gb156) (o := .cells #[.int .u64 0, .int .u64 0, .int .u64 0, .int .u64 0] 26 (0, 0)) (by (with_reducible repeat (first | refine bN ?_ _ | refine bD ?_ | refine bL ?_ _)); exact BK156.out)) : gb156 ≠ gb155))
          have n18_ := Aside0.mk ((by rw [hg]; exact Nat.ne_of_gt (blk_lt (g := gb156) (o := .cells #[.int .u64 0, .int .u64 0, .int .u64 0, .int .u64 0] 26 (0, 0)) (by (with_reducible repeat (first | refine bN ?_ _ | refine bD ?_ | refine bL ?_ _)); exact BK156.out)) : gb155 ≠ gb156))
          clear BK135
          clear BK136
          clear BK144
          clear BK145
          clear BK156
          clear HB
          have BK135 := n0_
          have BK136 := n1_
          have BK144 := n2_
          have BK145 := n3_
          have BK156 := n4_
          have HB := n5_
          have BK155 := n6_
          have GW155 := n7_
          have GE155 := n8_
          have NB135_155 := n9_
          have NB155_135 := n10_
          have NB136_155 := n11_
          have NB155_136 := n12_
          have NB144_155 := n13_
          have NB155_144 := n14_
          have NB145_155 := n15_
          have NB155_145 := n16_
          have NB156_155 := n17_
          have NB155_156 := n18_
          clear n0_ n1_ n2_ n3_ n4_ n5_ n6_ n7_ n8_ n9_ n10_ n11_ n12_ n13_ n14_ n15_ n16_ n17_ n18_
          clear hb hbox hg
          refine hK.out _ _ ⟨(bC BK144.out 0).trans rfl, (bC BK144.out 1).trans rfl, (bC BK144.out 2).trans rfl, (bC BK144.out 3).trans rfl, (bC BK136.out 0).trans rfl, (bC BK136.out 1).trans rfl⟩ (fun hHeld => ?_)
          clear hK K
          refine norm_ (a' := ?_) ?_ ?_
          rotate_left
          ·show Act.put _ (some 8) _ = _
           simp only [Act.put, List.setIfInBounds_toArray, List.set_cons_zero, List.set_cons_succ, i64_w, i32_w]
           rfl
          exact norm_ (by first | (simp only [putAll, Act.put, List.setIfInBounds_toArray, List.set_cons_zero, List.set_cons_succ]; done) | (simp only [putAll, Act.put, List.setIfInBounds_toArray, List.set_cons_zero, List.set_cons_succ]; rfl)) (hJ3_8_9 (gb155, gb156) _ ⟨hHeld, (by (with_reducible repeat (first | refine bN ?_ _ | refine bD ?_ | refine bL ?_ _)); exact BK135.out), (by (with_reducible repeat (first | refine bN ?_ _ | refine bD ?_ | refine bL ?_ _)); exact BK136.out), (by (with_reducible repeat (first | refine bN ?_ _ | refine bD ?_ | refine bL ?_ _)); exact BK144.out), (by (with_reducible repeat (first | refine bN ?_ _ | refine bD ?_ | refine bL ?_ _)); exact BK145.out), (by (with_reducible repeat (first | refine bN ?_ _ | refine bD ?_ | refine bL ?_ _)); exact BK155.out), (by (with_reducible repeat (first | refine bN ?_ _ | refine bD ?_ | refine bL ?_ _)); exact BK156.out), GW155.out, GE155.out, NB135_155.out, NB155_135.out, NB136_155.out, NB155_136.out, NB144_155.out, NB155_144.out, NB145_155.out, NB155_145.out, NB156_155.out, NB155_156.out, GW156.out, GE156.out, NB135_156.out, NB156_135.out, NB136_156.out, NB156_136.out, NB144_156.out, NB156_144.out, NB145_156.out, NB156_145.out, (by repeat (first | (with_reducible first | exact HB.out | apply below_alloc | apply pN | apply dI | refine below_set ?_ GE135.out | refine below_set ?_ GE136.out | refine below_set ?_ GE144.out | refine below_set ?_ GE145.out | refine below_set ?_ GE156.out | refine below_set ?_ GE155.out) | exact HB.out))⟩)
       ·skip
        rintro gb155 w163 ⟨hS_, h0_, h1_, h2_, h3_, h4_, h5_, h6_, h7_, h8_, h9_, h10_, h11_, h12_, h13_, h14_, h15_⟩
        have n0_ : Aside0 (w163.heap[gb135]? = some (.cells #[.int .u64 a0_0, .int .u64 a0_1, .int .u64 a0_2, .int .u64 a0_3] 26 (0, 0))) := ⟨h0_⟩
        have n1_ : Aside0 (w163.heap[gb136]? = some (.cells #[.int .u64 a1_0, .int .u64 a1_1] 24 (0, 0))) := ⟨h1_⟩
        have n2_ : Aside0 (w163.heap[gb144]? = some (.cells #[.int .u64 t137, .int .u64 t138, .int .u64 t139, .int .u64 t140] 26 (0, 0))) := ⟨h2_⟩
        have n3_ : Aside0 (w163.heap[gb145]? = some (.cells #[.int .u64 t141, .int .u64 t142] 24 (0, 0))) := ⟨h3_⟩
        have n4_ : Aside0 (w163.heap[gb155]? = some (.cells #[.int .u64 0, .int .u64 0, .int .u64 0, .int .u64 0] 26 (0, 0))) := ⟨h4_⟩
        have n5_ : Aside0 (w.heap.size ≤ gb155) := ⟨h5_⟩
        have n6_ : Aside0 (w.heap.size ≤ gb155) := ⟨h6_⟩
        have n7_ : Aside0 (gb135 ≠ gb155) := ⟨h7_⟩
        have n8_ : Aside0 (gb155 ≠ gb135) := ⟨h8_⟩
        have n9_ : Aside0 (gb136 ≠ gb155) := ⟨h9_⟩
        have n10_ : Aside0 (gb155 ≠ gb136) := ⟨h10_⟩
        have n11_ : Aside0 (gb144 ≠ gb155) := ⟨h11_⟩
        have n12_ : Aside0 (gb155 ≠ gb144) := ⟨h12_⟩
        have n13_ : Aside0 (gb145 ≠ gb155) := ⟨h13_⟩
        have n14_ : Aside0 (gb155 ≠ gb145) := ⟨h14_⟩
        have n15_ : Aside0 (Below w.heap.size w w163) := ⟨h15_⟩
        clear BK135
        clear BK136
        clear BK144
        clear BK145
        clear HB
        clear h0_ h1_ h2_ h3_ h4_ h5_ h6_ h7_ h8_ h9_ h10_ h11_ h12_ h13_ h14_ h15_
        have BK135 := n0_
        have BK136 := n1_
        have BK144 := n2_
        have BK145 := n3_
        have BK155 := n4_
        have GW155 := n5_
        have GE155 := n6_
        have NB135_155 := n7_
        have NB155_135 := n8_
        have NB136_155 := n9_
        have NB155_136 := n10_
        have NB144_155 := n11_
        have NB155_144 := n12_
        have NB145_155 := n13_
        have NB155_145 := n14_
        have HB := n15_
        clear n0_ n1_ n2_ n3_ n4_ n5_ n6_ n7_ n8_ n9_ n10_ n11_ n12_ n13_ n14_ n15_
        have hHeld : w163.cell? ⟨gb144, 0, none⟩ = some (.int .u64 t137) ∧ w163.cell? ⟨gb144, 1, none⟩ = some (.int .u64 t138) ∧ w163.cell? ⟨gb144, 2, none⟩ = some (.int .u64 t139) ∧ w163.cell? ⟨gb144, 3, none⟩ = some (.int .u64 t140) ∧ w163.cell? ⟨gb136, 0, none⟩ = some (.int .u64 a1_0) ∧ w163.cell? ⟨gb136, 1, none⟩ = some (.int .u64 a1_1) := hS_
        refine norm_ (a' := ?_) ?_ ?_
        rotate_left
        ·simp only [putAll, Act.put, List.setIfInBounds_toArray, List.set_cons_zero, List.set_cons_succ]
         rfl
        refine two_ (i := 7) (j := 9) (Ni := some 50) (Nj := some 9) (bA 12 511) (bA 12 895) rfl rfl rfl rfl (two_of HT_.out (by kernel_rfl)) (by decide) (by decide) (fun K hK => ?_) (fun K hK => ?_)
        ·skip
         refine goes_ Try.func14 (by kernel_rfl) rfl #[.agg #[.int .u64 t137, .int .u64 t138], .agg #[.int .u64 a1_0, .int .u64 a1_1]] (by rfl) rfl rfl (by (try simp only [List.map_toArray, List.map_cons, List.map_nil]); first | done | rfl | (simp only [List.length_drop, List.length_take]; rfl)) ?_
         with_reducible refine (limb_Mul.calls t137 t138 a1_0 a1_1 t151 t152 t153 t154 _ A27.out).mono ?_
         rintro e w164 ⟨rfl, hb⟩
         refine ⟨_, rfl, ?_⟩
         have n0_ := Aside0.mk (bB (g := gb135) (o := .cells #[.int .u64 a0_0, .int .u64 a0_1, .int .u64 a0_2, .int .u64 a0_3] 26 (0, 0)) (by (with_reducible repeat (first | refine bN ?_ _ | refine bD ?_ | refine bL ?_ _)); exact BK135.out) hb)
         have n1_ := Aside0.mk (bB (g := gb136) (o := .cells #[.int .u64 a1_0, .int .u64 a1_1] 24 (0, 0)) (by (with_reducible repeat (first | refine bN ?_ _ | refine bD ?_ | refine bL ?_ _)); exact BK136.out) hb)
         have n2_ := Aside0.mk (bB (g := gb144) (o := .cells #[.int .u64 t137, .int .u64 t138, .int .u64 t139, .int .u64 t140] 26 (0, 0)) (by (with_reducible repeat (first | refine bN ?_ _ | refine bD ?_ | refine bL ?_ _)); exact BK144.out) hb)
         have n3_ := Aside0.mk (bB (g := gb145) (o := .cells #[.int .u64 t141, .int .u64 t142] 24 (0, 0)) (by (with_reducible repeat (first | refine bN ?_ _ | refine bD ?_ | refine bL ?_ _)); exact BK145.out) hb)
         have n4_ := Aside0.mk (bB (g := gb155) (o := .cells #[.int .u64 0, .int .u64 0, .int .u64 0, .int .u64 0] 26 (0, 0)) (by (with_reducible repeat (first | refine bN ?_ _ | refine bD ?_ | refine bL ?_ _)); exact BK155.out) hb)
         have n5_ := Aside0.mk (below_step (by repeat (first | (with_reducible first | exact HB.out | apply below_alloc | apply pN | apply dI | refine below_set ?_ GE135.out | refine below_set ?_ GE136.out | refine below_set ?_ GE144.out | refine below_set ?_ GE145.out | refine below_set ?_ GE155.out) | exact HB.out)) hb)
         clear BK135
         clear BK136
         clear BK144
         clear BK145
         clear BK155
         clear HB
         have BK135 := n0_
         have BK136 := n1_
         have BK144 := n2_
         have BK145 := n3_
         have BK155 := n4_
         have HB := n5_
         clear n0_ n1_ n2_ n3_ n4_ n5_
         (try clear hb)
         (try clear hb2)
         (try clear hk)
         (try clear hi)
         refine hK.out _ _ ⟨(bC BK144.out 0).trans rfl, (bC BK144.out 1).trans rfl, (bC BK144.out 2).trans rfl, (bC BK144.out 3).trans rfl, (bC BK136.out 0).trans rfl, (bC BK136.out 1).trans rfl⟩ (fun hHeld => ?_)
         clear hK K
         refine norm_ (a' := ?_) ?_ ?_
         rotate_left
         ·show Act.put _ (some 50) _ = _
          simp only [Act.put, List.setIfInBounds_toArray, List.set_cons_zero, List.set_cons_succ, i64_w, i32_w]
          rfl
         exact norm_ (by first | (simp only [putAll, Act.put, List.setIfInBounds_toArray, List.set_cons_zero, List.set_cons_succ]; done) | (simp only [putAll, Act.put, List.setIfInBounds_toArray, List.set_cons_zero, List.set_cons_succ]; rfl)) (hJ3_7_8 (gb155) _ ⟨hHeld, (by (with_reducible repeat (first | refine bN ?_ _ | refine bD ?_ | refine bL ?_ _)); exact BK135.out), (by (with_reducible repeat (first | refine bN ?_ _ | refine bD ?_ | refine bL ?_ _)); exact BK136.out), (by (with_reducible repeat (first | refine bN ?_ _ | refine bD ?_ | refine bL ?_ _)); exact BK144.out), (by (with_reducible repeat (first | refine bN ?_ _ | refine bD ?_ | refine bL ?_ _)); exact BK145.out), (by (with_reducible repeat (first | refine bN ?_ _ | refine bD ?_ | refine bL ?_ _)); exact BK155.out), GW155.out, GE155.out, NB135_155.out, NB155_135.out, NB136_155.out, NB155_136.out, NB144_155.out, NB155_144.out, NB145_155.out, NB155_145.out, (by repeat (first | (with_reducible first | exact HB.out | apply below_alloc | apply pN | apply dI | refine below_set ?_ GE135.out | refine below_set ?_ GE136.out | refine below_set ?_ GE144.out | refine below_set ?_ GE145.out | refine below_set ?_ GE155.out) | exact HB.out))⟩)
        ·skip
         refine box_step ?hg (N := 9) ?hd (cs := #[.int .u64 0, .int .u64 0, .int .u64 0, .int .u64 0]) (t := 26) ?hr ?_; (case hd => rfl); (case hg => rfl); (case hr => first | (go_simp; done) | (go_simp; rfl))
         intro gb156 hg w164 hbox hb
         have n0_ := Aside0.mk (bB (g := gb135) (o := .cells #[.int .u64 a0_0, .int .u64 a0_1, .int .u64 a0_2, .int .u64 a0_3] 26 (0, 0)) (by (with_reducible repeat (first | refine bN ?_ _ | refine bD ?_ | refine bL ?_ _)); exact BK135.out) hb)
         have n1_ := Aside0.mk (bB (g := gb136) (o := .cells #[.int .u64 a1_0, .int .u64 a1_1] 24 (0, 0)) (by (with_reducible repeat (first | refine bN ?_ _ | refine bD ?_ | refine bL ?_ _)); exact BK136.out) hb)
         have n2_ := Aside0.mk (bB (g := gb144) (o := .cells #[.int .u64 t137, .int .u64 t138, .int .u64 t139, .int .u64 t140] 26 (0, 0)) (by (with_reducible repeat (first | refine bN ?_ _ | refine bD ?_ | refine bL ?_ _)); exact BK144.out) hb)
         have n3_ := Aside0.mk (bB (g := gb145) (o := .cells #[.int .u64 t141, .int .u64 t142] 24 (0, 0)) (by (with_reducible repeat (first | refine bN ?_ _ | refine bD ?_ | refine bL ?_ _)); exact BK145.out) hb)
         have n4_ := Aside0.mk (bB (g := gb155) (o := .cells #[.int .u64 0, .int .u64 0, .int .u64 0, .int .u64 0] 26 (0, 0)) (by (with_reducible repeat (first | refine bN ?_ _ | refine bD ?_ | refine bL ?_ _)); exact BK155.out) hb)
         have n5_ := Aside0.mk (below_step (by repeat (first | (with_reducible first | exact HB.out | apply below_alloc | apply pN | apply dI | refine below_set ?_ GE135.out | refine below_set ?_ GE136.out | refine below_set ?_ GE144.out | refine below_set ?_ GE145.out | refine below_set ?_ GE155.out) | exact HB.out)) hb)
         have n6_ := Aside0.mk (hbox)
         have n7_ := Aside0.mk ((by rw [hg]; exact (below_size (by repeat (first | (with_reducible first | exact HB.out | apply below_alloc | apply pN | apply dI | refine below_set ?_ GE135.out | refine below_set ?_ GE136.out | refine below_set ?_ GE144.out | refine below_set ?_ GE145.out | refine below_set ?_ GE155.out) | exact HB.out))) : w.heap.size ≤ gb156))
         have n8_ := Aside0.mk ((by rw [hg]; exact (below_size (by repeat (first | (with_reducible first | exact HB.out | apply below_alloc | apply pN | apply dI | refine below_set ?_ GE135.out | refine below_set ?_ GE136.out | refine below_set ?_ GE144.out | refine below_set ?_ GE145.out | refine below_set ?_ GE155.out) | exact HB.out))) : w.heap.size ≤ gb156))
         have n9_ := Aside0.mk ((by rw [hg]; exact Nat.ne_of_lt (blk_lt (g := gb135) (o := .cells #[.int .u64 a0_0, .int .u64 a0_1, .int .u64 a0_2, .int .u64 a0_3] 26 (0, 0)) (by (with_reducible repeat (first | refine bN ?_ _ | refine bD ?_ | refine bL ?_ _)); exact BK135.out)) : gb135 ≠ gb156))
         have n10_ := Aside0.mk ((by rw [hg]; exact Nat.ne_of_gt (blk_lt (g := gb135) (o := .cells #[.int .u64 a0_0, .int .u64 a0_1, .int .u64 a0_2, .int .u64 a0_3] 26 (0, 0)) (by (with_reducible repeat (first | refine bN ?_ _ | refine bD ?_ | refine bL ?_ _)); exact BK135.out)) : gb156 ≠ gb135))
         have n11_ := Aside0.mk ((by rw [hg]; exact Nat.ne_of_lt (blk_lt (g := gb136) (o := .cells #[.int .u64 a1_0, .int .u64 a1_1] 24 (0, 0)) (by (with_reducible repeat (first | refine bN ?_ _ | refine bD ?_ | refine bL ?_ _)); exact BK136.out)) : gb136 ≠ gb156))
         have n12_ := Aside0.mk ((by rw [hg]; exact Nat.ne_of_gt (blk_lt (g := gb136) (o := .cells #[.int .u64 a1_0, .int .u64 a1_1] 24 (0, 0)) (by (with_reducible repeat (first | refine bN ?_ _ | refine bD ?_ | refine bL ?_ _)); exact BK136.out)) : gb156 ≠ gb136))
         have n13_ := Aside0.mk ((by rw [hg]; exact Nat.ne_of_lt (blk_lt (g := gb144) (o := .cells #[.int .u64 t137, .int .u64 t138, .int .u64 t139, .int .u64 t140] 26 (0, 0)) (by (with_reducible repeat (first | refine bN ?_ _ | refine bD ?_ | refine bL ?_ _)); exact BK144.out)) : gb144 ≠ gb156))
         have n14_ := Aside0.mk ((by rw [hg]; exact Nat.ne_of_gt (blk_lt (g := gb144) (o := .cells #[.int .u64 t137, .int .u64 t138, .int .u64 t139, .int .u64 t140] 26 (0, 0)) (by (with_reducible repeat (first | refine bN ?_ _ | refine bD ?_ | refine bL ?_ _)); exact BK144.out)) : gb156 ≠ gb144))
         have n15_ := Aside0.mk ((by rw [hg]; exact Nat.ne_of_lt (blk_lt (g := gb145) (o := .cells #[.int .u64 t141, .int .u64 t142] 24 (0, 0)) (by (with_reducible repeat (first | refine bN ?_ _ | refine bD ?_ | refine bL ?_ _)); exact BK145.out)) : gb145 ≠ gb156))
         have n16_ := Aside0.mk ((by rw [hg]; exact Nat.ne_of_gt (blk_lt (g := gb145) (o := .cells #[.int .u64 t141, .int .u64 t142] 24 (0, 0)) (by (with_reducible repeat (first | refine bN ?_ _ | refine bD ?_ | refine bL ?_ _)); exact BK145.out)) : gb156 ≠ gb145))
         have n17_ := Aside0.mk ((by rw [hg]; exact Nat.ne_of_lt (blk_lt (g := gb155) (o := .cells #[.int .u64 0, .int .u64 0, .int .u64 0, .int .u64 0] 26 (0, 0)) (by (with_reducible repeat (first | refine bN ?_ _ | refine bD ?_ | refine bL ?_ _)); exact BK155.out)) : gb155 ≠ gb156))
         have n18_ := Aside0.mk ((by rw [hg]; exact Nat.ne_of_gt (blk_lt (g := gb155) (o := .cells #[.int .u64 0, .int .u64 0, .int .u64 0, .int .u64 0] 26 (0, 0)) (by (with_reducible repeat (first | refine bN ?_ _ | refine bD ?_ | refine bL ?_ _)); exact BK155.out)) : gb156 ≠ gb155))
         clear BK135
         clear BK136
         clear BK144
         clear BK145
         clear BK155
         clear HB
         have BK135 := n0_
         have BK136 := n1_
         have BK144 := n2_
         have BK145 := n3_
         have BK155 := n4_
         have HB := n5_
         have BK156 := n6_
         have GW156 := n7_
         have GE156 := n8_
         have NB135_156 := n9_
         have NB156_135 := n10_
         have NB136_156 := n11_
         have NB156_136 := n12_
         have NB144_156 := n13_
         have NB156_144 := n14_
         have NB145_156 := n15_
         have NB156_145 := n16_
         have NB155_156 := n17_
         have NB156_155 := n18_
         clear n0_ n1_ n2_ n3_ n4_ n5_ n6_ n7_ n8_ n9_ n10_ n11_ n12_ n13_ n14_ n15_ n16_ n17_ n18_
         clear hb hbox hg
         refine hK.out _ _ ⟨(bC BK144.out 0).trans rfl, (bC BK144.out 1).trans rfl, (bC BK144.out 2).trans rfl, (bC BK144.out 3).trans rfl, (bC BK136.out 0).trans rfl, (bC BK136.out 1).trans rfl⟩ (fun hHeld => ?_)
         clear hK K
         refine norm_ (a' := ?_) ?_ ?_
         rotate_left
         ·show Act.put _ (some 9) _ = _
          simp only [Act.put, List.setIfInBounds_toArray, List.set_cons_zero, List.set_cons_succ, i64_w, i32_w]
          rfl
         exact norm_ (by first | (simp only [putAll, Act.put, List.setIfInBounds_toArray, List.set_cons_zero, List.set_cons_succ]; done) | (simp only [putAll, Act.put, List.setIfInBounds_toArray, List.set_cons_zero, List.set_cons_succ]; rfl)) (hJ3_8_9 (gb155, gb156) _ ⟨hHeld, (by (with_reducible repeat (first | refine bN ?_ _ | refine bD ?_ | refine bL ?_ _)); exact BK135.out), (by (with_reducible repeat (first | refine bN ?_ _ | refine bD ?_ | refine bL ?_ _)); exact BK136.out), (by (with_reducible repeat (first | refine bN ?_ _ | refine bD ?_ | refine bL ?_ _)); exact BK144.out), (by (with_reducible repeat (first | refine bN ?_ _ | refine bD ?_ | refine bL ?_ _)); exact BK145.out), (by (with_reducible repeat (first | refine bN ?_ _ | refine bD ?_ | refine bL ?_ _)); exact BK155.out), (by (with_reducible repeat (first | refine bN ?_ _ | refine bD ?_ | refine bL ?_ _)); exact BK156.out), GW155.out, GE155.out, NB135_155.out, NB155_135.out, NB136_155.out, NB155_136.out, NB144_155.out, NB155_144.out, NB145_155.out, NB155_145.out, NB156_155.out, NB155_156.out, GW156.out, GE156.out, NB135_156.out, NB156_135.out, NB136_156.out, NB156_136.out, NB144_156.out, NB156_144.out, NB145_156.out, NB156_145.out, (by repeat (first | (with_reducible first | exact HB.out | apply below_alloc | apply pN | apply dI | refine below_set ?_ GE135.out | refine below_set ?_ GE136.out | refine below_set ?_ GE144.out | refine below_set ?_ GE145.out | refine below_set ?_ GE155.out | refine below_set ?_ GE156.out) | exact HB.out))⟩)
      ·skip
       rintro _ w163 ⟨hS_, h0_, h1_, h2_, h3_, h4_⟩
       have n0_ : Aside0 (w163.heap[gb135]? = some (.cells #[.int .u64 a0_0, .int .u64 a0_1, .int .u64 a0_2, .int .u64 a0_3] 26 (0, 0))) := ⟨h0_⟩
       have n1_ : Aside0 (w163.heap[gb136]? = some (.cells #[.int .u64 a1_0, .int .u64 a1_1] 24 (0, 0))) := ⟨h1_⟩
       have n2_ : Aside0 (w163.heap[gb144]? = some (.cells #[.int .u64 t137, .int .u64 t138, .int .u64 t139, .int .u64 t140] 26 (0, 0))) := ⟨h2_⟩
       have n3_ : Aside0 (w163.heap[gb145]? = some (.cells #[.int .u64 t141, .int .u64 t142] 24 (0, 0))) := ⟨h3_⟩
       have n4_ : Aside0 (Below w.heap.size w w163) := ⟨h4_⟩
       clear BK135
       clear BK136
       clear BK144
       clear BK145
       clear HB
       clear h0_ h1_ h2_ h3_ h4_
       have BK135 := n0_
       have BK136 := n1_
       have BK144 := n2_
       have BK145 := n3_
       have HB := n4_
       clear n0_ n1_ n2_ n3_ n4_
       have hHeld : w163.cell? ⟨gb144, 0, none⟩ = some (.int .u64 t137) ∧ w163.cell? ⟨gb144, 1, none⟩ = some (.int .u64 t138) ∧ w163.cell? ⟨gb144, 2, none⟩ = some (.int .u64 t139) ∧ w163.cell? ⟨gb144, 3, none⟩ = some (.int .u64 t140) ∧ w163.cell? ⟨gb136, 0, none⟩ = some (.int .u64 a1_0) ∧ w163.cell? ⟨gb136, 1, none⟩ = some (.int .u64 a1_1) := hS_
       refine norm_ (a' := ?_) ?_ ?_
       rotate_left
       ·simp only [putAll, Act.put, List.setIfInBounds_toArray, List.set_cons_zero, List.set_cons_succ]
        rfl
       refine two_ (i := 8) (j := 9) (Ni := some 8) (Nj := some 9) (bA 12 511) (bA 12 767) rfl rfl rfl rfl (two_of HT_.out (by kernel_rfl)) (by decide) (by decide) (fun K hK => ?_) (fun K hK => ?_)
       ·skip
        refine box_step ?hg (N := 8) ?hd (cs := #[.int .u64 0, .int .u64 0, .int .u64 0, .int .u64 0]) (t := 26) ?hr ?_; (case hd => rfl); (case hg => rfl); (case hr => first | (go_simp; done) | (go_simp; rfl))
        intro gb155 hg w164 hbox hb
        have n0_ := Aside0.mk (bB (g := gb135) (o := .cells #[.int .u64 a0_0, .int .u64 a0_1, .int .u64 a0_2, .int .u64 a0_3] 26 (0, 0)) (by (with_reducible repeat (first | refine bN ?_ _ | refine bD ?_ | refine bL ?_ _)); exact BK135.out) hb)
        have n1_ := Aside0.mk (bB (g := gb136) (o := .cells #[.int .u64 a1_0, .int .u64 a1_1] 24 (0, 0)) (by (with_reducible repeat (first | refine bN ?_ _ | refine bD ?_ | refine bL ?_ _)); exact BK136.out) hb)
        have n2_ := Aside0.mk (bB (g := gb144) (o := .cells #[.int .u64 t137, .int .u64 t138, .int .u64 t139, .int .u64 t140] 26 (0, 0)) (by (with_reducible repeat (first | refine bN ?_ _ | refine bD ?_ | refine bL ?_ _)); exact BK144.out) hb)
        have n3_ := Aside0.mk (bB (g := gb145) (o := .cells #[.int .u64 t141, .int .u64 t142] 24 (0, 0)) (by (with_reducible repeat (first | refine bN ?_ _ | refine bD ?_ | refine bL ?_ _)); exact BK145.out) hb)
        have n4_ := Aside0.mk (below_step (by repeat (first | (with_reducible first | exact HB.out | apply below_alloc | apply pN | apply dI | refine below_set ?_ GE135.out | refine below_set ?_ GE136.out | refine below_set ?_ GE144.out | refine below_set ?_ GE145.out) | exact HB.out)) hb)
        have n5_ := Aside0.mk (hbox)
        have n6_ := Aside0.mk ((by rw [hg]; exact (below_size (by repeat (first | (with_reducible first | exact HB.out | apply below_alloc | apply pN | apply dI | refine below_set ?_ GE135.out | refine below_set ?_ GE136.out | refine below_set ?_ GE144.out | refine below_set ?_ GE145.out) | exact HB.out))) : w.heap.size ≤ gb155))
        have n7_ := Aside0.mk ((by rw [hg]; exact (below_size (by repeat (first | (with_reducible first | exact HB.out | apply below_alloc | apply pN | apply dI | refine below_set ?_ GE135.out | refine below_set ?_ GE136.out | refine below_set ?_ GE144.out | refine below_set ?_ GE145.out) | exact HB.out))) : w.heap.size ≤ gb155))
        have n8_ := Aside0.mk ((by rw [hg]; exact Nat.ne_of_lt (blk_lt (g := gb135) (o := .cells #[.int .u64 a0_0, .int .u64 a0_1, .int .u64 a0_2, .int .u64 a0_3] 26 (0, 0)) (by (with_reducible repeat (first | refine bN ?_ _ | refine bD ?_ | refine bL ?_ _)); exact BK135.out)) : gb135 ≠ gb155))
        have n9_ := Aside0.mk ((by rw [hg]; exact Nat.ne_of_gt (blk_lt (g := gb135) (o := .cells #[.int .u64 a0_0, .int .u64 a0_1, .int .u64 a0_2, .int .u64 a0_3] 26 (0, 0)) (by (with_reducible repeat (first | refine bN ?_ _ | refine bD ?_ | refine bL ?_ _)); exact BK135.out)) : gb155 ≠ gb135))
        have n10_ := Aside0.mk ((by rw [hg]; exact Nat.ne_of_lt (blk_lt (g := gb136) (o := .cells #[.int .u64 a1_0, .int .u64 a1_1] 24 (0, 0)) (by (with_reducible repeat (first | refine bN ?_ _ | refine bD ?_ | refine bL ?_ _)); exact BK136.out)) : gb136 ≠ gb155))
        have n11_ := Aside0.mk ((by rw [hg]; exact Nat.ne_of_gt (blk_lt (g := gb136) (o := .cells #[.int .u64 a1_0, .int .u64 a1_1] 24 (0, 0)) (by (with_reducible repeat (first | refine bN ?_ _ | refine bD ?_ | refine bL ?_ _)); exact BK136.out)) : gb155 ≠ gb136))
        have n12_ := Aside0.mk ((by rw [hg]; exact Nat.ne_of_lt (blk_lt (g := gb144) (o := .cells #[.int .u64 t137, .int .u64 t138, .int .u64 t139, .int .u64 t140] 26 (0, 0)) (by (with_reducible repeat (first | refine bN ?_ _ | refine bD ?_ | refine bL ?_ _)); exact BK144.out)) : gb144 ≠ gb155))
        have n13_ := Aside0.mk ((by rw [hg]; exact Nat.ne_of_gt (blk_lt (g := gb144) (o := .cells #[.int .u64 t137, .int .u64 t138, .int .u64 t139, .int .u64 t140] 26 (0, 0)) (by (with_reducible repeat (first | refine bN ?_ _ | refine bD ?_ | refine bL ?_ _)); exact BK144.out)) : gb155 ≠ gb144))
        have n14_ := Aside0.mk ((by rw [hg]; exact Nat.ne_of_lt (blk_lt (g := gb145) (o := .cells #[.int .u64 t141, .int .u64 t142] 24 (0, 0)) (by (with_reducible repeat (first | refine bN ?_ _ | refine bD ?_ | refine bL ?_ _)); exact BK145.out)) : gb145 ≠ gb155))
        have n15_ := Aside0.mk ((by rw [hg]; exact Nat.ne_of_gt (blk_lt (g := gb145) (o := .cells #[.int .u64 t141, .int .u64 t142] 24 (0, 0)) (by (with_reducible repeat (first | refine bN ?_ _ | refine bD ?_ | refine bL ?_ _)); exact BK145.out)) : gb155 ≠ gb145))
        clear BK135
        clear BK136
        clear BK144
        clear BK145
        clear HB
        have BK135 := n0_
        have BK136 := n1_
        have BK144 := n2_
        have BK145 := n3_
        have HB := n4_
        have BK155 := n5_
        have GW155 := n6_
        have GE155 := n7_
        have NB135_155 := n8_
        have NB155_135 := n9_
        have NB136_155 := n10_
        have NB155_136 := n11_
        have NB144_155 := n12_
        have NB155_144 := n13_
        have NB145_155 := n14_
        have NB155_145 := n15_
        clear n0_ n1_ n2_ n3_ n4_ n5_ n6_ n7_ n8_ n9_ n10_ n11_ n12_ n13_ n14_ n15_
        clear hb hbox hg
        refine hK.out _ _ ⟨(bC BK144.out 0).trans rfl, (bC BK144.out 1).trans rfl, (bC BK144.out 2).trans rfl, (bC BK144.out 3).trans rfl, (bC BK136.out 0).trans rfl, (bC BK136.out 1).trans rfl⟩ (fun hHeld => ?_)
        clear hK K
        refine norm_ (a' := ?_) ?_ ?_
        rotate_left
        ·show Act.put _ (some 8) _ = _
         simp only [Act.put, List.setIfInBounds_toArray, List.set_cons_zero, List.set_cons_succ, i64_w, i32_w]
         rfl
        exact norm_ (by first | (simp only [putAll, Act.put, List.setIfInBounds_toArray, List.set_cons_zero, List.set_cons_succ]; done) | (simp only [putAll, Act.put, List.setIfInBounds_toArray, List.set_cons_zero, List.set_cons_succ]; rfl)) (hJ3_7_8 (gb155) _ ⟨hHeld, (by (with_reducible repeat (first | refine bN ?_ _ | refine bD ?_ | refine bL ?_ _)); exact BK135.out), (by (with_reducible repeat (first | refine bN ?_ _ | refine bD ?_ | refine bL ?_ _)); exact BK136.out), (by (with_reducible repeat (first | refine bN ?_ _ | refine bD ?_ | refine bL ?_ _)); exact BK144.out), (by (with_reducible repeat (first | refine bN ?_ _ | refine bD ?_ | refine bL ?_ _)); exact BK145.out), (by (with_reducible repeat (first | refine bN ?_ _ | refine bD ?_ | refine bL ?_ _)); exact BK155.out), GW155.out, GE155.out, NB135_155.out, NB155_135.out, NB136_155.out, NB155_136.out, NB144_155.out, NB155_144.out, NB145_155.out, NB155_145.out, (by repeat (first | (with_reducible first | exact HB.out | apply below_alloc | apply pN | apply dI | refine below_set ?_ GE135.out | refine below_set ?_ GE136.out | refine below_set ?_ GE144.out | refine below_set ?_ GE145.out | refine below_set ?_ GE155.out) | exact HB.out))⟩)
       ·skip
        refine box_step ?hg (N := 9) ?hd (cs := #[.int .u64 0, .int .u64 0, .int .u64 0, .int .u64 0]) (t := 26) ?hr ?_; (case hd => rfl); (case hg => rfl); (case hr => first | (go_simp; done) | (go_simp; rfl))
        intro gb156 hg w164 hbox hb
        have n0_ := Aside0.mk (bB (g := gb135) (o := .cells #[.int .u64 a0_0, .int .u64 a0_1, .int .u64 a0_2, .int .u64 a0_3] 26 (0, 0)) (by (with_reducible repeat (first | refine bN ?_ _ | refine bD ?_ | refine bL ?_ _)); exact BK135.out) hb)
        have n1_ := Aside0.mk (bB (g := gb136) (o := .cells #[.int .u64 a1_0, .int .u64 a1_1] 24 (0, 0)) (by (with_reducible repeat (first | refine bN ?_ _ | refine bD ?_ | refine bL ?_ _)); exact BK136.out) hb)
        have n2_ := Aside0.mk (bB (g := gb144) (o := .cells #[.int .u64 t137, .int .u64 t138, .int .u64 t139, .int .u64 t140] 26 (0, 0)) (by (with_reducible repeat (first | refine bN ?_ _ | refine bD ?_ | refine bL ?_ _)); exact BK144.out) hb)
        have n3_ := Aside0.mk (bB (g := gb145) (o := .cells #[.int .u64 t141, .int .u64 t142] 24 (0, 0)) (by (with_reducible repeat (first | refine bN ?_ _ | refine bD ?_ | refine bL ?_ _)); exact BK145.out) hb)
        have n4_ := Aside0.mk (below_step (by repeat (first | (with_reducible first | exact HB.out | apply below_alloc | apply pN | apply dI | refine below_set ?_ GE135.out | refine below_set ?_ GE136.out | refine below_set ?_ GE144.out | refine below_set ?_ GE145.out) | exact HB.out)) hb)
        have n5_ := Aside0.mk (hbox)
        have n6_ := Aside0.mk ((by rw [hg]; exact (below_size (by repeat (first | (with_reducible first | exact HB.out | apply below_alloc | apply pN | apply dI | refine below_set ?_ GE135.out | refine below_set ?_ GE136.out | refine below_set ?_ GE144.out | refine below_set ?_ GE145.out) | exact HB.out))) : w.heap.size ≤ gb156))
        have n7_ := Aside0.mk ((by rw [hg]; exact (below_size (by repeat (first | (with_reducible first | exact HB.out | apply below_alloc | apply pN | apply dI | refine below_set ?_ GE135.out | refine below_set ?_ GE136.out | refine below_set ?_ GE144.out | refine below_set ?_ GE145.out) | exact HB.out))) : w.heap.size ≤ gb156))
        have n8_ := Aside0.mk ((by rw [hg]; exact Nat.ne_of_lt (blk_lt (g := gb135) (o := .cells #[.int .u64 a0_0, .int .u64 a0_1, .int .u64 a0_2, .int .u64 a0_3] 26 (0, 0)) (by (with_reducible repeat (first | refine bN ?_ _ | refine bD ?_ | refine bL ?_ _)); exact BK135.out)) : gb135 ≠ gb156))
        have n9_ := Aside0.mk ((by rw [hg]; exact Nat.ne_of_gt (blk_lt (g := gb135) (o := .cells #[.int .u64 a0_0, .int .u64 a0_1, .int .u64 a0_2, .int .u64 a0_3] 26 (0, 0)) (by (with_reducible repeat (first | refine bN ?_ _ | refine bD ?_ | refine bL ?_ _)); exact BK135.out)) : gb156 ≠ gb135))
        have n10_ := Aside0.mk ((by rw [hg]; exact Nat.ne_of_lt (blk_lt (g := gb136) (o := .cells #[.int .u64 a1_0, .int .u64 a1_1] 24 (0, 0)) (by (with_reducible repeat (first | refine bN ?_ _ | refine bD ?_ | refine bL ?_ _)); exact BK136.out)) : gb136 ≠ gb156))
        have n11_ := Aside0.mk ((by rw [hg]; exact Nat.ne_of_gt (blk_lt (g := gb136) (o := .cells #[.int .u64 a1_0, .int .u64 a1_1] 24 (0, 0)) (by (with_reducible repeat (first | refine bN ?_ _ | refine bD ?_ | refine bL ?_ _)); exact BK136.out)) : gb156 ≠ gb136))
        have n12_ := Aside0.mk ((by rw [hg]; exact Nat.ne_of_lt (blk_lt (g := gb144) (o := .cells #[.int .u64 t137, .int .u64 t138, .int .u64 t139, .int .u64 t140] 26 (0, 0)) (by (with_reducible repeat (first | refine bN ?_ _ | refine bD ?_ | refine bL ?_ _)); exact BK144.out)) : gb144 ≠ gb156))
        have n13_ := Aside0.mk ((by rw [hg]; exact Nat.ne_of_gt (blk_lt (g := gb144) (o := .cells #[.int .u64 t137, .int .u64 t138, .int .u64 t139, .int .u64 t140] 26 (0, 0)) (by (with_reducible repeat (first | refine bN ?_ _ | refine bD ?_ | refine bL ?_ _)); exact BK144.out)) : gb156 ≠ gb144))
        have n14_ := Aside0.mk ((by rw [hg]; exact Nat.ne_of_lt (blk_lt (g := gb145) (o := .cells #[.int .u64 t141, .int .u64 t142] 24 (0, 0)) (by (with_reducible repeat (first | refine bN ?_ _ | refine bD ?_ | refine bL ?_ _)); exact BK145.out)) : gb145 ≠ gb156))
        have n15_ := Aside0.mk ((by rw [hg]; exact Nat.ne_of_gt (blk_lt (g := gb145) (o := .cells #[.int .u64 t141, .int .u64 t142] 24 (0, 0)) (by (with_reducible repeat (first | refine bN ?_ _ | refine bD ?_ | refine bL ?_ _)); exact BK145.out)) : gb156 ≠ gb145))
        clear BK135
        clear BK136
        clear BK144
        clear BK145
        clear HB
        have BK135 := n0_
        have BK136 := n1_
        have BK144 := n2_
        have BK145 := n3_
        have HB := n4_
        have BK156 := n5_
        have GW156 := n6_
        have GE156 := n7_
        have NB135_156 := n8_
        have NB156_135 := n9_
        have NB136_156 := n10_
        have NB156_136 := n11_
        have NB144_156 := n12_
        have NB156_144 := n13_
        have NB145_156 := n14_
        have NB156_145 := n15_
        clear n0_ n1_ n2_ n3_ n4_ n5_ n6_ n7_ n8_ n9_ n10_ n11_ n12_ n13_ n14_ n15_
        clear hb hbox hg
        refine hK.out _ _ ⟨(bC BK144.out 0).trans rfl, (bC BK144.out 1).trans rfl, (bC BK144.out 2).trans rfl, (bC BK144.out 3).trans rfl, (bC BK136.out 0).trans rfl, (bC BK136.out 1).trans rfl⟩ (fun hHeld => ?_)
        clear hK K
        refine norm_ (a' := ?_) ?_ ?_
        rotate_left
        ·show Act.put _ (some 9) _ = _
         simp only [Act.put, List.setIfInBounds_toArray, List.set_cons_zero, List.set_cons_succ, i64_w, i32_w]
         rfl
        exact norm_ (by first | (simp only [putAll, Act.put, List.setIfInBounds_toArray, List.set_cons_zero, List.set_cons_succ]; done) | (simp only [putAll, Act.put, List.setIfInBounds_toArray, List.set_cons_zero, List.set_cons_succ]; rfl)) (hJ3_7_9 (gb156) _ ⟨hHeld, (by (with_reducible repeat (first | refine bN ?_ _ | refine bD ?_ | refine bL ?_ _)); exact BK135.out), (by (with_reducible repeat (first | refine bN ?_ _ | refine bD ?_ | refine bL ?_ _)); exact BK136.out), (by (with_reducible repeat (first | refine bN ?_ _ | refine bD ?_ | refine bL ?_ _)); exact BK144.out), (by (with_reducible repeat (first | refine bN ?_ _ | refine bD ?_ | refine bL ?_ _)); exact BK145.out), (by (with_reducible repeat (first | refine bN ?_ _ | refine bD ?_ | refine bL ?_ _)); exact BK156.out), GW156.out, GE156.out, NB135_156.out, NB156_135.out, NB136_156.out, NB156_136.out, NB144_156.out, NB156_144.out, NB145_156.out, NB156_145.out, (by repeat (first | (with_reducible first | exact HB.out | apply below_alloc | apply pN | apply dI | refine below_set ?_ GE135.out | refine below_set ?_ GE136.out | refine below_set ?_ GE144.out | refine below_set ?_ GE145.out | refine below_set ?_ GE156.out) | exact HB.out))⟩)
     ·skip
      rintro ⟨gb155, gb156⟩ w164 ⟨hS_, h0_, h1_, h2_, h3_, h4_, h5_, h6_, h7_, h8_, h9_, h10_, h11_, h12_, h13_, h14_, h15_, h16_, h17_, h18_, h19_, h20_, h21_, h22_, h23_, h24_, h25_, h26_, h27_, h28_⟩
      have n0_ : Aside0 (w164.heap[gb135]? = some (.cells #[.int .u64 a0_0, .int .u64 a0_1, .int .u64 a0_2, .int .u64 a0_3] 26 (0, 0))) := ⟨h0_⟩
      have n1_ : Aside0 (w164.heap[gb136]? = some (.cells #[.int .u64 a1_0, .int .u64 a1_1] 24 (0, 0))) := ⟨h1_⟩
      have n2_ : Aside0 (w164.heap[gb144]? = some (.cells #[.int .u64 t137, .int .u64 t138, .int .u64 t139, .int .u64 t140] 26 (0, 0))) := ⟨h2_⟩
      have n3_ : Aside0 (w164.heap[gb145]? = some (.cells #[.int .u64 t141, .int .u64 t142] 24 (0, 0))) := ⟨h3_⟩
      have n4_ : Aside0 (w164.heap[gb155]? = some (.cells #[.int .u64 0, .int .u64 0, .int .u64 0, .int .u64 0] 26 (0, 0))) := ⟨h4_⟩
      have n5_ : Aside0 (w164.heap[gb156]? = some (.cells #[.int .u64 0, .int .u64 0, .int .u64 0, .int .u64 0] 26 (0, 0))) := ⟨h5_⟩
      have n6_ : Aside0 (w.heap.size ≤ gb155) := ⟨h6_⟩
      have n7_ : Aside0 (w.heap.size ≤ gb155) := ⟨h7_⟩
      have n8_ : Aside0 (gb135 ≠ gb155) := ⟨h8_⟩
      have n9_ : Aside0 (gb155 ≠ gb135) := ⟨h9_⟩
      have n10_ : Aside0 (gb136 ≠ gb155) := ⟨h10_⟩
      have n11_ : Aside0 (gb155 ≠ gb136) := ⟨h11_⟩
      have n12_ : Aside0 (gb144 ≠ gb155) := ⟨h12_⟩
      have n13_ : Aside0 (gb155 ≠ gb144) := ⟨h13_⟩
      have n14_ : Aside0 (gb145 ≠ gb155) := ⟨h14_⟩
      have n15_ : Aside0 (gb155 ≠ gb145) := ⟨h15_⟩
      have n16_ : Aside0 (gb156 ≠ gb155) := ⟨h16_⟩
      have n17_ : Aside0 (gb155 ≠ gb156) := ⟨h17_⟩
      have n18_ : Aside0 (w.heap.size ≤ gb156) := ⟨h18_⟩
      have n19_ : Aside0 (w.heap.size ≤ gb156) := ⟨h19_⟩
      have n20_ : Aside0 (gb135 ≠ gb156) := ⟨h20_⟩
      have n21_ : Aside0 (gb156 ≠ gb135) := ⟨h21_⟩
      have n22_ : Aside0 (gb136 ≠ gb156) := ⟨h22_⟩
      have n23_ : Aside0 (gb156 ≠ gb136) := ⟨h23_⟩
      have n24_ : Aside0 (gb144 ≠ gb156) := ⟨h24_⟩
      have n25_ : Aside0 (gb156 ≠ gb144) := ⟨h25_⟩
      have n26_ : Aside0 (gb145 ≠ gb156) := ⟨h26_⟩
      have n27_ : Aside0 (gb156 ≠ gb145) := ⟨h27_⟩
      have n28_ : Aside0 (Below w.heap.size w w164) := ⟨h28_⟩
      clear BK135
      clear BK136
      clear BK144
      clear BK145
      clear HB
      clear h0_ h1_ h2_ h3_ h4_ h5_ h6_ h7_ h8_ h9_ h10_ h11_ h12_ h13_ h14_ h15_ h16_ h17_ h18_ h19_ h20_ h21_ h22_ h23_ h24_ h25_ h26_ h27_ h28_
      have BK135 := n0_
      have BK136 := n1_
      have BK144 := n2_
      have BK145 := n3_
      have BK155 := n4_
      have BK156 := n5_
      have GW155 := n6_
      have GE155 := n7_
      have NB135_155 := n8_
      have NB155_135 := n9_
      have NB136_155 := n10_
      have NB155_136 := n11_
      have NB144_155 := n12_
      have NB155_144 := n13_
      have NB145_155 := n14_
      have NB155_145 := n15_
      have NB156_155 := n16_
      have NB155_156 := n17_
      have GW156 := n18_
      have GE156 := n19_
      have NB135_156 := n20_
      have NB156_135 := n21_
      have NB136_156 := n22_
      have NB156_136 := n23_
      have NB144_156 := n24_
      have NB156_144 := n25_
      have NB145_156 := n26_
      have NB156_145 := n27_
      have HB := n28_
      clear n0_ n1_ n2_ n3_ n4_ n5_ n6_ n7_ n8_ n9_ n10_ n11_ n12_ n13_ n14_ n15_ n16_ n17_ n18_ n19_ n20_ n21_ n22_ n23_ n24_ n25_ n26_ n27_ n28_
      have hHeld : w164.cell? ⟨gb144, 0, none⟩ = some (.int .u64 t137) ∧ w164.cell? ⟨gb144, 1, none⟩ = some (.int .u64 t138) ∧ w164.cell? ⟨gb144, 2, none⟩ = some (.int .u64 t139) ∧ w164.cell? ⟨gb144, 3, none⟩ = some (.int .u64 t140) ∧ w164.cell? ⟨gb136, 0, none⟩ = some (.int .u64 a1_0) ∧ w164.cell? ⟨gb136, 1, none⟩ = some (.int .u64 a1_1) := hS_
      refine norm_ (a' := ?_) ?_ ?_
      rotate_left
      ·simp only [putAll, Act.put, List.setIfInBounds_toArray, List.set_cons_zero, List.set_cons_succ]
       rfl
      refine one_ (i := 7) (N := some 50) (bA 12 1023) rfl rfl (one_of HT_.out (by kernel_rfl)) (by decide) (fun K hK => ?_)
      refine goes_ Try.func14 (by kernel_rfl) rfl #[.agg #[.int .u64 t137, .int .u64 t138], .agg #[.int .u64 a1_0, .int .u64 a1_1]] (by rfl) rfl rfl (by (try simp only [List.map_toArray, List.map_cons, List.map_nil]); first | done | rfl | (simp only [List.length_drop, List.length_take]; rfl)) ?_
      with_reducible refine (limb_Mul.calls t137 t138 a1_0 a1_1 t151 t152 t153 t154 _ A27.out).mono ?_
      rintro e w165 ⟨rfl, hb⟩
      refine ⟨_, rfl, ?_⟩
      have n0_ := Aside0.mk (bB (g := gb135) (o := .cells #[.int .u64 a0_0, .int .u64 a0_1, .int .u64 a0_2, .int .u64 a0_3] 26 (0, 0)) (by (with_reducible repeat (first | refine bN ?_ _ | refine bD ?_ | refine bL ?_ _)); exact BK135.out) hb)
      have n1_ := Aside0.mk (bB (g := gb136) (o := .cells #[.int .u64 a1_0, .int .u64 a1_1] 24 (0, 0)) (by (with_reducible repeat (first | refine bN ?_ _ | refine bD ?_ | refine bL ?_ _)); exact BK136.out) hb)
      have n2_ := Aside0.mk (bB (g := gb144) (o := .cells #[.int .u64 t137, .int .u64 t138, .int .u64 t139, .int .u64 t140] 26 (0, 0)) (by (with_reducible repeat (first | refine bN ?_ _ | refine bD ?_ | refine bL ?_ _)); exact BK144.out) hb)
      have n3_ := Aside0.mk (bB (g := gb145) (o := .cells #[.int .u64 t141, .int .u64 t142] 24 (0, 0)) (by (with_reducible repeat (first | refine bN ?_ _ | refine bD ?_ | refine bL ?_ _)); exact BK145.out) hb)
      have n4_ := Aside0.mk (bB (g := gb155) (o := .cells #[.int .u64 0, .int .u64 0, .int .u64 0, .int .u64 0] 26 (0, 0)) (by (with_reducible repeat (first | refine bN ?_ _ | refine bD ?_ | refine bL ?_ _)); exact BK155.out) hb)
      have n5_ := Aside0.mk (bB (g := gb156) (o := .cells #[.int .u64 0, .int .u64 0, .int .u64 0, .int .u64 0] 26 (0, 0)) (by (with_reducible repeat (first | refine bN ?_ _ | refine bD ?_ | refine bL ?_ _)); exact BK156.out) hb)
      have n6_ := Aside0.mk (below_step (by repeat (first | (with_reducible first | exact HB.out | apply below_alloc | apply pN | apply dI | refine below_set ?_ GE135.out | refine below_set ?_ GE136.out | refine below_set ?_ GE144.out | refine below_set ?_ GE145.out | refine below_set ?_ GE155.out | refine below_set ?_ GE156.out) | exact HB.out)) hb)
      clear BK135
      clear BK136
      clear BK144
      clear BK145
      clear BK155
      clear BK156
      clear HB
      have BK135 := n0_
      have BK136 := n1_
      have BK144 := n2_
      have BK145 := n3_
      have BK155 := n4_
      have BK156 := n5_
      have HB := n6_
      clear n0_ n1_ n2_ n3_ n4_ n5_ n6_
      (try clear hb)
      (try clear hb2)
      (try clear hk)
      (try clear hi)
      refine hK.out _ _ ⟨(bC BK144.out 0).trans rfl, (bC BK144.out 1).trans rfl, (bC BK144.out 2).trans rfl, (bC BK144.out 3).trans rfl, (bC BK136.out 0).trans rfl, (bC BK136.out 1).trans rfl⟩ (fun hHeld => ?_)
      clear hK K
      refine norm_ (a' := ?_) ?_ ?_
      rotate_left
      ·show Act.put _ (some 50) _ = _
       simp only [Act.put, List.setIfInBounds_toArray, List.set_cons_zero, List.set_cons_succ, i64_w, i32_w]
       rfl
      exact norm_ (by first | (simp only [putAll, Act.put, List.setIfInBounds_toArray, List.set_cons_zero, List.set_cons_succ]; done) | (simp only [putAll, Act.put, List.setIfInBounds_toArray, List.set_cons_zero, List.set_cons_succ]; rfl)) (hJ3_7_8_9 (gb155, gb156) _ ⟨hHeld, (by (with_reducible repeat (first | refine bN ?_ _ | refine bD ?_ | refine bL ?_ _)); exact BK135.out), (by (with_reducible repeat (first | refine bN ?_ _ | refine bD ?_ | refine bL ?_ _)); exact BK136.out), (by (with_reducible repeat (first | refine bN ?_ _ | refine bD ?_ | refine bL ?_ _)); exact BK144.out), (by (with_reducible repeat (first | refine bN ?_ _ | refine bD ?_ | refine bL ?_ _)); exact BK145.out), (by (with_reducible repeat (first | refine bN ?_ _ | refine bD ?_ | refine bL ?_ _)); exact BK155.out), (by (with_reducible repeat (first | refine bN ?_ _ | refine bD ?_ | refine bL ?_ _)); exact BK156.out), GW155.out, GE155.out, NB135_155.out, NB155_135.out, NB136_155.out, NB155_136.out, NB144_155.out, NB155_144.out, NB145_155.out, NB155_145.out, NB156_155.out, NB155_156.out, GW156.out, GE156.out, NB135_156.out, NB156_135.out, NB136_156.out, NB156_136.out, NB144_156.out, NB156_144.out, NB145_156.out, NB156_145.out, (by repeat (first | (with_reducible first | exact HB.out | apply below_alloc | apply pN | apply dI | refine below_set ?_ GE135.out | refine below_set ?_ GE136.out | refine below_set ?_ GE144.out | refine below_set ?_ GE145.out | refine below_set ?_ GE155.out | refine below_set ?_ GE156.out) | exact HB.out))⟩)
    ·skip
     rintro gb156 w164 ⟨hS_, h0_, h1_, h2_, h3_, h4_, h5_, h6_, h7_, h8_, h9_, h10_, h11_, h12_, h13_, h14_, h15_⟩
     have n0_ : Aside0 (w164.heap[gb135]? = some (.cells #[.int .u64 a0_0, .int .u64 a0_1, .int .u64 a0_2, .int .u64 a0_3] 26 (0, 0))) := ⟨h0_⟩
     have n1_ : Aside0 (w164.heap[gb136]? = some (.cells #[.int .u64 a1_0, .int .u64 a1_1] 24 (0, 0))) := ⟨h1_⟩
     have n2_ : Aside0 (w164.heap[gb144]? = some (.cells #[.int .u64 t137, .int .u64 t138, .int .u64 t139, .int .u64 t140] 26 (0, 0))) := ⟨h2_⟩
     have n3_ : Aside0 (w164.heap[gb145]? = some (.cells #[.int .u64 t141, .int .u64 t142] 24 (0, 0))) := ⟨h3_⟩
     have n4_ : Aside0 (w164.heap[gb156]? = some (.cells #[.int .u64 0, .int .u64 0, .int .u64 0, .int .u64 0] 26 (0, 0))) := ⟨h4_⟩
     have n5_ : Aside0 (w.heap.size ≤ gb156) := ⟨h5_⟩
     have n6_ : Aside0 (w.heap.size ≤ gb156) := ⟨h6_⟩
     have n7_ : Aside0 (gb135 ≠ gb156) := ⟨h7_⟩
     have n8_ : Aside0 (gb156 ≠ gb135) := ⟨h8_⟩
     have n9_ : Aside0 (gb136 ≠ gb156) := ⟨h9_⟩
     have n10_ : Aside0 (gb156 ≠ gb136) := ⟨h10_⟩
     have n11_ : Aside0 (gb144 ≠ gb156) := ⟨h11_⟩
     have n12_ : Aside0 (gb156 ≠ gb144) := ⟨h12_⟩
     have n13_ : Aside0 (gb145 ≠ gb156) := ⟨h13_⟩
     have n14_ : Aside0 (gb156 ≠ gb145) := ⟨h14_⟩
     have n15_ : Aside0 (Below w.heap.size w w164) := ⟨h15_⟩
     clear BK135
     clear BK136
     clear BK144
     clear BK145
     clear HB
     clear h0_ h1_ h2_ h3_ h4_ h5_ h6_ h7_ h8_ h9_ h10_ h11_ h12_ h13_ h14_ h15_
     have BK135 := n0_
     have BK136 := n1_
     have BK144 := n2_
     have BK145 := n3_
     have BK156 := n4_
     have GW156 := n5_
     have GE156 := n6_
     have NB135_156 := n7_
     have NB156_135 := n8_
     have NB136_156 := n9_
     have NB156_136 := n10_
     have NB144_156 := n11_
     have NB156_144 := n12_
     have NB145_156 := n13_
     have NB156_145 := n14_
     have HB := n15_
     clear n0_ n1_ n2_ n3_ n4_ n5_ n6_ n7_ n8_ n9_ n10_ n11_ n12_ n13_ n14_ n15_
     have hHeld : w164.cell? ⟨gb144, 0, none⟩ = some (.int .u64 t137) ∧ w164.cell? ⟨gb144, 1, none⟩ = some (.int .u64 t138) ∧ w164.cell? ⟨gb144, 2, none⟩ = some (.int .u64 t139) ∧ w164.cell? ⟨gb144, 3, none⟩ = some (.int .u64 t140) ∧ w164.cell? ⟨gb136, 0, none⟩ = some (.int .u64 a1_0) ∧ w164.cell? ⟨gb136, 1, none⟩ = some (.int .u64 a1_1) := hS_
     refine norm_ (a' := ?_) ?_ ?_
     rotate_left
     ·simp only [putAll, Act.put, List.setIfInBounds_toArray, List.set_cons_zero, List.set_cons_succ]
      rfl
     refine one_ (i := 8) (N := some 8) (bA 12 1023) rfl rfl (one_of HT_.out (by kernel_rfl)) (by decide) (fun K hK => ?_)
     refine box_step ?hg (N := 8) ?hd (cs := #[.int .u64 0, .int .u64 0, .int .u64 0, .int .u64 0]) (t := 26) ?hr ?_; (case hd => rfl); (case hg => rfl); (case hr => first | (go_simp; done) | (go_simp; rfl))
     intro gb155 hg w165 hbox hb
     have n0_ := Aside0.mk (bB (g := gb135) (o := .cells #[.int .u64 a0_0, .int .u64 a0_1, .int .u64 a0_2, .int .u64 a0_3] 26 (0, 0)) (by (with_reducible repeat (first | refine bN ?_ _ | refine bD ?_ | refine bL ?_ _)); exact BK135.out) hb)
     have n1_ := Aside0.mk (bB (g := gb136) (o := .cells #[.int .u64 a1_0, .int .u64 a1_1] 24 (0, 0)) (by (with_reducible repeat (first | refine bN ?_ _ | refine bD ?_ | refine bL ?_ _)); exact BK136.out) hb)
     have n2_ := Aside0.mk (bB (g := gb144) (o := .cells #[.int .u64 t137, .int .u64 t138, .int .u64 t139, .int .u64 t140] 26 (0, 0)) (by (with_reducible repeat (first | refine bN ?_ _ | refine bD ?_ | refine bL ?_ _)); exact BK144.out) hb)
     have n3_ := Aside0.mk (bB (g := gb145) (o := .cells #[.int .u64 t141, .int .u64 t142] 24 (0, 0)) (by (with_reducible repeat (first | refine bN ?_ _ | refine bD ?_ | refine bL ?_ _)); exact BK145.out) hb)
     have n4_ := Aside0.mk (bB (g := gb156) (o := .cells #[.int .u64 0, .int .u64 0, .int .u64 0, .int .u64 0] 26 (0, 0)) (by (with_reducible repeat (first | refine bN ?_ _ | refine bD ?_ | refine bL ?_ _)); exact BK156.out) hb)
     have n5_ := Aside0.mk (below_step (by repeat (first | (with_reducible first | exact HB.out | apply below_alloc | apply pN | apply dI | refine below_set ?_ GE135.out | refine below_set ?_ GE136.out | refine below_set ?_ GE144.out | refine below_set ?_ GE145.out | refine below_set ?_ GE156.out) | exact HB.out)) hb)
     have n6_ := Aside0.mk (hbox)
     have n7_ := Aside0.mk ((by rw [hg]; exact (below_size (by repeat (first | (with_reducible first | exact HB.out | apply below_alloc | apply pN | apply dI | refine below_set ?_ GE135.out | refine below_set ?_ GE136.out | refine below_set ?_ GE144.out | refine below_set ?_ GE145.out | refine below_set ?_ GE156.out) | exact HB.out))) : w.heap.size ≤ gb155))
     have n8_ := Aside0.mk ((by rw [hg]; exact (below_size (by repeat (first | (with_reducible first | exact HB.out | apply below_alloc | apply pN | apply dI | refine below_set ?_ GE135.out | refine below_set ?_ GE136.out | refine below_set ?_ GE144.out | refine below_set ?_ GE145.out | refine below_set ?_ GE156.out) | exact HB.out))) : w.heap.size ≤ gb155))
     have n9_ := Aside0.mk ((by rw [hg]; exact Nat.ne_of_lt (blk_lt (g := gb135) (o := .cells #[.int .u64 a0_0, .int .u64 a0_1, .int .u64 a0_2, .int .u64 a0_3] 26 (0, 0)) (by (with_reducible repeat (first | refine bN ?_ _ | refine bD ?_ | refine bL ?_ _)); exact BK135.out)) : gb135 ≠ gb155))
     have n10_ := Aside0.mk ((by rw [hg]; exact Nat.ne_of_gt (blk_lt (g := gb135) (o := .cells #[.int .u64 a0_0, .int .u64 a0_1, .int .u64 a0_2, .int .u64 a0_3] 26 (0, 0)) (by (with_reducible repeat (first | refine bN ?_ _ | refine bD ?_ | refine bL ?_ _)); exact BK135.out)) : gb155 ≠ gb135))
     have n11_ := Aside0.mk ((by rw [hg]; exact Nat.ne_of_lt (blk_lt (g := gb136) (o := .cells #[.int .u64 a1_0, .int .u64 a1_1] 24 (0, 0)) (by (with_reducible repeat (first | refine bN ?_ _ | refine bD ?_ | refine bL ?_ _)); exact BK136.out)) : gb136 ≠ gb155))
     have n12_ := Aside0.mk ((by rw [hg]; exact Nat.ne_of_gt (blk_lt (g := gb136) (o := .cells #[.int .u64 a1_0, .int .u64 a1_1] 24 (0, 0)) (by (with_reducible repeat (first | refine bN ?_ _ | refine bD ?_ | refine bL ?_ _)); exact BK136.out)) : gb155 ≠ gb136))
     have n13_ := Aside0.mk ((by rw [hg]; exact Nat.ne_of_lt (blk_lt (g := gb144) (o := .cells #[.int .u64 t137, .int .u64 t138, .int .u64 t139, .int .u64 t140] 26 (0, 0)) (by (with_reducible repeat (first | refine bN ?_ _ | refine bD ?_ | refine bL ?_ _)); exact BK144.out)) : gb144 ≠ gb155))
     have n14_ := Aside0.mk ((by rw [hg]; exact Nat.ne_of_gt (blk_lt (g := gb144) (o := .cells #[.int .u64 t137, .int .u64 t138, .int .u64 t139, .int .u64 t140] 26 (0, 0)) (by (with_reducible repeat (first | refine bN ?_ _ | refine bD ?_ | refine bL ?_ _)); exact BK144.out)) : gb155 ≠ gb144))
     have n15_ := Aside0.mk ((by rw [hg]; exact Nat.ne_of_lt (blk_lt (g := gb145) (o := .cells #[.int .u64 t141, .int .u64 t142] 24 (0, 0)) (by (with_reducible repeat (first | refine bN ?_ _ | refine bD ?_ | refine bL ?_ _)); exact BK145.out)) : gb145 ≠ gb155))
     have n16_ := Aside0.mk ((by rw [hg]; exact Nat.ne_of_gt (blk_lt (g := gb145) (o := .cells #[.int .u64 t141, .int .u64 t142] 24 (0, 0)) (by (with_reducible repeat (first | refine bN ?_ _ | refine bD ?_ | refine bL ?_ _)); exact BK145.out)) : gb155 ≠ gb145))
     have n17_ := Aside0.mk ((by rw [hg]; exact Nat.ne_of_lt (blk_lt (g := gb156) (o := .cells #[.int .u64 0, .int .u64 0, .int .u64 0, .int .u64 0] 26 (0, 0)) (by (with_reducible repeat (first | refine bN ?_ _ | refine bD ?_ | refine bL ?_ _)); exact BK156.out)) : gb156 ≠ gb155))
     have n18_ := Aside0.mk ((by rw [hg]; exact Nat.ne_of_gt (blk_lt (g := gb156) (o := .cells #[.int .u64 0, .int .u64 0, .int .u64 0, .int .u64 0] 26 (0, 0)) (by (with_reducible repeat (first | refine bN ?_ _ | refine bD ?_ | refine bL ?_ _)); exact BK156.out)) : gb155 ≠ gb156))
     clear BK135
     clear BK136
     clear BK144
     clear BK145
     clear BK156
     clear HB
     have BK135 := n0_
     have BK136 := n1_
     have BK144 := n2_
     have BK145 := n3_
     have BK156 := n4_
     have HB := n5_
     have BK155 := n6_
     have GW155 := n7_
     have GE155 := n8_
     have NB135_155 := n9_
     have NB155_135 := n10_
     have NB136_155 := n11_
     have NB155_136 := n12_
     have NB144_155 := n13_
     have NB155_144 := n14_
     have NB145_155 := n15_
     have NB155_145 := n16_
     have NB156_155 := n17_
     have NB155_156 := n18_
     clear n0_ n1_ n2_ n3_ n4_ n5_ n6_ n7_ n8_ n9_ n10_ n11_ n12_ n13_ n14_ n15_ n16_ n17_ n18_
     clear hb hbox hg
     refine hK.out _ _ ⟨(bC BK144.out 0).trans rfl, (bC BK144.out 1).trans rfl, (bC BK144.out 2).trans rfl, (bC BK144.out 3).trans rfl, (bC BK136.out 0).trans rfl, (bC BK136.out 1).trans rfl⟩ (fun hHeld => ?_)
     clear hK K
     refine norm_ (a' := ?_) ?_ ?_
     rotate_left
     ·show Act.put _ (some 8) _ = _
      simp only [Act.put, List.setIfInBounds_toArray, List.set_cons_zero, List.set_cons_succ, i64_w, i32_w]
      rfl
     exact norm_ (by first | (simp only [putAll, Act.put, List.setIfInBounds_toArray, List.set_cons_zero, List.set_cons_succ]; done) | (simp only [putAll, Act.put, List.setIfInBounds_toArray, List.set_cons_zero, List.set_cons_succ]; rfl)) (hJ3_7_8_9 (gb155, gb156) _ ⟨hHeld, (by (with_reducible repeat (first | refine bN ?_ _ | refine bD ?_ | refine bL ?_ _)); exact BK135.out), (by (with_reducible repeat (first | refine bN ?_ _ | refine bD ?_ | refine bL ?_ _)); exact BK136.out), (by (with_reducible repeat (first | refine bN ?_ _ | refine bD ?_ | refine bL ?_ _)); exact BK144.out), (by (with_reducible repeat (first | refine bN ?_ _ | refine bD ?_ | refine bL ?_ _)); exact BK145.out), (by (with_reducible repeat (first | refine bN ?_ _ | refine bD ?_ | refine bL ?_ _)); exact BK155.out), (by (with_reducible repeat (first | refine bN ?_ _ | refine bD ?_ | refine bL ?_ _)); exact BK156.out), GW155.out, GE155.out, NB135_155.out, NB155_135.out, NB136_155.out, NB155_136.out, NB144_155.out, NB155_144.out, NB145_155.out, NB155_145.out, NB156_155.out, NB155_156.out, GW156.out, GE156.out, NB135_156.out, NB156_135.out, NB136_156.out, NB156_136.out, NB144_156.out, NB156_144.out, NB145_156.out, NB156_145.out, (by repeat (first | (with_reducible first | exact HB.out | apply below_alloc | apply pN | apply dI | refine below_set ?_ GE135.out | refine below_set ?_ GE136.out | refine below_set ?_ GE144.out | refine below_set ?_ GE145.out | refine below_set ?_ GE156.out | refine below_set ?_ GE155.out) | exact HB.out))⟩)
   ·skip
    rintro gb155 w164 ⟨hS_, h0_, h1_, h2_, h3_, h4_, h5_, h6_, h7_, h8_, h9_, h10_, h11_, h12_, h13_, h14_, h15_⟩
    have n0_ : Aside0 (w164.heap[gb135]? = some (.cells #[.int .u64 a0_0, .int .u64 a0_1, .int .u64 a0_2, .int .u64 a0_3] 26 (0, 0))) := ⟨h0_⟩
    have n1_ : Aside0 (w164.heap[gb136]? = some (.cells #[.int .u64 a1_0, .int .u64 a1_1] 24 (0, 0))) := ⟨h1_⟩
    have n2_ : Aside0 (w164.heap[gb144]? = some (.cells #[.int .u64 t137, .int .u64 t138, .int .u64 t139, .int .u64 t140] 26 (0, 0))) := ⟨h2_⟩
    have n3_ : Aside0 (w164.heap[gb145]? = some (.cells #[.int .u64 t141, .int .u64 t142] 24 (0, 0))) := ⟨h3_⟩
    have n4_ : Aside0 (w164.heap[gb155]? = some (.cells #[.int .u64 0, .int .u64 0, .int .u64 0, .int .u64 0] 26 (0, 0))) := ⟨h4_⟩
    have n5_ : Aside0 (w.heap.size ≤ gb155) := ⟨h5_⟩
    have n6_ : Aside0 (w.heap.size ≤ gb155) := ⟨h6_⟩
    have n7_ : Aside0 (gb135 ≠ gb155) := ⟨h7_⟩
    have n8_ : Aside0 (gb155 ≠ gb135) := ⟨h8_⟩
    have n9_ : Aside0 (gb136 ≠ gb155) := ⟨h9_⟩
    have n10_ : Aside0 (gb155 ≠ gb136) := ⟨h10_⟩
    have n11_ : Aside0 (gb144 ≠ gb155) := ⟨h11_⟩
    have n12_ : Aside0 (gb155 ≠ gb144) := ⟨h12_⟩
    have n13_ : Aside0 (gb145 ≠ gb155) := ⟨h13_⟩
    have n14_ : Aside0 (gb155 ≠ gb145) := ⟨h14_⟩
    have n15_ : Aside0 (Below w.heap.size w w164) := ⟨h15_⟩
    clear BK135
    clear BK136
    clear BK144
    clear BK145
    clear HB
    clear h0_ h1_ h2_ h3_ h4_ h5_ h6_ h7_ h8_ h9_ h10_ h11_ h12_ h13_ h14_ h15_
    have BK135 := n0_
    have BK136 := n1_
    have BK144 := n2_
    have BK145 := n3_
    have BK155 := n4_
    have GW155 := n5_
    have GE155 := n6_
    have NB135_155 := n7_
    have NB155_135 := n8_
    have NB136_155 := n9_
    have NB155_136 := n10_
    have NB144_155 := n11_
    have NB155_144 := n12_
    have NB145_155 := n13_
    have NB155_145 := n14_
    have HB := n15_
    clear n0_ n1_ n2_ n3_ n4_ n5_ n6_ n7_ n8_ n9_ n10_ n11_ n12_ n13_ n14_ n15_
    have hHeld : w164.cell? ⟨gb144, 0, none⟩ = some (.int .u64 t137) ∧ w164.cell? ⟨gb144, 1, none⟩ = some (.int .u64 t138) ∧ w164.cell? ⟨gb144, 2, none⟩ = some (.int .u64 t139) ∧ w164.cell? ⟨gb144, 3, none⟩ = some (.int .u64 t140) ∧ w164.cell? ⟨gb136, 0, none⟩ = some (.int .u64 a1_0) ∧ w164.cell? ⟨gb136, 1, none⟩ = some (.int .u64 a1_1) := hS_
    refine norm_ (a' := ?_) ?_ ?_
    rotate_left
    ·simp only [putAll, Act.put, List.setIfInBounds_toArray, List.set_cons_zero, List.set_cons_succ]
     rfl
    refine one_ (i := 9) (N := some 9) (bA 12 1023) rfl rfl (one_of HT_.out (by kernel_rfl)) (by decide) (fun K hK => ?_)
    refine box_step ?hg (N := 9) ?hd (cs := #[.int .u64 0, .int .u64 0, .int .u64 0, .int .u64 0]) (t := 26) ?hr ?_; (case hd => rfl); (case hg => rfl); (case hr => first | (go_simp; done) | (go_simp; rfl))
    intro gb156 hg w165 hbox hb
    have n0_ := Aside0.mk (bB (g := gb135) (o := .cells #[.int .u64 a0_0, .int .u64 a0_1, .int .u64 a0_2, .int .u64 a0_3] 26 (0, 0)) (by (with_reducible repeat (first | refine bN ?_ _ | refine bD ?_ | refine bL ?_ _)); exact BK135.out) hb)
    have n1_ := Aside0.mk (bB (g := gb136) (o := .cells #[.int .u64 a1_0, .int .u64 a1_1] 24 (0, 0)) (by (with_reducible repeat (first | refine bN ?_ _ | refine bD ?_ | refine bL ?_ _)); exact BK136.out) hb)
    have n2_ := Aside0.mk (bB (g := gb144) (o := .cells #[.int .u64 t137, .int .u64 t138, .int .u64 t139, .int .u64 t140] 26 (0, 0)) (by (with_reducible repeat (first | refine bN ?_ _ | refine bD ?_ | refine bL ?_ _)); exact BK144.out) hb)
    have n3_ := Aside0.mk (bB (g := gb145) (o := .cells #[.int .u64 t141, .int .u64 t142] 24 (0, 0)) (by (with_reducible repeat (first | refine bN ?_ _ | refine bD ?_ | refine bL ?_ _)); exact BK145.out) hb)
    have n4_ := Aside0.mk (bB (g := gb155) (o := .cells #[.int .u64 0, .int .u64 0, .int .u64 0, .int .u64 0] 26 (0, 0)) (by (with_reducible repeat (first | refine bN ?_ _ | refine bD ?_ | refine bL ?_ _)); exact BK155.out) hb)
    have n5_ := Aside0.mk (below_step (by repeat (first | (with_reducible first | exact HB.out | apply below_alloc | apply pN | apply dI | refine below_set ?_ GE135.out | refine below_set ?_ GE136.out | refine below_set ?_ GE144.out | refine below_set ?_ GE145.out | refine below_set ?_ GE155.out) | exact HB.out)) hb)
    have n6_ := Aside0.mk (hbox)
    have n7_ := Aside0.mk ((by rw [hg]; exact (below_size (by repeat (first | (with_reducible first | exact HB.out | apply below_alloc | apply pN | apply dI | refine below_set ?_ GE135.out | refine below_set ?_ GE136.out | refine below_set ?_ GE144.out | refine below_set ?_ GE145.out | refine below_set ?_ GE155.out) | exact HB.out))) : w.heap.size ≤ gb156))
    have n8_ := Aside0.mk ((by rw [hg]; exact (below_size (by repeat (first | (with_reducible first | exact HB.out | apply below_alloc | apply pN | apply dI | refine below_set ?_ GE135.out | refine below_set ?_ GE136.out | refine below_set ?_ GE144.out | refine below_set ?_ GE145.out | refine below_set ?_ GE155.out) | exact HB.out))) : w.heap.size ≤ gb156))
    have n9_ := Aside0.mk ((by rw [hg]; exact Nat.ne_of_lt (blk_lt (g := gb135) (o := .cells #[.int .u64 a0_0, .int .u64 a0_1, .int .u64 a0_2, .int .u64 a0_3] 26 (0, 0)) (by (with_reducible repeat (first | refine bN ?_ _ | refine bD ?_ | refine bL ?_ _)); exact BK135.out)) : gb135 ≠ gb156))
    have n10_ := Aside0.mk ((by rw [hg]; exact Nat.ne_of_gt (blk_lt (g := gb135) (o := .cells #[.int .u64 a0_0, .int .u64 a0_1, .int .u64 a0_2, .int .u64 a0_3] 26 (0, 0)) (by (with_reducible repeat (first | refine bN ?_ _ | refine bD ?_ | refine bL ?_ _)); exact BK135.out)) : gb156 ≠ gb135))
    have n11_ := Aside0.mk ((by rw [hg]; exact Nat.ne_of_lt (blk_lt (g := gb136) (o := .cells #[.int .u64 a1_0, .int .u64 a1_1] 24 (0, 0)) (by (with_reducible repeat (first | refine bN ?_ _ | refine bD ?_ | refine bL ?_ _)); exact BK136.out)) : gb136 ≠ gb156))
    have n12_ := Aside0.mk ((by rw [hg]; exact Nat.ne_of_gt (blk_lt (g := gb136) (o := .cells #[.int .u64 a1_0, .int .u64 a1_1] 24 (0, 0)) (by (with_reducible repeat (first | refine bN ?_ _ | refine bD ?_ | refine bL ?_ _)); exact BK136.out)) : gb156 ≠ gb136))
    have n13_ := Aside0.mk ((by rw [hg]; exact Nat.ne_of_lt (blk_lt (g := gb144) (o := .cells #[.int .u64 t137, .int .u64 t138, .int .u64 t139, .int .u64 t140] 26 (0, 0)) (by (with_reducible repeat (first | refine bN ?_ _ | refine bD ?_ | refine bL ?_ _)); exact BK144.out)) : gb144 ≠ gb156))
    have n14_ := Aside0.mk ((by rw [hg]; exact Nat.ne_of_gt (blk_lt (g := gb144) (o := .cells #[.int .u64 t137, .int .u64 t138, .int .u64 t139, .int .u64 t140] 26 (0, 0)) (by (with_reducible repeat (first | refine bN ?_ _ | refine bD ?_ | refine bL ?_ _)); exact BK144.out)) : gb156 ≠ gb144))
    have n15_ := Aside0.mk ((by rw [hg]; exact Nat.ne_of_lt (blk_lt (g := gb145) (o := .cells #[.int .u64 t141, .int .u64 t142] 24 (0, 0)) (by (with_reducible repeat (first | refine bN ?_ _ | refine bD ?_ | refine bL ?_ _)); exact BK145.out)) : gb145 ≠ gb156))
    have n16_ := Aside0.mk ((by rw [hg]; exact Nat.ne_of_gt (blk_lt (g := gb145) (o := .cells #[.int .u64 t141, .int .u64 t142] 24 (0, 0)) (by (with_reducible repeat (first | refine bN ?_ _ | refine bD ?_ | refine bL ?_ _)); exact BK145.out)) : gb156 ≠ gb145))
    have n17_ := Aside0.mk ((by rw [hg]; exact Nat.ne_of_lt (blk_lt (g := gb155) (o := .cells #[.int .u64 0, .int .u64 0, .int .u64 0, .int .u64 0] 26 (0, 0)) (by (with_reducible repeat (first | refine bN ?_ _ | refine bD ?_ | refine bL ?_ _)); exact BK155.out)) : gb155 ≠ gb156))
    have n18_ := Aside0.mk ((by rw [hg]; exact Nat.ne_of_gt (blk_lt (g := gb155) (o := .cells #[.int .u64 0, .int .u64 0, .int .u64 0, .int .u64 0] 26 (0, 0)) (by (with_reducible repeat (first | refine bN ?_ _ | refine bD ?_ | refine bL ?_ _)); exact BK155.out)) : gb156 ≠ gb155))
    clear BK135
    clear BK136
    clear BK144
    clear BK145
    clear BK155
    clear HB
    have BK135 := n0_
    have BK136 := n1_
    have BK144 := n2_
    have BK145 := n3_
    have BK155 := n4_
    have HB := n5_
    have BK156 := n6_
    have GW156 := n7_
    have GE156 := n8_
    have NB135_156 := n9_
    have NB156_135 := n10_
    have NB136_156 := n11_
    have NB156_136 := n12_
    have NB144_156 := n13_
    have NB156_144 := n14_
    have NB145_156 := n15_
    have NB156_145 := n16_
    have NB155_156 := n17_
    have NB156_155 := n18_
    clear n0_ n1_ n2_ n3_ n4_ n5_ n6_ n7_ n8_ n9_ n10_ n11_ n12_ n13_ n14_ n15_ n16_ n17_ n18_
    clear hb hbox hg
    refine hK.out _ _ ⟨(bC BK144.out 0).trans rfl, (bC BK144.out 1).trans rfl, (bC BK144.out 2).trans rfl, (bC BK144.out 3).trans rfl, (bC BK136.out 0).trans rfl, (bC BK136.out 1).trans rfl⟩ (fun hHeld => ?_)
    clear hK K
    refine norm_ (a' := ?_) ?_ ?_
    rotate_left
    ·show Act.put _ (some 9) _ = _
     simp only [Act.put, List.setIfInBounds_toArray, List.set_cons_zero, List.set_cons_succ, i64_w, i32_w]
     rfl
    exact norm_ (by first | (simp only [putAll, Act.put, List.setIfInBounds_toArray, List.set_cons_zero, List.set_cons_succ]; done) | (simp only [putAll, Act.put, List.setIfInBounds_toArray, List.set_cons_zero, List.set_cons_succ]; rfl)) (hJ3_7_8_9 (gb155, gb156) _ ⟨hHeld, (by (with_reducible repeat (first | refine bN ?_ _ | refine bD ?_ | refine bL ?_ _)); exact BK135.out), (by (with_reducible repeat (first | refine bN ?_ _ | refine bD ?_ | refine bL ?_ _)); exact BK136.out), (by (with_reducible repeat (first | refine bN ?_ _ | refine bD ?_ | refine bL ?_ _)); exact BK144.out), (by (with_reducible repeat (first | refine bN ?_ _ | refine bD ?_ | refine bL ?_ _)); exact BK145.out), (by (with_reducible repeat (first | refine bN ?_ _ | refine bD ?_ | refine bL ?_ _)); exact BK155.out), (by (with_reducible repeat (first | refine bN ?_ _ | refine bD ?_ | refine bL ?_ _)); exact BK156.out), GW155.out, GE155.out, NB135_155.out, NB155_135.out, NB136_155.out, NB155_136.out, NB144_155.out, NB155_144.out, NB145_155.out, NB155_145.out, NB156_155.out, NB155_156.out, GW156.out, GE156.out, NB135_156.out, NB156_135.out, NB136_156.out, NB156_136.out, NB144_156.out, NB156_144.out, NB145_156.out, NB156_145.out, (by repeat (first | (with_reducible first | exact HB.out | apply below_alloc | apply pN | apply dI | refine below_set ?_ GE135.out | refine below_set ?_ GE136.out | refine below_set ?_ GE144.out | refine below_set ?_ GE145.out | refine below_set ?_ GE155.out | refine below_set ?_ GE156.out) | exact HB.out))⟩)
  rintro ⟨gb155, gb156⟩ w165 ⟨hS_, h0_, h1_, h2_, h3_, h4_, h5_, h6_, h7_, h8_, h9_, h10_, h11_, h12_, h13_, h14_, h15_, h16_, h17_, h18_, h19_, h20_, h21_, h22_, h23_, h24_, h25_, h26_, h27_, h28_⟩
  have n0_ : Aside0 (w165.heap[gb135]? = some (.cells #[.int .u64 a0_0, .int .u64 a0_1, .int .u64 a0_2, .int .u64 a0_3] 26 (0, 0))) := ⟨h0_⟩
  have n1_ : Aside0 (w165.heap[gb136]? = some (.cells #[.int .u64 a1_0, .int .u64 a1_1] 24 (0, 0))) := ⟨h1_⟩
  have n2_ : Aside0 (w165.heap[gb144]? = some (.cells #[.int .u64 t137, .int .u64 t138, .int .u64 t139, .int .u64 t140] 26 (0, 0))) := ⟨h2_⟩
  have n3_ : Aside0 (w165.heap[gb145]? = some (.cells #[.int .u64 t141, .int .u64 t142] 24 (0, 0))) := ⟨h3_⟩
  have n4_ : Aside0 (w165.heap[gb155]? = some (.cells #[.int .u64 0, .int .u64 0, .int .u64 0, .int .u64 0] 26 (0, 0))) := ⟨h4_⟩
  have n5_ : Aside0 (w165.heap[gb156]? = some (.cells #[.int .u64 0, .int .u64 0, .int .u64 0, .int .u64 0] 26 (0, 0))) := ⟨h5_⟩
  have n6_ : Aside0 (w.heap.size ≤ gb155) := ⟨h6_⟩
  have n7_ : Aside0 (w.heap.size ≤ gb155) := ⟨h7_⟩
  have n8_ : Aside0 (gb135 ≠ gb155) := ⟨h8_⟩
  have n9_ : Aside0 (gb155 ≠ gb135) := ⟨h9_⟩
  have n10_ : Aside0 (gb136 ≠ gb155) := ⟨h10_⟩
  have n11_ : Aside0 (gb155 ≠ gb136) := ⟨h11_⟩
  have n12_ : Aside0 (gb144 ≠ gb155) := ⟨h12_⟩
  have n13_ : Aside0 (gb155 ≠ gb144) := ⟨h13_⟩
  have n14_ : Aside0 (gb145 ≠ gb155) := ⟨h14_⟩
  have n15_ : Aside0 (gb155 ≠ gb145) := ⟨h15_⟩
  have n16_ : Aside0 (gb156 ≠ gb155) := ⟨h16_⟩
  have n17_ : Aside0 (gb155 ≠ gb156) := ⟨h17_⟩
  have n18_ : Aside0 (w.heap.size ≤ gb156) := ⟨h18_⟩
  have n19_ : Aside0 (w.heap.size ≤ gb156) := ⟨h19_⟩
  have n20_ : Aside0 (gb135 ≠ gb156) := ⟨h20_⟩
  have n21_ : Aside0 (gb156 ≠ gb135) := ⟨h21_⟩
  have n22_ : Aside0 (gb136 ≠ gb156) := ⟨h22_⟩
  have n23_ : Aside0 (gb156 ≠ gb136) := ⟨h23_⟩
  have n24_ : Aside0 (gb144 ≠ gb156) := ⟨h24_⟩
  have n25_ : Aside0 (gb156 ≠ gb144) := ⟨h25_⟩
  have n26_ : Aside0 (gb145 ≠ gb156) := ⟨h26_⟩
  have n27_ : Aside0 (gb156 ≠ gb145) := ⟨h27_⟩
  have n28_ : Aside0 (Below w.heap.size w w165) := ⟨h28_⟩
  clear BK135
  clear BK136
  clear BK144
  clear BK145
  clear HB
  clear h0_ h1_ h2_ h3_ h4_ h5_ h6_ h7_ h8_ h9_ h10_ h11_ h12_ h13_ h14_ h15_ h16_ h17_ h18_ h19_ h20_ h21_ h22_ h23_ h24_ h25_ h26_ h27_ h28_
  have BK135 := n0_
  have BK136 := n1_
  have BK144 := n2_
  have BK145 := n3_
  have BK155 := n4_
  have BK156 := n5_
  have GW155 := n6_
  have GE155 := n7_
  have NB135_155 := n8_
  have NB155_135 := n9_
  have NB136_155 := n10_
  have NB155_136 := n11_
  have NB144_155 := n12_
  have NB155_144 := n13_
  have NB145_155 := n14_
  have NB155_145 := n15_
  have NB156_155 := n16_
  have NB155_156 := n17_
  have GW156 := n18_
  have GE156 := n19_
  have NB135_156 := n20_
  have NB156_135 := n21_
  have NB136_156 := n22_
  have NB156_136 := n23_
  have NB144_156 := n24_
  have NB156_144 := n25_
  have NB145_156 := n26_
  have NB156_145 := n27_
  have HB := n28_
  clear n0_ n1_ n2_ n3_ n4_ n5_ n6_ n7_ n8_ n9_ n10_ n11_ n12_ n13_ n14_ n15_ n16_ n17_ n18_ n19_ n20_ n21_ n22_ n23_ n24_ n25_ n26_ n27_ n28_
  have hHeld : w165.cell? ⟨gb144, 0, none⟩ = some (.int .u64 t137) ∧ w165.cell? ⟨gb144, 1, none⟩ = some (.int .u64 t138) ∧ w165.cell? ⟨gb144, 2, none⟩ = some (.int .u64 t139) ∧ w165.cell? ⟨gb144, 3, none⟩ = some (.int .u64 t140) ∧ w165.cell? ⟨gb136, 0, none⟩ = some (.int .u64 a1_0) ∧ w165.cell? ⟨gb136, 1, none⟩ = some (.int .u64 a1_1) := hS_
  refine norm_ (a' := ?_) ?_ ?_
  rotate_left
  ·simp only [putAll, Act.put, List.setIfInBounds_toArray, List.set_cons_zero, List.set_cons_succ]
   rfl
  refine one_ (i := 10) (N := none) (bA 12 2047) rfl rfl (one_of HT_.out (by kernel_rfl)) (by decide) (fun K hK => ?_)
  have hs166 : w165.cell? ⟨gb155, 0, none⟩ = some (.int .u64 0) := (bC BK155.out 0).trans rfl
  have hfs166 := bF BK155.out 0
  have hns166_0 := NB135_155.out
  have hns166_1 := NB136_155.out
  have hns166_2 := NB144_155.out
  have hns166_3 := NB145_155.out
  have hns166_5 := NB156_155.out
  have hms166_0 := NB155_135.out
  have hms166_1 := NB155_136.out
  have hms166_2 := NB155_144.out
  have hms166_3 := NB155_145.out
  have hms166_5 := NB155_156.out
  have hs167 : w165.cell? ⟨gb155, 1, none⟩ = some (.int .u64 0) := (bC BK155.out 1).trans rfl
  have hfs167 := bF BK155.out 1
  have hns167_0 := NB135_155.out
  have hns167_1 := NB136_155.out
  have hns167_2 := NB144_155.out
  have hns167_3 := NB145_155.out
  have hns167_5 := NB156_155.out
  have hms167_0 := NB155_135.out
  have hms167_1 := NB155_136.out
  have hms167_2 := NB155_144.out
  have hms167_3 := NB155_145.out
  have hms167_5 := NB155_156.out
  have hs168 : w165.cell? ⟨gb155, 2, none⟩ = some (.int .u64 0) := (bC BK155.out 2).trans rfl
  have hfs168 := bF BK155.out 2
  have hns168_0 := NB135_155.out
  have hns168_1 := NB136_155.out
  have hns168_2 := NB144_155.out
  have hns168_3 := NB145_155.out
  have hns168_5 := NB156_155.out
  have hms168_0 := NB155_135.out
  have hms168_1 := NB155_136.out
  have hms168_2 := NB155_144.out
  have hms168_3 := NB155_145.out
  have hms168_5 := NB155_156.out
  have hs169 : w165.cell? ⟨gb155, 3, none⟩ = some (.int .u64 0) := (bC BK155.out 3).trans rfl
  have hfs169 := bF BK155.out 3
  have hns169_0 := NB135_155.out
  have hns169_1 := NB136_155.out
  have hns169_2 := NB144_155.out
  have hns169_3 := NB145_155.out
  have hns169_5 := NB156_155.out
  have hms169_0 := NB155_135.out
  have hms169_1 := NB155_136.out
  have hms169_2 := NB155_144.out
  have hms169_3 := NB155_145.out
  have hms169_5 := NB155_156.out
  refine skip_ (w1 := ?_) (by rfl) rfl ?_ ?_
  rotate_left
  ·go_simp
   rfl
  refine hK.out _ _ ⟨((cell_far (p := ⟨gb155, _, none⟩) NB144_155.out _).trans (((cell_far (p := ⟨gb155, _, none⟩) NB144_155.out _).trans (((cell_far (p := ⟨gb155, _, none⟩) NB144_155.out _).trans (((cell_far (p := ⟨gb155, _, none⟩) NB144_155.out _).trans (hHeld.1)))))))), ((cell_far (p := ⟨gb155, _, none⟩) NB144_155.out _).trans (((cell_far (p := ⟨gb155, _, none⟩) NB144_155.out _).trans (((cell_far (p := ⟨gb155, _, none⟩) NB144_155.out _).trans (((cell_far (p := ⟨gb155, _, none⟩) NB144_155.out _).trans (hHeld.2.1)))))))), ((cell_far (p := ⟨gb155, _, none⟩) NB144_155.out _).trans (((cell_far (p := ⟨gb155, _, none⟩) NB144_155.out _).trans (((cell_far (p := ⟨gb155, _, none⟩) NB144_155.out _).trans (((cell_far (p := ⟨gb155, _, none⟩) NB144_155.out _).trans (hHeld.2.2.1)))))))), ((cell_far (p := ⟨gb155, _, none⟩) NB144_155.out _).trans (((cell_far (p := ⟨gb155, _, none⟩) NB144_155.out _).trans (((cell_far (p := ⟨gb155, _, none⟩) NB144_155.out _).trans (((cell_far (p := ⟨gb155, _, none⟩) NB144_155.out _).trans (hHeld.2.2.2.1)))))))), ((cell_far (p := ⟨gb155, _, none⟩) NB136_155.out _).trans (((cell_far (p := ⟨gb155, _, none⟩) NB136_155.out _).trans (((cell_far (p := ⟨gb155, _, none⟩) NB136_155.out _).trans (((cell_far (p := ⟨gb155, _, none⟩) NB136_155.out _).trans (hHeld.2.2.2.2.1)))))))), ((cell_far (p := ⟨gb155, _, none⟩) NB136_155.out _).trans (((cell_far (p := ⟨gb155, _, none⟩) NB136_155.out _).trans (((cell_far (p := ⟨gb155, _, none⟩) NB136_155.out _).trans (((cell_far (p := ⟨gb155, _, none⟩) NB136_155.out _).trans (hHeld.2.2.2.2.2))))))))⟩ (fun hHeld => ?_)
  clear hK K
  refine one_ (i := 11) (N := none) (bA 12 4095) rfl rfl (one_of HT_.out (by kernel_rfl)) (by decide) (fun K hK => ?_)
  have hs170 : w165.cell? ⟨gb156, 0, none⟩ = some (.int .u64 0) := (bC BK156.out 0).trans rfl
  have hfs170 := bF BK156.out 0
  have hns170_0 := NB135_156.out
  have hns170_1 := NB136_156.out
  have hns170_2 := NB144_156.out
  have hns170_3 := NB145_156.out
  have hns170_4 := NB155_156.out
  have hms170_0 := NB156_135.out
  have hms170_1 := NB156_136.out
  have hms170_2 := NB156_144.out
  have hms170_3 := NB156_145.out
  have hms170_4 := NB156_155.out
  have hs171 : w165.cell? ⟨gb156, 1, none⟩ = some (.int .u64 0) := (bC BK156.out 1).trans rfl
  have hfs171 := bF BK156.out 1
  have hns171_0 := NB135_156.out
  have hns171_1 := NB136_156.out
  have hns171_2 := NB144_156.out
  have hns171_3 := NB145_156.out
  have hns171_4 := NB155_156.out
  have hms171_0 := NB156_135.out
  have hms171_1 := NB156_136.out
  have hms171_2 := NB156_144.out
  have hms171_3 := NB156_145.out
  have hms171_4 := NB156_155.out
  have hs172 : w165.cell? ⟨gb156, 2, none⟩ = some (.int .u64 0) := (bC BK156.out 2).trans rfl
  have hfs172 := bF BK156.out 2
  have hns172_0 := NB135_156.out
  have hns172_1 := NB136_156.out
  have hns172_2 := NB144_156.out
  have hns172_3 := NB145_156.out
  have hns172_4 := NB155_156.out
  have hms172_0 := NB156_135.out
  have hms172_1 := NB156_136.out
  have hms172_2 := NB156_144.out
  have hms172_3 := NB156_145.out
  have hms172_4 := NB156_155.out
  have hs173 : w165.cell? ⟨gb156, 3, none⟩ = some (.int .u64 0) := (bC BK156.out 3).trans rfl
  have hfs173 := bF BK156.out 3
  have hns173_0 := NB135_156.out
  have hns173_1 := NB136_156.out
  have hns173_2 := NB144_156.out
  have hns173_3 := NB145_156.out
  have hns173_4 := NB155_156.out
  have hms173_0 := NB156_135.out
  have hms173_1 := NB156_136.out
  have hms173_2 := NB156_144.out
  have hms173_3 := NB156_145.out
  have hms173_4 := NB156_155.out
  refine skip_ (w1 := ?_) (by rfl) rfl ?_ ?_
  rotate_left
  ·go_simp
   rfl
  refine hK.out _ _ ⟨((cell_far (p := ⟨gb156, _, none⟩) NB144_156.out _).trans (((cell_far (p := ⟨gb156, _, none⟩) NB144_156.out _).trans (((cell_far (p := ⟨gb156, _, none⟩) NB144_156.out _).trans (((cell_far (p := ⟨gb156, _, none⟩) NB144_156.out _).trans (hHeld.1)))))))), ((cell_far (p := ⟨gb156, _, none⟩) NB144_156.out _).trans (((cell_far (p := ⟨gb156, _, none⟩) NB144_156.out _).trans (((cell_far (p := ⟨gb156, _, none⟩) NB144_156.out _).trans (((cell_far (p := ⟨gb156, _, none⟩) NB144_156.out _).trans (hHeld.2.1)))))))), ((cell_far (p := ⟨gb156, _, none⟩) NB144_156.out _).trans (((cell_far (p := ⟨gb156, _, none⟩) NB144_156.out _).trans (((cell_far (p := ⟨gb156, _, none⟩) NB144_156.out _).trans (((cell_far (p := ⟨gb156, _, none⟩) NB144_156.out _).trans (hHeld.2.2.1)))))))), ((cell_far (p := ⟨gb156, _, none⟩) NB144_156.out _).trans (((cell_far (p := ⟨gb156, _, none⟩) NB144_156.out _).trans (((cell_far (p := ⟨gb156, _, none⟩) NB144_156.out _).trans (((cell_far (p := ⟨gb156, _, none⟩) NB144_156.out _).trans (hHeld.2.2.2.1)))))))), ((cell_far (p := ⟨gb156, _, none⟩) NB136_156.out _).trans (((cell_far (p := ⟨gb156, _, none⟩) NB136_156.out _).trans (((cell_far (p := ⟨gb156, _, none⟩) NB136_156.out _).trans (((cell_far (p := ⟨gb156, _, none⟩) NB136_156.out _).trans (hHeld.2.2.2.2.1)))))))), ((cell_far (p := ⟨gb156, _, none⟩) NB136_156.out _).trans (((cell_far (p := ⟨gb156, _, none⟩) NB136_156.out _).trans (((cell_far (p := ⟨gb156, _, none⟩) NB136_156.out _).trans (((cell_far (p := ⟨gb156, _, none⟩) NB136_156.out _).trans (hHeld.2.2.2.2.2))))))))⟩ (fun hHeld => ?_)
  clear hK K
  refine done_ (done_of HT_.out (by kernel_rfl)) ?_
  have hnb174 := NB155_135.out
  have hnc174 := NB135_155.out
  have hnb175 := NB155_136.out
  have hnc175 := NB136_155.out
  have hnb176 := NB155_144.out
  have hnc176 := NB144_155.out
  have hnb177 := NB155_145.out
  have hnc177 := NB145_155.out
  have hnb178 := NB155_156.out
  have hnc178 := NB156_155.out
  have hcz179_0 : w165.cell? ⟨gb155, 0, none⟩ = some (.int .u64 0) := (bC BK155.out 0).trans rfl
  have hcz179_1 : w165.cell? ⟨gb155, 1, none⟩ = some (.int .u64 0) := (bC BK155.out 1).trans rfl
  have hcz179_2 : w165.cell? ⟨gb155, 2, none⟩ = some (.int .u64 0) := (bC BK155.out 2).trans rfl
  have hcz179_3 : w165.cell? ⟨gb155, 3, none⟩ = some (.int .u64 0) := (bC BK155.out 3).trans rfl
  have hfz179_0 := bF BK155.out 0
  have hfz179_1 := bF BK155.out 1
  have hfz179_2 := bF BK155.out 2
  have hfz179_3 := bF BK155.out 3
  have hnb180 := NB145_156.out
  have hnc180 := NB156_145.out
  have hcz181_0 : w165.cell? ⟨gb145, 0, none⟩ = some (.int .u64 t141) := (bC BK145.out 0).trans rfl
  have hcz181_1 : w165.cell? ⟨gb145, 1, none⟩ = some (.int .u64 t142) := (bC BK145.out 1).trans rfl
  have hfz181_0 := bF BK145.out 0
  have hfz181_1 := bF BK145.out 1
  try go_wp2_with (first | ((with_reducible refine gate_callee (f := 17) rfl ?_); refine goesL_ (some 55) rfl rfl Try.func17 (by kernel_rfl) rfl #[.agg #[.int .u64 t149, .int .u64 t150], .agg #[.int .u64 t141, .int .u64 t142]] rfl (by (try simp only [List.map_toArray, List.map_cons, List.map_nil]); first | done | rfl | (simp only [List.length_drop, List.length_take]; rfl)) ?_; (with_reducible refine (limb_Add.calls t149 t150 t141 t142 t157 t158 false _ A28.out).mono ?_); rintro e w182 ⟨rfl, hb⟩; refine ⟨_, rfl, ?_⟩; have n0_ := Aside0.mk (bB (g := gb135) (o := .cells #[.int .u64 a0_0, .int .u64 a0_1, .int .u64 a0_2, .int .u64 a0_3] 26 (0, 0)) (by (with_reducible repeat (first | refine bN ?_ _ | refine bD ?_ | refine bL ?_ _)); refine bX ?_ NB135_156.out _; (with_reducible repeat (first | refine bN ?_ _ | refine bD ?_ | refine bL ?_ _)); refine bX ?_ NB135_156.out _; (with_reducible repeat (first | refine bN ?_ _ | refine bD ?_ | refine bL ?_ _)); refine bX ?_ NB135_156.out _; (with_reducible repeat (first | refine bN ?_ _ | refine bD ?_ | refine bL ?_ _)); refine bX ?_ NB135_156.out _; (with_reducible repeat (first | refine bN ?_ _ | refine bD ?_ | refine bL ?_ _)); refine bX ?_ NB135_155.out _; (with_reducible repeat (first | refine bN ?_ _ | refine bD ?_ | refine bL ?_ _)); refine bX ?_ NB135_155.out _; (with_reducible repeat (first | refine bN ?_ _ | refine bD ?_ | refine bL ?_ _)); refine bX ?_ NB135_155.out _; (with_reducible repeat (first | refine bN ?_ _ | refine bD ?_ | refine bL ?_ _)); refine bX ?_ NB135_155.out _; (with_reducible repeat (first | refine bN ?_ _ | refine bD ?_ | refine bL ?_ _)); exact BK135.out) hb); have n1_ := Aside0.mk (bB (g := gb136) (o := .cells #[.int .u64 a1_0, .int .u64 a1_1] 24 (0, 0)) (by (with_reducible repeat (first | refine bN ?_ _ | refine bD ?_ | refine bL ?_ _)); refine bX ?_ NB136_156.out _; (with_reducible repeat (first | refine bN ?_ _ | refine bD ?_ | refine bL ?_ _)); refine bX ?_ NB136_156.out _; (with_reducible repeat (first | refine bN ?_ _ | refine bD ?_ | refine bL ?_ _)); refine bX ?_ NB136_156.out _; (with_reducible repeat (first | refine bN ?_ _ | refine bD ?_ | refine bL ?_ _)); refine bX ?_ NB136_156.out _; (with_reducible repeat (first | refine bN ?_ _ | refine bD ?_ | refine bL ?_ _)); refine bX ?_ NB136_155.out _; (with_reducible repeat (first | refine bN ?_ _ | refine bD ?_ | refine bL ?_ _)); refine bX ?_ NB136_155.out _; (with_reducible repeat (first | refine bN ?_ _ | refine bD ?_ | refine bL ?_ _)); refine bX ?_ NB136_155.out _; (with_reducible repeat (first | refine bN ?_ _ | refine bD ?_ | refine bL ?_ _)); refine bX ?_ NB136_155.out _; (with_reducible repeat (first | refine bN ?_ _ | refine bD ?_ | refine bL ?_ _)); exact BK136.out) hb); have n2_ := Aside0.mk (bB (g := gb144) (o := .cells #[.int .u64 t137, .int .u64 t138, .int .u64 t139, .int .u64 t140] 26 (0, 0)) (by (with_reducible repeat (first | refine bN ?_ _ | refine bD ?_ | refine bL ?_ _)); refine bX ?_ NB144_156.out _; (with_reducible repeat (first | refine bN ?_ _ | refine bD ?_ | refine bL ?_ _)); refine bX ?_ NB144_156.out _; (with_reducible repeat (first | refine bN ?_ _ | refine bD ?_ | refine bL ?_ _)); refine bX ?_ NB144_156.out _; (with_reducible repeat (first | refine bN ?_ _ | refine bD ?_ | refine bL ?_ _)); refine bX ?_ NB144_156.out _; (with_reducible repeat (first | refine bN ?_ _ | refine bD ?_ | refine bL ?_ _)); refine bX ?_ NB144_155.out _; (with_reducible repeat (first | refine bN ?_ _ | refine bD ?_ | refine bL ?_ _)); refine bX ?_ NB144_155.out _; (with_reducible repeat (first | refine bN ?_ _ | refine bD ?_ | refine bL ?_ _)); refine bX ?_ NB144_155.out _; (with_reducible repeat (first | refine bN ?_ _ | refine bD ?_ | refine bL ?_ _)); refine bX ?_ NB144_155.out _; (with_reducible repeat (first | refine bN ?_ _ | refine bD ?_ | refine bL ?_ _)); exact BK144.out) hb); have n3_ := Aside0.mk (bB (g := gb145) (o := .cells #[.int .u64 t141, .int .u64 t142] 24 (0, 0)) (by (with_reducible repeat (first | refine bN ?_ _ | refine bD ?_ | refine bL ?_ _)); refine bX ?_ NB145_156.out _; (with_reducible repeat (first | refine bN ?_ _ | refine bD ?_ | refine bL ?_ _)); refine bX ?_ NB145_156.out _; (with_reducible repeat (first | refine bN ?_ _ | refine bD ?_ | refine bL ?_ _)); refine bX ?_ NB145_156.out _; (with_reducible repeat (first | refine bN ?_ _ | refine bD ?_ | refine bL ?_ _)); refine bX ?_ NB145_156.out _; (with_reducible repeat (first | refine bN ?_ _ | refine bD ?_ | refine bL ?_ _)); refine bX ?_ NB145_155.out _; (with_reducible repeat (first | refine bN ?_ _ | refine bD ?_ | refine bL ?_ _)); refine bX ?_ NB145_155.out _; (with_reducible repeat (first | refine bN ?_ _ | refine bD ?_ | refine bL ?_ _)); refine bX ?_ NB145_155.out _; (with_reducible repeat (first | refine bN ?_ _ | refine bD ?_ | refine bL ?_ _)); refine bX ?_ NB145_155.out _; (with_reducible repeat (first | refine bN ?_ _ | refine bD ?_ | refine bL ?_ _)); exact BK145.out) hb); have n4_ := Aside0.mk (bB (g := gb155) (o := .cells #[.int .u64 t147, .int .u64 t148, .int .u64 t149, .int .u64 t150] 26 (0, 0)) (by (with_reducible repeat (first | refine bN ?_ _ | refine bD ?_ | refine bL ?_ _)); refine bX ?_ NB155_156.out _; (with_reducible repeat (first | refine bN ?_ _ | refine bD ?_ | refine bL ?_ _)); refine bX ?_ NB155_156.out _; (with_reducible repeat (first | refine bN ?_ _ | refine bD ?_ | refine bL ?_ _)); refine bX ?_ NB155_156.out _; (with_reducible repeat (first | refine bN ?_ _ | refine bD ?_ | refine bL ?_ _)); refine bX ?_ NB155_156.out _; (with_reducible repeat (first | refine bN ?_ _ | refine bD ?_ | refine bL ?_ _)); refine blk_put (cs := #[.int .u64 t147, .int .u64 t148, .int .u64 t149, .int .u64 0]) ?_ 3 _ rfl; (with_reducible repeat (first | refine bN ?_ _ | refine bD ?_ | refine bL ?_ _)); refine blk_put (cs := #[.int .u64 t147, .int .u64 t148, .int .u64 0, .int .u64 0]) ?_ 2 _ rfl; (with_reducible repeat (first | refine bN ?_ _ | refine bD ?_ | refine bL ?_ _)); refine blk_put (cs := #[.int .u64 t147, .int .u64 0, .int .u64 0, .int .u64 0]) ?_ 1 _ rfl; (with_reducible repeat (first | refine bN ?_ _ | refine bD ?_ | refine bL ?_ _)); refine blk_put (cs := #[.int .u64 0, .int .u64 0, .int .u64 0, .int .u64 0]) ?_ 0 _ rfl; (with_reducible repeat (first | refine bN ?_ _ | refine bD ?_ | refine bL ?_ _)); exact BK155.out) hb); have n5_ := Aside0.mk (bB (g := gb156) (o := .cells #[.int .u64 t151, .int .u64 t152, .int .u64 t153, .int .u64 t154] 26 (0, 0)) (by (with_reducible repeat (first | refine bN ?_ _ | refine bD ?_ | refine bL ?_ _)); refine blk_put (cs := #[.int .u64 t151, .int .u64 t152, .int .u64 t153, .int .u64 0]) ?_ 3 _ rfl; (with_reducible repeat (first | refine bN ?_ _ | refine bD ?_ | refine bL ?_ _)); refine blk_put (cs := #[.int .u64 t151, .int .u64 t152, .int .u64 0, .int .u64 0]) ?_ 2 _ rfl; (with_reducible repeat (first | refine bN ?_ _ | refine bD ?_ | refine bL ?_ _)); refine blk_put (cs := #[.int .u64 t151, .int .u64 0, .int .u64 0, .int .u64 0]) ?_ 1 _ rfl; (with_reducible repeat (first | refine bN ?_ _ | refine bD ?_ | refine bL ?_ _)); refine blk_put (cs := #[.int .u64 0, .int .u64 0, .int .u64 0, .int .u64 0]) ?_ 0 _ rfl; (with_reducible repeat (first | refine bN ?_ _ | refine bD ?_ | refine bL ?_ _)); refine bX ?_ NB156_155.out _; (with_reducible repeat (first | refine bN ?_ _ | refine bD ?_ | refine bL ?_ _)); refine bX ?_ NB156_155.out _; (with_reducible repeat (first | refine bN ?_ _ | refine bD ?_ | refine bL ?_ _)); refine bX ?_ NB156_155.out _; (with_reducible repeat (first | refine bN ?_ _ | refine bD ?_ | refine bL ?_ _)); refine bX ?_ NB156_155.out _; (with_reducible repeat (first | refine bN ?_ _ | refine bD ?_ | refine bL ?_ _)); exact BK156.out) hb); have n6_ := Aside0.mk (below_step (by repeat (first | (with_reducible first | exact HB.out | apply below_alloc | apply pN | apply dI | refine below_set ?_ GE135.out | refine below_set ?_ GE136.out | refine below_set ?_ GE144.out | refine below_set ?_ GE145.out | refine below_set ?_ GE155.out | refine below_set ?_ GE156.out) | exact HB.out)) hb); clear BK135; clear BK136; clear BK144; clear BK145; clear BK155; clear BK156; clear HB; have BK135 := n0_; have BK136 := n1_; have BK144 := n2_; have BK145 := n3_; have BK155 := n4_; have BK156 := n5_; have HB := n6_; clear n0_ n1_ n2_ n3_ n4_ n5_ n6_; (try clear hb); (try clear hb2); (try clear hk); (try clear hi)) | ((with_reducible refine gate_dst (N := 10) rfl ?_); refine box_event ?hg (N := 10) ?hd (cs := #[.int .u64 0, .int .u64 0]) (t := 24) ?hr ?_; (case hd => rfl); (case hg => rfl); (case hr => first | (go_simp; done) | (go_simp; rfl)); intro gb160 hg w183 hbox hb; have n0_ := Aside0.mk (bB (g := gb135) (o := .cells #[.int .u64 a0_0, .int .u64 a0_1, .int .u64 a0_2, .int .u64 a0_3] 26 (0, 0)) (by (with_reducible repeat (first | refine bN ?_ _ | refine bD ?_ | refine bL ?_ _)); exact BK135.out) hb); have n1_ := Aside0.mk (bB (g := gb136) (o := .cells #[.int .u64 a1_0, .int .u64 a1_1] 24 (0, 0)) (by (with_reducible repeat (first | refine bN ?_ _ | refine bD ?_ | refine bL ?_ _)); exact BK136.out) hb); have n2_ := Aside0.mk (bB (g := gb144) (o := .cells #[.int .u64 t137, .int .u64 t138, .int .u64 t139, .int .u64 t140] 26 (0, 0)) (by (with_reducible repeat (first | refine bN ?_ _ | refine bD ?_ | refine bL ?_ _)); exact BK144.out) hb); have n3_ := Aside0.mk (bB (g := gb145) (o := .cells #[.int .u64 t141, .int .u64 t142] 24 (0, 0)) (by (with_reducible repeat (first | refine bN ?_ _ | refine bD ?_ | refine bL ?_ _)); exact BK145.out) hb); have n4_ := Aside0.mk (bB (g := gb155) (o := .cells #[.int .u64 t147, .int .u64 t148, .int .u64 t149, .int .u64 t150] 26 (0, 0)) (by (with_reducible repeat (first | refine bN ?_ _ | refine bD ?_ | refine bL ?_ _)); exact BK155.out) hb); have n5_ := Aside0.mk (bB (g := gb156) (o := .cells #[.int .u64 t151, .int .u64 t152, .int .u64 t153, .int .u64 t154] 26 (0, 0)) (by (with_reducible repeat (first | refine bN ?_ _ | refine bD ?_ | refine bL ?_ _)); exact BK156.out) hb); have n6_ := Aside0.mk (below_step (by repeat (first | (with_reducible first | exact HB.out | apply below_alloc | apply pN | apply dI | refine below_set ?_ GE135.out | refine below_set ?_ GE136.out | refine below_set ?_ GE144.out | refine below_set ?_ GE145.out | refine below_set ?_ GE155.out | refine below_set ?_ GE156.out) | exact HB.out)) hb); have n7_ := Aside0.mk (hbox); have n8_ := Aside0.mk ((by rw [hg]; exact (below_size (by repeat (first | (with_reducible first | exact HB.out | apply below_alloc | apply pN | apply dI | refine below_set ?_ GE135.out | refine below_set ?_ GE136.out | refine below_set ?_ GE144.out | refine below_set ?_ GE145.out | refine below_set ?_ GE155.out | refine below_set ?_ GE156.out) | exact HB.out))) : w.heap.size ≤ gb160)); have n9_ := Aside0.mk ((by rw [hg]; exact (below_size (by repeat (first | (with_reducible first | exact HB.out | apply below_alloc | apply pN | apply dI | refine below_set ?_ GE135.out | refine below_set ?_ GE136.out | refine below_set ?_ GE144.out | refine below_set ?_ GE145.out | refine below_set ?_ GE155.out | refine below_set ?_ GE156.out) | exact HB.out))) : w.heap.size ≤ gb160)); have n10_ := Aside0.mk ((by rw [hg]; exact Nat.ne_of_lt (blk_lt (g := gb135) (o := .cells #[.int .u64 a0_0, .int .u64 a0_1, .int .u64 a0_2, .int .u64 a0_3] 26 (0, 0)) (by (with_reducible repeat (first | refine bN ?_ _ | refine bD ?_ | refine bL ?_ _)); exact BK135.out)) : gb135 ≠ gb160)); have n11_ := Aside0.mk ((by rw [hg]; exact Nat.ne_of_gt (blk_lt (g := gb135) (o := .cells #[.int .u64 a0_0, .int .u64 a0_1, .int .u64 a0_2, .int .u64 a0_3] 26 (0, 0)) (by (with_reducible repeat (first | refine bN ?_ _ | refine bD ?_ | refine bL ?_ _)); exact BK135.out)) : gb160 ≠ gb135)); have n12_ := Aside0.mk ((by rw [hg]; exact Nat.ne_of_lt (blk_lt (g := gb136) (o := .cells #[.int .u64 a1_0, .int .u64 a1_1] 24 (0, 0)) (by (with_reducible repeat (first | refine bN ?_ _ | refine bD ?_ | refine bL ?_ _)); exact BK136.out)) : gb136 ≠ gb160)); have n13_ := Aside0.mk ((by rw [hg]; exact Nat.ne_of_gt (blk_lt (g := gb136) (o := .cells #[.int .u64 a1_0, .int .u64 a1_1] 24 (0, 0)) (by (with_reducible repeat (first | refine bN ?_ _ | refine bD ?_ | refine bL ?_ _)); exact BK136.out)) : gb160 ≠ gb136)); have n14_ := Aside0.mk ((by rw [hg]; exact Nat.ne_of_lt (blk_lt (g := gb144) (o := .cells #[.int .u64 t137, .int .u64 t138, .int .u64 t139, .int .u64 t140] 26 (0, 0)) (by (with_reducible repeat (first | refine bN ?_ _ | refine bD ?_ | refine bL ?_ _)); exact BK144.out)) : gb144 ≠ gb160)); have n15_ := Aside0.mk ((by rw [hg]; exact Nat.ne_of_gt (blk_lt (g := gb144) (o := .cells #[.int .u64 t137, .int .u64 t138, .int .u64 t139, .int .u64 t140] 26 (0, 0)) (by (with_reducible repeat (first | refine bN ?_ _ | refine bD ?_ | refine bL ?_ _)); exact BK144.out)) : gb160 ≠ gb144)); have n16_ := Aside0.mk ((by rw [hg]; exact Nat.ne_of_lt (blk_lt (g := gb145) (o := .cells #[.int .u64 t141, .int .u64 t142] 24 (0, 0)) (by (with_reducible repeat (first | refine bN ?_ _ | refine bD ?_ | refine bL ?_ _)); exact BK145.out)) : gb145 ≠ gb160)); have n17_ := Aside0.mk ((by rw [hg]; exact Nat.ne_of_gt (blk_lt (g := gb145) (o := .cells #[.int .u64 t141, .int .u64 t142] 24 (0, 0)) (by (with_reducible repeat (first | refine bN ?_ _ | refine bD ?_ | refine bL ?_ _)); exact BK145.out)) : gb160 ≠ gb145)); have n18_ := Aside0.mk ((by rw [hg]; exact Nat.ne_of_lt (blk_lt (g := gb155) (o := .cells #[.int .u64 t147, .int .u64 t148, .int .u64 t149, .int .u64 t150] 26 (0, 0)) (by (with_reducible repeat (first | refine bN ?_ _ | refine bD ?_ | refine bL ?_ _)); exact BK155.out)) : gb155 ≠ gb160)); have n19_ := Aside0.mk ((by rw [hg]; exact Nat.ne_of_gt (blk_lt (g := gb155) (o := .cells #[.int .u64 t147, .int .u64 t148, .int .u64 t149, .int .u64 t150] 26 (0, 0)) (by (with_reducible repeat (first | refine bN ?_ _ | refine bD ?_ | refine bL ?_ _)); exact BK155.out)) : gb160 ≠ gb155)); have n20_ := Aside0.mk ((by rw [hg]; exact Nat.ne_of_lt (blk_lt (g := gb156) (o := .cells #[.int .u64 t151, .int .u64 t152, .int .u64 t153, .int .u64 t154] 26 (0, 0)) (by (with_reducible repeat (first | refine bN ?_ _ | refine bD ?_ | refine bL ?_ _)); exact BK156.out)) : gb156 ≠ gb160)); have n21_ := Aside0.mk ((by rw [hg]; exact Nat.ne_of_gt (blk_lt (g := gb156) (o := .cells #[.int .u64 t151, .int .u64 t152, .int .u64 t153, .int .u64 t154] 26 (0, 0)) (by (with_reducible repeat (first | refine bN ?_ _ | refine bD ?_ | refine bL ?_ _)); exact BK156.out)) : gb160 ≠ gb156)); clear BK135; clear BK136; clear BK144; clear BK145; clear BK155; clear BK156; clear HB; have BK135 := n0_; have BK136 := n1_; have BK144 := n2_; have BK145 := n3_; have BK155 := n4_; have BK156 := n5_; have HB := n6_; have BK160 := n7_; have GW160 := n8_; have GE160 := n9_; have NB135_160 := n10_; have NB160_135 := n11_; have NB136_160 := n12_; have NB160_136 := n13_; have NB144_160 := n14_; have NB160_144 := n15_; have NB145_160 := n16_; have NB160_145 := n17_; have NB155_160 := n18_; have NB160_155 := n19_; have NB156_160 := n20_; have NB160_156 := n21_; clear n0_ n1_ n2_ n3_ n4_ n5_ n6_ n7_ n8_ n9_ n10_ n11_ n12_ n13_ n14_ n15_ n16_ n17_ n18_ n19_ n20_ n21_; clear hb hbox hg; have hnb184 := NB160_135.out; have hnc184 := NB135_160.out; have hnb185 := NB160_136.out; have hnc185 := NB136_160.out; have hnb186 := NB160_144.out; have hnc186 := NB144_160.out; have hnb187 := NB160_145.out; have hnc187 := NB145_160.out; have hnb188 := NB160_155.out; have hnc188 := NB155_160.out; have hnb189 := NB160_156.out; have hnc189 := NB156_160.out; have hcz190_0 : w183.cell? ⟨gb160, 0, none⟩ = some (.int .u64 0) := (bC BK160.out 0).trans rfl; have hcz190_1 : w183.cell? ⟨gb160, 1, none⟩ = some (.int .u64 0) := (bC BK160.out 1).trans rfl; have hfz190_0 := bF BK160.out 0; have hfz190_1 := bF BK160.out 1; have hcz191_0 : w183.cell? ⟨gb155, 0, none⟩ = some (.int .u64 t147) := (bC BK155.out 0).trans rfl; have hcz191_1 : w183.cell? ⟨gb155, 1, none⟩ = some (.int .u64 t148) := (bC BK155.out 1).trans rfl; have hcz191_2 : w183.cell? ⟨gb155, 2, none⟩ = some (.int .u64 t149) := (bC BK155.out 2).trans rfl; have hcz191_3 : w183.cell? ⟨gb155, 3, none⟩ = some (.int .u64 t150) := (bC BK155.out 3).trans rfl; have hfz191_0 := bF BK155.out 0; have hfz191_1 := bF BK155.out 1; have hfz191_2 := bF BK155.out 2; have hfz191_3 := bF BK155.out 3; have hnb192 := NB156_135.out; have hnc192 := NB135_156.out; have hnb193 := NB156_136.out; have hnc193 := NB136_156.out; have hnb194 := NB156_144.out; have hnc194 := NB144_156.out; have hcz195_0 : w183.cell? ⟨gb156, 0, none⟩ = some (.int .u64 t151) := (bC BK156.out 0).trans rfl; have hcz195_1 : w183.cell? ⟨gb156, 1, none⟩ = some (.int .u64 t152) := (bC BK156.out 1).trans rfl; have hcz195_2 : w183.cell? ⟨gb156, 2, none⟩ = some (.int .u64 t153) := (bC BK156.out 2).trans rfl; have hcz195_3 : w183.cell? ⟨gb156, 3, none⟩ = some (.int .u64 t154) := (bC BK156.out 3).trans rfl; have hfz195_0 := bF BK156.out 0; have hfz195_1 := bF BK156.out 1; have hfz195_2 := bF BK156.out 2; have hfz195_3 := bF BK156.out 3) | ((with_reducible refine gate_callee (f := 17) rfl ?_); refine goesL_ (some 63) rfl rfl Try.func17 (by kernel_rfl) rfl #[.agg #[.int .u64 t147, .int .u64 t148], .agg #[.int .u64 t153, .int .u64 t154]] rfl (by (try simp only [List.map_toArray, List.map_cons, List.map_nil]); first | done | rfl | (simp only [List.length_drop, List.length_take]; rfl)) ?_; (with_reducible refine (limb_Add.calls t147 t148 t153 t154 t161 t162 false _ A29.out).mono ?_); rintro e w196 ⟨rfl, hb⟩; refine ⟨_, rfl, ?_⟩; have n0_ := Aside0.mk (bB (g := gb135) (o := .cells #[.int .u64 a0_0, .int .u64 a0_1, .int .u64 a0_2, .int .u64 a0_3] 26 (0, 0)) (by (with_reducible repeat (first | refine bN ?_ _ | refine bD ?_ | refine bL ?_ _)); refine bX ?_ NB135_160.out _; (with_reducible repeat (first | refine bN ?_ _ | refine bD ?_ | refine bL ?_ _)); refine bX ?_ NB135_160.out _; (with_reducible repeat (first | refine bN ?_ _ | refine bD ?_ | refine bL ?_ _)); exact BK135.out) hb); have n1_ := Aside0.mk (bB (g := gb136) (o := .cells #[.int .u64 a1_0, .int .u64 a1_1] 24 (0, 0)) (by (with_reducible repeat (first | refine bN ?_ _ | refine bD ?_ | refine bL ?_ _)); refine bX ?_ NB136_160.out _; (with_reducible repeat (first | refine bN ?_ _ | refine bD ?_ | refine bL ?_ _)); refine bX ?_ NB136_160.out _; (with_reducible repeat (first | refine bN ?_ _ | refine bD ?_ | refine bL ?_ _)); exact BK136.out) hb); have n2_ := Aside0.mk (bB (g := gb144) (o := .cells #[.int .u64 t137, .int .u64 t138, .int .u64 t139, .int .u64 t140] 26 (0, 0)) (by (with_reducible repeat (first | refine bN ?_ _ | refine bD ?_ | refine bL ?_ _)); refine bX ?_ NB144_160.out _; (with_reducible repeat (first | refine bN ?_ _ | refine bD ?_ | refine bL ?_ _)); refine bX ?_ NB144_160.out _; (with_reducible repeat (first | refine bN ?_ _ | refine bD ?_ | refine bL ?_ _)); exact BK144.out) hb); have n3_ := Aside0.mk (bB (g := gb145) (o := .cells #[.int .u64 t141, .int .u64 t142] 24 (0, 0)) (by (with_reducible repeat (first | refine bN ?_ _ | refine bD ?_ | refine bL ?_ _)); refine bX ?_ NB145_160.out _; (with_reducible repeat (first | refine bN ?_ _ | refine bD ?_ | refine bL ?_ _)); refine bX ?_ NB145_160.out _; (with_reducible repeat (first | refine bN ?_ _ | refine bD ?_ | refine bL ?_ _)); exact BK145.out) hb); have n4_ := Aside0.mk (bB (g := gb155) (o := .cells #[.int .u64 t147, .int .u64 t148, .int .u64 t149, .int .u64 t150] 26 (0, 0)) (by (with_reducible repeat (first | refine bN ?_ _ | refine bD ?_ | refine bL ?_ _)); refine bX ?_ NB155_160.out _; (with_reducible repeat (first | refine bN ?_ _ | refine bD ?_ | refine bL ?_ _)); refine bX ?_ NB155_160.out _; (with_reducible repeat (first | refine bN ?_ _ | refine bD ?_ | refine bL ?_ _)); exact BK155.out) hb); have n5_ := Aside0.mk (bB (g := gb156) (o := .cells #[.int .u64 t151, .int .u64 t152, .int .u64 t153, .int .u64 t154] 26 (0, 0)) (by (with_reducible repeat (first | refine bN ?_ _ | refine bD ?_ | refine bL ?_ _)); refine bX ?_ NB156_160.out _; (with_reducible repeat (first | refine bN ?_ _ | refine bD ?_ | refine bL ?_ _)); refine bX ?_ NB156_160.out _; (with_reducible repeat (first | refine bN ?_ _ | refine bD ?_ | refine bL ?_ _)); exact BK156.out) hb); have n6_ := Aside0.mk (bB (g := gb160) (o := .cells #[.int .u64 t157, .int .u64 t158] 24 (0, 0)) (by (with_reducible repeat (first | refine bN ?_ _ | refine bD ?_ | refine bL ?_ _)); refine blk_put (cs := #[.int .u64 t157, .int .u64 0]) ?_ 1 _ rfl; (with_reducible repeat (first | refine bN ?_ _ | refine bD ?_ | refine bL ?_ _)); refine blk_put (cs := #[.int .u64 0, .int .u64 0]) ?_ 0 _ rfl; (with_reducible repeat (first | refine bN ?_ _ | refine bD ?_ | refine bL ?_ _)); exact BK160.out) hb); have n7_ := Aside0.mk (below_step (by repeat (first | (with_reducible first | exact HB.out | apply below_alloc | apply pN | apply dI | refine below_set ?_ GE135.out | refine below_set ?_ GE136.out | refine below_set ?_ GE144.out | refine below_set ?_ GE145.out | refine below_set ?_ GE155.out | refine below_set ?_ GE156.out | refine below_set ?_ GE160.out) | exact HB.out)) hb); clear BK135; clear BK136; clear BK144; clear BK145; clear BK155; clear BK156; clear BK160; clear HB; have BK135 := n0_; have BK136 := n1_; have BK144 := n2_; have BK145 := n3_; have BK155 := n4_; have BK156 := n5_; have BK160 := n6_; have HB := n7_; clear n0_ n1_ n2_ n3_ n4_ n5_ n6_ n7_; (try clear hb); (try clear hb2); (try clear hk); (try clear hi)) | ((with_reducible refine gate_dst (N := 12) rfl ?_); refine box_event ?hg (N := 12) ?hd (cs := #[.int .u64 0, .int .u64 0]) (t := 24) ?hr ?_; (case hd => rfl); (case hg => rfl); (case hr => first | (go_simp; done) | (go_simp; rfl)); intro gb164 hg w197 hbox hb; have n0_ := Aside0.mk (bB (g := gb135) (o := .cells #[.int .u64 a0_0, .int .u64 a0_1, .int .u64 a0_2, .int .u64 a0_3] 26 (0, 0)) (by (with_reducible repeat (first | refine bN ?_ _ | refine bD ?_ | refine bL ?_ _)); exact BK135.out) hb); have n1_ := Aside0.mk (bB (g := gb136) (o := .cells #[.int .u64 a1_0, .int .u64 a1_1] 24 (0, 0)) (by (with_reducible repeat (first | refine bN ?_ _ | refine bD ?_ | refine bL ?_ _)); exact BK136.out) hb); have n2_ := Aside0.mk (bB (g := gb144) (o := .cells #[.int .u64 t137, .int .u64 t138, .int .u64 t139, .int .u64 t140] 26 (0, 0)) (by (with_reducible repeat (first | refine bN ?_ _ | refine bD ?_ | refine bL ?_ _)); exact BK144.out) hb); have n3_ := Aside0.mk (bB (g := gb145) (o := .cells #[.int .u64 t141, .int .u64 t142] 24 (0, 0)) (by (with_reducible repeat (first | refine bN ?_ _ | refine bD ?_ | refine bL ?_ _)); exact BK145.out) hb); have n4_ := Aside0.mk (bB (g := gb155) (o := .cells #[.int .u64 t147, .int .u64 t148, .int .u64 t149, .int .u64 t150] 26 (0, 0)) (by (with_reducible repeat (first | refine bN ?_ _ | refine bD ?_ | refine bL ?_ _)); exact BK155.out) hb); have n5_ := Aside0.mk (bB (g := gb156) (o := .cells #[.int .u64 t151, .int .u64 t152, .int .u64 t153, .int .u64 t154] 26 (0, 0)) (by (with_reducible repeat (first | refine bN ?_ _ | refine bD ?_ | refine bL ?_ _)); exact BK156.out) hb); have n6_ := Aside0.mk (bB (g := gb160) (o := .cells #[.int .u64 t157, .int .u64 t158] 24 (0, 0)) (by (with_reducible repeat (first | refine bN ?_ _ | refine bD ?_ | refine bL ?_ _)); exact BK160.out) hb); have n7_ := Aside0.mk (below_step (by repeat (first | (with_reducible first | exact HB.out | apply below_alloc | apply pN | apply dI | refine below_set ?_ GE135.out | refine below_set ?_ GE136.out | refine below_set ?_ GE144.out | refine below_set ?_ GE145.out | refine below_set ?_ GE155.out | refine below_set ?_ GE156.out | refine below_set ?_ GE160.out) | exact HB.out)) hb); have n8_ := Aside0.mk (hbox); have n9_ := Aside0.mk ((by rw [hg]; exact (below_size (by repeat (first | (with_reducible first | exact HB.out | apply below_alloc | apply pN | apply dI | refine below_set ?_ GE135.out | refine below_set ?_ GE136.out | refine below_set ?_ GE144.out | refine below_set ?_ GE145.out | refine below_set ?_ GE155.out | refine below_set ?_ GE156.out | refine below_set ?_ GE160.out) | exact HB.out))) : w.heap.size ≤ gb164)); have n10_ := Aside0.mk ((by rw [hg]; exact (below_size (by repeat (first | (with_reducible first | exact HB.out | apply below_alloc | apply pN | apply dI | refine below_set ?_ GE135.out | refine below_set ?_ GE136.out | refine below_set ?_ GE144.out | refine below_set ?_ GE145.out | refine below_set ?_ GE155.out | refine below_set ?_ GE156.out | refine below_set ?_ GE160.out) | exact HB.out))) : w.heap.size ≤ gb164)); have n11_ := Aside0.mk ((by rw [hg]; exact Nat.ne_of_lt (blk_lt (g := gb135) (o := .cells #[.int .u64 a0_0, .int .u64 a0_1, .int .u64 a0_2, .int .u64 a0_3] 26 (0, 0)) (by (with_reducible repeat (first | refine bN ?_ _ | refine bD ?_ | refine bL ?_ _)); exact BK135.out)) : gb135 ≠ gb164)); have n12_ := Aside0.mk ((by rw [hg]; exact Nat.ne_of_gt (blk_lt (g := gb135) (o := .cells #[.int .u64 a0_0, .int .u64 a0_1, .int .u64 a0_2, .int .u64 a0_3] 26 (0, 0)) (by (with_reducible repeat (first | refine bN ?_ _ | refine bD ?_ | refine bL ?_ _)); exact BK135.out)) : gb164 ≠ gb135)); have n13_ := Aside0.mk ((by rw [hg]; exact Nat.ne_of_lt (blk_lt (g := gb136) (o := .cells #[.int .u64 a1_0, .int .u64 a1_1] 24 (0, 0)) (by (with_reducible repeat (first | refine bN ?_ _ | refine bD ?_ | refine bL ?_ _)); exact BK136.out)) : gb136 ≠ gb164)); have n14_ := Aside0.mk ((by rw [hg]; exact Nat.ne_of_gt (blk_lt (g := gb136) (o := .cells #[.int .u64 a1_0, .int .u64 a1_1] 24 (0, 0)) (by (with_reducible repeat (first | refine bN ?_ _ | refine bD ?_ | refine bL ?_ _)); exact BK136.out)) : gb164 ≠ gb136)); have n15_ := Aside0.mk ((by rw [hg]; exact Nat.ne_of_lt (blk_lt (g := gb144) (o := .cells #[.int .u64 t137, .int .u64 t138, .int .u64 t139, .int .u64 t140] 26 (0, 0)) (by (with_reducible repeat (first | refine bN ?_ _ | refine bD ?_ | refine bL ?_ _)); exact BK144.out)) : gb144 ≠ gb164)); have n16_ := Aside0.mk ((by rw [hg]; exact Nat.ne_of_gt (blk_lt (g := gb144) (o := .cells #[.int .u64 t137, .int .u64 t138, .int .u64 t139, .int .u64 t140] 26 (0, 0)) (by (with_reducible repeat (first | refine bN ?_ _ | refine bD ?_ | refine bL ?_ _)); exact BK144.out)) : gb164 ≠ gb144)); have n17_ := Aside0.mk ((by rw [hg]; exact Nat.ne_of_lt (blk_lt (g := gb145) (o := .cells #[.int .u64 t141, .int .u64 t142] 24 (0, 0)) (by (with_reducible repeat (first | refine bN ?_ _ | refine bD ?_ | refine bL ?_ _)); exact BK145.out)) : gb145 ≠ gb164)); have n18_ := Aside0.mk ((by rw [hg]; exact Nat.ne_of_gt (blk_lt (g := gb145) (o := .cells #[.int .u64 t141, .int .u64 t142] 24 (0, 0)) (by (with_reducible repeat (first | refine bN ?_ _ | refine bD ?_ | refine bL ?_ _)); exact BK145.out)) : gb164 ≠ gb145)); have n19_ := Aside0.mk ((by rw [hg]; exact Nat.ne_of_lt (blk_lt (g := gb155) (o := .cells #[.int .u64 t147, .int .u64 t148, .int .u64 t149, .int .u64 t150] 26 (0, 0)) (by (with_reducible repeat (first | refine bN ?_ _ | refine bD ?_ | refine bL ?_ _)); exact BK155.out)) : gb155 ≠ gb164)); have n20_ := Aside0.mk ((by rw [hg]; exact Nat.ne_of_gt (blk_lt (g := gb155) (o := .cells #[.int .u64 t147, .int .u64 t148, .int .u64 t149, .int .u64 t150] 26 (0, 0)) (by (with_reducible repeat (first | refine bN ?_ _ | refine bD ?_ | refine bL ?_ _)); exact BK155.out)) : gb164 ≠ gb155)); have n21_ := Aside0.mk ((by rw [hg]; exact Nat.ne_of_lt (blk_lt (g := gb156) (o := .cells #[.int .u64 t151, .int .u64 t152, .int .u64 t153, .int .u64 t154] 26 (0, 0)) (by (with_reducible repeat (first | refine bN ?_ _ | refine bD ?_ | refine bL ?_ _)); exact BK156.out)) : gb156 ≠ gb164)); have n22_ := Aside0.mk ((by rw [hg]; exact Nat.ne_of_gt (blk_lt (g := gb156) (o := .cells #[.int .u64 t151, .int .u64 t152, .int .u64 t153, .int .u64 t154] 26 (0, 0)) (by (with_reducible repeat (first | refine bN ?_ _ | refine bD ?_ | refine bL ?_ _)); exact BK156.out)) : gb164 ≠ gb156)); have n23_ := Aside0.mk ((by rw [hg]; exact Nat.ne_of_lt (blk_lt (g := gb160) (o := .cells #[.int .u64 t157, .int .u64 t158] 24 (0, 0)) (by (with_reducible repeat (first | refine bN ?_ _ | refine bD ?_ | refine bL ?_ _)); exact BK160.out)) : gb160 ≠ gb164)); have n24_ := Aside0.mk ((by rw [hg]; exact Nat.ne_of_gt (blk_lt (g := gb160) (o := .cells #[.int .u64 t157, .int .u64 t158] 24 (0, 0)) (by (with_reducible repeat (first | refine bN ?_ _ | refine bD ?_ | refine bL ?_ _)); exact BK160.out)) : gb164 ≠ gb160)); clear BK135; clear BK136; clear BK144; clear BK145; clear BK155; clear BK156; clear BK160; clear HB; have BK135 := n0_; have BK136 := n1_; have BK144 := n2_; have BK145 := n3_; have BK155 := n4_; have BK156 := n5_; have BK160 := n6_; have HB := n7_; have BK164 := n8_; have GW164 := n9_; have GE164 := n10_; have NB135_164 := n11_; have NB164_135 := n12_; have NB136_164 := n13_; have NB164_136 := n14_; have NB144_164 := n15_; have NB164_144 := n16_; have NB145_164 := n17_; have NB164_145 := n18_; have NB155_164 := n19_; have NB164_155 := n20_; have NB156_164 := n21_; have NB164_156 := n22_; have NB160_164 := n23_; have NB164_160 := n24_; clear n0_ n1_ n2_ n3_ n4_ n5_ n6_ n7_ n8_ n9_ n10_ n11_ n12_ n13_ n14_ n15_ n16_ n17_ n18_ n19_ n20_ n21_ n22_ n23_ n24_; clear hb hbox hg; have hnb198 := NB164_135.out; have hnc198 := NB135_164.out; have hnb199 := NB164_136.out; have hnc199 := NB136_164.out; have hnb200 := NB164_144.out; have hnc200 := NB144_164.out; have hnb201 := NB164_145.out; have hnc201 := NB145_164.out; have hnb202 := NB164_155.out; have hnc202 := NB155_164.out; have hnb203 := NB164_156.out; have hnc203 := NB156_164.out; have hnb204 := NB164_160.out; have hnc204 := NB160_164.out; have hcz205_0 : w197.cell? ⟨gb164, 0, none⟩ = some (.int .u64 0) := (bC BK164.out 0).trans rfl; have hcz205_1 : w197.cell? ⟨gb164, 1, none⟩ = some (.int .u64 0) := (bC BK164.out 1).trans rfl; have hfz205_0 := bF BK164.out 0; have hfz205_1 := bF BK164.out 1; have hcz206_0 : w197.cell? ⟨gb145, 0, none⟩ = some (.int .u64 t141) := (bC BK145.out 0).trans rfl; have hcz206_1 : w197.cell? ⟨gb145, 1, none⟩ = some (.int .u64 t142) := (bC BK145.out 1).trans rfl; have hfz206_0 := bF BK145.out 0; have hfz206_1 := bF BK145.out 1; have hcz207_0 : w197.cell? ⟨gb136, 0, none⟩ = some (.int .u64 a1_0) := (bC BK136.out 0).trans rfl; have hcz207_1 : w197.cell? ⟨gb136, 1, none⟩ = some (.int .u64 a1_1) := (bC BK136.out 1).trans rfl; have hfz207_0 := bF BK136.out 0; have hfz207_1 := bF BK136.out 1) | ((with_reducible refine gate_callee (f := 18) rfl ?_); refine goesL_ (some 81) rfl rfl Try.func18 (by kernel_rfl) rfl #[.agg #[.int .u64 t141, .int .u64 t142], .agg #[.int .u64 a1_0, .int .u64 a1_1]] rfl (by (try simp only [List.map_toArray, List.map_cons, List.map_nil]); first | done | rfl | (simp only [List.length_drop, List.length_take]; rfl)) ?_; (with_reducible refine (limb_Sub.calls t141 t142 a1_0 a1_1 t178 t179 true _ A136.out).mono ?_); rintro e w208 ⟨rfl, hb⟩; refine ⟨_, rfl, ?_⟩; have n0_ := Aside0.mk (bB (g := gb135) (o := .cells #[.int .u64 a0_0, .int .u64 a0_1, .int .u64 a0_2, .int .u64 a0_3] 26 (0, 0)) (by (with_reducible repeat (first | refine bN ?_ _ | refine bD ?_ | refine bL ?_ _)); refine bX ?_ NB135_164.out _; (with_reducible repeat (first | refine bN ?_ _ | refine bD ?_ | refine bL ?_ _)); refine bX ?_ NB135_164.out _; (with_reducible repeat (first | refine bN ?_ _ | refine bD ?_ | refine bL ?_ _)); exact BK135.out) hb); have n1_ := Aside0.mk (bB (g := gb136) (o := .cells #[.int .u64 a1_0, .int .u64 a1_1] 24 (0, 0)) (by (with_reducible repeat (first | refine bN ?_ _ | refine bD ?_ | refine bL ?_ _)); refine bX ?_ NB136_164.out _; (with_reducible repeat (first | refine bN ?_ _ | refine bD ?_ | refine bL ?_ _)); refine bX ?_ NB136_164.out _; (with_reducible repeat (first | refine bN ?_ _ | refine bD ?_ | refine bL ?_ _)); exact BK136.out) hb); have n2_ := Aside0.mk (bB (g := gb144) (o := .cells #[.int .u64 t137, .int .u64 t138, .int .u64 t139, .int .u64 t140] 26 (0, 0)) (by (with_reducible repeat (first | refine bN ?_ _ | refine bD ?_ | refine bL ?_ _)); refine bX ?_ NB144_164.out _; (with_reducible repeat (first | refine bN ?_ _ | refine bD ?_ | refine bL ?_ _)); refine bX ?_ NB144_164.out _; (with_reducible repeat (first | refine bN ?_ _ | refine bD ?_ | refine bL ?_ _)); exact BK144.out) hb); have n3_ := Aside0.mk (bB (g := gb145) (o := .cells #[.int .u64 t141, .int .u64 t142] 24 (0, 0)) (by (with_reducible repeat (first | refine bN ?_ _ | refine bD ?_ | refine bL ?_ _)); refine bX ?_ NB145_164.out _; (with_reducible repeat (first | refine bN ?_ _ | refine bD ?_ | refine bL ?_ _)); refine bX ?_ NB145_164.out _; (with_reducible repeat (first | refine bN ?_ _ | refine bD ?_ | refine bL ?_ _)); exact BK145.out) hb); have n4_ := Aside0.mk (bB (g := gb155) (o := .cells #[.int .u64 t147, .int .u64 t148, .int .u64 t149, .int .u64 t150] 26 (0, 0)) (by (with_reducible repeat (first | refine bN ?_ _ | refine bD ?_ | refine bL ?_ _)); refine bX ?_ NB155_164.out _; (with_reducible repeat (first | refine bN ?_ _ | refine bD ?_ | refine bL ?_ _)); refine bX ?_ NB155_164.out _; (with_reducible repeat (first | refine bN ?_ _ | refine bD ?_ | refine bL ?_ _)); exact BK155.out) hb); have n5_ := Aside0.mk (bB (g := gb156) (o := .cells #[.int .u64 t151, .int .u64 t152, .int .u64 t153, .int .u64 t154] 26 (0, 0)) (by (with_reducible repeat (first | refine bN ?_ _ | refine bD ?_ | refine bL ?_ _)); refine bX ?_ NB156_164.out _; (with_reducible repeat (first | refine bN ?_ _ | refine bD ?_ | refine bL ?_ _)); refine bX ?_ NB156_164.out _; (with_reducible repeat (first | refine bN ?_ _ | refine bD ?_ | refine bL ?_ _)); exact BK156.out) hb); have n6_ := Aside0.mk (bB (g := gb160) (o := .cells #[.int .u64 t157, .int .u64 t158] 24 (0, 0)) (by (with_reducible repeat (first | refine bN ?_ _ | refine bD ?_ | refine bL ?_ _)); refine bX ?_ NB160_164.out _; (with_reducible repeat (first | refine bN ?_ _ | refine bD ?_ | refine bL ?_ _)); refine bX ?_ NB160_164.out _; (with_reducible repeat (first | refine bN ?_ _ | refine bD ?_ | refine bL ?_ _)); exact BK160.out) hb); have n7_ := Aside0.mk (bB (g := gb164) (o := .cells #[.int .u64 t161, .int .u64 t162] 24 (0, 0)) (by (with_reducible repeat (first | refine bN ?_ _ | refine bD ?_ | refine bL ?_ _)); refine blk_put (cs := #[.int .u64 t161, .int .u64 0]) ?_ 1 _ rfl; (with_reducible repeat (first | refine bN ?_ _ | refine bD ?_ | refine bL ?_ _)); refine blk_put (cs := #[.int .u64 0, .int .u64 0]) ?_ 0 _ rfl; (with_reducible repeat (first | refine bN ?_ _ | refine bD ?_ | refine bL ?_ _)); exact BK164.out) hb); have n8_ := Aside0.mk (below_step (by repeat (first | (with_reducible first | exact HB.out | apply below_alloc | apply pN | apply dI | refine below_set ?_ GE135.out | refine below_set ?_ GE136.out | refine below_set ?_ GE144.out | refine below_set ?_ GE145.out | refine below_set ?_ GE155.out | refine below_set ?_ GE156.out | refine below_set ?_ GE160.out | refine below_set ?_ GE164.out) | exact HB.out)) hb); clear BK135; clear BK136; clear BK144; clear BK145; clear BK155; clear BK156; clear BK160; clear BK164; clear HB; have BK135 := n0_; have BK136 := n1_; have BK144 := n2_; have BK145 := n3_; have BK155 := n4_; have BK156 := n5_; have BK160 := n6_; have BK164 := n7_; have HB := n8_; clear n0_ n1_ n2_ n3_ n4_ n5_ n6_ n7_ n8_; (try clear hb); (try clear hb2); (try clear hk); (try clear hi)) | ((with_reducible refine gate_dst (N := 16) rfl ?_); refine box_event ?hg (N := 16) ?hd (cs := #[.int .u64 0, .int .u64 0]) (t := 24) ?hr ?_; (case hd => rfl); (case hg => rfl); (case hr => first | (go_simp; done) | (go_simp; rfl)); intro gb181 hg w209 hbox hb; have n0_ := Aside0.mk (bB (g := gb135) (o := .cells #[.int .u64 a0_0, .int .u64 a0_1, .int .u64 a0_2, .int .u64 a0_3] 26 (0, 0)) (by (with_reducible repeat (first | refine bN ?_ _ | refine bD ?_ | refine bL ?_ _)); exact BK135.out) hb); have n1_ := Aside0.mk (bB (g := gb136) (o := .cells #[.int .u64 a1_0, .int .u64 a1_1] 24 (0, 0)) (by (with_reducible repeat (first | refine bN ?_ _ | refine bD ?_ | refine bL ?_ _)); exact BK136.out) hb); have n2_ := Aside0.mk (bB (g := gb144) (o := .cells #[.int .u64 t137, .int .u64 t138, .int .u64 t139, .int .u64 t140] 26 (0, 0)) (by (with_reducible repeat (first | refine bN ?_ _ | refine bD ?_ | refine bL ?_ _)); exact BK144.out) hb); have n3_ := Aside0.mk (bB (g := gb145) (o := .cells #[.int .u64 t141, .int .u64 t142] 24 (0, 0)) (by (with_reducible repeat (first | refine bN ?_ _ | refine bD ?_ | refine bL ?_ _)); exact BK145.out) hb); have n4_ := Aside0.mk (bB (g := gb155) (o := .cells #[.int .u64 t147, .int .u64 t148, .int .u64 t149, .int .u64 t150] 26 (0, 0)) (by (with_reducible repeat (first | refine bN ?_ _ | refine bD ?_ | refine bL ?_ _)); exact BK155.out) hb); have n5_ := Aside0.mk (bB (g := gb156) (o := .cells #[.int .u64 t151, .int .u64 t152, .int .u64 t153, .int .u64 t154] 26 (0, 0)) (by (with_reducible repeat (first | refine bN ?_ _ | refine bD ?_ | refine bL ?_ _)); exact BK156.out) hb); have n6_ := Aside0.mk (bB (g := gb160) (o := .cells #[.int .u64 t157, .int .u64 t158] 24 (0, 0)) (by (with_reducible repeat (first | refine bN ?_ _ | refine bD ?_ | refine bL ?_ _)); exact BK160.out) hb); have n7_ := Aside0.mk (bB (g := gb164) (o := .cells #[.int .u64 t161, .int .u64 t162] 24 (0, 0)) (by (with_reducible repeat (first | refine bN ?_ _ | refine bD ?_ | refine bL ?_ _)); exact BK164.out) hb); have n8_ := Aside0.mk (below_step (by repeat (first | (with_reducible first | exact HB.out | apply below_alloc | apply pN | apply dI | refine below_set ?_ GE135.out | refine below_set ?_ GE136.out | refine below_set ?_ GE144.out | refine below_set ?_ GE145.out | refine below_set ?_ GE155.out | refine below_set ?_ GE156.out | refine below_set ?_ GE160.out | refine below_set ?_ GE164.out) | exact HB.out)) hb); have n9_ := Aside0.mk (hbox); have n10_ := Aside0.mk ((by rw [hg]; exact (below_size (by repeat (first | (with_reducible first | exact HB.out | apply below_alloc | apply pN | apply dI | refine below_set ?_ GE135.out | refine below_set ?_ GE136.out | refine below_set ?_ GE144.out | refine below_set ?_ GE145.out | refine below_set ?_ GE155.out | refine below_set ?_ GE156.out | refine below_set ?_ GE160.out | refine below_set ?_ GE164.out) | exact HB.out))) : w.heap.size ≤ gb181)); have n11_ := Aside0.mk ((by rw [hg]; exact (below_size (by repeat (first | (with_reducible first | exact HB.out | apply below_alloc | apply pN | apply dI | refine below_set ?_ GE135.out | refine below_set ?_ GE136.out | refine below_set ?_ GE144.out | refine below_set ?_ GE145.out | refine below_set ?_ GE155.out | refine below_set ?_ GE156.out | refine below_set ?_ GE160.out | refine below_set ?_ GE164.out) | exact HB.out))) : w.heap.size ≤ gb181)); have n12_ := Aside0.mk ((by rw [hg]; exact Nat.ne_of_lt (blk_lt (g := gb135) (o := .cells #[.int .u64 a0_0, .int .u64 a0_1, .int .u64 a0_2, .int .u64 a0_3] 26 (0, 0)) (by (with_reducible repeat (first | refine bN ?_ _ | refine bD ?_ | refine bL ?_ _)); exact BK135.out)) : gb135 ≠ gb181)); have n13_ := Aside0.mk ((by rw [hg]; exact Nat.ne_of_gt (blk_lt (g := gb135) (o := .cells #[.int .u64 a0_0, .int .u64 a0_1, .int .u64 a0_2, .int .u64 a0_3] 26 (0, 0)) (by (with_reducible repeat (first | refine bN ?_ _ | refine bD ?_ | refine bL ?_ _)); exact BK135.out)) : gb181 ≠ gb135)); have n14_ := Aside0.mk ((by rw [hg]; exact Nat.ne_of_lt (blk_lt (g := gb136) (o := .cells #[.int .u64 a1_0, .int .u64 a1_1] 24 (0, 0)) (by (with_reducible repeat (first | refine bN ?_ _ | refine bD ?_ | refine bL ?_ _)); exact BK136.out)) : gb136 ≠ gb181)); have n15_ := Aside0.mk ((by rw [hg]; exact Nat.ne_of_gt (blk_lt (g := gb136) (o := .cells #[.int .u64 a1_0, .int .u64 a1_1] 24 (0, 0)) (by (with_reducible repeat (first | refine bN ?_ _ | refine bD ?_ | refine bL ?_ _)); exact BK136.out)) : gb181 ≠ gb136)); have n16_ := Aside0.mk ((by rw [hg]; exact Nat.ne_of_lt (blk_lt (g := gb144) (o := .cells #[.int .u64 t137, .int .u64 t138, .int .u64 t139, .int .u64 t140] 26 (0, 0)) (by (with_reducible repeat (first | refine bN ?_ _ | refine bD ?_ | refine bL ?_ _)); exact BK144.out)) : gb144 ≠ gb181)); have n17_ := Aside0.mk ((by rw [hg]; exact Nat.ne_of_gt (blk_lt (g := gb144) (o := .cells #[.int .u64 t137, .int .u64 t138, .int .u64 t139, .int .u64 t140] 26 (0, 0)) (by (with_reducible repeat (first | refine bN ?_ _ | refine bD ?_ | refine bL ?_ _)); exact BK144.out)) : gb181 ≠ gb144)); have n18_ := Aside0.mk ((by rw [hg]; exact Nat.ne_of_lt (blk_lt (g := gb145) (o := .cells #[.int .u64 t141, .int .u64 t142] 24 (0, 0)) (by (with_reducible repeat (first | refine bN ?_ _ | refine bD ?_ | refine bL ?_ _)); exact BK145.out)) : gb145 ≠ gb181)); have n19_ := Aside0.mk ((by rw [hg]; exact Nat.ne_of_gt (blk_lt (g := gb145) (o := .cells #[.int .u64 t141, .int .u64 t142] 24 (0, 0)) (by (with_reducible repeat (first | refine bN ?_ _ | refine bD ?_ | refine bL ?_ _)); exact BK145.out)) : gb181 ≠ gb145)); have n20_ := Aside0.mk ((by rw [hg]; exact Nat.ne_of_lt (blk_lt (g := gb155) (o := .cells #[.int .u64 t147, .int .u64 t148, .int .u64 t149, .int .u64 t150] 26 (0, 0)) (by (with_reducible repeat (first | refine bN ?_ _ | refine bD ?_ | refine bL ?_ _)); exact BK155.out)) : gb155 ≠ gb181)); have n21_ := Aside0.mk ((by rw [hg]; exact Nat.ne_of_gt (blk_lt (g := gb155) (o := .cells #[.int .u64 t147, .int .u64 t148, .int .u64 t149, .int .u64 t150] 26 (0, 0)) (by (with_reducible repeat (first | refine bN ?_ _ | refine bD ?_ | refine bL ?_ _)); exact BK155.out)) : gb181 ≠ gb155)); have n22_ := Aside0.mk ((by rw [hg]; exact Nat.ne_of_lt (blk_lt (g := gb156) (o := .cells #[.int .u64 t151, .int .u64 t152, .int .u64 t153, .int .u64 t154] 26 (0, 0)) (by (with_reducible repeat (first | refine bN ?_ _ | refine bD ?_ | refine bL ?_ _)); exact BK156.out)) : gb156 ≠ gb181)); have n23_ := Aside0.mk ((by rw [hg]; exact Nat.ne_of_gt (blk_lt (g := gb156) (o := .cells #[.int .u64 t151, .int .u64 t152, .int .u64 t153, .int .u64 t154] 26 (0, 0)) (by (with_reducible repeat (first | refine bN ?_ _ | refine bD ?_ | refine bL ?_ _)); exact BK156.out)) : gb181 ≠ gb156)); have n24_ := Aside0.mk ((by rw [hg]; exact Nat.ne_of_lt (blk_lt (g := gb160) (o := .cells #[.int .u64 t157, .int .u64 t158] 24 (0, 0)) (by (with_reducible repeat (first | refine bN ?_ _ | refine bD ?_ | refine bL ?_ _)); exact BK160.out)) : gb160 ≠ gb181)); have n25_ := Aside0.mk ((by rw [hg]; exact Nat.ne_of_gt (blk_lt (g := gb160) (o := .cells #[.int .u64 t157, .int .u64 t158] 24 (0, 0)) (by (with_reducible repeat (first | refine bN ?_ _ | refine bD ?_ | refine bL ?_ _)); exact BK160.out)) : gb181 ≠ gb160)); have n26_ := Aside0.mk ((by rw [hg]; exact Nat.ne_of_lt (blk_lt (g := gb164) (o := .cells #[.int .u64 t161, .int .u64 t162] 24 (0, 0)) (by (with_reducible repeat (first | refine bN ?_ _ | refine bD ?_ | refine bL ?_ _)); exact BK164.out)) : gb164 ≠ gb181)); have n27_ := Aside0.mk ((by rw [hg]; exact Nat.ne_of_gt (blk_lt (g := gb164) (o := .cells #[.int .u64 t161, .int .u64 t162] 24 (0, 0)) (by (with_reducible repeat (first | refine bN ?_ _ | refine bD ?_ | refine bL ?_ _)); exact BK164.out)) : gb181 ≠ gb164)); clear BK135; clear BK136; clear BK144; clear BK145; clear BK155; clear BK156; clear BK160; clear BK164; clear HB; have BK135 := n0_; have BK136 := n1_; have BK144 := n2_; have BK145 := n3_; have BK155 := n4_; have BK156 := n5_; have BK160 := n6_; have BK164 := n7_; have HB := n8_; have BK181 := n9_; have GW181 := n10_; have GE181 := n11_; have NB135_181 := n12_; have NB181_135 := n13_; have NB136_181 := n14_; have NB181_136 := n15_; have NB144_181 := n16_; have NB181_144 := n17_; have NB145_181 := n18_; have NB181_145 := n19_; have NB155_181 := n20_; have NB181_155 := n21_; have NB156_181 := n22_; have NB181_156 := n23_; have NB160_181 := n24_; have NB181_160 := n25_; have NB164_181 := n26_; have NB181_164 := n27_; clear n0_ n1_ n2_ n3_ n4_ n5_ n6_ n7_ n8_ n9_ n10_ n11_ n12_ n13_ n14_ n15_ n16_ n17_ n18_ n19_ n20_ n21_ n22_ n23_ n24_ n25_ n26_ n27_; clear hb hbox hg; have hnb210 := NB181_135.out; have hnc210 := NB135_181.out; have hnb211 := NB181_136.out; have hnc211 := NB136_181.out; have hnb212 := NB181_144.out; have hnc212 := NB144_181.out; have hnb213 := NB181_145.out; have hnc213 := NB145_181.out; have hnb214 := NB181_155.out; have hnc214 := NB155_181.out; have hnb215 := NB181_156.out; have hnc215 := NB156_181.out; have hnb216 := NB181_160.out; have hnc216 := NB160_181.out; have hnb217 := NB181_164.out; have hnc217 := NB164_181.out; have hcz218_0 : w209.cell? ⟨gb181, 0, none⟩ = some (.int .u64 0) := (bC BK181.out 0).trans rfl; have hcz218_1 : w209.cell? ⟨gb181, 1, none⟩ = some (.int .u64 0) := (bC BK181.out 1).trans rfl; have hfz218_0 := bF BK181.out 0; have hfz218_1 := bF BK181.out 1; have hcz219_0 : w209.cell? ⟨gb156, 0, none⟩ = some (.int .u64 t151) := (bC BK156.out 0).trans rfl; have hcz219_1 : w209.cell? ⟨gb156, 1, none⟩ = some (.int .u64 t152) := (bC BK156.out 1).trans rfl; have hcz219_2 : w209.cell? ⟨gb156, 2, none⟩ = some (.int .u64 t153) := (bC BK156.out 2).trans rfl; have hcz219_3 : w209.cell? ⟨gb156, 3, none⟩ = some (.int .u64 t154) := (bC BK156.out 3).trans rfl; have hfz219_0 := bF BK156.out 0; have hfz219_1 := bF BK156.out 1; have hfz219_2 := bF BK156.out 2; have hfz219_3 := bF BK156.out 3; have hcz220_0 : w209.cell? ⟨gb164, 0, none⟩ = some (.int .u64 t161) := (bC BK164.out 0).trans rfl; have hcz220_1 : w209.cell? ⟨gb164, 1, none⟩ = some (.int .u64 t162) := (bC BK164.out 1).trans rfl; have hfz220_0 := bF BK164.out 0; have hfz220_1 := bF BK164.out 1; have hcz221_0 : w209.cell? ⟨gb160, 0, none⟩ = some (.int .u64 t157) := (bC BK160.out 0).trans rfl; have hcz221_1 : w209.cell? ⟨gb160, 1, none⟩ = some (.int .u64 t158) := (bC BK160.out 1).trans rfl; have hfz221_0 := bF BK160.out 0; have hfz221_1 := bF BK160.out 1; have hcz222_0 : w209.cell? ⟨gb135, 0, none⟩ = some (.int .u64 a0_0) := (bC BK135.out 0).trans rfl; have hcz222_1 : w209.cell? ⟨gb135, 1, none⟩ = some (.int .u64 a0_1) := (bC BK135.out 1).trans rfl; have hcz222_2 : w209.cell? ⟨gb135, 2, none⟩ = some (.int .u64 a0_2) := (bC BK135.out 2).trans rfl; have hcz222_3 : w209.cell? ⟨gb135, 3, none⟩ = some (.int .u64 a0_3) := (bC BK135.out 3).trans rfl; have hfz222_0 := bF BK135.out 0; have hfz222_1 := bF BK135.out 1; have hfz222_2 := bF BK135.out 2; have hfz222_3 := bF BK135.out 3) | (go_at_call 16; (with_reducible refine (perigeelaw1_awake.calls k  t182 _ A142.out).mono ?_); rintro e w223 ⟨rfl, hb⟩; have n0_ := Aside0.mk (bB (g := gb135) (o := .cells #[.int .u64 a0_0, .int .u64 a0_1, .int .u64 a0_2, .int .u64 a0_3] 26 (0, 0)) (by (with_reducible repeat (first | refine bN ?_ _ | refine bD ?_ | refine bL ?_ _)); refine bX ?_ NB135_181.out _; (with_reducible repeat (first | refine bN ?_ _ | refine bD ?_ | refine bL ?_ _)); refine bX ?_ NB135_181.out _; (with_reducible repeat (first | refine bN ?_ _ | refine bD ?_ | refine bL ?_ _)); exact BK135.out) hb); have n1_ := Aside0.mk (bB (g := gb136) (o := .cells #[.int .u64 a1_0, .int .u64 a1_1] 24 (0, 0)) (by (with_reducible repeat (first | refine bN ?_ _ | refine bD ?_ | refine bL ?_ _)); refine bX ?_ NB136_181.out _; (with_reducible repeat (first | refine bN ?_ _ | refine bD ?_ | refine bL ?_ _)); refine bX ?_ NB136_181.out _; (with_reducible repeat (first | refine bN ?_ _ | refine bD ?_ | refine bL ?_ _)); exact BK136.out) hb); have n2_ := Aside0.mk (bB (g := gb144) (o := .cells #[.int .u64 t137, .int .u64 t138, .int .u64 t139, .int .u64 t140] 26 (0, 0)) (by (with_reducible repeat (first | refine bN ?_ _ | refine bD ?_ | refine bL ?_ _)); refine bX ?_ NB144_181.out _; (with_reducible repeat (first | refine bN ?_ _ | refine bD ?_ | refine bL ?_ _)); refine bX ?_ NB144_181.out _; (with_reducible repeat (first | refine bN ?_ _ | refine bD ?_ | refine bL ?_ _)); exact BK144.out) hb); have n3_ := Aside0.mk (bB (g := gb145) (o := .cells #[.int .u64 t141, .int .u64 t142] 24 (0, 0)) (by (with_reducible repeat (first | refine bN ?_ _ | refine bD ?_ | refine bL ?_ _)); refine bX ?_ NB145_181.out _; (with_reducible repeat (first | refine bN ?_ _ | refine bD ?_ | refine bL ?_ _)); refine bX ?_ NB145_181.out _; (with_reducible repeat (first | refine bN ?_ _ | refine bD ?_ | refine bL ?_ _)); exact BK145.out) hb); have n4_ := Aside0.mk (bB (g := gb155) (o := .cells #[.int .u64 t147, .int .u64 t148, .int .u64 t149, .int .u64 t150] 26 (0, 0)) (by (with_reducible repeat (first | refine bN ?_ _ | refine bD ?_ | refine bL ?_ _)); refine bX ?_ NB155_181.out _; (with_reducible repeat (first | refine bN ?_ _ | refine bD ?_ | refine bL ?_ _)); refine bX ?_ NB155_181.out _; (with_reducible repeat (first | refine bN ?_ _ | refine bD ?_ | refine bL ?_ _)); exact BK155.out) hb); have n5_ := Aside0.mk (bB (g := gb156) (o := .cells #[.int .u64 t151, .int .u64 t152, .int .u64 t153, .int .u64 t154] 26 (0, 0)) (by (with_reducible repeat (first | refine bN ?_ _ | refine bD ?_ | refine bL ?_ _)); refine bX ?_ NB156_181.out _; (with_reducible repeat (first | refine bN ?_ _ | refine bD ?_ | refine bL ?_ _)); refine bX ?_ NB156_181.out _; (with_reducible repeat (first | refine bN ?_ _ | refine bD ?_ | refine bL ?_ _)); exact BK156.out) hb); have n6_ := Aside0.mk (bB (g := gb160) (o := .cells #[.int .u64 t157, .int .u64 t158] 24 (0, 0)) (by (with_reducible repeat (first | refine bN ?_ _ | refine bD ?_ | refine bL ?_ _)); refine bX ?_ NB160_181.out _; (with_reducible repeat (first | refine bN ?_ _ | refine bD ?_ | refine bL ?_ _)); refine bX ?_ NB160_181.out _; (with_reducible repeat (first | refine bN ?_ _ | refine bD ?_ | refine bL ?_ _)); exact BK160.out) hb); have n7_ := Aside0.mk (bB (g := gb164) (o := .cells #[.int .u64 t161, .int .u64 t162] 24 (0, 0)) (by (with_reducible repeat (first | refine bN ?_ _ | refine bD ?_ | refine bL ?_ _)); refine bX ?_ NB164_181.out _; (with_reducible repeat (first | refine bN ?_ _ | refine bD ?_ | refine bL ?_ _)); refine bX ?_ NB164_181.out _; (with_reducible repeat (first | refine bN ?_ _ | refine bD ?_ | refine bL ?_ _)); exact BK164.out) hb); have n8_ := Aside0.mk (bB (g := gb181) (o := .cells #[.int .u64 t178, .int .u64 t179] 24 (0, 0)) (by (with_reducible repeat (first | refine bN ?_ _ | refine bD ?_ | refine bL ?_ _)); refine blk_put (cs := #[.int .u64 t178, .int .u64 0]) ?_ 1 _ rfl; (with_reducible repeat (first | refine bN ?_ _ | refine bD ?_ | refine bL ?_ _)); refine blk_put (cs := #[.int .u64 0, .int .u64 0]) ?_ 0 _ rfl; (with_reducible repeat (first | refine bN ?_ _ | refine bD ?_ | refine bL ?_ _)); exact BK181.out) hb); have n9_ := Aside0.mk (below_step (by repeat (first | (with_reducible first | exact HB.out | apply below_alloc | apply pN | apply dI | refine below_set ?_ GE135.out | refine below_set ?_ GE136.out | refine below_set ?_ GE144.out | refine below_set ?_ GE145.out | refine below_set ?_ GE155.out | refine below_set ?_ GE156.out | refine below_set ?_ GE160.out | refine below_set ?_ GE164.out | refine below_set ?_ GE181.out) | exact HB.out)) hb); clear BK135; clear BK136; clear BK144; clear BK145; clear BK155; clear BK156; clear BK160; clear BK164; clear BK181; clear HB; have BK135 := n0_; have BK136 := n1_; have BK144 := n2_; have BK145 := n3_; have BK155 := n4_; have BK156 := n5_; have BK160 := n6_; have BK164 := n7_; have BK181 := n8_; have HB := n9_; clear n0_ n1_ n2_ n3_ n4_ n5_ n6_ n7_ n8_ n9_; (try clear hb); (try clear hb2); (try clear hk); (try clear hi)))
  go_ret
  exact ⟨by first | rfl | (simp [errW_none, errW_some] <;> rfl) | (simp [*, errW_none, errW_some] <;> rfl), by repeat (first | (with_reducible first | exact HB.out | apply below_alloc | apply pN | apply dI | refine below_set ?_ GE135.out | refine below_set ?_ GE136.out | refine below_set ?_ GE144.out | refine below_set ?_ GE145.out | refine below_set ?_ GE155.out | refine below_set ?_ GE156.out | refine below_set ?_ GE160.out | refine below_set ?_ GE164.out | refine below_set ?_ GE181.out) | exact HB.out)⟩
end Go.Proofs.Ytlpdongckcaclaa.B
