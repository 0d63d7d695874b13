/- Functions of the translation as plain Lean functions, and their walks: written by a program of this session's on the kit's print, for this seat. -/
import Derived.Test.YtlpdongckcaclaaSx0
import Derived.Test.YtlpdongckcaclaaSx5
namespace Go.Proofs.Ytlpdongckcaclaa.S
open Go.RowKit Go.Proofs.Ytlpdongckcaclaa.Limb Go.Proofs.Ytlpdongckcaclaa.Plain Go.Proofs.YtlpdongckcaclaaW.PrintWords Go.Proofs.YtlpdongckcaclaaW.PrintLast Go.Proofs.YtlpdongckcaclaaW.PrintMore
open Go.Proofs.YtlpdongckcaclaaW.PrintWords renaming pw_below_drewN → pN, below_drew1 → dI, blk_drewN → bN, blk_alloc → bL, blk_below → bB, blk_cell → bC, blk_frozen → bF, blk_far → bX, blk_drew → bD
attribute [local go_sem] max2_int min2_int max_two min_two max_three min_three max_four min_four   -- for this text's walks alone
set_option linter.unusedVariables false
set_option linter.unusedSimpArgs false

/-! ### perigeeref1_Shr: function 26 -/
mutual
def perigeeref1_Shr.l0 : Nat → Int → List Int → List Int → Int → Option (Int × Int × Int × Int)
 | 0, _, _, _, _ => none
 | k + 1, x1, x5, x6, x7 => if x7 < 4 then (perigeeref1_Shr.j1 k x1 x5 x6 x7 (decide (x1 < 256))) else (perigeeref1_Shr.j1 k x1 x5 x6 x7 false)
def perigeeref1_Shr.j1 : Nat → Int → List Int → List Int → Int → Bool → Option (Int × Int × Int × Int)
 | 0, _, _, _, _, _ => none
 | k + 1, x1, x5, x6, x7, x20 => if x20 = true then (if (wrap64 (x7 + (wrap64 (Int.tdiv x1 64)))) < 4 then (if 0 ≤ (wrap64 (x7 + (wrap64 (Int.tdiv x1 64)))) then (if (wrap64 (x7 + (wrap64 (Int.tdiv x1 64)))) < (x5.length : Int) then (if 0 ≤ (Int.tmod x1 64) then (if 0 ≤ x7 then (if x7 < (x6.length : Int) then ((some (x6.set (x7 : Int).toNat (shr .u64 (rd x5 (wrap64 (x7 + (wrap64 (Int.tdiv x1 64))))) (Int.tmod x1 64)) : List Int)).bind fun y177 => (if (wrap64 (x7 + (wrap64 (Int.tdiv x1 64)))) < 3 then (if (Int.tmod x1 64) > 0 then (if 0 ≤ (wrap64 ((wrap64 (x7 + (wrap64 (Int.tdiv x1 64)))) + 1)) then (if (wrap64 ((wrap64 (x7 + (wrap64 (Int.tdiv x1 64)))) + 1)) < (x5.length : Int) then (if 0 ≤ (wrap64 (64 - (Int.tmod x1 64))) then (perigeeref1_Shr.l0 k x1 x5 (y177.set (x7 : Int).toNat (Go.bits .or .u64 (rd y177 x7) (shl .u64 (rd x5 (wrap64 ((wrap64 (x7 + (wrap64 (Int.tdiv x1 64)))) + 1))) (wrap64 (64 - (Int.tmod x1 64)))))) (wrap64 (x7 + 1))) else (none)) else (none)) else (none)) else (perigeeref1_Shr.l0 k x1 x5 y177 (wrap64 (x7 + 1)))) else (perigeeref1_Shr.l0 k x1 x5 y177 (wrap64 (x7 + 1))))) else (none)) else (none)) else (none)) else (none)) else (none)) else (if (wrap64 (x7 + (wrap64 (Int.tdiv x1 64)))) < 3 then (if (Int.tmod x1 64) > 0 then (if 0 ≤ x7 then (if x7 < (x6.length : Int) then (if 0 ≤ (wrap64 ((wrap64 (x7 + (wrap64 (Int.tdiv x1 64)))) + 1)) then (if (wrap64 ((wrap64 (x7 + (wrap64 (Int.tdiv x1 64)))) + 1)) < (x5.length : Int) then (if 0 ≤ (wrap64 (64 - (Int.tmod x1 64))) then (perigeeref1_Shr.l0 k x1 x5 (x6.set (x7 : Int).toNat (Go.bits .or .u64 (rd x6 x7) (shl .u64 (rd x5 (wrap64 ((wrap64 (x7 + (wrap64 (Int.tdiv x1 64)))) + 1))) (wrap64 (64 - (Int.tmod x1 64)))))) (wrap64 (x7 + 1))) else (none)) else (none)) else (none)) else (none)) else (none)) else (perigeeref1_Shr.l0 k x1 x5 x6 (wrap64 (x7 + 1)))) else (perigeeref1_Shr.l0 k x1 x5 x6 (wrap64 (x7 + 1))))) else ((perigeeref1_four.f x6).bind fun bt172 => (some (bt172.1, bt172.2.1, bt172.2.2.1, bt172.2.2.2)))
end
def perigeeref1_Shr.f (k : Nat) (a0_0 : Int) (a0_1 : Int) (a0_2 : Int) (a0_3 : Int) (a1 : Int) : Option (Int × Int × Int × Int) := if a1 < 0 then (some (a0_0, a0_1, a0_2, a0_3)) else ((perigeeref1_words.f a0_0 a0_1 a0_2 a0_3).bind fun t166 => (if 4 ≤ 35184372088832 then (perigeeref1_Shr.l0 k a1 t166 (List.replicate 4 0) 0) else (none)))
theorem perigeeref1_Shr.mono_l : ∀ k, (∀ y0 y1 y2 y3, LeO (perigeeref1_Shr.l0 k y0 y1 y2 y3) (perigeeref1_Shr.l0 (k + 1) y0 y1 y2 y3)) ∧ (∀ y0 y1 y2 y3 y4, LeO (perigeeref1_Shr.j1 k y0 y1 y2 y3 y4) (perigeeref1_Shr.j1 (k + 1) y0 y1 y2 y3 y4))
 | 0 => ⟨fun _ _ _ _ r h => by simp [perigeeref1_Shr.l0] at h, fun _ _ _ _ _ r h => by simp [perigeeref1_Shr.j1] at h⟩
 | k + 1 => by
  obtain ⟨ih0, ih1⟩ := perigeeref1_Shr.mono_l k
  refine ⟨?_, ?_⟩
  ·intro y0 y1 y2 y3
   unfold perigeeref1_Shr.l0
   repeat' first
   | (with_reducible exact ih0 _ _ _ _)
   | (with_reducible exact ih1 _ _ _ _ _)
   | (with_reducible exact LeO.refl _)
   | (with_reducible exact LeO.none _)
   | (with_reducible refine LeO.ite ?_ ?_)
   | (with_reducible refine LeO.bind ?_ (fun _ => ?_))
   | exact ih0 _ _ _ _
   | exact ih1 _ _ _ _ _
   | exact LeO.none _
   | refine LeO.ite ?_ ?_
   | refine LeO.bind ?_ (fun _ => ?_)
  ·intro y0 y1 y2 y3 y4
   unfold perigeeref1_Shr.j1
   repeat' first
   | (with_reducible exact ih0 _ _ _ _)
   | (with_reducible exact ih1 _ _ _ _ _)
   | (with_reducible exact LeO.refl _)
   | (with_reducible exact LeO.none _)
   | (with_reducible refine LeO.ite ?_ ?_)
   | (with_reducible refine LeO.bind ?_ (fun _ => ?_))
   | exact ih0 _ _ _ _
   | exact ih1 _ _ _ _ _
   | exact LeO.none _
   | refine LeO.ite ?_ ?_
   | refine LeO.bind ?_ (fun _ => ?_)
theorem perigeeref1_Shr.mono : ∀ a0 a1 a2 a3 a4 k, LeO (perigeeref1_Shr.f k a0 a1 a2 a3 a4) (perigeeref1_Shr.f (k + 1) a0 a1 a2 a3 a4) := by
 intro a0 a1 a2 a3 a4 k
 obtain ⟨ih0, ih1⟩ := perigeeref1_Shr.mono_l k
 unfold perigeeref1_Shr.f
 repeat' first
   | (with_reducible exact ih0 _ _ _ _)
   | (with_reducible exact ih1 _ _ _ _ _)
   | (with_reducible exact LeO.refl _)
   | (with_reducible exact LeO.none _)
   | (with_reducible refine LeO.ite ?_ ?_)
   | (with_reducible refine LeO.bind ?_ (fun _ => ?_))
   | exact ih0 _ _ _ _
   | exact ih1 _ _ _ _ _
   | exact LeO.none _
   | refine LeO.ite ?_ ?_
   | refine LeO.bind ?_ (fun _ => ?_)
def perigeeref1_Shr.T12 : Bool × List (List Nat × List Nat) := (true, [([], []), ([], []), ([0, 1], [0, 1]), ([2], [2]), ([], []), ([], []), ([5], [5]), ([4, 6], [4, 6]), ([7], [7]), ([], []), ([9], [9]), ([10], [10]), ([8, 11], [8, 11]), ([3, 12], [3, 12]), ([0, 1, 0, 1, 2, 3, 4, 5, 6, 7, 8, 9, 10, 11, 12, 13], [0, 1]), ([14, 13, 0, 1, 2, 3, 4, 5, 6, 7, 8, 9, 10, 11, 12, 13], [13, 14])])
def perigeeref1_Shr.B12 : List Nat := [0, 0, 3, 7, 0, 0, 32, 112, 240, 0, 512, 1536, 4080, 8191, 16383, 32767]
theorem perigeeref1_Shr.tab12 : rtab .any (opsOf Try.f26 12) = perigeeref1_Shr.T12 := by kernel_rfl
theorem perigeeref1_Shr.bits12 : waitsOk perigeeref1_Shr.T12.2 perigeeref1_Shr.B12 = true := by kernel_rfl
set_option maxHeartbeats 8000000 in
set_option maxRecDepth 100000 in
theorem perigeeref1_Shr.calls (k : Nat) (a0_0 : Int) (a0_1 : Int) (a0_2 : Int) (a0_3 : Int) (a1 : Int) (r1 : Int) (r2 : Int) (r3 : Int) (r4 : Int) (w : World) (h : perigeeref1_Shr.f k a0_0 a0_1 a0_2 a0_3 a1 = some (r1, r2, r3, r4)) :
  Calls Try.prog 26 #[.agg #[.int .u64 a0_0, .int .u64 a0_1, .int .u64 a0_2, .int .u64 a0_3], .int .i64 a1] w fun e w' => e = .returned (.agg #[.int .u64 r1, .int .u64 r2, .int .u64 r3, .int .u64 r4]) ∧ Below w.heap.size w w' := by
 have hu26 := Try.underlying26
 have HB := Aside0.mk (Below.refl w.heap.size w)
 have H : (if a1 < 0 then (some (a0_0, a0_1, a0_2, a0_3)) else ((perigeeref1_words.f a0_0 a0_1 a0_2 a0_3).bind fun t166 => (if 4 ≤ 35184372088832 then (perigeeref1_Shr.l0 k a1 t166 (List.replicate 4 0) 0) else (none)))) = some (r1, r2, r3, r4) := h
 clear h
 by_cases c3 : a1 < 0
 ·rw [if_pos c3] at H
  have c3b0 : decide (a1 < 0) = true := decide_eq_true c3
  clear c3
  simp only [Option.some.injEq, Prod.mk.injEq] at H
  obtain ⟨rfl, rfl, rfl, rfl⟩ := H
  go_enter Try.func26, Try.ntmps26
  go_wp2_with (first | ((with_reducible refine gate_dst (N := 2) rfl ?_); refine box_event ?hg (N := 2) ?hd (cs := #[.int .u64 a0_0, .int .u64 a0_1, .int .u64 a0_2, .int .u64 a0_3]) (t := 26) ?hr ?_; (case hd => rfl); (case hg => rfl); (case hr => first | (go_simp; done) | (go_simp; rfl)); intro gb164 hg w4 hbox hb; have n0_ := Aside0.mk (below_step (by repeat (first | (with_reducible first | exact HB.out | apply below_alloc | apply pN | apply dI) | exact HB.out)) hb); have n1_ := Aside0.mk (hbox); have n2_ := Aside0.mk ((by rw [hg]; exact (below_size (by repeat (first | (with_reducible first | exact HB.out | apply below_alloc | apply pN | apply dI) | exact HB.out))) : w.heap.size ≤ gb164)); have n3_ := Aside0.mk ((by rw [hg]; exact (below_size (by repeat (first | (with_reducible first | exact HB.out | apply below_alloc | apply pN | apply dI) | exact HB.out))) : w.heap.size ≤ gb164)); clear HB; have HB := n0_; have BK164 := n1_; have GW164 := n2_; have GE164 := n3_; clear n0_ n1_ n2_ n3_; clear hb hbox hg) | ((with_reducible refine gate_dst (N := 4) rfl ?_); refine box_event ?hg (N := 4) ?hd (cs := #[.int .u64 0, .int .u64 0, .int .u64 0, .int .u64 0]) (t := 26) ?hr ?_; (case hd => rfl); (case hg => rfl); (case hr => first | (go_simp; done) | (go_simp; rfl)); intro gb165 hg w5 hbox hb; have n0_ := Aside0.mk (bB (g := gb164) (o := .cells #[.int .u64 a0_0, .int .u64 a0_1, .int .u64 a0_2, .int .u64 a0_3] 26 (0, 0)) (by (with_reducible repeat (first | refine bN ?_ _ | refine bD ?_ | refine bL ?_ _)); exact BK164.out) hb); have n1_ := Aside0.mk (below_step (by repeat (first | (with_reducible first | exact HB.out | apply below_alloc | apply pN | apply dI | refine below_set ?_ GE164.out) | exact HB.out)) hb); have n2_ := Aside0.mk (hbox); have n3_ := Aside0.mk ((by rw [hg]; exact (below_size (by repeat (first | (with_reducible first | exact HB.out | apply below_alloc | apply pN | apply dI | refine below_set ?_ GE164.out) | exact HB.out))) : w.heap.size ≤ gb165)); have n4_ := Aside0.mk ((by rw [hg]; exact (below_size (by repeat (first | (with_reducible first | exact HB.out | apply below_alloc | apply pN | apply dI | refine below_set ?_ GE164.out) | exact HB.out))) : w.heap.size ≤ gb165)); have n5_ := Aside0.mk ((by rw [hg]; exact Nat.ne_of_lt (blk_lt (g := gb164) (o := .cells #[.int .u64 a0_0, .int .u64 a0_1, .int .u64 a0_2, .int .u64 a0_3] 26 (0, 0)) (by (with_reducible repeat (first | refine bN ?_ _ | refine bD ?_ | refine bL ?_ _)); exact BK164.out)) : gb164 ≠ gb165)); have n6_ := Aside0.mk ((by rw [hg]; exact Nat.ne_of_gt (blk_lt (g := gb164) (o := .cells #[.int .u64 a0_0, .int .u64 a0_1, .int .u64 a0_2, .int .u64 a0_3] 26 (0, 0)) (by (with_reducible repeat (first | refine bN ?_ _ | refine bD ?_ | refine bL ?_ _)); exact BK164.out)) : gb165 ≠ gb164)); clear BK164; clear HB; have BK164 := n0_; have HB := n1_; have BK165 := n2_; have GW165 := n3_; have GE165 := n4_; have NB164_165 := n5_; have NB165_164 := n6_; clear n0_ n1_ n2_ n3_ n4_ n5_ n6_; clear hb hbox hg; have hnb6 := NB164_165.out; have hnc6 := NB165_164.out; have hcz7_0 : w5.cell? ⟨gb164, 0, none⟩ = some (.int .u64 a0_0) := (bC BK164.out 0).trans rfl; have hcz7_1 : w5.cell? ⟨gb164, 1, none⟩ = some (.int .u64 a0_1) := (bC BK164.out 1).trans rfl; have hcz7_2 : w5.cell? ⟨gb164, 2, none⟩ = some (.int .u64 a0_2) := (bC BK164.out 2).trans rfl; have hcz7_3 : w5.cell? ⟨gb164, 3, none⟩ = some (.int .u64 a0_3) := (bC BK164.out 3).trans rfl; have hfz7_0 := bF BK164.out 0; have hfz7_1 := bF BK164.out 1; have hfz7_2 := bF BK164.out 2; have hfz7_3 := bF BK164.out 3; have hcz8_0 : w5.cell? ⟨gb165, 0, none⟩ = some (.int .u64 0) := (bC BK165.out 0).trans rfl; have hcz8_1 : w5.cell? ⟨gb165, 1, none⟩ = some (.int .u64 0) := (bC BK165.out 1).trans rfl; have hcz8_2 : w5.cell? ⟨gb165, 2, none⟩ = some (.int .u64 0) := (bC BK165.out 2).trans rfl; have hcz8_3 : w5.cell? ⟨gb165, 3, none⟩ = some (.int .u64 0) := (bC BK165.out 3).trans rfl; have hfz8_0 := bF BK165.out 0; have hfz8_1 := bF BK165.out 1; have hfz8_2 := bF BK165.out 2; have hfz8_3 := bF BK165.out 3))
  refine bodyPost_ret (results_cell_row rfl _ _ gb165 26 #[.int .u64 a0_0, .int .u64 a0_1, .int .u64 a0_2, .int .u64 a0_3] (0, 0) _ rfl (by (with_reducible repeat (first | refine bN ?_ _ | refine bD ?_ | refine bL ?_ _)); refine blk_put (cs := #[.int .u64 a0_0, .int .u64 a0_1, .int .u64 a0_2, .int .u64 0]) ?_ 3 _ rfl; (with_reducible repeat (first | refine bN ?_ _ | refine bD ?_ | refine bL ?_ _)); refine blk_put (cs := #[.int .u64 a0_0, .int .u64 a0_1, .int .u64 0, .int .u64 0]) ?_ 2 _ rfl; (with_reducible repeat (first | refine bN ?_ _ | refine bD ?_ | refine bL ?_ _)); refine blk_put (cs := #[.int .u64 a0_0, .int .u64 0, .int .u64 0, .int .u64 0]) ?_ 1 _ rfl; (with_reducible repeat (first | refine bN ?_ _ | refine bD ?_ | refine bL ?_ _)); refine blk_put (cs := #[.int .u64 0, .int .u64 0, .int .u64 0, .int .u64 0]) ?_ 0 _ rfl; (with_reducible repeat (first | refine bN ?_ _ | refine bD ?_ | refine bL ?_ _)); exact BK165.out) Try.underlying26 rfl (by kernel_rfl)) rfl ?_
  exact ⟨by first | rfl | (simp [errW_none, errW_some] <;> rfl) | (simp [*, errW_none, errW_some] <;> rfl), by repeat (first | (with_reducible first | exact HB.out | apply below_alloc | apply pN | apply dI | refine below_set ?_ GE164.out | refine below_set ?_ GE165.out) | exact HB.out)⟩
 ·rw [if_neg c3] at H
  have c3b0 : decide (a1 < 0) = false := decide_eq_false c3
  clear c3
  replace H := Option.bind_eq_some_iff.mp H
  obtain ⟨t166, A90, H⟩ := H
  replace H : (if 4 ≤ 35184372088832 then (perigeeref1_Shr.l0 k a1 t166 (List.replicate 4 0) 0) else (none)) = some (r1, r2, r3, r4) := H
  have A9 := Aside0.mk A90
  clear A90
  by_cases c10 : 4 ≤ 35184372088832
  ·rw [if_pos c10] at H
   have c10b0 := eq_true c10
   have c10b1 : decide (4 ≤ 35184372088832) = true := decide_eq_true c10
   clear c10
   obtain ⟨y169, hy169⟩ : ∃ y_ : List Int, y_ = (List.replicate 4 0) := ⟨_, rfl⟩
   replace H : (perigeeref1_Shr.l0 k a1 t166 y169 0) = some (r1, r2, r3, r4) := by first | (rw [hy169]; with_reducible exact H) | (have H2_ := (Option.bind_some _ _).symm.trans H; rw [hy169]; with_reducible exact H2_) | (have H2_ := (Option.bind_some _ _).symm.trans H; with_reducible exact H2_) | with_reducible exact H | (rw [hy169]; exact H) | exact H
   have Ny169 := Aside0.mk hy169
   clear hy169
   have H' := Aside0.mk H
   clear H
   go_enter Try.func26, Try.ntmps26
   go_wp2_with (first | ((with_reducible refine gate_dst (N := 2) rfl ?_); refine box_event ?hg (N := 2) ?hd (cs := #[.int .u64 a0_0, .int .u64 a0_1, .int .u64 a0_2, .int .u64 a0_3]) (t := 26) ?hr ?_; (case hd => rfl); (case hg => rfl); (case hr => first | (go_simp; done) | (go_simp; rfl)); intro gb164 hg w11 hbox hb; have n0_ := Aside0.mk (below_step (by repeat (first | (with_reducible first | exact HB.out | apply below_alloc | apply pN | apply dI) | exact HB.out)) hb); have n1_ := Aside0.mk (hbox); have n2_ := Aside0.mk ((by rw [hg]; exact (below_size (by repeat (first | (with_reducible first | exact HB.out | apply below_alloc | apply pN | apply dI) | exact HB.out))) : w.heap.size ≤ gb164)); have n3_ := Aside0.mk ((by rw [hg]; exact (below_size (by repeat (first | (with_reducible first | exact HB.out | apply below_alloc | apply pN | apply dI) | exact HB.out))) : w.heap.size ≤ gb164)); clear HB; have HB := n0_; have BK164 := n1_; have GW164 := n2_; have GE164 := n3_; clear n0_ n1_ n2_ n3_; clear hb hbox hg) | ((with_reducible refine gate_dst (N := 4) rfl ?_); refine box_event ?hg (N := 4) ?hd (cs := #[.int .u64 0, .int .u64 0, .int .u64 0, .int .u64 0]) (t := 26) ?hr ?_; (case hd => rfl); (case hg => rfl); (case hr => first | (go_simp; done) | (go_simp; rfl)); intro gb165 hg w12 hbox hb; have n0_ := Aside0.mk (bB (g := gb164) (o := .cells #[.int .u64 a0_0, .int .u64 a0_1, .int .u64 a0_2, .int .u64 a0_3] 26 (0, 0)) (by (with_reducible repeat (first | refine bN ?_ _ | refine bD ?_ | refine bL ?_ _)); exact BK164.out) hb); have n1_ := Aside0.mk (below_step (by repeat (first | (with_reducible first | exact HB.out | apply below_alloc | apply pN | apply dI | refine below_set ?_ GE164.out) | exact HB.out)) hb); have n2_ := Aside0.mk (hbox); have n3_ := Aside0.mk ((by rw [hg]; exact (below_size (by repeat (first | (with_reducible first | exact HB.out | apply below_alloc | apply pN | apply dI | refine below_set ?_ GE164.out) | exact HB.out))) : w.heap.size ≤ gb165)); have n4_ := Aside0.mk ((by rw [hg]; exact (below_size (by repeat (first | (with_reducible first | exact HB.out | apply below_alloc | apply pN | apply dI | refine below_set ?_ GE164.out) | exact HB.out))) : w.heap.size ≤ gb165)); have n5_ := Aside0.mk ((by rw [hg]; exact Nat.ne_of_lt (blk_lt (g := gb164) (o := .cells #[.int .u64 a0_0, .int .u64 a0_1, .int .u64 a0_2, .int .u64 a0_3] 26 (0, 0)) (by (with_reducible repeat (first | refine bN ?_ _ | refine bD ?_ | refine bL ?_ _)); exact BK164.out)) : gb164 ≠ gb165)); have n6_ := Aside0.mk ((by rw [hg]; exact Nat.ne_of_gt (blk_lt (g := gb164) (o := .cells #[.int .u64 a0_0, .int .u64 a0_1, .int .u64 a0_2, .int .u64 a0_3] 26 (0, 0)) (by (with_reducible repeat (first | refine bN ?_ _ | refine bD ?_ | refine bL ?_ _)); exact BK164.out)) : gb165 ≠ gb164)); clear BK164; clear HB; have BK164 := n0_; have HB := n1_; have BK165 := n2_; have GW165 := n3_; have GE165 := n4_; have NB164_165 := n5_; have NB165_164 := n6_; clear n0_ n1_ n2_ n3_ n4_ n5_ n6_; clear hb hbox hg; have hnb13 := NB164_165.out; have hnc13 := NB165_164.out; have hcz14_0 : w12.cell? ⟨gb164, 0, none⟩ = some (.int .u64 a0_0) := (bC BK164.out 0).trans rfl; have hcz14_1 : w12.cell? ⟨gb164, 1, none⟩ = some (.int .u64 a0_1) := (bC BK164.out 1).trans rfl; have hcz14_2 : w12.cell? ⟨gb164, 2, none⟩ = some (.int .u64 a0_2) := (bC BK164.out 2).trans rfl; have hcz14_3 : w12.cell? ⟨gb164, 3, none⟩ = some (.int .u64 a0_3) := (bC BK164.out 3).trans rfl; have hfz14_0 := bF BK164.out 0; have hfz14_1 := bF BK164.out 1; have hfz14_2 := bF BK164.out 2; have hfz14_3 := bF BK164.out 3) | ((with_reducible refine gate_callee (f := 44) rfl ?_); refine goesL_ (some 13) rfl rfl Try.func44 (by kernel_rfl) rfl #[.agg #[.int .u64 a0_0, .int .u64 a0_1, .int .u64 a0_2, .int .u64 a0_3]] rfl (by (try simp only [List.map_toArray, List.map_cons, List.map_nil]); first | done | rfl | (simp only [List.length_drop, List.length_take]; rfl)) ?_; (with_reducible refine (perigeeref1_words.calls a0_0 a0_1 a0_2 a0_3 t166 _ A9.out).mono ?_); rintro e w15 ⟨v167, rfl, ho0, hb⟩; refine ⟨_, rfl, ?_⟩; have n0_ := Aside0.mk (Kd.R_lower ho0 (below_size (by repeat (first | (with_reducible first | exact HB.out | apply below_alloc | apply pN | apply dI | refine below_set ?_ GE164.out | refine below_set ?_ GE165.out) | exact HB.out)))); have n1_ := Aside0.mk (bB (g := gb164) (o := .cells #[.int .u64 a0_0, .int .u64 a0_1, .int .u64 a0_2, .int .u64 a0_3] 26 (0, 0)) (by (with_reducible repeat (first | refine bN ?_ _ | refine bD ?_ | refine bL ?_ _)); exact BK164.out) hb); have n2_ := Aside0.mk (bB (g := gb165) (o := .cells #[.int .u64 0, .int .u64 0, .int .u64 0, .int .u64 0] 26 (0, 0)) (by (with_reducible repeat (first | refine bN ?_ _ | refine bD ?_ | refine bL ?_ _)); exact BK165.out) hb); have n3_ := Aside0.mk (below_step (by repeat (first | (with_reducible first | exact HB.out | apply below_alloc | apply pN | apply dI | refine below_set ?_ GE164.out | refine below_set ?_ GE165.out) | exact HB.out)) hb); clear BK164; clear BK165; clear HB; have HO168 := n0_; have BK164 := n1_; have BK165 := n2_; have HB := n3_; clear n0_ n1_ n2_ n3_; (try clear hb); (try clear hb2); (try clear hk); (try clear hi); (try clear ho0)) | ((with_reducible refine gate_dst (N := 14) rfl ?_); refine Kd.R_make (Kd.int .u64) _ 22 rfl (N := 14) rfl 57 _ _ rfl 4 rfl rfl Try.underlying57 (.int .u64 0) 8 info22 rfl (by decide) (by omega) 0 (ok := fun _ => True) (okp := fun _ => True) rfl (fun _ hk => hk) trivial (by omega) (by omega) (Below.refl _ _) (Nat.le_refl _) ?_; intro v170 w16 ho17 hb hg_ hnew_; clear hg_ hnew_; (first | rw [← Ny169.out] at ho17 | (simp only [Int.reduceToNat] at ho17; rw [← Ny169.out] at ho17)); have n0_ := Aside0.mk (Kd.R_elder' (by (with_reducible repeat (first | apply Kd.R_alloc | apply Kd.R_drewN | apply Kd.R_drew)); exact HO168.out) (Kd.R_base ho17) hb); have n1_ := Aside0.mk (Kd.R_lower (Kd.R_new' ho17 (Kd.R_lt (by (with_reducible repeat (first | apply Kd.R_alloc | apply Kd.R_drewN | apply Kd.R_drew)); exact HO168.out))) (below_size (by repeat (first | (with_reducible first | exact HB.out | apply below_alloc | apply pN | apply dI | refine below_set ?_ GE164.out | refine below_set ?_ GE165.out) | exact HB.out)))); have n2_ := Aside0.mk (bB (g := gb164) (o := .cells #[.int .u64 a0_0, .int .u64 a0_1, .int .u64 a0_2, .int .u64 a0_3] 26 (0, 0)) (by (with_reducible repeat (first | refine bN ?_ _ | refine bD ?_ | refine bL ?_ _)); exact BK164.out) hb); have n3_ := Aside0.mk (bB (g := gb165) (o := .cells #[.int .u64 0, .int .u64 0, .int .u64 0, .int .u64 0] 26 (0, 0)) (by (with_reducible repeat (first | refine bN ?_ _ | refine bD ?_ | refine bL ?_ _)); exact BK165.out) hb); have n4_ := Aside0.mk (below_step (by repeat (first | (with_reducible first | exact HB.out | apply below_alloc | apply pN | apply dI | refine below_set ?_ GE164.out | refine below_set ?_ GE165.out) | exact HB.out)) hb); clear HO168; clear BK164; clear BK165; clear HB; have HO168 := n0_; have HO171 := n1_; have BK164 := n2_; have BK165 := n3_; have HB := n4_; clear n0_ n1_ n2_ n3_ n4_; clear hb ho17))
   go_loopg [7] k (fun kq v7 w' => ∃ (x6_1 : List Int) (x7_1 : Int), v7 = .int .i64 x7_1 ∧ Aside0 (perigeeref1_Shr.l0 kq a1 t166 x6_1 x7_1 = some (r1, r2, r3, r4)) ∧ Aside0 (kq ≤ k) ∧ Aside0 (Kd.R (Kd.int .u64) 22 w' w.heap.size (fun k_ => some k_ ≠ (v170 : Value).ownBlock) v167 t166) ∧ Aside0 (Kd.R (Kd.int .u64) 22 w' w.heap.size (fun k_ => some k_ ≠ (v167 : Value).ownBlock) v170 x6_1) ∧ Aside0 (w'.heap[gb164]? = some (.cells #[.int .u64 a0_0, .int .u64 a0_1, .int .u64 a0_2, .int .u64 a0_3] 26 (0, 0))) ∧ Aside0 (w'.heap[gb165]? = some (.cells #[.int .u64 0, .int .u64 0, .int .u64 0, .int .u64 0] 26 (0, 0))) ∧ Aside0 (Below w.heap.size w w'))
   case atStart => exact ⟨(y169), (0), (by first | rfl | (simp; done) | (simp [*]; done)), H', ⟨Nat.le_refl _⟩, ⟨by (with_reducible repeat (first | apply Kd.R_alloc | apply Kd.R_drewN | apply Kd.R_drew)); exact Kd.R_mono HO168.out (fun _ hk => hk.2)⟩, ⟨by (with_reducible repeat (first | apply Kd.R_alloc | apply Kd.R_drewN | apply Kd.R_drew)); exact Kd.R_mono HO171.out (fun _ hk => hk.2)⟩, ⟨by (with_reducible repeat (first | refine bN ?_ _ | refine bD ?_ | refine bL ?_ _)); exact BK164.out⟩, ⟨by (with_reducible repeat (first | refine bN ?_ _ | refine bD ?_ | refine bL ?_ _)); exact BK165.out⟩, ⟨by repeat (first | (with_reducible first | exact HB.out | apply below_alloc | apply pN | apply dI | refine below_set ?_ GE164.out | refine below_set ?_ GE165.out) | exact HB.out)⟩⟩
   case round =>
    clear H'
    try clear c1
    try clear c2
    try clear p2
    try clear c3
    try clear c3b0
    try clear c4
    try clear c6
    try clear c10
    try clear c10b0
    try clear c10b1
    try clear c13
    try clear hcz14_0
    try clear hcz14_1
    try clear hcz14_2
    try clear hcz14_3
    try clear hcz7_0
    try clear hcz7_1
    try clear hcz7_2
    try clear hcz7_3
    try clear hcz8_0
    try clear hcz8_1
    try clear hcz8_2
    try clear hcz8_3
    try clear hfz14_0
    try clear hfz14_1
    try clear hfz14_2
    try clear hfz14_3
    try clear hfz7_0
    try clear hfz7_1
    try clear hfz7_2
    try clear hfz7_3
    try clear hfz8_0
    try clear hfz8_1
    try clear hfz8_2
    try clear hfz8_3
    obtain ⟨x6_1, x7_1, rfl, HA, HK1, HO_5, HO_6, BK164, BK165, HB⟩ := hrel
    cases gk with
    | zero => exact absurd HA.out (by simp [perigeeref1_Shr.l0])
    | succ k1 =>
     have H := HA.out
     clear HA
     simp only [perigeeref1_Shr.l0] at H
     have HC18 := Aside0.mk H
     clear H
     go_upto_region 6 with (fail)
     go_cut [20] (fun v20 wc => ∃ (kq : Nat) (x20_17 : Bool), v20 = .bool x20_17 ∧ Aside0 (perigeeref1_Shr.j1 kq a1 t166 x6_1 x7_1 x20_17 = some (r1, r2, r3, r4)) ∧ Aside0 (kq ≤ k1) ∧ Aside0 (Kd.R (Kd.int .u64) 22 wc w.heap.size (fun k_ => some k_ ≠ (v170 : Value).ownBlock) v167 t166) ∧ Aside0 (Kd.R (Kd.int .u64) 22 wc w.heap.size (fun k_ => some k_ ≠ (v167 : Value).ownBlock) v170 x6_1) ∧ Aside0 (wc.heap[gb164]? = some (.cells #[.int .u64 a0_0, .int .u64 a0_1, .int .u64 a0_2, .int .u64 a0_3] 26 (0, 0))) ∧ Aside0 (wc.heap[gb165]? = some (.cells #[.int .u64 0, .int .u64 0, .int .u64 0, .int .u64 0] 26 (0, 0))) ∧ Aside0 (Below w.heap.size w wc))
     case first =>
      have H := HC18.out
      clear HC18
      by_cases c19 : x7_1 < 4
      ·rw [if_pos c19] at H
       have c19b0 : decide (x7_1 < 4) = true := decide_eq_true c19
       clear c19
       (first | rw [c19b0] | (simp only [i64_w, i32_w]; rw [c19b0]) | skip)
       have H' := Aside0.mk H
       clear H
       go_wp2
       go_meet
       case rel => exact ⟨_, (decide (a1 < 256)), (by first | rfl | (simp; done) | (simp [*]; done)), H', ⟨by have := HK1.out; first | omega | exact Nat.le_refl _⟩, ⟨by (with_reducible repeat (first | apply Kd.R_alloc | apply Kd.R_drewN | apply Kd.R_drew)); exact HO_5.out⟩, ⟨by (with_reducible repeat (first | apply Kd.R_alloc | apply Kd.R_drewN | apply Kd.R_drew)); exact HO_6.out⟩, ⟨by (with_reducible repeat (first | refine bN ?_ _ | refine bD ?_ | refine bL ?_ _)); exact BK164.out⟩, ⟨by (with_reducible repeat (first | refine bN ?_ _ | refine bD ?_ | refine bL ?_ _)); exact BK165.out⟩, ⟨by repeat (first | (with_reducible first | exact HB.out | apply below_alloc | apply pN | apply dI | refine below_set ?_ GE164.out | refine below_set ?_ GE165.out) | exact HB.out)⟩⟩
      ·rw [if_neg c19] at H
       have c19b0 : decide (x7_1 < 4) = false := decide_eq_false c19
       clear c19
       (first | rw [c19b0] | (simp only [i64_w, i32_w]; rw [c19b0]) | skip)
       have H' := Aside0.mk H
       clear H
       go_wp2
       go_meet
       case rel => exact ⟨_, (false), (by first | rfl | (simp; done) | (simp [*]; done)), H', ⟨by have := HK1.out; first | omega | exact Nat.le_refl _⟩, ⟨by (with_reducible repeat (first | apply Kd.R_alloc | apply Kd.R_drewN | apply Kd.R_drew)); exact HO_5.out⟩, ⟨by (with_reducible repeat (first | apply Kd.R_alloc | apply Kd.R_drewN | apply Kd.R_drew)); exact HO_6.out⟩, ⟨by (with_reducible repeat (first | refine bN ?_ _ | refine bD ?_ | refine bL ?_ _)); exact BK164.out⟩, ⟨by (with_reducible repeat (first | refine bN ?_ _ | refine bD ?_ | refine bL ?_ _)); exact BK165.out⟩, ⟨by repeat (first | (with_reducible first | exact HB.out | apply below_alloc | apply pN | apply dI | refine below_set ?_ GE164.out | refine below_set ?_ GE165.out) | exact HB.out)⟩⟩
     case rest =>
      clear HC18
      try clear c1
      try clear c2
      try clear p2
      try clear c3
      try clear c3b0
      try clear c4
      try clear c6
      try clear c10
      try clear c10b0
      try clear c10b1
      try clear c13
      try clear c19
      try clear c19b0
      try clear hcz14_0
      try clear hcz14_1
      try clear hcz14_2
      try clear hcz14_3
      try clear hcz7_0
      try clear hcz7_1
      try clear hcz7_2
      try clear hcz7_3
      try clear hcz8_0
      try clear hcz8_1
      try clear hcz8_2
      try clear hcz8_3
      try clear hfz14_0
      try clear hfz14_1
      try clear hfz14_2
      try clear hfz14_3
      try clear hfz7_0
      try clear hfz7_1
      try clear hfz7_2
      try clear hfz7_3
      try clear hfz8_0
      try clear hfz8_1
      try clear hfz8_2
      try clear hfz8_3
      try clear p2
      obtain ⟨kq, x20_17, rfl, HA, HJ17, HO_5, HO_6, BK164, BK165, HB⟩ := hcut
      cases kq with
      | zero => exact absurd HA.out (by simp [perigeeref1_Shr.j1])
      | succ kj17 =>
       have H := HA.out
       clear HA
       simp only [perigeeref1_Shr.j1] at H
       by_cases c20 : x20_17 = true
       ·subst c20
        have H1 : (if (wrap64 (x7_1 + (wrap64 (Int.tdiv a1 64)))) < 4 then (if 0 ≤ (wrap64 (x7_1 + (wrap64 (Int.tdiv a1 64)))) then (if (wrap64 (x7_1 + (wrap64 (Int.tdiv a1 64)))) < (t166.length : Int) then (if 0 ≤ (Int.tmod a1 64) then (if 0 ≤ x7_1 then (if x7_1 < (x6_1.length : Int) then ((some (x6_1.set (x7_1 : Int).toNat (shr .u64 (rd t166 (wrap64 (x7_1 + (wrap64 (Int.tdiv a1 64))))) (Int.tmod a1 64)) : List Int)).bind fun y177 => (if (wrap64 (x7_1 + (wrap64 (Int.tdiv a1 64)))) < 3 then (if (Int.tmod a1 64) > 0 then (if 0 ≤ (wrap64 ((wrap64 (x7_1 + (wrap64 (Int.tdiv a1 64)))) + 1)) then (if (wrap64 ((wrap64 (x7_1 + (wrap64 (Int.tdiv a1 64)))) + 1)) < (t166.length : Int) then (if 0 ≤ (wrap64 (64 - (Int.tmod a1 64))) then (perigeeref1_Shr.l0 kj17 a1 t166 (y177.set (x7_1 : Int).toNat (Go.bits .or .u64 (rd y177 x7_1) (shl .u64 (rd t166 (wrap64 ((wrap64 (x7_1 + (wrap64 (Int.tdiv a1 64)))) + 1))) (wrap64 (64 - (Int.tmod a1 64)))))) (wrap64 (x7_1 + 1))) else (none)) else (none)) else (none)) else (perigeeref1_Shr.l0 kj17 a1 t166 y177 (wrap64 (x7_1 + 1)))) else (perigeeref1_Shr.l0 kj17 a1 t166 y177 (wrap64 (x7_1 + 1))))) else (none)) else (none)) else (none)) else (none)) else (none)) else (if (wrap64 (x7_1 + (wrap64 (Int.tdiv a1 64)))) < 3 then (if (Int.tmod a1 64) > 0 then (if 0 ≤ x7_1 then (if x7_1 < (x6_1.length : Int) then (if 0 ≤ (wrap64 ((wrap64 (x7_1 + (wrap64 (Int.tdiv a1 64)))) + 1)) then (if (wrap64 ((wrap64 (x7_1 + (wrap64 (Int.tdiv a1 64)))) + 1)) < (t166.length : Int) then (if 0 ≤ (wrap64 (64 - (Int.tmod a1 64))) then (perigeeref1_Shr.l0 kj17 a1 t166 (x6_1.set (x7_1 : Int).toNat (Go.bits .or .u64 (rd x6_1 x7_1) (shl .u64 (rd t166 (wrap64 ((wrap64 (x7_1 + (wrap64 (Int.tdiv a1 64)))) + 1))) (wrap64 (64 - (Int.tmod a1 64)))))) (wrap64 (x7_1 + 1))) else (none)) else (none)) else (none)) else (none)) else (none)) else (perigeeref1_Shr.l0 kj17 a1 t166 x6_1 (wrap64 (x7_1 + 1)))) else (perigeeref1_Shr.l0 kj17 a1 t166 x6_1 (wrap64 (x7_1 + 1))))) = some (r1, r2, r3, r4) := by rw [if_pos rfl] at H; exact H
        clear H
        have H := H1
        clear H1
        by_cases c21 : (wrap64 (x7_1 + (wrap64 (Int.tdiv a1 64)))) < 4
        ·rw [if_pos c21] at H
         have c21b0 : decide ((wrap64 (x7_1 + (wrap64 (Int.tdiv a1 64)))) < 4) = true := decide_eq_true c21
         clear c21
         obtain ⟨ji22, hji22⟩ : ∃ j_ : Int, (wrap64 (x7_1 + (wrap64 (Int.tdiv a1 64)))) = j_ := ⟨_, rfl⟩
         replace H : (if 0 ≤ (ji22) then (if (ji22) < (t166.length : Int) then (if 0 ≤ (Int.tmod a1 64) then (if 0 ≤ x7_1 then (if x7_1 < (x6_1.length : Int) then ((some (x6_1.set (x7_1 : Int).toNat (shr .u64 (rd t166 (ji22)) (Int.tmod a1 64)) : List Int)).bind fun y177 => (if (ji22) < 3 then (if (Int.tmod a1 64) > 0 then (if 0 ≤ (wrap64 ((ji22) + 1)) then (if (wrap64 ((ji22) + 1)) < (t166.length : Int) then (if 0 ≤ (wrap64 (64 - (Int.tmod a1 64))) then (perigeeref1_Shr.l0 kj17 a1 t166 (y177.set (x7_1 : Int).toNat (Go.bits .or .u64 (rd y177 x7_1) (shl .u64 (rd t166 (wrap64 ((ji22) + 1))) (wrap64 (64 - (Int.tmod a1 64)))))) (wrap64 (x7_1 + 1))) else (none)) else (none)) else (none)) else (perigeeref1_Shr.l0 kj17 a1 t166 y177 (wrap64 (x7_1 + 1)))) else (perigeeref1_Shr.l0 kj17 a1 t166 y177 (wrap64 (x7_1 + 1))))) else (none)) else (none)) else (none)) else (none)) else (none)) = some (r1, r2, r3, r4) := by first | (rw [hji22] at H; exact H) | (simp only [hji22] at H ⊢; exact H)
         (try rw [hji22] at c21b0)
         have hji22w : (IntKind.i64.wrap (x7_1 + (wrap64 (Int.tdiv a1 64)))) = ji22 := (i64_w _).trans hji22
         by_cases c23 : 0 ≤ (ji22)
         ·rw [if_pos c23] at H
          have c23b0 : decide (0 ≤ (ji22)) = true := decide_eq_true c23
          clear c23
          by_cases c24 : (ji22) < (t166.length : Int)
          ·rw [if_pos c24] at H
           have c24b0 : decide ((ji22) < (t166.length : Int)) = true := decide_eq_true c24
           clear c24
           obtain ⟨ji25, hji25⟩ : ∃ j_ : Int, (Int.tmod a1 64) = j_ := ⟨_, rfl⟩
           replace H : (if 0 ≤ (ji25) then (if 0 ≤ x7_1 then (if x7_1 < (x6_1.length : Int) then ((some (x6_1.set (x7_1 : Int).toNat (shr .u64 (rd t166 (ji22)) (ji25)) : List Int)).bind fun y177 => (if (ji22) < 3 then (if (ji25) > 0 then (if 0 ≤ (wrap64 ((ji22) + 1)) then (if (wrap64 ((ji22) + 1)) < (t166.length : Int) then (if 0 ≤ (wrap64 (64 - (ji25))) then (perigeeref1_Shr.l0 kj17 a1 t166 (y177.set (x7_1 : Int).toNat (Go.bits .or .u64 (rd y177 x7_1) (shl .u64 (rd t166 (wrap64 ((ji22) + 1))) (wrap64 (64 - (ji25)))))) (wrap64 (x7_1 + 1))) else (none)) else (none)) else (none)) else (perigeeref1_Shr.l0 kj17 a1 t166 y177 (wrap64 (x7_1 + 1)))) else (perigeeref1_Shr.l0 kj17 a1 t166 y177 (wrap64 (x7_1 + 1))))) else (none)) else (none)) else (none)) = some (r1, r2, r3, r4) := by first | (rw [hji25] at H; exact H) | (simp only [hji25] at H ⊢; exact H)
           by_cases c26 : 0 ≤ (ji25)
           ·rw [if_pos c26] at H
            have c26b0 := eq_true c26
            have c26b1 : decide (0 ≤ (ji25)) = true := decide_eq_true c26
            clear c26
            obtain ⟨ji27, hji27⟩ : ∃ j_ : Int, (shr .u64 (rd t166 (ji22)) (ji25)) = j_ := ⟨_, rfl⟩
            replace H : (if 0 ≤ x7_1 then (if x7_1 < (x6_1.length : Int) then ((some (x6_1.set (x7_1 : Int).toNat (ji27) : List Int)).bind fun y177 => (if (ji22) < 3 then (if (ji25) > 0 then (if 0 ≤ (wrap64 ((ji22) + 1)) then (if (wrap64 ((ji22) + 1)) < (t166.length : Int) then (if 0 ≤ (wrap64 (64 - (ji25))) then (perigeeref1_Shr.l0 kj17 a1 t166 (y177.set (x7_1 : Int).toNat (Go.bits .or .u64 (rd y177 x7_1) (shl .u64 (rd t166 (wrap64 ((ji22) + 1))) (wrap64 (64 - (ji25)))))) (wrap64 (x7_1 + 1))) else (none)) else (none)) else (none)) else (perigeeref1_Shr.l0 kj17 a1 t166 y177 (wrap64 (x7_1 + 1)))) else (perigeeref1_Shr.l0 kj17 a1 t166 y177 (wrap64 (x7_1 + 1))))) else (none)) else (none)) = some (r1, r2, r3, r4) := by first | (rw [hji27] at H; exact H) | (simp only [hji27] at H ⊢; exact H)
            have hji27_ : ((rd t166 (ji22)) / 2 ^ min (ji25).toNat 64) = ji27 := hji27
            have hji27z : (ji25) ≤ 64 → ((rd t166 (ji22)) / 2 ^ (ji25).toNat) = ji27 := shr_small hji27
            by_cases c28 : 0 ≤ x7_1
            ·rw [if_pos c28] at H
             have c28b0 : decide (0 ≤ x7_1) = true := decide_eq_true c28
             clear c28
             by_cases c29 : x7_1 < (x6_1.length : Int)
             ·rw [if_pos c29] at H
              have c29b0 : decide (x7_1 < (x6_1.length : Int)) = true := decide_eq_true c29
              clear c29
              obtain ⟨y177, hy177⟩ : ∃ y_ : List Int, y_ = (x6_1.set (x7_1 : Int).toNat (ji27)) := ⟨_, rfl⟩
              replace H : (if (ji22) < 3 then (if (ji25) > 0 then (if 0 ≤ (wrap64 ((ji22) + 1)) then (if (wrap64 ((ji22) + 1)) < (t166.length : Int) then (if 0 ≤ (wrap64 (64 - (ji25))) then (perigeeref1_Shr.l0 kj17 a1 t166 (y177.set (x7_1 : Int).toNat (Go.bits .or .u64 (rd y177 x7_1) (shl .u64 (rd t166 (wrap64 ((ji22) + 1))) (wrap64 (64 - (ji25)))))) (wrap64 (x7_1 + 1))) else (none)) else (none)) else (none)) else (perigeeref1_Shr.l0 kj17 a1 t166 y177 (wrap64 (x7_1 + 1)))) else (perigeeref1_Shr.l0 kj17 a1 t166 y177 (wrap64 (x7_1 + 1)))) = some (r1, r2, r3, r4) := by first | (rw [hy177]; with_reducible exact H) | (have H2_ := (Option.bind_some _ _).symm.trans H; rw [hy177]; with_reducible exact H2_) | (have H2_ := (Option.bind_some _ _).symm.trans H; with_reducible exact H2_) | with_reducible exact H | (rw [hy177]; exact H) | exact H
              have Ny177 := Aside0.mk hy177
              clear hy177
              by_cases c31 : (ji22) < 3
              ·rw [if_pos c31] at H
               have c31b0 : decide ((ji22) < 3) = true := decide_eq_true c31
               clear c31
               by_cases c32 : (ji25) > 0
               ·rw [if_pos c32] at H
                have c32b0 : decide (0 < (ji25)) = true := decide_eq_true c32
                clear c32
                obtain ⟨ji33, hji33⟩ : ∃ j_ : Int, (wrap64 ((ji22) + 1)) = j_ := ⟨_, rfl⟩
                replace H : (if 0 ≤ (ji33) then (if (ji33) < (t166.length : Int) then (if 0 ≤ (wrap64 (64 - (ji25))) then (perigeeref1_Shr.l0 kj17 a1 t166 (y177.set (x7_1 : Int).toNat (Go.bits .or .u64 (rd y177 x7_1) (shl .u64 (rd t166 (ji33)) (wrap64 (64 - (ji25)))))) (wrap64 (x7_1 + 1))) else (none)) else (none)) else (none)) = some (r1, r2, r3, r4) := by first | (rw [hji33] at H; exact H) | (simp only [hji33] at H ⊢; exact H)
                have hji33w : (IntKind.i64.wrap ((ji22) + 1)) = ji33 := (i64_w _).trans hji33
                by_cases c34 : 0 ≤ (ji33)
                ·rw [if_pos c34] at H
                 have c34b0 : decide (0 ≤ (ji33)) = true := decide_eq_true c34
                 clear c34
                 by_cases c35 : (ji33) < (t166.length : Int)
                 ·rw [if_pos c35] at H
                  have c35b0 : decide ((ji33) < (t166.length : Int)) = true := decide_eq_true c35
                  clear c35
                  obtain ⟨ji36, hji36⟩ : ∃ j_ : Int, (wrap64 (64 - (ji25))) = j_ := ⟨_, rfl⟩
                  replace H : (if 0 ≤ (ji36) then (perigeeref1_Shr.l0 kj17 a1 t166 (y177.set (x7_1 : Int).toNat (Go.bits .or .u64 (rd y177 x7_1) (shl .u64 (rd t166 (ji33)) (ji36)))) (wrap64 (x7_1 + 1))) else (none)) = some (r1, r2, r3, r4) := by first | (rw [hji36] at H; exact H) | (simp only [hji36] at H ⊢; exact H)
                  have hji36w : (IntKind.i64.wrap (64 - (ji25))) = ji36 := (i64_w _).trans hji36
                  by_cases c37 : 0 ≤ (ji36)
                  ·rw [if_pos c37] at H
                   have c37b0 := eq_true c37
                   have c37b1 : decide (0 ≤ (ji36)) = true := decide_eq_true c37
                   clear c37
                   obtain ⟨ji38, hji38⟩ : ∃ j_ : Int, (shl .u64 (rd t166 (ji33)) (ji36)) = j_ := ⟨_, rfl⟩
                   replace H : (perigeeref1_Shr.l0 kj17 a1 t166 (y177.set (x7_1 : Int).toNat (Go.bits .or .u64 (rd y177 x7_1) (ji38))) (wrap64 (x7_1 + 1))) = some (r1, r2, r3, r4) := by first | (rw [hji38] at H; exact H) | (simp only [hji38] at H ⊢; exact H)
                   have hji38_ : (IntKind.u64.wrap ((rd t166 (ji33)) * 2 ^ min (ji36).toNat 64)) = ji38 := hji38
                   have hji38z : (ji36) ≤ 64 → (IntKind.u64.wrap ((rd t166 (ji33)) * 2 ^ (ji36).toNat)) = ji38 := shl_small hji38
                   obtain ⟨y180, hy180⟩ : ∃ y_ : List Int, y_ = (y177.set (x7_1 : Int).toNat (Go.bits .or .u64 (rd y177 x7_1) (ji38))) := ⟨_, rfl⟩
                   replace H : (perigeeref1_Shr.l0 kj17 a1 t166 y180 (wrap64 (x7_1 + 1))) = some (r1, r2, r3, r4) := by first | (rw [hy180]; with_reducible exact H) | (have H2_ := (Option.bind_some _ _).symm.trans H; rw [hy180]; with_reducible exact H2_) | (have H2_ := (Option.bind_some _ _).symm.trans H; with_reducible exact H2_) | with_reducible exact H | (rw [hy180]; exact H) | exact H
                   have Ny180 := Aside0.mk hy180
                   clear hy180
                   have H' := Aside0.mk H
                   clear H
                   obtain ⟨Ao40, co40, eo40⟩ := Kd.R_slice HO_5.out
                   subst eo40
                   have p176 : 0 ≤ ((ji22) : Int) := of_decide_eq_true (by first | (with_reducible assumption) | assumption)
                   have q176 : (ji22) < (t166.length : Int) := of_decide_eq_true (by first | (with_reducible assumption) | assumption)
                   obtain ⟨ad176, e176, hx176_0⟩ := Kd.at_int (Kd.R_reads' HO_5.out).2.2 (ji22) p176 q176
                   cases e176
                   replace p176 := eq_true p176
                   replace q176 := eq_true q176
                   have p30 : 0 ≤ (x7_1 : Int) := of_decide_eq_true (by first | (with_reducible assumption) | assumption)
                   have q30 : (x7_1 : Int) < ((x6_1.length : Int) : Int) := of_decide_eq_true (by first | (with_reducible assumption) | assumption)
                   obtain ⟨go30, co30, eo30, gb30, gl30, cl30, HG30⟩ := Kd.R_form HO_6.out (by omega)
                   (first | cases eo30 | (injection eo30 with ea_ en_ ec_; (first | subst ea_ | (injection ea_ with ea_; subst ea_)); subst ec_; clear en_))
                   have GB30 := Aside0.mk gb30
                   have GG30 := Aside0.mk HG30
                   clear gb30 gl30 HG30
                   obtain ⟨hx30_0, hf30_0⟩ := Kd.R_celln 0 HO_6.out (x7_1 : Int) p30 q30
                   replace p30 := eq_true p30
                   replace q30 := eq_true q30
                   have HP41 := Kd.R_putg HO_6.out (x7_1 : Int) ji27
                   try go_wp2_with (first | ((with_reducible refine gate_store (t := 22) (p := 38) rfl ?_); refine store_event (t := 22) (p := 38) (v := ?vo_w42) (w1 := (wc.setCell ⟨go30, (x7_1 : Int).toNat, none⟩ (.int .u64 ji27))) ?hg ?ho ?hn ?hr ?_; (case ho => rfl); (case hg => rfl); (case hn => rfl); (case hr => first | (go_simp; done) | (go_simp; rfl)); intro w42 hw; have hg : wc.grownBy w42 (some go30) := (by rw [hw]; exact HP41.2); have hp_ : Kd.R (Kd.int .u64) 22 w42 w.heap.size (fun k_ => some k_ ≠ (.slice (some ad176) t166.length co40 : Value).ownBlock) (.slice (some ⟨go30, 0, none⟩) x6_1.length co30) y177 := (by rw [hw, Ny177.out]; exact HP41.1); clear HP41; have n0_ := Aside0.mk (Kd.R_after (v := (.slice (some ⟨go30, 0, none⟩) x6_1.length co30)) (v1 := (.slice (some ⟨go30, 0, none⟩) x6_1.length co30)) (ok := (fun _ => True)) (by (with_reducible repeat (first | apply Kd.R_alloc | apply Kd.R_drewN | apply Kd.R_drew)); exact Kd.R_mono HO_5.out (fun _ hk => ⟨trivial, hk⟩)) hg (.inl rfl)); have n1_ := Aside0.mk (hp_); have n2_ := Aside0.mk (blk_grown (g := gb164) (o := .cells #[.int .u64 a0_0, .int .u64 a0_1, .int .u64 a0_2, .int .u64 a0_3] 26 (0, 0)) (by (with_reducible repeat (first | refine bN ?_ _ | refine bD ?_ | refine bL ?_ _)); exact BK164.out) hg (Kd.R_ne HO_6.out BK164.out (by decide))); have n3_ := Aside0.mk (blk_grown (g := gb165) (o := .cells #[.int .u64 0, .int .u64 0, .int .u64 0, .int .u64 0] 26 (0, 0)) (by (with_reducible repeat (first | refine bN ?_ _ | refine bD ?_ | refine bL ?_ _)); exact BK165.out) hg (Kd.R_ne HO_6.out BK165.out (by decide))); have n4_ := Aside0.mk ((by rw [hw]; exact below_set (HB.out) GB30.out : Below w.heap.size w w42)); clear HO_5; clear HO_6; clear BK164; clear BK165; clear HB; have HO_5 := n0_; have HO_6 := n1_; have BK164 := n2_; have BK165 := n3_; have HB := n4_; clear n0_ n1_ n2_ n3_ n4_; clear hg hw hp_))
                   have n0_ := Aside0.mk (Kd.R_drew HO_5.out)
                   have n1_ := Aside0.mk (Kd.R_drew HO_6.out)
                   have n2_ := Aside0.mk (bD BK164.out)
                   have n3_ := Aside0.mk (bD BK165.out)
                   have n4_ := Aside0.mk (dI HB.out)
                   clear HO_5
                   clear HO_6
                   clear BK164
                   clear BK165
                   clear HB
                   have HO_5 := n0_
                   have HO_6 := n1_
                   have BK164 := n2_
                   have BK165 := n3_
                   have HB := n4_
                   clear n0_ n1_ n2_ n3_ n4_
                   have p178 : 0 ≤ (x7_1 : Int) := of_decide_eq_true (by first | (with_reducible assumption) | assumption)
                   have q178 : x7_1 < (y177.length : Int) := (by have h_ : (x7_1 : Int) < ((x6_1.length : Int) : Int) := of_decide_eq_true (by first | (with_reducible assumption) | assumption); first | (have e_ := (Kd.R_reads' HO_6.out).1; omega) | simpa only [Ny177.out, List.length_set] using h_)
                   have ql178 : ((x7_1 : Int) < ((x6_1.length : Int) : Int)) = True := eq_true (of_decide_eq_true (by first | (with_reducible assumption) | assumption))
                   obtain ⟨ad178, e178, hx178_0⟩ := Kd.at_int (Kd.R_reads' HO_6.out).2.2 x7_1 p178 q178
                   obtain rfl : (⟨go30, 0, none⟩ : Addr) = ad178 := (by injection e178)
                   (first | simp only [add_plain] at hx178_0 | simp only [add_at] at hx178_0 | simp only [Addr.add, Nat.zero_add] at hx178_0 | skip)
                   replace p178 := eq_true p178
                   replace q178 := eq_true q178
                   have p179 : 0 ≤ ((ji33) : Int) := of_decide_eq_true (by first | (with_reducible assumption) | assumption)
                   have q179 : (ji33) < (t166.length : Int) := of_decide_eq_true (by first | (with_reducible assumption) | assumption)
                   obtain ⟨ad179, e179, hx179_0⟩ := Kd.at_int (Kd.R_reads' HO_5.out).2.2 (ji33) p179 q179
                   obtain rfl : ad176 = ad179 := (by injection e179)
                   replace p179 := eq_true p179
                   replace q179 := eq_true q179
                   have p39 : 0 ≤ (x7_1 : Int) := of_decide_eq_true (by first | (with_reducible assumption) | assumption)
                   have q39 : (x7_1 : Int) < ((x6_1.length : Int) : Int) := of_decide_eq_true (by first | (with_reducible assumption) | assumption)
                   obtain ⟨hx39_0, hf39_0⟩ := Kd.R_celln 0 HO_6.out (x7_1 : Int) p39 q39
                   replace p39 := eq_true p39
                   replace q39 := eq_true q39
                   have HP44 := Kd.R_putn HO_6.out (x7_1 : Int) (Go.bits .or .u64 (rd y177 x7_1) (ji38))
                   rw [← Ny180.out] at HP44
                   have HQ44 := Aside0.mk HP44
                   clear HP44
                   refine start_ (n := 16) (S := fun w' => w'.cell? ⟨go30, (x7_1).toNat, none⟩ = some (.int .u64 (rd y177 x7_1)) ∧ w'.cell? (ad176.add ((ji33)).toNat) = some (.int .u64 (rd t166 (ji33)))) (ds := [15]) (bA 16 0) (by kernel_rfl) rfl rfl ⟨hx178_0, hx179_0⟩ (fun hHeld => ?_); refine with_tabW perigeeref1_Shr.tab12 perigeeref1_Shr.bits12 (fun HT_ HW_ => ?_)
                   generalize w42.drew = w43 at HO_5 HO_6 BK164 BK165 HB HQ44 hf39_0 hx178_0 hx179_0 hx39_0 hHeld ⊢
                   refine pure_ (i := 0) (N := some 46) (v := ?_) (a' := ?_) (bA 16 1) rfl rfl (any_of HT_.out (by kernel_rfl)) (fun _ _ _ h => h) (Or.inl ⟨by rfl, ?_⟩) ?_ ?_
                   rotate_left
                   ·intro w'
                    go_simp
                    with_reducible rfl
                   rotate_left
                   ·simp only [Act.put, List.setIfInBounds_toArray, List.set_cons_zero, List.set_cons_succ, i64_w, i32_w]
                    rfl
                   refine pure_ (i := 1) (N := some 47) (v := ?_) (a' := ?_) (bA 16 3) rfl rfl (any_of HT_.out (by kernel_rfl)) (fun _ _ _ h => h) (Or.inl ⟨by rfl, ?_⟩) ?_ ?_
                   rotate_left
                   ·intro w'
                    go_simp
                    with_reducible rfl
                   rotate_left
                   ·simp only [Act.put, List.setIfInBounds_toArray, List.set_cons_zero, List.set_cons_succ, i64_w, i32_w]
                    rfl
                   refine pure_ (i := 2) (N := some 48) (v := ?_) (a' := ?_) (bA 16 7) rfl rfl (any_of HT_.out (by kernel_rfl)) (fun _ _ _ h => h) (Or.inl ⟨by rfl, ?_⟩) ?_ ?_
                   rotate_left
                   ·intro w'
                    go_simp
                    with_reducible rfl
                   rotate_left
                   ·simp only [Act.put, List.setIfInBounds_toArray, List.set_cons_zero, List.set_cons_succ, i64_w, i32_w]
                    rfl
                   refine pure_ (i := 4) (N := some 50) (v := ?_) (a' := ?_) (bA 16 23) rfl rfl (any_of HT_.out (by kernel_rfl)) (fun _ _ _ h => h) (Or.inl ⟨by rfl, ?_⟩) ?_ ?_
                   rotate_left
                   ·intro w'
                    go_simp
                    with_reducible rfl
                   rotate_left
                   ·simp only [Act.put, List.setIfInBounds_toArray, List.set_cons_zero, List.set_cons_succ, i64_w, i32_w]
                    rfl
                   refine pure_ (i := 5) (N := some 51) (v := ?_) (a' := ?_) (bA 16 55) rfl rfl (any_of HT_.out (by kernel_rfl)) (fun _ _ _ h => h) (Or.inl ⟨by rfl, ?_⟩) ?_ ?_
                   rotate_left
                   ·intro w'
                    go_simp
                    with_reducible rfl
                   rotate_left
                   ·simp only [Act.put, List.setIfInBounds_toArray, List.set_cons_zero, List.set_cons_succ, i64_w, i32_w]
                    rfl
                   refine pure_ (i := 6) (N := some 52) (v := ?_) (a' := ?_) (bA 16 119) rfl rfl (any_of HT_.out (by kernel_rfl)) (fun _ _ _ h => h) (Or.inl ⟨by rfl, ?_⟩) ?_ ?_
                   rotate_left
                   ·intro w'
                    go_simp
                    with_reducible rfl
                   rotate_left
                   ·simp only [Act.put, List.setIfInBounds_toArray, List.set_cons_zero, List.set_cons_succ, i64_w, i32_w]
                    rfl
                   refine pure_ (i := 7) (N := some 53) (v := ?_) (a' := ?_) (bA 16 247) rfl rfl (any_of HT_.out (by kernel_rfl)) (fun _ _ _ h => h) (Or.inl ⟨by rfl, ?_⟩) ?_ ?_
                   rotate_left
                   ·intro w'
                    go_simp
                    with_reducible rfl
                   rotate_left
                   ·simp only [Act.put, List.setIfInBounds_toArray, List.set_cons_zero, List.set_cons_succ, i64_w, i32_w]
                    rfl
                   refine pure_ (i := 9) (N := some 55) (v := ?_) (a' := ?_) (bA 16 759) rfl rfl (any_of HT_.out (by kernel_rfl)) (fun _ _ _ h => h) (Or.inl ⟨by rfl, ?_⟩) ?_ ?_
                   rotate_left
                   ·intro w'
                    go_simp
                    with_reducible rfl
                   rotate_left
                   ·simp only [Act.put, List.setIfInBounds_toArray, List.set_cons_zero, List.set_cons_succ, i64_w, i32_w]
                    rfl
                   refine pure_ (i := 10) (N := some 56) (v := ?_) (a' := ?_) (bA 16 1783) rfl rfl (any_of HT_.out (by kernel_rfl)) (fun _ _ _ h => h) (Or.inl ⟨by rfl, ?_⟩) ?_ ?_
                   rotate_left
                   ·intro w'
                    go_simp
                    with_reducible rfl
                   rotate_left
                   ·simp only [Act.put, List.setIfInBounds_toArray, List.set_cons_zero, List.set_cons_succ, i64_w, i32_w]
                    rfl
                   refine pure_ (i := 11) (N := some 57) (v := ?_) (a' := ?_) (bA 16 3831) rfl rfl (any_of HT_.out (by kernel_rfl)) (fun _ _ _ h => h) (Or.inl ⟨by rfl, ?_⟩) ?_ ?_
                   rotate_left
                   ·intro w'
                    go_simp
                    with_reducible rfl
                   rotate_left
                   ·simp only [Act.put, List.setIfInBounds_toArray, List.set_cons_zero, List.set_cons_succ, i64_w, i32_w]
                    rfl
                   refine take_ (i := 3) (N := some 49) (v := ?_) (a' := ?_) (bA 16 3839) rfl rfl (take_ofW HT_.out HW_.out (by kernel_rfl)) (fun _ _ _ h => h) (Or.inl ⟨by rfl, ?_⟩) hHeld ?_ ?_
                   rotate_left
                   ·rintro w' ⟨s0, s1⟩
                    go_simp
                    with_reducible rfl
                   rotate_left
                   ·simp only [Act.put, List.setIfInBounds_toArray, List.set_cons_zero, List.set_cons_succ, i64_w, i32_w]
                    rfl
                   refine take_ (i := 8) (N := some 54) (v := ?_) (a' := ?_) (bA 16 4095) rfl rfl (take_ofW HT_.out HW_.out (by kernel_rfl)) (fun _ _ _ h => h) (Or.inl ⟨by rfl, ?_⟩) hHeld ?_ ?_
                   rotate_left
                   ·rintro w' ⟨s0, s1⟩
                    go_simp
                    with_reducible rfl
                   rotate_left
                   ·simp only [Act.put, List.setIfInBounds_toArray, List.set_cons_zero, List.set_cons_succ, i64_w, i32_w]
                    rfl
                   refine pure_ (i := 12) (N := some 58) (v := ?_) (a' := ?_) (bA 16 8191) rfl rfl (any_of HT_.out (by kernel_rfl)) (fun _ _ _ h => h) (Or.inl ⟨by rfl, ?_⟩) ?_ ?_
                   rotate_left
                   ·intro w'
                    go_simp
                    with_reducible rfl
                   rotate_left
                   ·simp only [Act.put, List.setIfInBounds_toArray, List.set_cons_zero, List.set_cons_succ, i64_w, i32_w]
                    rfl
                   refine pure_ (i := 13) (N := some 59) (v := ?_) (a' := ?_) (bA 16 16383) rfl rfl (any_of HT_.out (by kernel_rfl)) (fun _ _ _ h => h) (Or.inl ⟨by rfl, ?_⟩) ?_ ?_
                   rotate_left
                   ·intro w'
                    go_simp
                    with_reducible rfl
                   rotate_left
                   ·simp only [Act.put, List.setIfInBounds_toArray, List.set_cons_zero, List.set_cons_succ, i64_w, i32_w]
                    rfl
                   refine pure_ (i := 14) (N := some 60) (v := ?_) (a' := ?_) (bA 16 32767) rfl rfl (any_of HT_.out (by kernel_rfl)) (fun _ _ _ h => h) (Or.inl ⟨by rfl, ?_⟩) ?_ ?_
                   rotate_left
                   ·intro w'
                    go_simp
                    with_reducible rfl
                   rotate_left
                   ·simp only [Act.put, List.setIfInBounds_toArray, List.set_cons_zero, List.set_cons_succ, i64_w, i32_w]
                    rfl
                   refine last_ (i := 15) (N := none) (bA 16 65535) rfl rfl (one_of HT_.out (by kernel_rfl)) (by decide) (fun K hK => ?_)
                   refine skip_ (w1 := ?_) (by rfl) rfl ?_ ?_
                   rotate_left
                   ·go_simp
                    rfl
                   refine hK.out _ _ ?_
                   clear hK K
                   refine done_ (done_of HT_.out (by kernel_rfl)) ?_
                   try go_wp2
                   go_roundg kj17
                   case measure => have := HK1.out; have := HJ17.out; omega
                   case rel => exact ⟨(y180), (wrap64 (x7_1 + 1)), (by first | rfl | (simp; done) | (simp [*]; done)), H', ⟨by have := HK1.out; have := HJ17.out; omega⟩, ⟨by (with_reducible repeat (first | apply Kd.R_alloc | apply Kd.R_drewN | apply Kd.R_drew)); exact Kd.R_mono (Kd.R_far (p := ⟨go30, (x7_1 : Int).toNat, none⟩) (Kd.R_mono HO_5.out (fun k_ hk => (⟨hk, fun e_ => hk.2 (by rw [e_]; rfl)⟩ : _ ∧ k_ ≠ go30))) (fun _ hk => hk.2) (.int .u64 (Go.bits .or .u64 (rd y177 x7_1) (ji38)))) (fun _ hk => hk.1.2)⟩, ⟨by (with_reducible repeat (first | apply Kd.R_alloc | apply Kd.R_drewN | apply Kd.R_drew)); exact HQ44.out⟩, ⟨by (with_reducible repeat (first | refine bN ?_ _ | refine bD ?_ | refine bL ?_ _)); refine bX ?_ (by have h_ := Kd.R_ne HO_6.out BK164.out (by decide); intro e_; exact h_ (by rw [e_]; rfl)) _; (with_reducible repeat (first | refine bN ?_ _ | refine bD ?_ | refine bL ?_ _)); exact BK164.out⟩, ⟨by (with_reducible repeat (first | refine bN ?_ _ | refine bD ?_ | refine bL ?_ _)); refine bX ?_ (by have h_ := Kd.R_ne HO_6.out BK165.out (by decide); intro e_; exact h_ (by rw [e_]; rfl)) _; (with_reducible repeat (first | refine bN ?_ _ | refine bD ?_ | refine bL ?_ _)); exact BK165.out⟩, ⟨by repeat (first | (with_reducible first | exact HB.out | apply below_alloc | apply pN | apply dI | refine below_set ?_ GB30.out | refine below_set ?_ GE164.out | refine below_set ?_ GE165.out) | exact HB.out)⟩⟩
                  ·rw [if_neg c37] at H
                   exact absurd H (by simp)
                 ·rw [if_neg c35] at H
                  exact absurd H (by simp)
                ·rw [if_neg c34] at H
                 exact absurd H (by simp)
               ·rw [if_neg c32] at H
                have c32b0 : decide (0 < (ji25)) = false := decide_eq_false c32
                clear c32
                have H' := Aside0.mk H
                clear H
                obtain ⟨Ao45, co45, eo45⟩ := Kd.R_slice HO_5.out
                subst eo45
                have p176 : 0 ≤ ((ji22) : Int) := of_decide_eq_true (by first | (with_reducible assumption) | assumption)
                have q176 : (ji22) < (t166.length : Int) := of_decide_eq_true (by first | (with_reducible assumption) | assumption)
                obtain ⟨ad176, e176, hx176_0⟩ := Kd.at_int (Kd.R_reads' HO_5.out).2.2 (ji22) p176 q176
                cases e176
                replace p176 := eq_true p176
                replace q176 := eq_true q176
                have p30 : 0 ≤ (x7_1 : Int) := of_decide_eq_true (by first | (with_reducible assumption) | assumption)
                have q30 : (x7_1 : Int) < ((x6_1.length : Int) : Int) := of_decide_eq_true (by first | (with_reducible assumption) | assumption)
                obtain ⟨go30, co30, eo30, gb30, gl30, cl30, HG30⟩ := Kd.R_form HO_6.out (by omega)
                (first | cases eo30 | (injection eo30 with ea_ en_ ec_; (first | subst ea_ | (injection ea_ with ea_; subst ea_)); subst ec_; clear en_))
                have GB30 := Aside0.mk gb30
                have GG30 := Aside0.mk HG30
                clear gb30 gl30 HG30
                obtain ⟨hx30_0, hf30_0⟩ := Kd.R_celln 0 HO_6.out (x7_1 : Int) p30 q30
                replace p30 := eq_true p30
                replace q30 := eq_true q30
                have HP46 := Kd.R_putg HO_6.out (x7_1 : Int) ji27
                go_wp2_with (first | ((with_reducible refine gate_store (t := 22) (p := 38) rfl ?_); refine store_event (t := 22) (p := 38) (v := ?vo_w47) (w1 := (wc.setCell ⟨go30, (x7_1 : Int).toNat, none⟩ (.int .u64 ji27))) ?hg ?ho ?hn ?hr ?_; (case ho => rfl); (case hg => rfl); (case hn => rfl); (case hr => first | (go_simp; done) | (go_simp; rfl)); intro w47 hw; have hg : wc.grownBy w47 (some go30) := (by rw [hw]; exact HP46.2); have hp_ : Kd.R (Kd.int .u64) 22 w47 w.heap.size (fun k_ => some k_ ≠ (.slice (some ad176) t166.length co45 : Value).ownBlock) (.slice (some ⟨go30, 0, none⟩) x6_1.length co30) y177 := (by rw [hw, Ny177.out]; exact HP46.1); clear HP46; have n0_ := Aside0.mk (Kd.R_after (v := (.slice (some ⟨go30, 0, none⟩) x6_1.length co30)) (v1 := (.slice (some ⟨go30, 0, none⟩) x6_1.length co30)) (ok := (fun _ => True)) (by (with_reducible repeat (first | apply Kd.R_alloc | apply Kd.R_drewN | apply Kd.R_drew)); exact Kd.R_mono HO_5.out (fun _ hk => ⟨trivial, hk⟩)) hg (.inl rfl)); have n1_ := Aside0.mk (hp_); have n2_ := Aside0.mk (blk_grown (g := gb164) (o := .cells #[.int .u64 a0_0, .int .u64 a0_1, .int .u64 a0_2, .int .u64 a0_3] 26 (0, 0)) (by (with_reducible repeat (first | refine bN ?_ _ | refine bD ?_ | refine bL ?_ _)); exact BK164.out) hg (Kd.R_ne HO_6.out BK164.out (by decide))); have n3_ := Aside0.mk (blk_grown (g := gb165) (o := .cells #[.int .u64 0, .int .u64 0, .int .u64 0, .int .u64 0] 26 (0, 0)) (by (with_reducible repeat (first | refine bN ?_ _ | refine bD ?_ | refine bL ?_ _)); exact BK165.out) hg (Kd.R_ne HO_6.out BK165.out (by decide))); have n4_ := Aside0.mk ((by rw [hw]; exact below_set (HB.out) GB30.out : Below w.heap.size w w47)); clear HO_5; clear HO_6; clear BK164; clear BK165; clear HB; have HO_5 := n0_; have HO_6 := n1_; have BK164 := n2_; have BK165 := n3_; have HB := n4_; clear n0_ n1_ n2_ n3_ n4_; clear hg hw hp_))
                go_roundg kj17
                case measure => have := HK1.out; have := HJ17.out; omega
                case rel => exact ⟨(y177), (wrap64 (x7_1 + 1)), (by first | rfl | (simp; done) | (simp [*]; done)), H', ⟨by have := HK1.out; have := HJ17.out; omega⟩, ⟨by (with_reducible repeat (first | apply Kd.R_alloc | apply Kd.R_drewN | apply Kd.R_drew)); exact Kd.R_mono HO_5.out (fun _ hk => hk.2)⟩, ⟨by (with_reducible repeat (first | apply Kd.R_alloc | apply Kd.R_drewN | apply Kd.R_drew)); exact HO_6.out⟩, ⟨by (with_reducible repeat (first | refine bN ?_ _ | refine bD ?_ | refine bL ?_ _)); exact BK164.out⟩, ⟨by (with_reducible repeat (first | refine bN ?_ _ | refine bD ?_ | refine bL ?_ _)); exact BK165.out⟩, ⟨by repeat (first | (with_reducible first | exact HB.out | apply below_alloc | apply pN | apply dI | refine below_set ?_ GE164.out | refine below_set ?_ GE165.out) | exact HB.out)⟩⟩
              ·rw [if_neg c31] at H
               have c31b0 : decide ((ji22) < 3) = false := decide_eq_false c31
               clear c31
               have H' := Aside0.mk H
               clear H
               obtain ⟨Ao48, co48, eo48⟩ := Kd.R_slice HO_5.out
               subst eo48
               have p176 : 0 ≤ ((ji22) : Int) := of_decide_eq_true (by first | (with_reducible assumption) | assumption)
               have q176 : (ji22) < (t166.length : Int) := of_decide_eq_true (by first | (with_reducible assumption) | assumption)
               obtain ⟨ad176, e176, hx176_0⟩ := Kd.at_int (Kd.R_reads' HO_5.out).2.2 (ji22) p176 q176
               cases e176
               replace p176 := eq_true p176
               replace q176 := eq_true q176
               have p30 : 0 ≤ (x7_1 : Int) := of_decide_eq_true (by first | (with_reducible assumption) | assumption)
               have q30 : (x7_1 : Int) < ((x6_1.length : Int) : Int) := of_decide_eq_true (by first | (with_reducible assumption) | assumption)
               obtain ⟨go30, co30, eo30, gb30, gl30, cl30, HG30⟩ := Kd.R_form HO_6.out (by omega)
               (first | cases eo30 | (injection eo30 with ea_ en_ ec_; (first | subst ea_ | (injection ea_ with ea_; subst ea_)); subst ec_; clear en_))
               have GB30 := Aside0.mk gb30
               have GG30 := Aside0.mk HG30
               clear gb30 gl30 HG30
               obtain ⟨hx30_0, hf30_0⟩ := Kd.R_celln 0 HO_6.out (x7_1 : Int) p30 q30
               replace p30 := eq_true p30
               replace q30 := eq_true q30
               have HP49 := Kd.R_putg HO_6.out (x7_1 : Int) ji27
               go_wp2_with (first | ((with_reducible refine gate_store (t := 22) (p := 38) rfl ?_); refine store_event (t := 22) (p := 38) (v := ?vo_w50) (w1 := (wc.setCell ⟨go30, (x7_1 : Int).toNat, none⟩ (.int .u64 ji27))) ?hg ?ho ?hn ?hr ?_; (case ho => rfl); (case hg => rfl); (case hn => rfl); (case hr => first | (go_simp; done) | (go_simp; rfl)); intro w50 hw; have hg : wc.grownBy w50 (some go30) := (by rw [hw]; exact HP49.2); have hp_ : Kd.R (Kd.int .u64) 22 w50 w.heap.size (fun k_ => some k_ ≠ (.slice (some ad176) t166.length co48 : Value).ownBlock) (.slice (some ⟨go30, 0, none⟩) x6_1.length co30) y177 := (by rw [hw, Ny177.out]; exact HP49.1); clear HP49; have n0_ := Aside0.mk (Kd.R_after (v := (.slice (some ⟨go30, 0, none⟩) x6_1.length co30)) (v1 := (.slice (some ⟨go30, 0, none⟩) x6_1.length co30)) (ok := (fun _ => True)) (by (with_reducible repeat (first | apply Kd.R_alloc | apply Kd.R_drewN | apply Kd.R_drew)); exact Kd.R_mono HO_5.out (fun _ hk => ⟨trivial, hk⟩)) hg (.inl rfl)); have n1_ := Aside0.mk (hp_); have n2_ := Aside0.mk (blk_grown (g := gb164) (o := .cells #[.int .u64 a0_0, .int .u64 a0_1, .int .u64 a0_2, .int .u64 a0_3] 26 (0, 0)) (by (with_reducible repeat (first | refine bN ?_ _ | refine bD ?_ | refine bL ?_ _)); exact BK164.out) hg (Kd.R_ne HO_6.out BK164.out (by decide))); have n3_ := Aside0.mk (blk_grown (g := gb165) (o := .cells #[.int .u64 0, .int .u64 0, .int .u64 0, .int .u64 0] 26 (0, 0)) (by (with_reducible repeat (first | refine bN ?_ _ | refine bD ?_ | refine bL ?_ _)); exact BK165.out) hg (Kd.R_ne HO_6.out BK165.out (by decide))); have n4_ := Aside0.mk ((by rw [hw]; exact below_set (HB.out) GB30.out : Below w.heap.size w w50)); clear HO_5; clear HO_6; clear BK164; clear BK165; clear HB; have HO_5 := n0_; have HO_6 := n1_; have BK164 := n2_; have BK165 := n3_; have HB := n4_; clear n0_ n1_ n2_ n3_ n4_; clear hg hw hp_))
               go_roundg kj17
               case measure => have := HK1.out; have := HJ17.out; omega
               case rel => exact ⟨(y177), (wrap64 (x7_1 + 1)), (by first | rfl | (simp; done) | (simp [*]; done)), H', ⟨by have := HK1.out; have := HJ17.out; omega⟩, ⟨by (with_reducible repeat (first | apply Kd.R_alloc | apply Kd.R_drewN | apply Kd.R_drew)); exact Kd.R_mono HO_5.out (fun _ hk => hk.2)⟩, ⟨by (with_reducible repeat (first | apply Kd.R_alloc | apply Kd.R_drewN | apply Kd.R_drew)); exact HO_6.out⟩, ⟨by (with_reducible repeat (first | refine bN ?_ _ | refine bD ?_ | refine bL ?_ _)); exact BK164.out⟩, ⟨by (with_reducible repeat (first | refine bN ?_ _ | refine bD ?_ | refine bL ?_ _)); exact BK165.out⟩, ⟨by repeat (first | (with_reducible first | exact HB.out | apply below_alloc | apply pN | apply dI | refine below_set ?_ GE164.out | refine below_set ?_ GE165.out) | exact HB.out)⟩⟩
             ·rw [if_neg c29] at H
              exact absurd H (by simp)
            ·rw [if_neg c28] at H
             exact absurd H (by simp)
           ·rw [if_neg c26] at H
            exact absurd H (by simp)
          ·rw [if_neg c24] at H
           exact absurd H (by simp)
         ·rw [if_neg c23] at H
          exact absurd H (by simp)
        ·rw [if_neg c21] at H
         have c21b0 : decide ((wrap64 (x7_1 + (wrap64 (Int.tdiv a1 64)))) < 4) = false := decide_eq_false c21
         clear c21
         by_cases c51 : (wrap64 (x7_1 + (wrap64 (Int.tdiv a1 64)))) < 3
         ·rw [if_pos c51] at H
          have c51b0 : decide ((wrap64 (x7_1 + (wrap64 (Int.tdiv a1 64)))) < 3) = true := decide_eq_true c51
          clear c51
          by_cases c52 : (Int.tmod a1 64) > 0
          ·rw [if_pos c52] at H
           have c52b0 : decide (0 < (Int.tmod a1 64)) = true := decide_eq_true c52
           clear c52
           by_cases c53 : 0 ≤ x7_1
           ·rw [if_pos c53] at H
            have c53b0 : decide (0 ≤ x7_1) = true := decide_eq_true c53
            clear c53
            by_cases c54 : x7_1 < (x6_1.length : Int)
            ·rw [if_pos c54] at H
             have c54b0 : decide (x7_1 < (x6_1.length : Int)) = true := decide_eq_true c54
             clear c54
             obtain ⟨ji55, hji55⟩ : ∃ j_ : Int, (wrap64 ((wrap64 (x7_1 + (wrap64 (Int.tdiv a1 64)))) + 1)) = j_ := ⟨_, rfl⟩
             replace H : (if 0 ≤ (ji55) then (if (ji55) < (t166.length : Int) then (if 0 ≤ (wrap64 (64 - (Int.tmod a1 64))) then (perigeeref1_Shr.l0 kj17 a1 t166 (x6_1.set (x7_1 : Int).toNat (Go.bits .or .u64 (rd x6_1 x7_1) (shl .u64 (rd t166 (ji55)) (wrap64 (64 - (Int.tmod a1 64)))))) (wrap64 (x7_1 + 1))) else (none)) else (none)) else (none)) = some (r1, r2, r3, r4) := by first | (rw [hji55] at H; exact H) | (simp only [hji55] at H ⊢; exact H)
             have hji55w : (IntKind.i64.wrap ((wrap64 (x7_1 + (wrap64 (Int.tdiv a1 64)))) + 1)) = ji55 := (i64_w _).trans hji55
             by_cases c56 : 0 ≤ (ji55)
             ·rw [if_pos c56] at H
              have c56b0 : decide (0 ≤ (ji55)) = true := decide_eq_true c56
              clear c56
              by_cases c57 : (ji55) < (t166.length : Int)
              ·rw [if_pos c57] at H
               have c57b0 : decide ((ji55) < (t166.length : Int)) = true := decide_eq_true c57
               clear c57
               obtain ⟨ji58, hji58⟩ : ∃ j_ : Int, (wrap64 (64 - (Int.tmod a1 64))) = j_ := ⟨_, rfl⟩
               replace H : (if 0 ≤ (ji58) then (perigeeref1_Shr.l0 kj17 a1 t166 (x6_1.set (x7_1 : Int).toNat (Go.bits .or .u64 (rd x6_1 x7_1) (shl .u64 (rd t166 (ji55)) (ji58)))) (wrap64 (x7_1 + 1))) else (none)) = some (r1, r2, r3, r4) := by first | (rw [hji58] at H; exact H) | (simp only [hji58] at H ⊢; exact H)
               have hji58w : (IntKind.i64.wrap (64 - (Int.tmod a1 64))) = ji58 := (i64_w _).trans hji58
               by_cases c59 : 0 ≤ (ji58)
               ·rw [if_pos c59] at H
                have c59b0 := eq_true c59
                have c59b1 : decide (0 ≤ (ji58)) = true := decide_eq_true c59
                clear c59
                obtain ⟨ji60, hji60⟩ : ∃ j_ : Int, (shl .u64 (rd t166 (ji55)) (ji58)) = j_ := ⟨_, rfl⟩
                replace H : (perigeeref1_Shr.l0 kj17 a1 t166 (x6_1.set (x7_1 : Int).toNat (Go.bits .or .u64 (rd x6_1 x7_1) (ji60))) (wrap64 (x7_1 + 1))) = some (r1, r2, r3, r4) := by first | (rw [hji60] at H; exact H) | (simp only [hji60] at H ⊢; exact H)
                have hji60_ : (IntKind.u64.wrap ((rd t166 (ji55)) * 2 ^ min (ji58).toNat 64)) = ji60 := hji60
                have hji60z : (ji58) ≤ 64 → (IntKind.u64.wrap ((rd t166 (ji55)) * 2 ^ (ji58).toNat)) = ji60 := shl_small hji60
                obtain ⟨y183, hy183⟩ : ∃ y_ : List Int, y_ = (x6_1.set (x7_1 : Int).toNat (Go.bits .or .u64 (rd x6_1 x7_1) (ji60))) := ⟨_, rfl⟩
                replace H : (perigeeref1_Shr.l0 kj17 a1 t166 y183 (wrap64 (x7_1 + 1))) = some (r1, r2, r3, r4) := by first | (rw [hy183]; with_reducible exact H) | (have H2_ := (Option.bind_some _ _).symm.trans H; rw [hy183]; with_reducible exact H2_) | (have H2_ := (Option.bind_some _ _).symm.trans H; with_reducible exact H2_) | with_reducible exact H | (rw [hy183]; exact H) | exact H
                have Ny183 := Aside0.mk hy183
                clear hy183
                have H' := Aside0.mk H
                clear H
                try go_wp2
                have n0_ := Aside0.mk (Kd.R_drew HO_5.out)
                have n1_ := Aside0.mk (Kd.R_drew HO_6.out)
                have n2_ := Aside0.mk (bD BK164.out)
                have n3_ := Aside0.mk (bD BK165.out)
                have n4_ := Aside0.mk (dI HB.out)
                clear HO_5
                clear HO_6
                clear BK164
                clear BK165
                clear HB
                have HO_5 := n0_
                have HO_6 := n1_
                have BK164 := n2_
                have BK165 := n3_
                have HB := n4_
                clear n0_ n1_ n2_ n3_ n4_
                obtain ⟨Ao63, co63, eo63⟩ := Kd.R_slice HO_6.out
                (first | subst eo63 | (injection eo63 with f1_ f2_ f3_; have f4_ := f1_.symm; have f5_ := f3_.symm; clear f1_ f2_ f3_; subst f4_; subst f5_))
                have p181 : 0 ≤ (x7_1 : Int) := of_decide_eq_true (by first | (with_reducible assumption) | assumption)
                have q181 : x7_1 < (x6_1.length : Int) := of_decide_eq_true (by first | (with_reducible assumption) | assumption)
                obtain ⟨ad181, e181, hx181_0⟩ := Kd.at_int (Kd.R_reads' HO_6.out).2.2 x7_1 p181 q181
                cases e181
                replace p181 := eq_true p181
                replace q181 := eq_true q181
                obtain ⟨Ao64, co64, eo64⟩ := Kd.R_slice HO_5.out
                (first | subst eo64 | (injection eo64 with f1_ f2_ f3_; have f4_ := f1_.symm; have f5_ := f3_.symm; clear f1_ f2_ f3_; subst f4_; subst f5_))
                have p182 : 0 ≤ ((ji55) : Int) := of_decide_eq_true (by first | (with_reducible assumption) | assumption)
                have q182 : (ji55) < (t166.length : Int) := of_decide_eq_true (by first | (with_reducible assumption) | assumption)
                obtain ⟨ad182, e182, hx182_0⟩ := Kd.at_int (Kd.R_reads' HO_5.out).2.2 (ji55) p182 q182
                cases e182
                replace p182 := eq_true p182
                replace q182 := eq_true q182
                have p61 : 0 ≤ (x7_1 : Int) := of_decide_eq_true (by first | (with_reducible assumption) | assumption)
                have q61 : (x7_1 : Int) < ((x6_1.length : Int) : Int) := of_decide_eq_true (by first | (with_reducible assumption) | assumption)
                obtain ⟨go61, co61, eo61, gb61, gl61, cl61, HG61⟩ := Kd.R_form HO_6.out (by omega)
                (first | cases eo61 | (injection eo61 with ea_ en_ ec_; (first | subst ea_ | (injection ea_ with ea_; subst ea_)); subst ec_; clear en_))
                have GB61 := Aside0.mk gb61
                have GG61 := Aside0.mk HG61
                clear gb61 gl61 HG61
                (first | simp only [add_plain] at hx181_0 | skip)
                obtain ⟨hx61_0, hf61_0⟩ := Kd.R_celln 0 HO_6.out (x7_1 : Int) p61 q61
                replace p61 := eq_true p61
                replace q61 := eq_true q61
                have HP65 := Kd.R_putn HO_6.out (x7_1 : Int) (Go.bits .or .u64 (rd x6_1 x7_1) (ji60))
                rw [← Ny183.out] at HP65
                have HQ65 := Aside0.mk HP65
                clear HP65
                refine start_ (n := 16) (S := fun w' => w'.cell? ⟨go61, (x7_1).toNat, none⟩ = some (.int .u64 (rd x6_1 x7_1)) ∧ w'.cell? (ad182.add ((ji55)).toNat) = some (.int .u64 (rd t166 (ji55)))) (ds := [15]) (bA 16 0) (by kernel_rfl) rfl rfl ⟨hx181_0, hx182_0⟩ (fun hHeld => ?_); refine with_tabW perigeeref1_Shr.tab12 perigeeref1_Shr.bits12 (fun HT_ HW_ => ?_)
                generalize wc.drew = w62 at HO_5 HO_6 BK164 BK165 HB GG61 HQ65 hf61_0 hx181_0 hx182_0 hx61_0 hHeld ⊢
                refine pure_ (i := 0) (N := some 46) (v := ?_) (a' := ?_) (bA 16 1) rfl rfl (any_of HT_.out (by kernel_rfl)) (fun _ _ _ h => h) (Or.inl ⟨by rfl, ?_⟩) ?_ ?_
                rotate_left
                ·intro w'
                 go_simp
                 with_reducible rfl
                rotate_left
                ·simp only [Act.put, List.setIfInBounds_toArray, List.set_cons_zero, List.set_cons_succ, i64_w, i32_w]
                 rfl
                refine pure_ (i := 1) (N := some 47) (v := ?_) (a' := ?_) (bA 16 3) rfl rfl (any_of HT_.out (by kernel_rfl)) (fun _ _ _ h => h) (Or.inl ⟨by rfl, ?_⟩) ?_ ?_
                rotate_left
                ·intro w'
                 go_simp
                 with_reducible rfl
                rotate_left
                ·simp only [Act.put, List.setIfInBounds_toArray, List.set_cons_zero, List.set_cons_succ, i64_w, i32_w]
                 rfl
                refine pure_ (i := 2) (N := some 48) (v := ?_) (a' := ?_) (bA 16 7) rfl rfl (any_of HT_.out (by kernel_rfl)) (fun _ _ _ h => h) (Or.inl ⟨by rfl, ?_⟩) ?_ ?_
                rotate_left
                ·intro w'
                 go_simp
                 with_reducible rfl
                rotate_left
                ·simp only [Act.put, List.setIfInBounds_toArray, List.set_cons_zero, List.set_cons_succ, i64_w, i32_w]
                 rfl
                refine pure_ (i := 4) (N := some 50) (v := ?_) (a' := ?_) (bA 16 23) rfl rfl (any_of HT_.out (by kernel_rfl)) (fun _ _ _ h => h) (Or.inl ⟨by rfl, ?_⟩) ?_ ?_
                rotate_left
                ·intro w'
                 go_simp
                 with_reducible rfl
                rotate_left
                ·simp only [Act.put, List.setIfInBounds_toArray, List.set_cons_zero, List.set_cons_succ, i64_w, i32_w]
                 rfl
                refine pure_ (i := 5) (N := some 51) (v := ?_) (a' := ?_) (bA 16 55) rfl rfl (any_of HT_.out (by kernel_rfl)) (fun _ _ _ h => h) (Or.inl ⟨by rfl, ?_⟩) ?_ ?_
                rotate_left
                ·intro w'
                 go_simp
                 with_reducible rfl
                rotate_left
                ·simp only [Act.put, List.setIfInBounds_toArray, List.set_cons_zero, List.set_cons_succ, i64_w, i32_w]
                 rfl
                refine pure_ (i := 6) (N := some 52) (v := ?_) (a' := ?_) (bA 16 119) rfl rfl (any_of HT_.out (by kernel_rfl)) (fun _ _ _ h => h) (Or.inl ⟨by rfl, ?_⟩) ?_ ?_
                rotate_left
                ·intro w'
                 go_simp
                 with_reducible rfl
                rotate_left
                ·simp only [Act.put, List.setIfInBounds_toArray, List.set_cons_zero, List.set_cons_succ, i64_w, i32_w]
                 rfl
                refine pure_ (i := 7) (N := some 53) (v := ?_) (a' := ?_) (bA 16 247) rfl rfl (any_of HT_.out (by kernel_rfl)) (fun _ _ _ h => h) (Or.inl ⟨by rfl, ?_⟩) ?_ ?_
                rotate_left
                ·intro w'
                 go_simp
                 with_reducible rfl
                rotate_left
                ·simp only [Act.put, List.setIfInBounds_toArray, List.set_cons_zero, List.set_cons_succ, i64_w, i32_w]
                 rfl
                refine pure_ (i := 9) (N := some 55) (v := ?_) (a' := ?_) (bA 16 759) rfl rfl (any_of HT_.out (by kernel_rfl)) (fun _ _ _ h => h) (Or.inl ⟨by rfl, ?_⟩) ?_ ?_
                rotate_left
                ·intro w'
                 go_simp
                 with_reducible rfl
                rotate_left
                ·simp only [Act.put, List.setIfInBounds_toArray, List.set_cons_zero, List.set_cons_succ, i64_w, i32_w]
                 rfl
                refine pure_ (i := 10) (N := some 56) (v := ?_) (a' := ?_) (bA 16 1783) rfl rfl (any_of HT_.out (by kernel_rfl)) (fun _ _ _ h => h) (Or.inl ⟨by rfl, ?_⟩) ?_ ?_
                rotate_left
                ·intro w'
                 go_simp
                 with_reducible rfl
                rotate_left
                ·simp only [Act.put, List.setIfInBounds_toArray, List.set_cons_zero, List.set_cons_succ, i64_w, i32_w]
                 rfl
                refine pure_ (i := 11) (N := some 57) (v := ?_) (a' := ?_) (bA 16 3831) rfl rfl (any_of HT_.out (by kernel_rfl)) (fun _ _ _ h => h) (Or.inl ⟨by rfl, ?_⟩) ?_ ?_
                rotate_left
                ·intro w'
                 go_simp
                 with_reducible rfl
                rotate_left
                ·simp only [Act.put, List.setIfInBounds_toArray, List.set_cons_zero, List.set_cons_succ, i64_w, i32_w]
                 rfl
                refine take_ (i := 3) (N := some 49) (v := ?_) (a' := ?_) (bA 16 3839) rfl rfl (take_ofW HT_.out HW_.out (by kernel_rfl)) (fun _ _ _ h => h) (Or.inl ⟨by rfl, ?_⟩) hHeld ?_ ?_
                rotate_left
                ·rintro w' ⟨s0, s1⟩
                 go_simp
                 with_reducible rfl
                rotate_left
                ·simp only [Act.put, List.setIfInBounds_toArray, List.set_cons_zero, List.set_cons_succ, i64_w, i32_w]
                 rfl
                refine take_ (i := 8) (N := some 54) (v := ?_) (a' := ?_) (bA 16 4095) rfl rfl (take_ofW HT_.out HW_.out (by kernel_rfl)) (fun _ _ _ h => h) (Or.inl ⟨by rfl, ?_⟩) hHeld ?_ ?_
                rotate_left
                ·rintro w' ⟨s0, s1⟩
                 go_simp
                 with_reducible rfl
                rotate_left
                ·simp only [Act.put, List.setIfInBounds_toArray, List.set_cons_zero, List.set_cons_succ, i64_w, i32_w]
                 rfl
                refine pure_ (i := 12) (N := some 58) (v := ?_) (a' := ?_) (bA 16 8191) rfl rfl (any_of HT_.out (by kernel_rfl)) (fun _ _ _ h => h) (Or.inl ⟨by rfl, ?_⟩) ?_ ?_
                rotate_left
                ·intro w'
                 go_simp
                 with_reducible rfl
                rotate_left
                ·simp only [Act.put, List.setIfInBounds_toArray, List.set_cons_zero, List.set_cons_succ, i64_w, i32_w]
                 rfl
                refine pure_ (i := 13) (N := some 59) (v := ?_) (a' := ?_) (bA 16 16383) rfl rfl (any_of HT_.out (by kernel_rfl)) (fun _ _ _ h => h) (Or.inl ⟨by rfl, ?_⟩) ?_ ?_
                rotate_left
                ·intro w'
                 go_simp
                 with_reducible rfl
                rotate_left
                ·simp only [Act.put, List.setIfInBounds_toArray, List.set_cons_zero, List.set_cons_succ, i64_w, i32_w]
                 rfl
                refine pure_ (i := 14) (N := some 60) (v := ?_) (a' := ?_) (bA 16 32767) rfl rfl (any_of HT_.out (by kernel_rfl)) (fun _ _ _ h => h) (Or.inl ⟨by rfl, ?_⟩) ?_ ?_
                rotate_left
                ·intro w'
                 go_simp
                 with_reducible rfl
                rotate_left
                ·simp only [Act.put, List.setIfInBounds_toArray, List.set_cons_zero, List.set_cons_succ, i64_w, i32_w]
                 rfl
                refine last_ (i := 15) (N := none) (bA 16 65535) rfl rfl (one_of HT_.out (by kernel_rfl)) (by decide) (fun K hK => ?_)
                refine skip_ (w1 := ?_) (by rfl) rfl ?_ ?_
                rotate_left
                ·go_simp
                 rfl
                refine hK.out _ _ ?_
                clear hK K
                refine done_ (done_of HT_.out (by kernel_rfl)) ?_
                try go_wp2
                go_roundg kj17
                case measure => have := HK1.out; have := HJ17.out; omega
                case rel => exact ⟨(y183), (wrap64 (x7_1 + 1)), (by first | rfl | (simp; done) | (simp [*]; done)), H', ⟨by have := HK1.out; have := HJ17.out; omega⟩, ⟨by (with_reducible repeat (first | apply Kd.R_alloc | apply Kd.R_drewN | apply Kd.R_drew)); exact Kd.R_mono (Kd.R_far (p := ⟨go61, (x7_1 : Int).toNat, none⟩) (Kd.R_mono HO_5.out (fun k_ hk => (⟨hk, fun e_ => hk (by rw [e_]; rfl)⟩ : _ ∧ k_ ≠ go61))) (fun _ hk => hk.2) (.int .u64 (Go.bits .or .u64 (rd x6_1 x7_1) (ji60)))) (fun _ hk => hk.1)⟩, ⟨by (with_reducible repeat (first | apply Kd.R_alloc | apply Kd.R_drewN | apply Kd.R_drew)); exact HQ65.out⟩, ⟨by (with_reducible repeat (first | refine bN ?_ _ | refine bD ?_ | refine bL ?_ _)); refine bX ?_ (by have h_ := Kd.R_ne HO_6.out BK164.out (by decide); intro e_; exact h_ (by rw [e_]; rfl)) _; (with_reducible repeat (first | refine bN ?_ _ | refine bD ?_ | refine bL ?_ _)); exact BK164.out⟩, ⟨by (with_reducible repeat (first | refine bN ?_ _ | refine bD ?_ | refine bL ?_ _)); refine bX ?_ (by have h_ := Kd.R_ne HO_6.out BK165.out (by decide); intro e_; exact h_ (by rw [e_]; rfl)) _; (with_reducible repeat (first | refine bN ?_ _ | refine bD ?_ | refine bL ?_ _)); exact BK165.out⟩, ⟨by repeat (first | (with_reducible first | exact HB.out | apply below_alloc | apply pN | apply dI | refine below_set ?_ GB61.out | refine below_set ?_ GE164.out | refine below_set ?_ GE165.out) | exact HB.out)⟩⟩
               ·rw [if_neg c59] at H
                exact absurd H (by simp)
              ·rw [if_neg c57] at H
               exact absurd H (by simp)
             ·rw [if_neg c56] at H
              exact absurd H (by simp)
            ·rw [if_neg c54] at H
             exact absurd H (by simp)
           ·rw [if_neg c53] at H
            exact absurd H (by simp)
          ·rw [if_neg c52] at H
           have c52b0 : decide (0 < (Int.tmod a1 64)) = false := decide_eq_false c52
           clear c52
           have H' := Aside0.mk H
           clear H
           go_wp2
           go_roundg kj17
           case measure => have := HK1.out; have := HJ17.out; omega
           case rel => exact ⟨(x6_1), (wrap64 (x7_1 + 1)), (by first | rfl | (simp; done) | (simp [*]; done)), H', ⟨by have := HK1.out; have := HJ17.out; omega⟩, ⟨by (with_reducible repeat (first | apply Kd.R_alloc | apply Kd.R_drewN | apply Kd.R_drew)); exact HO_5.out⟩, ⟨by (with_reducible repeat (first | apply Kd.R_alloc | apply Kd.R_drewN | apply Kd.R_drew)); exact HO_6.out⟩, ⟨by (with_reducible repeat (first | refine bN ?_ _ | refine bD ?_ | refine bL ?_ _)); exact BK164.out⟩, ⟨by (with_reducible repeat (first | refine bN ?_ _ | refine bD ?_ | refine bL ?_ _)); exact BK165.out⟩, ⟨by repeat (first | (with_reducible first | exact HB.out | apply below_alloc | apply pN | apply dI | refine below_set ?_ GE164.out | refine below_set ?_ GE165.out) | exact HB.out)⟩⟩
         ·rw [if_neg c51] at H
          have c51b0 : decide ((wrap64 (x7_1 + (wrap64 (Int.tdiv a1 64)))) < 3) = false := decide_eq_false c51
          clear c51
          have H' := Aside0.mk H
          clear H
          go_wp2
          go_roundg kj17
          case measure => have := HK1.out; have := HJ17.out; omega
          case rel => exact ⟨(x6_1), (wrap64 (x7_1 + 1)), (by first | rfl | (simp; done) | (simp [*]; done)), H', ⟨by have := HK1.out; have := HJ17.out; omega⟩, ⟨by (with_reducible repeat (first | apply Kd.R_alloc | apply Kd.R_drewN | apply Kd.R_drew)); exact HO_5.out⟩, ⟨by (with_reducible repeat (first | apply Kd.R_alloc | apply Kd.R_drewN | apply Kd.R_drew)); exact HO_6.out⟩, ⟨by (with_reducible repeat (first | refine bN ?_ _ | refine bD ?_ | refine bL ?_ _)); exact BK164.out⟩, ⟨by (with_reducible repeat (first | refine bN ?_ _ | refine bD ?_ | refine bL ?_ _)); exact BK165.out⟩, ⟨by repeat (first | (with_reducible first | exact HB.out | apply below_alloc | apply pN | apply dI | refine below_set ?_ GE164.out | refine below_set ?_ GE165.out) | exact HB.out)⟩⟩
       ·replace c20 := Bool.eq_false_iff.mpr c20
        subst c20
        have H1 : ((perigeeref1_four.f x6_1).bind fun bt172 => (some (bt172.1, bt172.2.1, bt172.2.2.1, bt172.2.2.2))) = some (r1, r2, r3, r4) := by rw [if_neg (show ¬ (false = true) by decide)] at H; exact H
        clear H
        have H := H1
        clear H1
        replace H := Option.bind_eq_some_iff.mp H
        obtain ⟨⟨t172, t173, t174, t175⟩, A660, H⟩ := H
        replace H : (some (t172, t173, t174, t175)) = some (r1, r2, r3, r4) := H
        have A66 := Aside0.mk A660
        clear A660
        simp only [Option.some.injEq, Prod.mk.injEq] at H
        obtain ⟨rfl, rfl, rfl, rfl⟩ := H
        obtain ⟨Ao67, co67, eo67⟩ := Kd.R_slice HO_6.out
        subst eo67
        go_wp2_with (first | ((with_reducible refine gate_callee (f := 36) rfl ?_); refine goesL_ (some 62) rfl rfl Try.func36 (by kernel_rfl) rfl #[.slice Ao67 x6_1.length co67] rfl (by (try simp only [List.map_toArray, List.map_cons, List.map_nil]); first | done | rfl | (simp only [List.length_drop, List.length_take]; rfl)) ?_; (with_reducible refine (perigeeref1_four.calls _ _ x6_1 t172 t173 t174 t175 _ ?side1 ?side2 A66.out).mono ?_); (case side1 => repeat (first | exact (Kd.R_reads' HO_6.out).2.2 | (with_reducible refine Kd.C_alloc ?_ _) | (with_reducible refine Kd.C_drewN ?_ _) | (with_reducible refine Kd.C_drew ?_))); (case side2 => exact (Kd.R_reads' HO_6.out).2.1); rintro e w68 ⟨rfl, hb⟩; refine ⟨_, rfl, ?_⟩; have n0_ := Aside0.mk (Kd.R_below (by (with_reducible repeat (first | apply Kd.R_alloc | apply Kd.R_drewN | apply Kd.R_drew)); exact HO_5.out) hb); have n1_ := Aside0.mk (Kd.R_below (by (with_reducible repeat (first | apply Kd.R_alloc | apply Kd.R_drewN | apply Kd.R_drew)); exact HO_6.out) hb); have n2_ := Aside0.mk (bB (g := gb164) (o := .cells #[.int .u64 a0_0, .int .u64 a0_1, .int .u64 a0_2, .int .u64 a0_3] 26 (0, 0)) (by (with_reducible repeat (first | refine bN ?_ _ | refine bD ?_ | refine bL ?_ _)); exact BK164.out) hb); have n3_ := Aside0.mk (bB (g := gb165) (o := .cells #[.int .u64 0, .int .u64 0, .int .u64 0, .int .u64 0] 26 (0, 0)) (by (with_reducible repeat (first | refine bN ?_ _ | refine bD ?_ | refine bL ?_ _)); exact BK165.out) hb); have n4_ := Aside0.mk (below_step (by repeat (first | (with_reducible first | exact HB.out | apply below_alloc | apply pN | apply dI | refine below_set ?_ GE164.out | refine below_set ?_ GE165.out) | exact HB.out)) hb); clear HO_5; clear HO_6; clear BK164; clear BK165; clear HB; have HO_5 := n0_; have HO_6 := n1_; have BK164 := n2_; have BK165 := n3_; have HB := n4_; clear n0_ n1_ n2_ n3_ n4_; (try clear hb); (try clear hb2); (try clear hk); (try clear hi); have hnb69 := NB165_164.out; have hnc69 := NB164_165.out; have hcz70_0 : w68.cell? ⟨gb165, 0, none⟩ = some (.int .u64 0) := (bC BK165.out 0).trans rfl; have hcz70_1 : w68.cell? ⟨gb165, 1, none⟩ = some (.int .u64 0) := (bC BK165.out 1).trans rfl; have hcz70_2 : w68.cell? ⟨gb165, 2, none⟩ = some (.int .u64 0) := (bC BK165.out 2).trans rfl; have hcz70_3 : w68.cell? ⟨gb165, 3, none⟩ = some (.int .u64 0) := (bC BK165.out 3).trans rfl; have hfz70_0 := bF BK165.out 0; have hfz70_1 := bF BK165.out 1; have hfz70_2 := bF BK165.out 2; have hfz70_3 := bF BK165.out 3))
        refine bodyPost_ret (results_cell_row rfl _ _ gb165 26 #[.int .u64 t172, .int .u64 t173, .int .u64 t174, .int .u64 t175] (0, 0) _ rfl (by (with_reducible repeat (first | refine bN ?_ _ | refine bD ?_ | refine bL ?_ _)); refine blk_put (cs := #[.int .u64 t172, .int .u64 t173, .int .u64 t174, .int .u64 0]) ?_ 3 _ rfl; (with_reducible repeat (first | refine bN ?_ _ | refine bD ?_ | refine bL ?_ _)); refine blk_put (cs := #[.int .u64 t172, .int .u64 t173, .int .u64 0, .int .u64 0]) ?_ 2 _ rfl; (with_reducible repeat (first | refine bN ?_ _ | refine bD ?_ | refine bL ?_ _)); refine blk_put (cs := #[.int .u64 t172, .int .u64 0, .int .u64 0, .int .u64 0]) ?_ 1 _ rfl; (with_reducible repeat (first | refine bN ?_ _ | refine bD ?_ | refine bL ?_ _)); refine blk_put (cs := #[.int .u64 0, .int .u64 0, .int .u64 0, .int .u64 0]) ?_ 0 _ rfl; (with_reducible repeat (first | refine bN ?_ _ | refine bD ?_ | refine bL ?_ _)); exact BK165.out) Try.underlying26 rfl (by kernel_rfl)) rfl ?_
        exact ⟨by first | rfl | (simp [errW_none, errW_some] <;> rfl) | (simp [*, errW_none, errW_some] <;> rfl), by repeat (first | (with_reducible first | exact HB.out | apply below_alloc | apply pN | apply dI | refine below_set ?_ GE164.out | refine below_set ?_ GE165.out) | exact HB.out)⟩
  ·rw [if_neg c10] at H
   exact absurd H (by simp)

end Go.Proofs.Ytlpdongckcaclaa.S
