/- Functions of the translation as plain Lean functions, and their walks: written by a program of this session's on the kit's print, for this seat. -/
import Derived.Test.YtlpdongckcaclaaMx0
import Derived.Test.YtlpdongckcaclaaMx1
import Derived.Test.YtlpdongckcaclaaMx3
namespace Go.Proofs.Ytlpdongckcaclaa.M
open Go.RowKit Go.Proofs.Ytlpdongckcaclaa.Limb Go.Proofs.Ytlpdongckcaclaa.Plain Go.Proofs.YtlpdongckcaclaaW.PrintWords Go.Proofs.YtlpdongckcaclaaW.PrintLast Go.Proofs.YtlpdongckcaclaaW.PrintMore
attribute [local go_sem] max2_int min2_int max_two min_two max_three min_three max_four min_four   -- for this text's walks alone
set_option linter.unusedVariables false
set_option linter.unusedSimpArgs false

attribute [local go_sem high] eqA24
theorem fld38d (a b : Int) (c : Bool) (w : World) : Sem.run Try.prog (Instr.field 38 (.agg #[.int .u64 a, .int .u64 b, .bool c]) 0) w = .ok (.agg #[.int .u64 a, .int .u64 b]) w := rfl
attribute [local go_sem] fld38d
/-! ### perigeeref1_DivFour: function 13 -/
def perigeeref1_DivFour.l0 : Nat → List Int → Int → Int → Int → Int → Int → Int → Int → Int → Int → Int → Int → Int → Int → Bool → Option (Int × Int × Int × Int × Int × Int × Bool)
  | 0, _, _, _, _, _, _, _, _, _, _, _, _, _, _, _ => none
  | k + 1, x6, x7, x123000, x123001, x123002, x123003, x124000, x124001, x126000, x126001, x126002, x126003, x126004, x126005, x126006 => if x7 ≥ 0 then ((perigeeref1_bit.f x123000 x123001 x123002 x123003 x7).bind fun t133 => (if (x126004 / 9223372036854775808) = 1 then ((perigeeref1_SubTwo.f (Go.bits .or .u64 (IntKind.u64.wrap (x126004 * 2)) (x126005 / 9223372036854775808)) (Go.bits .or .u64 (IntKind.u64.wrap (x126005 * 2)) t133) x124000 x124001).bind fun bt134 => (if 0 ≤ (wrap64 (Int.tdiv x7 64)) then (if (wrap64 (Int.tdiv x7 64)) < (x6.length : Int) then (if 0 ≤ (Int.tmod x7 64) then (perigeeref1_DivFour.l0 k (x6.set ((wrap64 (Int.tdiv x7 64)) : Int).toNat (Go.bits .or .u64 (rd x6 (wrap64 (Int.tdiv x7 64))) (shl .u64 1 (Int.tmod x7 64)))) (wrap64 (x7 - 1)) x123000 x123001 x123002 x123003 x124000 x124001 x126000 x126001 x126002 x126003 bt134.1 bt134.2.1 x126006) else (none)) else (none)) else (none))) else ((perigeeref1_Less.f (Go.bits .or .u64 (IntKind.u64.wrap (x126004 * 2)) (x126005 / 9223372036854775808)) (Go.bits .or .u64 (IntKind.u64.wrap (x126005 * 2)) t133) x124000 x124001).bind fun t139 => (if t139 = true then (perigeeref1_DivFour.l0 k x6 (wrap64 (x7 - 1)) x123000 x123001 x123002 x123003 x124000 x124001 x126000 x126001 x126002 x126003 (Go.bits .or .u64 (IntKind.u64.wrap (x126004 * 2)) (x126005 / 9223372036854775808)) (Go.bits .or .u64 (IntKind.u64.wrap (x126005 * 2)) t133) x126006) else ((perigeeref1_SubTwo.f (Go.bits .or .u64 (IntKind.u64.wrap (x126004 * 2)) (x126005 / 9223372036854775808)) (Go.bits .or .u64 (IntKind.u64.wrap (x126005 * 2)) t133) x124000 x124001).bind fun bt140 => (if 0 ≤ (wrap64 (Int.tdiv x7 64)) then (if (wrap64 (Int.tdiv x7 64)) < (x6.length : Int) then (if 0 ≤ (Int.tmod x7 64) then (perigeeref1_DivFour.l0 k (x6.set ((wrap64 (Int.tdiv x7 64)) : Int).toNat (Go.bits .or .u64 (rd x6 (wrap64 (Int.tdiv x7 64))) (shl .u64 1 (Int.tmod x7 64)))) (wrap64 (x7 - 1)) x123000 x123001 x123002 x123003 x124000 x124001 x126000 x126001 x126002 x126003 bt140.1 bt140.2.1 x126006) else (none)) else (none)) else (none))))))) else ((perigeeref1_four.f x6).bind fun bt129 => (some (bt129.1, bt129.2.1, bt129.2.2.1, bt129.2.2.2, x126004, x126005, x126006)))
def perigeeref1_DivFour.f (k : Nat) (a0_0 : Int) (a0_1 : Int) (a0_2 : Int) (a0_3 : Int) (a1_0 : Int) (a1_1 : Int) : Option (Int × Int × Int × Int × Int × Int × Bool) := if (a1_0 == 0 && (a1_1 == 0)) = true then (some (0, 0, 0, 0, 0, 0, false)) else (if 4 ≤ 35184372088832 then (perigeeref1_DivFour.l0 k (List.replicate 4 0) 255 a0_0 a0_1 a0_2 a0_3 a1_0 a1_1 0 0 0 0 0 0 true) else (none))
theorem perigeeref1_DivFour.mono_l : ∀ k, (∀ y0 y1 y2 y3 y4 y5 y6 y7 y8 y9 y10 y11 y12 y13 y14, LeO (perigeeref1_DivFour.l0 k y0 y1 y2 y3 y4 y5 y6 y7 y8 y9 y10 y11 y12 y13 y14) (perigeeref1_DivFour.l0 (k + 1) y0 y1 y2 y3 y4 y5 y6 y7 y8 y9 y10 y11 y12 y13 y14))
  | 0 => fun _ _ _ _ _ _ _ _ _ _ _ _ _ _ _ r h => by simp [perigeeref1_DivFour.l0] at h
  | k + 1 => by
    have ih0 := perigeeref1_DivFour.mono_l k
    · intro y0 y1 y2 y3 y4 y5 y6 y7 y8 y9 y10 y11 y12 y13 y14
      unfold perigeeref1_DivFour.l0
      repeat' first
      | (with_reducible exact ih0 _ _ _ _ _ _ _ _ _ _ _ _ _ _ _)
      | (with_reducible exact LeO.refl _)
      | (with_reducible exact LeO.none _)
      | (with_reducible refine LeO.ite ?_ ?_)
      | (with_reducible refine LeO.bind ?_ (fun _ => ?_))
      | exact ih0 _ _ _ _ _ _ _ _ _ _ _ _ _ _ _
      | exact LeO.none _
      | refine LeO.ite ?_ ?_
      | refine LeO.bind ?_ (fun _ => ?_)
theorem perigeeref1_DivFour.mono : ∀ a0 a1 a2 a3 a4 a5 k, LeO (perigeeref1_DivFour.f k a0 a1 a2 a3 a4 a5) (perigeeref1_DivFour.f (k + 1) a0 a1 a2 a3 a4 a5) := by
  intro a0 a1 a2 a3 a4 a5 k
  have ih0 := perigeeref1_DivFour.mono_l k
  unfold perigeeref1_DivFour.f
  repeat' first
      | (with_reducible exact ih0 _ _ _ _ _ _ _ _ _ _ _ _ _ _ _)
      | (with_reducible exact LeO.refl _)
      | (with_reducible exact LeO.none _)
      | (with_reducible refine LeO.ite ?_ ?_)
      | (with_reducible refine LeO.bind ?_ (fun _ => ?_))
      | exact ih0 _ _ _ _ _ _ _ _ _ _ _ _ _ _ _
      | exact LeO.none _
      | refine LeO.ite ?_ ?_
      | refine LeO.bind ?_ (fun _ => ?_)
def perigeeref1_DivFour.T9 : Bool × List (List Nat × List Nat) := (true, [([], []), ([0], [0]), ([1], [1]), ([2], [2]), ([], []), ([4], [4]), ([5], [5]), ([6], [6]), ([3, 7], [3, 7]), ([], []), ([9], [9]), ([10], [10]), ([11], [11]), ([], []), ([], []), ([13, 14], [13, 14]), ([12, 15], [12, 15]), ([8, 16], [8, 16]), ([0, 1, 2, 3, 4, 5, 6, 7, 8, 9, 10, 11, 12, 13, 14, 15, 16, 17], []), ([18, 17, 15, 0, 1, 2, 3, 4, 5, 6, 7, 8, 9, 10, 11, 12, 13, 14, 15, 16, 17], [17, 18])])
def perigeeref1_DivFour.B9 : List Nat := [0, 1, 3, 7, 0, 16, 48, 112, 255, 0, 512, 1536, 3584, 0, 0, 24576, 65024, 131071, 262143, 524287]
theorem perigeeref1_DivFour.tab9 : rtab .any (opsOf Try.f13 9) = perigeeref1_DivFour.T9 := by kernel_rfl
theorem perigeeref1_DivFour.bits9 : waitsOk perigeeref1_DivFour.T9.2 perigeeref1_DivFour.B9 = true := by kernel_rfl
def perigeeref1_DivFour.T12 : Bool × List (List Nat × List Nat) := (true, [([], []), ([], []), ([1], [1]), ([0, 2], [0, 2]), ([3], [3]), ([], []), ([5], [5]), ([6], [6]), ([4, 7], [4, 7]), ([0, 2, 0, 1, 2, 3, 4, 5, 6, 7, 8], [0, 2]), ([9, 8, 0, 1, 2, 3, 4, 5, 6, 7, 8], [8, 9])])
def perigeeref1_DivFour.B12 : List Nat := [0, 0, 2, 7, 15, 0, 32, 96, 255, 511, 1023]
theorem perigeeref1_DivFour.tab12 : rtab .any (opsOf Try.f13 12) = perigeeref1_DivFour.T12 := by kernel_rfl
theorem perigeeref1_DivFour.bits12 : waitsOk perigeeref1_DivFour.T12.2 perigeeref1_DivFour.B12 = true := by kernel_rfl
set_option maxHeartbeats 8000000 in
set_option maxRecDepth 100000 in
theorem perigeeref1_DivFour.calls (k : Nat) (a0_0 : Int) (a0_1 : Int) (a0_2 : Int) (a0_3 : Int) (a1_0 : Int) (a1_1 : Int) (r1 : Int) (r2 : Int) (r3 : Int) (r4 : Int) (r5 : Int) (r6 : Int) (r7 : Bool) (w : World) (h : perigeeref1_DivFour.f k a0_0 a0_1 a0_2 a0_3 a1_0 a1_1 = some (r1, r2, r3, r4, r5, r6, r7)) :
    Calls Try.prog 13 #[.agg #[.int .u64 a0_0, .int .u64 a0_1, .int .u64 a0_2, .int .u64 a0_3], .agg #[.int .u64 a1_0, .int .u64 a1_1]] w fun e w' => e = .returned (.agg #[.int .u64 r1, .int .u64 r2, .int .u64 r3, .int .u64 r4, .int .u64 r5, .int .u64 r6, .bool r7]) ∧ Below w.heap.size w w' := by
  have hu26 := Try.underlying26
  have hu24 := Try.underlying24
  have hu30 := Try.underlying30
  have HB := Aside0.mk (Below.refl w.heap.size w)
  have H : (if (a1_0 == 0 && (a1_1 == 0)) = true then (some (0, 0, 0, 0, 0, 0, false)) else (if 4 ≤ 35184372088832 then (perigeeref1_DivFour.l0 k (List.replicate 4 0) 255 a0_0 a0_1 a0_2 a0_3 a1_0 a1_1 0 0 0 0 0 0 true) else (none))) = some (r1, r2, r3, r4, r5, r6, r7) := h
  clear h
  by_cases c3 : (a1_0 == 0 && (a1_1 == 0)) = true
  · rw [if_pos c3] at H
    have c3b0 : (a1_0 == 0 && (a1_1 == 0)) = true := c3
    (try (have c3b1 : decide (a1_0 = 0 && (a1_1 == 0)) = true := by simpa using c3))
    (try (have c3b2 : (a1_0 == 0 && (a1_1 == 0)) = true := by simpa using c3))
    clear c3
    simp only [Option.some.injEq, Prod.mk.injEq] at H
    obtain ⟨rfl, rfl, rfl, rfl, rfl, rfl, rfl⟩ := H
    go_enter Try.func13, Try.ntmps13
    go_wp2_with (first | ((with_reducible refine gate_dst (N := 2) rfl ?_); refine box_event ?hg (N := 2) ?hd (cs := #[.int .u64 a0_0, .int .u64 a0_1, .int .u64 a0_2, .int .u64 a0_3]) (t := 26) ?hr ?_; (case hd => rfl); (case hg => rfl); (case hr => first | (go_simp; done) | (go_simp; rfl)); intro gb122 hg w4 hbox hb; have n0_ := Aside0.mk (below_step (by repeat (first | (with_reducible first | exact HB.out | apply below_alloc | apply pw_below_drewN | apply below_drew1) | exact HB.out)) hb); have n1_ := Aside0.mk (hbox); have n2_ := Aside0.mk ((by rw [hg]; exact (below_size (by repeat (first | (with_reducible first | exact HB.out | apply below_alloc | apply pw_below_drewN | apply below_drew1) | exact HB.out))) : w.heap.size ≤ gb122)); have n3_ := Aside0.mk ((by rw [hg]; exact (below_size (by repeat (first | (with_reducible first | exact HB.out | apply below_alloc | apply pw_below_drewN | apply below_drew1) | exact HB.out))) : w.heap.size ≤ gb122)); clear HB; have HB := n0_; have BK122 := n1_; have GW122 := n2_; have GE122 := n3_; clear n0_ n1_ n2_ n3_; clear hb hbox hg) | ((with_reducible refine gate_dst (N := 3) rfl ?_); refine box_event ?hg (N := 3) ?hd (cs := #[.int .u64 a1_0, .int .u64 a1_1]) (t := 24) ?hr ?_; (case hd => rfl); (case hg => rfl); (case hr => first | (go_simp; done) | (go_simp; rfl)); intro gb123 hg w5 hbox hb; have n0_ := Aside0.mk (blk_below (g := gb122) (o := .cells #[.int .u64 a0_0, .int .u64 a0_1, .int .u64 a0_2, .int .u64 a0_3] 26 (0, 0)) (by (with_reducible repeat (first | refine blk_drewN ?_ _ | refine blk_drew ?_ | refine blk_alloc ?_ _)); exact BK122.out) hb); have n1_ := Aside0.mk (below_step (by repeat (first | (with_reducible first | exact HB.out | apply below_alloc | apply pw_below_drewN | apply below_drew1 | refine below_set ?_ GE122.out) | exact HB.out)) hb); have n2_ := Aside0.mk (hbox); have n3_ := Aside0.mk ((by rw [hg]; exact (below_size (by repeat (first | (with_reducible first | exact HB.out | apply below_alloc | apply pw_below_drewN | apply below_drew1 | refine below_set ?_ GE122.out) | exact HB.out))) : w.heap.size ≤ gb123)); have n4_ := Aside0.mk ((by rw [hg]; exact (below_size (by repeat (first | (with_reducible first | exact HB.out | apply below_alloc | apply pw_below_drewN | apply below_drew1 | refine below_set ?_ GE122.out) | exact HB.out))) : w.heap.size ≤ gb123)); have n5_ := Aside0.mk ((by rw [hg]; exact Nat.ne_of_lt (blk_lt (g := gb122) (o := .cells #[.int .u64 a0_0, .int .u64 a0_1, .int .u64 a0_2, .int .u64 a0_3] 26 (0, 0)) (by (with_reducible repeat (first | refine blk_drewN ?_ _ | refine blk_drew ?_ | refine blk_alloc ?_ _)); exact BK122.out)) : gb122 ≠ gb123)); have n6_ := Aside0.mk ((by rw [hg]; exact Nat.ne_of_gt (blk_lt (g := gb122) (o := .cells #[.int .u64 a0_0, .int .u64 a0_1, .int .u64 a0_2, .int .u64 a0_3] 26 (0, 0)) (by (with_reducible repeat (first | refine blk_drewN ?_ _ | refine blk_drew ?_ | refine blk_alloc ?_ _)); exact BK122.out)) : gb123 ≠ gb122)); clear BK122; clear HB; have BK122 := n0_; have HB := n1_; have BK123 := n2_; have GW123 := n3_; have GE123 := n4_; have NB122_123 := n5_; have NB123_122 := n6_; clear n0_ n1_ n2_ n3_ n4_ n5_ n6_; clear hb hbox hg) | ((with_reducible refine gate_dst (N := 4) rfl ?_); refine box_event ?hg (N := 4) ?hd (cs := #[.int .u64 0, .int .u64 0, .int .u64 0, .int .u64 0, .int .u64 0, .int .u64 0, .bool false]) (t := 30) ?hr ?_; (case hd => rfl); (case hg => rfl); (case hr => first | (go_simp; done) | (go_simp; rfl)); intro gb124 hg w6 hbox hb; have n0_ := Aside0.mk (blk_below (g := gb122) (o := .cells #[.int .u64 a0_0, .int .u64 a0_1, .int .u64 a0_2, .int .u64 a0_3] 26 (0, 0)) (by (with_reducible repeat (first | refine blk_drewN ?_ _ | refine blk_drew ?_ | refine blk_alloc ?_ _)); exact BK122.out) hb); have n1_ := Aside0.mk (blk_below (g := gb123) (o := .cells #[.int .u64 a1_0, .int .u64 a1_1] 24 (0, 0)) (by (with_reducible repeat (first | refine blk_drewN ?_ _ | refine blk_drew ?_ | refine blk_alloc ?_ _)); exact BK123.out) hb); have n2_ := Aside0.mk (below_step (by repeat (first | (with_reducible first | exact HB.out | apply below_alloc | apply pw_below_drewN | apply below_drew1 | refine below_set ?_ GE122.out | refine below_set ?_ GE123.out) | exact HB.out)) hb); have n3_ := Aside0.mk (hbox); have n4_ := Aside0.mk ((by rw [hg]; exact (below_size (by repeat (first | (with_reducible first | exact HB.out | apply below_alloc | apply pw_below_drewN | apply below_drew1 | refine below_set ?_ GE122.out | refine below_set ?_ GE123.out) | exact HB.out))) : w.heap.size ≤ gb124)); have n5_ := Aside0.mk ((by rw [hg]; exact (below_size (by repeat (first | (with_reducible first | exact HB.out | apply below_alloc | apply pw_below_drewN | apply below_drew1 | refine below_set ?_ GE122.out | refine below_set ?_ GE123.out) | exact HB.out))) : w.heap.size ≤ gb124)); have n6_ := Aside0.mk ((by rw [hg]; exact Nat.ne_of_lt (blk_lt (g := gb122) (o := .cells #[.int .u64 a0_0, .int .u64 a0_1, .int .u64 a0_2, .int .u64 a0_3] 26 (0, 0)) (by (with_reducible repeat (first | refine blk_drewN ?_ _ | refine blk_drew ?_ | refine blk_alloc ?_ _)); exact BK122.out)) : gb122 ≠ gb124)); have n7_ := Aside0.mk ((by rw [hg]; exact Nat.ne_of_gt (blk_lt (g := gb122) (o := .cells #[.int .u64 a0_0, .int .u64 a0_1, .int .u64 a0_2, .int .u64 a0_3] 26 (0, 0)) (by (with_reducible repeat (first | refine blk_drewN ?_ _ | refine blk_drew ?_ | refine blk_alloc ?_ _)); exact BK122.out)) : gb124 ≠ gb122)); have n8_ := Aside0.mk ((by rw [hg]; exact Nat.ne_of_lt (blk_lt (g := gb123) (o := .cells #[.int .u64 a1_0, .int .u64 a1_1] 24 (0, 0)) (by (with_reducible repeat (first | refine blk_drewN ?_ _ | refine blk_drew ?_ | refine blk_alloc ?_ _)); exact BK123.out)) : gb123 ≠ gb124)); have n9_ := Aside0.mk ((by rw [hg]; exact Nat.ne_of_gt (blk_lt (g := gb123) (o := .cells #[.int .u64 a1_0, .int .u64 a1_1] 24 (0, 0)) (by (with_reducible repeat (first | refine blk_drewN ?_ _ | refine blk_drew ?_ | refine blk_alloc ?_ _)); exact BK123.out)) : gb124 ≠ gb123)); clear BK122; clear BK123; clear HB; have BK122 := n0_; have BK123 := n1_; have HB := n2_; have BK124 := n3_; have GW124 := n4_; have GE124 := n5_; have NB122_124 := n6_; have NB124_122 := n7_; have NB123_124 := n8_; have NB124_123 := n9_; clear n0_ n1_ n2_ n3_ n4_ n5_ n6_ n7_ n8_ n9_; clear hb hbox hg; have hnb7 := NB123_122.out; have hnc7 := NB122_123.out; have hnb8 := NB123_124.out; have hnc8 := NB124_123.out; have hcz9_0 : w6.cell? ⟨gb123, 0, none⟩ = some (.int .u64 a1_0) := (blk_cell BK123.out 0).trans rfl; have hcz9_1 : w6.cell? ⟨gb123, 1, none⟩ = some (.int .u64 a1_1) := (blk_cell BK123.out 1).trans rfl; have hfz9_0 := blk_frozen BK123.out 0; have hfz9_1 := blk_frozen BK123.out 1; have hnb10 := NB124_122.out; have hnc10 := NB122_124.out; have hcz11_0 : w6.cell? ⟨gb124, 0, none⟩ = some (.int .u64 0) := (blk_cell BK124.out 0).trans rfl; have hcz11_1 : w6.cell? ⟨gb124, 1, none⟩ = some (.int .u64 0) := (blk_cell BK124.out 1).trans rfl; have hcz11_2 : w6.cell? ⟨gb124, 2, none⟩ = some (.int .u64 0) := (blk_cell BK124.out 2).trans rfl; have hcz11_3 : w6.cell? ⟨gb124, 3, none⟩ = some (.int .u64 0) := (blk_cell BK124.out 3).trans rfl; have hcz11_4 : w6.cell? ⟨gb124, 4, none⟩ = some (.int .u64 0) := (blk_cell BK124.out 4).trans rfl; have hcz11_5 : w6.cell? ⟨gb124, 5, none⟩ = some (.int .u64 0) := (blk_cell BK124.out 5).trans rfl; have hcz11_6 : w6.cell? ⟨gb124, 6, none⟩ = some (.bool false) := (blk_cell BK124.out 6).trans rfl; have hfz11_0 := blk_frozen BK124.out 0; have hfz11_1 := blk_frozen BK124.out 1; have hfz11_2 := blk_frozen BK124.out 2; have hfz11_3 := blk_frozen BK124.out 3; have hfz11_4 := blk_frozen BK124.out 4; have hfz11_5 := blk_frozen BK124.out 5; have hfz11_6 := blk_frozen BK124.out 6))
    refine bodyPost_ret (results_cell_row rfl _ _ gb124 30 #[.int .u64 0, .int .u64 0, .int .u64 0, .int .u64 0, .int .u64 0, .int .u64 0, .bool false] (0, 0) _ rfl (by (with_reducible repeat (first | refine blk_drewN ?_ _ | refine blk_drew ?_ | refine blk_alloc ?_ _)); refine blk_put (cs := #[.int .u64 0, .int .u64 0, .int .u64 0, .int .u64 0, .int .u64 0, .int .u64 0, .bool false]) ?_ 6 _ rfl; (with_reducible repeat (first | refine blk_drewN ?_ _ | refine blk_drew ?_ | refine blk_alloc ?_ _)); refine blk_put (cs := #[.int .u64 0, .int .u64 0, .int .u64 0, .int .u64 0, .int .u64 0, .int .u64 0, .bool false]) ?_ 5 _ rfl; (with_reducible repeat (first | refine blk_drewN ?_ _ | refine blk_drew ?_ | refine blk_alloc ?_ _)); refine blk_put (cs := #[.int .u64 0, .int .u64 0, .int .u64 0, .int .u64 0, .int .u64 0, .int .u64 0, .bool false]) ?_ 4 _ rfl; (with_reducible repeat (first | refine blk_drewN ?_ _ | refine blk_drew ?_ | refine blk_alloc ?_ _)); refine blk_put (cs := #[.int .u64 0, .int .u64 0, .int .u64 0, .int .u64 0, .int .u64 0, .int .u64 0, .bool false]) ?_ 3 _ rfl; (with_reducible repeat (first | refine blk_drewN ?_ _ | refine blk_drew ?_ | refine blk_alloc ?_ _)); refine blk_put (cs := #[.int .u64 0, .int .u64 0, .int .u64 0, .int .u64 0, .int .u64 0, .int .u64 0, .bool false]) ?_ 2 _ rfl; (with_reducible repeat (first | refine blk_drewN ?_ _ | refine blk_drew ?_ | refine blk_alloc ?_ _)); refine blk_put (cs := #[.int .u64 0, .int .u64 0, .int .u64 0, .int .u64 0, .int .u64 0, .int .u64 0, .bool false]) ?_ 1 _ rfl; (with_reducible repeat (first | refine blk_drewN ?_ _ | refine blk_drew ?_ | refine blk_alloc ?_ _)); refine blk_put (cs := #[.int .u64 0, .int .u64 0, .int .u64 0, .int .u64 0, .int .u64 0, .int .u64 0, .bool false]) ?_ 0 _ rfl; (with_reducible repeat (first | refine blk_drewN ?_ _ | refine blk_drew ?_ | refine blk_alloc ?_ _)); exact BK124.out) Try.underlying30 rfl (by kernel_rfl)) rfl ?_
    exact ⟨by first | rfl | (simp [errW_none, errW_some] <;> rfl) | (simp [*, errW_none, errW_some] <;> rfl), by repeat (first | (with_reducible first | exact HB.out | apply below_alloc | apply pw_below_drewN | apply below_drew1 | refine below_set ?_ GE122.out | refine below_set ?_ GE123.out | refine below_set ?_ GE124.out) | exact HB.out)⟩
  · rw [if_neg c3] at H
    have c3b0 : (a1_0 == 0 && (a1_1 == 0)) = false := by simpa using c3
    (try (have c3b1 : decide (a1_0 = 0 && (a1_1 == 0)) = false := by simpa using c3))
    (try (have c3b2 : (a1_0 == 0 && (a1_1 == 0)) = false := by simpa using c3))
    (try (have c3b3 : ¬ (a1_0 = 0 && (a1_1 == 0)) := by simpa using c3))
    clear c3
    by_cases c12 : 4 ≤ 35184372088832
    · rw [if_pos c12] at H
      have c12b0 := eq_true c12
      have c12b1 : decide (4 ≤ 35184372088832) = true := decide_eq_true c12
      clear c12
      obtain ⟨y126, hy126⟩ : ∃ y_ : List Int, y_ = (List.replicate 4 0) := ⟨_, rfl⟩
      replace H : (perigeeref1_DivFour.l0 k y126 255 a0_0 a0_1 a0_2 a0_3 a1_0 a1_1 0 0 0 0 0 0 true) = some (r1, r2, r3, r4, r5, r6, r7) := by first | (rw [hy126]; with_reducible exact H) | (have H2_ := (Option.bind_some _ _).symm.trans H; rw [hy126]; with_reducible exact H2_) | (have H2_ := (Option.bind_some _ _).symm.trans H; with_reducible exact H2_) | with_reducible exact H | (rw [hy126]; exact H) | exact H
      have Ny126 := Aside0.mk hy126
      clear hy126
      have H' := Aside0.mk H
      clear H
      go_enter Try.func13, Try.ntmps13
      go_wp2_with (first | ((with_reducible refine gate_dst (N := 2) rfl ?_); refine box_event ?hg (N := 2) ?hd (cs := #[.int .u64 a0_0, .int .u64 a0_1, .int .u64 a0_2, .int .u64 a0_3]) (t := 26) ?hr ?_; (case hd => rfl); (case hg => rfl); (case hr => first | (go_simp; done) | (go_simp; rfl)); intro gb122 hg w13 hbox hb; have n0_ := Aside0.mk (below_step (by repeat (first | (with_reducible first | exact HB.out | apply below_alloc | apply pw_below_drewN | apply below_drew1) | exact HB.out)) hb); have n1_ := Aside0.mk (hbox); have n2_ := Aside0.mk ((by rw [hg]; exact (below_size (by repeat (first | (with_reducible first | exact HB.out | apply below_alloc | apply pw_below_drewN | apply below_drew1) | exact HB.out))) : w.heap.size ≤ gb122)); have n3_ := Aside0.mk ((by rw [hg]; exact (below_size (by repeat (first | (with_reducible first | exact HB.out | apply below_alloc | apply pw_below_drewN | apply below_drew1) | exact HB.out))) : w.heap.size ≤ gb122)); clear HB; have HB := n0_; have BK122 := n1_; have GW122 := n2_; have GE122 := n3_; clear n0_ n1_ n2_ n3_; clear hb hbox hg) | ((with_reducible refine gate_dst (N := 3) rfl ?_); refine box_event ?hg (N := 3) ?hd (cs := #[.int .u64 a1_0, .int .u64 a1_1]) (t := 24) ?hr ?_; (case hd => rfl); (case hg => rfl); (case hr => first | (go_simp; done) | (go_simp; rfl)); intro gb123 hg w14 hbox hb; have n0_ := Aside0.mk (blk_below (g := gb122) (o := .cells #[.int .u64 a0_0, .int .u64 a0_1, .int .u64 a0_2, .int .u64 a0_3] 26 (0, 0)) (by (with_reducible repeat (first | refine blk_drewN ?_ _ | refine blk_drew ?_ | refine blk_alloc ?_ _)); exact BK122.out) hb); have n1_ := Aside0.mk (below_step (by repeat (first | (with_reducible first | exact HB.out | apply below_alloc | apply pw_below_drewN | apply below_drew1 | refine below_set ?_ GE122.out) | exact HB.out)) hb); have n2_ := Aside0.mk (hbox); have n3_ := Aside0.mk ((by rw [hg]; exact (below_size (by repeat (first | (with_reducible first | exact HB.out | apply below_alloc | apply pw_below_drewN | apply below_drew1 | refine below_set ?_ GE122.out) | exact HB.out))) : w.heap.size ≤ gb123)); have n4_ := Aside0.mk ((by rw [hg]; exact (below_size (by repeat (first | (with_reducible first | exact HB.out | apply below_alloc | apply pw_below_drewN | apply below_drew1 | refine below_set ?_ GE122.out) | exact HB.out))) : w.heap.size ≤ gb123)); have n5_ := Aside0.mk ((by rw [hg]; exact Nat.ne_of_lt (blk_lt (g := gb122) (o := .cells #[.int .u64 a0_0, .int .u64 a0_1, .int .u64 a0_2, .int .u64 a0_3] 26 (0, 0)) (by (with_reducible repeat (first | refine blk_drewN ?_ _ | refine blk_drew ?_ | refine blk_alloc ?_ _)); exact BK122.out)) : gb122 ≠ gb123)); have n6_ := Aside0.mk ((by rw [hg]; exact Nat.ne_of_gt (blk_lt (g := gb122) (o := .cells #[.int .u64 a0_0, .int .u64 a0_1, .int .u64 a0_2, .int .u64 a0_3] 26 (0, 0)) (by (with_reducible repeat (first | refine blk_drewN ?_ _ | refine blk_drew ?_ | refine blk_alloc ?_ _)); exact BK122.out)) : gb123 ≠ gb122)); clear BK122; clear HB; have BK122 := n0_; have HB := n1_; have BK123 := n2_; have GW123 := n3_; have GE123 := n4_; have NB122_123 := n5_; have NB123_122 := n6_; clear n0_ n1_ n2_ n3_ n4_ n5_ n6_; clear hb hbox hg) | ((with_reducible refine gate_dst (N := 4) rfl ?_); refine box_event ?hg (N := 4) ?hd (cs := #[.int .u64 0, .int .u64 0, .int .u64 0, .int .u64 0, .int .u64 0, .int .u64 0, .bool false]) (t := 30) ?hr ?_; (case hd => rfl); (case hg => rfl); (case hr => first | (go_simp; done) | (go_simp; rfl)); intro gb124 hg w15 hbox hb; have n0_ := Aside0.mk (blk_below (g := gb122) (o := .cells #[.int .u64 a0_0, .int .u64 a0_1, .int .u64 a0_2, .int .u64 a0_3] 26 (0, 0)) (by (with_reducible repeat (first | refine blk_drewN ?_ _ | refine blk_drew ?_ | refine blk_alloc ?_ _)); exact BK122.out) hb); have n1_ := Aside0.mk (blk_below (g := gb123) (o := .cells #[.int .u64 a1_0, .int .u64 a1_1] 24 (0, 0)) (by (with_reducible repeat (first | refine blk_drewN ?_ _ | refine blk_drew ?_ | refine blk_alloc ?_ _)); exact BK123.out) hb); have n2_ := Aside0.mk (below_step (by repeat (first | (with_reducible first | exact HB.out | apply below_alloc | apply pw_below_drewN | apply below_drew1 | refine below_set ?_ GE122.out | refine below_set ?_ GE123.out) | exact HB.out)) hb); have n3_ := Aside0.mk (hbox); have n4_ := Aside0.mk ((by rw [hg]; exact (below_size (by repeat (first | (with_reducible first | exact HB.out | apply below_alloc | apply pw_below_drewN | apply below_drew1 | refine below_set ?_ GE122.out | refine below_set ?_ GE123.out) | exact HB.out))) : w.heap.size ≤ gb124)); have n5_ := Aside0.mk ((by rw [hg]; exact (below_size (by repeat (first | (with_reducible first | exact HB.out | apply below_alloc | apply pw_below_drewN | apply below_drew1 | refine below_set ?_ GE122.out | refine below_set ?_ GE123.out) | exact HB.out))) : w.heap.size ≤ gb124)); have n6_ := Aside0.mk ((by rw [hg]; exact Nat.ne_of_lt (blk_lt (g := gb122) (o := .cells #[.int .u64 a0_0, .int .u64 a0_1, .int .u64 a0_2, .int .u64 a0_3] 26 (0, 0)) (by (with_reducible repeat (first | refine blk_drewN ?_ _ | refine blk_drew ?_ | refine blk_alloc ?_ _)); exact BK122.out)) : gb122 ≠ gb124)); have n7_ := Aside0.mk ((by rw [hg]; exact Nat.ne_of_gt (blk_lt (g := gb122) (o := .cells #[.int .u64 a0_0, .int .u64 a0_1, .int .u64 a0_2, .int .u64 a0_3] 26 (0, 0)) (by (with_reducible repeat (first | refine blk_drewN ?_ _ | refine blk_drew ?_ | refine blk_alloc ?_ _)); exact BK122.out)) : gb124 ≠ gb122)); have n8_ := Aside0.mk ((by rw [hg]; exact Nat.ne_of_lt (blk_lt (g := gb123) (o := .cells #[.int .u64 a1_0, .int .u64 a1_1] 24 (0, 0)) (by (with_reducible repeat (first | refine blk_drewN ?_ _ | refine blk_drew ?_ | refine blk_alloc ?_ _)); exact BK123.out)) : gb123 ≠ gb124)); have n9_ := Aside0.mk ((by rw [hg]; exact Nat.ne_of_gt (blk_lt (g := gb123) (o := .cells #[.int .u64 a1_0, .int .u64 a1_1] 24 (0, 0)) (by (with_reducible repeat (first | refine blk_drewN ?_ _ | refine blk_drew ?_ | refine blk_alloc ?_ _)); exact BK123.out)) : gb124 ≠ gb123)); clear BK122; clear BK123; clear HB; have BK122 := n0_; have BK123 := n1_; have HB := n2_; have BK124 := n3_; have GW124 := n4_; have GE124 := n5_; have NB122_124 := n6_; have NB124_122 := n7_; have NB123_124 := n8_; have NB124_123 := n9_; clear n0_ n1_ n2_ n3_ n4_ n5_ n6_ n7_ n8_ n9_; clear hb hbox hg; have hnb16 := NB123_122.out; have hnc16 := NB122_123.out; have hnb17 := NB123_124.out; have hnc17 := NB124_123.out; have hcz18_0 : w15.cell? ⟨gb123, 0, none⟩ = some (.int .u64 a1_0) := (blk_cell BK123.out 0).trans rfl; have hcz18_1 : w15.cell? ⟨gb123, 1, none⟩ = some (.int .u64 a1_1) := (blk_cell BK123.out 1).trans rfl; have hfz18_0 := blk_frozen BK123.out 0; have hfz18_1 := blk_frozen BK123.out 1) | ((with_reducible refine gate_dst (N := 5) rfl ?_); refine box_event ?hg (N := 5) ?hd (cs := #[.int .u64 0, .int .u64 0, .int .u64 0, .int .u64 0, .int .u64 0, .int .u64 0, .bool false]) (t := 30) ?hr ?_; (case hd => rfl); (case hg => rfl); (case hr => first | (go_simp; done) | (go_simp; rfl)); intro gb125 hg w19 hbox hb; have n0_ := Aside0.mk (blk_below (g := gb122) (o := .cells #[.int .u64 a0_0, .int .u64 a0_1, .int .u64 a0_2, .int .u64 a0_3] 26 (0, 0)) (by (with_reducible repeat (first | refine blk_drewN ?_ _ | refine blk_drew ?_ | refine blk_alloc ?_ _)); exact BK122.out) hb); have n1_ := Aside0.mk (blk_below (g := gb123) (o := .cells #[.int .u64 a1_0, .int .u64 a1_1] 24 (0, 0)) (by (with_reducible repeat (first | refine blk_drewN ?_ _ | refine blk_drew ?_ | refine blk_alloc ?_ _)); exact BK123.out) hb); have n2_ := Aside0.mk (blk_below (g := gb124) (o := .cells #[.int .u64 0, .int .u64 0, .int .u64 0, .int .u64 0, .int .u64 0, .int .u64 0, .bool false] 30 (0, 0)) (by (with_reducible repeat (first | refine blk_drewN ?_ _ | refine blk_drew ?_ | refine blk_alloc ?_ _)); exact BK124.out) hb); have n3_ := Aside0.mk (below_step (by repeat (first | (with_reducible first | exact HB.out | apply below_alloc | apply pw_below_drewN | apply below_drew1 | refine below_set ?_ GE122.out | refine below_set ?_ GE123.out | refine below_set ?_ GE124.out) | exact HB.out)) hb); have n4_ := Aside0.mk (hbox); have n5_ := Aside0.mk ((by rw [hg]; exact (below_size (by repeat (first | (with_reducible first | exact HB.out | apply below_alloc | apply pw_below_drewN | apply below_drew1 | refine below_set ?_ GE122.out | refine below_set ?_ GE123.out | refine below_set ?_ GE124.out) | exact HB.out))) : w.heap.size ≤ gb125)); have n6_ := Aside0.mk ((by rw [hg]; exact (below_size (by repeat (first | (with_reducible first | exact HB.out | apply below_alloc | apply pw_below_drewN | apply below_drew1 | refine below_set ?_ GE122.out | refine below_set ?_ GE123.out | refine below_set ?_ GE124.out) | exact HB.out))) : w.heap.size ≤ gb125)); have n7_ := Aside0.mk ((by rw [hg]; exact Nat.ne_of_lt (blk_lt (g := gb122) (o := .cells #[.int .u64 a0_0, .int .u64 a0_1, .int .u64 a0_2, .int .u64 a0_3] 26 (0, 0)) (by (with_reducible repeat (first | refine blk_drewN ?_ _ | refine blk_drew ?_ | refine blk_alloc ?_ _)); exact BK122.out)) : gb122 ≠ gb125)); have n8_ := Aside0.mk ((by rw [hg]; exact Nat.ne_of_gt (blk_lt (g := gb122) (o := .cells #[.int .u64 a0_0, .int .u64 a0_1, .int .u64 a0_2, .int .u64 a0_3] 26 (0, 0)) (by (with_reducible repeat (first | refine blk_drewN ?_ _ | refine blk_drew ?_ | refine blk_alloc ?_ _)); exact BK122.out)) : gb125 ≠ gb122)); have n9_ := Aside0.mk ((by rw [hg]; exact Nat.ne_of_lt (blk_lt (g := gb123) (o := .cells #[.int .u64 a1_0, .int .u64 a1_1] 24 (0, 0)) (by (with_reducible repeat (first | refine blk_drewN ?_ _ | refine blk_drew ?_ | refine blk_alloc ?_ _)); exact BK123.out)) : gb123 ≠ gb125)); have n10_ := Aside0.mk ((by rw [hg]; exact Nat.ne_of_gt (blk_lt (g := gb123) (o := .cells #[.int .u64 a1_0, .int .u64 a1_1] 24 (0, 0)) (by (with_reducible repeat (first | refine blk_drewN ?_ _ | refine blk_drew ?_ | refine blk_alloc ?_ _)); exact BK123.out)) : gb125 ≠ gb123)); have n11_ := Aside0.mk ((by rw [hg]; exact Nat.ne_of_lt (blk_lt (g := gb124) (o := .cells #[.int .u64 0, .int .u64 0, .int .u64 0, .int .u64 0, .int .u64 0, .int .u64 0, .bool false] 30 (0, 0)) (by (with_reducible repeat (first | refine blk_drewN ?_ _ | refine blk_drew ?_ | refine blk_alloc ?_ _)); exact BK124.out)) : gb124 ≠ gb125)); have n12_ := Aside0.mk ((by rw [hg]; exact Nat.ne_of_gt (blk_lt (g := gb124) (o := .cells #[.int .u64 0, .int .u64 0, .int .u64 0, .int .u64 0, .int .u64 0, .int .u64 0, .bool false] 30 (0, 0)) (by (with_reducible repeat (first | refine blk_drewN ?_ _ | refine blk_drew ?_ | refine blk_alloc ?_ _)); exact BK124.out)) : gb125 ≠ gb124)); clear BK122; clear BK123; clear BK124; clear HB; have BK122 := n0_; have BK123 := n1_; have BK124 := n2_; have HB := n3_; have BK125 := n4_; have GW125 := n5_; have GE125 := n6_; have NB122_125 := n7_; have NB125_122 := n8_; have NB123_125 := n9_; have NB125_123 := n10_; have NB124_125 := n11_; have NB125_124 := n12_; clear n0_ n1_ n2_ n3_ n4_ n5_ n6_ n7_ n8_ n9_ n10_ n11_ n12_; clear hb hbox hg; have hnb20 := NB125_122.out; have hnc20 := NB122_125.out; have hnb21 := NB125_123.out; have hnc21 := NB123_125.out; have hnb22 := NB125_124.out; have hnc22 := NB124_125.out; have hcz23_0 : w19.cell? ⟨gb125, 0, none⟩ = some (.int .u64 0) := (blk_cell BK125.out 0).trans rfl; have hcz23_1 : w19.cell? ⟨gb125, 1, none⟩ = some (.int .u64 0) := (blk_cell BK125.out 1).trans rfl; have hcz23_2 : w19.cell? ⟨gb125, 2, none⟩ = some (.int .u64 0) := (blk_cell BK125.out 2).trans rfl; have hcz23_3 : w19.cell? ⟨gb125, 3, none⟩ = some (.int .u64 0) := (blk_cell BK125.out 3).trans rfl; have hcz23_4 : w19.cell? ⟨gb125, 4, none⟩ = some (.int .u64 0) := (blk_cell BK125.out 4).trans rfl; have hcz23_5 : w19.cell? ⟨gb125, 5, none⟩ = some (.int .u64 0) := (blk_cell BK125.out 5).trans rfl; have hcz23_6 : w19.cell? ⟨gb125, 6, none⟩ = some (.bool false) := (blk_cell BK125.out 6).trans rfl; have hfz23_0 := blk_frozen BK125.out 0; have hfz23_1 := blk_frozen BK125.out 1; have hfz23_2 := blk_frozen BK125.out 2; have hfz23_3 := blk_frozen BK125.out 3; have hfz23_4 := blk_frozen BK125.out 4; have hfz23_5 := blk_frozen BK125.out 5; have hfz23_6 := blk_frozen BK125.out 6) | ((with_reducible refine gate_dst (N := 14) rfl ?_); refine Kd.R_make (Kd.int .u64) _ 22 rfl (N := 14) rfl 57 _ _ rfl 4 rfl rfl Try.underlying57 (.int .u64 0) 8 info22 rfl (by decide) (by omega) 0 (ok := fun _ => True) (okp := fun _ => True) rfl (fun _ hk => hk) trivial (by omega) (by omega) (Below.refl _ _) (Nat.le_refl _) ?_; intro v127 w24 ho25 hb hg_ hnew_; clear hg_ hnew_; (first | rw [← Ny126.out] at ho25 | (simp only [Int.reduceToNat] at ho25; rw [← Ny126.out] at ho25)); have n0_ := Aside0.mk (Kd.R_lower ho25 (below_size (by repeat (first | (with_reducible first | exact HB.out | apply below_alloc | apply pw_below_drewN | apply below_drew1 | refine below_set ?_ GE122.out | refine below_set ?_ GE123.out | refine below_set ?_ GE124.out | refine below_set ?_ GE125.out) | exact HB.out)))); have n1_ := Aside0.mk (blk_below (g := gb122) (o := .cells #[.int .u64 a0_0, .int .u64 a0_1, .int .u64 a0_2, .int .u64 a0_3] 26 (0, 0)) (by (with_reducible repeat (first | refine blk_drewN ?_ _ | refine blk_drew ?_ | refine blk_alloc ?_ _)); refine blk_far ?_ NB122_125.out _; (with_reducible repeat (first | refine blk_drewN ?_ _ | refine blk_drew ?_ | refine blk_alloc ?_ _)); refine blk_far ?_ NB122_125.out _; (with_reducible repeat (first | refine blk_drewN ?_ _ | refine blk_drew ?_ | refine blk_alloc ?_ _)); refine blk_far ?_ NB122_125.out _; (with_reducible repeat (first | refine blk_drewN ?_ _ | refine blk_drew ?_ | refine blk_alloc ?_ _)); refine blk_far ?_ NB122_125.out _; (with_reducible repeat (first | refine blk_drewN ?_ _ | refine blk_drew ?_ | refine blk_alloc ?_ _)); refine blk_far ?_ NB122_125.out _; (with_reducible repeat (first | refine blk_drewN ?_ _ | refine blk_drew ?_ | refine blk_alloc ?_ _)); refine blk_far ?_ NB122_125.out _; (with_reducible repeat (first | refine blk_drewN ?_ _ | refine blk_drew ?_ | refine blk_alloc ?_ _)); refine blk_far ?_ NB122_125.out _; (with_reducible repeat (first | refine blk_drewN ?_ _ | refine blk_drew ?_ | refine blk_alloc ?_ _)); exact BK122.out) hb); have n2_ := Aside0.mk (blk_below (g := gb123) (o := .cells #[.int .u64 a1_0, .int .u64 a1_1] 24 (0, 0)) (by (with_reducible repeat (first | refine blk_drewN ?_ _ | refine blk_drew ?_ | refine blk_alloc ?_ _)); refine blk_far ?_ NB123_125.out _; (with_reducible repeat (first | refine blk_drewN ?_ _ | refine blk_drew ?_ | refine blk_alloc ?_ _)); refine blk_far ?_ NB123_125.out _; (with_reducible repeat (first | refine blk_drewN ?_ _ | refine blk_drew ?_ | refine blk_alloc ?_ _)); refine blk_far ?_ NB123_125.out _; (with_reducible repeat (first | refine blk_drewN ?_ _ | refine blk_drew ?_ | refine blk_alloc ?_ _)); refine blk_far ?_ NB123_125.out _; (with_reducible repeat (first | refine blk_drewN ?_ _ | refine blk_drew ?_ | refine blk_alloc ?_ _)); refine blk_far ?_ NB123_125.out _; (with_reducible repeat (first | refine blk_drewN ?_ _ | refine blk_drew ?_ | refine blk_alloc ?_ _)); refine blk_far ?_ NB123_125.out _; (with_reducible repeat (first | refine blk_drewN ?_ _ | refine blk_drew ?_ | refine blk_alloc ?_ _)); refine blk_far ?_ NB123_125.out _; (with_reducible repeat (first | refine blk_drewN ?_ _ | refine blk_drew ?_ | refine blk_alloc ?_ _)); exact BK123.out) hb); have n3_ := Aside0.mk (blk_below (g := gb124) (o := .cells #[.int .u64 0, .int .u64 0, .int .u64 0, .int .u64 0, .int .u64 0, .int .u64 0, .bool false] 30 (0, 0)) (by (with_reducible repeat (first | refine blk_drewN ?_ _ | refine blk_drew ?_ | refine blk_alloc ?_ _)); refine blk_far ?_ NB124_125.out _; (with_reducible repeat (first | refine blk_drewN ?_ _ | refine blk_drew ?_ | refine blk_alloc ?_ _)); refine blk_far ?_ NB124_125.out _; (with_reducible repeat (first | refine blk_drewN ?_ _ | refine blk_drew ?_ | refine blk_alloc ?_ _)); refine blk_far ?_ NB124_125.out _; (with_reducible repeat (first | refine blk_drewN ?_ _ | refine blk_drew ?_ | refine blk_alloc ?_ _)); refine blk_far ?_ NB124_125.out _; (with_reducible repeat (first | refine blk_drewN ?_ _ | refine blk_drew ?_ | refine blk_alloc ?_ _)); refine blk_far ?_ NB124_125.out _; (with_reducible repeat (first | refine blk_drewN ?_ _ | refine blk_drew ?_ | refine blk_alloc ?_ _)); refine blk_far ?_ NB124_125.out _; (with_reducible repeat (first | refine blk_drewN ?_ _ | refine blk_drew ?_ | refine blk_alloc ?_ _)); refine blk_far ?_ NB124_125.out _; (with_reducible repeat (first | refine blk_drewN ?_ _ | refine blk_drew ?_ | refine blk_alloc ?_ _)); exact BK124.out) hb); have n4_ := Aside0.mk (blk_below (g := gb125) (o := .cells #[.int .u64 0, .int .u64 0, .int .u64 0, .int .u64 0, .int .u64 0, .int .u64 0, .bool true] 30 (0, 0)) (by (with_reducible repeat (first | refine blk_drewN ?_ _ | refine blk_drew ?_ | refine blk_alloc ?_ _)); refine blk_put (cs := #[.int .u64 0, .int .u64 0, .int .u64 0, .int .u64 0, .int .u64 0, .int .u64 0, .bool false]) ?_ 6 _ rfl; (with_reducible repeat (first | refine blk_drewN ?_ _ | refine blk_drew ?_ | refine blk_alloc ?_ _)); refine blk_put (cs := #[.int .u64 0, .int .u64 0, .int .u64 0, .int .u64 0, .int .u64 0, .int .u64 0, .bool false]) ?_ 5 _ rfl; (with_reducible repeat (first | refine blk_drewN ?_ _ | refine blk_drew ?_ | refine blk_alloc ?_ _)); refine blk_put (cs := #[.int .u64 0, .int .u64 0, .int .u64 0, .int .u64 0, .int .u64 0, .int .u64 0, .bool false]) ?_ 4 _ rfl; (with_reducible repeat (first | refine blk_drewN ?_ _ | refine blk_drew ?_ | refine blk_alloc ?_ _)); refine blk_put (cs := #[.int .u64 0, .int .u64 0, .int .u64 0, .int .u64 0, .int .u64 0, .int .u64 0, .bool false]) ?_ 3 _ rfl; (with_reducible repeat (first | refine blk_drewN ?_ _ | refine blk_drew ?_ | refine blk_alloc ?_ _)); refine blk_put (cs := #[.int .u64 0, .int .u64 0, .int .u64 0, .int .u64 0, .int .u64 0, .int .u64 0, .bool false]) ?_ 2 _ rfl; (with_reducible repeat (first | refine blk_drewN ?_ _ | refine blk_drew ?_ | refine blk_alloc ?_ _)); refine blk_put (cs := #[.int .u64 0, .int .u64 0, .int .u64 0, .int .u64 0, .int .u64 0, .int .u64 0, .bool false]) ?_ 1 _ rfl; (with_reducible repeat (first | refine blk_drewN ?_ _ | refine blk_drew ?_ | refine blk_alloc ?_ _)); refine blk_put (cs := #[.int .u64 0, .int .u64 0, .int .u64 0, .int .u64 0, .int .u64 0, .int .u64 0, .bool false]) ?_ 0 _ rfl; (with_reducible repeat (first | refine blk_drewN ?_ _ | refine blk_drew ?_ | refine blk_alloc ?_ _)); exact BK125.out) hb); have n5_ := Aside0.mk (below_step (by repeat (first | (with_reducible first | exact HB.out | apply below_alloc | apply pw_below_drewN | apply below_drew1 | refine below_set ?_ GE122.out | refine below_set ?_ GE123.out | refine below_set ?_ GE124.out | refine below_set ?_ GE125.out) | exact HB.out)) hb); clear BK122; clear BK123; clear BK124; clear BK125; clear HB; have HO128 := n0_; have BK122 := n1_; have BK123 := n2_; have BK124 := n3_; have BK125 := n4_; have HB := n5_; clear n0_ n1_ n2_ n3_ n4_ n5_; clear hb ho25))
      go_loopg [7] k (fun kq v7 w' => ∃ (x6_1 : List Int) (x7_1 : Int) (x126004_1 : Int) (x126005_1 : Int), v7 = .int .i64 x7_1 ∧ Aside0 (perigeeref1_DivFour.l0 kq x6_1 x7_1 a0_0 a0_1 a0_2 a0_3 a1_0 a1_1 0 0 0 0 x126004_1 x126005_1 true = some (r1, r2, r3, r4, r5, r6, r7)) ∧ Aside0 (kq ≤ k) ∧ Aside0 (Kd.R (Kd.int .u64) 22 w' w.heap.size (fun _ => True) v127 x6_1) ∧ Aside0 (w'.heap[gb122]? = some (.cells #[.int .u64 a0_0, .int .u64 a0_1, .int .u64 a0_2, .int .u64 a0_3] 26 (0, 0))) ∧ Aside0 (w'.heap[gb123]? = some (.cells #[.int .u64 a1_0, .int .u64 a1_1] 24 (0, 0))) ∧ Aside0 (w'.heap[gb124]? = some (.cells #[.int .u64 0, .int .u64 0, .int .u64 0, .int .u64 0, .int .u64 0, .int .u64 0, .bool false] 30 (0, 0))) ∧ Aside0 (w'.heap[gb125]? = some (.cells #[.int .u64 0, .int .u64 0, .int .u64 0, .int .u64 0, .int .u64 x126004_1, .int .u64 x126005_1, .bool true] 30 (0, 0))) ∧ Aside0 (Below w.heap.size w w'))
      case atStart => exact ⟨(y126), (255), (0), (0), (by first | rfl | (simp; done) | (simp [*]; done)), H', ⟨Nat.le_refl _⟩, ⟨by (with_reducible repeat (first | apply Kd.R_alloc | apply Kd.R_drewN | apply Kd.R_drew)); exact HO128.out⟩, ⟨by (with_reducible repeat (first | refine blk_drewN ?_ _ | refine blk_drew ?_ | refine blk_alloc ?_ _)); exact BK122.out⟩, ⟨by (with_reducible repeat (first | refine blk_drewN ?_ _ | refine blk_drew ?_ | refine blk_alloc ?_ _)); exact BK123.out⟩, ⟨by (with_reducible repeat (first | refine blk_drewN ?_ _ | refine blk_drew ?_ | refine blk_alloc ?_ _)); exact BK124.out⟩, ⟨by (with_reducible repeat (first | refine blk_drewN ?_ _ | refine blk_drew ?_ | refine blk_alloc ?_ _)); exact BK125.out⟩, ⟨by repeat (first | (with_reducible first | exact HB.out | apply below_alloc | apply pw_below_drewN | apply below_drew1 | refine below_set ?_ GE122.out | refine below_set ?_ GE123.out | refine below_set ?_ GE124.out | refine below_set ?_ GE125.out) | exact HB.out)⟩⟩
      case round =>
        clear H'
        try clear c1
        try clear c2
        try clear p2
        try clear c3
        try clear c3b0
        try clear c3b1
        try clear c3b2
        try clear c7
        try clear c8
        try clear c10
        try clear c12
        try clear c12b0
        try clear c12b1
        try clear c13
        try clear c16
        try clear c17
        try clear c20
        try clear c21
        try clear c22
        try clear hcz11_0
        try clear hcz11_1
        try clear hcz11_2
        try clear hcz11_3
        try clear hcz11_4
        try clear hcz11_5
        try clear hcz11_6
        try clear hcz18_0
        try clear hcz18_1
        try clear hcz23_0
        try clear hcz23_1
        try clear hcz23_2
        try clear hcz23_3
        try clear hcz23_4
        try clear hcz23_5
        try clear hcz23_6
        try clear hcz9_0
        try clear hcz9_1
        try clear hfz11_0
        try clear hfz11_1
        try clear hfz11_2
        try clear hfz11_3
        try clear hfz11_4
        try clear hfz11_5
        try clear hfz11_6
        try clear hfz18_0
        try clear hfz18_1
        try clear hfz23_0
        try clear hfz23_1
        try clear hfz23_2
        try clear hfz23_3
        try clear hfz23_4
        try clear hfz23_5
        try clear hfz23_6
        try clear hfz9_0
        try clear hfz9_1
        obtain ⟨x6_1, x7_1, x126004_1, x126005_1, rfl, HA, HK1, HO_6, BK122, BK123, BK124, BK125, HB⟩ := hrel
        cases gk with
        | zero => exact absurd HA.out (by simp [perigeeref1_DivFour.l0])
        | succ k1 =>
          have H := HA.out
          clear HA
          simp only [perigeeref1_DivFour.l0] at H
          by_cases c26 : x7_1 ≥ 0
          · rw [if_pos c26] at H
            have c26b0 : decide (0 ≤ x7_1) = true := decide_eq_true c26
            clear c26
            replace H := Option.bind_eq_some_iff.mp H
            obtain ⟨t133, A270, H⟩ := H
            replace H : (if (x126004_1 / 9223372036854775808) = 1 then ((perigeeref1_SubTwo.f (Go.bits .or .u64 (IntKind.u64.wrap (x126004_1 * 2)) (x126005_1 / 9223372036854775808)) (Go.bits .or .u64 (IntKind.u64.wrap (x126005_1 * 2)) t133) a1_0 a1_1).bind fun bt134 => (if 0 ≤ (wrap64 (Int.tdiv x7_1 64)) then (if (wrap64 (Int.tdiv x7_1 64)) < (x6_1.length : Int) then (if 0 ≤ (Int.tmod x7_1 64) then (perigeeref1_DivFour.l0 k1 (x6_1.set ((wrap64 (Int.tdiv x7_1 64)) : Int).toNat (Go.bits .or .u64 (rd x6_1 (wrap64 (Int.tdiv x7_1 64))) (shl .u64 1 (Int.tmod x7_1 64)))) (wrap64 (x7_1 - 1)) a0_0 a0_1 a0_2 a0_3 a1_0 a1_1 0 0 0 0 bt134.1 bt134.2.1 true) else (none)) else (none)) else (none))) else ((perigeeref1_Less.f (Go.bits .or .u64 (IntKind.u64.wrap (x126004_1 * 2)) (x126005_1 / 9223372036854775808)) (Go.bits .or .u64 (IntKind.u64.wrap (x126005_1 * 2)) t133) a1_0 a1_1).bind fun t139 => (if t139 = true then (perigeeref1_DivFour.l0 k1 x6_1 (wrap64 (x7_1 - 1)) a0_0 a0_1 a0_2 a0_3 a1_0 a1_1 0 0 0 0 (Go.bits .or .u64 (IntKind.u64.wrap (x126004_1 * 2)) (x126005_1 / 9223372036854775808)) (Go.bits .or .u64 (IntKind.u64.wrap (x126005_1 * 2)) t133) true) else ((perigeeref1_SubTwo.f (Go.bits .or .u64 (IntKind.u64.wrap (x126004_1 * 2)) (x126005_1 / 9223372036854775808)) (Go.bits .or .u64 (IntKind.u64.wrap (x126005_1 * 2)) t133) a1_0 a1_1).bind fun bt140 => (if 0 ≤ (wrap64 (Int.tdiv x7_1 64)) then (if (wrap64 (Int.tdiv x7_1 64)) < (x6_1.length : Int) then (if 0 ≤ (Int.tmod x7_1 64) then (perigeeref1_DivFour.l0 k1 (x6_1.set ((wrap64 (Int.tdiv x7_1 64)) : Int).toNat (Go.bits .or .u64 (rd x6_1 (wrap64 (Int.tdiv x7_1 64))) (shl .u64 1 (Int.tmod x7_1 64)))) (wrap64 (x7_1 - 1)) a0_0 a0_1 a0_2 a0_3 a1_0 a1_1 0 0 0 0 bt140.1 bt140.2.1 true) else (none)) else (none)) else (none)))))) = some (r1, r2, r3, r4, r5, r6, r7) := H
            have A27 := Aside0.mk A270
            clear A270
            by_cases c28 : (x126004_1 / 9223372036854775808) = 1
            · rw [if_pos c28] at H
              have c28b0 : ((x126004_1 / 9223372036854775808) == 1) = true := beq_iff_eq.mpr c28
              have c28b1 : ((x126004_1 / 9223372036854775808) != 1) = false := bne_eq_false_iff_eq.mpr c28
              clear c28
              replace H := Option.bind_eq_some_iff.mp H
              obtain ⟨⟨t134, t135, t136⟩, A290, H⟩ := H
              replace H : (if 0 ≤ (wrap64 (Int.tdiv x7_1 64)) then (if (wrap64 (Int.tdiv x7_1 64)) < (x6_1.length : Int) then (if 0 ≤ (Int.tmod x7_1 64) then (perigeeref1_DivFour.l0 k1 (x6_1.set ((wrap64 (Int.tdiv x7_1 64)) : Int).toNat (Go.bits .or .u64 (rd x6_1 (wrap64 (Int.tdiv x7_1 64))) (shl .u64 1 (Int.tmod x7_1 64)))) (wrap64 (x7_1 - 1)) a0_0 a0_1 a0_2 a0_3 a1_0 a1_1 0 0 0 0 t134 t135 true) else (none)) else (none)) else (none)) = some (r1, r2, r3, r4, r5, r6, r7) := H
              have A29 := Aside0.mk A290
              clear A290
              obtain ⟨ji30, hji30⟩ : ∃ j_ : Int, (wrap64 (Int.tdiv x7_1 64)) = j_ := ⟨_, rfl⟩
              replace H : (if 0 ≤ (ji30) then (if (ji30) < (x6_1.length : Int) then (if 0 ≤ (Int.tmod x7_1 64) then (perigeeref1_DivFour.l0 k1 (x6_1.set ((ji30) : Int).toNat (Go.bits .or .u64 (rd x6_1 (ji30)) (shl .u64 1 (Int.tmod x7_1 64)))) (wrap64 (x7_1 - 1)) a0_0 a0_1 a0_2 a0_3 a1_0 a1_1 0 0 0 0 t134 t135 true) else (none)) else (none)) else (none)) = some (r1, r2, r3, r4, r5, r6, r7) := by first | (rw [hji30] at H; exact H) | (simp only [hji30] at H ⊢; exact H)
              (try rw [hji30] at A27)
              (try rw [hji30] at A29)
              have hji30w : (IntKind.i64.wrap (Int.tdiv x7_1 64)) = ji30 := (i64_w _).trans hji30
              by_cases c31 : 0 ≤ (ji30)
              · rw [if_pos c31] at H
                have c31b0 : decide (0 ≤ (ji30)) = true := decide_eq_true c31
                clear c31
                by_cases c32 : (ji30) < (x6_1.length : Int)
                · rw [if_pos c32] at H
                  have c32b0 : decide ((ji30) < (x6_1.length : Int)) = true := decide_eq_true c32
                  clear c32
                  obtain ⟨ji33, hji33⟩ : ∃ j_ : Int, (Int.tmod x7_1 64) = j_ := ⟨_, rfl⟩
                  replace H : (if 0 ≤ (ji33) then (perigeeref1_DivFour.l0 k1 (x6_1.set ((ji30) : Int).toNat (Go.bits .or .u64 (rd x6_1 (ji30)) (shl .u64 1 (ji33)))) (wrap64 (x7_1 - 1)) a0_0 a0_1 a0_2 a0_3 a1_0 a1_1 0 0 0 0 t134 t135 true) else (none)) = some (r1, r2, r3, r4, r5, r6, r7) := by first | (rw [hji33] at H; exact H) | (simp only [hji33] at H ⊢; exact H)
                  (try rw [hji33] at A27)
                  (try rw [hji33] at A29)
                  by_cases c34 : 0 ≤ (ji33)
                  · rw [if_pos c34] at H
                    have c34b0 := eq_true c34
                    have c34b1 : decide (0 ≤ (ji33)) = true := decide_eq_true c34
                    clear c34
                    obtain ⟨ji35, hji35⟩ : ∃ j_ : Int, (shl .u64 1 (ji33)) = j_ := ⟨_, rfl⟩
                    replace H : (perigeeref1_DivFour.l0 k1 (x6_1.set ((ji30) : Int).toNat (Go.bits .or .u64 (rd x6_1 (ji30)) (ji35))) (wrap64 (x7_1 - 1)) a0_0 a0_1 a0_2 a0_3 a1_0 a1_1 0 0 0 0 t134 t135 true) = some (r1, r2, r3, r4, r5, r6, r7) := by first | (rw [hji35] at H; exact H) | (simp only [hji35] at H ⊢; exact H)
                    (try rw [hji35] at A27)
                    (try rw [hji35] at A29)
                    have hji35_ : (IntKind.u64.wrap (1 * 2 ^ min (ji33).toNat 64)) = ji35 := hji35
                    have hji35z : (ji33) ≤ 64 → (IntKind.u64.wrap (1 * 2 ^ (ji33).toNat)) = ji35 := shl_small hji35
                    have hji35u : (IntKind.u64.wrap (2 ^ min (ji33).toNat 64)) = ji35 := by have h_ := hji35_; rw [Int.one_mul] at h_; exact h_
                    have hji35v : (ji33) ≤ 64 → (IntKind.u64.wrap (2 ^ (ji33).toNat)) = ji35 := fun hle_ => by have h_ := hji35z hle_; rw [Int.one_mul] at h_; exact h_
                    obtain ⟨y138, hy138⟩ : ∃ y_ : List Int, y_ = (x6_1.set ((ji30) : Int).toNat (Go.bits .or .u64 (rd x6_1 (ji30)) (ji35))) := ⟨_, rfl⟩
                    replace H : (perigeeref1_DivFour.l0 k1 y138 (wrap64 (x7_1 - 1)) a0_0 a0_1 a0_2 a0_3 a1_0 a1_1 0 0 0 0 t134 t135 true) = some (r1, r2, r3, r4, r5, r6, r7) := by first | (rw [hy138]; with_reducible exact H) | (have H2_ := (Option.bind_some _ _).symm.trans H; rw [hy138]; with_reducible exact H2_) | (have H2_ := (Option.bind_some _ _).symm.trans H; with_reducible exact H2_) | with_reducible exact H | (rw [hy138]; exact H) | exact H
                    have Ny138 := Aside0.mk hy138
                    clear hy138
                    have H' := Aside0.mk H
                    clear H
                    have hnb37 := NB125_122.out
                    have hnc37 := NB122_125.out
                    have hnb38 := NB125_123.out
                    have hnc38 := NB123_125.out
                    have hnb39 := NB125_124.out
                    have hnc39 := NB124_125.out
                    have hcz40_0 : wr.cell? ⟨gb125, 0, none⟩ = some (.int .u64 0) := (blk_cell BK125.out 0).trans rfl
                    have hcz40_1 : wr.cell? ⟨gb125, 1, none⟩ = some (.int .u64 0) := (blk_cell BK125.out 1).trans rfl
                    have hcz40_2 : wr.cell? ⟨gb125, 2, none⟩ = some (.int .u64 0) := (blk_cell BK125.out 2).trans rfl
                    have hcz40_3 : wr.cell? ⟨gb125, 3, none⟩ = some (.int .u64 0) := (blk_cell BK125.out 3).trans rfl
                    have hcz40_4 : wr.cell? ⟨gb125, 4, none⟩ = some (.int .u64 x126004_1) := (blk_cell BK125.out 4).trans rfl
                    have hcz40_5 : wr.cell? ⟨gb125, 5, none⟩ = some (.int .u64 x126005_1) := (blk_cell BK125.out 5).trans rfl
                    have hcz40_6 : wr.cell? ⟨gb125, 6, none⟩ = some (.bool true) := (blk_cell BK125.out 6).trans rfl
                    have hfz40_0 := blk_frozen BK125.out 0
                    have hfz40_1 := blk_frozen BK125.out 1
                    have hfz40_2 := blk_frozen BK125.out 2
                    have hfz40_3 := blk_frozen BK125.out 3
                    have hfz40_4 := blk_frozen BK125.out 4
                    have hfz40_5 := blk_frozen BK125.out 5
                    have hfz40_6 := blk_frozen BK125.out 6
                    try go_wp2
                    have n0_ := Aside0.mk (Kd.R_drew HO_6.out)
                    have n1_ := Aside0.mk (blk_drew BK122.out)
                    have n2_ := Aside0.mk (blk_drew BK123.out)
                    have n3_ := Aside0.mk (blk_drew BK124.out)
                    have n4_ := Aside0.mk (blk_drew BK125.out)
                    have n5_ := Aside0.mk (below_drew1 HB.out)
                    clear HO_6
                    clear BK122
                    clear BK123
                    clear BK124
                    clear BK125
                    clear HB
                    have HO_6 := n0_
                    have BK122 := n1_
                    have BK123 := n2_
                    have BK124 := n3_
                    have BK125 := n4_
                    have HB := n5_
                    clear n0_ n1_ n2_ n3_ n4_ n5_
                    refine start_ (n := 20) (S := fun w' => w'.cell? ⟨gb125, 0, none⟩ = some (.int .u64 0) ∧ w'.cell? ⟨gb125, 1, none⟩ = some (.int .u64 0) ∧ w'.cell? ⟨gb125, 2, none⟩ = some (.int .u64 0) ∧ w'.cell? ⟨gb125, 3, none⟩ = some (.int .u64 0) ∧ w'.cell? ⟨gb125, 4, none⟩ = some (.int .u64 x126004_1) ∧ w'.cell? ⟨gb125, 5, none⟩ = some (.int .u64 x126005_1) ∧ w'.cell? ⟨gb125, 6, none⟩ = some (.bool true) ∧ w'.cell? ⟨gb122, 0, none⟩ = some (.int .u64 a0_0) ∧ w'.cell? ⟨gb122, 1, none⟩ = some (.int .u64 a0_1) ∧ w'.cell? ⟨gb122, 2, none⟩ = some (.int .u64 a0_2) ∧ w'.cell? ⟨gb122, 3, none⟩ = some (.int .u64 a0_3)) (ds := [19]) (bA 20 0) (by kernel_rfl) rfl rfl ⟨(blk_cell BK125.out 0).trans rfl, (blk_cell BK125.out 1).trans rfl, (blk_cell BK125.out 2).trans rfl, (blk_cell BK125.out 3).trans rfl, (blk_cell BK125.out 4).trans rfl, (blk_cell BK125.out 5).trans rfl, (blk_cell BK125.out 6).trans rfl, (blk_cell BK122.out 0).trans rfl, (blk_cell BK122.out 1).trans rfl, (blk_cell BK122.out 2).trans rfl, (blk_cell BK122.out 3).trans rfl⟩ (fun hHeld => ?_); refine with_tabW perigeeref1_DivFour.tab9 perigeeref1_DivFour.bits9 (fun HT_ HW_ => ?_)
                    generalize wr.drew = w41 at HO_6 BK122 BK123 BK124 BK125 HB hHeld ⊢
                    refine pure_ (i := 0) (N := some 23) (v := ?_) (a' := ?_) (bA 20 1) rfl rfl (any_of HT_.out (by kernel_rfl)) (fun _ _ _ h => h) (Or.inl ⟨by rfl, ?_⟩) ?_ ?_
                    rotate_left
                    · intro w'
                      go_simp
                      with_reducible rfl
                    rotate_left
                    · simp only [Act.put, List.setIfInBounds_toArray, List.set_cons_zero, List.set_cons_succ, i64_w, i32_w]
                      rfl
                    refine pure_ (i := 1) (N := some 24) (v := ?_) (a' := ?_) (bA 20 3) rfl rfl (any_of HT_.out (by kernel_rfl)) (fun _ _ _ h => h) (Or.inl ⟨by rfl, ?_⟩) ?_ ?_
                    rotate_left
                    · intro w'
                      go_simp
                      with_reducible rfl
                    rotate_left
                    · simp only [Act.put, List.setIfInBounds_toArray, List.set_cons_zero, List.set_cons_succ, i64_w, i32_w]
                      rfl
                    refine pure_ (i := 4) (N := some 27) (v := ?_) (a' := ?_) (bA 20 19) rfl rfl (any_of HT_.out (by kernel_rfl)) (fun _ _ _ h => h) (Or.inl ⟨by rfl, ?_⟩) ?_ ?_
                    rotate_left
                    · intro w'
                      go_simp
                      with_reducible rfl
                    rotate_left
                    · simp only [Act.put, List.setIfInBounds_toArray, List.set_cons_zero, List.set_cons_succ, i64_w, i32_w]
                      rfl
                    refine pure_ (i := 5) (N := some 28) (v := ?_) (a' := ?_) (bA 20 51) rfl rfl (any_of HT_.out (by kernel_rfl)) (fun _ _ _ h => h) (Or.inl ⟨by rfl, ?_⟩) ?_ ?_
                    rotate_left
                    · intro w'
                      go_simp
                      with_reducible rfl
                    rotate_left
                    · simp only [Act.put, List.setIfInBounds_toArray, List.set_cons_zero, List.set_cons_succ, i64_w, i32_w]
                      rfl
                    refine pure_ (i := 9) (N := some 32) (v := ?_) (a' := ?_) (bA 20 563) rfl rfl (any_of HT_.out (by kernel_rfl)) (fun _ _ _ h => h) (Or.inl ⟨by rfl, ?_⟩) ?_ ?_
                    rotate_left
                    · intro w'
                      go_simp
                      with_reducible rfl
                    rotate_left
                    · simp only [Act.put, List.setIfInBounds_toArray, List.set_cons_zero, List.set_cons_succ, i64_w, i32_w]
                      rfl
                    refine pure_ (i := 10) (N := some 33) (v := ?_) (a' := ?_) (bA 20 1587) rfl rfl (any_of HT_.out (by kernel_rfl)) (fun _ _ _ h => h) (Or.inl ⟨by rfl, ?_⟩) ?_ ?_
                    rotate_left
                    · intro w'
                      go_simp
                      with_reducible rfl
                    rotate_left
                    · simp only [Act.put, List.setIfInBounds_toArray, List.set_cons_zero, List.set_cons_succ, i64_w, i32_w]
                      rfl
                    refine pure_ (i := 14) (N := some 37) (v := ?_) (a' := ?_) (bA 20 17971) rfl rfl (any_of HT_.out (by kernel_rfl)) (fun _ _ _ h => h) (Or.inl ⟨by rfl, ?_⟩) ?_ ?_
                    rotate_left
                    · intro w'
                      go_simp
                      with_reducible rfl
                    rotate_left
                    · simp only [Act.put, List.setIfInBounds_toArray, List.set_cons_zero, List.set_cons_succ, i64_w, i32_w]
                      rfl
                    refine take_ (i := 2) (N := some 25) (v := ?_) (a' := ?_) (bA 20 17975) rfl rfl (take_ofW HT_.out HW_.out (by kernel_rfl)) (fun _ _ _ h => h) (Or.inl ⟨by rfl, ?_⟩) hHeld ?_ ?_
                    rotate_left
                    · rintro w' ⟨s0, s1, s2, s3, s4, s5, s6, s7, s8, s9, s10⟩
                      go_simp
                      with_reducible rfl
                    rotate_left
                    · simp only [Act.put, List.setIfInBounds_toArray, List.set_cons_zero, List.set_cons_succ, i64_w, i32_w]
                      rfl
                    refine pure_ (i := 3) (N := some 26) (v := ?_) (a' := ?_) (bA 20 17983) rfl rfl (any_of HT_.out (by kernel_rfl)) (fun _ _ _ h => h) (Or.inl ⟨by rfl, ?_⟩) ?_ ?_
                    rotate_left
                    · intro w'
                      go_simp
                      with_reducible rfl
                    rotate_left
                    · simp only [Act.put, List.setIfInBounds_toArray, List.set_cons_zero, List.set_cons_succ, i64_w, i32_w]
                      rfl
                    refine take_ (i := 6) (N := some 29) (v := ?_) (a' := ?_) (bA 20 18047) rfl rfl (take_ofW HT_.out HW_.out (by kernel_rfl)) (fun _ _ _ h => h) (Or.inl ⟨by rfl, ?_⟩) hHeld ?_ ?_
                    rotate_left
                    · rintro w' ⟨s0, s1, s2, s3, s4, s5, s6, s7, s8, s9, s10⟩
                      go_simp
                      with_reducible rfl
                    rotate_left
                    · simp only [Act.put, List.setIfInBounds_toArray, List.set_cons_zero, List.set_cons_succ, i64_w, i32_w]
                      rfl
                    refine pure_ (i := 7) (N := some 30) (v := ?_) (a' := ?_) (bA 20 18175) rfl rfl (any_of HT_.out (by kernel_rfl)) (fun _ _ _ h => h) (Or.inl ⟨by rfl, ?_⟩) ?_ ?_
                    rotate_left
                    · intro w'
                      go_simp
                      with_reducible rfl
                    rotate_left
                    · simp only [Act.put, List.setIfInBounds_toArray, List.set_cons_zero, List.set_cons_succ, i64_w, i32_w]
                      rfl
                    refine pure_ (i := 8) (N := some 31) (v := ?_) (a' := ?_) (bA 20 18431) rfl rfl (any_of HT_.out (by kernel_rfl)) (fun _ _ _ h => h) (Or.inl ⟨by rfl, ?_⟩) ?_ ?_
                    rotate_left
                    · intro w'
                      go_simp
                      with_reducible rfl
                    rotate_left
                    · simp only [Act.put, List.setIfInBounds_toArray, List.set_cons_zero, List.set_cons_succ, i64_w, i32_w]
                      rfl
                    refine take_ (i := 11) (N := some 34) (v := ?_) (a' := ?_) (bA 20 20479) rfl rfl (take_ofW HT_.out HW_.out (by kernel_rfl)) (fun _ _ _ h => h) (Or.inl ⟨by rfl, ?_⟩) hHeld ?_ ?_
                    rotate_left
                    · rintro w' ⟨s0, s1, s2, s3, s4, s5, s6, s7, s8, s9, s10⟩
                      go_simp
                      with_reducible rfl
                    rotate_left
                    · simp only [Act.put, List.setIfInBounds_toArray, List.set_cons_zero, List.set_cons_succ, i64_w, i32_w]
                      rfl
                    refine pure_ (i := 12) (N := some 35) (v := ?_) (a' := ?_) (bA 20 24575) rfl rfl (any_of HT_.out (by kernel_rfl)) (fun _ _ _ h => h) (Or.inl ⟨by rfl, ?_⟩) ?_ ?_
                    rotate_left
                    · intro w'
                      go_simp
                      with_reducible rfl
                    rotate_left
                    · simp only [Act.put, List.setIfInBounds_toArray, List.set_cons_zero, List.set_cons_succ, i64_w, i32_w]
                      rfl
                    refine take_ (i := 13) (N := some 36) (v := ?_) (a' := ?_) (bA 20 32767) rfl rfl (take_ofW HT_.out HW_.out (by kernel_rfl)) (fun _ _ _ h => h) (Or.inl ⟨by rfl, ?_⟩) hHeld ?_ ?_
                    rotate_left
                    · rintro w' ⟨s0, s1, s2, s3, s4, s5, s6, s7, s8, s9, s10⟩
                      go_simp
                      with_reducible rfl
                    rotate_left
                    · simp only [Act.put, List.setIfInBounds_toArray, List.set_cons_zero, List.set_cons_succ, i64_w, i32_w]
                      rfl
                    refine one_ (i := 15) (N := some 38) (bA 20 65535) rfl rfl (one_of HT_.out (by kernel_rfl)) (by decide) (fun K hK => ?_)
                    refine goes_ Try.func34 (by kernel_rfl) rfl #[.agg #[.int .u64 a0_0, .int .u64 a0_1, .int .u64 a0_2, .int .u64 a0_3], .int .i64 x7_1] (by rfl) rfl rfl (by (try simp only [List.map_toArray, List.map_cons, List.map_nil]); first | done | rfl | (simp only [List.length_drop, List.length_take]; rfl)) ?_
                    with_reducible refine (perigeeref1_bit.calls a0_0 a0_1 a0_2 a0_3 x7_1 t133 _ A27.out).mono ?_
                    rintro e w42 ⟨rfl, hb⟩
                    refine ⟨_, rfl, ?_⟩
                    have n0_ := Aside0.mk (Kd.R_below (by (with_reducible repeat (first | apply Kd.R_alloc | apply Kd.R_drewN | apply Kd.R_drew)); exact HO_6.out) hb)
                    have n1_ := Aside0.mk (blk_below (g := gb122) (o := .cells #[.int .u64 a0_0, .int .u64 a0_1, .int .u64 a0_2, .int .u64 a0_3] 26 (0, 0)) (by (with_reducible repeat (first | refine blk_drewN ?_ _ | refine blk_drew ?_ | refine blk_alloc ?_ _)); exact BK122.out) hb)
                    have n2_ := Aside0.mk (blk_below (g := gb123) (o := .cells #[.int .u64 a1_0, .int .u64 a1_1] 24 (0, 0)) (by (with_reducible repeat (first | refine blk_drewN ?_ _ | refine blk_drew ?_ | refine blk_alloc ?_ _)); exact BK123.out) hb)
                    have n3_ := Aside0.mk (blk_below (g := gb124) (o := .cells #[.int .u64 0, .int .u64 0, .int .u64 0, .int .u64 0, .int .u64 0, .int .u64 0, .bool false] 30 (0, 0)) (by (with_reducible repeat (first | refine blk_drewN ?_ _ | refine blk_drew ?_ | refine blk_alloc ?_ _)); exact BK124.out) hb)
                    have n4_ := Aside0.mk (blk_below (g := gb125) (o := .cells #[.int .u64 0, .int .u64 0, .int .u64 0, .int .u64 0, .int .u64 x126004_1, .int .u64 x126005_1, .bool true] 30 (0, 0)) (by (with_reducible repeat (first | refine blk_drewN ?_ _ | refine blk_drew ?_ | refine blk_alloc ?_ _)); exact BK125.out) hb)
                    have n5_ := Aside0.mk (below_step (by repeat (first | (with_reducible first | exact HB.out | apply below_alloc | apply pw_below_drewN | apply below_drew1 | refine below_set ?_ GE122.out | refine below_set ?_ GE123.out | refine below_set ?_ GE124.out | refine below_set ?_ GE125.out) | exact HB.out)) hb)
                    clear HO_6
                    clear BK122
                    clear BK123
                    clear BK124
                    clear BK125
                    clear HB
                    have HO_6 := n0_
                    have BK122 := n1_
                    have BK123 := n2_
                    have BK124 := n3_
                    have BK125 := n4_
                    have HB := n5_
                    clear n0_ n1_ n2_ n3_ n4_ n5_
                    (try clear hb)
                    (try clear hb2)
                    (try clear hk)
                    (try clear hi)
                    refine hK.out _ _ ⟨(blk_cell BK125.out 0).trans rfl, (blk_cell BK125.out 1).trans rfl, (blk_cell BK125.out 2).trans rfl, (blk_cell BK125.out 3).trans rfl, (blk_cell BK125.out 4).trans rfl, (blk_cell BK125.out 5).trans rfl, (blk_cell BK125.out 6).trans rfl, (blk_cell BK122.out 0).trans rfl, (blk_cell BK122.out 1).trans rfl, (blk_cell BK122.out 2).trans rfl, (blk_cell BK122.out 3).trans rfl⟩ (fun hHeld => ?_)
                    clear hK K
                    refine norm_ (a' := ?_) ?_ ?_
                    rotate_left
                    · show Act.put _ (some 38) _ = _
                      simp only [Act.put, List.setIfInBounds_toArray, List.set_cons_zero, List.set_cons_succ, i64_w, i32_w]
                      rfl
                    refine pure_ (i := 16) (N := some 39) (v := ?_) (a' := ?_) (bA 20 131071) rfl rfl (any_of HT_.out (by kernel_rfl)) (fun _ _ _ h => h) (Or.inl ⟨by rfl, ?_⟩) ?_ ?_
                    rotate_left
                    · intro w'
                      go_simp
                      with_reducible rfl
                    rotate_left
                    · simp only [Act.put, List.setIfInBounds_toArray, List.set_cons_zero, List.set_cons_succ, i64_w, i32_w]
                      rfl
                    refine pure_ (i := 17) (N := some 40) (v := ?_) (a' := ?_) (bA 20 262143) rfl rfl (any_of HT_.out (by kernel_rfl)) (fun _ _ _ h => h) (Or.inl ⟨by rfl, ?_⟩) ?_ ?_
                    rotate_left
                    · intro w'
                      go_simp
                      with_reducible rfl
                    rotate_left
                    · simp only [Act.put, List.setIfInBounds_toArray, List.set_cons_zero, List.set_cons_succ, i64_w, i32_w]
                      rfl
                    refine pure_ (i := 18) (N := some 41) (v := ?_) (a' := ?_) (bA 20 524287) rfl rfl (any_of HT_.out (by kernel_rfl)) (fun _ _ _ h => h) (Or.inl ⟨by rfl, ?_⟩) ?_ ?_
                    rotate_left
                    · intro w'
                      go_simp
                      with_reducible rfl
                    rotate_left
                    · simp only [Act.put, List.setIfInBounds_toArray, List.set_cons_zero, List.set_cons_succ, i64_w, i32_w]
                      rfl
                    refine last_ (i := 19) (N := none) (bA 20 1048575) rfl rfl (one_of HT_.out (by kernel_rfl)) (by decide) (fun K hK => ?_)
                    have hs43 : w42.cell? ⟨gb125, 4, none⟩ = some (.int .u64 x126004_1) := (blk_cell BK125.out 4).trans rfl
                    have hfs43 := blk_frozen BK125.out 4
                    have hns43_0 := NB122_125.out
                    have hns43_1 := NB123_125.out
                    have hns43_2 := NB124_125.out
                    have hms43_0 := NB125_122.out
                    have hms43_1 := NB125_123.out
                    have hms43_2 := NB125_124.out
                    have hs44 : w42.cell? ⟨gb125, 5, none⟩ = some (.int .u64 x126005_1) := (blk_cell BK125.out 5).trans rfl
                    have hfs44 := blk_frozen BK125.out 5
                    have hns44_0 := NB122_125.out
                    have hns44_1 := NB123_125.out
                    have hns44_2 := NB124_125.out
                    have hms44_0 := NB125_122.out
                    have hms44_1 := NB125_123.out
                    have hms44_2 := NB125_124.out
                    refine skip_ (w1 := ?_) (by rfl) rfl ?_ ?_
                    rotate_left
                    · go_simp
                      rfl
                    refine hK.out _ _ ?_
                    clear hK K
                    refine done_ (done_of HT_.out (by kernel_rfl)) ?_
                    have hcz45_0 : w42.cell? ⟨gb125, 0, none⟩ = some (.int .u64 0) := (blk_cell BK125.out 0).trans rfl
                    have hcz45_1 : w42.cell? ⟨gb125, 1, none⟩ = some (.int .u64 0) := (blk_cell BK125.out 1).trans rfl
                    have hcz45_2 : w42.cell? ⟨gb125, 2, none⟩ = some (.int .u64 0) := (blk_cell BK125.out 2).trans rfl
                    have hcz45_3 : w42.cell? ⟨gb125, 3, none⟩ = some (.int .u64 0) := (blk_cell BK125.out 3).trans rfl
                    have hcz45_4 : w42.cell? ⟨gb125, 4, none⟩ = some (.int .u64 x126004_1) := (blk_cell BK125.out 4).trans rfl
                    have hcz45_5 : w42.cell? ⟨gb125, 5, none⟩ = some (.int .u64 x126005_1) := (blk_cell BK125.out 5).trans rfl
                    have hcz45_6 : w42.cell? ⟨gb125, 6, none⟩ = some (.bool true) := (blk_cell BK125.out 6).trans rfl
                    have hfz45_0 := blk_frozen BK125.out 0
                    have hfz45_1 := blk_frozen BK125.out 1
                    have hfz45_2 := blk_frozen BK125.out 2
                    have hfz45_3 := blk_frozen BK125.out 3
                    have hfz45_4 := blk_frozen BK125.out 4
                    have hfz45_5 := blk_frozen BK125.out 5
                    have hfz45_6 := blk_frozen BK125.out 6
                    have hnb46 := NB123_122.out
                    have hnc46 := NB122_123.out
                    have hnb47 := NB123_124.out
                    have hnc47 := NB124_123.out
                    have hcz48_0 : w42.cell? ⟨gb123, 0, none⟩ = some (.int .u64 a1_0) := (blk_cell BK123.out 0).trans rfl
                    have hcz48_1 : w42.cell? ⟨gb123, 1, none⟩ = some (.int .u64 a1_1) := (blk_cell BK123.out 1).trans rfl
                    have hfz48_0 := blk_frozen BK123.out 0
                    have hfz48_1 := blk_frozen BK123.out 1
                    try go_wp2_with (first | ((with_reducible refine gate_callee (f := 20) rfl ?_); refine goesL_ (some 54) rfl rfl Try.func20 (by kernel_rfl) rfl #[.agg #[.int .u64 (Go.bits .or .u64 (IntKind.u64.wrap (x126004_1 * 2)) (x126005_1 / 9223372036854775808)), .int .u64 (Go.bits .or .u64 (IntKind.u64.wrap (x126005_1 * 2)) t133)], .agg #[.int .u64 a1_0, .int .u64 a1_1]] rfl (by (try simp only [List.map_toArray, List.map_cons, List.map_nil]); first | done | rfl | (simp only [List.length_drop, List.length_take]; rfl)) ?_; (with_reducible refine (perigeeref1_SubTwo.calls (Go.bits .or .u64 (IntKind.u64.wrap (x126004_1 * 2)) (x126005_1 / 9223372036854775808)) (Go.bits .or .u64 (IntKind.u64.wrap (x126005_1 * 2)) t133) a1_0 a1_1 t134 t135 t136 _ A29.out).mono ?_); rintro e w49 ⟨rfl, hb⟩; refine ⟨_, rfl, ?_⟩; have n0_ := Aside0.mk (Kd.R_below (by (with_reducible repeat (first | apply Kd.R_alloc | apply Kd.R_drewN | apply Kd.R_drew)); exact (Kd.R_mono (Kd.R_far (p := ⟨gb125, 5, none⟩) (Kd.R_far (p := ⟨gb125, 4, none⟩) (Kd.R_types HO_6.out BK125.out (by decide)) (fun _ hk => hk.2) (.int .u64 (Go.bits .or .u64 (IntKind.u64.wrap (x126004_1 * 2)) (x126005_1 / 9223372036854775808)))) (fun _ hk => hk.2) (.int .u64 (Go.bits .or .u64 (IntKind.u64.wrap (x126005_1 * 2)) t133))) (fun _ h_ => h_.1))) hb); have n1_ := Aside0.mk (blk_below (g := gb122) (o := .cells #[.int .u64 a0_0, .int .u64 a0_1, .int .u64 a0_2, .int .u64 a0_3] 26 (0, 0)) (by (with_reducible repeat (first | refine blk_drewN ?_ _ | refine blk_drew ?_ | refine blk_alloc ?_ _)); refine blk_far ?_ NB122_125.out _; (with_reducible repeat (first | refine blk_drewN ?_ _ | refine blk_drew ?_ | refine blk_alloc ?_ _)); refine blk_far ?_ NB122_125.out _; (with_reducible repeat (first | refine blk_drewN ?_ _ | refine blk_drew ?_ | refine blk_alloc ?_ _)); exact BK122.out) hb); have n2_ := Aside0.mk (blk_below (g := gb123) (o := .cells #[.int .u64 a1_0, .int .u64 a1_1] 24 (0, 0)) (by (with_reducible repeat (first | refine blk_drewN ?_ _ | refine blk_drew ?_ | refine blk_alloc ?_ _)); refine blk_far ?_ NB123_125.out _; (with_reducible repeat (first | refine blk_drewN ?_ _ | refine blk_drew ?_ | refine blk_alloc ?_ _)); refine blk_far ?_ NB123_125.out _; (with_reducible repeat (first | refine blk_drewN ?_ _ | refine blk_drew ?_ | refine blk_alloc ?_ _)); exact BK123.out) hb); have n3_ := Aside0.mk (blk_below (g := gb124) (o := .cells #[.int .u64 0, .int .u64 0, .int .u64 0, .int .u64 0, .int .u64 0, .int .u64 0, .bool false] 30 (0, 0)) (by (with_reducible repeat (first | refine blk_drewN ?_ _ | refine blk_drew ?_ | refine blk_alloc ?_ _)); refine blk_far ?_ NB124_125.out _; (with_reducible repeat (first | refine blk_drewN ?_ _ | refine blk_drew ?_ | refine blk_alloc ?_ _)); refine blk_far ?_ NB124_125.out _; (with_reducible repeat (first | refine blk_drewN ?_ _ | refine blk_drew ?_ | refine blk_alloc ?_ _)); exact BK124.out) hb); have n4_ := Aside0.mk (blk_below (g := gb125) (o := .cells #[.int .u64 0, .int .u64 0, .int .u64 0, .int .u64 0, .int .u64 (Go.bits .or .u64 (IntKind.u64.wrap (x126004_1 * 2)) (x126005_1 / 9223372036854775808)), .int .u64 (Go.bits .or .u64 (IntKind.u64.wrap (x126005_1 * 2)) t133), .bool true] 30 (0, 0)) (by (with_reducible repeat (first | refine blk_drewN ?_ _ | refine blk_drew ?_ | refine blk_alloc ?_ _)); refine blk_put (cs := #[.int .u64 0, .int .u64 0, .int .u64 0, .int .u64 0, .int .u64 (Go.bits .or .u64 (IntKind.u64.wrap (x126004_1 * 2)) (x126005_1 / 9223372036854775808)), .int .u64 x126005_1, .bool true]) ?_ 5 _ rfl; (with_reducible repeat (first | refine blk_drewN ?_ _ | refine blk_drew ?_ | refine blk_alloc ?_ _)); refine blk_put (cs := #[.int .u64 0, .int .u64 0, .int .u64 0, .int .u64 0, .int .u64 x126004_1, .int .u64 x126005_1, .bool true]) ?_ 4 _ rfl; (with_reducible repeat (first | refine blk_drewN ?_ _ | refine blk_drew ?_ | refine blk_alloc ?_ _)); exact BK125.out) hb); have n5_ := Aside0.mk (below_step (by repeat (first | (with_reducible first | exact HB.out | apply below_alloc | apply pw_below_drewN | apply below_drew1 | refine below_set ?_ GE122.out | refine below_set ?_ GE123.out | refine below_set ?_ GE124.out | refine below_set ?_ GE125.out) | exact HB.out)) hb); clear HO_6; clear BK122; clear BK123; clear BK124; clear BK125; clear HB; have HO_6 := n0_; have BK122 := n1_; have BK123 := n2_; have BK124 := n3_; have BK125 := n4_; have HB := n5_; clear n0_ n1_ n2_ n3_ n4_ n5_; (try clear hb); (try clear hb2); (try clear hk); (try clear hi); have hcz50_0 : w49.cell? ⟨gb125, 0, none⟩ = some (.int .u64 0) := (blk_cell BK125.out 0).trans rfl; have hcz50_1 : w49.cell? ⟨gb125, 1, none⟩ = some (.int .u64 0) := (blk_cell BK125.out 1).trans rfl; have hcz50_2 : w49.cell? ⟨gb125, 2, none⟩ = some (.int .u64 0) := (blk_cell BK125.out 2).trans rfl; have hcz50_3 : w49.cell? ⟨gb125, 3, none⟩ = some (.int .u64 0) := (blk_cell BK125.out 3).trans rfl; have hcz50_4 : w49.cell? ⟨gb125, 4, none⟩ = some (.int .u64 (Go.bits .or .u64 (IntKind.u64.wrap (x126004_1 * 2)) (x126005_1 / 9223372036854775808))) := (blk_cell BK125.out 4).trans rfl; have hcz50_5 : w49.cell? ⟨gb125, 5, none⟩ = some (.int .u64 (Go.bits .or .u64 (IntKind.u64.wrap (x126005_1 * 2)) t133)) := (blk_cell BK125.out 5).trans rfl; have hcz50_6 : w49.cell? ⟨gb125, 6, none⟩ = some (.bool true) := (blk_cell BK125.out 6).trans rfl; have hfz50_0 := blk_frozen BK125.out 0; have hfz50_1 := blk_frozen BK125.out 1; have hfz50_2 := blk_frozen BK125.out 2; have hfz50_3 := blk_frozen BK125.out 3; have hfz50_4 := blk_frozen BK125.out 4; have hfz50_5 := blk_frozen BK125.out 5; have hfz50_6 := blk_frozen BK125.out 6))
                    have n0_ : Aside0 (Kd.R (Kd.int .u64) 22 ((w49.setCell ⟨gb125, 4, none⟩ (.int .u64 t134)).setCell ⟨gb125, 5, none⟩ (.int .u64 t135)) w.heap.size (fun _ => True) v127 x6_1) := ⟨by (with_reducible repeat (first | apply Kd.R_alloc | apply Kd.R_drewN | apply Kd.R_drew)); exact Kd.R_mono (Kd.R_far (p := ⟨gb125, 5, none⟩) (Kd.R_far (p := ⟨gb125, 4, none⟩) (Kd.R_types HO_6.out BK125.out (by decide)) (fun _ hk => hk.2) (.int .u64 t134)) (fun _ hk => hk.2) (.int .u64 t135)) (fun _ hk => trivial)⟩
                    have n1_ : Aside0 (((w49.setCell ⟨gb125, 4, none⟩ (.int .u64 t134)).setCell ⟨gb125, 5, none⟩ (.int .u64 t135)).heap[gb122]? = some (.cells #[.int .u64 a0_0, .int .u64 a0_1, .int .u64 a0_2, .int .u64 a0_3] 26 (0, 0))) := ⟨by (with_reducible repeat (first | refine blk_drewN ?_ _ | refine blk_drew ?_ | refine blk_alloc ?_ _)); refine blk_far ?_ NB122_125.out _; (with_reducible repeat (first | refine blk_drewN ?_ _ | refine blk_drew ?_ | refine blk_alloc ?_ _)); refine blk_far ?_ NB122_125.out _; (with_reducible repeat (first | refine blk_drewN ?_ _ | refine blk_drew ?_ | refine blk_alloc ?_ _)); exact BK122.out⟩
                    have n2_ : Aside0 (((w49.setCell ⟨gb125, 4, none⟩ (.int .u64 t134)).setCell ⟨gb125, 5, none⟩ (.int .u64 t135)).heap[gb123]? = some (.cells #[.int .u64 a1_0, .int .u64 a1_1] 24 (0, 0))) := ⟨by (with_reducible repeat (first | refine blk_drewN ?_ _ | refine blk_drew ?_ | refine blk_alloc ?_ _)); refine blk_far ?_ NB123_125.out _; (with_reducible repeat (first | refine blk_drewN ?_ _ | refine blk_drew ?_ | refine blk_alloc ?_ _)); refine blk_far ?_ NB123_125.out _; (with_reducible repeat (first | refine blk_drewN ?_ _ | refine blk_drew ?_ | refine blk_alloc ?_ _)); exact BK123.out⟩
                    have n3_ : Aside0 (((w49.setCell ⟨gb125, 4, none⟩ (.int .u64 t134)).setCell ⟨gb125, 5, none⟩ (.int .u64 t135)).heap[gb124]? = some (.cells #[.int .u64 0, .int .u64 0, .int .u64 0, .int .u64 0, .int .u64 0, .int .u64 0, .bool false] 30 (0, 0))) := ⟨by (with_reducible repeat (first | refine blk_drewN ?_ _ | refine blk_drew ?_ | refine blk_alloc ?_ _)); refine blk_far ?_ NB124_125.out _; (with_reducible repeat (first | refine blk_drewN ?_ _ | refine blk_drew ?_ | refine blk_alloc ?_ _)); refine blk_far ?_ NB124_125.out _; (with_reducible repeat (first | refine blk_drewN ?_ _ | refine blk_drew ?_ | refine blk_alloc ?_ _)); exact BK124.out⟩
                    have n4_ : Aside0 (((w49.setCell ⟨gb125, 4, none⟩ (.int .u64 t134)).setCell ⟨gb125, 5, none⟩ (.int .u64 t135)).heap[gb125]? = some (.cells #[.int .u64 0, .int .u64 0, .int .u64 0, .int .u64 0, .int .u64 t134, .int .u64 t135, .bool true] 30 (0, 0))) := ⟨by (with_reducible repeat (first | refine blk_drewN ?_ _ | refine blk_drew ?_ | refine blk_alloc ?_ _)); refine blk_put (cs := #[.int .u64 0, .int .u64 0, .int .u64 0, .int .u64 0, .int .u64 t134, .int .u64 (Go.bits .or .u64 (IntKind.u64.wrap (x126005_1 * 2)) t133), .bool true]) ?_ 5 _ rfl; (with_reducible repeat (first | refine blk_drewN ?_ _ | refine blk_drew ?_ | refine blk_alloc ?_ _)); refine blk_put (cs := #[.int .u64 0, .int .u64 0, .int .u64 0, .int .u64 0, .int .u64 (Go.bits .or .u64 (IntKind.u64.wrap (x126004_1 * 2)) (x126005_1 / 9223372036854775808)), .int .u64 (Go.bits .or .u64 (IntKind.u64.wrap (x126005_1 * 2)) t133), .bool true]) ?_ 4 _ rfl; (with_reducible repeat (first | refine blk_drewN ?_ _ | refine blk_drew ?_ | refine blk_alloc ?_ _)); exact BK125.out⟩
                    have n5_ : Aside0 (Below w.heap.size w ((w49.setCell ⟨gb125, 4, none⟩ (.int .u64 t134)).setCell ⟨gb125, 5, none⟩ (.int .u64 t135))) := ⟨by repeat (first | (with_reducible first | exact HB.out | apply below_alloc | apply pw_below_drewN | apply below_drew1 | refine below_set ?_ GE122.out | refine below_set ?_ GE123.out | refine below_set ?_ GE124.out | refine below_set ?_ GE125.out) | exact HB.out)⟩
                    (try clear HO_6)
                    (try clear BK122)
                    (try clear BK123)
                    (try clear BK124)
                    (try clear BK125)
                    (try clear HB)
                    generalize ((w49.setCell ⟨gb125, 4, none⟩ (.int .u64 t134)).setCell ⟨gb125, 5, none⟩ (.int .u64 t135)) = w51 at n0_ n1_ n2_ n3_ n4_ n5_ ⊢
                    have HO_6 := n0_
                    have BK122 := n1_
                    have BK123 := n2_
                    have BK124 := n3_
                    have BK125 := n4_
                    have HB := n5_
                    clear n0_ n1_ n2_ n3_ n4_ n5_
                    have n0_ := Aside0.mk (Kd.R_drew HO_6.out)
                    have n1_ := Aside0.mk (blk_drew BK122.out)
                    have n2_ := Aside0.mk (blk_drew BK123.out)
                    have n3_ := Aside0.mk (blk_drew BK124.out)
                    have n4_ := Aside0.mk (blk_drew BK125.out)
                    have n5_ := Aside0.mk (below_drew1 HB.out)
                    clear HO_6
                    clear BK122
                    clear BK123
                    clear BK124
                    clear BK125
                    clear HB
                    have HO_6 := n0_
                    have BK122 := n1_
                    have BK123 := n2_
                    have BK124 := n3_
                    have BK125 := n4_
                    have HB := n5_
                    clear n0_ n1_ n2_ n3_ n4_ n5_
                    obtain ⟨Ao53, co53, eo53⟩ := Kd.R_slice HO_6.out
                    (first | subst eo53 | (injection eo53 with f1_ f2_ f3_; have f4_ := f1_.symm; have f5_ := f3_.symm; clear f1_ f2_ f3_; subst f4_; subst f5_))
                    have p137 : 0 ≤ ((ji30) : Int) := of_decide_eq_true (by first | (with_reducible assumption) | assumption)
                    have q137 : (ji30) < (x6_1.length : Int) := of_decide_eq_true (by first | (with_reducible assumption) | assumption)
                    obtain ⟨ad137, e137, hx137_0⟩ := Kd.at_int (Kd.R_reads' HO_6.out).2.2 (ji30) p137 q137
                    cases e137
                    replace p137 := eq_true p137
                    replace q137 := eq_true q137
                    have p36 : 0 ≤ ((ji30) : Int) := of_decide_eq_true (by first | (with_reducible assumption) | assumption)
                    have q36 : ((ji30) : Int) < ((x6_1.length : Int) : Int) := of_decide_eq_true (by first | (with_reducible assumption) | assumption)
                    obtain ⟨go36, co36, eo36, gb36, gl36, cl36, HG36⟩ := Kd.R_form HO_6.out (by omega)
                    (first | cases eo36 | (injection eo36 with ea_ en_ ec_; (first | subst ea_ | (injection ea_ with ea_; subst ea_)); subst ec_; clear en_))
                    have GB36 := Aside0.mk gb36
                    have GG36 := Aside0.mk HG36
                    clear gb36 gl36 HG36
                    (first | simp only [add_plain] at hx137_0 | skip)
                    obtain ⟨hx36_0, hf36_0⟩ := Kd.R_celln 0 HO_6.out ((ji30) : Int) p36 q36
                    replace p36 := eq_true p36
                    replace q36 := eq_true q36
                    have HP54 := Kd.R_putn HO_6.out ((ji30) : Int) (Go.bits .or .u64 (rd x6_1 (ji30)) (ji35))
                    rw [← Ny138.out] at HP54
                    have HQ54 := Aside0.mk HP54
                    clear HP54
                    refine start_ (n := 11) (S := fun w' => w'.cell? ⟨go36, ((ji30)).toNat, none⟩ = some (.int .u64 (rd x6_1 (ji30)))) (ds := [10]) (bA 11 0) (by kernel_rfl) rfl rfl (hx137_0) (fun hHeld => ?_); refine with_tabW perigeeref1_DivFour.tab12 perigeeref1_DivFour.bits12 (fun HT_ HW_ => ?_)
                    generalize w51.drew = w52 at HO_6 BK122 BK123 BK124 BK125 HB GG36 HQ54 hf36_0 hx137_0 hx36_0 hHeld ⊢
                    refine pure_ (i := 0) (N := some 57) (v := ?_) (a' := ?_) (bA 11 1) rfl rfl (any_of HT_.out (by kernel_rfl)) (fun _ _ _ h => h) (Or.inl ⟨by rfl, ?_⟩) ?_ ?_
                    rotate_left
                    · intro w'
                      go_simp
                      with_reducible rfl
                    rotate_left
                    · simp only [Act.put, List.setIfInBounds_toArray, List.set_cons_zero, List.set_cons_succ, i64_w, i32_w]
                      rfl
                    refine pure_ (i := 1) (N := some 58) (v := ?_) (a' := ?_) (bA 11 3) rfl rfl (any_of HT_.out (by kernel_rfl)) (fun _ _ _ h => h) (Or.inl ⟨by rfl, ?_⟩) ?_ ?_
                    rotate_left
                    · intro w'
                      go_simp
                      with_reducible rfl
                    rotate_left
                    · simp only [Act.put, List.setIfInBounds_toArray, List.set_cons_zero, List.set_cons_succ, i64_w, i32_w]
                      rfl
                    refine pure_ (i := 2) (N := some 59) (v := ?_) (a' := ?_) (bA 11 7) rfl rfl (any_of HT_.out (by kernel_rfl)) (fun _ _ _ h => h) (Or.inl ⟨by rfl, ?_⟩) ?_ ?_
                    rotate_left
                    · intro w'
                      go_simp
                      with_reducible rfl
                    rotate_left
                    · simp only [Act.put, List.setIfInBounds_toArray, List.set_cons_zero, List.set_cons_succ, i64_w, i32_w]
                      rfl
                    refine pure_ (i := 3) (N := some 60) (v := ?_) (a' := ?_) (bA 11 15) rfl rfl (any_of HT_.out (by kernel_rfl)) (fun _ _ _ h => h) (Or.inl ⟨by rfl, ?_⟩) ?_ ?_
                    rotate_left
                    · intro w'
                      go_simp
                      with_reducible rfl
                    rotate_left
                    · simp only [Act.put, List.setIfInBounds_toArray, List.set_cons_zero, List.set_cons_succ, i64_w, i32_w]
                      rfl
                    refine pure_ (i := 5) (N := some 62) (v := ?_) (a' := ?_) (bA 11 47) rfl rfl (any_of HT_.out (by kernel_rfl)) (fun _ _ _ h => h) (Or.inl ⟨by rfl, ?_⟩) ?_ ?_
                    rotate_left
                    · intro w'
                      go_simp
                      with_reducible rfl
                    rotate_left
                    · simp only [Act.put, List.setIfInBounds_toArray, List.set_cons_zero, List.set_cons_succ, i64_w, i32_w]
                      rfl
                    refine pure_ (i := 6) (N := some 63) (v := ?_) (a' := ?_) (bA 11 111) rfl rfl (any_of HT_.out (by kernel_rfl)) (fun _ _ _ h => h) (Or.inl ⟨by rfl, ?_⟩) ?_ ?_
                    rotate_left
                    · intro w'
                      go_simp
                      with_reducible rfl
                    rotate_left
                    · simp only [Act.put, List.setIfInBounds_toArray, List.set_cons_zero, List.set_cons_succ, i64_w, i32_w]
                      rfl
                    refine pure_ (i := 7) (N := some 64) (v := ?_) (a' := ?_) (bA 11 239) rfl rfl (any_of HT_.out (by kernel_rfl)) (fun _ _ _ h => h) (Or.inl ⟨by rfl, ?_⟩) ?_ ?_
                    rotate_left
                    · intro w'
                      go_simp
                      with_reducible rfl
                    rotate_left
                    · simp only [Act.put, List.setIfInBounds_toArray, List.set_cons_zero, List.set_cons_succ, i64_w, i32_w]
                      rfl
                    refine take_ (i := 4) (N := some 61) (v := ?_) (a' := ?_) (bA 11 255) rfl rfl (take_ofW HT_.out HW_.out (by kernel_rfl)) (fun _ _ _ h => h) (Or.inl ⟨by rfl, ?_⟩) hHeld ?_ ?_
                    rotate_left
                    · intro w' s0
                      go_simp
                      with_reducible rfl
                    rotate_left
                    · simp only [Act.put, List.setIfInBounds_toArray, List.set_cons_zero, List.set_cons_succ, i64_w, i32_w]
                      rfl
                    refine pure_ (i := 8) (N := some 65) (v := ?_) (a' := ?_) (bA 11 511) rfl rfl (any_of HT_.out (by kernel_rfl)) (fun _ _ _ h => h) (Or.inl ⟨by rfl, ?_⟩) ?_ ?_
                    rotate_left
                    · intro w'
                      go_simp
                      with_reducible rfl
                    rotate_left
                    · simp only [Act.put, List.setIfInBounds_toArray, List.set_cons_zero, List.set_cons_succ, i64_w, i32_w]
                      rfl
                    refine pure_ (i := 9) (N := some 66) (v := ?_) (a' := ?_) (bA 11 1023) rfl rfl (any_of HT_.out (by kernel_rfl)) (fun _ _ _ h => h) (Or.inl ⟨by rfl, ?_⟩) ?_ ?_
                    rotate_left
                    · intro w'
                      go_simp
                      with_reducible rfl
                    rotate_left
                    · simp only [Act.put, List.setIfInBounds_toArray, List.set_cons_zero, List.set_cons_succ, i64_w, i32_w]
                      rfl
                    refine last_ (i := 10) (N := none) (bA 11 2047) rfl rfl (one_of HT_.out (by kernel_rfl)) (by decide) (fun K hK => ?_)
                    refine skip_ (w1 := ?_) (by rfl) rfl ?_ ?_
                    rotate_left
                    · go_simp
                      rfl
                    refine hK.out _ _ ?_
                    clear hK K
                    refine done_ (done_of HT_.out (by kernel_rfl)) ?_
                    try go_wp2
                    go_roundg k1
                    case measure => have := HK1.out; omega
                    case rel => exact ⟨(y138), (wrap64 (x7_1 - 1)), (t134), (t135), (by first | rfl | (simp; done) | (simp [*]; done)), H', ⟨by have := HK1.out; omega⟩, ⟨by (with_reducible repeat (first | apply Kd.R_alloc | apply Kd.R_drewN | apply Kd.R_drew)); exact HQ54.out⟩, ⟨by (with_reducible repeat (first | refine blk_drewN ?_ _ | refine blk_drew ?_ | refine blk_alloc ?_ _)); refine blk_far ?_ (by have h_ := Kd.R_ne HO_6.out BK122.out (by decide); intro e_; exact h_ (by rw [e_]; rfl)) _; (with_reducible repeat (first | refine blk_drewN ?_ _ | refine blk_drew ?_ | refine blk_alloc ?_ _)); exact BK122.out⟩, ⟨by (with_reducible repeat (first | refine blk_drewN ?_ _ | refine blk_drew ?_ | refine blk_alloc ?_ _)); refine blk_far ?_ (by have h_ := Kd.R_ne HO_6.out BK123.out (by decide); intro e_; exact h_ (by rw [e_]; rfl)) _; (with_reducible repeat (first | refine blk_drewN ?_ _ | refine blk_drew ?_ | refine blk_alloc ?_ _)); exact BK123.out⟩, ⟨by (with_reducible repeat (first | refine blk_drewN ?_ _ | refine blk_drew ?_ | refine blk_alloc ?_ _)); refine blk_far ?_ (by have h_ := Kd.R_ne HO_6.out BK124.out (by decide); intro e_; exact h_ (by rw [e_]; rfl)) _; (with_reducible repeat (first | refine blk_drewN ?_ _ | refine blk_drew ?_ | refine blk_alloc ?_ _)); exact BK124.out⟩, ⟨by (with_reducible repeat (first | refine blk_drewN ?_ _ | refine blk_drew ?_ | refine blk_alloc ?_ _)); refine blk_far ?_ (by have h_ := Kd.R_ne HO_6.out BK125.out (by decide); intro e_; exact h_ (by rw [e_]; rfl)) _; (with_reducible repeat (first | refine blk_drewN ?_ _ | refine blk_drew ?_ | refine blk_alloc ?_ _)); exact BK125.out⟩, ⟨by repeat (first | (with_reducible first | exact HB.out | apply below_alloc | apply pw_below_drewN | apply below_drew1 | refine below_set ?_ GB36.out | refine below_set ?_ GE122.out | refine below_set ?_ GE123.out | refine below_set ?_ GE124.out | refine below_set ?_ GE125.out) | exact HB.out)⟩⟩
                  · rw [if_neg c34] at H
                    exact absurd H (by simp)
                · rw [if_neg c32] at H
                  exact absurd H (by simp)
              · rw [if_neg c31] at H
                exact absurd H (by simp)
            · rw [if_neg c28] at H
              have c28b0 : ((x126004_1 / 9223372036854775808) == 1) = false := beq_eq_false_iff_ne.mpr c28
              have c28b1 : ((x126004_1 / 9223372036854775808) != 1) = true := bne_iff_ne.mpr c28
              replace H := Option.bind_eq_some_iff.mp H
              obtain ⟨t139, A550, H⟩ := H
              replace H : (if t139 = true then (perigeeref1_DivFour.l0 k1 x6_1 (wrap64 (x7_1 - 1)) a0_0 a0_1 a0_2 a0_3 a1_0 a1_1 0 0 0 0 (Go.bits .or .u64 (IntKind.u64.wrap (x126004_1 * 2)) (x126005_1 / 9223372036854775808)) (Go.bits .or .u64 (IntKind.u64.wrap (x126005_1 * 2)) t133) true) else ((perigeeref1_SubTwo.f (Go.bits .or .u64 (IntKind.u64.wrap (x126004_1 * 2)) (x126005_1 / 9223372036854775808)) (Go.bits .or .u64 (IntKind.u64.wrap (x126005_1 * 2)) t133) a1_0 a1_1).bind fun bt140 => (if 0 ≤ (wrap64 (Int.tdiv x7_1 64)) then (if (wrap64 (Int.tdiv x7_1 64)) < (x6_1.length : Int) then (if 0 ≤ (Int.tmod x7_1 64) then (perigeeref1_DivFour.l0 k1 (x6_1.set ((wrap64 (Int.tdiv x7_1 64)) : Int).toNat (Go.bits .or .u64 (rd x6_1 (wrap64 (Int.tdiv x7_1 64))) (shl .u64 1 (Int.tmod x7_1 64)))) (wrap64 (x7_1 - 1)) a0_0 a0_1 a0_2 a0_3 a1_0 a1_1 0 0 0 0 bt140.1 bt140.2.1 true) else (none)) else (none)) else (none)))) = some (r1, r2, r3, r4, r5, r6, r7) := H
              have A55 := Aside0.mk A550
              clear A550
              by_cases c56 : t139 = true
              · subst c56
                have H1 : (perigeeref1_DivFour.l0 k1 x6_1 (wrap64 (x7_1 - 1)) a0_0 a0_1 a0_2 a0_3 a1_0 a1_1 0 0 0 0 (Go.bits .or .u64 (IntKind.u64.wrap (x126004_1 * 2)) (x126005_1 / 9223372036854775808)) (Go.bits .or .u64 (IntKind.u64.wrap (x126005_1 * 2)) t133) true) = some (r1, r2, r3, r4, r5, r6, r7) := by rw [if_pos rfl] at H; exact H
                clear H
                have H := H1
                clear H1
                have H' := Aside0.mk H
                clear H
                have hnb57 := NB125_122.out
                have hnc57 := NB122_125.out
                have hnb58 := NB125_123.out
                have hnc58 := NB123_125.out
                have hnb59 := NB125_124.out
                have hnc59 := NB124_125.out
                have hcz60_0 : wr.cell? ⟨gb125, 0, none⟩ = some (.int .u64 0) := (blk_cell BK125.out 0).trans rfl
                have hcz60_1 : wr.cell? ⟨gb125, 1, none⟩ = some (.int .u64 0) := (blk_cell BK125.out 1).trans rfl
                have hcz60_2 : wr.cell? ⟨gb125, 2, none⟩ = some (.int .u64 0) := (blk_cell BK125.out 2).trans rfl
                have hcz60_3 : wr.cell? ⟨gb125, 3, none⟩ = some (.int .u64 0) := (blk_cell BK125.out 3).trans rfl
                have hcz60_4 : wr.cell? ⟨gb125, 4, none⟩ = some (.int .u64 x126004_1) := (blk_cell BK125.out 4).trans rfl
                have hcz60_5 : wr.cell? ⟨gb125, 5, none⟩ = some (.int .u64 x126005_1) := (blk_cell BK125.out 5).trans rfl
                have hcz60_6 : wr.cell? ⟨gb125, 6, none⟩ = some (.bool true) := (blk_cell BK125.out 6).trans rfl
                have hfz60_0 := blk_frozen BK125.out 0
                have hfz60_1 := blk_frozen BK125.out 1
                have hfz60_2 := blk_frozen BK125.out 2
                have hfz60_3 := blk_frozen BK125.out 3
                have hfz60_4 := blk_frozen BK125.out 4
                have hfz60_5 := blk_frozen BK125.out 5
                have hfz60_6 := blk_frozen BK125.out 6
                try go_wp2
                have n0_ := Aside0.mk (Kd.R_drew HO_6.out)
                have n1_ := Aside0.mk (blk_drew BK122.out)
                have n2_ := Aside0.mk (blk_drew BK123.out)
                have n3_ := Aside0.mk (blk_drew BK124.out)
                have n4_ := Aside0.mk (blk_drew BK125.out)
                have n5_ := Aside0.mk (below_drew1 HB.out)
                clear HO_6
                clear BK122
                clear BK123
                clear BK124
                clear BK125
                clear HB
                have HO_6 := n0_
                have BK122 := n1_
                have BK123 := n2_
                have BK124 := n3_
                have BK125 := n4_
                have HB := n5_
                clear n0_ n1_ n2_ n3_ n4_ n5_
                refine start_ (n := 20) (S := fun w' => w'.cell? ⟨gb125, 0, none⟩ = some (.int .u64 0) ∧ w'.cell? ⟨gb125, 1, none⟩ = some (.int .u64 0) ∧ w'.cell? ⟨gb125, 2, none⟩ = some (.int .u64 0) ∧ w'.cell? ⟨gb125, 3, none⟩ = some (.int .u64 0) ∧ w'.cell? ⟨gb125, 4, none⟩ = some (.int .u64 x126004_1) ∧ w'.cell? ⟨gb125, 5, none⟩ = some (.int .u64 x126005_1) ∧ w'.cell? ⟨gb125, 6, none⟩ = some (.bool true) ∧ w'.cell? ⟨gb122, 0, none⟩ = some (.int .u64 a0_0) ∧ w'.cell? ⟨gb122, 1, none⟩ = some (.int .u64 a0_1) ∧ w'.cell? ⟨gb122, 2, none⟩ = some (.int .u64 a0_2) ∧ w'.cell? ⟨gb122, 3, none⟩ = some (.int .u64 a0_3)) (ds := [19]) (bA 20 0) (by kernel_rfl) rfl rfl ⟨(blk_cell BK125.out 0).trans rfl, (blk_cell BK125.out 1).trans rfl, (blk_cell BK125.out 2).trans rfl, (blk_cell BK125.out 3).trans rfl, (blk_cell BK125.out 4).trans rfl, (blk_cell BK125.out 5).trans rfl, (blk_cell BK125.out 6).trans rfl, (blk_cell BK122.out 0).trans rfl, (blk_cell BK122.out 1).trans rfl, (blk_cell BK122.out 2).trans rfl, (blk_cell BK122.out 3).trans rfl⟩ (fun hHeld => ?_); refine with_tabW perigeeref1_DivFour.tab9 perigeeref1_DivFour.bits9 (fun HT_ HW_ => ?_)
                generalize wr.drew = w61 at HO_6 BK122 BK123 BK124 BK125 HB hHeld ⊢
                refine pure_ (i := 0) (N := some 23) (v := ?_) (a' := ?_) (bA 20 1) rfl rfl (any_of HT_.out (by kernel_rfl)) (fun _ _ _ h => h) (Or.inl ⟨by rfl, ?_⟩) ?_ ?_
                rotate_left
                · intro w'
                  go_simp
                  with_reducible rfl
                rotate_left
                · simp only [Act.put, List.setIfInBounds_toArray, List.set_cons_zero, List.set_cons_succ, i64_w, i32_w]
                  rfl
                refine pure_ (i := 1) (N := some 24) (v := ?_) (a' := ?_) (bA 20 3) rfl rfl (any_of HT_.out (by kernel_rfl)) (fun _ _ _ h => h) (Or.inl ⟨by rfl, ?_⟩) ?_ ?_
                rotate_left
                · intro w'
                  go_simp
                  with_reducible rfl
                rotate_left
                · simp only [Act.put, List.setIfInBounds_toArray, List.set_cons_zero, List.set_cons_succ, i64_w, i32_w]
                  rfl
                refine pure_ (i := 4) (N := some 27) (v := ?_) (a' := ?_) (bA 20 19) rfl rfl (any_of HT_.out (by kernel_rfl)) (fun _ _ _ h => h) (Or.inl ⟨by rfl, ?_⟩) ?_ ?_
                rotate_left
                · intro w'
                  go_simp
                  with_reducible rfl
                rotate_left
                · simp only [Act.put, List.setIfInBounds_toArray, List.set_cons_zero, List.set_cons_succ, i64_w, i32_w]
                  rfl
                refine pure_ (i := 5) (N := some 28) (v := ?_) (a' := ?_) (bA 20 51) rfl rfl (any_of HT_.out (by kernel_rfl)) (fun _ _ _ h => h) (Or.inl ⟨by rfl, ?_⟩) ?_ ?_
                rotate_left
                · intro w'
                  go_simp
                  with_reducible rfl
                rotate_left
                · simp only [Act.put, List.setIfInBounds_toArray, List.set_cons_zero, List.set_cons_succ, i64_w, i32_w]
                  rfl
                refine pure_ (i := 9) (N := some 32) (v := ?_) (a' := ?_) (bA 20 563) rfl rfl (any_of HT_.out (by kernel_rfl)) (fun _ _ _ h => h) (Or.inl ⟨by rfl, ?_⟩) ?_ ?_
                rotate_left
                · intro w'
                  go_simp
                  with_reducible rfl
                rotate_left
                · simp only [Act.put, List.setIfInBounds_toArray, List.set_cons_zero, List.set_cons_succ, i64_w, i32_w]
                  rfl
                refine pure_ (i := 10) (N := some 33) (v := ?_) (a' := ?_) (bA 20 1587) rfl rfl (any_of HT_.out (by kernel_rfl)) (fun _ _ _ h => h) (Or.inl ⟨by rfl, ?_⟩) ?_ ?_
                rotate_left
                · intro w'
                  go_simp
                  with_reducible rfl
                rotate_left
                · simp only [Act.put, List.setIfInBounds_toArray, List.set_cons_zero, List.set_cons_succ, i64_w, i32_w]
                  rfl
                refine pure_ (i := 14) (N := some 37) (v := ?_) (a' := ?_) (bA 20 17971) rfl rfl (any_of HT_.out (by kernel_rfl)) (fun _ _ _ h => h) (Or.inl ⟨by rfl, ?_⟩) ?_ ?_
                rotate_left
                · intro w'
                  go_simp
                  with_reducible rfl
                rotate_left
                · simp only [Act.put, List.setIfInBounds_toArray, List.set_cons_zero, List.set_cons_succ, i64_w, i32_w]
                  rfl
                refine take_ (i := 2) (N := some 25) (v := ?_) (a' := ?_) (bA 20 17975) rfl rfl (take_ofW HT_.out HW_.out (by kernel_rfl)) (fun _ _ _ h => h) (Or.inl ⟨by rfl, ?_⟩) hHeld ?_ ?_
                rotate_left
                · rintro w' ⟨s0, s1, s2, s3, s4, s5, s6, s7, s8, s9, s10⟩
                  go_simp
                  with_reducible rfl
                rotate_left
                · simp only [Act.put, List.setIfInBounds_toArray, List.set_cons_zero, List.set_cons_succ, i64_w, i32_w]
                  rfl
                refine pure_ (i := 3) (N := some 26) (v := ?_) (a' := ?_) (bA 20 17983) rfl rfl (any_of HT_.out (by kernel_rfl)) (fun _ _ _ h => h) (Or.inl ⟨by rfl, ?_⟩) ?_ ?_
                rotate_left
                · intro w'
                  go_simp
                  with_reducible rfl
                rotate_left
                · simp only [Act.put, List.setIfInBounds_toArray, List.set_cons_zero, List.set_cons_succ, i64_w, i32_w]
                  rfl
                refine take_ (i := 6) (N := some 29) (v := ?_) (a' := ?_) (bA 20 18047) rfl rfl (take_ofW HT_.out HW_.out (by kernel_rfl)) (fun _ _ _ h => h) (Or.inl ⟨by rfl, ?_⟩) hHeld ?_ ?_
                rotate_left
                · rintro w' ⟨s0, s1, s2, s3, s4, s5, s6, s7, s8, s9, s10⟩
                  go_simp
                  with_reducible rfl
                rotate_left
                · simp only [Act.put, List.setIfInBounds_toArray, List.set_cons_zero, List.set_cons_succ, i64_w, i32_w]
                  rfl
                refine pure_ (i := 7) (N := some 30) (v := ?_) (a' := ?_) (bA 20 18175) rfl rfl (any_of HT_.out (by kernel_rfl)) (fun _ _ _ h => h) (Or.inl ⟨by rfl, ?_⟩) ?_ ?_
                rotate_left
                · intro w'
                  go_simp
                  with_reducible rfl
                rotate_left
                · simp only [Act.put, List.setIfInBounds_toArray, List.set_cons_zero, List.set_cons_succ, i64_w, i32_w]
                  rfl
                refine pure_ (i := 8) (N := some 31) (v := ?_) (a' := ?_) (bA 20 18431) rfl rfl (any_of HT_.out (by kernel_rfl)) (fun _ _ _ h => h) (Or.inl ⟨by rfl, ?_⟩) ?_ ?_
                rotate_left
                · intro w'
                  go_simp
                  with_reducible rfl
                rotate_left
                · simp only [Act.put, List.setIfInBounds_toArray, List.set_cons_zero, List.set_cons_succ, i64_w, i32_w]
                  rfl
                refine take_ (i := 11) (N := some 34) (v := ?_) (a' := ?_) (bA 20 20479) rfl rfl (take_ofW HT_.out HW_.out (by kernel_rfl)) (fun _ _ _ h => h) (Or.inl ⟨by rfl, ?_⟩) hHeld ?_ ?_
                rotate_left
                · rintro w' ⟨s0, s1, s2, s3, s4, s5, s6, s7, s8, s9, s10⟩
                  go_simp
                  with_reducible rfl
                rotate_left
                · simp only [Act.put, List.setIfInBounds_toArray, List.set_cons_zero, List.set_cons_succ, i64_w, i32_w]
                  rfl
                refine pure_ (i := 12) (N := some 35) (v := ?_) (a' := ?_) (bA 20 24575) rfl rfl (any_of HT_.out (by kernel_rfl)) (fun _ _ _ h => h) (Or.inl ⟨by rfl, ?_⟩) ?_ ?_
                rotate_left
                · intro w'
                  go_simp
                  with_reducible rfl
                rotate_left
                · simp only [Act.put, List.setIfInBounds_toArray, List.set_cons_zero, List.set_cons_succ, i64_w, i32_w]
                  rfl
                refine take_ (i := 13) (N := some 36) (v := ?_) (a' := ?_) (bA 20 32767) rfl rfl (take_ofW HT_.out HW_.out (by kernel_rfl)) (fun _ _ _ h => h) (Or.inl ⟨by rfl, ?_⟩) hHeld ?_ ?_
                rotate_left
                · rintro w' ⟨s0, s1, s2, s3, s4, s5, s6, s7, s8, s9, s10⟩
                  go_simp
                  with_reducible rfl
                rotate_left
                · simp only [Act.put, List.setIfInBounds_toArray, List.set_cons_zero, List.set_cons_succ, i64_w, i32_w]
                  rfl
                refine one_ (i := 15) (N := some 38) (bA 20 65535) rfl rfl (one_of HT_.out (by kernel_rfl)) (by decide) (fun K hK => ?_)
                refine goes_ Try.func34 (by kernel_rfl) rfl #[.agg #[.int .u64 a0_0, .int .u64 a0_1, .int .u64 a0_2, .int .u64 a0_3], .int .i64 x7_1] (by rfl) rfl rfl (by (try simp only [List.map_toArray, List.map_cons, List.map_nil]); first | done | rfl | (simp only [List.length_drop, List.length_take]; rfl)) ?_
                with_reducible refine (perigeeref1_bit.calls a0_0 a0_1 a0_2 a0_3 x7_1 t133 _ A27.out).mono ?_
                rintro e w62 ⟨rfl, hb⟩
                refine ⟨_, rfl, ?_⟩
                have n0_ := Aside0.mk (Kd.R_below (by (with_reducible repeat (first | apply Kd.R_alloc | apply Kd.R_drewN | apply Kd.R_drew)); exact HO_6.out) hb)
                have n1_ := Aside0.mk (blk_below (g := gb122) (o := .cells #[.int .u64 a0_0, .int .u64 a0_1, .int .u64 a0_2, .int .u64 a0_3] 26 (0, 0)) (by (with_reducible repeat (first | refine blk_drewN ?_ _ | refine blk_drew ?_ | refine blk_alloc ?_ _)); exact BK122.out) hb)
                have n2_ := Aside0.mk (blk_below (g := gb123) (o := .cells #[.int .u64 a1_0, .int .u64 a1_1] 24 (0, 0)) (by (with_reducible repeat (first | refine blk_drewN ?_ _ | refine blk_drew ?_ | refine blk_alloc ?_ _)); exact BK123.out) hb)
                have n3_ := Aside0.mk (blk_below (g := gb124) (o := .cells #[.int .u64 0, .int .u64 0, .int .u64 0, .int .u64 0, .int .u64 0, .int .u64 0, .bool false] 30 (0, 0)) (by (with_reducible repeat (first | refine blk_drewN ?_ _ | refine blk_drew ?_ | refine blk_alloc ?_ _)); exact BK124.out) hb)
                have n4_ := Aside0.mk (blk_below (g := gb125) (o := .cells #[.int .u64 0, .int .u64 0, .int .u64 0, .int .u64 0, .int .u64 x126004_1, .int .u64 x126005_1, .bool true] 30 (0, 0)) (by (with_reducible repeat (first | refine blk_drewN ?_ _ | refine blk_drew ?_ | refine blk_alloc ?_ _)); exact BK125.out) hb)
                have n5_ := Aside0.mk (below_step (by repeat (first | (with_reducible first | exact HB.out | apply below_alloc | apply pw_below_drewN | apply below_drew1 | refine below_set ?_ GE122.out | refine below_set ?_ GE123.out | refine below_set ?_ GE124.out | refine below_set ?_ GE125.out) | exact HB.out)) hb)
                clear HO_6
                clear BK122
                clear BK123
                clear BK124
                clear BK125
                clear HB
                have HO_6 := n0_
                have BK122 := n1_
                have BK123 := n2_
                have BK124 := n3_
                have BK125 := n4_
                have HB := n5_
                clear n0_ n1_ n2_ n3_ n4_ n5_
                (try clear hb)
                (try clear hb2)
                (try clear hk)
                (try clear hi)
                refine hK.out _ _ ⟨(blk_cell BK125.out 0).trans rfl, (blk_cell BK125.out 1).trans rfl, (blk_cell BK125.out 2).trans rfl, (blk_cell BK125.out 3).trans rfl, (blk_cell BK125.out 4).trans rfl, (blk_cell BK125.out 5).trans rfl, (blk_cell BK125.out 6).trans rfl, (blk_cell BK122.out 0).trans rfl, (blk_cell BK122.out 1).trans rfl, (blk_cell BK122.out 2).trans rfl, (blk_cell BK122.out 3).trans rfl⟩ (fun hHeld => ?_)
                clear hK K
                refine norm_ (a' := ?_) ?_ ?_
                rotate_left
                · show Act.put _ (some 38) _ = _
                  simp only [Act.put, List.setIfInBounds_toArray, List.set_cons_zero, List.set_cons_succ, i64_w, i32_w]
                  rfl
                refine pure_ (i := 16) (N := some 39) (v := ?_) (a' := ?_) (bA 20 131071) rfl rfl (any_of HT_.out (by kernel_rfl)) (fun _ _ _ h => h) (Or.inl ⟨by rfl, ?_⟩) ?_ ?_
                rotate_left
                · intro w'
                  go_simp
                  with_reducible rfl
                rotate_left
                · simp only [Act.put, List.setIfInBounds_toArray, List.set_cons_zero, List.set_cons_succ, i64_w, i32_w]
                  rfl
                refine pure_ (i := 17) (N := some 40) (v := ?_) (a' := ?_) (bA 20 262143) rfl rfl (any_of HT_.out (by kernel_rfl)) (fun _ _ _ h => h) (Or.inl ⟨by rfl, ?_⟩) ?_ ?_
                rotate_left
                · intro w'
                  go_simp
                  with_reducible rfl
                rotate_left
                · simp only [Act.put, List.setIfInBounds_toArray, List.set_cons_zero, List.set_cons_succ, i64_w, i32_w]
                  rfl
                refine pure_ (i := 18) (N := some 41) (v := ?_) (a' := ?_) (bA 20 524287) rfl rfl (any_of HT_.out (by kernel_rfl)) (fun _ _ _ h => h) (Or.inl ⟨by rfl, ?_⟩) ?_ ?_
                rotate_left
                · intro w'
                  go_simp
                  with_reducible rfl
                rotate_left
                · simp only [Act.put, List.setIfInBounds_toArray, List.set_cons_zero, List.set_cons_succ, i64_w, i32_w]
                  rfl
                refine last_ (i := 19) (N := none) (bA 20 1048575) rfl rfl (one_of HT_.out (by kernel_rfl)) (by decide) (fun K hK => ?_)
                have hs63 : w62.cell? ⟨gb125, 4, none⟩ = some (.int .u64 x126004_1) := (blk_cell BK125.out 4).trans rfl
                have hfs63 := blk_frozen BK125.out 4
                have hns63_0 := NB122_125.out
                have hns63_1 := NB123_125.out
                have hns63_2 := NB124_125.out
                have hms63_0 := NB125_122.out
                have hms63_1 := NB125_123.out
                have hms63_2 := NB125_124.out
                have hs64 : w62.cell? ⟨gb125, 5, none⟩ = some (.int .u64 x126005_1) := (blk_cell BK125.out 5).trans rfl
                have hfs64 := blk_frozen BK125.out 5
                have hns64_0 := NB122_125.out
                have hns64_1 := NB123_125.out
                have hns64_2 := NB124_125.out
                have hms64_0 := NB125_122.out
                have hms64_1 := NB125_123.out
                have hms64_2 := NB125_124.out
                refine skip_ (w1 := ?_) (by rfl) rfl ?_ ?_
                rotate_left
                · go_simp
                  rfl
                refine hK.out _ _ ?_
                clear hK K
                refine done_ (done_of HT_.out (by kernel_rfl)) ?_
                have hcz65_0 : w62.cell? ⟨gb125, 0, none⟩ = some (.int .u64 0) := (blk_cell BK125.out 0).trans rfl
                have hcz65_1 : w62.cell? ⟨gb125, 1, none⟩ = some (.int .u64 0) := (blk_cell BK125.out 1).trans rfl
                have hcz65_2 : w62.cell? ⟨gb125, 2, none⟩ = some (.int .u64 0) := (blk_cell BK125.out 2).trans rfl
                have hcz65_3 : w62.cell? ⟨gb125, 3, none⟩ = some (.int .u64 0) := (blk_cell BK125.out 3).trans rfl
                have hcz65_4 : w62.cell? ⟨gb125, 4, none⟩ = some (.int .u64 x126004_1) := (blk_cell BK125.out 4).trans rfl
                have hcz65_5 : w62.cell? ⟨gb125, 5, none⟩ = some (.int .u64 x126005_1) := (blk_cell BK125.out 5).trans rfl
                have hcz65_6 : w62.cell? ⟨gb125, 6, none⟩ = some (.bool true) := (blk_cell BK125.out 6).trans rfl
                have hfz65_0 := blk_frozen BK125.out 0
                have hfz65_1 := blk_frozen BK125.out 1
                have hfz65_2 := blk_frozen BK125.out 2
                have hfz65_3 := blk_frozen BK125.out 3
                have hfz65_4 := blk_frozen BK125.out 4
                have hfz65_5 := blk_frozen BK125.out 5
                have hfz65_6 := blk_frozen BK125.out 6
                have hnb66 := NB123_122.out
                have hnc66 := NB122_123.out
                have hnb67 := NB123_124.out
                have hnc67 := NB124_123.out
                have hcz68_0 : w62.cell? ⟨gb123, 0, none⟩ = some (.int .u64 a1_0) := (blk_cell BK123.out 0).trans rfl
                have hcz68_1 : w62.cell? ⟨gb123, 1, none⟩ = some (.int .u64 a1_1) := (blk_cell BK123.out 1).trans rfl
                have hfz68_0 := blk_frozen BK123.out 0
                have hfz68_1 := blk_frozen BK123.out 1
                try go_wp2_with (first | (go_at_call 35; (with_reducible refine (perigeeref1_Less.calls (Go.bits .or .u64 (IntKind.u64.wrap (x126004_1 * 2)) (x126005_1 / 9223372036854775808)) (Go.bits .or .u64 (IntKind.u64.wrap (x126005_1 * 2)) t133) a1_0 a1_1 true _ A55.out).mono ?_); rintro e w69 ⟨rfl, hb⟩; have n0_ := Aside0.mk (Kd.R_below (by (with_reducible repeat (first | apply Kd.R_alloc | apply Kd.R_drewN | apply Kd.R_drew)); exact (Kd.R_mono (Kd.R_far (p := ⟨gb125, 5, none⟩) (Kd.R_far (p := ⟨gb125, 4, none⟩) (Kd.R_types HO_6.out BK125.out (by decide)) (fun _ hk => hk.2) (.int .u64 (Go.bits .or .u64 (IntKind.u64.wrap (x126004_1 * 2)) (x126005_1 / 9223372036854775808)))) (fun _ hk => hk.2) (.int .u64 (Go.bits .or .u64 (IntKind.u64.wrap (x126005_1 * 2)) t133))) (fun _ h_ => h_.1))) hb); have n1_ := Aside0.mk (blk_below (g := gb122) (o := .cells #[.int .u64 a0_0, .int .u64 a0_1, .int .u64 a0_2, .int .u64 a0_3] 26 (0, 0)) (by (with_reducible repeat (first | refine blk_drewN ?_ _ | refine blk_drew ?_ | refine blk_alloc ?_ _)); refine blk_far ?_ NB122_125.out _; (with_reducible repeat (first | refine blk_drewN ?_ _ | refine blk_drew ?_ | refine blk_alloc ?_ _)); refine blk_far ?_ NB122_125.out _; (with_reducible repeat (first | refine blk_drewN ?_ _ | refine blk_drew ?_ | refine blk_alloc ?_ _)); exact BK122.out) hb); have n2_ := Aside0.mk (blk_below (g := gb123) (o := .cells #[.int .u64 a1_0, .int .u64 a1_1] 24 (0, 0)) (by (with_reducible repeat (first | refine blk_drewN ?_ _ | refine blk_drew ?_ | refine blk_alloc ?_ _)); refine blk_far ?_ NB123_125.out _; (with_reducible repeat (first | refine blk_drewN ?_ _ | refine blk_drew ?_ | refine blk_alloc ?_ _)); refine blk_far ?_ NB123_125.out _; (with_reducible repeat (first | refine blk_drewN ?_ _ | refine blk_drew ?_ | refine blk_alloc ?_ _)); exact BK123.out) hb); have n3_ := Aside0.mk (blk_below (g := gb124) (o := .cells #[.int .u64 0, .int .u64 0, .int .u64 0, .int .u64 0, .int .u64 0, .int .u64 0, .bool false] 30 (0, 0)) (by (with_reducible repeat (first | refine blk_drewN ?_ _ | refine blk_drew ?_ | refine blk_alloc ?_ _)); refine blk_far ?_ NB124_125.out _; (with_reducible repeat (first | refine blk_drewN ?_ _ | refine blk_drew ?_ | refine blk_alloc ?_ _)); refine blk_far ?_ NB124_125.out _; (with_reducible repeat (first | refine blk_drewN ?_ _ | refine blk_drew ?_ | refine blk_alloc ?_ _)); exact BK124.out) hb); have n4_ := Aside0.mk (blk_below (g := gb125) (o := .cells #[.int .u64 0, .int .u64 0, .int .u64 0, .int .u64 0, .int .u64 (Go.bits .or .u64 (IntKind.u64.wrap (x126004_1 * 2)) (x126005_1 / 9223372036854775808)), .int .u64 (Go.bits .or .u64 (IntKind.u64.wrap (x126005_1 * 2)) t133), .bool true] 30 (0, 0)) (by (with_reducible repeat (first | refine blk_drewN ?_ _ | refine blk_drew ?_ | refine blk_alloc ?_ _)); refine blk_put (cs := #[.int .u64 0, .int .u64 0, .int .u64 0, .int .u64 0, .int .u64 (Go.bits .or .u64 (IntKind.u64.wrap (x126004_1 * 2)) (x126005_1 / 9223372036854775808)), .int .u64 x126005_1, .bool true]) ?_ 5 _ rfl; (with_reducible repeat (first | refine blk_drewN ?_ _ | refine blk_drew ?_ | refine blk_alloc ?_ _)); refine blk_put (cs := #[.int .u64 0, .int .u64 0, .int .u64 0, .int .u64 0, .int .u64 x126004_1, .int .u64 x126005_1, .bool true]) ?_ 4 _ rfl; (with_reducible repeat (first | refine blk_drewN ?_ _ | refine blk_drew ?_ | refine blk_alloc ?_ _)); exact BK125.out) hb); have n5_ := Aside0.mk (below_step (by repeat (first | (with_reducible first | exact HB.out | apply below_alloc | apply pw_below_drewN | apply below_drew1 | refine below_set ?_ GE122.out | refine below_set ?_ GE123.out | refine below_set ?_ GE124.out | refine below_set ?_ GE125.out) | exact HB.out)) hb); clear HO_6; clear BK122; clear BK123; clear BK124; clear BK125; clear HB; have HO_6 := n0_; have BK122 := n1_; have BK123 := n2_; have BK124 := n3_; have BK125 := n4_; have HB := n5_; clear n0_ n1_ n2_ n3_ n4_ n5_; (try clear hb); (try clear hb2); (try clear hk); (try clear hi)))
                go_roundg k1
                case measure => have := HK1.out; omega
                case rel => exact ⟨(x6_1), (wrap64 (x7_1 - 1)), (Go.bits .or .u64 (IntKind.u64.wrap (x126004_1 * 2)) (x126005_1 / 9223372036854775808)), (Go.bits .or .u64 (IntKind.u64.wrap (x126005_1 * 2)) t133), (by first | rfl | (simp; done) | (simp [*]; done)), H', ⟨by have := HK1.out; omega⟩, ⟨by (with_reducible repeat (first | apply Kd.R_alloc | apply Kd.R_drewN | apply Kd.R_drew)); exact HO_6.out⟩, ⟨by (with_reducible repeat (first | refine blk_drewN ?_ _ | refine blk_drew ?_ | refine blk_alloc ?_ _)); exact BK122.out⟩, ⟨by (with_reducible repeat (first | refine blk_drewN ?_ _ | refine blk_drew ?_ | refine blk_alloc ?_ _)); exact BK123.out⟩, ⟨by (with_reducible repeat (first | refine blk_drewN ?_ _ | refine blk_drew ?_ | refine blk_alloc ?_ _)); exact BK124.out⟩, ⟨by (with_reducible repeat (first | refine blk_drewN ?_ _ | refine blk_drew ?_ | refine blk_alloc ?_ _)); exact BK125.out⟩, ⟨by repeat (first | (with_reducible first | exact HB.out | apply below_alloc | apply pw_below_drewN | apply below_drew1 | refine below_set ?_ GE122.out | refine below_set ?_ GE123.out | refine below_set ?_ GE124.out | refine below_set ?_ GE125.out) | exact HB.out)⟩⟩
              · replace c56 := Bool.eq_false_iff.mpr c56
                subst c56
                have H1 : ((perigeeref1_SubTwo.f (Go.bits .or .u64 (IntKind.u64.wrap (x126004_1 * 2)) (x126005_1 / 9223372036854775808)) (Go.bits .or .u64 (IntKind.u64.wrap (x126005_1 * 2)) t133) a1_0 a1_1).bind fun bt140 => (if 0 ≤ (wrap64 (Int.tdiv x7_1 64)) then (if (wrap64 (Int.tdiv x7_1 64)) < (x6_1.length : Int) then (if 0 ≤ (Int.tmod x7_1 64) then (perigeeref1_DivFour.l0 k1 (x6_1.set ((wrap64 (Int.tdiv x7_1 64)) : Int).toNat (Go.bits .or .u64 (rd x6_1 (wrap64 (Int.tdiv x7_1 64))) (shl .u64 1 (Int.tmod x7_1 64)))) (wrap64 (x7_1 - 1)) a0_0 a0_1 a0_2 a0_3 a1_0 a1_1 0 0 0 0 bt140.1 bt140.2.1 true) else (none)) else (none)) else (none))) = some (r1, r2, r3, r4, r5, r6, r7) := by rw [if_neg (show ¬ (false = true) by decide)] at H; exact H
                clear H
                have H := H1
                clear H1
                replace H := Option.bind_eq_some_iff.mp H
                obtain ⟨⟨t140, t141, t142⟩, A700, H⟩ := H
                replace H : (if 0 ≤ (wrap64 (Int.tdiv x7_1 64)) then (if (wrap64 (Int.tdiv x7_1 64)) < (x6_1.length : Int) then (if 0 ≤ (Int.tmod x7_1 64) then (perigeeref1_DivFour.l0 k1 (x6_1.set ((wrap64 (Int.tdiv x7_1 64)) : Int).toNat (Go.bits .or .u64 (rd x6_1 (wrap64 (Int.tdiv x7_1 64))) (shl .u64 1 (Int.tmod x7_1 64)))) (wrap64 (x7_1 - 1)) a0_0 a0_1 a0_2 a0_3 a1_0 a1_1 0 0 0 0 t140 t141 true) else (none)) else (none)) else (none)) = some (r1, r2, r3, r4, r5, r6, r7) := H
                have A70 := Aside0.mk A700
                clear A700
                obtain ⟨ji71, hji71⟩ : ∃ j_ : Int, (wrap64 (Int.tdiv x7_1 64)) = j_ := ⟨_, rfl⟩
                replace H : (if 0 ≤ (ji71) then (if (ji71) < (x6_1.length : Int) then (if 0 ≤ (Int.tmod x7_1 64) then (perigeeref1_DivFour.l0 k1 (x6_1.set ((ji71) : Int).toNat (Go.bits .or .u64 (rd x6_1 (ji71)) (shl .u64 1 (Int.tmod x7_1 64)))) (wrap64 (x7_1 - 1)) a0_0 a0_1 a0_2 a0_3 a1_0 a1_1 0 0 0 0 t140 t141 true) else (none)) else (none)) else (none)) = some (r1, r2, r3, r4, r5, r6, r7) := by first | (rw [hji71] at H; exact H) | (simp only [hji71] at H ⊢; exact H)
                (try rw [hji71] at A27)
                (try rw [hji71] at A55)
                (try rw [hji71] at A70)
                have hji71w : (IntKind.i64.wrap (Int.tdiv x7_1 64)) = ji71 := (i64_w _).trans hji71
                by_cases c72 : 0 ≤ (ji71)
                · rw [if_pos c72] at H
                  have c72b0 : decide (0 ≤ (ji71)) = true := decide_eq_true c72
                  clear c72
                  by_cases c73 : (ji71) < (x6_1.length : Int)
                  · rw [if_pos c73] at H
                    have c73b0 : decide ((ji71) < (x6_1.length : Int)) = true := decide_eq_true c73
                    clear c73
                    obtain ⟨ji74, hji74⟩ : ∃ j_ : Int, (Int.tmod x7_1 64) = j_ := ⟨_, rfl⟩
                    replace H : (if 0 ≤ (ji74) then (perigeeref1_DivFour.l0 k1 (x6_1.set ((ji71) : Int).toNat (Go.bits .or .u64 (rd x6_1 (ji71)) (shl .u64 1 (ji74)))) (wrap64 (x7_1 - 1)) a0_0 a0_1 a0_2 a0_3 a1_0 a1_1 0 0 0 0 t140 t141 true) else (none)) = some (r1, r2, r3, r4, r5, r6, r7) := by first | (rw [hji74] at H; exact H) | (simp only [hji74] at H ⊢; exact H)
                    (try rw [hji74] at A27)
                    (try rw [hji74] at A55)
                    (try rw [hji74] at A70)
                    by_cases c75 : 0 ≤ (ji74)
                    · rw [if_pos c75] at H
                      have c75b0 := eq_true c75
                      have c75b1 : decide (0 ≤ (ji74)) = true := decide_eq_true c75
                      clear c75
                      obtain ⟨ji76, hji76⟩ : ∃ j_ : Int, (shl .u64 1 (ji74)) = j_ := ⟨_, rfl⟩
                      replace H : (perigeeref1_DivFour.l0 k1 (x6_1.set ((ji71) : Int).toNat (Go.bits .or .u64 (rd x6_1 (ji71)) (ji76))) (wrap64 (x7_1 - 1)) a0_0 a0_1 a0_2 a0_3 a1_0 a1_1 0 0 0 0 t140 t141 true) = some (r1, r2, r3, r4, r5, r6, r7) := by first | (rw [hji76] at H; exact H) | (simp only [hji76] at H ⊢; exact H)
                      (try rw [hji76] at A27)
                      (try rw [hji76] at A55)
                      (try rw [hji76] at A70)
                      have hji76_ : (IntKind.u64.wrap (1 * 2 ^ min (ji74).toNat 64)) = ji76 := hji76
                      have hji76z : (ji74) ≤ 64 → (IntKind.u64.wrap (1 * 2 ^ (ji74).toNat)) = ji76 := shl_small hji76
                      have hji76u : (IntKind.u64.wrap (2 ^ min (ji74).toNat 64)) = ji76 := by have h_ := hji76_; rw [Int.one_mul] at h_; exact h_
                      have hji76v : (ji74) ≤ 64 → (IntKind.u64.wrap (2 ^ (ji74).toNat)) = ji76 := fun hle_ => by have h_ := hji76z hle_; rw [Int.one_mul] at h_; exact h_
                      obtain ⟨y144, hy144⟩ : ∃ y_ : List Int, y_ = (x6_1.set ((ji71) : Int).toNat (Go.bits .or .u64 (rd x6_1 (ji71)) (ji76))) := ⟨_, rfl⟩
                      replace H : (perigeeref1_DivFour.l0 k1 y144 (wrap64 (x7_1 - 1)) a0_0 a0_1 a0_2 a0_3 a1_0 a1_1 0 0 0 0 t140 t141 true) = some (r1, r2, r3, r4, r5, r6, r7) := by first | (rw [hy144]; with_reducible exact H) | (have H2_ := (Option.bind_some _ _).symm.trans H; rw [hy144]; with_reducible exact H2_) | (have H2_ := (Option.bind_some _ _).symm.trans H; with_reducible exact H2_) | with_reducible exact H | (rw [hy144]; exact H) | exact H
                      have Ny144 := Aside0.mk hy144
                      clear hy144
                      have H' := Aside0.mk H
                      clear H
                      have hnb78 := NB125_122.out
                      have hnc78 := NB122_125.out
                      have hnb79 := NB125_123.out
                      have hnc79 := NB123_125.out
                      have hnb80 := NB125_124.out
                      have hnc80 := NB124_125.out
                      have hcz81_0 : wr.cell? ⟨gb125, 0, none⟩ = some (.int .u64 0) := (blk_cell BK125.out 0).trans rfl
                      have hcz81_1 : wr.cell? ⟨gb125, 1, none⟩ = some (.int .u64 0) := (blk_cell BK125.out 1).trans rfl
                      have hcz81_2 : wr.cell? ⟨gb125, 2, none⟩ = some (.int .u64 0) := (blk_cell BK125.out 2).trans rfl
                      have hcz81_3 : wr.cell? ⟨gb125, 3, none⟩ = some (.int .u64 0) := (blk_cell BK125.out 3).trans rfl
                      have hcz81_4 : wr.cell? ⟨gb125, 4, none⟩ = some (.int .u64 x126004_1) := (blk_cell BK125.out 4).trans rfl
                      have hcz81_5 : wr.cell? ⟨gb125, 5, none⟩ = some (.int .u64 x126005_1) := (blk_cell BK125.out 5).trans rfl
                      have hcz81_6 : wr.cell? ⟨gb125, 6, none⟩ = some (.bool true) := (blk_cell BK125.out 6).trans rfl
                      have hfz81_0 := blk_frozen BK125.out 0
                      have hfz81_1 := blk_frozen BK125.out 1
                      have hfz81_2 := blk_frozen BK125.out 2
                      have hfz81_3 := blk_frozen BK125.out 3
                      have hfz81_4 := blk_frozen BK125.out 4
                      have hfz81_5 := blk_frozen BK125.out 5
                      have hfz81_6 := blk_frozen BK125.out 6
                      try go_wp2
                      have n0_ := Aside0.mk (Kd.R_drew HO_6.out)
                      have n1_ := Aside0.mk (blk_drew BK122.out)
                      have n2_ := Aside0.mk (blk_drew BK123.out)
                      have n3_ := Aside0.mk (blk_drew BK124.out)
                      have n4_ := Aside0.mk (blk_drew BK125.out)
                      have n5_ := Aside0.mk (below_drew1 HB.out)
                      clear HO_6
                      clear BK122
                      clear BK123
                      clear BK124
                      clear BK125
                      clear HB
                      have HO_6 := n0_
                      have BK122 := n1_
                      have BK123 := n2_
                      have BK124 := n3_
                      have BK125 := n4_
                      have HB := n5_
                      clear n0_ n1_ n2_ n3_ n4_ n5_
                      refine start_ (n := 20) (S := fun w' => w'.cell? ⟨gb125, 0, none⟩ = some (.int .u64 0) ∧ w'.cell? ⟨gb125, 1, none⟩ = some (.int .u64 0) ∧ w'.cell? ⟨gb125, 2, none⟩ = some (.int .u64 0) ∧ w'.cell? ⟨gb125, 3, none⟩ = some (.int .u64 0) ∧ w'.cell? ⟨gb125, 4, none⟩ = some (.int .u64 x126004_1) ∧ w'.cell? ⟨gb125, 5, none⟩ = some (.int .u64 x126005_1) ∧ w'.cell? ⟨gb125, 6, none⟩ = some (.bool true) ∧ w'.cell? ⟨gb122, 0, none⟩ = some (.int .u64 a0_0) ∧ w'.cell? ⟨gb122, 1, none⟩ = some (.int .u64 a0_1) ∧ w'.cell? ⟨gb122, 2, none⟩ = some (.int .u64 a0_2) ∧ w'.cell? ⟨gb122, 3, none⟩ = some (.int .u64 a0_3)) (ds := [19]) (bA 20 0) (by kernel_rfl) rfl rfl ⟨(blk_cell BK125.out 0).trans rfl, (blk_cell BK125.out 1).trans rfl, (blk_cell BK125.out 2).trans rfl, (blk_cell BK125.out 3).trans rfl, (blk_cell BK125.out 4).trans rfl, (blk_cell BK125.out 5).trans rfl, (blk_cell BK125.out 6).trans rfl, (blk_cell BK122.out 0).trans rfl, (blk_cell BK122.out 1).trans rfl, (blk_cell BK122.out 2).trans rfl, (blk_cell BK122.out 3).trans rfl⟩ (fun hHeld => ?_); refine with_tabW perigeeref1_DivFour.tab9 perigeeref1_DivFour.bits9 (fun HT_ HW_ => ?_)
                      generalize wr.drew = w82 at HO_6 BK122 BK123 BK124 BK125 HB hHeld ⊢
                      refine pure_ (i := 0) (N := some 23) (v := ?_) (a' := ?_) (bA 20 1) rfl rfl (any_of HT_.out (by kernel_rfl)) (fun _ _ _ h => h) (Or.inl ⟨by rfl, ?_⟩) ?_ ?_
                      rotate_left
                      · intro w'
                        go_simp
                        with_reducible rfl
                      rotate_left
                      · simp only [Act.put, List.setIfInBounds_toArray, List.set_cons_zero, List.set_cons_succ, i64_w, i32_w]
                        rfl
                      refine pure_ (i := 1) (N := some 24) (v := ?_) (a' := ?_) (bA 20 3) rfl rfl (any_of HT_.out (by kernel_rfl)) (fun _ _ _ h => h) (Or.inl ⟨by rfl, ?_⟩) ?_ ?_
                      rotate_left
                      · intro w'
                        go_simp
                        with_reducible rfl
                      rotate_left
                      · simp only [Act.put, List.setIfInBounds_toArray, List.set_cons_zero, List.set_cons_succ, i64_w, i32_w]
                        rfl
                      refine pure_ (i := 4) (N := some 27) (v := ?_) (a' := ?_) (bA 20 19) rfl rfl (any_of HT_.out (by kernel_rfl)) (fun _ _ _ h => h) (Or.inl ⟨by rfl, ?_⟩) ?_ ?_
                      rotate_left
                      · intro w'
                        go_simp
                        with_reducible rfl
                      rotate_left
                      · simp only [Act.put, List.setIfInBounds_toArray, List.set_cons_zero, List.set_cons_succ, i64_w, i32_w]
                        rfl
                      refine pure_ (i := 5) (N := some 28) (v := ?_) (a' := ?_) (bA 20 51) rfl rfl (any_of HT_.out (by kernel_rfl)) (fun _ _ _ h => h) (Or.inl ⟨by rfl, ?_⟩) ?_ ?_
                      rotate_left
                      · intro w'
                        go_simp
                        with_reducible rfl
                      rotate_left
                      · simp only [Act.put, List.setIfInBounds_toArray, List.set_cons_zero, List.set_cons_succ, i64_w, i32_w]
                        rfl
                      refine pure_ (i := 9) (N := some 32) (v := ?_) (a' := ?_) (bA 20 563) rfl rfl (any_of HT_.out (by kernel_rfl)) (fun _ _ _ h => h) (Or.inl ⟨by rfl, ?_⟩) ?_ ?_
                      rotate_left
                      · intro w'
                        go_simp
                        with_reducible rfl
                      rotate_left
                      · simp only [Act.put, List.setIfInBounds_toArray, List.set_cons_zero, List.set_cons_succ, i64_w, i32_w]
                        rfl
                      refine pure_ (i := 10) (N := some 33) (v := ?_) (a' := ?_) (bA 20 1587) rfl rfl (any_of HT_.out (by kernel_rfl)) (fun _ _ _ h => h) (Or.inl ⟨by rfl, ?_⟩) ?_ ?_
                      rotate_left
                      · intro w'
                        go_simp
                        with_reducible rfl
                      rotate_left
                      · simp only [Act.put, List.setIfInBounds_toArray, List.set_cons_zero, List.set_cons_succ, i64_w, i32_w]
                        rfl
                      refine pure_ (i := 14) (N := some 37) (v := ?_) (a' := ?_) (bA 20 17971) rfl rfl (any_of HT_.out (by kernel_rfl)) (fun _ _ _ h => h) (Or.inl ⟨by rfl, ?_⟩) ?_ ?_
                      rotate_left
                      · intro w'
                        go_simp
                        with_reducible rfl
                      rotate_left
                      · simp only [Act.put, List.setIfInBounds_toArray, List.set_cons_zero, List.set_cons_succ, i64_w, i32_w]
                        rfl
                      refine take_ (i := 2) (N := some 25) (v := ?_) (a' := ?_) (bA 20 17975) rfl rfl (take_ofW HT_.out HW_.out (by kernel_rfl)) (fun _ _ _ h => h) (Or.inl ⟨by rfl, ?_⟩) hHeld ?_ ?_
                      rotate_left
                      · rintro w' ⟨s0, s1, s2, s3, s4, s5, s6, s7, s8, s9, s10⟩
                        go_simp
                        with_reducible rfl
                      rotate_left
                      · simp only [Act.put, List.setIfInBounds_toArray, List.set_cons_zero, List.set_cons_succ, i64_w, i32_w]
                        rfl
                      refine pure_ (i := 3) (N := some 26) (v := ?_) (a' := ?_) (bA 20 17983) rfl rfl (any_of HT_.out (by kernel_rfl)) (fun _ _ _ h => h) (Or.inl ⟨by rfl, ?_⟩) ?_ ?_
                      rotate_left
                      · intro w'
                        go_simp
                        with_reducible rfl
                      rotate_left
                      · simp only [Act.put, List.setIfInBounds_toArray, List.set_cons_zero, List.set_cons_succ, i64_w, i32_w]
                        rfl
                      refine take_ (i := 6) (N := some 29) (v := ?_) (a' := ?_) (bA 20 18047) rfl rfl (take_ofW HT_.out HW_.out (by kernel_rfl)) (fun _ _ _ h => h) (Or.inl ⟨by rfl, ?_⟩) hHeld ?_ ?_
                      rotate_left
                      · rintro w' ⟨s0, s1, s2, s3, s4, s5, s6, s7, s8, s9, s10⟩
                        go_simp
                        with_reducible rfl
                      rotate_left
                      · simp only [Act.put, List.setIfInBounds_toArray, List.set_cons_zero, List.set_cons_succ, i64_w, i32_w]
                        rfl
                      refine pure_ (i := 7) (N := some 30) (v := ?_) (a' := ?_) (bA 20 18175) rfl rfl (any_of HT_.out (by kernel_rfl)) (fun _ _ _ h => h) (Or.inl ⟨by rfl, ?_⟩) ?_ ?_
                      rotate_left
                      · intro w'
                        go_simp
                        with_reducible rfl
                      rotate_left
                      · simp only [Act.put, List.setIfInBounds_toArray, List.set_cons_zero, List.set_cons_succ, i64_w, i32_w]
                        rfl
                      refine pure_ (i := 8) (N := some 31) (v := ?_) (a' := ?_) (bA 20 18431) rfl rfl (any_of HT_.out (by kernel_rfl)) (fun _ _ _ h => h) (Or.inl ⟨by rfl, ?_⟩) ?_ ?_
                      rotate_left
                      · intro w'
                        go_simp
                        with_reducible rfl
                      rotate_left
                      · simp only [Act.put, List.setIfInBounds_toArray, List.set_cons_zero, List.set_cons_succ, i64_w, i32_w]
                        rfl
                      refine take_ (i := 11) (N := some 34) (v := ?_) (a' := ?_) (bA 20 20479) rfl rfl (take_ofW HT_.out HW_.out (by kernel_rfl)) (fun _ _ _ h => h) (Or.inl ⟨by rfl, ?_⟩) hHeld ?_ ?_
                      rotate_left
                      · rintro w' ⟨s0, s1, s2, s3, s4, s5, s6, s7, s8, s9, s10⟩
                        go_simp
                        with_reducible rfl
                      rotate_left
                      · simp only [Act.put, List.setIfInBounds_toArray, List.set_cons_zero, List.set_cons_succ, i64_w, i32_w]
                        rfl
                      refine pure_ (i := 12) (N := some 35) (v := ?_) (a' := ?_) (bA 20 24575) rfl rfl (any_of HT_.out (by kernel_rfl)) (fun _ _ _ h => h) (Or.inl ⟨by rfl, ?_⟩) ?_ ?_
                      rotate_left
                      · intro w'
                        go_simp
                        with_reducible rfl
                      rotate_left
                      · simp only [Act.put, List.setIfInBounds_toArray, List.set_cons_zero, List.set_cons_succ, i64_w, i32_w]
                        rfl
                      refine take_ (i := 13) (N := some 36) (v := ?_) (a' := ?_) (bA 20 32767) rfl rfl (take_ofW HT_.out HW_.out (by kernel_rfl)) (fun _ _ _ h => h) (Or.inl ⟨by rfl, ?_⟩) hHeld ?_ ?_
                      rotate_left
                      · rintro w' ⟨s0, s1, s2, s3, s4, s5, s6, s7, s8, s9, s10⟩
                        go_simp
                        with_reducible rfl
                      rotate_left
                      · simp only [Act.put, List.setIfInBounds_toArray, List.set_cons_zero, List.set_cons_succ, i64_w, i32_w]
                        rfl
                      refine one_ (i := 15) (N := some 38) (bA 20 65535) rfl rfl (one_of HT_.out (by kernel_rfl)) (by decide) (fun K hK => ?_)
                      refine goes_ Try.func34 (by kernel_rfl) rfl #[.agg #[.int .u64 a0_0, .int .u64 a0_1, .int .u64 a0_2, .int .u64 a0_3], .int .i64 x7_1] (by rfl) rfl rfl (by (try simp only [List.map_toArray, List.map_cons, List.map_nil]); first | done | rfl | (simp only [List.length_drop, List.length_take]; rfl)) ?_
                      with_reducible refine (perigeeref1_bit.calls a0_0 a0_1 a0_2 a0_3 x7_1 t133 _ A27.out).mono ?_
                      rintro e w83 ⟨rfl, hb⟩
                      refine ⟨_, rfl, ?_⟩
                      have n0_ := Aside0.mk (Kd.R_below (by (with_reducible repeat (first | apply Kd.R_alloc | apply Kd.R_drewN | apply Kd.R_drew)); exact HO_6.out) hb)
                      have n1_ := Aside0.mk (blk_below (g := gb122) (o := .cells #[.int .u64 a0_0, .int .u64 a0_1, .int .u64 a0_2, .int .u64 a0_3] 26 (0, 0)) (by (with_reducible repeat (first | refine blk_drewN ?_ _ | refine blk_drew ?_ | refine blk_alloc ?_ _)); exact BK122.out) hb)
                      have n2_ := Aside0.mk (blk_below (g := gb123) (o := .cells #[.int .u64 a1_0, .int .u64 a1_1] 24 (0, 0)) (by (with_reducible repeat (first | refine blk_drewN ?_ _ | refine blk_drew ?_ | refine blk_alloc ?_ _)); exact BK123.out) hb)
                      have n3_ := Aside0.mk (blk_below (g := gb124) (o := .cells #[.int .u64 0, .int .u64 0, .int .u64 0, .int .u64 0, .int .u64 0, .int .u64 0, .bool false] 30 (0, 0)) (by (with_reducible repeat (first | refine blk_drewN ?_ _ | refine blk_drew ?_ | refine blk_alloc ?_ _)); exact BK124.out) hb)
                      have n4_ := Aside0.mk (blk_below (g := gb125) (o := .cells #[.int .u64 0, .int .u64 0, .int .u64 0, .int .u64 0, .int .u64 x126004_1, .int .u64 x126005_1, .bool true] 30 (0, 0)) (by (with_reducible repeat (first | refine blk_drewN ?_ _ | refine blk_drew ?_ | refine blk_alloc ?_ _)); exact BK125.out) hb)
                      have n5_ := Aside0.mk (below_step (by repeat (first | (with_reducible first | exact HB.out | apply below_alloc | apply pw_below_drewN | apply below_drew1 | refine below_set ?_ GE122.out | refine below_set ?_ GE123.out | refine below_set ?_ GE124.out | refine below_set ?_ GE125.out) | exact HB.out)) hb)
                      clear HO_6
                      clear BK122
                      clear BK123
                      clear BK124
                      clear BK125
                      clear HB
                      have HO_6 := n0_
                      have BK122 := n1_
                      have BK123 := n2_
                      have BK124 := n3_
                      have BK125 := n4_
                      have HB := n5_
                      clear n0_ n1_ n2_ n3_ n4_ n5_
                      (try clear hb)
                      (try clear hb2)
                      (try clear hk)
                      (try clear hi)
                      refine hK.out _ _ ⟨(blk_cell BK125.out 0).trans rfl, (blk_cell BK125.out 1).trans rfl, (blk_cell BK125.out 2).trans rfl, (blk_cell BK125.out 3).trans rfl, (blk_cell BK125.out 4).trans rfl, (blk_cell BK125.out 5).trans rfl, (blk_cell BK125.out 6).trans rfl, (blk_cell BK122.out 0).trans rfl, (blk_cell BK122.out 1).trans rfl, (blk_cell BK122.out 2).trans rfl, (blk_cell BK122.out 3).trans rfl⟩ (fun hHeld => ?_)
                      clear hK K
                      refine norm_ (a' := ?_) ?_ ?_
                      rotate_left
                      · show Act.put _ (some 38) _ = _
                        simp only [Act.put, List.setIfInBounds_toArray, List.set_cons_zero, List.set_cons_succ, i64_w, i32_w]
                        rfl
                      refine pure_ (i := 16) (N := some 39) (v := ?_) (a' := ?_) (bA 20 131071) rfl rfl (any_of HT_.out (by kernel_rfl)) (fun _ _ _ h => h) (Or.inl ⟨by rfl, ?_⟩) ?_ ?_
                      rotate_left
                      · intro w'
                        go_simp
                        with_reducible rfl
                      rotate_left
                      · simp only [Act.put, List.setIfInBounds_toArray, List.set_cons_zero, List.set_cons_succ, i64_w, i32_w]
                        rfl
                      refine pure_ (i := 17) (N := some 40) (v := ?_) (a' := ?_) (bA 20 262143) rfl rfl (any_of HT_.out (by kernel_rfl)) (fun _ _ _ h => h) (Or.inl ⟨by rfl, ?_⟩) ?_ ?_
                      rotate_left
                      · intro w'
                        go_simp
                        with_reducible rfl
                      rotate_left
                      · simp only [Act.put, List.setIfInBounds_toArray, List.set_cons_zero, List.set_cons_succ, i64_w, i32_w]
                        rfl
                      refine pure_ (i := 18) (N := some 41) (v := ?_) (a' := ?_) (bA 20 524287) rfl rfl (any_of HT_.out (by kernel_rfl)) (fun _ _ _ h => h) (Or.inl ⟨by rfl, ?_⟩) ?_ ?_
                      rotate_left
                      · intro w'
                        go_simp
                        with_reducible rfl
                      rotate_left
                      · simp only [Act.put, List.setIfInBounds_toArray, List.set_cons_zero, List.set_cons_succ, i64_w, i32_w]
                        rfl
                      refine last_ (i := 19) (N := none) (bA 20 1048575) rfl rfl (one_of HT_.out (by kernel_rfl)) (by decide) (fun K hK => ?_)
                      have hs84 : w83.cell? ⟨gb125, 4, none⟩ = some (.int .u64 x126004_1) := (blk_cell BK125.out 4).trans rfl
                      have hfs84 := blk_frozen BK125.out 4
                      have hns84_0 := NB122_125.out
                      have hns84_1 := NB123_125.out
                      have hns84_2 := NB124_125.out
                      have hms84_0 := NB125_122.out
                      have hms84_1 := NB125_123.out
                      have hms84_2 := NB125_124.out
                      have hs85 : w83.cell? ⟨gb125, 5, none⟩ = some (.int .u64 x126005_1) := (blk_cell BK125.out 5).trans rfl
                      have hfs85 := blk_frozen BK125.out 5
                      have hns85_0 := NB122_125.out
                      have hns85_1 := NB123_125.out
                      have hns85_2 := NB124_125.out
                      have hms85_0 := NB125_122.out
                      have hms85_1 := NB125_123.out
                      have hms85_2 := NB125_124.out
                      refine skip_ (w1 := ?_) (by rfl) rfl ?_ ?_
                      rotate_left
                      · go_simp
                        rfl
                      refine hK.out _ _ ?_
                      clear hK K
                      refine done_ (done_of HT_.out (by kernel_rfl)) ?_
                      have hcz86_0 : w83.cell? ⟨gb125, 0, none⟩ = some (.int .u64 0) := (blk_cell BK125.out 0).trans rfl
                      have hcz86_1 : w83.cell? ⟨gb125, 1, none⟩ = some (.int .u64 0) := (blk_cell BK125.out 1).trans rfl
                      have hcz86_2 : w83.cell? ⟨gb125, 2, none⟩ = some (.int .u64 0) := (blk_cell BK125.out 2).trans rfl
                      have hcz86_3 : w83.cell? ⟨gb125, 3, none⟩ = some (.int .u64 0) := (blk_cell BK125.out 3).trans rfl
                      have hcz86_4 : w83.cell? ⟨gb125, 4, none⟩ = some (.int .u64 x126004_1) := (blk_cell BK125.out 4).trans rfl
                      have hcz86_5 : w83.cell? ⟨gb125, 5, none⟩ = some (.int .u64 x126005_1) := (blk_cell BK125.out 5).trans rfl
                      have hcz86_6 : w83.cell? ⟨gb125, 6, none⟩ = some (.bool true) := (blk_cell BK125.out 6).trans rfl
                      have hfz86_0 := blk_frozen BK125.out 0
                      have hfz86_1 := blk_frozen BK125.out 1
                      have hfz86_2 := blk_frozen BK125.out 2
                      have hfz86_3 := blk_frozen BK125.out 3
                      have hfz86_4 := blk_frozen BK125.out 4
                      have hfz86_5 := blk_frozen BK125.out 5
                      have hfz86_6 := blk_frozen BK125.out 6
                      have hnb87 := NB123_122.out
                      have hnc87 := NB122_123.out
                      have hnb88 := NB123_124.out
                      have hnc88 := NB124_123.out
                      have hcz89_0 : w83.cell? ⟨gb123, 0, none⟩ = some (.int .u64 a1_0) := (blk_cell BK123.out 0).trans rfl
                      have hcz89_1 : w83.cell? ⟨gb123, 1, none⟩ = some (.int .u64 a1_1) := (blk_cell BK123.out 1).trans rfl
                      have hfz89_0 := blk_frozen BK123.out 0
                      have hfz89_1 := blk_frozen BK123.out 1
                      try go_wp2_with (first | (go_at_call 35; (with_reducible refine (perigeeref1_Less.calls (Go.bits .or .u64 (IntKind.u64.wrap (x126004_1 * 2)) (x126005_1 / 9223372036854775808)) (Go.bits .or .u64 (IntKind.u64.wrap (x126005_1 * 2)) t133) a1_0 a1_1 false _ A55.out).mono ?_); rintro e w90 ⟨rfl, hb⟩; have n0_ := Aside0.mk (Kd.R_below (by (with_reducible repeat (first | apply Kd.R_alloc | apply Kd.R_drewN | apply Kd.R_drew)); exact (Kd.R_mono (Kd.R_far (p := ⟨gb125, 5, none⟩) (Kd.R_far (p := ⟨gb125, 4, none⟩) (Kd.R_types HO_6.out BK125.out (by decide)) (fun _ hk => hk.2) (.int .u64 (Go.bits .or .u64 (IntKind.u64.wrap (x126004_1 * 2)) (x126005_1 / 9223372036854775808)))) (fun _ hk => hk.2) (.int .u64 (Go.bits .or .u64 (IntKind.u64.wrap (x126005_1 * 2)) t133))) (fun _ h_ => h_.1))) hb); have n1_ := Aside0.mk (blk_below (g := gb122) (o := .cells #[.int .u64 a0_0, .int .u64 a0_1, .int .u64 a0_2, .int .u64 a0_3] 26 (0, 0)) (by (with_reducible repeat (first | refine blk_drewN ?_ _ | refine blk_drew ?_ | refine blk_alloc ?_ _)); refine blk_far ?_ NB122_125.out _; (with_reducible repeat (first | refine blk_drewN ?_ _ | refine blk_drew ?_ | refine blk_alloc ?_ _)); refine blk_far ?_ NB122_125.out _; (with_reducible repeat (first | refine blk_drewN ?_ _ | refine blk_drew ?_ | refine blk_alloc ?_ _)); exact BK122.out) hb); have n2_ := Aside0.mk (blk_below (g := gb123) (o := .cells #[.int .u64 a1_0, .int .u64 a1_1] 24 (0, 0)) (by (with_reducible repeat (first | refine blk_drewN ?_ _ | refine blk_drew ?_ | refine blk_alloc ?_ _)); refine blk_far ?_ NB123_125.out _; (with_reducible repeat (first | refine blk_drewN ?_ _ | refine blk_drew ?_ | refine blk_alloc ?_ _)); refine blk_far ?_ NB123_125.out _; (with_reducible repeat (first | refine blk_drewN ?_ _ | refine blk_drew ?_ | refine blk_alloc ?_ _)); exact BK123.out) hb); have n3_ := Aside0.mk (blk_below (g := gb124) (o := .cells #[.int .u64 0, .int .u64 0, .int .u64 0, .int .u64 0, .int .u64 0, .int .u64 0, .bool false] 30 (0, 0)) (by (with_reducible repeat (first | refine blk_drewN ?_ _ | refine blk_drew ?_ | refine blk_alloc ?_ _)); refine blk_far ?_ NB124_125.out _; (with_reducible repeat (first | refine blk_drewN ?_ _ | refine blk_drew ?_ | refine blk_alloc ?_ _)); refine blk_far ?_ NB124_125.out _; (with_reducible repeat (first | refine blk_drewN ?_ _ | refine blk_drew ?_ | refine blk_alloc ?_ _)); exact BK124.out) hb); have n4_ := Aside0.mk (blk_below (g := gb125) (o := .cells #[.int .u64 0, .int .u64 0, .int .u64 0, .int .u64 0, .int .u64 (Go.bits .or .u64 (IntKind.u64.wrap (x126004_1 * 2)) (x126005_1 / 9223372036854775808)), .int .u64 (Go.bits .or .u64 (IntKind.u64.wrap (x126005_1 * 2)) t133), .bool true] 30 (0, 0)) (by (with_reducible repeat (first | refine blk_drewN ?_ _ | refine blk_drew ?_ | refine blk_alloc ?_ _)); refine blk_put (cs := #[.int .u64 0, .int .u64 0, .int .u64 0, .int .u64 0, .int .u64 (Go.bits .or .u64 (IntKind.u64.wrap (x126004_1 * 2)) (x126005_1 / 9223372036854775808)), .int .u64 x126005_1, .bool true]) ?_ 5 _ rfl; (with_reducible repeat (first | refine blk_drewN ?_ _ | refine blk_drew ?_ | refine blk_alloc ?_ _)); refine blk_put (cs := #[.int .u64 0, .int .u64 0, .int .u64 0, .int .u64 0, .int .u64 x126004_1, .int .u64 x126005_1, .bool true]) ?_ 4 _ rfl; (with_reducible repeat (first | refine blk_drewN ?_ _ | refine blk_drew ?_ | refine blk_alloc ?_ _)); exact BK125.out) hb); have n5_ := Aside0.mk (below_step (by repeat (first | (with_reducible first | exact HB.out | apply below_alloc | apply pw_below_drewN | apply below_drew1 | refine below_set ?_ GE122.out | refine below_set ?_ GE123.out | refine below_set ?_ GE124.out | refine below_set ?_ GE125.out) | exact HB.out)) hb); clear HO_6; clear BK122; clear BK123; clear BK124; clear BK125; clear HB; have HO_6 := n0_; have BK122 := n1_; have BK123 := n2_; have BK124 := n3_; have BK125 := n4_; have HB := n5_; clear n0_ n1_ n2_ n3_ n4_ n5_; (try clear hb); (try clear hb2); (try clear hk); (try clear hi); have hcz91_0 : w90.cell? ⟨gb125, 0, none⟩ = some (.int .u64 0) := (blk_cell BK125.out 0).trans rfl; have hcz91_1 : w90.cell? ⟨gb125, 1, none⟩ = some (.int .u64 0) := (blk_cell BK125.out 1).trans rfl; have hcz91_2 : w90.cell? ⟨gb125, 2, none⟩ = some (.int .u64 0) := (blk_cell BK125.out 2).trans rfl; have hcz91_3 : w90.cell? ⟨gb125, 3, none⟩ = some (.int .u64 0) := (blk_cell BK125.out 3).trans rfl; have hcz91_4 : w90.cell? ⟨gb125, 4, none⟩ = some (.int .u64 (Go.bits .or .u64 (IntKind.u64.wrap (x126004_1 * 2)) (x126005_1 / 9223372036854775808))) := (blk_cell BK125.out 4).trans rfl; have hcz91_5 : w90.cell? ⟨gb125, 5, none⟩ = some (.int .u64 (Go.bits .or .u64 (IntKind.u64.wrap (x126005_1 * 2)) t133)) := (blk_cell BK125.out 5).trans rfl; have hcz91_6 : w90.cell? ⟨gb125, 6, none⟩ = some (.bool true) := (blk_cell BK125.out 6).trans rfl; have hfz91_0 := blk_frozen BK125.out 0; have hfz91_1 := blk_frozen BK125.out 1; have hfz91_2 := blk_frozen BK125.out 2; have hfz91_3 := blk_frozen BK125.out 3; have hfz91_4 := blk_frozen BK125.out 4; have hfz91_5 := blk_frozen BK125.out 5; have hfz91_6 := blk_frozen BK125.out 6; have hcz92_0 : w90.cell? ⟨gb123, 0, none⟩ = some (.int .u64 a1_0) := (blk_cell BK123.out 0).trans rfl; have hcz92_1 : w90.cell? ⟨gb123, 1, none⟩ = some (.int .u64 a1_1) := (blk_cell BK123.out 1).trans rfl; have hfz92_0 := blk_frozen BK123.out 0; have hfz92_1 := blk_frozen BK123.out 1) | ((with_reducible refine gate_callee (f := 20) rfl ?_); refine goesL_ (some 54) rfl rfl Try.func20 (by kernel_rfl) rfl #[.agg #[.int .u64 (Go.bits .or .u64 (IntKind.u64.wrap (x126004_1 * 2)) (x126005_1 / 9223372036854775808)), .int .u64 (Go.bits .or .u64 (IntKind.u64.wrap (x126005_1 * 2)) t133)], .agg #[.int .u64 a1_0, .int .u64 a1_1]] rfl (by (try simp only [List.map_toArray, List.map_cons, List.map_nil]); first | done | rfl | (simp only [List.length_drop, List.length_take]; rfl)) ?_; (with_reducible refine (perigeeref1_SubTwo.calls (Go.bits .or .u64 (IntKind.u64.wrap (x126004_1 * 2)) (x126005_1 / 9223372036854775808)) (Go.bits .or .u64 (IntKind.u64.wrap (x126005_1 * 2)) t133) a1_0 a1_1 t140 t141 t142 _ A70.out).mono ?_); rintro e w93 ⟨rfl, hb⟩; refine ⟨_, rfl, ?_⟩; have n0_ := Aside0.mk (Kd.R_below (by (with_reducible repeat (first | apply Kd.R_alloc | apply Kd.R_drewN | apply Kd.R_drew)); exact HO_6.out) hb); have n1_ := Aside0.mk (blk_below (g := gb122) (o := .cells #[.int .u64 a0_0, .int .u64 a0_1, .int .u64 a0_2, .int .u64 a0_3] 26 (0, 0)) (by (with_reducible repeat (first | refine blk_drewN ?_ _ | refine blk_drew ?_ | refine blk_alloc ?_ _)); exact BK122.out) hb); have n2_ := Aside0.mk (blk_below (g := gb123) (o := .cells #[.int .u64 a1_0, .int .u64 a1_1] 24 (0, 0)) (by (with_reducible repeat (first | refine blk_drewN ?_ _ | refine blk_drew ?_ | refine blk_alloc ?_ _)); exact BK123.out) hb); have n3_ := Aside0.mk (blk_below (g := gb124) (o := .cells #[.int .u64 0, .int .u64 0, .int .u64 0, .int .u64 0, .int .u64 0, .int .u64 0, .bool false] 30 (0, 0)) (by (with_reducible repeat (first | refine blk_drewN ?_ _ | refine blk_drew ?_ | refine blk_alloc ?_ _)); exact BK124.out) hb); have n4_ := Aside0.mk (blk_below (g := gb125) (o := .cells #[.int .u64 0, .int .u64 0, .int .u64 0, .int .u64 0, .int .u64 (Go.bits .or .u64 (IntKind.u64.wrap (x126004_1 * 2)) (x126005_1 / 9223372036854775808)), .int .u64 (Go.bits .or .u64 (IntKind.u64.wrap (x126005_1 * 2)) t133), .bool true] 30 (0, 0)) (by (with_reducible repeat (first | refine blk_drewN ?_ _ | refine blk_drew ?_ | refine blk_alloc ?_ _)); exact BK125.out) hb); have n5_ := Aside0.mk (below_step (by repeat (first | (with_reducible first | exact HB.out | apply below_alloc | apply pw_below_drewN | apply below_drew1 | refine below_set ?_ GE122.out | refine below_set ?_ GE123.out | refine below_set ?_ GE124.out | refine below_set ?_ GE125.out) | exact HB.out)) hb); clear HO_6; clear BK122; clear BK123; clear BK124; clear BK125; clear HB; have HO_6 := n0_; have BK122 := n1_; have BK123 := n2_; have BK124 := n3_; have BK125 := n4_; have HB := n5_; clear n0_ n1_ n2_ n3_ n4_ n5_; (try clear hb); (try clear hb2); (try clear hk); (try clear hi); have hcz94_0 : w93.cell? ⟨gb125, 0, none⟩ = some (.int .u64 0) := (blk_cell BK125.out 0).trans rfl; have hcz94_1 : w93.cell? ⟨gb125, 1, none⟩ = some (.int .u64 0) := (blk_cell BK125.out 1).trans rfl; have hcz94_2 : w93.cell? ⟨gb125, 2, none⟩ = some (.int .u64 0) := (blk_cell BK125.out 2).trans rfl; have hcz94_3 : w93.cell? ⟨gb125, 3, none⟩ = some (.int .u64 0) := (blk_cell BK125.out 3).trans rfl; have hcz94_4 : w93.cell? ⟨gb125, 4, none⟩ = some (.int .u64 (Go.bits .or .u64 (IntKind.u64.wrap (x126004_1 * 2)) (x126005_1 / 9223372036854775808))) := (blk_cell BK125.out 4).trans rfl; have hcz94_5 : w93.cell? ⟨gb125, 5, none⟩ = some (.int .u64 (Go.bits .or .u64 (IntKind.u64.wrap (x126005_1 * 2)) t133)) := (blk_cell BK125.out 5).trans rfl; have hcz94_6 : w93.cell? ⟨gb125, 6, none⟩ = some (.bool true) := (blk_cell BK125.out 6).trans rfl; have hfz94_0 := blk_frozen BK125.out 0; have hfz94_1 := blk_frozen BK125.out 1; have hfz94_2 := blk_frozen BK125.out 2; have hfz94_3 := blk_frozen BK125.out 3; have hfz94_4 := blk_frozen BK125.out 4; have hfz94_5 := blk_frozen BK125.out 5; have hfz94_6 := blk_frozen BK125.out 6))
                      have n0_ : Aside0 (Kd.R (Kd.int .u64) 22 ((w93.setCell ⟨gb125, 4, none⟩ (.int .u64 t140)).setCell ⟨gb125, 5, none⟩ (.int .u64 t141)) w.heap.size (fun _ => True) v127 x6_1) := ⟨by (with_reducible repeat (first | apply Kd.R_alloc | apply Kd.R_drewN | apply Kd.R_drew)); exact Kd.R_mono (Kd.R_far (p := ⟨gb125, 5, none⟩) (Kd.R_far (p := ⟨gb125, 4, none⟩) (Kd.R_types HO_6.out BK125.out (by decide)) (fun _ hk => hk.2) (.int .u64 t140)) (fun _ hk => hk.2) (.int .u64 t141)) (fun _ hk => trivial)⟩
                      have n1_ : Aside0 (((w93.setCell ⟨gb125, 4, none⟩ (.int .u64 t140)).setCell ⟨gb125, 5, none⟩ (.int .u64 t141)).heap[gb122]? = some (.cells #[.int .u64 a0_0, .int .u64 a0_1, .int .u64 a0_2, .int .u64 a0_3] 26 (0, 0))) := ⟨by (with_reducible repeat (first | refine blk_drewN ?_ _ | refine blk_drew ?_ | refine blk_alloc ?_ _)); refine blk_far ?_ NB122_125.out _; (with_reducible repeat (first | refine blk_drewN ?_ _ | refine blk_drew ?_ | refine blk_alloc ?_ _)); refine blk_far ?_ NB122_125.out _; (with_reducible repeat (first | refine blk_drewN ?_ _ | refine blk_drew ?_ | refine blk_alloc ?_ _)); exact BK122.out⟩
                      have n2_ : Aside0 (((w93.setCell ⟨gb125, 4, none⟩ (.int .u64 t140)).setCell ⟨gb125, 5, none⟩ (.int .u64 t141)).heap[gb123]? = some (.cells #[.int .u64 a1_0, .int .u64 a1_1] 24 (0, 0))) := ⟨by (with_reducible repeat (first | refine blk_drewN ?_ _ | refine blk_drew ?_ | refine blk_alloc ?_ _)); refine blk_far ?_ NB123_125.out _; (with_reducible repeat (first | refine blk_drewN ?_ _ | refine blk_drew ?_ | refine blk_alloc ?_ _)); refine blk_far ?_ NB123_125.out _; (with_reducible repeat (first | refine blk_drewN ?_ _ | refine blk_drew ?_ | refine blk_alloc ?_ _)); exact BK123.out⟩
                      have n3_ : Aside0 (((w93.setCell ⟨gb125, 4, none⟩ (.int .u64 t140)).setCell ⟨gb125, 5, none⟩ (.int .u64 t141)).heap[gb124]? = some (.cells #[.int .u64 0, .int .u64 0, .int .u64 0, .int .u64 0, .int .u64 0, .int .u64 0, .bool false] 30 (0, 0))) := ⟨by (with_reducible repeat (first | refine blk_drewN ?_ _ | refine blk_drew ?_ | refine blk_alloc ?_ _)); refine blk_far ?_ NB124_125.out _; (with_reducible repeat (first | refine blk_drewN ?_ _ | refine blk_drew ?_ | refine blk_alloc ?_ _)); refine blk_far ?_ NB124_125.out _; (with_reducible repeat (first | refine blk_drewN ?_ _ | refine blk_drew ?_ | refine blk_alloc ?_ _)); exact BK124.out⟩
                      have n4_ : Aside0 (((w93.setCell ⟨gb125, 4, none⟩ (.int .u64 t140)).setCell ⟨gb125, 5, none⟩ (.int .u64 t141)).heap[gb125]? = some (.cells #[.int .u64 0, .int .u64 0, .int .u64 0, .int .u64 0, .int .u64 t140, .int .u64 t141, .bool true] 30 (0, 0))) := ⟨by (with_reducible repeat (first | refine blk_drewN ?_ _ | refine blk_drew ?_ | refine blk_alloc ?_ _)); refine blk_put (cs := #[.int .u64 0, .int .u64 0, .int .u64 0, .int .u64 0, .int .u64 t140, .int .u64 (Go.bits .or .u64 (IntKind.u64.wrap (x126005_1 * 2)) t133), .bool true]) ?_ 5 _ rfl; (with_reducible repeat (first | refine blk_drewN ?_ _ | refine blk_drew ?_ | refine blk_alloc ?_ _)); refine blk_put (cs := #[.int .u64 0, .int .u64 0, .int .u64 0, .int .u64 0, .int .u64 (Go.bits .or .u64 (IntKind.u64.wrap (x126004_1 * 2)) (x126005_1 / 9223372036854775808)), .int .u64 (Go.bits .or .u64 (IntKind.u64.wrap (x126005_1 * 2)) t133), .bool true]) ?_ 4 _ rfl; (with_reducible repeat (first | refine blk_drewN ?_ _ | refine blk_drew ?_ | refine blk_alloc ?_ _)); exact BK125.out⟩
                      have n5_ : Aside0 (Below w.heap.size w ((w93.setCell ⟨gb125, 4, none⟩ (.int .u64 t140)).setCell ⟨gb125, 5, none⟩ (.int .u64 t141))) := ⟨by repeat (first | (with_reducible first | exact HB.out | apply below_alloc | apply pw_below_drewN | apply below_drew1 | refine below_set ?_ GE122.out | refine below_set ?_ GE123.out | refine below_set ?_ GE124.out | refine below_set ?_ GE125.out) | exact HB.out)⟩
                      (try clear HO_6)
                      (try clear BK122)
                      (try clear BK123)
                      (try clear BK124)
                      (try clear BK125)
                      (try clear HB)
                      generalize ((w93.setCell ⟨gb125, 4, none⟩ (.int .u64 t140)).setCell ⟨gb125, 5, none⟩ (.int .u64 t141)) = w95 at n0_ n1_ n2_ n3_ n4_ n5_ ⊢
                      have HO_6 := n0_
                      have BK122 := n1_
                      have BK123 := n2_
                      have BK124 := n3_
                      have BK125 := n4_
                      have HB := n5_
                      clear n0_ n1_ n2_ n3_ n4_ n5_
                      have n0_ := Aside0.mk (Kd.R_drew HO_6.out)
                      have n1_ := Aside0.mk (blk_drew BK122.out)
                      have n2_ := Aside0.mk (blk_drew BK123.out)
                      have n3_ := Aside0.mk (blk_drew BK124.out)
                      have n4_ := Aside0.mk (blk_drew BK125.out)
                      have n5_ := Aside0.mk (below_drew1 HB.out)
                      clear HO_6
                      clear BK122
                      clear BK123
                      clear BK124
                      clear BK125
                      clear HB
                      have HO_6 := n0_
                      have BK122 := n1_
                      have BK123 := n2_
                      have BK124 := n3_
                      have BK125 := n4_
                      have HB := n5_
                      clear n0_ n1_ n2_ n3_ n4_ n5_
                      obtain ⟨Ao97, co97, eo97⟩ := Kd.R_slice HO_6.out
                      (first | subst eo97 | (injection eo97 with f1_ f2_ f3_; have f4_ := f1_.symm; have f5_ := f3_.symm; clear f1_ f2_ f3_; subst f4_; subst f5_))
                      have p143 : 0 ≤ ((ji71) : Int) := of_decide_eq_true (by first | (with_reducible assumption) | assumption)
                      have q143 : (ji71) < (x6_1.length : Int) := of_decide_eq_true (by first | (with_reducible assumption) | assumption)
                      obtain ⟨ad143, e143, hx143_0⟩ := Kd.at_int (Kd.R_reads' HO_6.out).2.2 (ji71) p143 q143
                      cases e143
                      replace p143 := eq_true p143
                      replace q143 := eq_true q143
                      have p77 : 0 ≤ ((ji71) : Int) := of_decide_eq_true (by first | (with_reducible assumption) | assumption)
                      have q77 : ((ji71) : Int) < ((x6_1.length : Int) : Int) := of_decide_eq_true (by first | (with_reducible assumption) | assumption)
                      obtain ⟨go77, co77, eo77, gb77, gl77, cl77, HG77⟩ := Kd.R_form HO_6.out (by omega)
                      (first | cases eo77 | (injection eo77 with ea_ en_ ec_; (first | subst ea_ | (injection ea_ with ea_; subst ea_)); subst ec_; clear en_))
                      have GB77 := Aside0.mk gb77
                      have GG77 := Aside0.mk HG77
                      clear gb77 gl77 HG77
                      (first | simp only [add_plain] at hx143_0 | skip)
                      obtain ⟨hx77_0, hf77_0⟩ := Kd.R_celln 0 HO_6.out ((ji71) : Int) p77 q77
                      replace p77 := eq_true p77
                      replace q77 := eq_true q77
                      have HP98 := Kd.R_putn HO_6.out ((ji71) : Int) (Go.bits .or .u64 (rd x6_1 (ji71)) (ji76))
                      rw [← Ny144.out] at HP98
                      have HQ98 := Aside0.mk HP98
                      clear HP98
                      refine start_ (n := 11) (S := fun w' => w'.cell? ⟨go77, ((ji71)).toNat, none⟩ = some (.int .u64 (rd x6_1 (ji71)))) (ds := [10]) (bA 11 0) (by kernel_rfl) rfl rfl (hx143_0) (fun hHeld => ?_); refine with_tabW perigeeref1_DivFour.tab12 perigeeref1_DivFour.bits12 (fun HT_ HW_ => ?_)
                      generalize w95.drew = w96 at HO_6 BK122 BK123 BK124 BK125 HB GG77 HQ98 hf77_0 hx143_0 hx77_0 hHeld ⊢
                      refine pure_ (i := 0) (N := some 57) (v := ?_) (a' := ?_) (bA 11 1) rfl rfl (any_of HT_.out (by kernel_rfl)) (fun _ _ _ h => h) (Or.inl ⟨by rfl, ?_⟩) ?_ ?_
                      rotate_left
                      · intro w'
                        go_simp
                        with_reducible rfl
                      rotate_left
                      · simp only [Act.put, List.setIfInBounds_toArray, List.set_cons_zero, List.set_cons_succ, i64_w, i32_w]
                        rfl
                      refine pure_ (i := 1) (N := some 58) (v := ?_) (a' := ?_) (bA 11 3) rfl rfl (any_of HT_.out (by kernel_rfl)) (fun _ _ _ h => h) (Or.inl ⟨by rfl, ?_⟩) ?_ ?_
                      rotate_left
                      · intro w'
                        go_simp
                        with_reducible rfl
                      rotate_left
                      · simp only [Act.put, List.setIfInBounds_toArray, List.set_cons_zero, List.set_cons_succ, i64_w, i32_w]
                        rfl
                      refine pure_ (i := 2) (N := some 59) (v := ?_) (a' := ?_) (bA 11 7) rfl rfl (any_of HT_.out (by kernel_rfl)) (fun _ _ _ h => h) (Or.inl ⟨by rfl, ?_⟩) ?_ ?_
                      rotate_left
                      · intro w'
                        go_simp
                        with_reducible rfl
                      rotate_left
                      · simp only [Act.put, List.setIfInBounds_toArray, List.set_cons_zero, List.set_cons_succ, i64_w, i32_w]
                        rfl
                      refine pure_ (i := 3) (N := some 60) (v := ?_) (a' := ?_) (bA 11 15) rfl rfl (any_of HT_.out (by kernel_rfl)) (fun _ _ _ h => h) (Or.inl ⟨by rfl, ?_⟩) ?_ ?_
                      rotate_left
                      · intro w'
                        go_simp
                        with_reducible rfl
                      rotate_left
                      · simp only [Act.put, List.setIfInBounds_toArray, List.set_cons_zero, List.set_cons_succ, i64_w, i32_w]
                        rfl
                      refine pure_ (i := 5) (N := some 62) (v := ?_) (a' := ?_) (bA 11 47) rfl rfl (any_of HT_.out (by kernel_rfl)) (fun _ _ _ h => h) (Or.inl ⟨by rfl, ?_⟩) ?_ ?_
                      rotate_left
                      · intro w'
                        go_simp
                        with_reducible rfl
                      rotate_left
                      · simp only [Act.put, List.setIfInBounds_toArray, List.set_cons_zero, List.set_cons_succ, i64_w, i32_w]
                        rfl
                      refine pure_ (i := 6) (N := some 63) (v := ?_) (a' := ?_) (bA 11 111) rfl rfl (any_of HT_.out (by kernel_rfl)) (fun _ _ _ h => h) (Or.inl ⟨by rfl, ?_⟩) ?_ ?_
                      rotate_left
                      · intro w'
                        go_simp
                        with_reducible rfl
                      rotate_left
                      · simp only [Act.put, List.setIfInBounds_toArray, List.set_cons_zero, List.set_cons_succ, i64_w, i32_w]
                        rfl
                      refine pure_ (i := 7) (N := some 64) (v := ?_) (a' := ?_) (bA 11 239) rfl rfl (any_of HT_.out (by kernel_rfl)) (fun _ _ _ h => h) (Or.inl ⟨by rfl, ?_⟩) ?_ ?_
                      rotate_left
                      · intro w'
                        go_simp
                        with_reducible rfl
                      rotate_left
                      · simp only [Act.put, List.setIfInBounds_toArray, List.set_cons_zero, List.set_cons_succ, i64_w, i32_w]
                        rfl
                      refine take_ (i := 4) (N := some 61) (v := ?_) (a' := ?_) (bA 11 255) rfl rfl (take_ofW HT_.out HW_.out (by kernel_rfl)) (fun _ _ _ h => h) (Or.inl ⟨by rfl, ?_⟩) hHeld ?_ ?_
                      rotate_left
                      · intro w' s0
                        go_simp
                        with_reducible rfl
                      rotate_left
                      · simp only [Act.put, List.setIfInBounds_toArray, List.set_cons_zero, List.set_cons_succ, i64_w, i32_w]
                        rfl
                      refine pure_ (i := 8) (N := some 65) (v := ?_) (a' := ?_) (bA 11 511) rfl rfl (any_of HT_.out (by kernel_rfl)) (fun _ _ _ h => h) (Or.inl ⟨by rfl, ?_⟩) ?_ ?_
                      rotate_left
                      · intro w'
                        go_simp
                        with_reducible rfl
                      rotate_left
                      · simp only [Act.put, List.setIfInBounds_toArray, List.set_cons_zero, List.set_cons_succ, i64_w, i32_w]
                        rfl
                      refine pure_ (i := 9) (N := some 66) (v := ?_) (a' := ?_) (bA 11 1023) rfl rfl (any_of HT_.out (by kernel_rfl)) (fun _ _ _ h => h) (Or.inl ⟨by rfl, ?_⟩) ?_ ?_
                      rotate_left
                      · intro w'
                        go_simp
                        with_reducible rfl
                      rotate_left
                      · simp only [Act.put, List.setIfInBounds_toArray, List.set_cons_zero, List.set_cons_succ, i64_w, i32_w]
                        rfl
                      refine last_ (i := 10) (N := none) (bA 11 2047) rfl rfl (one_of HT_.out (by kernel_rfl)) (by decide) (fun K hK => ?_)
                      refine skip_ (w1 := ?_) (by rfl) rfl ?_ ?_
                      rotate_left
                      · go_simp
                        rfl
                      refine hK.out _ _ ?_
                      clear hK K
                      refine done_ (done_of HT_.out (by kernel_rfl)) ?_
                      try go_wp2
                      go_roundg k1
                      case measure => have := HK1.out; omega
                      case rel => exact ⟨(y144), (wrap64 (x7_1 - 1)), (t140), (t141), (by first | rfl | (simp; done) | (simp [*]; done)), H', ⟨by have := HK1.out; omega⟩, ⟨by (with_reducible repeat (first | apply Kd.R_alloc | apply Kd.R_drewN | apply Kd.R_drew)); exact HQ98.out⟩, ⟨by (with_reducible repeat (first | refine blk_drewN ?_ _ | refine blk_drew ?_ | refine blk_alloc ?_ _)); refine blk_far ?_ (by have h_ := Kd.R_ne HO_6.out BK122.out (by decide); intro e_; exact h_ (by rw [e_]; rfl)) _; (with_reducible repeat (first | refine blk_drewN ?_ _ | refine blk_drew ?_ | refine blk_alloc ?_ _)); exact BK122.out⟩, ⟨by (with_reducible repeat (first | refine blk_drewN ?_ _ | refine blk_drew ?_ | refine blk_alloc ?_ _)); refine blk_far ?_ (by have h_ := Kd.R_ne HO_6.out BK123.out (by decide); intro e_; exact h_ (by rw [e_]; rfl)) _; (with_reducible repeat (first | refine blk_drewN ?_ _ | refine blk_drew ?_ | refine blk_alloc ?_ _)); exact BK123.out⟩, ⟨by (with_reducible repeat (first | refine blk_drewN ?_ _ | refine blk_drew ?_ | refine blk_alloc ?_ _)); refine blk_far ?_ (by have h_ := Kd.R_ne HO_6.out BK124.out (by decide); intro e_; exact h_ (by rw [e_]; rfl)) _; (with_reducible repeat (first | refine blk_drewN ?_ _ | refine blk_drew ?_ | refine blk_alloc ?_ _)); exact BK124.out⟩, ⟨by (with_reducible repeat (first | refine blk_drewN ?_ _ | refine blk_drew ?_ | refine blk_alloc ?_ _)); refine blk_far ?_ (by have h_ := Kd.R_ne HO_6.out BK125.out (by decide); intro e_; exact h_ (by rw [e_]; rfl)) _; (with_reducible repeat (first | refine blk_drewN ?_ _ | refine blk_drew ?_ | refine blk_alloc ?_ _)); exact BK125.out⟩, ⟨by repeat (first | (with_reducible first | exact HB.out | apply below_alloc | apply pw_below_drewN | apply below_drew1 | refine below_set ?_ GB77.out | refine below_set ?_ GE122.out | refine below_set ?_ GE123.out | refine below_set ?_ GE124.out | refine below_set ?_ GE125.out) | exact HB.out)⟩⟩
                    · rw [if_neg c75] at H
                      exact absurd H (by simp)
                  · rw [if_neg c73] at H
                    exact absurd H (by simp)
                · rw [if_neg c72] at H
                  exact absurd H (by simp)
          · rw [if_neg c26] at H
            have c26b0 : decide (0 ≤ x7_1) = false := decide_eq_false c26
            clear c26
            replace H := Option.bind_eq_some_iff.mp H
            obtain ⟨⟨t129, t130, t131, t132⟩, A990, H⟩ := H
            replace H : (some (t129, t130, t131, t132, x126004_1, x126005_1, true)) = some (r1, r2, r3, r4, r5, r6, r7) := H
            have A99 := Aside0.mk A990
            clear A990
            simp only [Option.some.injEq, Prod.mk.injEq] at H
            obtain ⟨rfl, rfl, rfl, rfl, rfl, rfl, rfl⟩ := H
            obtain ⟨Ao100, co100, eo100⟩ := Kd.R_slice HO_6.out
            subst eo100
            go_wp2_with (first | ((with_reducible refine gate_callee (f := 36) rfl ?_); refine goesL_ (some 68) rfl rfl Try.func36 (by kernel_rfl) rfl #[.slice Ao100 x6_1.length co100] rfl (by (try simp only [List.map_toArray, List.map_cons, List.map_nil]); first | done | rfl | (simp only [List.length_drop, List.length_take]; rfl)) ?_; (with_reducible refine (perigeeref1_four.calls _ _ x6_1 t129 t130 t131 t132 _ ?side1 ?side2 A99.out).mono ?_); (case side1 => repeat (first | exact (Kd.R_reads' HO_6.out).2.2 | (with_reducible refine Kd.C_alloc ?_ _) | (with_reducible refine Kd.C_drewN ?_ _) | (with_reducible refine Kd.C_drew ?_))); (case side2 => exact (Kd.R_reads' HO_6.out).2.1); rintro e w101 ⟨rfl, hb⟩; refine ⟨_, rfl, ?_⟩; have n0_ := Aside0.mk (Kd.R_below (by (with_reducible repeat (first | apply Kd.R_alloc | apply Kd.R_drewN | apply Kd.R_drew)); exact HO_6.out) hb); have n1_ := Aside0.mk (blk_below (g := gb122) (o := .cells #[.int .u64 a0_0, .int .u64 a0_1, .int .u64 a0_2, .int .u64 a0_3] 26 (0, 0)) (by (with_reducible repeat (first | refine blk_drewN ?_ _ | refine blk_drew ?_ | refine blk_alloc ?_ _)); exact BK122.out) hb); have n2_ := Aside0.mk (blk_below (g := gb123) (o := .cells #[.int .u64 a1_0, .int .u64 a1_1] 24 (0, 0)) (by (with_reducible repeat (first | refine blk_drewN ?_ _ | refine blk_drew ?_ | refine blk_alloc ?_ _)); exact BK123.out) hb); have n3_ := Aside0.mk (blk_below (g := gb124) (o := .cells #[.int .u64 0, .int .u64 0, .int .u64 0, .int .u64 0, .int .u64 0, .int .u64 0, .bool false] 30 (0, 0)) (by (with_reducible repeat (first | refine blk_drewN ?_ _ | refine blk_drew ?_ | refine blk_alloc ?_ _)); exact BK124.out) hb); have n4_ := Aside0.mk (blk_below (g := gb125) (o := .cells #[.int .u64 0, .int .u64 0, .int .u64 0, .int .u64 0, .int .u64 x126004_1, .int .u64 x126005_1, .bool true] 30 (0, 0)) (by (with_reducible repeat (first | refine blk_drewN ?_ _ | refine blk_drew ?_ | refine blk_alloc ?_ _)); exact BK125.out) hb); have n5_ := Aside0.mk (below_step (by repeat (first | (with_reducible first | exact HB.out | apply below_alloc | apply pw_below_drewN | apply below_drew1 | refine below_set ?_ GE122.out | refine below_set ?_ GE123.out | refine below_set ?_ GE124.out | refine below_set ?_ GE125.out) | exact HB.out)) hb); clear HO_6; clear BK122; clear BK123; clear BK124; clear BK125; clear HB; have HO_6 := n0_; have BK122 := n1_; have BK123 := n2_; have BK124 := n3_; have BK125 := n4_; have HB := n5_; clear n0_ n1_ n2_ n3_ n4_ n5_; (try clear hb); (try clear hb2); (try clear hk); (try clear hi); have hnb102 := NB125_122.out; have hnc102 := NB122_125.out; have hnb103 := NB125_123.out; have hnc103 := NB123_125.out; have hnb104 := NB125_124.out; have hnc104 := NB124_125.out; have hcz105_0 : w101.cell? ⟨gb125, 0, none⟩ = some (.int .u64 0) := (blk_cell BK125.out 0).trans rfl; have hcz105_1 : w101.cell? ⟨gb125, 1, none⟩ = some (.int .u64 0) := (blk_cell BK125.out 1).trans rfl; have hcz105_2 : w101.cell? ⟨gb125, 2, none⟩ = some (.int .u64 0) := (blk_cell BK125.out 2).trans rfl; have hcz105_3 : w101.cell? ⟨gb125, 3, none⟩ = some (.int .u64 0) := (blk_cell BK125.out 3).trans rfl; have hcz105_4 : w101.cell? ⟨gb125, 4, none⟩ = some (.int .u64 x126004_1) := (blk_cell BK125.out 4).trans rfl; have hcz105_5 : w101.cell? ⟨gb125, 5, none⟩ = some (.int .u64 x126005_1) := (blk_cell BK125.out 5).trans rfl; have hcz105_6 : w101.cell? ⟨gb125, 6, none⟩ = some (.bool true) := (blk_cell BK125.out 6).trans rfl; have hfz105_0 := blk_frozen BK125.out 0; have hfz105_1 := blk_frozen BK125.out 1; have hfz105_2 := blk_frozen BK125.out 2; have hfz105_3 := blk_frozen BK125.out 3; have hfz105_4 := blk_frozen BK125.out 4; have hfz105_5 := blk_frozen BK125.out 5; have hfz105_6 := blk_frozen BK125.out 6; have hnb106 := NB124_122.out; have hnc106 := NB122_124.out; have hnb107 := NB124_123.out; have hnc107 := NB123_124.out; have hcz108_0 : w101.cell? ⟨gb124, 0, none⟩ = some (.int .u64 0) := (blk_cell BK124.out 0).trans rfl; have hcz108_1 : w101.cell? ⟨gb124, 1, none⟩ = some (.int .u64 0) := (blk_cell BK124.out 1).trans rfl; have hcz108_2 : w101.cell? ⟨gb124, 2, none⟩ = some (.int .u64 0) := (blk_cell BK124.out 2).trans rfl; have hcz108_3 : w101.cell? ⟨gb124, 3, none⟩ = some (.int .u64 0) := (blk_cell BK124.out 3).trans rfl; have hcz108_4 : w101.cell? ⟨gb124, 4, none⟩ = some (.int .u64 0) := (blk_cell BK124.out 4).trans rfl; have hcz108_5 : w101.cell? ⟨gb124, 5, none⟩ = some (.int .u64 0) := (blk_cell BK124.out 5).trans rfl; have hcz108_6 : w101.cell? ⟨gb124, 6, none⟩ = some (.bool false) := (blk_cell BK124.out 6).trans rfl; have hfz108_0 := blk_frozen BK124.out 0; have hfz108_1 := blk_frozen BK124.out 1; have hfz108_2 := blk_frozen BK124.out 2; have hfz108_3 := blk_frozen BK124.out 3; have hfz108_4 := blk_frozen BK124.out 4; have hfz108_5 := blk_frozen BK124.out 5; have hfz108_6 := blk_frozen BK124.out 6))
            refine bodyPost_ret (results_cell_row rfl _ _ gb124 30 #[.int .u64 t129, .int .u64 t130, .int .u64 t131, .int .u64 t132, .int .u64 x126004_1, .int .u64 x126005_1, .bool true] (0, 0) _ rfl (by (with_reducible repeat (first | refine blk_drewN ?_ _ | refine blk_drew ?_ | refine blk_alloc ?_ _)); refine blk_put (cs := #[.int .u64 t129, .int .u64 t130, .int .u64 t131, .int .u64 t132, .int .u64 x126004_1, .int .u64 x126005_1, .bool false]) ?_ 6 _ rfl; (with_reducible repeat (first | refine blk_drewN ?_ _ | refine blk_drew ?_ | refine blk_alloc ?_ _)); refine blk_put (cs := #[.int .u64 t129, .int .u64 t130, .int .u64 t131, .int .u64 t132, .int .u64 x126004_1, .int .u64 0, .bool false]) ?_ 5 _ rfl; (with_reducible repeat (first | refine blk_drewN ?_ _ | refine blk_drew ?_ | refine blk_alloc ?_ _)); refine blk_put (cs := #[.int .u64 t129, .int .u64 t130, .int .u64 t131, .int .u64 t132, .int .u64 0, .int .u64 0, .bool false]) ?_ 4 _ rfl; (with_reducible repeat (first | refine blk_drewN ?_ _ | refine blk_drew ?_ | refine blk_alloc ?_ _)); refine blk_put (cs := #[.int .u64 t129, .int .u64 t130, .int .u64 t131, .int .u64 0, .int .u64 0, .int .u64 0, .bool false]) ?_ 3 _ rfl; (with_reducible repeat (first | refine blk_drewN ?_ _ | refine blk_drew ?_ | refine blk_alloc ?_ _)); refine blk_put (cs := #[.int .u64 t129, .int .u64 t130, .int .u64 0, .int .u64 0, .int .u64 0, .int .u64 0, .bool false]) ?_ 2 _ rfl; (with_reducible repeat (first | refine blk_drewN ?_ _ | refine blk_drew ?_ | refine blk_alloc ?_ _)); refine blk_put (cs := #[.int .u64 t129, .int .u64 0, .int .u64 0, .int .u64 0, .int .u64 0, .int .u64 0, .bool false]) ?_ 1 _ rfl; (with_reducible repeat (first | refine blk_drewN ?_ _ | refine blk_drew ?_ | refine blk_alloc ?_ _)); refine blk_put (cs := #[.int .u64 0, .int .u64 0, .int .u64 0, .int .u64 0, .int .u64 0, .int .u64 0, .bool false]) ?_ 0 _ rfl; (with_reducible repeat (first | refine blk_drewN ?_ _ | refine blk_drew ?_ | refine blk_alloc ?_ _)); refine blk_far ?_ NB124_125.out _; (with_reducible repeat (first | refine blk_drewN ?_ _ | refine blk_drew ?_ | refine blk_alloc ?_ _)); refine blk_far ?_ NB124_125.out _; (with_reducible repeat (first | refine blk_drewN ?_ _ | refine blk_drew ?_ | refine blk_alloc ?_ _)); refine blk_far ?_ NB124_125.out _; (with_reducible repeat (first | refine blk_drewN ?_ _ | refine blk_drew ?_ | refine blk_alloc ?_ _)); refine blk_far ?_ NB124_125.out _; (with_reducible repeat (first | refine blk_drewN ?_ _ | refine blk_drew ?_ | refine blk_alloc ?_ _)); exact BK124.out) Try.underlying30 rfl (by kernel_rfl)) rfl ?_
            exact ⟨by first | rfl | (simp [errW_none, errW_some] <;> rfl) | (simp [*, errW_none, errW_some] <;> rfl), by repeat (first | (with_reducible first | exact HB.out | apply below_alloc | apply pw_below_drewN | apply below_drew1 | refine below_set ?_ GE122.out | refine below_set ?_ GE123.out | refine below_set ?_ GE124.out | refine below_set ?_ GE125.out) | exact HB.out)⟩
    · rw [if_neg c12] at H
      exact absurd H (by simp)

end Go.Proofs.Ytlpdongckcaclaa.M
