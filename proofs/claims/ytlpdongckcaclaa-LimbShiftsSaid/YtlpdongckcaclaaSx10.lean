/- Functions of the translation as plain Lean functions, and their walks: written by a program of this session's on the kit's print, for this seat. -/
import Derived.Test.YtlpdongckcaclaaSx0
import Derived.Test.YtlpdongckcaclaaSx8
import Derived.Test.YtlpdongckcaclaaSx9
namespace Go.Proofs.Ytlpdongckcaclaa.S
open Go.RowKit Go.Proofs.Ytlpdongckcaclaa.Limb Go.Proofs.Ytlpdongckcaclaa.Plain Go.Proofs.YtlpdongckcaclaaW.PrintWords Go.Proofs.YtlpdongckcaclaaW.PrintLast Go.Proofs.YtlpdongckcaclaaW.PrintMore
open Go.Proofs.YtlpdongckcaclaaW.PrintWords renaming pw_below_drewN → pN, below_drew1 → dI, blk_drewN → bN, blk_alloc → bL, blk_below → bB, blk_cell → bC, blk_frozen → bF, blk_far → bX, blk_drew → bD
attribute [local go_sem] max2_int min2_int max_two min_two max_three min_three max_four min_four   -- for this text's walks alone
set_option linter.unusedVariables false
set_option linter.unusedSimpArgs false

/-! ### perigeeref1_Root: function 30 -/
mutual
def perigeeref1_Root.l0 : Nat → Int → Int → Int → Int → Int → Int → Int → Option (Int × Int)
 | 0, _, _, _, _, _, _, _ => none
 | k + 1, x4, x249000, x249001, x249002, x249003, x251000, x251001 => if x4 ≥ 0 then (if x4 ≥ 64 then (if 0 ≤ (wrap64 (x4 - 64)) then (perigeeref1_Root.j1 k x4 x249000 x249001 x249002 x249003 x251000 x251001 (Go.bits .or .u64 x251000 (shl .u64 1 (wrap64 (x4 - 64)))) x251001) else (none)) else (if 0 ≤ x4 then (perigeeref1_Root.j1 k x4 x249000 x249001 x249002 x249003 x251000 x251001 x251000 (Go.bits .or .u64 x251001 (shl .u64 1 x4))) else (none))) else (some (x251000, x251001))
def perigeeref1_Root.j1 : Nat → Int → Int → Int → Int → Int → Int → Int → Int → Int → Option (Int × Int)
 | 0, _, _, _, _, _, _, _, _, _ => none
 | k + 1, x4, x249000, x249001, x249002, x249003, x251000, x251001, x252000, x252001 => (perigeeref1_MulTwo.f x252000 x252001 x252000 x252001).bind fun bt252 => ((perigeeref1_CmpFour.f k bt252.1 bt252.2.1 bt252.2.2.1 bt252.2.2.2 x249000 x249001 x249002 x249003).bind fun t256 => (if t256 ≤ 0 then (perigeeref1_Root.l0 k (wrap64 (x4 - 1)) x249000 x249001 x249002 x249003 x252000 x252001) else (perigeeref1_Root.l0 k (wrap64 (x4 - 1)) x249000 x249001 x249002 x249003 x251000 x251001)))
end
def perigeeref1_Root.f (k : Nat) (a0_0 : Int) (a0_1 : Int) (a0_2 : Int) (a0_3 : Int) : Option (Int × Int) := perigeeref1_Root.l0 k 127 a0_0 a0_1 a0_2 a0_3 0 0
theorem perigeeref1_Root.mono_l : ∀ k, (∀ y0 y1 y2 y3 y4 y5 y6, LeO (perigeeref1_Root.l0 k y0 y1 y2 y3 y4 y5 y6) (perigeeref1_Root.l0 (k + 1) y0 y1 y2 y3 y4 y5 y6)) ∧ (∀ y0 y1 y2 y3 y4 y5 y6 y7 y8, LeO (perigeeref1_Root.j1 k y0 y1 y2 y3 y4 y5 y6 y7 y8) (perigeeref1_Root.j1 (k + 1) y0 y1 y2 y3 y4 y5 y6 y7 y8))
 | 0 => ⟨fun _ _ _ _ _ _ _ r h => by simp [perigeeref1_Root.l0] at h, fun _ _ _ _ _ _ _ _ _ r h => by simp [perigeeref1_Root.j1] at h⟩
 | k + 1 => by
  obtain ⟨ih0, ih1⟩ := perigeeref1_Root.mono_l k
  refine ⟨?_, ?_⟩
  ·intro y0 y1 y2 y3 y4 y5 y6
   unfold perigeeref1_Root.l0
   repeat' first
   | (with_reducible exact ih0 _ _ _ _ _ _ _)
   | (with_reducible exact ih1 _ _ _ _ _ _ _ _ _)
   | (with_reducible exact perigeeref1_CmpFour.mono _ _ _ _ _ _ _ _ _)
   | (with_reducible exact LeO.refl _)
   | (with_reducible exact LeO.none _)
   | (with_reducible refine LeO.ite ?_ ?_)
   | (with_reducible refine LeO.bind ?_ (fun _ => ?_))
   | exact ih0 _ _ _ _ _ _ _
   | exact ih1 _ _ _ _ _ _ _ _ _
   | exact perigeeref1_CmpFour.mono _ _ _ _ _ _ _ _ _
   | exact LeO.none _
   | refine LeO.ite ?_ ?_
   | refine LeO.bind ?_ (fun _ => ?_)
  ·intro y0 y1 y2 y3 y4 y5 y6 y7 y8
   unfold perigeeref1_Root.j1
   repeat' first
   | (with_reducible exact ih0 _ _ _ _ _ _ _)
   | (with_reducible exact ih1 _ _ _ _ _ _ _ _ _)
   | (with_reducible exact perigeeref1_CmpFour.mono _ _ _ _ _ _ _ _ _)
   | (with_reducible exact LeO.refl _)
   | (with_reducible exact LeO.none _)
   | (with_reducible refine LeO.ite ?_ ?_)
   | (with_reducible refine LeO.bind ?_ (fun _ => ?_))
   | exact ih0 _ _ _ _ _ _ _
   | exact ih1 _ _ _ _ _ _ _ _ _
   | exact perigeeref1_CmpFour.mono _ _ _ _ _ _ _ _ _
   | exact LeO.none _
   | refine LeO.ite ?_ ?_
   | refine LeO.bind ?_ (fun _ => ?_)
theorem perigeeref1_Root.mono : ∀ a0 a1 a2 a3 k, LeO (perigeeref1_Root.f k a0 a1 a2 a3) (perigeeref1_Root.f (k + 1) a0 a1 a2 a3) := by
 intro a0 a1 a2 a3 k
 obtain ⟨ih0, ih1⟩ := perigeeref1_Root.mono_l k
 unfold perigeeref1_Root.f
 repeat' first
   | (with_reducible exact ih0 _ _ _ _ _ _ _)
   | (with_reducible exact ih1 _ _ _ _ _ _ _ _ _)
   | (with_reducible exact perigeeref1_CmpFour.mono _ _ _ _ _ _ _ _ _)
   | (with_reducible exact LeO.refl _)
   | (with_reducible exact LeO.none _)
   | (with_reducible refine LeO.ite ?_ ?_)
   | (with_reducible refine LeO.bind ?_ (fun _ => ?_))
   | exact ih0 _ _ _ _ _ _ _
   | exact ih1 _ _ _ _ _ _ _ _ _
   | exact perigeeref1_CmpFour.mono _ _ _ _ _ _ _ _ _
   | exact LeO.none _
   | refine LeO.ite ?_ ?_
   | refine LeO.bind ?_ (fun _ => ?_)
def perigeeref1_Root.T7 : Bool × List (List Nat × List Nat) := (true, [([], []), ([0], [0]), ([], []), ([2], [2]), ([3], [3]), ([1, 4], [1, 4]), ([0, 1, 2, 3, 4, 5], []), ([6, 5, 0, 1, 2, 3, 4, 5], [5, 6])])
def perigeeref1_Root.B7 : List Nat := [0, 1, 0, 4, 12, 31, 63, 127]
theorem perigeeref1_Root.tab7 : rtab .any (opsOf Try.f30 7) = perigeeref1_Root.T7 := by kernel_rfl
theorem perigeeref1_Root.bits7 : waitsOk perigeeref1_Root.T7.2 perigeeref1_Root.B7 = true := by kernel_rfl
set_option maxHeartbeats 8000000 in
set_option maxRecDepth 100000 in
theorem perigeeref1_Root.calls (k : Nat) (a0_0 : Int) (a0_1 : Int) (a0_2 : Int) (a0_3 : Int) (r1 : Int) (r2 : Int) (w : World) (h : perigeeref1_Root.f k a0_0 a0_1 a0_2 a0_3 = some (r1, r2)) :
  Calls Try.prog 30 #[.agg #[.int .u64 a0_0, .int .u64 a0_1, .int .u64 a0_2, .int .u64 a0_3]] w fun e w' => e = .returned (.agg #[.int .u64 r1, .int .u64 r2]) ∧ Below w.heap.size w w' := by
 have hu26 := Try.underlying26
 have hu24 := Try.underlying24
 have HB := Aside0.mk (Below.refl w.heap.size w)
 have H : (perigeeref1_Root.l0 k 127 a0_0 a0_1 a0_2 a0_3 0 0) = some (r1, r2) := h
 clear h
 have H' := Aside0.mk H
 clear H
 go_enter Try.func30, Try.ntmps30
 go_wp2_with (first | ((with_reducible refine gate_dst (N := 1) rfl ?_); refine box_event ?hg (N := 1) ?hd (cs := #[.int .u64 a0_0, .int .u64 a0_1, .int .u64 a0_2, .int .u64 a0_3]) (t := 26) ?hr ?_; (case hd => rfl); (case hg => rfl); (case hr => first | (go_simp; done) | (go_simp; rfl)); intro gb248 hg w2 hbox hb; have n0_ := Aside0.mk (below_step (by repeat (first | (with_reducible first | exact HB.out | apply below_alloc | apply pN | apply dI) | exact HB.out)) hb); have n1_ := Aside0.mk (hbox); have n2_ := Aside0.mk ((by rw [hg]; exact (below_size (by repeat (first | (with_reducible first | exact HB.out | apply below_alloc | apply pN | apply dI) | exact HB.out))) : w.heap.size ≤ gb248)); have n3_ := Aside0.mk ((by rw [hg]; exact (below_size (by repeat (first | (with_reducible first | exact HB.out | apply below_alloc | apply pN | apply dI) | exact HB.out))) : w.heap.size ≤ gb248)); clear HB; have HB := n0_; have BK248 := n1_; have GW248 := n2_; have GE248 := n3_; clear n0_ n1_ n2_ n3_; clear hb hbox hg) | ((with_reducible refine gate_dst (N := 2) rfl ?_); refine box_event ?hg (N := 2) ?hd (cs := #[.int .u64 0, .int .u64 0]) (t := 24) ?hr ?_; (case hd => rfl); (case hg => rfl); (case hr => first | (go_simp; done) | (go_simp; rfl)); intro gb249 hg w3 hbox hb; have n0_ := Aside0.mk (bB (g := gb248) (o := .cells #[.int .u64 a0_0, .int .u64 a0_1, .int .u64 a0_2, .int .u64 a0_3] 26 (0, 0)) (by (with_reducible repeat (first | refine bN ?_ _ | refine bD ?_ | refine bL ?_ _)); exact BK248.out) hb); have n1_ := Aside0.mk (below_step (by repeat (first | (with_reducible first | exact HB.out | apply below_alloc | apply pN | apply dI | refine below_set ?_ GE248.out) | exact HB.out)) hb); have n2_ := Aside0.mk (hbox); have n3_ := Aside0.mk ((by rw [hg]; exact (below_size (by repeat (first | (with_reducible first | exact HB.out | apply below_alloc | apply pN | apply dI | refine below_set ?_ GE248.out) | exact HB.out))) : w.heap.size ≤ gb249)); have n4_ := Aside0.mk ((by rw [hg]; exact (below_size (by repeat (first | (with_reducible first | exact HB.out | apply below_alloc | apply pN | apply dI | refine below_set ?_ GE248.out) | exact HB.out))) : w.heap.size ≤ gb249)); have n5_ := Aside0.mk ((by rw [hg]; exact Nat.ne_of_lt (blk_lt (g := gb248) (o := .cells #[.int .u64 a0_0, .int .u64 a0_1, .int .u64 a0_2, .int .u64 a0_3] 26 (0, 0)) (by (with_reducible repeat (first | refine bN ?_ _ | refine bD ?_ | refine bL ?_ _)); exact BK248.out)) : gb248 ≠ gb249)); have n6_ := Aside0.mk ((by rw [hg]; exact Nat.ne_of_gt (blk_lt (g := gb248) (o := .cells #[.int .u64 a0_0, .int .u64 a0_1, .int .u64 a0_2, .int .u64 a0_3] 26 (0, 0)) (by (with_reducible repeat (first | refine bN ?_ _ | refine bD ?_ | refine bL ?_ _)); exact BK248.out)) : gb249 ≠ gb248)); clear BK248; clear HB; have BK248 := n0_; have HB := n1_; have BK249 := n2_; have GW249 := n3_; have GE249 := n4_; have NB248_249 := n5_; have NB249_248 := n6_; clear n0_ n1_ n2_ n3_ n4_ n5_ n6_; clear hb hbox hg) | ((with_reducible refine gate_dst (N := 3) rfl ?_); refine box_event ?hg (N := 3) ?hd (cs := #[.int .u64 0, .int .u64 0]) (t := 24) ?hr ?_; (case hd => rfl); (case hg => rfl); (case hr => first | (go_simp; done) | (go_simp; rfl)); intro gb250 hg w4 hbox hb; have n0_ := Aside0.mk (bB (g := gb248) (o := .cells #[.int .u64 a0_0, .int .u64 a0_1, .int .u64 a0_2, .int .u64 a0_3] 26 (0, 0)) (by (with_reducible repeat (first | refine bN ?_ _ | refine bD ?_ | refine bL ?_ _)); exact BK248.out) hb); have n1_ := Aside0.mk (bB (g := gb249) (o := .cells #[.int .u64 0, .int .u64 0] 24 (0, 0)) (by (with_reducible repeat (first | refine bN ?_ _ | refine bD ?_ | refine bL ?_ _)); exact BK249.out) hb); have n2_ := Aside0.mk (below_step (by repeat (first | (with_reducible first | exact HB.out | apply below_alloc | apply pN | apply dI | refine below_set ?_ GE248.out | refine below_set ?_ GE249.out) | exact HB.out)) hb); have n3_ := Aside0.mk (hbox); have n4_ := Aside0.mk ((by rw [hg]; exact (below_size (by repeat (first | (with_reducible first | exact HB.out | apply below_alloc | apply pN | apply dI | refine below_set ?_ GE248.out | refine below_set ?_ GE249.out) | exact HB.out))) : w.heap.size ≤ gb250)); have n5_ := Aside0.mk ((by rw [hg]; exact (below_size (by repeat (first | (with_reducible first | exact HB.out | apply below_alloc | apply pN | apply dI | refine below_set ?_ GE248.out | refine below_set ?_ GE249.out) | exact HB.out))) : w.heap.size ≤ gb250)); have n6_ := Aside0.mk ((by rw [hg]; exact Nat.ne_of_lt (blk_lt (g := gb248) (o := .cells #[.int .u64 a0_0, .int .u64 a0_1, .int .u64 a0_2, .int .u64 a0_3] 26 (0, 0)) (by (with_reducible repeat (first | refine bN ?_ _ | refine bD ?_ | refine bL ?_ _)); exact BK248.out)) : gb248 ≠ gb250)); have n7_ := Aside0.mk ((by rw [hg]; exact Nat.ne_of_gt (blk_lt (g := gb248) (o := .cells #[.int .u64 a0_0, .int .u64 a0_1, .int .u64 a0_2, .int .u64 a0_3] 26 (0, 0)) (by (with_reducible repeat (first | refine bN ?_ _ | refine bD ?_ | refine bL ?_ _)); exact BK248.out)) : gb250 ≠ gb248)); have n8_ := Aside0.mk ((by rw [hg]; exact Nat.ne_of_lt (blk_lt (g := gb249) (o := .cells #[.int .u64 0, .int .u64 0] 24 (0, 0)) (by (with_reducible repeat (first | refine bN ?_ _ | refine bD ?_ | refine bL ?_ _)); exact BK249.out)) : gb249 ≠ gb250)); have n9_ := Aside0.mk ((by rw [hg]; exact Nat.ne_of_gt (blk_lt (g := gb249) (o := .cells #[.int .u64 0, .int .u64 0] 24 (0, 0)) (by (with_reducible repeat (first | refine bN ?_ _ | refine bD ?_ | refine bL ?_ _)); exact BK249.out)) : gb250 ≠ gb249)); clear BK248; clear BK249; clear HB; have BK248 := n0_; have BK249 := n1_; have HB := n2_; have BK250 := n3_; have GW250 := n4_; have GE250 := n5_; have NB248_250 := n6_; have NB250_248 := n7_; have NB249_250 := n8_; have NB250_249 := n9_; clear n0_ n1_ n2_ n3_ n4_ n5_ n6_ n7_ n8_ n9_; clear hb hbox hg))
 go_loopg [4] k (fun kq v4 w' => ∃ (x4_1 : Int) (x251000_1 : Int) (x251001_1 : Int), v4 = .int .i64 x4_1 ∧ Aside0 (perigeeref1_Root.l0 kq x4_1 a0_0 a0_1 a0_2 a0_3 x251000_1 x251001_1 = some (r1, r2)) ∧ Aside0 (kq ≤ k) ∧ Aside0 (w'.heap[gb248]? = some (.cells #[.int .u64 a0_0, .int .u64 a0_1, .int .u64 a0_2, .int .u64 a0_3] 26 (0, 0))) ∧ Aside0 (w'.heap[gb249]? = some (.cells #[.int .u64 0, .int .u64 0] 24 (0, 0))) ∧ Aside0 (w'.heap[gb250]? = some (.cells #[.int .u64 x251000_1, .int .u64 x251001_1] 24 (0, 0))) ∧ Aside0 (Below w.heap.size w w'))
 case atStart => exact ⟨(127), (0), (0), (by first | rfl | (simp; done) | (simp [*]; done)), H', ⟨Nat.le_refl _⟩, ⟨by (with_reducible repeat (first | refine bN ?_ _ | refine bD ?_ | refine bL ?_ _)); exact BK248.out⟩, ⟨by (with_reducible repeat (first | refine bN ?_ _ | refine bD ?_ | refine bL ?_ _)); exact BK249.out⟩, ⟨by (with_reducible repeat (first | refine bN ?_ _ | refine bD ?_ | refine bL ?_ _)); exact BK250.out⟩, ⟨by repeat (first | (with_reducible first | exact HB.out | apply below_alloc | apply pN | apply dI | refine below_set ?_ GE248.out | refine below_set ?_ GE249.out | refine below_set ?_ GE250.out) | exact HB.out)⟩⟩
 case round =>
  clear H'
  try clear p2
  try clear c3
  obtain ⟨x4_1, x251000_1, x251001_1, rfl, HA, HK1, BK248, BK249, BK250, HB⟩ := hrel
  cases gk with
  | zero => exact absurd HA.out (by simp [perigeeref1_Root.l0])
  | succ k1 =>
   have H := HA.out
   clear HA
   simp only [perigeeref1_Root.l0] at H
   by_cases c5 : x4_1 ≥ 0
   ·rw [if_pos c5] at H
    have c5b0 : decide (0 ≤ x4_1) = true := decide_eq_true c5
    clear c5
    have HC6 := Aside0.mk H
    clear H
    have hnb7 := NB250_248.out
    have hnc7 := NB248_250.out
    have hnb8 := NB250_249.out
    have hnc8 := NB249_250.out
    have hcz9_0 : wr.cell? ⟨gb250, 0, none⟩ = some (.int .u64 x251000_1) := (bC BK250.out 0).trans rfl
    have hcz9_1 : wr.cell? ⟨gb250, 1, none⟩ = some (.int .u64 x251001_1) := (bC BK250.out 1).trans rfl
    have hfz9_0 := bF BK250.out 0
    have hfz9_1 := bF BK250.out 1
    go_upto_if 12 with (first | ((with_reducible refine gate_dst (N := 5) rfl ?_); refine box_event ?hg (N := 5) ?hd (cs := #[.int .u64 0, .int .u64 0]) (t := 24) ?hr ?_; (case hd => rfl); (case hg => rfl); (case hr => first | (go_simp; done) | (go_simp; rfl)); intro gb251 hg w10 hbox hb; have n0_ := Aside0.mk (bB (g := gb248) (o := .cells #[.int .u64 a0_0, .int .u64 a0_1, .int .u64 a0_2, .int .u64 a0_3] 26 (0, 0)) (by (with_reducible repeat (first | refine bN ?_ _ | refine bD ?_ | refine bL ?_ _)); exact BK248.out) hb); have n1_ := Aside0.mk (bB (g := gb249) (o := .cells #[.int .u64 0, .int .u64 0] 24 (0, 0)) (by (with_reducible repeat (first | refine bN ?_ _ | refine bD ?_ | refine bL ?_ _)); exact BK249.out) hb); have n2_ := Aside0.mk (bB (g := gb250) (o := .cells #[.int .u64 x251000_1, .int .u64 x251001_1] 24 (0, 0)) (by (with_reducible repeat (first | refine bN ?_ _ | refine bD ?_ | refine bL ?_ _)); exact BK250.out) hb); have n3_ := Aside0.mk (below_step (by repeat (first | (with_reducible first | exact HB.out | apply below_alloc | apply pN | apply dI | refine below_set ?_ GE248.out | refine below_set ?_ GE249.out | refine below_set ?_ GE250.out) | exact HB.out)) hb); have n4_ := Aside0.mk (hbox); have n5_ := Aside0.mk ((by rw [hg]; exact (below_size (by repeat (first | (with_reducible first | exact HB.out | apply below_alloc | apply pN | apply dI | refine below_set ?_ GE248.out | refine below_set ?_ GE249.out | refine below_set ?_ GE250.out) | exact HB.out))) : w.heap.size ≤ gb251)); have n6_ := Aside0.mk ((by rw [hg]; exact (below_size (by repeat (first | (with_reducible first | exact HB.out | apply below_alloc | apply pN | apply dI | refine below_set ?_ GE248.out | refine below_set ?_ GE249.out | refine below_set ?_ GE250.out) | exact HB.out))) : w.heap.size ≤ gb251)); have n7_ := Aside0.mk ((by rw [hg]; exact Nat.ne_of_lt (blk_lt (g := gb248) (o := .cells #[.int .u64 a0_0, .int .u64 a0_1, .int .u64 a0_2, .int .u64 a0_3] 26 (0, 0)) (by (with_reducible repeat (first | refine bN ?_ _ | refine bD ?_ | refine bL ?_ _)); exact BK248.out)) : gb248 ≠ gb251)); have n8_ := Aside0.mk ((by rw [hg]; exact Nat.ne_of_gt (blk_lt (g := gb248) (o := .cells #[.int .u64 a0_0, .int .u64 a0_1, .int .u64 a0_2, .int .u64 a0_3] 26 (0, 0)) (by (with_reducible repeat (first | refine bN ?_ _ | refine bD ?_ | refine bL ?_ _)); exact BK248.out)) : gb251 ≠ gb248)); have n9_ := Aside0.mk ((by rw [hg]; exact Nat.ne_of_lt (blk_lt (g := gb249) (o := .cells #[.int .u64 0, .int .u64 0] 24 (0, 0)) (by (with_reducible repeat (first | refine bN ?_ _ | refine bD ?_ | refine bL ?_ _)); exact BK249.out)) : gb249 ≠ gb251)); have n10_ := Aside0.mk ((by rw [hg]; exact Nat.ne_of_gt (blk_lt (g := gb249) (o := .cells #[.int .u64 0, .int .u64 0] 24 (0, 0)) (by (with_reducible repeat (first | refine bN ?_ _ | refine bD ?_ | refine bL ?_ _)); exact BK249.out)) : gb251 ≠ gb249)); have n11_ := Aside0.mk ((by rw [hg]; exact Nat.ne_of_lt (blk_lt (g := gb250) (o := .cells #[.int .u64 x251000_1, .int .u64 x251001_1] 24 (0, 0)) (by (with_reducible repeat (first | refine bN ?_ _ | refine bD ?_ | refine bL ?_ _)); exact BK250.out)) : gb250 ≠ gb251)); have n12_ := Aside0.mk ((by rw [hg]; exact Nat.ne_of_gt (blk_lt (g := gb250) (o := .cells #[.int .u64 x251000_1, .int .u64 x251001_1] 24 (0, 0)) (by (with_reducible repeat (first | refine bN ?_ _ | refine bD ?_ | refine bL ?_ _)); exact BK250.out)) : gb251 ≠ gb250)); clear BK248; clear BK249; clear BK250; clear HB; have BK248 := n0_; have BK249 := n1_; have BK250 := n2_; have HB := n3_; have BK251 := n4_; have GW251 := n5_; have GE251 := n6_; have NB248_251 := n7_; have NB251_248 := n8_; have NB249_251 := n9_; have NB251_249 := n10_; have NB250_251 := n11_; have NB251_250 := n12_; clear n0_ n1_ n2_ n3_ n4_ n5_ n6_ n7_ n8_ n9_ n10_ n11_ n12_; clear hb hbox hg; have hnb11 := NB251_248.out; have hnc11 := NB248_251.out; have hnb12 := NB251_249.out; have hnc12 := NB249_251.out; have hnb13 := NB251_250.out; have hnc13 := NB250_251.out; have hcz14_0 : w10.cell? ⟨gb251, 0, none⟩ = some (.int .u64 0) := (bC BK251.out 0).trans rfl; have hcz14_1 : w10.cell? ⟨gb251, 1, none⟩ = some (.int .u64 0) := (bC BK251.out 1).trans rfl; have hfz14_0 := bF BK251.out 0; have hfz14_1 := bF BK251.out 1))
    (try simp only [Act.put, List.setIfInBounds_toArray, List.set_cons_zero, List.set_cons_succ])
    go_cut [] (fun wc => ∃ (kq : Nat) (x252000_5 : Int) (x252001_5 : Int), Aside0 (perigeeref1_Root.j1 kq x4_1 a0_0 a0_1 a0_2 a0_3 x251000_1 x251001_1 x252000_5 x252001_5 = some (r1, r2)) ∧ Aside0 (kq ≤ k1) ∧ Aside0 (wc.heap[gb248]? = some (.cells #[.int .u64 a0_0, .int .u64 a0_1, .int .u64 a0_2, .int .u64 a0_3] 26 (0, 0))) ∧ Aside0 (wc.heap[gb249]? = some (.cells #[.int .u64 0, .int .u64 0] 24 (0, 0))) ∧ Aside0 (wc.heap[gb250]? = some (.cells #[.int .u64 x251000_1, .int .u64 x251001_1] 24 (0, 0))) ∧ Aside0 (wc.heap[gb251]? = some (.cells #[.int .u64 x252000_5, .int .u64 x252001_5] 24 (0, 0))) ∧ Aside0 (Below w.heap.size w wc))
    case first =>
     have H := HC6.out
     clear HC6
     by_cases c15 : x4_1 ≥ 64
     ·rw [if_pos c15] at H
      have c15b0 : decide (64 ≤ x4_1) = true := decide_eq_true c15
      clear c15
      (first | rw [c15b0] | (simp only [i64_w, i32_w]; rw [c15b0]) | skip)
      obtain ⟨ji16, hji16⟩ : ∃ j_ : Int, (wrap64 (x4_1 - 64)) = j_ := ⟨_, rfl⟩
      replace H : (if 0 ≤ (ji16) then (perigeeref1_Root.j1 k1 x4_1 a0_0 a0_1 a0_2 a0_3 x251000_1 x251001_1 (Go.bits .or .u64 x251000_1 (shl .u64 1 (ji16))) x251001_1) else (none)) = some (r1, r2) := by first | (rw [hji16] at H; exact H) | (simp only [hji16] at H ⊢; exact H)
      have hji16w : (IntKind.i64.wrap (x4_1 - 64)) = ji16 := (i64_w _).trans hji16
      by_cases c17 : 0 ≤ (ji16)
      ·rw [if_pos c17] at H
       have c17b0 := eq_true c17
       have c17b1 : decide (0 ≤ (ji16)) = true := decide_eq_true c17
       clear c17
       obtain ⟨ji18, hji18⟩ : ∃ j_ : Int, (shl .u64 1 (ji16)) = j_ := ⟨_, rfl⟩
       replace H : (perigeeref1_Root.j1 k1 x4_1 a0_0 a0_1 a0_2 a0_3 x251000_1 x251001_1 (Go.bits .or .u64 x251000_1 (ji18)) x251001_1) = some (r1, r2) := by first | (rw [hji18] at H; exact H) | (simp only [hji18] at H ⊢; exact H)
       have hji18_ : (IntKind.u64.wrap (1 * 2 ^ min (ji16).toNat 64)) = ji18 := hji18
       have hji18z : (ji16) ≤ 64 → (IntKind.u64.wrap (1 * 2 ^ (ji16).toNat)) = ji18 := shl_small hji18
       have hji18u : (IntKind.u64.wrap (2 ^ min (ji16).toNat 64)) = ji18 := by have h_ := hji18_; rw [Int.one_mul] at h_; exact h_
       have hji18v : (ji16) ≤ 64 → (IntKind.u64.wrap (2 ^ (ji16).toNat)) = ji18 := fun hle_ => by have h_ := hji18z hle_; rw [Int.one_mul] at h_; exact h_
       have H' := Aside0.mk H
       clear H
       try go_wp2
       have n0_ : Aside0 (((w10.setCell ⟨gb251, 0, none⟩ (.int .u64 x251000_1)).setCell ⟨gb251, 1, none⟩ (.int .u64 x251001_1)).heap[gb248]? = some (.cells #[.int .u64 a0_0, .int .u64 a0_1, .int .u64 a0_2, .int .u64 a0_3] 26 (0, 0))) := ⟨by (with_reducible repeat (first | refine bN ?_ _ | refine bD ?_ | refine bL ?_ _)); refine bX ?_ NB248_251.out _; (with_reducible repeat (first | refine bN ?_ _ | refine bD ?_ | refine bL ?_ _)); refine bX ?_ NB248_251.out _; (with_reducible repeat (first | refine bN ?_ _ | refine bD ?_ | refine bL ?_ _)); exact BK248.out⟩
       have n1_ : Aside0 (((w10.setCell ⟨gb251, 0, none⟩ (.int .u64 x251000_1)).setCell ⟨gb251, 1, none⟩ (.int .u64 x251001_1)).heap[gb249]? = some (.cells #[.int .u64 0, .int .u64 0] 24 (0, 0))) := ⟨by (with_reducible repeat (first | refine bN ?_ _ | refine bD ?_ | refine bL ?_ _)); refine bX ?_ NB249_251.out _; (with_reducible repeat (first | refine bN ?_ _ | refine bD ?_ | refine bL ?_ _)); refine bX ?_ NB249_251.out _; (with_reducible repeat (first | refine bN ?_ _ | refine bD ?_ | refine bL ?_ _)); exact BK249.out⟩
       have n2_ : Aside0 (((w10.setCell ⟨gb251, 0, none⟩ (.int .u64 x251000_1)).setCell ⟨gb251, 1, none⟩ (.int .u64 x251001_1)).heap[gb250]? = some (.cells #[.int .u64 x251000_1, .int .u64 x251001_1] 24 (0, 0))) := ⟨by (with_reducible repeat (first | refine bN ?_ _ | refine bD ?_ | refine bL ?_ _)); refine bX ?_ NB250_251.out _; (with_reducible repeat (first | refine bN ?_ _ | refine bD ?_ | refine bL ?_ _)); refine bX ?_ NB250_251.out _; (with_reducible repeat (first | refine bN ?_ _ | refine bD ?_ | refine bL ?_ _)); exact BK250.out⟩
       have n3_ : Aside0 (((w10.setCell ⟨gb251, 0, none⟩ (.int .u64 x251000_1)).setCell ⟨gb251, 1, none⟩ (.int .u64 x251001_1)).heap[gb251]? = some (.cells #[.int .u64 x251000_1, .int .u64 x251001_1] 24 (0, 0))) := ⟨by (with_reducible repeat (first | refine bN ?_ _ | refine bD ?_ | refine bL ?_ _)); refine blk_put (cs := #[.int .u64 x251000_1, .int .u64 0]) ?_ 1 _ rfl; (with_reducible repeat (first | refine bN ?_ _ | refine bD ?_ | refine bL ?_ _)); refine blk_put (cs := #[.int .u64 0, .int .u64 0]) ?_ 0 _ rfl; (with_reducible repeat (first | refine bN ?_ _ | refine bD ?_ | refine bL ?_ _)); exact BK251.out⟩
       have n4_ : Aside0 (Below w.heap.size w ((w10.setCell ⟨gb251, 0, none⟩ (.int .u64 x251000_1)).setCell ⟨gb251, 1, none⟩ (.int .u64 x251001_1))) := ⟨by repeat (first | (with_reducible first | exact HB.out | apply below_alloc | apply pN | apply dI | refine below_set ?_ GE248.out | refine below_set ?_ GE249.out | refine below_set ?_ GE250.out | refine below_set ?_ GE251.out) | exact HB.out)⟩
       (try clear BK248)
       (try clear BK249)
       (try clear BK250)
       (try clear BK251)
       (try clear HB)
       generalize ((w10.setCell ⟨gb251, 0, none⟩ (.int .u64 x251000_1)).setCell ⟨gb251, 1, none⟩ (.int .u64 x251001_1)) = w19 at n0_ n1_ n2_ n3_ n4_ ⊢
       have BK248 := n0_
       have BK249 := n1_
       have BK250 := n2_
       have BK251 := n3_
       have HB := n4_
       clear n0_ n1_ n2_ n3_ n4_
       have n0_ := Aside0.mk (bD BK248.out)
       have n1_ := Aside0.mk (bD BK249.out)
       have n2_ := Aside0.mk (bD BK250.out)
       have n3_ := Aside0.mk (bD BK251.out)
       have n4_ := Aside0.mk (dI HB.out)
       clear BK248
       clear BK249
       clear BK250
       clear BK251
       clear HB
       have BK248 := n0_
       have BK249 := n1_
       have BK250 := n2_
       have BK251 := n3_
       have HB := n4_
       clear n0_ n1_ n2_ n3_ n4_
       refine start_ (n := 8) (S := fun w' => w'.cell? ⟨gb251, 0, none⟩ = some (.int .u64 x251000_1) ∧ w'.cell? ⟨gb251, 1, none⟩ = some (.int .u64 x251001_1)) (ds := [7]) (bA 8 0) (by kernel_rfl) rfl rfl ⟨(bC BK251.out 0).trans rfl, (bC BK251.out 1).trans rfl⟩ (fun hHeld => ?_); refine with_tabW perigeeref1_Root.tab7 perigeeref1_Root.bits7 (fun HT_ HW_ => ?_)
       generalize w19.drew = w20 at BK248 BK249 BK250 BK251 HB hHeld ⊢
       refine pure_ (i := 0) (N := some 13) (v := ?_) (a' := ?_) (bA 8 1) rfl rfl (any_of HT_.out (by kernel_rfl)) (fun _ _ _ h => h) (Or.inl ⟨by rfl, ?_⟩) ?_ ?_
       rotate_left
       ·intro w'
        go_simp
        with_reducible rfl
       rotate_left
       ·simp only [Act.put, List.setIfInBounds_toArray, List.set_cons_zero, List.set_cons_succ, i64_w, i32_w]
        rfl
       refine pure_ (i := 2) (N := some 15) (v := ?_) (a' := ?_) (bA 8 5) rfl rfl (any_of HT_.out (by kernel_rfl)) (fun _ _ _ h => h) (Or.inl ⟨by rfl, ?_⟩) ?_ ?_
       rotate_left
       ·intro w'
        go_simp
        with_reducible rfl
       rotate_left
       ·simp only [Act.put, List.setIfInBounds_toArray, List.set_cons_zero, List.set_cons_succ, i64_w, i32_w]
        rfl
       refine pure_ (i := 3) (N := some 16) (v := ?_) (a' := ?_) (bA 8 13) rfl rfl (any_of HT_.out (by kernel_rfl)) (fun _ _ _ h => h) (Or.inl ⟨by rfl, ?_⟩) ?_ ?_
       rotate_left
       ·intro w'
        go_simp
        with_reducible rfl
       rotate_left
       ·simp only [Act.put, List.setIfInBounds_toArray, List.set_cons_zero, List.set_cons_succ, i64_w, i32_w]
        rfl
       refine pure_ (i := 4) (N := some 17) (v := ?_) (a' := ?_) (bA 8 29) rfl rfl (any_of HT_.out (by kernel_rfl)) (fun _ _ _ h => h) (Or.inl ⟨by rfl, ?_⟩) ?_ ?_
       rotate_left
       ·intro w'
        go_simp
        with_reducible rfl
       rotate_left
       ·simp only [Act.put, List.setIfInBounds_toArray, List.set_cons_zero, List.set_cons_succ, i64_w, i32_w]
        rfl
       refine take_ (i := 1) (N := some 14) (v := ?_) (a' := ?_) (bA 8 31) rfl rfl (take_ofW HT_.out HW_.out (by kernel_rfl)) (fun _ _ _ h => h) (Or.inl ⟨by rfl, ?_⟩) hHeld ?_ ?_
       rotate_left
       ·rintro w' ⟨s0, s1⟩
        go_simp
        with_reducible rfl
       rotate_left
       ·simp only [Act.put, List.setIfInBounds_toArray, List.set_cons_zero, List.set_cons_succ, i64_w, i32_w]
        rfl
       refine pure_ (i := 5) (N := some 18) (v := ?_) (a' := ?_) (bA 8 63) rfl rfl (any_of HT_.out (by kernel_rfl)) (fun _ _ _ h => h) (Or.inl ⟨by rfl, ?_⟩) ?_ ?_
       rotate_left
       ·intro w'
        go_simp
        with_reducible rfl
       rotate_left
       ·simp only [Act.put, List.setIfInBounds_toArray, List.set_cons_zero, List.set_cons_succ, i64_w, i32_w]
        rfl
       refine pure_ (i := 6) (N := some 19) (v := ?_) (a' := ?_) (bA 8 127) rfl rfl (any_of HT_.out (by kernel_rfl)) (fun _ _ _ h => h) (Or.inl ⟨by rfl, ?_⟩) ?_ ?_
       rotate_left
       ·intro w'
        go_simp
        with_reducible rfl
       rotate_left
       ·simp only [Act.put, List.setIfInBounds_toArray, List.set_cons_zero, List.set_cons_succ, i64_w, i32_w]
        rfl
       refine last_ (i := 7) (N := none) (bA 8 255) rfl rfl (one_of HT_.out (by kernel_rfl)) (by decide) (fun K hK => ?_)
       have hs21 : w20.cell? ⟨gb251, 0, none⟩ = some (.int .u64 x251000_1) := (bC BK251.out 0).trans rfl
       have hfs21 := bF BK251.out 0
       have hns21_0 := NB248_251.out
       have hns21_1 := NB249_251.out
       have hns21_2 := NB250_251.out
       have hms21_0 := NB251_248.out
       have hms21_1 := NB251_249.out
       have hms21_2 := NB251_250.out
       refine skip_ (w1 := ?_) (by rfl) rfl ?_ ?_
       rotate_left
       ·go_simp
        rfl
       refine hK.out _ _ ?_
       clear hK K
       refine done_ (done_of HT_.out (by kernel_rfl)) ?_
       try go_wp2
       go_meet
       case rel => exact ⟨_, (Go.bits .or .u64 x251000_1 (ji18)), (x251001_1), H', ⟨by have := HK1.out; first | omega | exact Nat.le_refl _⟩, ⟨by (with_reducible repeat (first | refine bN ?_ _ | refine bD ?_ | refine bL ?_ _)); refine bX ?_ NB248_251.out _; (with_reducible repeat (first | refine bN ?_ _ | refine bD ?_ | refine bL ?_ _)); exact BK248.out⟩, ⟨by (with_reducible repeat (first | refine bN ?_ _ | refine bD ?_ | refine bL ?_ _)); refine bX ?_ NB249_251.out _; (with_reducible repeat (first | refine bN ?_ _ | refine bD ?_ | refine bL ?_ _)); exact BK249.out⟩, ⟨by (with_reducible repeat (first | refine bN ?_ _ | refine bD ?_ | refine bL ?_ _)); refine bX ?_ NB250_251.out _; (with_reducible repeat (first | refine bN ?_ _ | refine bD ?_ | refine bL ?_ _)); exact BK250.out⟩, ⟨by (with_reducible repeat (first | refine bN ?_ _ | refine bD ?_ | refine bL ?_ _)); refine blk_put (cs := #[.int .u64 x251000_1, .int .u64 x251001_1]) ?_ 0 _ rfl; (with_reducible repeat (first | refine bN ?_ _ | refine bD ?_ | refine bL ?_ _)); exact BK251.out⟩, ⟨by repeat (first | (with_reducible first | exact HB.out | apply below_alloc | apply pN | apply dI | refine below_set ?_ GE248.out | refine below_set ?_ GE249.out | refine below_set ?_ GE250.out | refine below_set ?_ GE251.out) | exact HB.out)⟩⟩
      ·rw [if_neg c17] at H
       exact absurd H (by simp)
     ·rw [if_neg c15] at H
      have c15b0 : decide (64 ≤ x4_1) = false := decide_eq_false c15
      clear c15
      (first | rw [c15b0] | (simp only [i64_w, i32_w]; rw [c15b0]) | skip)
      by_cases c22 : 0 ≤ x4_1
      ·rw [if_pos c22] at H
       have c22b0 := eq_true c22
       have c22b1 : decide (0 ≤ x4_1) = true := decide_eq_true c22
       clear c22
       obtain ⟨ji23, hji23⟩ : ∃ j_ : Int, (shl .u64 1 x4_1) = j_ := ⟨_, rfl⟩
       replace H : (perigeeref1_Root.j1 k1 x4_1 a0_0 a0_1 a0_2 a0_3 x251000_1 x251001_1 x251000_1 (Go.bits .or .u64 x251001_1 (ji23))) = some (r1, r2) := by first | (rw [hji23] at H; exact H) | (simp only [hji23] at H ⊢; exact H)
       have hji23_ : (IntKind.u64.wrap (1 * 2 ^ min x4_1.toNat 64)) = ji23 := hji23
       have hji23z : x4_1 ≤ 64 → (IntKind.u64.wrap (1 * 2 ^ x4_1.toNat)) = ji23 := shl_small hji23
       have hji23u : (IntKind.u64.wrap (2 ^ min x4_1.toNat 64)) = ji23 := by have h_ := hji23_; rw [Int.one_mul] at h_; exact h_
       have hji23v : x4_1 ≤ 64 → (IntKind.u64.wrap (2 ^ x4_1.toNat)) = ji23 := fun hle_ => by have h_ := hji23z hle_; rw [Int.one_mul] at h_; exact h_
       have H' := Aside0.mk H
       clear H
       try go_wp2
       have n0_ : Aside0 (((w10.setCell ⟨gb251, 0, none⟩ (.int .u64 x251000_1)).setCell ⟨gb251, 1, none⟩ (.int .u64 x251001_1)).heap[gb248]? = some (.cells #[.int .u64 a0_0, .int .u64 a0_1, .int .u64 a0_2, .int .u64 a0_3] 26 (0, 0))) := ⟨by (with_reducible repeat (first | refine bN ?_ _ | refine bD ?_ | refine bL ?_ _)); refine bX ?_ NB248_251.out _; (with_reducible repeat (first | refine bN ?_ _ | refine bD ?_ | refine bL ?_ _)); refine bX ?_ NB248_251.out _; (with_reducible repeat (first | refine bN ?_ _ | refine bD ?_ | refine bL ?_ _)); exact BK248.out⟩
       have n1_ : Aside0 (((w10.setCell ⟨gb251, 0, none⟩ (.int .u64 x251000_1)).setCell ⟨gb251, 1, none⟩ (.int .u64 x251001_1)).heap[gb249]? = some (.cells #[.int .u64 0, .int .u64 0] 24 (0, 0))) := ⟨by (with_reducible repeat (first | refine bN ?_ _ | refine bD ?_ | refine bL ?_ _)); refine bX ?_ NB249_251.out _; (with_reducible repeat (first | refine bN ?_ _ | refine bD ?_ | refine bL ?_ _)); refine bX ?_ NB249_251.out _; (with_reducible repeat (first | refine bN ?_ _ | refine bD ?_ | refine bL ?_ _)); exact BK249.out⟩
       have n2_ : Aside0 (((w10.setCell ⟨gb251, 0, none⟩ (.int .u64 x251000_1)).setCell ⟨gb251, 1, none⟩ (.int .u64 x251001_1)).heap[gb250]? = some (.cells #[.int .u64 x251000_1, .int .u64 x251001_1] 24 (0, 0))) := ⟨by (with_reducible repeat (first | refine bN ?_ _ | refine bD ?_ | refine bL ?_ _)); refine bX ?_ NB250_251.out _; (with_reducible repeat (first | refine bN ?_ _ | refine bD ?_ | refine bL ?_ _)); refine bX ?_ NB250_251.out _; (with_reducible repeat (first | refine bN ?_ _ | refine bD ?_ | refine bL ?_ _)); exact BK250.out⟩
       have n3_ : Aside0 (((w10.setCell ⟨gb251, 0, none⟩ (.int .u64 x251000_1)).setCell ⟨gb251, 1, none⟩ (.int .u64 x251001_1)).heap[gb251]? = some (.cells #[.int .u64 x251000_1, .int .u64 x251001_1] 24 (0, 0))) := ⟨by (with_reducible repeat (first | refine bN ?_ _ | refine bD ?_ | refine bL ?_ _)); refine blk_put (cs := #[.int .u64 x251000_1, .int .u64 0]) ?_ 1 _ rfl; (with_reducible repeat (first | refine bN ?_ _ | refine bD ?_ | refine bL ?_ _)); refine blk_put (cs := #[.int .u64 0, .int .u64 0]) ?_ 0 _ rfl; (with_reducible repeat (first | refine bN ?_ _ | refine bD ?_ | refine bL ?_ _)); exact BK251.out⟩
       have n4_ : Aside0 (Below w.heap.size w ((w10.setCell ⟨gb251, 0, none⟩ (.int .u64 x251000_1)).setCell ⟨gb251, 1, none⟩ (.int .u64 x251001_1))) := ⟨by repeat (first | (with_reducible first | exact HB.out | apply below_alloc | apply pN | apply dI | refine below_set ?_ GE248.out | refine below_set ?_ GE249.out | refine below_set ?_ GE250.out | refine below_set ?_ GE251.out) | exact HB.out)⟩
       (try clear BK248)
       (try clear BK249)
       (try clear BK250)
       (try clear BK251)
       (try clear HB)
       generalize ((w10.setCell ⟨gb251, 0, none⟩ (.int .u64 x251000_1)).setCell ⟨gb251, 1, none⟩ (.int .u64 x251001_1)) = w24 at n0_ n1_ n2_ n3_ n4_ ⊢
       have BK248 := n0_
       have BK249 := n1_
       have BK250 := n2_
       have BK251 := n3_
       have HB := n4_
       clear n0_ n1_ n2_ n3_ n4_
       have n0_ := Aside0.mk (bD BK248.out)
       have n1_ := Aside0.mk (bD BK249.out)
       have n2_ := Aside0.mk (bD BK250.out)
       have n3_ := Aside0.mk (bD BK251.out)
       have n4_ := Aside0.mk (dI HB.out)
       clear BK248
       clear BK249
       clear BK250
       clear BK251
       clear HB
       have BK248 := n0_
       have BK249 := n1_
       have BK250 := n2_
       have BK251 := n3_
       have HB := n4_
       clear n0_ n1_ n2_ n3_ n4_
       refine start_ (n := 7) (S := fun w' => w'.cell? ⟨gb251, 0, none⟩ = some (.int .u64 x251000_1) ∧ w'.cell? ⟨gb251, 1, none⟩ = some (.int .u64 x251001_1)) (ds := [6]) (bA 7 0) (by kernel_rfl) rfl rfl ⟨(bC BK251.out 0).trans rfl, (bC BK251.out 1).trans rfl⟩ (fun hHeld => ?_)
       generalize w24.drew = w25 at BK248 BK249 BK250 BK251 HB hHeld ⊢
       refine pure_ (i := 0) (N := some 20) (v := ?_) (a' := ?_) (bA 7 1) rfl rfl (by kernel_rfl) (fun _ _ _ h => h) (Or.inl ⟨by rfl, ?_⟩) ?_ ?_
       rotate_left
       ·intro w'
        go_simp
        with_reducible rfl
       rotate_left
       ·simp only [Act.put, List.setIfInBounds_toArray, List.set_cons_zero, List.set_cons_succ, i64_w, i32_w]
        rfl
       refine pure_ (i := 2) (N := some 22) (v := ?_) (a' := ?_) (bA 7 5) rfl rfl (by kernel_rfl) (fun _ _ _ h => h) (Or.inl ⟨by rfl, ?_⟩) ?_ ?_
       rotate_left
       ·intro w'
        go_simp
        with_reducible rfl
       rotate_left
       ·simp only [Act.put, List.setIfInBounds_toArray, List.set_cons_zero, List.set_cons_succ, i64_w, i32_w]
        rfl
       refine pure_ (i := 3) (N := some 23) (v := ?_) (a' := ?_) (bA 7 13) rfl rfl (by kernel_rfl) (fun _ _ _ h => h) (Or.inl ⟨by rfl, ?_⟩) ?_ ?_
       rotate_left
       ·intro w'
        go_simp
        with_reducible rfl
       rotate_left
       ·simp only [Act.put, List.setIfInBounds_toArray, List.set_cons_zero, List.set_cons_succ, i64_w, i32_w]
        rfl
       refine take_ (i := 1) (N := some 21) (v := ?_) (a' := ?_) (bA 7 15) rfl rfl (by kernel_rfl) (fun _ _ _ h => h) (Or.inl ⟨by rfl, ?_⟩) hHeld ?_ ?_
       rotate_left
       ·rintro w' ⟨s0, s1⟩
        go_simp
        with_reducible rfl
       rotate_left
       ·simp only [Act.put, List.setIfInBounds_toArray, List.set_cons_zero, List.set_cons_succ, i64_w, i32_w]
        rfl
       refine pure_ (i := 4) (N := some 24) (v := ?_) (a' := ?_) (bA 7 31) rfl rfl (by kernel_rfl) (fun _ _ _ h => h) (Or.inl ⟨by rfl, ?_⟩) ?_ ?_
       rotate_left
       ·intro w'
        go_simp
        with_reducible rfl
       rotate_left
       ·simp only [Act.put, List.setIfInBounds_toArray, List.set_cons_zero, List.set_cons_succ, i64_w, i32_w]
        rfl
       refine pure_ (i := 5) (N := some 25) (v := ?_) (a' := ?_) (bA 7 63) rfl rfl (by kernel_rfl) (fun _ _ _ h => h) (Or.inl ⟨by rfl, ?_⟩) ?_ ?_
       rotate_left
       ·intro w'
        go_simp
        with_reducible rfl
       rotate_left
       ·simp only [Act.put, List.setIfInBounds_toArray, List.set_cons_zero, List.set_cons_succ, i64_w, i32_w]
        rfl
       refine last_ (i := 6) (N := none) (bA 7 127) rfl rfl (by kernel_rfl) (by decide) (fun K hK => ?_)
       have hs26 : w25.cell? ⟨gb251, 1, none⟩ = some (.int .u64 x251001_1) := (bC BK251.out 1).trans rfl
       have hfs26 := bF BK251.out 1
       have hns26_0 := NB248_251.out
       have hns26_1 := NB249_251.out
       have hns26_2 := NB250_251.out
       have hms26_0 := NB251_248.out
       have hms26_1 := NB251_249.out
       have hms26_2 := NB251_250.out
       refine skip_ (w1 := ?_) (by rfl) rfl ?_ ?_
       rotate_left
       ·go_simp
        rfl
       refine hK.out _ _ ?_
       clear hK K
       refine done_ (by kernel_rfl) ?_
       try go_wp2
       go_meet
       case rel => exact ⟨_, (x251000_1), (Go.bits .or .u64 x251001_1 (ji23)), H', ⟨by have := HK1.out; first | omega | exact Nat.le_refl _⟩, ⟨by (with_reducible repeat (first | refine bN ?_ _ | refine bD ?_ | refine bL ?_ _)); refine bX ?_ NB248_251.out _; (with_reducible repeat (first | refine bN ?_ _ | refine bD ?_ | refine bL ?_ _)); exact BK248.out⟩, ⟨by (with_reducible repeat (first | refine bN ?_ _ | refine bD ?_ | refine bL ?_ _)); refine bX ?_ NB249_251.out _; (with_reducible repeat (first | refine bN ?_ _ | refine bD ?_ | refine bL ?_ _)); exact BK249.out⟩, ⟨by (with_reducible repeat (first | refine bN ?_ _ | refine bD ?_ | refine bL ?_ _)); refine bX ?_ NB250_251.out _; (with_reducible repeat (first | refine bN ?_ _ | refine bD ?_ | refine bL ?_ _)); exact BK250.out⟩, ⟨by (with_reducible repeat (first | refine bN ?_ _ | refine bD ?_ | refine bL ?_ _)); refine blk_put (cs := #[.int .u64 x251000_1, .int .u64 x251001_1]) ?_ 1 _ rfl; (with_reducible repeat (first | refine bN ?_ _ | refine bD ?_ | refine bL ?_ _)); exact BK251.out⟩, ⟨by repeat (first | (with_reducible first | exact HB.out | apply below_alloc | apply pN | apply dI | refine below_set ?_ GE248.out | refine below_set ?_ GE249.out | refine below_set ?_ GE250.out | refine below_set ?_ GE251.out) | exact HB.out)⟩⟩
      ·rw [if_neg c22] at H
       exact absurd H (by simp)
    case rest =>
     clear HC6
     try clear c1
     try clear c2
     try clear p2
     try clear c3
     try clear c5
     try clear c5b0
     try clear p6
     try clear c7
     try clear c8
     try clear c11
     try clear c12
     try clear c13
     try clear c15
     try clear c15b0
     try clear c17
     try clear c17b0
     try clear c17b1
     try clear c22
     try clear c22b0
     try clear c22b1
     try clear hcz14_0
     try clear hcz14_1
     try clear hcz9_0
     try clear hcz9_1
     try clear hfz14_0
     try clear hfz14_1
     try clear hfz9_0
     try clear hfz9_1
     try clear p2
     obtain ⟨kq, x252000_5, x252001_5, HA, HJ5, BK248, BK249, BK250, BK251, HB⟩ := hcut
     cases kq with
     | zero => exact absurd HA.out (by simp [perigeeref1_Root.j1])
     | succ kj5 =>
      have H := HA.out
      clear HA
      simp only [perigeeref1_Root.j1] at H
      replace H := Option.bind_eq_some_iff.mp H
      obtain ⟨⟨t252, t253, t254, t255⟩, A270, H⟩ := H
      replace H : ((perigeeref1_CmpFour.f kj5 t252 t253 t254 t255 a0_0 a0_1 a0_2 a0_3).bind fun t256 => (if t256 ≤ 0 then (perigeeref1_Root.l0 kj5 (wrap64 (x4_1 - 1)) a0_0 a0_1 a0_2 a0_3 x252000_5 x252001_5) else (perigeeref1_Root.l0 kj5 (wrap64 (x4_1 - 1)) a0_0 a0_1 a0_2 a0_3 x251000_1 x251001_1))) = some (r1, r2) := H
      have A27 := Aside0.mk A270
      clear A270
      replace H := Option.bind_eq_some_iff.mp H
      obtain ⟨t256, A280, H⟩ := H
      replace H : (if t256 ≤ 0 then (perigeeref1_Root.l0 kj5 (wrap64 (x4_1 - 1)) a0_0 a0_1 a0_2 a0_3 x252000_5 x252001_5) else (perigeeref1_Root.l0 kj5 (wrap64 (x4_1 - 1)) a0_0 a0_1 a0_2 a0_3 x251000_1 x251001_1)) = some (r1, r2) := H
      have A28 := Aside0.mk A280
      clear A280
      by_cases c29 : t256 ≤ 0
      ·rw [if_pos c29] at H
       have c29b0 : decide (t256 ≤ 0) = true := decide_eq_true c29
       clear c29
       have H' := Aside0.mk H
       clear H
       try go_wp2
       have n0_ := Aside0.mk (bD BK248.out)
       have n1_ := Aside0.mk (bD BK249.out)
       have n2_ := Aside0.mk (bD BK250.out)
       have n3_ := Aside0.mk (bD BK251.out)
       have n4_ := Aside0.mk (dI HB.out)
       clear BK248
       clear BK249
       clear BK250
       clear BK251
       clear HB
       have BK248 := n0_
       have BK249 := n1_
       have BK250 := n2_
       have BK251 := n3_
       have HB := n4_
       clear n0_ n1_ n2_ n3_ n4_
       refine start_ (n := 6) (S := fun w' => w'.cell? ⟨gb251, 0, none⟩ = some (.int .u64 x252000_5) ∧ w'.cell? ⟨gb251, 1, none⟩ = some (.int .u64 x252001_5) ∧ w'.cell? ⟨gb248, 0, none⟩ = some (.int .u64 a0_0) ∧ w'.cell? ⟨gb248, 1, none⟩ = some (.int .u64 a0_1) ∧ w'.cell? ⟨gb248, 2, none⟩ = some (.int .u64 a0_2) ∧ w'.cell? ⟨gb248, 3, none⟩ = some (.int .u64 a0_3)) (ds := []) (bA 6 0) (by kernel_rfl) rfl rfl ⟨(bC BK251.out 0).trans rfl, (bC BK251.out 1).trans rfl, (bC BK248.out 0).trans rfl, (bC BK248.out 1).trans rfl, (bC BK248.out 2).trans rfl, (bC BK248.out 3).trans rfl⟩ (fun hHeld => ?_)
       generalize wc.drew = w30 at BK248 BK249 BK250 BK251 HB hHeld ⊢
       refine take_ (i := 0) (N := some 26) (v := ?_) (a' := ?_) (bA 6 1) rfl rfl (by kernel_rfl) (fun _ _ _ h => h) (Or.inl ⟨by rfl, ?_⟩) hHeld ?_ ?_
       rotate_left
       ·rintro w' ⟨s0, s1, s2, s3, s4, s5⟩
        go_simp
        with_reducible rfl
       rotate_left
       ·simp only [Act.put, List.setIfInBounds_toArray, List.set_cons_zero, List.set_cons_succ, i64_w, i32_w]
        rfl
       refine take_ (i := 1) (N := some 27) (v := ?_) (a' := ?_) (bA 6 3) rfl rfl (by kernel_rfl) (fun _ _ _ h => h) (Or.inl ⟨by rfl, ?_⟩) hHeld ?_ ?_
       rotate_left
       ·rintro w' ⟨s0, s1, s2, s3, s4, s5⟩
        go_simp
        with_reducible rfl
       rotate_left
       ·simp only [Act.put, List.setIfInBounds_toArray, List.set_cons_zero, List.set_cons_succ, i64_w, i32_w]
        rfl
       refine take_ (i := 3) (N := some 29) (v := ?_) (a' := ?_) (bA 6 11) rfl rfl (by kernel_rfl) (fun _ _ _ h => h) (Or.inl ⟨by rfl, ?_⟩) hHeld ?_ ?_
       rotate_left
       ·rintro w' ⟨s0, s1, s2, s3, s4, s5⟩
        go_simp
        with_reducible rfl
       rotate_left
       ·simp only [Act.put, List.setIfInBounds_toArray, List.set_cons_zero, List.set_cons_succ, i64_w, i32_w]
        rfl
       refine one_ (i := 2) (N := some 28) (bA 6 15) rfl rfl (by kernel_rfl) (by decide) (fun K hK => ?_)
       refine goes_ Try.func15 (by kernel_rfl) rfl #[.agg #[.int .u64 x252000_5, .int .u64 x252001_5], .agg #[.int .u64 x252000_5, .int .u64 x252001_5]] (by rfl) rfl rfl (by (try simp only [List.map_toArray, List.map_cons, List.map_nil]); first | done | rfl | (simp only [List.length_drop, List.length_take]; rfl)) ?_
       with_reducible refine (perigeeref1_MulTwo.calls x252000_5 x252001_5 x252000_5 x252001_5 t252 t253 t254 t255 _ A27.out).mono ?_
       rintro e w31 ⟨rfl, hb⟩
       refine ⟨_, rfl, ?_⟩
       have n0_ := Aside0.mk (bB (g := gb248) (o := .cells #[.int .u64 a0_0, .int .u64 a0_1, .int .u64 a0_2, .int .u64 a0_3] 26 (0, 0)) (by (with_reducible repeat (first | refine bN ?_ _ | refine bD ?_ | refine bL ?_ _)); exact BK248.out) hb)
       have n1_ := Aside0.mk (bB (g := gb249) (o := .cells #[.int .u64 0, .int .u64 0] 24 (0, 0)) (by (with_reducible repeat (first | refine bN ?_ _ | refine bD ?_ | refine bL ?_ _)); exact BK249.out) hb)
       have n2_ := Aside0.mk (bB (g := gb250) (o := .cells #[.int .u64 x251000_1, .int .u64 x251001_1] 24 (0, 0)) (by (with_reducible repeat (first | refine bN ?_ _ | refine bD ?_ | refine bL ?_ _)); exact BK250.out) hb)
       have n3_ := Aside0.mk (bB (g := gb251) (o := .cells #[.int .u64 x252000_5, .int .u64 x252001_5] 24 (0, 0)) (by (with_reducible repeat (first | refine bN ?_ _ | refine bD ?_ | refine bL ?_ _)); exact BK251.out) hb)
       have n4_ := Aside0.mk (below_step (by repeat (first | (with_reducible first | exact HB.out | apply below_alloc | apply pN | apply dI | refine below_set ?_ GE248.out | refine below_set ?_ GE249.out | refine below_set ?_ GE250.out | refine below_set ?_ GE251.out) | exact HB.out)) hb)
       clear BK248
       clear BK249
       clear BK250
       clear BK251
       clear HB
       have BK248 := n0_
       have BK249 := n1_
       have BK250 := n2_
       have BK251 := n3_
       have HB := n4_
       clear n0_ n1_ n2_ n3_ n4_
       (try clear hb)
       (try clear hb2)
       (try clear hk)
       (try clear hi)
       refine hK.out _ _ ⟨(bC BK251.out 0).trans rfl, (bC BK251.out 1).trans rfl, (bC BK248.out 0).trans rfl, (bC BK248.out 1).trans rfl, (bC BK248.out 2).trans rfl, (bC BK248.out 3).trans rfl⟩ (fun hHeld => ?_)
       clear hK K
       refine norm_ (a' := ?_) ?_ ?_
       rotate_left
       ·show Act.put _ (some 28) _ = _
        simp only [Act.put, List.setIfInBounds_toArray, List.set_cons_zero, List.set_cons_succ, i64_w, i32_w]
        rfl
       refine one_ (i := 4) (N := some 30) (bA 6 31) rfl rfl (by kernel_rfl) (by decide) (fun K hK => ?_)
       refine goes_ Try.func27 (by kernel_rfl) rfl #[.agg #[.int .u64 t252, .int .u64 t253, .int .u64 t254, .int .u64 t255], .agg #[.int .u64 a0_0, .int .u64 a0_1, .int .u64 a0_2, .int .u64 a0_3]] (by rfl) rfl rfl (by (try simp only [List.map_toArray, List.map_cons, List.map_nil]); first | done | rfl | (simp only [List.length_drop, List.length_take]; rfl)) ?_
       with_reducible refine (perigeeref1_CmpFour.calls kj5 t252 t253 t254 t255 a0_0 a0_1 a0_2 a0_3 t256 _ A28.out).mono ?_
       rintro e w32 ⟨rfl, hb⟩
       refine ⟨_, rfl, ?_⟩
       have n0_ := Aside0.mk (bB (g := gb248) (o := .cells #[.int .u64 a0_0, .int .u64 a0_1, .int .u64 a0_2, .int .u64 a0_3] 26 (0, 0)) (by (with_reducible repeat (first | refine bN ?_ _ | refine bD ?_ | refine bL ?_ _)); exact BK248.out) hb)
       have n1_ := Aside0.mk (bB (g := gb249) (o := .cells #[.int .u64 0, .int .u64 0] 24 (0, 0)) (by (with_reducible repeat (first | refine bN ?_ _ | refine bD ?_ | refine bL ?_ _)); exact BK249.out) hb)
       have n2_ := Aside0.mk (bB (g := gb250) (o := .cells #[.int .u64 x251000_1, .int .u64 x251001_1] 24 (0, 0)) (by (with_reducible repeat (first | refine bN ?_ _ | refine bD ?_ | refine bL ?_ _)); exact BK250.out) hb)
       have n3_ := Aside0.mk (bB (g := gb251) (o := .cells #[.int .u64 x252000_5, .int .u64 x252001_5] 24 (0, 0)) (by (with_reducible repeat (first | refine bN ?_ _ | refine bD ?_ | refine bL ?_ _)); exact BK251.out) hb)
       have n4_ := Aside0.mk (below_step (by repeat (first | (with_reducible first | exact HB.out | apply below_alloc | apply pN | apply dI | refine below_set ?_ GE248.out | refine below_set ?_ GE249.out | refine below_set ?_ GE250.out | refine below_set ?_ GE251.out) | exact HB.out)) hb)
       clear BK248
       clear BK249
       clear BK250
       clear BK251
       clear HB
       have BK248 := n0_
       have BK249 := n1_
       have BK250 := n2_
       have BK251 := n3_
       have HB := n4_
       clear n0_ n1_ n2_ n3_ n4_
       (try clear hb)
       (try clear hb2)
       (try clear hk)
       (try clear hi)
       refine hK.out _ _ ⟨(bC BK251.out 0).trans rfl, (bC BK251.out 1).trans rfl, (bC BK248.out 0).trans rfl, (bC BK248.out 1).trans rfl, (bC BK248.out 2).trans rfl, (bC BK248.out 3).trans rfl⟩ (fun hHeld => ?_)
       clear hK K
       refine norm_ (a' := ?_) ?_ ?_
       rotate_left
       ·show Act.put _ (some 30) _ = _
        simp only [Act.put, List.setIfInBounds_toArray, List.set_cons_zero, List.set_cons_succ, i64_w, i32_w]
        rfl
       refine pure_ (i := 5) (N := some 31) (v := ?_) (a' := ?_) (bA 6 63) rfl rfl (by kernel_rfl) (fun _ _ _ h => h) (Or.inl ⟨by rfl, ?_⟩) ?_ ?_
       rotate_left
       ·intro w'
        go_simp
        with_reducible rfl
       rotate_left
       ·simp only [Act.put, List.setIfInBounds_toArray, List.set_cons_zero, List.set_cons_succ, i64_w, i32_w]
        rfl
       refine done_ (by kernel_rfl) ?_
       have hnb33 := NB251_248.out
       have hnc33 := NB248_251.out
       have hnb34 := NB251_249.out
       have hnc34 := NB249_251.out
       have hnb35 := NB251_250.out
       have hnc35 := NB250_251.out
       have hcz36_0 : w32.cell? ⟨gb251, 0, none⟩ = some (.int .u64 x252000_5) := (bC BK251.out 0).trans rfl
       have hcz36_1 : w32.cell? ⟨gb251, 1, none⟩ = some (.int .u64 x252001_5) := (bC BK251.out 1).trans rfl
       have hfz36_0 := bF BK251.out 0
       have hfz36_1 := bF BK251.out 1
       have hnb37 := NB250_248.out
       have hnc37 := NB248_250.out
       have hnb38 := NB250_249.out
       have hnc38 := NB249_250.out
       have hcz39_0 : w32.cell? ⟨gb250, 0, none⟩ = some (.int .u64 x251000_1) := (bC BK250.out 0).trans rfl
       have hcz39_1 : w32.cell? ⟨gb250, 1, none⟩ = some (.int .u64 x251001_1) := (bC BK250.out 1).trans rfl
       have hfz39_0 := bF BK250.out 0
       have hfz39_1 := bF BK250.out 1
       try go_wp2
       go_roundg kj5
       case measure => have := HK1.out; have := HJ5.out; omega
       case rel => exact ⟨(wrap64 (x4_1 - 1)), (x252000_5), (x252001_5), (by first | rfl | (simp; done) | (simp [*]; done)), H', ⟨by have := HK1.out; have := HJ5.out; omega⟩, ⟨by (with_reducible repeat (first | refine bN ?_ _ | refine bD ?_ | refine bL ?_ _)); refine bX ?_ NB248_250.out _; (with_reducible repeat (first | refine bN ?_ _ | refine bD ?_ | refine bL ?_ _)); refine bX ?_ NB248_250.out _; (with_reducible repeat (first | refine bN ?_ _ | refine bD ?_ | refine bL ?_ _)); exact BK248.out⟩, ⟨by (with_reducible repeat (first | refine bN ?_ _ | refine bD ?_ | refine bL ?_ _)); refine bX ?_ NB249_250.out _; (with_reducible repeat (first | refine bN ?_ _ | refine bD ?_ | refine bL ?_ _)); refine bX ?_ NB249_250.out _; (with_reducible repeat (first | refine bN ?_ _ | refine bD ?_ | refine bL ?_ _)); exact BK249.out⟩, ⟨by (with_reducible repeat (first | refine bN ?_ _ | refine bD ?_ | refine bL ?_ _)); refine blk_put (cs := #[.int .u64 x252000_5, .int .u64 x251001_1]) ?_ 1 _ rfl; (with_reducible repeat (first | refine bN ?_ _ | refine bD ?_ | refine bL ?_ _)); refine blk_put (cs := #[.int .u64 x251000_1, .int .u64 x251001_1]) ?_ 0 _ rfl; (with_reducible repeat (first | refine bN ?_ _ | refine bD ?_ | refine bL ?_ _)); exact BK250.out⟩, ⟨by repeat (first | (with_reducible first | exact HB.out | apply below_alloc | apply pN | apply dI | refine below_set ?_ GE248.out | refine below_set ?_ GE249.out | refine below_set ?_ GE250.out | refine below_set ?_ GE251.out) | exact HB.out)⟩⟩
      ·rw [if_neg c29] at H
       have c29b0 : decide (t256 ≤ 0) = false := decide_eq_false c29
       clear c29
       have H' := Aside0.mk H
       clear H
       try go_wp2
       have n0_ := Aside0.mk (bD BK248.out)
       have n1_ := Aside0.mk (bD BK249.out)
       have n2_ := Aside0.mk (bD BK250.out)
       have n3_ := Aside0.mk (bD BK251.out)
       have n4_ := Aside0.mk (dI HB.out)
       clear BK248
       clear BK249
       clear BK250
       clear BK251
       clear HB
       have BK248 := n0_
       have BK249 := n1_
       have BK250 := n2_
       have BK251 := n3_
       have HB := n4_
       clear n0_ n1_ n2_ n3_ n4_
       refine start_ (n := 6) (S := fun w' => w'.cell? ⟨gb251, 0, none⟩ = some (.int .u64 x252000_5) ∧ w'.cell? ⟨gb251, 1, none⟩ = some (.int .u64 x252001_5) ∧ w'.cell? ⟨gb248, 0, none⟩ = some (.int .u64 a0_0) ∧ w'.cell? ⟨gb248, 1, none⟩ = some (.int .u64 a0_1) ∧ w'.cell? ⟨gb248, 2, none⟩ = some (.int .u64 a0_2) ∧ w'.cell? ⟨gb248, 3, none⟩ = some (.int .u64 a0_3)) (ds := []) (bA 6 0) (by kernel_rfl) rfl rfl ⟨(bC BK251.out 0).trans rfl, (bC BK251.out 1).trans rfl, (bC BK248.out 0).trans rfl, (bC BK248.out 1).trans rfl, (bC BK248.out 2).trans rfl, (bC BK248.out 3).trans rfl⟩ (fun hHeld => ?_)
       generalize wc.drew = w40 at BK248 BK249 BK250 BK251 HB hHeld ⊢
       refine take_ (i := 0) (N := some 26) (v := ?_) (a' := ?_) (bA 6 1) rfl rfl (by kernel_rfl) (fun _ _ _ h => h) (Or.inl ⟨by rfl, ?_⟩) hHeld ?_ ?_
       rotate_left
       ·rintro w' ⟨s0, s1, s2, s3, s4, s5⟩
        go_simp
        with_reducible rfl
       rotate_left
       ·simp only [Act.put, List.setIfInBounds_toArray, List.set_cons_zero, List.set_cons_succ, i64_w, i32_w]
        rfl
       refine take_ (i := 1) (N := some 27) (v := ?_) (a' := ?_) (bA 6 3) rfl rfl (by kernel_rfl) (fun _ _ _ h => h) (Or.inl ⟨by rfl, ?_⟩) hHeld ?_ ?_
       rotate_left
       ·rintro w' ⟨s0, s1, s2, s3, s4, s5⟩
        go_simp
        with_reducible rfl
       rotate_left
       ·simp only [Act.put, List.setIfInBounds_toArray, List.set_cons_zero, List.set_cons_succ, i64_w, i32_w]
        rfl
       refine take_ (i := 3) (N := some 29) (v := ?_) (a' := ?_) (bA 6 11) rfl rfl (by kernel_rfl) (fun _ _ _ h => h) (Or.inl ⟨by rfl, ?_⟩) hHeld ?_ ?_
       rotate_left
       ·rintro w' ⟨s0, s1, s2, s3, s4, s5⟩
        go_simp
        with_reducible rfl
       rotate_left
       ·simp only [Act.put, List.setIfInBounds_toArray, List.set_cons_zero, List.set_cons_succ, i64_w, i32_w]
        rfl
       refine one_ (i := 2) (N := some 28) (bA 6 15) rfl rfl (by kernel_rfl) (by decide) (fun K hK => ?_)
       refine goes_ Try.func15 (by kernel_rfl) rfl #[.agg #[.int .u64 x252000_5, .int .u64 x252001_5], .agg #[.int .u64 x252000_5, .int .u64 x252001_5]] (by rfl) rfl rfl (by (try simp only [List.map_toArray, List.map_cons, List.map_nil]); first | done | rfl | (simp only [List.length_drop, List.length_take]; rfl)) ?_
       with_reducible refine (perigeeref1_MulTwo.calls x252000_5 x252001_5 x252000_5 x252001_5 t252 t253 t254 t255 _ A27.out).mono ?_
       rintro e w41 ⟨rfl, hb⟩
       refine ⟨_, rfl, ?_⟩
       have n0_ := Aside0.mk (bB (g := gb248) (o := .cells #[.int .u64 a0_0, .int .u64 a0_1, .int .u64 a0_2, .int .u64 a0_3] 26 (0, 0)) (by (with_reducible repeat (first | refine bN ?_ _ | refine bD ?_ | refine bL ?_ _)); exact BK248.out) hb)
       have n1_ := Aside0.mk (bB (g := gb249) (o := .cells #[.int .u64 0, .int .u64 0] 24 (0, 0)) (by (with_reducible repeat (first | refine bN ?_ _ | refine bD ?_ | refine bL ?_ _)); exact BK249.out) hb)
       have n2_ := Aside0.mk (bB (g := gb250) (o := .cells #[.int .u64 x251000_1, .int .u64 x251001_1] 24 (0, 0)) (by (with_reducible repeat (first | refine bN ?_ _ | refine bD ?_ | refine bL ?_ _)); exact BK250.out) hb)
       have n3_ := Aside0.mk (bB (g := gb251) (o := .cells #[.int .u64 x252000_5, .int .u64 x252001_5] 24 (0, 0)) (by (with_reducible repeat (first | refine bN ?_ _ | refine bD ?_ | refine bL ?_ _)); exact BK251.out) hb)
       have n4_ := Aside0.mk (below_step (by repeat (first | (with_reducible first | exact HB.out | apply below_alloc | apply pN | apply dI | refine below_set ?_ GE248.out | refine below_set ?_ GE249.out | refine below_set ?_ GE250.out | refine below_set ?_ GE251.out) | exact HB.out)) hb)
       clear BK248
       clear BK249
       clear BK250
       clear BK251
       clear HB
       have BK248 := n0_
       have BK249 := n1_
       have BK250 := n2_
       have BK251 := n3_
       have HB := n4_
       clear n0_ n1_ n2_ n3_ n4_
       (try clear hb)
       (try clear hb2)
       (try clear hk)
       (try clear hi)
       refine hK.out _ _ ⟨(bC BK251.out 0).trans rfl, (bC BK251.out 1).trans rfl, (bC BK248.out 0).trans rfl, (bC BK248.out 1).trans rfl, (bC BK248.out 2).trans rfl, (bC BK248.out 3).trans rfl⟩ (fun hHeld => ?_)
       clear hK K
       refine norm_ (a' := ?_) ?_ ?_
       rotate_left
       ·show Act.put _ (some 28) _ = _
        simp only [Act.put, List.setIfInBounds_toArray, List.set_cons_zero, List.set_cons_succ, i64_w, i32_w]
        rfl
       refine one_ (i := 4) (N := some 30) (bA 6 31) rfl rfl (by kernel_rfl) (by decide) (fun K hK => ?_)
       refine goes_ Try.func27 (by kernel_rfl) rfl #[.agg #[.int .u64 t252, .int .u64 t253, .int .u64 t254, .int .u64 t255], .agg #[.int .u64 a0_0, .int .u64 a0_1, .int .u64 a0_2, .int .u64 a0_3]] (by rfl) rfl rfl (by (try simp only [List.map_toArray, List.map_cons, List.map_nil]); first | done | rfl | (simp only [List.length_drop, List.length_take]; rfl)) ?_
       with_reducible refine (perigeeref1_CmpFour.calls kj5 t252 t253 t254 t255 a0_0 a0_1 a0_2 a0_3 t256 _ A28.out).mono ?_
       rintro e w42 ⟨rfl, hb⟩
       refine ⟨_, rfl, ?_⟩
       have n0_ := Aside0.mk (bB (g := gb248) (o := .cells #[.int .u64 a0_0, .int .u64 a0_1, .int .u64 a0_2, .int .u64 a0_3] 26 (0, 0)) (by (with_reducible repeat (first | refine bN ?_ _ | refine bD ?_ | refine bL ?_ _)); exact BK248.out) hb)
       have n1_ := Aside0.mk (bB (g := gb249) (o := .cells #[.int .u64 0, .int .u64 0] 24 (0, 0)) (by (with_reducible repeat (first | refine bN ?_ _ | refine bD ?_ | refine bL ?_ _)); exact BK249.out) hb)
       have n2_ := Aside0.mk (bB (g := gb250) (o := .cells #[.int .u64 x251000_1, .int .u64 x251001_1] 24 (0, 0)) (by (with_reducible repeat (first | refine bN ?_ _ | refine bD ?_ | refine bL ?_ _)); exact BK250.out) hb)
       have n3_ := Aside0.mk (bB (g := gb251) (o := .cells #[.int .u64 x252000_5, .int .u64 x252001_5] 24 (0, 0)) (by (with_reducible repeat (first | refine bN ?_ _ | refine bD ?_ | refine bL ?_ _)); exact BK251.out) hb)
       have n4_ := Aside0.mk (below_step (by repeat (first | (with_reducible first | exact HB.out | apply below_alloc | apply pN | apply dI | refine below_set ?_ GE248.out | refine below_set ?_ GE249.out | refine below_set ?_ GE250.out | refine below_set ?_ GE251.out) | exact HB.out)) hb)
       clear BK248
       clear BK249
       clear BK250
       clear BK251
       clear HB
       have BK248 := n0_
       have BK249 := n1_
       have BK250 := n2_
       have BK251 := n3_
       have HB := n4_
       clear n0_ n1_ n2_ n3_ n4_
       (try clear hb)
       (try clear hb2)
       (try clear hk)
       (try clear hi)
       refine hK.out _ _ ⟨(bC BK251.out 0).trans rfl, (bC BK251.out 1).trans rfl, (bC BK248.out 0).trans rfl, (bC BK248.out 1).trans rfl, (bC BK248.out 2).trans rfl, (bC BK248.out 3).trans rfl⟩ (fun hHeld => ?_)
       clear hK K
       refine norm_ (a' := ?_) ?_ ?_
       rotate_left
       ·show Act.put _ (some 30) _ = _
        simp only [Act.put, List.setIfInBounds_toArray, List.set_cons_zero, List.set_cons_succ, i64_w, i32_w]
        rfl
       refine pure_ (i := 5) (N := some 31) (v := ?_) (a' := ?_) (bA 6 63) rfl rfl (by kernel_rfl) (fun _ _ _ h => h) (Or.inl ⟨by rfl, ?_⟩) ?_ ?_
       rotate_left
       ·intro w'
        go_simp
        with_reducible rfl
       rotate_left
       ·simp only [Act.put, List.setIfInBounds_toArray, List.set_cons_zero, List.set_cons_succ, i64_w, i32_w]
        rfl
       refine done_ (by kernel_rfl) ?_
       try go_wp2
       go_roundg kj5
       case measure => have := HK1.out; have := HJ5.out; omega
       case rel => exact ⟨(wrap64 (x4_1 - 1)), (x251000_1), (x251001_1), (by first | rfl | (simp; done) | (simp [*]; done)), H', ⟨by have := HK1.out; have := HJ5.out; omega⟩, ⟨by (with_reducible repeat (first | refine bN ?_ _ | refine bD ?_ | refine bL ?_ _)); exact BK248.out⟩, ⟨by (with_reducible repeat (first | refine bN ?_ _ | refine bD ?_ | refine bL ?_ _)); exact BK249.out⟩, ⟨by (with_reducible repeat (first | refine bN ?_ _ | refine bD ?_ | refine bL ?_ _)); exact BK250.out⟩, ⟨by repeat (first | (with_reducible first | exact HB.out | apply below_alloc | apply pN | apply dI | refine below_set ?_ GE248.out | refine below_set ?_ GE249.out | refine below_set ?_ GE250.out | refine below_set ?_ GE251.out) | exact HB.out)⟩⟩
   ·rw [if_neg c5] at H
    have c5b0 : decide (0 ≤ x4_1) = false := decide_eq_false c5
    clear c5
    simp only [Option.some.injEq, Prod.mk.injEq] at H
    obtain ⟨rfl, rfl⟩ := H
    have hnb43 := NB250_248.out
    have hnc43 := NB248_250.out
    have hnb44 := NB250_249.out
    have hnc44 := NB249_250.out
    have hcz45_0 : wr.cell? ⟨gb250, 0, none⟩ = some (.int .u64 x251000_1) := (bC BK250.out 0).trans rfl
    have hcz45_1 : wr.cell? ⟨gb250, 1, none⟩ = some (.int .u64 x251001_1) := (bC BK250.out 1).trans rfl
    have hfz45_0 := bF BK250.out 0
    have hfz45_1 := bF BK250.out 1
    have hnb46 := NB249_248.out
    have hnc46 := NB248_249.out
    have hcz47_0 : wr.cell? ⟨gb249, 0, none⟩ = some (.int .u64 0) := (bC BK249.out 0).trans rfl
    have hcz47_1 : wr.cell? ⟨gb249, 1, none⟩ = some (.int .u64 0) := (bC BK249.out 1).trans rfl
    have hfz47_0 := bF BK249.out 0
    have hfz47_1 := bF BK249.out 1
    go_wp2
    refine bodyPost_ret (results_cell_row rfl _ _ gb249 24 #[.int .u64 x251000_1, .int .u64 x251001_1] (0, 0) _ rfl (by (with_reducible repeat (first | refine bN ?_ _ | refine bD ?_ | refine bL ?_ _)); refine blk_put (cs := #[.int .u64 x251000_1, .int .u64 0]) ?_ 1 _ rfl; (with_reducible repeat (first | refine bN ?_ _ | refine bD ?_ | refine bL ?_ _)); refine blk_put (cs := #[.int .u64 0, .int .u64 0]) ?_ 0 _ rfl; (with_reducible repeat (first | refine bN ?_ _ | refine bD ?_ | refine bL ?_ _)); exact BK249.out) Try.underlying24 rfl (by kernel_rfl)) rfl ?_
    exact ⟨by first | rfl | (simp [errW_none, errW_some] <;> rfl) | (simp [*, errW_none, errW_some] <;> rfl), by repeat (first | (with_reducible first | exact HB.out | apply below_alloc | apply pN | apply dI | refine below_set ?_ GE248.out | refine below_set ?_ GE249.out | refine below_set ?_ GE250.out) | exact HB.out)⟩

end Go.Proofs.Ytlpdongckcaclaa.S
